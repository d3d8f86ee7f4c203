/-
  Package prime: walks (seat-independent: every seat whose cut holds it).
-/
import Derived.Test.YtogpmiodnmigoaaTy
set_option linter.unusedVariables false
set_option linter.unusedSimpArgs false
namespace Go.Proofs.Ytogpmiodnmigoaa
open Go Go.RowKit

/-- A number of 64 bits as a value. -/
def U (n : Nat) : Value := .int .u64 (n : Int)
theorem u64w {a : Int} {r : Nat} (h : a = (r : Int)) (hr : r < 18446744073709551616) : IntKind.u64.wrap a = (r : Int) := by
  rw [IntKind.wrap_u64, h]; omega
theorem u64m {a : Int} {r : Nat} (h : a = (r : Int)) : IntKind.u64.wrap a = ((r % 18446744073709551616 : Nat) : Int) := by
  rw [IntKind.wrap_u64, h]; omega
theorem bv64 (a : Nat) : BitVec.ofInt IntKind.u64.bits (a : Int) = BitVec.ofNat 64 a := by
  show BitVec.ofInt 64 (a : Int) = _
  simp
theorem b_and {a b r : Nat} (ha : a < 18446744073709551616) (hb : b < 18446744073709551616) (h : a &&& b = r) : bits .and .u64 (a : Int) (b : Int) = (r : Int) := by
  unfold bits
  rw [bv64, bv64]
  subst h
  refine u64w ?_ (Nat.lt_of_le_of_lt Nat.and_le_left ha)
  show (((BitVec.ofNat 64 a) &&& (BitVec.ofNat 64 b)).toNat : Int) = _
  rw [BitVec.toNat_and, BitVec.toNat_ofNat, BitVec.toNat_ofNat, Nat.mod_eq_of_lt ha, Nat.mod_eq_of_lt hb]
theorem b_or {a b r : Nat} (ha : a < 18446744073709551616) (hb : b < 18446744073709551616) (h : a ||| b = r) : bits .or .u64 (a : Int) (b : Int) = (r : Int) := by
  unfold bits
  rw [bv64, bv64]
  subst h
  refine u64w ?_ (Nat.or_lt_two_pow (n := 64) ha hb)
  show (((BitVec.ofNat 64 a) ||| (BitVec.ofNat 64 b)).toNat : Int) = _
  rw [BitVec.toNat_or, BitVec.toNat_ofNat, BitVec.toNat_ofNat, Nat.mod_eq_of_lt ha, Nat.mod_eq_of_lt hb]
theorem shr_nat (a k : Nat) (hk : k ≤ 64) : (a : Int).fdiv (2 ^ min ((k : Int)).toNat IntKind.u64.bits) = ((a / 2 ^ k : Nat) : Int) := by
  have h1 : min ((k : Int)).toNat IntKind.u64.bits = k := by
    show min k 64 = k
    omega
  have h2 : (0 : Int) ≤ 2 ^ k := Int.le_of_lt (Int.pow_pos (by decide))
  rw [h1, Int.fdiv_eq_ediv_of_nonneg _ h2]
  simp
theorem whole_sum {hi lo : Nat} (hh : hi < 288230376151711744) (hl : lo < 18446744073709551616) :
    (lo % 2305843009213693952 + (lo / 2305843009213693952 + hi * 8 % 18446744073709551616) % 2305843009213693952 + hi / 288230376151711744) % 2305843009213693951 = (hi * 18446744073709551616 + lo) % 2305843009213693951 := by
  have h1 : lo % 2305843009213693952 + (lo / 2305843009213693952 + hi * 8 % 18446744073709551616) % 2305843009213693952 + hi / 288230376151711744 = lo % 2305843009213693952 + lo / 2305843009213693952 + hi * 8 := by omega
  have h2 : hi * 18446744073709551616 + lo = (lo % 2305843009213693952 + lo / 2305843009213693952 + hi * 8) + 2305843009213693951 * (hi * 8 + lo / 2305843009213693952) := by omega
  rw [h1, h2, Nat.add_mul_mod_self_left]

theorem p_mod {w : World} {a : Nat} : Calls Try.prog 32 #[.int .u64 ((a : Nat) : Int)] w fun e w' => ∃ v, e = .returned v ∧ (v = .int .u64 ((a % 2305843009213693951 : Nat) : Int) ∧ At w No [] w') := by
  refine body_in (n := 5) (l := [.int .u64 ((a : Nat) : Int)]) en32 rfl Try.ntmps32 rfl ?_
  have hA := At.refl w
  refine W_seq ?_
  refine W_reg ?_ -- 0 prime.go:32
  refine o_assign (v := .int _ _) rfl ?_
  refine O_end ?_
  refine W_seq ?_
  refine W_reg ?_ -- 1 prime.go:32
  refine o_move (v := .int _ _) rfl ?_
  refine o_rem rfl rfl (by decide) (show Int.tmod (a : Int) ((2305843009213693951 : Nat) : Int) = ((a % 2305843009213693951 : Nat) : Int) from rfl) ?_
  refine o_assign (v := .int _ _) rfl ?_
  refine O_end ?_
  refine W_ret ?_
  refine ⟨rfl, ?_⟩
  refine ret1 Try.results32 (v := .int _ _) rfl ?_
  exact ⟨rfl, hA⟩

theorem p_plus {w : World} {a b : Nat} (ha : a < 2305843009213693951) (hb : b < 2305843009213693951) : Calls Try.prog 47 #[.int .u64 ((a : Nat) : Int), .int .u64 ((b : Nat) : Int)] w fun e w' => ∃ v, e = .returned v ∧ (v = .int .u64 (((a + b) % 2305843009213693951 : Nat) : Int) ∧ At w No [] w') := by
  refine body_in (n := 9) (l := [.int .u64 ((a : Nat) : Int), .int .u64 ((b : Nat) : Int)]) en47 rfl Try.ntmps47 rfl ?_
  have hA := At.refl w
  refine W_seq ?_
  refine W_reg ?_ -- 0 prime.go:23
  refine o_assign (v := .int _ _) rfl ?_
  refine O_end ?_
  refine W_seq ?_
  refine W_reg ?_ -- 1 prime.go:23
  refine o_move (v := .int _ _) rfl ?_
  refine o_move (v := .int _ _) rfl ?_
  refine o_add rfl rfl (u64w (r := a + b) (by omega) (by omega)) ?_
  refine o_rem rfl rfl (by decide) (show Int.tmod ((a + b : Nat) : Int) ((2305843009213693951 : Nat) : Int) = (((a + b) % 2305843009213693951 : Nat) : Int) from rfl) ?_
  refine o_assign (v := .int _ _) rfl ?_
  refine O_end ?_
  refine W_ret ?_
  refine ⟨rfl, ?_⟩
  refine ret1 Try.results47 (v := .int _ _) rfl ?_
  exact ⟨rfl, hA⟩

theorem p_minus {w : World} {a b : Nat} (ha : a < 2305843009213693951) (hb : b < 2305843009213693951) : Calls Try.prog 36 #[.int .u64 ((a : Nat) : Int), .int .u64 ((b : Nat) : Int)] w fun e w' => ∃ v, e = .returned v ∧ (v = .int .u64 (((a + 2305843009213693951 - b) % 2305843009213693951 : Nat) : Int) ∧ At w No [] w') := by
  refine body_in (n := 10) (l := [.int .u64 ((a : Nat) : Int), .int .u64 ((b : Nat) : Int)]) en36 rfl Try.ntmps36 rfl ?_
  have hA := At.refl w
  refine W_seq ?_
  refine W_reg ?_ -- 0 prime.go:26
  refine o_assign (v := .int _ _) rfl ?_
  refine O_end ?_
  refine W_seq ?_
  refine W_reg ?_ -- 1 prime.go:26
  refine o_move (v := .int _ _) rfl ?_
  refine o_add rfl rfl (u64w (r := a + 2305843009213693951) (by omega) (by omega)) ?_
  refine o_move (v := .int _ _) rfl ?_
  refine o_sub rfl rfl (u64w (r := a + 2305843009213693951 - b) (by omega) (by omega)) ?_
  refine o_rem rfl rfl (by decide) (show Int.tmod ((a + 2305843009213693951 - b : Nat) : Int) ((2305843009213693951 : Nat) : Int) = (((a + 2305843009213693951 - b) % 2305843009213693951 : Nat) : Int) from rfl) ?_
  refine o_assign (v := .int _ _) rfl ?_
  refine O_end ?_
  refine W_ret ?_
  refine ⟨rfl, ?_⟩
  refine ret1 Try.results36 (v := .int _ _) rfl ?_
  exact ⟨rfl, hA⟩

theorem mul32 {x y : Nat} (hx : x < 4294967296) (hy : y < 4294967296) : x * y < 18446744073709551616 :=
  Nat.lt_of_le_of_lt (Nat.mul_le_mul (Nat.le_of_lt_succ hx) (Nat.le_of_lt_succ hy)) (by decide)
theorem mul32' {x y : Nat} (hx : x < 4294967296) (hy : y < 4294967296) : x * y ≤ 18446744065119617025 :=
  Nat.mul_le_mul (Nat.le_of_lt_succ hx) (Nat.le_of_lt_succ hy)
theorem mul_parts (a b : Nat) : a * b = (a / 4294967296) * (b / 4294967296) * 18446744073709551616 + ((a / 4294967296) * (b % 4294967296) + (a % 4294967296) * (b / 4294967296)) * 4294967296 + (a % 4294967296) * (b % 4294967296) := by
  have ha : a = 4294967296 * (a / 4294967296) + a % 4294967296 := (Nat.div_add_mod a _).symm
  have hb : b = 4294967296 * (b / 4294967296) + b % 4294967296 := (Nat.div_add_mod b _).symm
  generalize a / 4294967296 = x1 at *
  generalize a % 4294967296 = x0 at *
  generalize b / 4294967296 = y1 at *
  generalize b % 4294967296 = y0 at *
  subst ha; subst hb
  simp only [Nat.mul_add, Nat.add_mul]
  have e1 : 4294967296 * x1 * (4294967296 * y1) = x1 * y1 * 18446744073709551616 := by
    rw [Nat.mul_mul_mul_comm]; omega
  have e2 : x0 * (4294967296 * y1) = x0 * y1 * 4294967296 := by rw [Nat.mul_left_comm]; omega
  have e3 : 4294967296 * x1 * y0 = x1 * y0 * 4294967296 := by rw [Nat.mul_assoc]; omega
  omega

theorem p_mul64 {w : World} {a b : Nat} (ha : a < 18446744073709551616) (hb : b < 18446744073709551616) : Calls Try.prog 49 #[.int .u64 ((a : Nat) : Int), .int .u64 ((b : Nat) : Int)] w fun e w' => ∃ v, e = .returned v ∧ (v = .tuple #[.int .u64 ((a * b / 18446744073709551616 : Nat) : Int), .int .u64 ((a * b % 18446744073709551616 : Nat) : Int)] ∧ At w No [] w') := by
  refine body_in (n := 51) (l := [.int .u64 ((a : Nat) : Int), .int .u64 ((b : Nat) : Int)]) en49 rfl Try.ntmps49 rfl ?_
  have hA := At.refl w
  have m1 := mul32' (x := (a / 4294967296)) (y := (b % 4294967296)) (by omega) (by omega)
  have m2 := mul32' (x := (a % 4294967296)) (y := (b / 4294967296)) (by omega) (by omega)
  have m3 := mul32' (x := (a / 4294967296)) (y := (b / 4294967296)) (by omega) (by omega)
  have m4 := mul32' (x := (a % 4294967296)) (y := (b % 4294967296)) (by omega) (by omega)
  refine W_seq ?_
  refine W_reg ?_ -- 0 bits.go:470
  refine o_assign (v := .int _ _) rfl ?_
  refine o_assign (v := .int _ _) rfl ?_
  refine O_end ?_
  refine W_seq ?_
  refine W_reg ?_ -- 1 bits.go:472
  refine o_move (v := .int _ _) rfl ?_
  refine o_bits (by simp) rfl rfl (b_and (a := a) (b := 4294967295) (by omega) (by decide) (r := (a % 4294967296)) (Nat.and_two_pow_sub_one_eq_mod _ 32)) ?_
  refine o_assign (v := .int _ _) rfl ?_
  refine O_end ?_
  refine W_seq ?_
  refine W_reg ?_ -- 2 bits.go:473
  refine o_move (v := .int _ _) rfl ?_
  refine o_shr rfl rfl (by omega) (shr_nat (a) 32 (by decide)) ?_
  refine o_assign (v := .int _ _) rfl ?_
  refine O_end ?_
  refine W_seq ?_
  refine W_reg ?_ -- 3 bits.go:474
  refine o_move (v := .int _ _) rfl ?_
  refine o_bits (by simp) rfl rfl (b_and (a := b) (b := 4294967295) (by omega) (by decide) (r := (b % 4294967296)) (Nat.and_two_pow_sub_one_eq_mod _ 32)) ?_
  refine o_assign (v := .int _ _) rfl ?_
  refine O_end ?_
  refine W_seq ?_
  refine W_reg ?_ -- 4 bits.go:475
  refine o_move (v := .int _ _) rfl ?_
  refine o_shr rfl rfl (by omega) (shr_nat (b) 32 (by decide)) ?_
  refine o_assign (v := .int _ _) rfl ?_
  refine O_end ?_
  refine W_seq ?_
  refine W_reg ?_ -- 5 bits.go:476
  refine o_move (v := .int _ _) rfl ?_
  refine o_move (v := .int _ _) rfl ?_
  refine o_mul rfl rfl (u64w (r := (a % 4294967296) * (b % 4294967296)) (Int.natCast_mul _ _).symm (mul32 (by omega) (by omega))) ?_
  refine o_assign (v := .int _ _) rfl ?_
  refine O_end ?_
  refine W_seq ?_
  refine W_reg ?_ -- 6 bits.go:477
  refine o_move (v := .int _ _) rfl ?_
  refine o_move (v := .int _ _) rfl ?_
  refine o_mul rfl rfl (u64w (r := (a / 4294967296) * (b % 4294967296)) (Int.natCast_mul _ _).symm (mul32 (by omega) (by omega))) ?_
  refine o_move (v := .int _ _) rfl ?_
  refine o_shr rfl rfl (by omega) (shr_nat (((a % 4294967296) * (b % 4294967296))) 32 (by decide)) ?_
  refine o_add rfl rfl (u64w (r := (a / 4294967296) * (b % 4294967296) + ((a % 4294967296) * (b % 4294967296)) / 4294967296) (Int.natCast_add _ _).symm (by omega)) ?_
  refine o_assign (v := .int _ _) rfl ?_
  refine O_end ?_
  refine W_seq ?_
  refine W_reg ?_ -- 7 bits.go:478
  refine o_move (v := .int _ _) rfl ?_
  refine o_bits (by simp) rfl rfl (b_and (a := ((a / 4294967296) * (b % 4294967296) + ((a % 4294967296) * (b % 4294967296)) / 4294967296)) (b := 4294967295) (by omega) (by decide) (r := ((a / 4294967296) * (b % 4294967296) + ((a % 4294967296) * (b % 4294967296)) / 4294967296) % 4294967296) (Nat.and_two_pow_sub_one_eq_mod _ 32)) ?_
  refine o_assign (v := .int _ _) rfl ?_
  refine O_end ?_
  refine W_seq ?_
  refine W_reg ?_ -- 8 bits.go:479
  refine o_move (v := .int _ _) rfl ?_
  refine o_shr rfl rfl (by omega) (shr_nat (((a / 4294967296) * (b % 4294967296) + ((a % 4294967296) * (b % 4294967296)) / 4294967296)) 32 (by decide)) ?_
  refine o_assign (v := .int _ _) rfl ?_
  refine O_end ?_
  refine W_seq ?_
  refine W_reg ?_ -- 9 bits.go:480
  refine o_move (v := .int _ _) rfl ?_
  refine o_move (v := .int _ _) rfl ?_
  refine o_move (v := .int _ _) rfl ?_
  refine o_mul rfl rfl (u64w (r := (a % 4294967296) * (b / 4294967296)) (Int.natCast_mul _ _).symm (mul32 (by omega) (by omega))) ?_
  refine o_add rfl rfl (u64w (r := ((a / 4294967296) * (b % 4294967296) + ((a % 4294967296) * (b % 4294967296)) / 4294967296) % 4294967296 + (a % 4294967296) * (b / 4294967296)) (Int.natCast_add _ _).symm (by omega)) ?_
  refine o_assign (v := .int _ _) rfl ?_
  refine O_end ?_
  refine W_seq ?_
  refine W_reg ?_ -- 10 bits.go:481
  refine o_move (v := .int _ _) rfl ?_
  refine o_move (v := .int _ _) rfl ?_
  refine o_mul rfl rfl (u64w (r := (a / 4294967296) * (b / 4294967296)) (Int.natCast_mul _ _).symm (mul32 (by omega) (by omega))) ?_
  refine o_move (v := .int _ _) rfl ?_
  refine o_add rfl rfl (u64w (r := (a / 4294967296) * (b / 4294967296) + ((a / 4294967296) * (b % 4294967296) + ((a % 4294967296) * (b % 4294967296)) / 4294967296) / 4294967296) (Int.natCast_add _ _).symm (by omega)) ?_
  refine o_move (v := .int _ _) rfl ?_
  refine o_shr rfl rfl (by omega) (shr_nat ((((a / 4294967296) * (b % 4294967296) + ((a % 4294967296) * (b % 4294967296)) / 4294967296) % 4294967296 + (a % 4294967296) * (b / 4294967296))) 32 (by decide)) ?_
  refine o_add rfl rfl (u64w (r := ((a / 4294967296) * (b / 4294967296) + ((a / 4294967296) * (b % 4294967296) + ((a % 4294967296) * (b % 4294967296)) / 4294967296) / 4294967296) + (((a / 4294967296) * (b % 4294967296) + ((a % 4294967296) * (b % 4294967296)) / 4294967296) % 4294967296 + (a % 4294967296) * (b / 4294967296)) / 4294967296) (Int.natCast_add _ _).symm (by omega)) ?_
  refine o_assign (v := .int _ _) rfl ?_
  refine O_end ?_
  refine W_seq ?_
  refine W_reg ?_ -- 11 bits.go:482
  refine o_move (v := .int _ _) rfl ?_
  refine o_move (v := .int _ _) rfl ?_
  refine o_mul rfl rfl (u64m (r := a * b) (Int.natCast_mul _ _).symm) ?_
  refine o_assign (v := .int _ _) rfl ?_
  refine O_end ?_
  refine W_ret ?_
  refine ⟨rfl, ?_⟩
  refine ret2 Try.results49 (v := .int _ _) rfl (u := .int _ _) rfl ?_
  refine ⟨?_, hA⟩
  have e := mul_parts a b
  congr 5
  omega

theorem or_sum {x h : Nat} (hx : x < 8) : x ||| (h * 8 % 18446744073709551616) = x + h * 8 % 18446744073709551616 := by
  have e : h * 8 % 18446744073709551616 = 2 ^ 3 * (h % 2305843009213693952) := by omega
  rw [e, Nat.or_comm, ← Nat.two_pow_add_eq_or_of_lt (show x < 2 ^ 3 from hx)]
  omega
theorem times_bound {a b : Nat} (ha : a < 2305843009213693951) (hb : b < 2305843009213693951) : a * b / 18446744073709551616 < 288230376151711744 := by
  have h := Nat.mul_le_mul (Nat.le_of_lt_succ (Nat.lt_succ_of_lt ha)) (Nat.le_of_lt_succ (Nat.lt_succ_of_lt hb))
  omega
theorem pow_even {o s n : Nat} (h : n % 2 = 0) : o * (s * s % 2305843009213693951) ^ (n / 2) % 2305843009213693951 = o * s ^ n % 2305843009213693951 := by
  rw [Nat.mul_mod, ← Nat.pow_mod, ← Nat.mul_mod, ← Nat.pow_two, ← Nat.pow_mul, show 2 * (n / 2) = n from by omega]
theorem pow_odd {o s n : Nat} (h : n % 2 = 1) : (o * s % 2305843009213693951) * (s * s % 2305843009213693951) ^ (n / 2) % 2305843009213693951 = o * s ^ n % 2305843009213693951 := by
  rw [Nat.mul_mod, ← Nat.pow_mod, Nat.mod_mod, ← Nat.mul_mod, ← Nat.pow_two, ← Nat.pow_mul, Nat.mul_assoc, ← Nat.pow_succ', show (2 * (n / 2)).succ = n from by omega]

theorem p_whole {w : World} {hi lo : Nat} (hh : hi < 288230376151711744) (hl : lo < 18446744073709551616) : Calls Try.prog 48 #[.int .u64 ((hi : Nat) : Int), .int .u64 ((lo : Nat) : Int)] w fun e w' => ∃ v, e = .returned v ∧ (v = .int .u64 (((hi * 18446744073709551616 + lo) % 2305843009213693951 : Nat) : Int) ∧ At w No [] w') := by
  refine body_in (n := 24) (l := [.int .u64 ((hi : Nat) : Int), .int .u64 ((lo : Nat) : Int)]) en48 rfl Try.ntmps48 rfl ?_
  have hA := At.refl w
  refine W_seq ?_
  refine W_reg ?_ -- 0 prime.go:14
  refine o_assign (v := .int _ _) rfl ?_
  refine O_end ?_
  refine W_seq ?_
  refine W_reg ?_ -- 1 prime.go:16
  refine o_move (v := .int _ _) rfl ?_
  refine o_bits (by simp) rfl rfl (b_and (a := lo) (b := 2305843009213693951) (by omega) (by decide) (r := lo % 2305843009213693952) (Nat.and_two_pow_sub_one_eq_mod _ 61)) ?_
  refine o_assign (v := .int _ _) rfl ?_
  refine O_end ?_
  refine W_seq ?_
  refine W_reg ?_ -- 2 prime.go:17
  refine o_move (v := .int _ _) rfl ?_
  refine o_shr rfl rfl (by omega) (shr_nat lo 61 (by decide)) ?_
  refine o_move (v := .int _ _) rfl ?_
  refine o_shl rfl rfl (by omega) (show IntKind.u64.wrap ((hi : Int) * 2 ^ 3) = ((hi * 8 % 18446744073709551616 : Nat) : Int) from u64m (by omega)) ?_
  refine o_bits (by simp) rfl rfl (b_or (a := lo / 2305843009213693952) (b := hi * 8 % 18446744073709551616) (by omega) (by omega) (or_sum (by omega))) ?_
  refine o_bits (by simp) rfl rfl (b_and (a := lo / 2305843009213693952 + hi * 8 % 18446744073709551616) (b := 2305843009213693951) (by omega) (by decide) (r := (lo / 2305843009213693952 + hi * 8 % 18446744073709551616) % 2305843009213693952) (Nat.and_two_pow_sub_one_eq_mod _ 61)) ?_
  refine o_assign (v := .int _ _) rfl ?_
  refine O_end ?_
  refine W_seq ?_
  refine W_reg ?_ -- 3 prime.go:18
  refine o_move (v := .int _ _) rfl ?_
  refine o_shr rfl rfl (by omega) (shr_nat hi 58 (by decide)) ?_
  refine o_assign (v := .int _ _) rfl ?_
  refine O_end ?_
  refine W_seq ?_
  refine W_reg ?_ -- 4 prime.go:19
  refine o_move (v := .int _ _) rfl ?_
  refine o_move (v := .int _ _) rfl ?_
  refine o_add rfl rfl (u64w (r := lo % 2305843009213693952 + (lo / 2305843009213693952 + hi * 8 % 18446744073709551616) % 2305843009213693952) (Int.natCast_add _ _).symm (by omega)) ?_
  refine o_move (v := .int _ _) rfl ?_
  refine o_add rfl rfl (u64w (r := lo % 2305843009213693952 + (lo / 2305843009213693952 + hi * 8 % 18446744073709551616) % 2305843009213693952 + hi / 288230376151711744) (Int.natCast_add _ _).symm (by omega)) ?_
  refine o_rem rfl rfl (by decide) (show Int.tmod ((lo % 2305843009213693952 + (lo / 2305843009213693952 + hi * 8 % 18446744073709551616) % 2305843009213693952 + hi / 288230376151711744 : Nat) : Int) ((2305843009213693951 : Nat) : Int) = (((lo % 2305843009213693952 + (lo / 2305843009213693952 + hi * 8 % 18446744073709551616) % 2305843009213693952 + hi / 288230376151711744) % 2305843009213693951 : Nat) : Int) from rfl) ?_
  refine o_assign (v := .int _ _) rfl ?_
  refine O_end ?_
  refine W_ret ?_
  refine ⟨rfl, ?_⟩
  refine ret1 Try.results48 (v := .int _ _) rfl ?_
  exact ⟨by rw [whole_sum hh hl], hA⟩

theorem p_times {w : World} {a b : Nat} (ha : a < 2305843009213693951) (hb : b < 2305843009213693951) : Calls Try.prog 35 #[.int .u64 ((a : Nat) : Int), .int .u64 ((b : Nat) : Int)] w fun e w' => ∃ v, e = .returned v ∧ (v = .int .u64 ((a * b % 2305843009213693951 : Nat) : Int) ∧ At w No [] w') := by
  refine body_in (n := 11) (l := [.int .u64 ((a : Nat) : Int), .int .u64 ((b : Nat) : Int)]) en35 rfl Try.ntmps35 rfl ?_
  have hA := At.refl w
  refine W_seq ?_
  refine W_reg ?_ -- 0 prime.go:29
  refine o_assign (v := .int _ _) rfl ?_
  refine O_end ?_
  refine W_seq ?_
  refine W_reg ?_ -- 1 prime.go:29
  refine o_move (v := .int _ _) rfl ?_
  refine o_move (v := .int _ _) rfl ?_
  refine O_calls en49 rfl (p_mul64 (by omega) (by omega)) (fun v1 w1 hC => ?_)
  obtain ⟨rfl, hC⟩ := hC
  have hA := (hA.after hC).clear
  refine o_extract rfl rfl ?_
  refine o_extract rfl rfl ?_
  refine O_calls en48 rfl (p_whole (times_bound ha hb) (Nat.mod_lt _ (by decide))) (fun v2 w2 hC => ?_)
  obtain ⟨rfl, hC⟩ := hC
  have hA := (hA.after hC).clear
  refine o_assign (v := .int _ _) rfl ?_
  refine O_end ?_
  refine W_ret ?_
  refine ⟨rfl, ?_⟩
  refine ret1 Try.results35 (v := .int _ _) rfl ?_
  exact ⟨by rw [Nat.mul_comm (a * b / 18446744073709551616), Nat.div_add_mod], hA⟩

theorem p_do {w : World} {g : Nat} {fn : Func} {a b r : Nat} (hf : Ent Try.prog g fn) (h : ∀ w : World, Calls Try.prog g #[.int .u64 ((a % 2305843009213693951 : Nat) : Int), .int .u64 ((b % 2305843009213693951 : Nat) : Int)] w fun e w' => ∃ v, e = .returned v ∧ (v = .int .u64 ((r : Nat) : Int) ∧ At w No [] w')) :
    Calls Try.prog 34 #[.func (.func g) #[] #[], .int .u64 ((a : Nat) : Int), .int .u64 ((b : Nat) : Int)] w fun e w' => ∃ v, e = .returned v ∧ (v = .int .u64 ((r : Nat) : Int) ∧ At w No [] w') := by
  refine body_in (n := 13) (l := [.func (.func g) #[] #[], .int .u64 ((a : Nat) : Int), .int .u64 ((b : Nat) : Int)]) en34 rfl Try.ntmps34 rfl ?_
  have hA := At.refl w
  refine W_seq ?_
  refine W_reg ?_ -- 0 prime.go:35
  refine o_assign (v := .int _ _) rfl ?_
  refine O_end ?_
  refine W_seq ?_
  refine W_reg ?_ -- 1 prime.go:36
  refine o_move (by conv => lhs; whnf) ?_
  refine o_move (v := .int _ _) rfl ?_
  refine O_calls en32 rfl p_mod (fun v1 w1 hC => ?_)
  obtain ⟨rfl, hC⟩ := hC
  have hA := (hA.after hC).clear
  refine o_move (v := .int _ _) rfl ?_
  refine O_calls en32 rfl p_mod (fun v2 w2 hC => ?_)
  obtain ⟨rfl, hC⟩ := hC
  have hA := (hA.after hC).clear
  refine O_callv (fi := []) (ca := []) hf rfl rfl (h _) (fun v3 w3 hC => ?_)
  obtain ⟨rfl, hC⟩ := hC
  have hA := (hA.after hC).clear
  refine o_assign (v := .int _ _) rfl ?_
  refine O_end ?_
  refine W_ret ?_
  refine ⟨rfl, ?_⟩
  refine ret1 Try.results34 (v := .int _ _) rfl ?_
  exact ⟨rfl, hA⟩

theorem p_Add {w : World} {a b : Nat} : Calls Try.prog 31 #[.int .u64 ((a : Nat) : Int), .int .u64 ((b : Nat) : Int)] w fun e w' => ∃ v, e = .returned v ∧ (v = .int .u64 (((a % 2305843009213693951 + b % 2305843009213693951) % 2305843009213693951 : Nat) : Int) ∧ At w No [] w') := by
  refine body_in (n := 8) (l := [.int .u64 ((a : Nat) : Int), .int .u64 ((b : Nat) : Int)]) en31 rfl Try.ntmps31 rfl ?_
  have hA := At.refl w
  refine W_seq ?_
  refine W_reg ?_ -- 0 prime.go:40
  refine o_assign (v := .int _ _) rfl ?_
  refine O_end ?_
  refine W_seq ?_
  refine W_reg ?_ -- 1 prime.go:40
  refine o_move (v := .int _ _) rfl ?_
  refine o_move (v := .int _ _) rfl ?_
  refine O_calls en34 rfl (p_do en47 (fun w => p_plus (Nat.mod_lt _ (by decide)) (Nat.mod_lt _ (by decide)))) (fun v1 w1 hC => ?_)
  obtain ⟨rfl, hC⟩ := hC
  have hA := (hA.after hC).clear
  refine o_assign (v := .int _ _) rfl ?_
  refine O_end ?_
  refine W_ret ?_
  refine ⟨rfl, ?_⟩
  refine ret1 Try.results31 (v := .int _ _) rfl ?_
  exact ⟨rfl, hA⟩

theorem p_Sub {w : World} {a b : Nat} : Calls Try.prog 19 #[.int .u64 ((a : Nat) : Int), .int .u64 ((b : Nat) : Int)] w fun e w' => ∃ v, e = .returned v ∧ (v = .int .u64 (((a % 2305843009213693951 + 2305843009213693951 - b % 2305843009213693951) % 2305843009213693951 : Nat) : Int) ∧ At w No [] w') := by
  refine body_in (n := 8) (l := [.int .u64 ((a : Nat) : Int), .int .u64 ((b : Nat) : Int)]) en19 rfl Try.ntmps19 rfl ?_
  have hA := At.refl w
  refine W_seq ?_
  refine W_reg ?_ -- 0 prime.go:43
  refine o_assign (v := .int _ _) rfl ?_
  refine O_end ?_
  refine W_seq ?_
  refine W_reg ?_ -- 1 prime.go:43
  refine o_move (v := .int _ _) rfl ?_
  refine o_move (v := .int _ _) rfl ?_
  refine O_calls en34 rfl (p_do en36 (fun w => p_minus (Nat.mod_lt _ (by decide)) (Nat.mod_lt _ (by decide)))) (fun v1 w1 hC => ?_)
  obtain ⟨rfl, hC⟩ := hC
  have hA := (hA.after hC).clear
  refine o_assign (v := .int _ _) rfl ?_
  refine O_end ?_
  refine W_ret ?_
  refine ⟨rfl, ?_⟩
  refine ret1 Try.results19 (v := .int _ _) rfl ?_
  exact ⟨rfl, hA⟩

theorem p_Mul {w : World} {a b : Nat} : Calls Try.prog 18 #[.int .u64 ((a : Nat) : Int), .int .u64 ((b : Nat) : Int)] w fun e w' => ∃ v, e = .returned v ∧ (v = .int .u64 (((a % 2305843009213693951) * (b % 2305843009213693951) % 2305843009213693951 : Nat) : Int) ∧ At w No [] w') := by
  refine body_in (n := 8) (l := [.int .u64 ((a : Nat) : Int), .int .u64 ((b : Nat) : Int)]) en18 rfl Try.ntmps18 rfl ?_
  have hA := At.refl w
  refine W_seq ?_
  refine W_reg ?_ -- 0 prime.go:46
  refine o_assign (v := .int _ _) rfl ?_
  refine O_end ?_
  refine W_seq ?_
  refine W_reg ?_ -- 1 prime.go:46
  refine o_move (v := .int _ _) rfl ?_
  refine o_move (v := .int _ _) rfl ?_
  refine O_calls en34 rfl (p_do en35 (fun w => p_times (Nat.mod_lt _ (by decide)) (Nat.mod_lt _ (by decide)))) (fun v1 w1 hC => ?_)
  obtain ⟨rfl, hC⟩ := hC
  have hA := (hA.after hC).clear
  refine o_assign (v := .int _ _) rfl ?_
  refine O_end ?_
  refine W_ret ?_
  refine ⟨rfl, ?_⟩
  refine ret1 Try.results18 (v := .int _ _) rfl ?_
  exact ⟨rfl, hA⟩

theorem p_Pow {w : World} {a n : Nat} (hn : n < 18446744073709551616) : Calls Try.prog 33 #[.int .u64 ((a : Nat) : Int), .int .u64 ((n : Nat) : Int)] w fun e w' => ∃ v, e = .returned v ∧ (v = .int .u64 ((a ^ n % 2305843009213693951 : Nat) : Int) ∧ At w No [] w') := by
  refine body_in (n := 23) (l := [.int .u64 ((a : Nat) : Int), .int .u64 ((n : Nat) : Int)]) en33 rfl Try.ntmps33 rfl ?_
  have hA := At.refl w
  refine W_seq ?_
  refine W_reg ?_ -- 0 prime.go:49
  refine o_assign (v := .int _ _) rfl ?_
  refine O_end ?_
  refine W_seq ?_
  refine W_reg ?_ -- 1 prime.go:50
  refine o_move (v := .int _ _) rfl ?_
  refine O_calls en32 rfl p_mod (fun v1 w1 hC => ?_)
  obtain ⟨rfl, hC⟩ := hC
  have hA := (hA.after hC).clear
  refine o_assign (v := .int _ _) rfl ?_
  refine o_assign (v := .int _ _) rfl ?_
  refine O_end ?_
  refine W_seq ?_
  refine W_block ?_ -- 0
  refine W_loop (fun kk ρ w' => ∃ (m o s : Nat), kk = m ∧ ρ 1 = .int .u64 ((m : Nat) : Int) ∧ ρ 5 = .int .u64 ((o : Nat) : Int) ∧ ρ 6 = .int .u64 ((s : Nat) : Int) ∧ m < 18446744073709551616 ∧ o < 2305843009213693951 ∧ s < 2305843009213693951 ∧ o * s ^ m % 2305843009213693951 = a ^ n % 2305843009213693951 ∧ At w No [] w') n
    ⟨n, 1, a % 2305843009213693951, rfl, rfl, rfl, rfl, hn, by decide, Nat.mod_lt _ (by decide), by rw [Nat.one_mul, ← Nat.pow_mod], hA⟩ ?_
  clear hA
  rintro kk ρ w1 ⟨m, o, s, rfl, h1, h5, h6, hm, ho, hs, heq, hA⟩
  refine W_known (t := 1) h1 ?_
  refine W_known (t := 5) h5 ?_
  refine W_known (t := 6) h6 ?_
  refine W_seq ?_
  refine W_seq ?_
  refine W_reg ?_ -- 2 prime.go:51
  refine o_move (v := .int _ _) rfl ?_
  refine o_cmp2 rfl rfl rfl (fun h => ?_) (fun h => ?_)
  · -- True
    have hp := h
    refine O_end ?_
    refine W_then rfl ?_
    refine W_skip ?_
    refine W_seq ?_
    refine W_block ?_ -- 1
    refine W_seq ?_
    refine W_seq ?_
    refine W_reg ?_ -- 4 prime.go:52
    refine o_move (v := .int _ _) rfl ?_
    refine o_bits (by simp) rfl rfl (b_and (a := kk) (b := 1) (by omega) (by decide) (Nat.and_one_is_mod kk)) ?_
    refine o_cmp2 rfl rfl rfl (fun h => ?_) (fun h => ?_)
    · -- True
      refine O_end ?_
      refine W_then rfl ?_
      refine W_reg ?_ -- 5 prime.go:53
      refine o_move (v := .int _ _) rfl ?_
      refine o_move (v := .int _ _) rfl ?_
      refine O_calls en35 rfl (p_times ho hs) (fun v2 w2 hC => ?_)
      obtain ⟨rfl, hC⟩ := hC
      have hA := (hA.after hC).clear
      refine o_assign (v := .int _ _) rfl ?_
      refine O_end ?_
      refine W_reg ?_ -- 6 prime.go:55
      refine o_move (v := .int _ _) rfl ?_
      refine o_move (v := .int _ _) rfl ?_
      refine O_calls en35 rfl (p_times hs hs) (fun v3 w3 hC => ?_)
      obtain ⟨rfl, hC⟩ := hC
      have hA := (hA.after hC).clear
      refine o_assign (v := .int _ _) rfl ?_
      refine O_end ?_
      refine W_reg ?_ -- 3 prime.go:51
      refine o_move (v := .int _ _) rfl ?_
      refine o_shr rfl rfl (by omega) (shr_nat kk 1 (by decide)) ?_
      refine o_assign (v := .int _ _) rfl ?_
      refine O_end ?_
      exact ⟨kk / 2, Nat.div_lt_self (by simp at hp; omega) (by decide), kk / 2, _, _, rfl, rfl, rfl, rfl, by omega, Nat.mod_lt _ (by decide), Nat.mod_lt _ (by decide), by rw [pow_odd (by simp at h; omega)]; exact heq, hA⟩
    · -- False
      refine O_end ?_
      refine W_else rfl ?_
      refine W_skip ?_
      refine W_reg ?_ -- 6 prime.go:55
      refine o_move (v := .int _ _) rfl ?_
      refine o_move (v := .int _ _) rfl ?_
      refine O_calls en35 rfl (p_times hs hs) (fun v4 w4 hC => ?_)
      obtain ⟨rfl, hC⟩ := hC
      have hA := (hA.after hC).clear
      refine o_assign (v := .int _ _) rfl ?_
      refine O_end ?_
      refine W_reg ?_ -- 3 prime.go:51
      refine o_move (v := .int _ _) rfl ?_
      refine o_shr rfl rfl (by omega) (shr_nat kk 1 (by decide)) ?_
      refine o_assign (v := .int _ _) rfl ?_
      refine O_end ?_
      exact ⟨kk / 2, Nat.div_lt_self (by simp at hp; omega) (by decide), kk / 2, _, _, rfl, rfl, rfl, rfl, by omega, ho, Nat.mod_lt _ (by decide), by rw [pow_even (by simp at h; omega)]; exact heq, hA⟩
  · -- False
    refine O_end ?_
    refine W_else rfl ?_
    refine W_exit ?_
    refine xb_hit ?_
    refine W_seq ?_
    refine W_reg ?_ -- 7 prime.go:57
    refine o_move (v := .int _ _) rfl ?_
    refine o_assign (v := .int _ _) rfl ?_
    refine O_end ?_
    refine W_ret ?_
    refine ⟨rfl, ?_⟩
    refine ret1 Try.results33 (v := .int _ _) rfl ?_
    have h0 : kk = 0 := by simp at h; omega
    subst h0
    rw [Nat.pow_zero, Nat.mul_one, Nat.mod_eq_of_lt ho] at heq
    exact ⟨by rw [heq], hA⟩

theorem p_Inv {w : World} {a : Nat} : Calls Try.prog 17 #[.int .u64 ((a : Nat) : Int)] w fun e w' => ∃ v, e = .returned v ∧ (v = (if a % 2305843009213693951 = 0 then Value.tuple #[.int .u64 0, .int .i64 1] else Value.tuple #[.int .u64 ((a ^ 2305843009213693949 % 2305843009213693951 : Nat) : Int), .int .i64 0]) ∧ At w No [] w') := by
  refine body_in (n := 9) (l := [.int .u64 ((a : Nat) : Int)]) en17 rfl Try.ntmps17 rfl ?_
  have hA := At.refl w
  refine W_seq ?_
  refine W_reg ?_ -- 0 prime.go:61
  refine o_assign (v := .int _ _) rfl ?_
  refine o_assign (v := .int _ _) rfl ?_
  refine O_end ?_
  refine W_seq ?_
  refine W_seq ?_
  refine W_reg ?_ -- 1 prime.go:62
  refine o_move (v := .int _ _) rfl ?_
  refine O_calls en32 rfl p_mod (fun v1 w1 hC => ?_)
  obtain ⟨rfl, hC⟩ := hC
  have hA := (hA.after hC).clear
  refine o_cmp2 rfl rfl rfl (fun h => ?_) (fun h => ?_)
  · -- True
    refine O_end ?_
    refine W_then rfl ?_
    refine W_seq ?_
    refine W_reg ?_ -- 2 prime.go:63
    refine o_assign (v := .int _ _) rfl ?_
    refine o_assign (v := .int _ _) rfl ?_
    refine O_end ?_
    refine W_ret ?_
    refine ⟨rfl, ?_⟩
    refine ret2 Try.results17 (v := .int _ _) rfl (u := .int _ _) rfl ?_
    exact ⟨by rw [if_pos (by simp at h; omega)], hA⟩
  · -- False
    refine O_end ?_
    refine W_else rfl ?_
    refine W_skip ?_
    refine W_seq ?_
    refine W_reg ?_ -- 3 prime.go:65
    refine o_move (v := .int _ _) rfl ?_
    refine O_calls en33 rfl (p_Pow (n := 2305843009213693949) (by decide)) (fun v2 w2 hC => ?_)
    obtain ⟨rfl, hC⟩ := hC
    have hA := (hA.after hC).clear
    refine o_assign (v := .int _ _) rfl ?_
    refine o_assign (v := .int _ _) rfl ?_
    refine O_end ?_
    refine W_ret ?_
    refine ⟨rfl, ?_⟩
    refine ret2 Try.results17 (v := .int _ _) rfl (u := .int _ _) rfl ?_
    exact ⟨by rw [if_neg (by simp at h; omega)], hA⟩

end Go.Proofs.Ytogpmiodnmigoaa
