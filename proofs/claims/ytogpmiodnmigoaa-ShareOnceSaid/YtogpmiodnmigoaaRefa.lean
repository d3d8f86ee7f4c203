/-
  Package offertoryref01: walks.
-/
import Derived.Test.YtogpmiodnmigoaaPrime
set_option linter.unusedVariables false
set_option linter.unusedSimpArgs false
namespace Go.Proofs.Ytogpmiodnmigoaa
open Go Go.RowKit

def u64s (l : List Nat) : List Value := l.map fun (n : Nat) => Value.int .u64 (n : Int)
theorem u64s_len (l : List Nat) : (u64s l).length = l.length := by simp [u64s]
theorem u64s_get {l : List Nat} {j n : Nat} (h : l[j]? = some n) : (u64s l)[j]? = some (.int .u64 (n : Int)) := by simp [u64s, h]
theorem u64s_one (l : List Nat) : ∀ u ∈ u64s l, u.oneCell' = true := fun u hu => by
  simp only [u64s, List.mem_map] at hu; obtain ⟨q, _, rfl⟩ := hu; rfl
theorem u64_len {w : World} {A : Option Addr} {m c : Nat} {l : List Nat} (h : Rd w 1 (.slice A m c) (u64s l)) : m = l.length := by
  obtain ⟨_, _, _, he, h, _⟩ := h
  injection he with _ h1 h2
  rw [u64s_len] at h
  omega
theorem Rd.some {w : World} {s m c : Nat} {A : Option Addr} {xs : List Value} (h : Rd w s (.slice A m c) xs) (hne : 0 < xs.length) : ∃ g o, A = some ⟨g, o, none⟩ := by
  obtain ⟨_, _, _, he, _, _, _, h | ⟨b, o, h, _⟩⟩ := h
  · subst h; cases hne
  · injection he with h1 h2
    exact ⟨b, o, h1.trans h⟩
theorem bit_one {n : Nat} (h : ((n : Int) == 1) = true) : n = 1 := by have := beq_iff_eq.1 h; omega
theorem bit_zero {n : Nat} (h : (((n % 2 : Nat) : Int) == 1) = false) : n % 2 = 0 := by have := beq_eq_false_iff_ne.1 h; omega
theorem half_pow (b k : Nat) : b / 2 ^ k = 2 * (b / 2 ^ (k + 1)) + b / 2 ^ k % 2 := by
  have : b / 2 ^ (k + 1) = b / 2 ^ k / 2 := by rw [Nat.div_div_eq_div_mul, Nat.pow_succ]
  rw [this]; omega
theorem mul_twice {a b k o : Nat} (ho : o = a * (b / 2 ^ (k + 1)) % 2305843009213693951) : (o + o) % 2305843009213693951 = a * (2 * (b / 2 ^ (k + 1))) % 2305843009213693951 := by
  rw [ho, ← Nat.add_mod, ← Nat.mul_add, Nat.two_mul]
theorem mul_even {a b k o : Nat} (ho : o = a * (b / 2 ^ (k + 1)) % 2305843009213693951) (h : b / 2 ^ k % 2 = 0) : (o + o) % 2305843009213693951 = a * (b / 2 ^ k) % 2305843009213693951 := by
  rw [mul_twice ho]
  have := half_pow b k
  rw [h] at this
  rw [this]
  rfl
theorem mul_odd {a b k o : Nat} (ho : o = a * (b / 2 ^ (k + 1)) % 2305843009213693951) (h : b / 2 ^ k % 2 = 1) : ((o + o) % 2305843009213693951 + a) % 2305843009213693951 = a * (b / 2 ^ k) % 2305843009213693951 := by
  rw [mul_twice ho, Nat.mod_add_mod]
  have := half_pow b k
  rw [h] at this
  rw [this, Nat.mul_add, Nat.mul_one]

theorem q_mod {w : World} {a : Nat} : Calls Try.prog 11 #[.int .u64 ((a : Nat) : Int)] w fun e w' => ∃ v, e = .returned v ∧ (v = .int .u64 ((a % 2305843009213693951 : Nat) : Int) ∧ At w No [] w') := by
  refine body_in (n := 5) (l := [.int .u64 ((a : Nat) : Int)]) en11 rfl Try.ntmps11 rfl ?_
  have hA := At.refl w
  refine W_seq ?_
  refine W_reg ?_ -- 0 ref.go:7
  refine o_assign (v := .int _ _) rfl ?_
  refine O_end ?_
  refine W_seq ?_
  refine W_reg ?_ -- 1 ref.go:7
  refine o_move (v := .int _ _) rfl ?_
  refine o_rem rfl rfl (by decide) (show Int.tmod ((a : Nat) : Int) ((2305843009213693951 : Nat) : Int) = (((a) % 2305843009213693951 : Nat) : Int) from rfl) ?_
  refine o_assign (v := .int _ _) rfl ?_
  refine O_end ?_
  refine W_ret ?_
  refine ⟨rfl, ?_⟩
  refine ret1 Try.results11 (v := .int _ _) rfl ?_
  exact ⟨rfl, hA⟩

theorem q_add {w : World} {a b : Nat} : Calls Try.prog 41 #[.int .u64 ((a : Nat) : Int), .int .u64 ((b : Nat) : Int)] w fun e w' => ∃ v, e = .returned v ∧ (v = .int .u64 (((a % 2305843009213693951 + b % 2305843009213693951) % 2305843009213693951 : Nat) : Int) ∧ At w No [] w') := by
  refine body_in (n := 11) (l := [.int .u64 ((a : Nat) : Int), .int .u64 ((b : Nat) : Int)]) en41 rfl Try.ntmps41 rfl ?_
  have hA := At.refl w
  refine W_seq ?_
  refine W_reg ?_ -- 0 ref.go:10
  refine o_assign (v := .int _ _) rfl ?_
  refine O_end ?_
  refine W_seq ?_
  refine W_reg ?_ -- 1 ref.go:10
  refine o_move (v := .int _ _) rfl ?_
  refine o_rem rfl rfl (by decide) (show Int.tmod ((a : Nat) : Int) ((2305843009213693951 : Nat) : Int) = (((a) % 2305843009213693951 : Nat) : Int) from rfl) ?_
  refine o_move (v := .int _ _) rfl ?_
  refine o_rem rfl rfl (by decide) (show Int.tmod ((b : Nat) : Int) ((2305843009213693951 : Nat) : Int) = (((b) % 2305843009213693951 : Nat) : Int) from rfl) ?_
  refine o_add rfl rfl (u64w (r := a % 2305843009213693951 + b % 2305843009213693951) (Int.natCast_add _ _).symm (by omega)) ?_
  refine o_rem rfl rfl (by decide) (show Int.tmod ((a % 2305843009213693951 + b % 2305843009213693951 : Nat) : Int) ((2305843009213693951 : Nat) : Int) = (((a % 2305843009213693951 + b % 2305843009213693951) % 2305843009213693951 : Nat) : Int) from rfl) ?_
  refine o_assign (v := .int _ _) rfl ?_
  refine O_end ?_
  refine W_ret ?_
  refine ⟨rfl, ?_⟩
  refine ret1 Try.results41 (v := .int _ _) rfl ?_
  exact ⟨rfl, hA⟩

theorem q_mul {w : World} {a b : Nat} : Calls Try.prog 42 #[.int .u64 ((a : Nat) : Int), .int .u64 ((b : Nat) : Int)] w fun e w' => ∃ v, e = .returned v ∧ (v = .int .u64 (((a % 2305843009213693951) * (b % 2305843009213693951) % 2305843009213693951 : Nat) : Int) ∧ At w No [] w') := by
  refine body_in (n := 30) (l := [.int .u64 ((a : Nat) : Int), .int .u64 ((b : Nat) : Int)]) en42 rfl Try.ntmps42 rfl ?_
  have hA := At.refl w
  refine W_seq ?_
  refine W_reg ?_ -- 0 ref.go:16
  refine o_assign (v := .int _ _) rfl ?_
  refine O_end ?_
  refine W_seq ?_
  refine W_reg ?_ -- 1 ref.go:17
  refine o_move (v := .int _ _) rfl ?_
  refine o_rem rfl rfl (by decide) (show Int.tmod ((a : Nat) : Int) ((2305843009213693951 : Nat) : Int) = (((a) % 2305843009213693951 : Nat) : Int) from rfl) ?_
  refine o_assign (v := .int _ _) rfl ?_
  refine O_end ?_
  refine W_seq ?_
  refine W_reg ?_ -- 2 ref.go:18
  refine o_move (v := .int _ _) rfl ?_
  refine o_rem rfl rfl (by decide) (show Int.tmod ((b : Nat) : Int) ((2305843009213693951 : Nat) : Int) = (((b) % 2305843009213693951 : Nat) : Int) from rfl) ?_
  refine o_assign (v := .int _ _) rfl ?_
  refine O_end ?_
  refine W_seq ?_
  refine W_reg ?_ -- 3 ref.go:19
  refine o_assign (v := .int _ _) rfl ?_
  refine O_end ?_
  refine W_seq ?_
  refine W_seq ?_
  refine W_reg ?_ -- 4 ref.go:20
  refine o_assign (v := .int _ _) rfl ?_
  refine O_end ?_
  refine W_block ?_ -- 0
  have ha' : a % 2305843009213693951 < 2305843009213693951 := Nat.mod_lt _ (by decide)
  have hb' : b % 2305843009213693951 < 2305843009213693951 := Nat.mod_lt _ (by decide)
  generalize a % 2305843009213693951 = a at ha'
  generalize b % 2305843009213693951 = b at hb'
  refine W_loop (fun kk ρ w' => ∃ (j o : Nat), kk = j ∧ j ≤ 61 ∧ ρ 6 = .int .i64 ((j : Int) - 1) ∧ ρ 5 = .int .u64 ((o : Nat) : Int) ∧ ρ 0 = .int .u64 ((a : Nat) : Int) ∧ ρ 1 = .int .u64 ((b : Nat) : Int) ∧ o = a * (b / 2 ^ j) % 2305843009213693951 ∧ At w No [] w') 61
    ⟨61, 0, rfl, Nat.le_refl _, rfl, rfl, rfl, rfl, by rw [Nat.div_eq_of_lt (Nat.lt_trans hb' (by decide)), Nat.mul_zero, Nat.zero_mod], hA⟩ ?_
  clear hA
  rintro kk ρ w1 ⟨j, o, rfl, hj, h6, h5, h0, h1, ho, hA⟩
  have hop : o < 2305843009213693951 := by rw [ho]; exact Nat.mod_lt _ (by decide)
  refine W_known (t := 6) h6 ?_
  refine W_known (t := 5) h5 ?_
  refine W_known (t := 0) h0 ?_
  refine W_known (t := 1) h1 ?_
  refine W_seq ?_
  refine W_seq ?_
  refine W_reg ?_ -- 5 ref.go:20
  refine o_move (v := .int _ _) rfl ?_
  refine o_cmp2 rfl rfl rfl (fun h => ?_) (fun h => ?_)
  · -- True
    obtain ⟨k, rfl⟩ : ∃ k, kk = k + 1 := ⟨kk - 1, by simp at h; omega⟩
    refine O_end ?_
    refine W_then rfl ?_
    refine W_skip ?_
    refine W_seq ?_
    refine W_block ?_ -- 1
    refine W_seq ?_
    refine W_reg ?_ -- 7 ref.go:21
    refine o_move (v := .int _ _) rfl ?_
    refine o_move (v := .int _ _) rfl ?_
    refine o_add rfl rfl (u64w (r := o + o) (Int.natCast_add _ _).symm (by omega)) ?_
    refine o_rem rfl rfl (by decide) (show Int.tmod ((o + o : Nat) : Int) ((2305843009213693951 : Nat) : Int) = (((o + o) % 2305843009213693951 : Nat) : Int) from rfl) ?_
    refine o_assign (v := .int _ _) rfl ?_
    refine O_end ?_
    refine W_seq ?_
    refine W_reg ?_ -- 8 ref.go:22
    refine o_move (v := .int _ _) rfl ?_
    refine o_move (v := .int _ _) rfl ?_
    refine o_conv Try.underlying3 Try.underlying69 rfl (u64w (r := k) (by omega) (by omega)) ?_
    refine o_shr rfl rfl (by omega) (shr_nat b k (by omega)) ?_
    refine o_bits (by simp) rfl rfl (b_and (a := b / 2 ^ k) (b := 1) (Nat.lt_of_le_of_lt (Nat.div_le_self _ _) (by omega)) (by decide) (Nat.and_one_is_mod _)) ?_
    refine o_cmp2 rfl rfl rfl (fun h => ?_) (fun h => ?_)
    · -- True
      refine O_end ?_
      refine W_then rfl ?_
      refine W_reg ?_ -- 9 ref.go:23
      refine o_move (v := .int _ _) rfl ?_
      refine o_move (v := .int _ _) rfl ?_
      refine o_add rfl rfl (u64w (r := (o + o) % 2305843009213693951 + a) (Int.natCast_add _ _).symm (by omega)) ?_
      refine o_rem rfl rfl (by decide) (show Int.tmod (((o + o) % 2305843009213693951 + a : Nat) : Int) ((2305843009213693951 : Nat) : Int) = ((((o + o) % 2305843009213693951 + a) % 2305843009213693951 : Nat) : Int) from rfl) ?_
      refine o_assign (v := .int _ _) rfl ?_
      refine O_end ?_
      refine W_reg ?_ -- 6 ref.go:20
      refine o_move (v := .int _ _) rfl ?_
      refine o_sub rfl rfl (w64 (r := (k : Int) - 1) (by omega) (by omega) (by omega)) ?_
      refine o_assign (v := .int _ _) rfl ?_
      refine O_end ?_
      exact ⟨k, by omega, k, _, rfl, by omega, rfl, rfl, rfl, rfl, mul_odd ho (bit_one h), hA⟩
    · -- False
      refine O_end ?_
      refine W_else rfl ?_
      refine W_skip ?_
      refine W_reg ?_ -- 6 ref.go:20
      refine o_move (v := .int _ _) rfl ?_
      refine o_sub rfl rfl (w64 (r := (k : Int) - 1) (by omega) (by omega) (by omega)) ?_
      refine o_assign (v := .int _ _) rfl ?_
      refine O_end ?_
      exact ⟨k, by omega, k, _, rfl, by omega, rfl, rfl, rfl, rfl, mul_even ho (bit_zero h), hA⟩
  · -- False
    refine O_end ?_
    refine W_else rfl ?_
    refine W_exit ?_
    refine xb_hit ?_
    refine W_seq ?_
    refine W_reg ?_ -- 10 ref.go:26
    refine o_move (v := .int _ _) rfl ?_
    refine o_assign (v := .int _ _) rfl ?_
    refine O_end ?_
    refine W_ret ?_
    refine ⟨rfl, ?_⟩
    refine ret1 Try.results42 (v := .int _ _) rfl ?_
    have h0 : kk = 0 := by simp at h; omega
    subst h0
    rw [Nat.pow_zero, Nat.div_one] at ho
    exact ⟨by rw [ho], hA⟩

theorem q_same {w : World} {A A' : Option Addr} {m c m' c' : Nat} {l l' : List Nat} (hR : Rd w 1 (.slice A m c) (u64s l)) (hR' : Rd w 1 (.slice A' m' c') (u64s l')) (hsm : l.length ≤ 140737488355328) : Calls Try.prog 13 #[.slice A m c, .slice A' m' c'] w fun e w' => ∃ v, e = .returned v ∧ (v = .bool (decide (l = l')) ∧ At w No [] w') := by
  obtain rfl := u64_len hR
  obtain rfl := u64_len hR'
  refine body_in (n := 26) (l := [.slice A l.length c, .slice A' l'.length c']) en13 rfl Try.ntmps13 rfl ?_
  have hA := At.refl w
  refine W_seq ?_
  refine W_reg ?_ -- 0 ref.go:60
  refine o_assign (v := .bool _) rfl ?_
  refine O_end ?_
  refine W_seq ?_
  refine W_seq ?_
  refine W_reg ?_ -- 1 ref.go:61
  refine o_move (by conv => lhs; whnf) ?_
  refine o_len Try.underlying25 rfl ?_
  refine o_move (by conv => lhs; whnf) ?_
  refine o_len Try.underlying25 rfl ?_
  refine o_cmp2 rfl rfl rfl (fun h => ?_) (fun h => ?_)
  · -- True
    refine O_end ?_
    refine W_then rfl ?_
    refine W_seq ?_
    refine W_reg ?_ -- 2 ref.go:62
    refine o_assign (v := .bool _) rfl ?_
    refine O_end ?_
    refine W_ret ?_
    refine ⟨rfl, ?_⟩
    refine ret1 Try.results13 (v := .bool _) rfl ?_
    exact ⟨by rw [decide_eq_false (fun e => by subst e; simp at h)], hA⟩
  · -- False
    have hll : l.length = l'.length := by simp at h; omega
    refine O_end ?_
    refine W_else rfl ?_
    refine W_skip ?_
    refine W_seq ?_
    refine W_seq ?_
    refine W_reg ?_ -- 3 ref.go:64
    refine o_assign (v := .int _ _) rfl ?_
    refine O_end ?_
    refine W_block ?_ -- 0
    refine W_loop (fun kk ρ w' => ∃ (j : Nat), kk = l.length - j ∧ j ≤ l.length ∧ ρ 5 = .int .i64 (j : Int) ∧ ρ 0 = .slice A l.length c ∧ ρ 1 = .slice A' l'.length c' ∧ (∀ i, i < j → l[i]? = l'[i]?) ∧ At w No [] w') l.length
      ⟨0, by simp, Nat.zero_le _, rfl, rfl, rfl, fun i hi => by omega, hA⟩ ?_
    clear hA
    rintro kk ρ w1 ⟨j, rfl, hj, h5, h0, h1, hsame, hA⟩
    refine W_known (t := 5) h5 ?_
    refine W_known (t := 0) h0 ?_
    refine W_known (t := 1) h1 ?_
    refine W_seq ?_
    refine W_seq ?_
    refine W_reg ?_ -- 4 ref.go:64
    refine o_move (v := .int _ _) rfl ?_
    refine o_move (by conv => lhs; whnf) ?_
    refine o_len Try.underlying25 rfl ?_
    refine o_cmp2 rfl rfl rfl (fun h => ?_) (fun h => ?_)
    · -- True
      have hlt : j < l.length := by simp at h; omega
      obtain ⟨x, hx⟩ : ∃ x, l[j]? = some x := ⟨_, List.getElem?_eq_getElem hlt⟩
      obtain ⟨y, hy⟩ : ∃ y, l'[j]? = some y := ⟨_, List.getElem?_eq_getElem (by omega)⟩
      obtain ⟨g, o, rfl⟩ := Rd.some hR (by rw [u64s_len]; omega)
      obtain ⟨g', o', rfl⟩ := Rd.some hR' (by rw [u64s_len]; omega)
      refine O_end ?_
      refine W_then rfl ?_
      refine W_skip ?_
      refine W_seq ?_
      refine W_block ?_ -- 1
      refine W_seq ?_
      refine W_drawA hA [3, 7] mix rfl rfl (fun w0_6 hA => ?_) -- 6 ref.go:65
      refine D_take 0 rfl (by kernel_rfl) (by rintro _ _ _ ⟨h, _⟩; cases h) rfl (fun h => by cases h) (fun w hA => r_move (by conv => lhs; whnf)) ?_
      refine D_take 1 rfl (by kernel_rfl) (by rintro _ _ _ ⟨h, _⟩; cases h) rfl (fun h => by cases h) (fun w hA => r_move (v := .int _ _) rfl) ?_
      refine D_take 2 rfl (by kernel_rfl) (by rintro _ _ _ ⟨h, _⟩; cases h) rfl (fun h => by cases h) (fun w hA => r_index Try.underlying25 ti22 rfl rfl (by omega) (by omega)) ?_
      refine D_take 3 rfl (by kernel_rfl) (by rintro _ _ _ ⟨h, _⟩; cases h) rfl (fun _ => hA) (fun w hA => r_load1 ag22 rfl ((hR.old (hA rfl)).cells (j := (j : Int).toNat * 1) (by rw [Nat.mul_one]; exact u64s_get hx))) ?_
      refine D_take 4 rfl (by kernel_rfl) (by rintro _ _ _ ⟨h, _⟩; cases h) rfl (fun h => by cases h) (fun w hA => r_move (by conv => lhs; whnf)) ?_
      refine D_take 5 rfl (by kernel_rfl) (by rintro _ _ _ ⟨h, _⟩; cases h) rfl (fun h => by cases h) (fun w hA => r_move (v := .int _ _) rfl) ?_
      refine D_take 6 rfl (by kernel_rfl) (by rintro _ _ _ ⟨h, _⟩; cases h) rfl (fun h => by cases h) (fun w hA => r_index Try.underlying25 ti22 rfl rfl (by omega) (by omega)) ?_
      refine D_take 7 rfl (by kernel_rfl) (by rintro _ _ _ ⟨h, _⟩; cases h) rfl (fun _ => hA) (fun w hA => r_load1 ag22 rfl ((hR'.old (hA rfl)).cells (j := (j : Int).toNat * 1) (by rw [Nat.mul_one]; exact u64s_get hy))) ?_
      refine D_takeb 8 rfl (by kernel_rfl) (by rintro _ _ _ ⟨h, _⟩; cases h) rfl (fun h => by cases h) (fun w hA => r_cmp rfl rfl rfl) (fun h => ?_) (fun h => ?_)
      · -- True
        refine D_done (by kernel_rfl) ?_
        refine W_then rfl ?_
        refine W_seq ?_
        refine W_reg ?_ -- 7 ref.go:66
        refine o_assign (v := .bool _) rfl ?_
        refine O_end ?_
        refine W_ret ?_
        refine xb_ret ?_
        refine xb_ret ?_
        refine ⟨rfl, ?_⟩
        refine ret1 Try.results13 (v := .bool _) rfl ?_
        exact ⟨by rw [decide_eq_false (fun e => by subst e; rw [hx] at hy; obtain rfl := Option.some.inj hy; simp at h)], hA⟩
      · -- False
        refine D_done (by kernel_rfl) ?_
        refine W_else rfl ?_
        refine W_skip ?_
        refine W_reg ?_ -- 5 ref.go:64
        refine o_move (v := .int _ _) rfl ?_
        refine o_add rfl rfl (w64 (r := ((j + 1 : Nat) : Int)) (by omega) (by omega) (by omega)) ?_
        refine o_assign (v := .int _ _) rfl ?_
        refine O_end ?_
        exact ⟨l.length - (j + 1), by omega, j + 1, rfl, by omega, rfl, rfl, rfl, fun i hi => by
          by_cases e : i = j
          · have h2 : ((x : Int) != (y : Int)) = false := h
            subst e; rw [hx, hy]; congr 1; simp at h2; omega
          · exact hsame i (by omega), hA⟩
    · -- False
      refine O_end ?_
      refine W_else rfl ?_
      refine W_exit ?_
      refine xb_hit ?_
      refine W_seq ?_
      refine W_reg ?_ -- 8 ref.go:69
      refine o_assign (v := .bool _) rfl ?_
      refine O_end ?_
      refine W_ret ?_
      refine ⟨rfl, ?_⟩
      refine ret1 Try.results13 (v := .bool _) rfl ?_
      exact ⟨by rw [decide_eq_true (List.ext_getElem? fun i => by
        by_cases e : i < l.length
        · exact hsame i (by simp at h; omega)
        · rw [List.getElem?_eq_none (by omega), List.getElem?_eq_none (by omega)])], hA⟩

end Go.Proofs.Ytogpmiodnmigoaa
