/-
  offertoryref14: Small, Check.
-/
import Derived.Test.YtbcaooiphalkoaaEnc
set_option linter.unusedVariables false
set_option linter.unusedSimpArgs false
namespace Go.Proofs.Ytbcaooiphalkoaa
open Go Go.RowKit

theorem bv8 (a : Nat) : BitVec.ofInt IntKind.u8.bits (a : Int) = BitVec.ofNat 8 a := by
  show BitVec.ofInt 8 (a : Int) = _
  simp
theorem b_and8 {a b r : Nat} (ha : a < 256) (hb : b < 256) (h : a &&& b = r) : bits .and .u8 (a : Int) (b : Int) = (r : Int) := by
  unfold bits
  rw [bv8, bv8]
  subst h
  refine u8w ?_ (Nat.lt_of_le_of_lt Nat.and_le_left ha)
  show (((BitVec.ofNat 8 a) &&& (BitVec.ofNat 8 b)).toNat : Int) = _
  rw [BitVec.toNat_and, BitVec.toNat_ofNat, BitVec.toNat_ofNat, Nat.mod_eq_of_lt ha, Nat.mod_eq_of_lt hb]
theorem shr_n8 (a k : Nat) (hk : k ≤ 8) : (a : Int).fdiv (2 ^ min ((k : Int)).toNat IntKind.u8.bits) = ((a / 2 ^ k : Nat) : Int) := by
  have h1 : min ((k : Int)).toNat IntKind.u8.bits = k := by
    show min k 8 = k
    omega
  have h2 : (0 : Int) ≤ 2 ^ k := Int.le_of_lt (Int.pow_pos (by decide))
  rw [h1, Int.fdiv_eq_ediv_of_nonneg _ h2]
  simp
theorem shl_n32 {a k : Nat} (hk : k ≤ 32) : IntKind.u32.wrap ((a : Int) * 2 ^ min ((k : Int)).toNat IntKind.u32.bits) = ((a * 2 ^ k % 4294967296 : Nat) : Int) := by
  have h2 : min ((k : Int)).toNat IntKind.u32.bits = k := by rw [Int.toNat_natCast]; exact Nat.min_eq_left hk
  rw [h2]
  refine u32m ?_
  simp
/-- The reference's check: a step, a byte, all bytes, the bits turned round. -/
def refB (n b : Nat) : Nat := if ((n * 2) ^^^ (b * 4294967296)) / 4294967296 = 1 then ((n * 2) ^^^ (b * 4294967296)) ^^^ 4374732215 else (n * 2) ^^^ (b * 4294967296)
def refK (c : Nat) : Nat → Nat → Nat
  | 0, n => n
  | k + 1, n => refB (refK c k n) (c / 2 ^ k % 2)
def refR (l : List UInt8) (n : Nat) : Nat := l.foldl (fun n c => refK c.toNat 8 n) n
def rvN : Nat → Nat → Nat
  | 0, _ => 0
  | i + 1, n => (rvN i n * 2 % 4294967296) ||| (n / 2 ^ i % 2)
def refC (l : List UInt8) : Nat := 4294967295 - rvN 32 (refR l 4294967295)
theorem refM_lt {n b : Nat} (h : n < 4294967296) (hb : b < 2) : (n * 2) ^^^ (b * 4294967296) < 8589934592 := Nat.xor_lt_two_pow (n := 33) (by omega) (by omega)
theorem refB_lt {n b : Nat} (h : n < 4294967296) (hb : b < 2) : refB n b < 4294967296 := by
  have hm := refM_lt h hb
  unfold refB
  split
  · rename_i h1
    generalize (n * 2) ^^^ (b * 4294967296) = m at hm h1
    refine Nat.lt_pow_two_of_testBit (n := 32) _ fun i hi => ?_
    rw [Nat.testBit_xor]
    rcases Nat.lt_or_ge i 33 with h2 | h2
    · obtain rfl : i = 32 := by omega
      rw [Nat.testBit_eq_decide_div_mod_eq, Nat.testBit_eq_decide_div_mod_eq]
      rw [show m / 2 ^ 32 = 1 from h1]
      decide
    · rw [Nat.testBit_lt_two_pow (Nat.lt_of_lt_of_le hm (show 2 ^ 33 ≤ 2 ^ i from Nat.pow_le_pow_right (by decide) h2)), Nat.testBit_lt_two_pow (Nat.lt_of_lt_of_le (show 4374732215 < 2 ^ 33 by decide) (Nat.pow_le_pow_right (by decide) h2))]
      rfl
  · omega
theorem refK_lt (c : Nat) {n : Nat} (h : n < 4294967296) : ∀ k, refK c k n < 4294967296
  | 0 => h
  | k + 1 => refB_lt (refK_lt c h k) (Nat.mod_lt _ (by decide))
theorem refR_lt (l : List UInt8) : ∀ {n : Nat}, n < 4294967296 → refR l n < 4294967296 := by
  induction l with
  | nil => exact fun h => h
  | cons c l ih => exact fun h => ih (refK_lt _ h 8)
theorem refR_snoc (l : List UInt8) (c : UInt8) (n : Nat) : refR (l ++ [c]) n = refK c.toNat 8 (refR l n) := by simp [refR]
theorem rvN_lt (n : Nat) : ∀ i, rvN i n < 4294967296
  | 0 => by show 0 < 4294967296; decide
  | i + 1 => Nat.or_lt_two_pow (n := 32) (Nat.mod_lt _ (by decide)) (by omega)

theorem w64r' {a r : Int} (h : a = r) (h0 : -9223372036854775808 ≤ r) (h1 : r ≤ 9223372036854775807) : IntKind.i64.wrap a = r := by subst h; exact w64 rfl h0 h1
theorem leN4 (n : Nat) : leN n 4 = [UInt8.ofNat n, UInt8.ofNat (n / 256), UInt8.ofNat (n / 65536), UInt8.ofNat (n / 16777216)] := by
  show List.map (leB n) [0, 1, 2, 3] = _
  simp [leB]

theorem q_small {w : World} {n : Nat} (hn : n < 4294967296) : Calls Try.prog 38 #[.int .i64 (n : Int)] w fun e w' => ∃ v, e = .returned v ∧ (v = .string ⟨(leN n 4).toArray⟩ ∧ At w No [] w') := by
  refine body_in (n := 20) (l := [.int .i64 (n : Int)]) en38 rfl Try.ntmps38 rfl ?_
  have hA := At.refl w
  refine W_seq ?_
  refine W_reg ?_ -- 0 ref.go:28
  refine o_assign (by conv => lhs; whnf) ?_
  refine O_end ?_
  refine W_seq ?_
  refine W_reg ?_ -- 1 ref.go:29
  refine o_move (v := .int _ _) rfl ?_
  refine o_rem rfl rfl (by first | decide | omega) (show Int.tmod ((n : Nat) : Int) 256 = ((n % 256 : Nat) : Int) from rfl) ?_
  refine o_conv Try.underlying3 Try.underlying5 rfl (u8w (r := n % 256) rfl (by omega)) ?_
  refine o_move (v := .int _ _) rfl ?_
  refine o_quo rfl rfl (by first | decide | omega) (w64r' (show Int.tdiv (n : Int) 256 = ((n / 256 : Nat) : Int) from rfl) (by omega) (by omega)) ?_
  refine o_rem rfl rfl (by first | decide | omega) (show Int.tmod ((n / 256 : Nat) : Int) 256 = ((n / 256 % 256 : Nat) : Int) from rfl) ?_
  refine o_conv Try.underlying3 Try.underlying5 rfl (u8w (r := n / 256 % 256) rfl (by omega)) ?_
  refine o_move (v := .int _ _) rfl ?_
  refine o_quo rfl rfl (by first | decide | omega) (w64r' (show Int.tdiv (n : Int) 65536 = ((n / 65536 : Nat) : Int) from rfl) (by omega) (by omega)) ?_
  refine o_rem rfl rfl (by first | decide | omega) (show Int.tmod ((n / 65536 : Nat) : Int) 256 = ((n / 65536 % 256 : Nat) : Int) from rfl) ?_
  refine o_conv Try.underlying3 Try.underlying5 rfl (u8w (r := n / 65536 % 256) rfl (by omega)) ?_
  refine o_move (v := .int _ _) rfl ?_
  refine o_quo rfl rfl (by first | decide | omega) (w64r' (show Int.tdiv (n : Int) 16777216 = ((n / 16777216 : Nat) : Int) from rfl) (by omega) (by omega)) ?_
  refine o_rem rfl rfl (by first | decide | omega) (show Int.tmod ((n / 16777216 : Nat) : Int) 256 = ((n / 16777216 % 256 : Nat) : Int) from rfl) ?_
  refine o_conv Try.underlying3 Try.underlying5 rfl (u8w (r := n / 16777216 % 256) rfl (by omega)) ?_
  refine o_buildSlice (cs := [_, _, _, _]) hA Try.underlying32 ti5 rfl rfl rfl rfl rfl (fun a1 w1 hA => ?_)
  have hrd : Rd w1 1 (.slice (some a1) 4 4) (u8s (leN n 4)) := by
    have h0 := hA.rd 0 rfl
    have e : u8s (leN n 4) = [.int .u8 ((n % 256 : Nat) : Int), .int .u8 ((n / 256 % 256 : Nat) : Int), .int .u8 ((n / 65536 % 256 : Nat) : Int), .int .u8 ((n / 16777216 % 256 : Nat) : Int)] := by
      rw [leN4]; simp only [u8s, List.map_cons, List.map_nil, UInt8.toNat_ofNat']
    rw [e]; exact h0
  refine o_toString Try.underlying32 Try.underlying5 Try.underlying9 rfl hrd ?_
  refine o_assign (by conv => lhs; whnf) ?_
  refine O_end ?_
  refine W_ret ?_
  refine ⟨rfl, ?_⟩
  refine ret1 Try.results38 (by conv => lhs; whnf) ?_
  exact ⟨rfl, hA.drop⟩

theorem q_check {w : World} {l : List UInt8} (hl : l.length ≤ 1000000) : Calls Try.prog 39 #[.string ⟨l.toArray⟩] w fun e w' => ∃ v, e = .returned v ∧ (v = .int .u32 ((refC l : Nat) : Int) ∧ At w No [] w') := by
  refine body_in (n := 50) (l := [.string ⟨l.toArray⟩]) en39 rfl Try.ntmps39 rfl ?_
  have hA := At.refl w
  refine W_seq ?_
  refine W_reg ?_ -- 0 ref.go:10
  refine o_assign (v := .int _ _) rfl ?_
  refine O_end ?_
  refine W_seq ?_
  refine W_reg ?_ -- 1 ref.go:11
  refine o_assign (v := .int _ _) rfl ?_
  refine O_end ?_
  refine W_seq ?_
  refine W_seq ?_
  refine W_reg ?_ -- 2 ref.go:12
  refine o_assign (v := .int _ _) rfl ?_
  refine O_end ?_
  refine W_block ?_ -- 0
  refine W_loop (fun kk ρ w' => ∃ (j : Nat), kk = l.length - j ∧ j ≤ l.length ∧ ρ 4 = .int .i64 (j : Int) ∧ ρ 0 = .string ⟨l.toArray⟩ ∧ ρ 3 = .int .u64 ((refR (l.take j) 4294967295 : Nat) : Int) ∧ At w No [] w') l.length
    ⟨0, by simp, Nat.zero_le _, rfl, rfl, rfl, hA⟩ ?_
  clear hA
  rintro kk ρ w1 ⟨j, rfl, hj, h4, h0, h3, hA⟩
  refine W_known (t := 4) h4 ?_
  refine W_known (t := 0) h0 ?_
  refine W_known (t := 3) h3 ?_
  refine W_seq ?_
  refine W_seq ?_
  refine W_reg ?_ -- 3 ref.go:12
  refine o_move (v := .int _ _) rfl ?_
  refine o_move (by conv => lhs; whnf) ?_
  refine o_lens Try.underlying9 rfl ?_
  refine o_cmp2 rfl rfl rfl (fun h => ?_) (fun h => ?_)
  · -- True
    have q11 := of_decide_eq_true h
    have hlt : j < l.length := by
      have q : (j : Int) < (l.length : Int) := q11
      omega
    obtain ⟨x, hx⟩ : ∃ x, l[j]? = some x := ⟨_, List.getElem?_eq_getElem hlt⟩
    have hxl : x.toNat < 256 := x.toNat_lt
    have hcl : refR (l.take j) 4294967295 < 4294967296 := refR_lt _ (by omega)
    refine O_end ?_
    refine W_then rfl ?_
    refine W_skip ?_
    refine W_seq ?_
    refine W_block ?_ -- 1
    refine W_seq ?_
    refine W_reg ?_ -- 5 ref.go:13
    refine o_assign (v := .int _ _) rfl ?_
    refine O_end ?_
    refine W_block ?_ -- 2
    refine W_loop (fun kk ρ w' => ∃ (k : Nat), kk = 8 - k ∧ k ≤ 8 ∧ ρ 5 = .int .i64 (k : Int) ∧ ρ 4 = .int .i64 (j : Int) ∧ ρ 0 = .string ⟨l.toArray⟩ ∧ ρ 3 = .int .u64 ((refK x.toNat k (refR (l.take j) 4294967295) : Nat) : Int) ∧ At w No [] w') 8
      ⟨0, by simp, Nat.zero_le _, rfl, rfl, rfl, rfl, hA⟩ ?_
    clear hA
    rintro kk ρ w1 ⟨k, rfl, hk, h5, h4, h0, h3, hA⟩
    refine W_known (t := 5) h5 ?_
    refine W_known (t := 4) h4 ?_
    refine W_known (t := 0) h0 ?_
    refine W_known (t := 3) h3 ?_
    refine W_seq ?_
    refine W_seq ?_
    refine W_reg ?_ -- 6 ref.go:13
    refine o_move (v := .int _ _) rfl ?_
    refine o_cmp2 rfl rfl rfl (fun h => ?_) (fun h => ?_)
    · -- True
      have q15 := of_decide_eq_true h
      have hkk : k < 8 := by omega
      obtain ⟨y, hy⟩ : ∃ y, y = refK x.toNat k (refR (l.take j) 4294967295) := ⟨_, rfl⟩
      have hyl : y < 4294967296 := by rw [hy]; exact refK_lt _ hcl k
      rw [← hy]
      have hb : x.toNat / 2 ^ k % 2 < 2 := Nat.mod_lt _ (by decide)
      have hd : x.toNat / 2 ^ k < 256 := Nat.lt_of_le_of_lt (Nat.div_le_self _ _) hxl
      have hm := refM_lt hyl hb
      refine O_end ?_
      refine W_then rfl ?_
      refine W_skip ?_
      refine W_seq ?_
      refine W_block ?_ -- 3
      refine W_seq ?_
      refine W_reg ?_ -- 8 ref.go:14
      refine o_move (v := .int _ _) rfl ?_
      refine o_shl rfl rfl (by omega) (shl_nat (k := 1) (r := y * 2) (by decide) rfl (by omega)) ?_
      refine o_move (by conv => lhs; whnf) ?_
      refine o_move (v := .int _ _) rfl ?_
      refine o_idxS Try.underlying9 rfl rfl (by omega) hx ?_
      refine o_move (v := .int _ _) rfl ?_
      refine o_conv Try.underlying3 Try.underlying42 rfl (u64w rfl (by omega)) ?_
      refine o_shr rfl rfl (by omega) (shr_n8 x.toNat k (by omega)) ?_
      refine o_bits (by simp) rfl rfl (b_and8 hd (by decide) (Nat.and_one_is_mod _)) ?_
      refine o_conv Try.underlying5 Try.underlying48 rfl (u64w rfl (by omega)) ?_
      refine o_shl rfl rfl (by omega) (shl_nat (k := 32) (r := x.toNat / 2 ^ k % 2 * 4294967296) (by decide) rfl (by omega)) ?_
      refine o_bits (by simp) rfl rfl (b_xor64 (by omega) (by omega) rfl) ?_
      refine o_assign (v := .int _ _) rfl ?_
      refine O_end ?_
      refine W_seq ?_
      refine W_reg ?_ -- 9 ref.go:15
      refine o_move (v := .int _ _) rfl ?_
      refine o_shr rfl rfl (by omega) (shr_nat ((y * 2) ^^^ (x.toNat / 2 ^ k % 2 * 4294967296)) 32 (by decide)) ?_
      refine o_cmp2 rfl rfl rfl (fun h => ?_) (fun h => ?_)
      · -- True
        have q32 := beq_iff_eq.1 h
        refine O_end ?_
        refine W_then rfl ?_
        refine W_reg ?_ -- 10 ref.go:16
        refine o_move (v := .int _ _) rfl ?_
        refine o_bits (by simp) rfl rfl (b_xor64 (b := 4374732215) (by omega) (by decide) rfl) ?_
        refine o_assign (v := .int _ _) rfl ?_
        refine O_end ?_
        refine W_reg ?_ -- 7 ref.go:13
        refine o_move (v := .int _ _) rfl ?_
        refine o_add rfl rfl (w64 (r := ((k + 1 : Nat) : Int)) (by omega) (by omega) (by omega)) ?_
        refine o_assign (v := .int _ _) rfl ?_
        refine O_end ?_
        refine ⟨8 - (k + 1), by omega, k + 1, rfl, by omega, rfl, rfl, rfl, ?_, hA⟩
        show Value.int .u64 _ = .int .u64 ((refB (refK _ k _) _ : Nat) : Int)
        rw [← hy]
        unfold refB
        rw [if_pos (show ((y * 2) ^^^ (x.toNat / 2 ^ k % 2 * 4294967296)) / 4294967296 = 1 by omega)]
      · -- False
        have q32 := beq_eq_false_iff_ne.1 h
        refine O_end ?_
        refine W_else rfl ?_
        refine W_skip ?_
        refine W_reg ?_ -- 7 ref.go:13
        refine o_move (v := .int _ _) rfl ?_
        refine o_add rfl rfl (w64 (r := ((k + 1 : Nat) : Int)) (by omega) (by omega) (by omega)) ?_
        refine o_assign (v := .int _ _) rfl ?_
        refine O_end ?_
        refine ⟨8 - (k + 1), by omega, k + 1, rfl, by omega, rfl, rfl, rfl, ?_, hA⟩
        show Value.int .u64 _ = .int .u64 ((refB (refK _ k _) _ : Nat) : Int)
        rw [← hy]
        unfold refB
        rw [if_neg (show ¬ ((y * 2) ^^^ (x.toNat / 2 ^ k % 2 * 4294967296)) / 4294967296 = 1 by omega)]
    · -- False
      have q15 := of_decide_eq_false h
      obtain rfl : k = 8 := by omega
      refine O_end ?_
      refine W_else rfl ?_
      refine W_exit ?_
      refine xb_hit ?_
      refine W_reg ?_ -- 4 ref.go:12
      refine o_move (v := .int _ _) rfl ?_
      refine o_add rfl rfl (w64 (r := ((j + 1 : Nat) : Int)) (by omega) (by omega) (by omega)) ?_
      refine o_assign (v := .int _ _) rfl ?_
      refine O_end ?_
      refine ⟨l.length - (j + 1), by omega, j + 1, rfl, by omega, rfl, rfl, ?_, hA⟩
      rw [List.take_add_one, hx]
      show Value.int .u64 _ = .int .u64 ((refR (l.take j ++ [x]) 4294967295 : Nat) : Int)
      rw [refR_snoc]
  · -- False
    have q11 := of_decide_eq_false h
    refine O_end ?_
    refine W_else rfl ?_
    refine W_exit ?_
    refine xb_hit ?_
    refine W_seq ?_
    refine W_reg ?_ -- 11 ref.go:20
    refine o_assign (v := .int _ _) rfl ?_
    refine O_end ?_
    refine W_seq ?_
    refine W_seq ?_
    refine W_reg ?_ -- 12 ref.go:21
    refine o_assign (v := .int _ _) rfl ?_
    refine O_end ?_
    refine W_block ?_ -- 4
    obtain rfl : j = l.length := by
      have q : ¬ ((j : Int) < (l.length : Int)) := q11
      omega
    rw [List.take_length]
    refine W_loop (fun kk ρ w' => ∃ (i : Nat), kk = 32 - i ∧ i ≤ 32 ∧ ρ 7 = .int .i64 (i : Int) ∧ ρ 3 = .int .u64 ((refR l 4294967295 : Nat) : Int) ∧ ρ 6 = .int .u32 ((rvN i (refR l 4294967295) : Nat) : Int) ∧ At w No [] w') 32
      ⟨0, by simp, Nat.zero_le _, rfl, rfl, rfl, hA⟩ ?_
    clear hA
    rintro kk ρ w1 ⟨i, rfl, hi, h7, h3, h6, hA⟩
    refine W_known (t := 7) h7 ?_
    refine W_known (t := 3) h3 ?_
    refine W_known (t := 6) h6 ?_
    refine W_seq ?_
    refine W_seq ?_
    refine W_reg ?_ -- 13 ref.go:21
    refine o_move (v := .int _ _) rfl ?_
    refine o_cmp2 rfl rfl rfl (fun h => ?_) (fun h => ?_)
    · -- True
      have q36 := of_decide_eq_true h
      have hii : i < 32 := by omega
      have hrl : refR l 4294967295 < 4294967296 := refR_lt _ (by omega)
      have hdl : refR l 4294967295 / 2 ^ i < 18446744073709551616 := Nat.lt_of_le_of_lt (Nat.div_le_self _ _) (by omega)
      refine O_end ?_
      refine W_then rfl ?_
      refine W_skip ?_
      refine W_seq ?_
      refine W_block ?_ -- 5
      refine W_reg ?_ -- 15 ref.go:22
      refine o_move (v := .int _ _) rfl ?_
      refine o_shl rfl rfl (by omega) (shl_n32 (k := 1) (by decide)) ?_
      refine o_move (v := .int _ _) rfl ?_
      refine o_move (v := .int _ _) rfl ?_
      refine o_conv Try.underlying3 Try.underlying42 rfl (u64w rfl (by omega)) ?_
      refine o_shr rfl rfl (by omega) (shr_nat (refR l 4294967295) i (by omega)) ?_
      refine o_bits (by simp) rfl rfl (b_and hdl (by decide) (Nat.and_one_is_mod _)) ?_
      refine o_conv Try.underlying48 Try.underlying63 rfl (u32w rfl (by omega)) ?_
      refine o_bits (by simp) rfl rfl (b_or32 (Nat.mod_lt _ (by decide)) (by omega) rfl) ?_
      refine o_assign (v := .int _ _) rfl ?_
      refine O_end ?_
      refine W_reg ?_ -- 14 ref.go:21
      refine o_move (v := .int _ _) rfl ?_
      refine o_add rfl rfl (w64 (r := ((i + 1 : Nat) : Int)) (by omega) (by omega) (by omega)) ?_
      refine o_assign (v := .int _ _) rfl ?_
      refine O_end ?_
      exact ⟨32 - (i + 1), by omega, i + 1, rfl, by omega, rfl, rfl, rfl, hA⟩
    · -- False
      have q36 := of_decide_eq_false h
      refine O_end ?_
      refine W_else rfl ?_
      refine W_exit ?_
      refine xb_hit ?_
      refine W_seq ?_
      refine W_reg ?_ -- 16 ref.go:24
      refine o_move (v := .int _ _) rfl ?_
      refine o_unxor rfl (not32 (rvN_lt _ _)) ?_
      refine o_assign (v := .int _ _) rfl ?_
      refine O_end ?_
      refine W_ret ?_
      refine ⟨rfl, ?_⟩
      refine ret1 Try.results39 (v := .int _ _) rfl ?_
      obtain rfl : i = 32 := by omega
      exact ⟨rfl, hA⟩

end Go.Proofs.Ytbcaooiphalkoaa
