/-
  The check in plain Lean: the program's is the reference's; another byte gives another check.
-/
import Derived.Test.YtbcaooiphalkoaaRta
set_option linter.unusedVariables false
set_option linter.unusedSimpArgs false
namespace Go.Proofs.Ytbcaooiphalkoaa
open Go Go.RowKit

/-- One bit in, from the low end. -/
def gB (r b : Nat) : Nat := if (r % 2 + b) % 2 = 1 then (r / 2) ^^^ 3988292384 else r / 2
def gK (c : Nat) : Nat → Nat → Nat
  | 0, r => r
  | k + 1, r => gB (gK c k r) (c / 2 ^ k % 2)
theorem xor_div2 (x y : Nat) : (x ^^^ y) / 2 = x / 2 ^^^ y / 2 := by
  apply Nat.eq_of_testBit_eq
  intro i
  rw [Nat.testBit_div_two, Nat.testBit_xor, Nat.testBit_xor, Nat.testBit_div_two, Nat.testBit_div_two]
theorem xor_mod2 (x y : Nat) : (x ^^^ y) % 2 = (x % 2 + y % 2) % 2 := by
  have h : (x ^^^ y).testBit 0 = (x.testBit 0 != y.testBit 0) := Nat.testBit_xor ..
  rw [Nat.testBit_zero, Nat.testBit_zero, Nat.testBit_zero] at h
  rcases Nat.mod_two_eq_zero_or_one x with h1 | h1 <;> rcases Nat.mod_two_eq_zero_or_one y with h2 | h2 <;> rcases Nat.mod_two_eq_zero_or_one (x ^^^ y) with h3 | h3 <;> rw [h1, h2, h3] at h <;> rw [h1, h2, h3] <;> simp at h <;> rfl
theorem crc_gK (c r : Nat) : ∀ k, crcN k (r ^^^ c) = gK c k r ^^^ (c / 2 ^ k)
  | 0 => by simp [crcN, gK]
  | k + 1 => by
    show crcB (crcN k (r ^^^ c)) = gB (gK c k r) _ ^^^ _
    rw [crc_gK c r k]
    unfold crcB gB
    rw [xor_mod2, xor_div2, Nat.pow_succ, ← Nat.div_div_eq_div_mul]
    split
    · rw [Nat.xor_assoc, Nat.xor_assoc, Nat.xor_comm 3988292384]
    · rfl
theorem crc_byte {c r : Nat} (hc : c < 256) : crcN 8 (r ^^^ c) = gK c 8 r := by
  rw [crc_gK, show c / 2 ^ 8 = 0 from Nat.div_eq_of_lt hc, Nat.xor_zero]
theorem rv_bit (n : Nat) : ∀ (i : Nat), i ≤ 32 → ∀ j, (rvN i n).testBit j = (decide (j < i) && n.testBit (i - 1 - j))
  | 0, _, j => by simp [rvN]
  | i + 1, hi, j => by
    have ih := rv_bit n i (by omega)
    show ((rvN i n * 2 % 4294967296) ||| (n / 2 ^ i % 2)).testBit j = _
    rw [Nat.testBit_or, show (4294967296 : Nat) = 2 ^ 32 from rfl, Nat.testBit_mod_two_pow]
    cases j with
    | zero =>
      have h1 : (rvN i n * 2).testBit 0 = false := by rw [Nat.testBit_zero]; simp
      rw [h1, Nat.testBit_zero, Nat.mod_mod, show n.testBit (i + 1 - 1 - 0) = n.testBit i from rfl, Nat.testBit_eq_decide_div_mod_eq]
      simp
    | succ j =>
      have h1 : (rvN i n * 2).testBit (j + 1) = (rvN i n).testBit j := by
        rw [Nat.testBit_succ]; congr 1; omega
      have h2 : (n / 2 ^ i % 2).testBit (j + 1) = false := by
        rw [Nat.testBit_succ, show n / 2 ^ i % 2 / 2 = 0 by omega, Nat.zero_testBit]
      rw [h1, h2, ih j, Bool.or_false]
      by_cases hj : j < i
      · have e : i + 1 - 1 - (j + 1) = i - 1 - j := by omega
        rw [e, decide_eq_true hj, decide_eq_true (show j + 1 < i + 1 by omega), decide_eq_true (show j + 1 < 32 by omega)]
        rfl
      · rw [decide_eq_false hj, decide_eq_false (show ¬ j + 1 < i + 1 by omega)]
        simp
theorem rv_parity (n : Nat) : rvN 32 n % 2 = n / 2147483648 % 2 := by
  have h := rv_bit n 32 (Nat.le_refl _) 0
  rw [Nat.testBit_zero, show (32 - 1 - 0 : Nat) = 31 from rfl, Nat.testBit_eq_decide_div_mod_eq] at h
  simp at h
  rcases Nat.mod_two_eq_zero_or_one (rvN 32 n) with h1 | h1 <;> rcases Nat.mod_two_eq_zero_or_one (n / 2147483648) with h2 | h2 <;> rw [h1, h2] <;> rw [h1, h2] at h <;> simp at h
theorem poly_rv : ∀ j, j < 32 → (4374732215 : Nat).testBit (31 - j) = (3988292384 : Nat).testBit j := by decide
theorem m_bit {n b i : Nat} (hi : i < 32) : ((n * 2) ^^^ (b * 4294967296)).testBit i = (decide (1 ≤ i) && n.testBit (i - 1)) := by
  rw [Nat.testBit_xor]
  have h1 : (b * 4294967296).testBit i = false := by
    rw [show (4294967296 : Nat) = 2 ^ 32 from rfl, Nat.testBit_mul_two_pow]
    simp; omega
  rw [h1, Bool.xor_false]
  cases i with
  | zero => rw [Nat.testBit_zero]; simp
  | succ i => rw [Nat.testBit_succ, show n * 2 / 2 = n by omega]; simp
theorem m_top {n b : Nat} (h : n < 4294967296) (hb : b < 2) : ((n * 2) ^^^ (b * 4294967296)) / 4294967296 = 1 ↔ (n / 2147483648 % 2 + b) % 2 = 1 := by
  have e : ((n * 2) ^^^ (b * 4294967296)) / 4294967296 = (n * 2 / 4294967296) ^^^ b := by
    apply Nat.eq_of_testBit_eq
    intro i
    rw [show (4294967296 : Nat) = 2 ^ 32 from rfl, Nat.testBit_div_two_pow, Nat.testBit_xor, Nat.testBit_xor, Nat.testBit_div_two_pow, Nat.testBit_mul_two_pow]
    simp
  rw [e]
  have h1 : n * 2 / 4294967296 = n / 2147483648 := by omega
  rw [h1]
  have h2 : n / 2147483648 < 2 := by omega
  generalize n / 2147483648 = t at h2
  have ht : t = 0 ∨ t = 1 := by omega
  have hb' : b = 0 ∨ b = 1 := by omega
  rcases ht with rfl | rfl <;> rcases hb' with rfl | rfl <;> decide
theorem rv_step {n b : Nat} (h : n < 4294967296) (hb : b < 2) : rvN 32 (refB n b) = gB (rvN 32 n) b := by
  have hcond : (rvN 32 n % 2 + b) % 2 = 1 ↔ ((n * 2) ^^^ (b * 4294967296)) / 4294967296 = 1 := by rw [m_top h hb, rv_parity]
  have hr : rvN 32 n < 4294967296 := rvN_lt n 32
  apply Nat.eq_of_testBit_eq
  intro j
  rw [rv_bit _ 32 (Nat.le_refl _)]
  have hhalf : (rvN 32 n / 2).testBit j = (decide (j + 1 < 32) && n.testBit (31 - (j + 1))) := by
    rw [Nat.testBit_div_two, rv_bit n 32 (Nat.le_refl _)]
  by_cases hj : j < 32
  · have hm : ((n * 2) ^^^ (b * 4294967296)).testBit (32 - 1 - j) = (rvN 32 n / 2).testBit j := by
      rw [m_bit (by omega), hhalf]
      by_cases h1 : j = 31
      · subst h1; simp
      · rw [decide_eq_true (show 1 ≤ 32 - 1 - j by omega), decide_eq_true (show j + 1 < 32 by omega), show 32 - 1 - j - 1 = 31 - (j + 1) by omega]
    rw [decide_eq_true hj, Bool.true_and]
    unfold refB gB
    by_cases hc : ((n * 2) ^^^ (b * 4294967296)) / 4294967296 = 1
    · rw [if_pos hc, if_pos (hcond.2 hc), Nat.testBit_xor ((n * 2) ^^^ (b * 4294967296)), Nat.testBit_xor (rvN 32 n / 2), hm, show 32 - 1 - j = 31 - j by omega, poly_rv j hj]
    · rw [if_neg hc, if_neg (fun q => hc (hcond.1 q)), hm]
  · rw [decide_eq_false hj, Bool.false_and]
    have hp : (2 : Nat) ^ 32 ≤ 2 ^ j := Nat.pow_le_pow_right (by decide) (by omega)
    have h1 : (rvN 32 n / 2).testBit j = false := Nat.testBit_lt_two_pow (by omega)
    have h2 : (3988292384 : Nat).testBit j = false := Nat.testBit_lt_two_pow (by omega)
    unfold gB
    split
    · rw [Nat.testBit_xor, h1, h2]; rfl
    · rw [h1]
theorem rv_K (c : Nat) {n : Nat} (h : n < 4294967296) : ∀ k, rvN 32 (refK c k n) = gK c k (rvN 32 n)
  | 0 => rfl
  | k + 1 => by
    show rvN 32 (refB (refK c k n) _) = gB (gK c k _) _
    rw [rv_step (refK_lt c h k) (Nat.mod_lt _ (by decide)), rv_K c h k]
theorem rv_R (l : List UInt8) : ∀ {n : Nat}, n < 4294967296 → rvN 32 (refR l n) = crcR l (rvN 32 n) := by
  induction l with
  | nil => exact fun _ => rfl
  | cons c l ih =>
    intro n h
    show rvN 32 (refR l (refK c.toNat 8 n)) = crcR l (crcN 8 (rvN 32 n ^^^ c.toNat))
    rw [ih (refK_lt _ h 8), crc_byte c.toNat_lt, rv_K _ h]
/-- The program's check is the reference's. -/
theorem refC_eq (l : List UInt8) : refC l = crcP l := by
  unfold refC crcP
  rw [rv_R l (by decide), show rvN 32 4294967295 = 4294967295 from by decide +kernel]
/-! ### Another byte, another check -/
theorem crcB_inj {a b : Nat} (ha : a < 4294967296) (hb : b < 4294967296) (h : crcB a = crcB b) : a = b := by
  have top : ∀ n, n < 4294967296 → (crcB n).testBit 31 = decide (n % 2 = 1) := by
    intro n hn
    have h1 : (n / 2).testBit 31 = false := Nat.testBit_lt_two_pow (by omega)
    unfold crcB
    split
    · rename_i hq
      rw [Nat.testBit_xor, h1, decide_eq_true hq]; decide
    · rename_i hq
      rw [h1, decide_eq_false hq]
  have h2 : decide (a % 2 = 1) = decide (b % 2 = 1) := by rw [← top a ha, ← top b hb, h]
  have h3 : a % 2 = b % 2 := by
    rcases Nat.mod_two_eq_zero_or_one a with h4 | h4 <;> rcases Nat.mod_two_eq_zero_or_one b with h5 | h5 <;> rw [h4, h5] at h2 <;> simp at h2 <;> rw [h4, h5]
  have h6 : a / 2 = b / 2 := by
    unfold crcB at h
    rw [h3] at h
    split at h
    · have h7 := congrArg (· ^^^ 3988292384) h
      simp only [Nat.xor_assoc, Nat.xor_self, Nat.xor_zero] at h7
      exact h7
    · exact h
  omega
theorem crcN_inj {a b : Nat} (ha : a < 4294967296) (hb : b < 4294967296) : ∀ k, crcN k a = crcN k b → a = b
  | 0, h => h
  | k + 1, h => crcN_inj ha hb k (crcB_inj (crcN_lt k ha) (crcN_lt k hb) h)
theorem xor_cancel {a b c : Nat} (h : a ^^^ c = b ^^^ c) : a = b := by
  have := congrArg (· ^^^ c) h
  simp only [Nat.xor_assoc, Nat.xor_self, Nat.xor_zero] at this
  exact this
theorem xor_cancel' {a b c : Nat} (h : c ^^^ a = c ^^^ b) : a = b := xor_cancel (c := c) (by rw [Nat.xor_comm a, Nat.xor_comm b]; exact h)
theorem crcR_inj (l : List UInt8) : ∀ {a b : Nat}, a < 4294967296 → b < 4294967296 → crcR l a = crcR l b → a = b := by
  induction l with
  | nil => exact fun _ _ h => h
  | cons c l ih =>
    intro a b ha hb h
    have hc : c.toNat < 4294967296 := by have := c.toNat_lt; omega
    have h1 := ih (crcN_lt 8 (xlt ha hc)) (crcN_lt 8 (xlt hb hc)) h
    exact xor_cancel (crcN_inj (xlt ha hc) (xlt hb hc) 8 h1)
theorem crcR_app (a b : List UInt8) (n : Nat) : crcR (a ++ b) n = crcR b (crcR a n) := by simp [crcR]
/-- One byte that is another one is seen. -/
theorem crc_other {a b : List UInt8} {x y : UInt8} (h : crcP (a ++ x :: b) = crcP (a ++ y :: b)) : x = y := by
  have hx : x.toNat < 4294967296 := by have := x.toNat_lt; omega
  have hy : y.toNat < 4294967296 := by have := y.toNat_lt; omega
  have ha := crcR_lt a (n := 4294967295) (by decide)
  have h1 := crcR_lt (a ++ x :: b) (n := 4294967295) (by decide)
  have h2 := crcR_lt (a ++ y :: b) (n := 4294967295) (by decide)
  unfold crcP at h
  have h3 : crcR (a ++ x :: b) 4294967295 = crcR (a ++ y :: b) 4294967295 := by omega
  rw [crcR_app, crcR_app] at h3
  have h4 := crcR_inj b (crcN_lt 8 (xlt ha hx)) (crcN_lt 8 (xlt ha hy)) h3
  have h5 := crcN_inj (xlt ha hx) (xlt ha hy) 8 h4
  exact UInt8.toNat_inj.1 (xor_cancel' h5)
end Go.Proofs.Ytbcaooiphalkoaa
