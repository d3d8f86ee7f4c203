/-
  Package letter: the check; slices of bytes.
-/
import Derived.Test.YtbcaooiphalkoaaLet
set_option linter.unusedVariables false
set_option linter.unusedSimpArgs false
namespace Go.Proofs.Ytbcaooiphalkoaa
open Go Go.RowKit

/-- The check's step of one bit. -/
def crcB (n : Nat) : Nat := if n % 2 = 1 then (n / 2) ^^^ 3988292384 else n / 2
def crcN : Nat → Nat → Nat
  | 0, n => n
  | k + 1, n => crcB (crcN k n)
def crcR (l : List UInt8) (n : Nat) : Nat := l.foldl (fun n c => crcN 8 (n ^^^ c.toNat)) n
/-- The check of bytes. -/
def crcP (l : List UInt8) : Nat := 4294967295 - crcR l 4294967295
theorem xlt {a b : Nat} (ha : a < 4294967296) (hb : b < 4294967296) : a ^^^ b < 4294967296 := Nat.xor_lt_two_pow (n := 32) ha hb
theorem crcB_lt {n : Nat} (h : n < 4294967296) : crcB n < 4294967296 := by
  unfold crcB; split
  · exact xlt (by omega) (by omega)
  · omega
theorem crcN_lt (k : Nat) {n : Nat} (h : n < 4294967296) : crcN k n < 4294967296 := by
  induction k with
  | zero => exact h
  | succ k ih => exact crcB_lt ih
theorem crcR_lt (l : List UInt8) : ∀ {n : Nat}, n < 4294967296 → crcR l n < 4294967296 := by
  induction l with
  | nil => exact fun h => h
  | cons c l ih => exact fun h => ih (crcN_lt 8 (xlt h (by have := c.toNat_lt; omega)))
theorem crcR_snoc (l : List UInt8) (c : UInt8) (n : Nat) : crcR (l ++ [c]) n = crcN 8 (crcR l n ^^^ c.toNat) := by simp [crcR]
theorem crcP_lt (l : List UInt8) : crcP l < 4294967296 := by unfold crcP; omega

theorem c_check {w : World} {D : Value} {l : List UInt8} (hR : Rd w 1 D (u8l l)) (hl : l.length ≤ 1000000) : Calls Try.prog 60 #[D] w fun e w' => ∃ v, e = .returned v ∧ (v = .int .u32 ((crcP l : Nat) : Int) ∧ At w No [] w') := by
  obtain ⟨A, m, c, rfl, _⟩ := id hR
  obtain rfl := u8l_rd hR
  refine body_in (n := 31) (l := [.slice A l.length c]) en60 rfl Try.ntmps60 rfl ?_
  have hA := At.refl w
  refine W_seq ?_
  refine W_reg ?_ -- 0 letter.go:18
  refine o_assign (v := .int _ _) rfl ?_
  refine O_end ?_
  refine W_seq ?_
  refine W_reg ?_ -- 1 letter.go:19
  refine o_assign (v := .int _ _) rfl ?_
  refine O_end ?_
  refine W_seq ?_
  refine W_seq ?_
  refine W_reg ?_ -- 2 letter.go:20
  refine o_move (by conv => lhs; whnf) ?_
  refine o_len Try.underlying32 rfl ?_
  refine o_move (v := .int _ _) rfl ?_
  refine O_end ?_
  refine W_block ?_ -- 0
  refine W_loop (fun kk ρ w' => ∃ (j : Nat), kk = l.length - j ∧ j ≤ l.length ∧ ρ 9 = .int .i64 (j : Int) ∧ ρ 8 = .int .i64 (l.length : Int) ∧ ρ 7 = .slice A l.length c ∧ ρ 3 = .int .u32 ((crcR (l.take j) 4294967295 : Nat) : Int) ∧ At w No [] w') l.length
    ⟨0, by simp, Nat.zero_le _, rfl, rfl, rfl, rfl, hA⟩ ?_
  clear hA
  rintro kk ρ w1 ⟨j, rfl, hj, h9, h8, h7, h3, hA⟩
  refine W_known (t := 9) h9 ?_
  refine W_known (t := 8) h8 ?_
  refine W_known (t := 7) h7 ?_
  refine W_known (t := 3) h3 ?_
  refine W_seq ?_
  refine W_reg ?_ -- 3 letter.go:20
  refine o_cmp2 rfl rfl rfl (fun h => ?_) (fun h => ?_)
  · -- True
    have q10 := of_decide_eq_true h
    have hlt : j < l.length := by omega
    obtain ⟨x, hx⟩ : ∃ x, l[j]? = some x := ⟨_, List.getElem?_eq_getElem hlt⟩
    obtain ⟨g0, o0, rfl⟩ := hR.addr (by decide) (show _ = l.length * 1 by simp [u8l]) (by omega)
    have hxl : x.toNat < 4294967296 := by have := x.toNat_lt; omega
    have hcl : crcR (l.take j) 4294967295 < 4294967296 := crcR_lt _ (by omega)
    refine O_end ?_
    refine W_seq ?_
    refine W_then rfl ?_
    refine W_skip ?_
    refine W_seq ?_
    refine W_block ?_ -- 1
    refine W_seq ?_
    refine W_reg ?_ -- 4 letter.go:20
    refine o_index Try.underlying32 ti5 rfl rfl (by omega) (by omega) ?_
    refine o_load1 ag5 rfl (u8l_elt (hR.old hA) hx) ?_
    refine o_assign (v := .int _ _) rfl ?_
    refine O_end ?_
    refine W_seq ?_
    refine W_reg ?_ -- 5 letter.go:21
    refine o_move (v := .int _ _) rfl ?_
    refine o_move (v := .int _ _) rfl ?_
    refine o_conv Try.underlying5 Try.underlying63 rfl (u32w rfl hxl) ?_
    refine o_bits (by simp) rfl rfl (b_xor32 hcl hxl rfl) ?_
    refine o_assign (v := .int _ _) rfl ?_
    refine O_end ?_
    refine W_seq ?_
    refine W_reg ?_ -- 6 letter.go:22
    refine o_move (v := .int _ _) rfl ?_
    refine O_end ?_
    refine W_block ?_ -- 2
    refine W_loop (fun kk ρ w' => ∃ (k : Nat), kk = 8 - k ∧ k ≤ 8 ∧ ρ 17 = .int .i64 (k : Int) ∧ ρ 9 = .int .i64 (j : Int) ∧ ρ 8 = .int .i64 (l.length : Int) ∧ ρ 7 = .slice (some ⟨g0, o0, none⟩) l.length c ∧ ρ 3 = .int .u32 ((crcN k (crcR (l.take j) 4294967295 ^^^ x.toNat) : Nat) : Int) ∧ At w No [] w') 8
      ⟨0, by simp, Nat.zero_le _, rfl, rfl, rfl, rfl, rfl, hA⟩ ?_
    clear hA
    rintro kk ρ w1 ⟨k, rfl, hk, h17, h9, h8, h7, h3, hA⟩
    refine W_known (t := 17) h17 ?_
    refine W_known (t := 9) h9 ?_
    refine W_known (t := 8) h8 ?_
    refine W_known (t := 7) h7 ?_
    refine W_known (t := 3) h3 ?_
    refine W_seq ?_
    refine W_reg ?_ -- 7 letter.go:22
    refine o_cmp2 rfl rfl rfl (fun h => ?_) (fun h => ?_)
    · -- True
      have q18 := of_decide_eq_true h
      have hkk : k < 8 := by omega
      obtain ⟨y, hy⟩ : ∃ y, y = crcN k (crcR (l.take j) 4294967295 ^^^ x.toNat) := ⟨_, rfl⟩
      have hyl : y < 4294967296 := by rw [hy]; exact crcN_lt k (xlt hcl hxl)
      rw [← hy]
      refine O_end ?_
      refine W_seq ?_
      refine W_then rfl ?_
      refine W_skip ?_
      refine W_seq ?_
      refine W_block ?_ -- 3
      refine W_seq ?_
      refine W_reg ?_ -- 8 letter.go:23
      refine o_move (v := .int _ _) rfl ?_
      refine o_bits (by simp) rfl rfl (b_and32 hyl (by decide) (Nat.and_one_is_mod y)) ?_
      refine o_assign (v := .int _ _) rfl ?_
      refine O_end ?_
      refine W_seq ?_
      refine W_reg ?_ -- 9 letter.go:24
      refine o_move (v := .int _ _) rfl ?_
      refine o_shr rfl rfl (by omega) (shr_n32 y 1 (by decide)) ?_
      refine o_assign (v := .int _ _) rfl ?_
      refine O_end ?_
      refine W_seq ?_
      refine W_reg ?_ -- 10 letter.go:25
      refine o_move (v := .int _ _) rfl ?_
      refine o_cmp2 rfl rfl rfl (fun h => ?_) (fun h => ?_)
      · -- True
        have q24 := beq_iff_eq.1 h
        refine O_end ?_
        refine W_then rfl ?_
        refine W_reg ?_ -- 11 letter.go:26
        refine o_move (v := .int _ _) rfl ?_
        refine o_bits (by simp) rfl rfl (b_xor32 (b := 3988292384) (show y / 2 ^ 1 < 4294967296 by omega) (by decide) rfl) ?_
        refine o_assign (v := .int _ _) rfl ?_
        refine O_end ?_
        refine W_reg ?_ -- 12 letter.go:22
        refine o_add rfl rfl (w64 (r := ((k + 1 : Nat) : Int)) (by omega) (by omega) (by omega)) ?_
        refine o_move (v := .int _ _) rfl ?_
        refine O_end ?_
        refine ⟨8 - (k + 1), by omega, k + 1, rfl, by omega, rfl, rfl, rfl, rfl, ?_, hA⟩
        show Value.int .u32 _ = .int .u32 ((crcB (crcN k _) : Nat) : Int)
        rw [← hy]
        unfold crcB
        rw [if_pos (show y % 2 = 1 by omega)]
      · -- False
        have q24 := beq_eq_false_iff_ne.1 h
        refine O_end ?_
        refine W_else rfl ?_
        refine W_skip ?_
        refine W_reg ?_ -- 12 letter.go:22
        refine o_add rfl rfl (w64 (r := ((k + 1 : Nat) : Int)) (by omega) (by omega) (by omega)) ?_
        refine o_move (v := .int _ _) rfl ?_
        refine O_end ?_
        refine ⟨8 - (k + 1), by omega, k + 1, rfl, by omega, rfl, rfl, rfl, rfl, ?_, hA⟩
        show Value.int .u32 _ = .int .u32 ((crcB (crcN k _) : Nat) : Int)
        rw [← hy]
        unfold crcB
        rw [if_neg (show ¬ y % 2 = 1 by omega)]
    · -- False
      have q18 := of_decide_eq_false h
      obtain rfl : k = 8 := by omega
      refine O_end ?_
      refine W_seq ?_
      refine W_else rfl ?_
      refine W_exit ?_
      refine xb_hit ?_
      refine W_reg ?_ -- 13 letter.go:20
      refine o_add rfl rfl (w64 (r := ((j + 1 : Nat) : Int)) (by omega) (by omega) (by omega)) ?_
      refine o_move (v := .int _ _) rfl ?_
      refine O_end ?_
      refine ⟨l.length - (j + 1), by omega, j + 1, rfl, by omega, rfl, rfl, rfl, ?_, hA⟩
      rw [List.take_add_one, hx]
      show Value.int .u32 _ = .int .u32 ((crcR (l.take j ++ [x]) 4294967295 : Nat) : Int)
      rw [crcR_snoc]
  · -- False
    have q10 := of_decide_eq_false h
    refine O_end ?_
    refine W_seq ?_
    refine W_else rfl ?_
    refine W_exit ?_
    refine xb_hit ?_
    refine W_seq ?_
    refine W_reg ?_ -- 14 letter.go:30
    refine o_move (v := .int _ _) rfl ?_
    refine o_unxor rfl (not32 (crcR_lt _ (by omega))) ?_
    refine o_assign (v := .int _ _) rfl ?_
    refine O_end ?_
    refine W_ret ?_
    refine ⟨rfl, ?_⟩
    refine ret1 Try.results60 (v := .int _ _) rfl ?_
    obtain rfl : j = l.length := by omega
    exact ⟨by rw [List.take_length]; rfl, hA⟩

theorem c_clone {w : World} {D : Value} {l : List UInt8} (hR : Rd w 1 D (u8l l)) (hl : l.length ≤ 1000000) : Calls Try.prog 58 #[D] w fun e w' => ∃ v, e = .returned v ∧ (At w No [Row 5 1 v (u8l l)] w') := by
  obtain ⟨A, m, c, rfl, hlen, hc, hm, hd⟩ := id hR
  obtain rfl := u8l_rd hR
  refine body_in (n := 8) (l := [.slice A l.length c]) en58 rfl Try.ntmps58 rfl ?_
  have hA := At.refl w
  refine W_seq ?_
  refine W_reg ?_ -- 0 slices.go:355
  refine o_assign (by conv => lhs; whnf) ?_
  refine O_end ?_
  refine W_seq ?_
  refine W_seq ?_
  refine W_reg ?_ -- 1 slices.go:357
  refine o_move (by conv => lhs; whnf) ?_
  refine o_eqnils2 Try.underlying32 rfl rfl (.inl ⟨rfl, rfl⟩) (fun h => ?_) (fun h => ?_)
  · -- True
    have q4 := h
    refine O_end ?_
    refine W_then rfl ?_
    refine W_seq ?_
    refine W_reg ?_ -- 2 slices.go:358
    refine o_assign (by conv => lhs; whnf) ?_
    refine O_end ?_
    refine W_ret ?_
    refine ⟨rfl, ?_⟩
    refine ret1 Try.results58 (by conv => lhs; whnf) ?_
    obtain rfl : A = none := by cases A with | none => rfl | some a => cases h
    obtain rfl : l = [] := by
      rcases hd with h0 | ⟨b, o, h0, _⟩
      · simpa [u8l] using h0
      · cases h0
    exact hA.nilRow 5 1 none
  · -- False
    have q4 := h
    refine O_end ?_
    refine W_else rfl ?_
    refine W_skip ?_
    refine W_seq ?_
    refine W_reg ?_ -- 3 slices.go:362
    refine o_buildSlice (cs := []) hA Try.underlying32 ti5 rfl rfl rfl rfl rfl (fun a1 w1 hA => ?_)
    refine o_move (by conv => lhs; whnf) ?_
    refine o_append (i := 0) hA rfl rfl rfl Try.underlying32 ti5 rfl (by decide) (hR.old hA) (u8l_one l) (fun m k h1 h2 => by simp [u8l] at h1 h2; omega) (fun m k h1 h2 => by simp [u8l] at h1 h2; omega) (fun v2 w2 hA => ?_)
    refine o_assign (by conv => lhs; whnf) ?_
    refine O_end ?_
    refine W_ret ?_
    refine ⟨rfl, ?_⟩
    refine ret1 Try.results58 (by conv => lhs; whnf) ?_
    exact hA

theorem c_clip {w : World} {D : Value} {l : List UInt8} (hR : IsRow w 5 1 D (u8l l)) : Calls Try.prog 59 #[D] w fun e w' => ∃ v, e = .returned v ∧ (IsRow w' 5 1 v (u8l l) ∧ (∀ b, InBlk v b → InBlk D b) ∧ At w No [] w') := by
  obtain ⟨A, m, c, rfl, hlen, hc, hm, hd⟩ := id hR
  obtain rfl : m = l.length := u8l_rd hR.rd
  refine body_in (n := 9) (l := [.slice A l.length c]) en59 rfl Try.ntmps59 rfl ?_
  have hA := At.refl w
  refine W_seq ?_
  refine W_reg ?_ -- 0 slices.go:435
  refine o_assign (by conv => lhs; whnf) ?_
  refine O_end ?_
  refine W_seq ?_
  refine W_reg ?_ -- 1 slices.go:436
  refine o_move (by conv => lhs; whnf) ?_
  refine o_move (by conv => lhs; whnf) ?_
  refine o_len Try.underlying32 rfl ?_
  refine o_move (by conv => lhs; whnf) ?_
  refine o_len Try.underlying32 rfl ?_
  refine o_slice Try.underlying32 ti5 rfl (.inr ⟨_, rfl⟩) (.inr ⟨_, rfl⟩) (.inl ⟨rfl, rfl⟩) (by simp) (by omega) (Nat.le_refl _) (Nat.zero_le _) ?_
  refine o_assign (by conv => lhs; whnf) ?_
  refine O_end ?_
  refine W_ret ?_
  refine ⟨rfl, ?_⟩
  refine ret1 Try.results59 (by conv => lhs; whnf) ?_
  have hr := (hR.head (mm := l.length) (h := l.length) (by omega) (Nat.le_refl _) (Nat.le_refl _))
  rw [List.take_of_length_le (by simp [u8l])] at hr
  exact ⟨hr, fun b hb => cut_blk (s := 1) (by omega) (Nat.zero_le _) hb, hA⟩

end Go.Proofs.Ytbcaooiphalkoaa
