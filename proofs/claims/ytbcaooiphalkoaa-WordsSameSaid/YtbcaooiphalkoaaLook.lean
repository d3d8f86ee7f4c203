/-
  Package letter: Look, End.
-/
import Derived.Test.YtbcaooiphalkoaaEye
set_option linter.unusedVariables false
set_option linter.unusedSimpArgs false
namespace Go.Proofs.Ytbcaooiphalkoaa
open Go Go.RowKit

theorem Src.mk0 {w : World} {g o m c : Nat} {s : List UInt8} (h : Rd w 1 (.slice (some ⟨g, o, none⟩) m c) (u8l s)) : Src w g (.slice (some ⟨g, o, none⟩) m c) s := ⟨h, by
  rintro x ⟨a, _, _, he, _, rfl⟩
  injection he with he
  injection he with he; rw [← he]⟩
theorem Rd.block_lt {w : World} {g o m c : Nat} {x : UInt8} {s : List UInt8} (h : Rd w 1 (.slice (some ⟨g, o, none⟩) m c) (u8l (x :: s))) : g < w.heap.size := by
  have := h.cells (j := 0) (u := u8v x) rfl
  unfold World.cell? at this
  cases hh : w.heap[g]? with
  | none => rw [hh] at this; cases this
  | some o => exact (Array.getElem?_eq_some_iff.1 hh).1
/-- What Look sees. -/
def lookP (bs : List UInt8) : Es := if bs.length < 4 then ⟨[], 3⟩ else if 65540 < bs.length then ⟨[], 6⟩ else if crcP (bs.take (bs.length - 4)) = leV (bs.drop (bs.length - 4)) then ⟨bs.take (bs.length - 4), 0⟩ else ⟨[], 2⟩
/-- A row that no chunk touches, as a source. -/
theorem At.src {w0 w : World} {M : Nat → Prop} {F : List Ch} {m c : Nat} {A : Option Addr} {s : List UInt8} (h : At w0 M (F ++ [Row 5 1 (.slice A m c) (u8l s)]) w) : ∃ g, Src w g (.slice A m c) s ∧ ¬ SS F g := by
  have hr : IsRow w 5 1 (.slice A m c) (u8l s) := h.holds (Row 5 1 (.slice A m c) (u8l s)) (List.mem_append_right _ (List.mem_singleton.2 rfl))
  rcases Nat.eq_zero_or_pos c with h0 | h0
  · refine ⟨w.heap.size, ⟨hr.rd, fun x ⟨a, m', c', he, hc, _⟩ => ?_⟩, ?_⟩
    · injection he with _ _ h3; omega
    · rintro ⟨c, hc, hs⟩
      have := (h.room c (List.mem_append_left _ hc) _ hs).1
      omega
  · have hr' := hr
    obtain ⟨A', m', c', he, _, _, _, hq⟩ := hr
    injection he with e1 e2 e3
    subst e1; subst e2; subst e3
    rcases hq with hq | ⟨g, cur, rfl, _⟩
    · omega
    · refine ⟨g, Src.mk0 hr'.rd, ?_⟩
      rintro ⟨d, hd, hs⟩
      have := (List.pairwise_append.1 h.apart).2.2 d hd _ (List.mem_singleton.2 rfl)
      exact this g hs ⟨_, _, _, rfl, h0, rfl⟩

theorem e_look {w : World} {D : Value} {l : List UInt8} (hR : Rd w 1 D (u8l l)) : Calls Try.prog 26 #[D] w fun e w' => ∃ v, e = .returned v ∧ (∃ be, v = .pointer (some ⟨be, 0, none⟩) ∧ ∃ (A' : Option Addr) (m' c' : Nat), At w No [EyeC be (.slice A' m' c') (lookP l).e, Row 5 1 (.slice A' m' c') (u8l (lookP l).s)] w') := by
  obtain ⟨A, m, c, rfl, _⟩ := id hR
  obtain rfl := u8l_rd hR
  refine body_in (n := 39) (l := [.slice A l.length c]) en26 rfl Try.ntmps26 rfl ?_
  have hA := At.refl w
  obtain ⟨z, hz⟩ : ∃ z : Int, z = (l.length : Int) - 4 := ⟨_, rfl⟩
  have hcap := hR.capm
  have hcm : c ≤ 9223372036854775807 := hcap.2
  refine W_seq ?_
  refine W_reg ?_ -- 0 letter.go:98
  refine o_assign (v := .pointer _) rfl ?_
  refine O_end ?_
  refine W_seq ?_
  refine W_reg ?_ -- 1 letter.go:99
  refine o_move (by conv => lhs; whnf) ?_
  refine o_len Try.underlying32 rfl ?_
  refine o_sub rfl rfl (w64 (r := z) (by omega) (by omega) (by omega)) ?_
  refine o_assign (v := .int _ _) rfl ?_
  refine O_end ?_
  refine W_seq ?_
  refine W_block ?_ -- 0
  refine W_seq ?_
  refine W_reg ?_ -- 2 letter.go:101
  refine o_move (v := .int _ _) rfl ?_
  refine o_cmp2 rfl rfl rfl (fun h => ?_) (fun h => ?_)
  · -- True
    have q10 := of_decide_eq_true h
    refine o_assign (v := .bool _) rfl ?_
    refine O_end ?_
    refine W_then rfl ?_
    refine W_seq ?_
    refine W_reg ?_ -- 3 letter.go:102
    refine o_build la100 rfl rfl ?_
    refine o_box hA (by conv => lhs; whnf) rfl (fun b1 w1 hA => ?_)
    refine o_assign (v := .pointer _) rfl ?_
    refine O_end ?_
    refine W_ret ?_
    refine xb_ret ?_
    refine ⟨rfl, ?_⟩
    refine ret1 Try.results26 (v := .pointer _) rfl ?_
    refine ⟨_, rfl, none, 0, 0, ?_⟩
    rw [show lookP l = ⟨[], 3⟩ by unfold lookP; rw [if_pos (by omega)]]
    exact (hA.nilRow 5 1 none).rot
  · -- False
    have q10 := of_decide_eq_false h
    refine o_assign (v := .bool _) rfl ?_
    refine O_end ?_
    refine W_else rfl ?_
    refine W_seq ?_
    refine W_reg ?_ -- 4 letter.go:103
    refine o_move (v := .int _ _) rfl ?_
    refine o_cmp2 rfl rfl rfl (fun h => ?_) (fun h => ?_)
    · -- True
      have q15 := of_decide_eq_true h
      refine o_assign (v := .bool _) rfl ?_
      refine O_end ?_
      refine W_then rfl ?_
      refine W_seq ?_
      refine W_reg ?_ -- 5 letter.go:104
      refine o_build la100 rfl rfl ?_
      refine o_box hA (by conv => lhs; whnf) rfl (fun b2 w2 hA => ?_)
      refine o_assign (v := .pointer _) rfl ?_
      refine O_end ?_
      refine W_ret ?_
      refine xb_ret ?_
      refine ⟨rfl, ?_⟩
      refine ret1 Try.results26 (v := .pointer _) rfl ?_
      refine ⟨_, rfl, none, 0, 0, ?_⟩
      rw [show lookP l = ⟨[], 6⟩ by unfold lookP; rw [if_neg (by omega), if_pos (by omega)]]
      exact (hA.nilRow 5 1 none).rot
    · -- False
      have q15 := of_decide_eq_false h
      obtain ⟨k, rfl⟩ : ∃ k : Nat, z = (k : Int) := ⟨z.toNat, by omega⟩
      have hk : k = l.length - 4 := by omega
      obtain ⟨x0, l0, hl0⟩ : ∃ x0 l0, l = x0 :: l0 := by
        cases hl : l with
        | nil => rw [hl] at hz; simp at hz
        | cons x0 l0 => exact ⟨x0, l0, rfl⟩
      obtain ⟨g0, o0, rfl⟩ := hR.addr (by decide) (show _ = l.length * 1 by simp [u8l]) (by omega)
      have hlt0 : g0 < w.heap.size := by
        have hR0 := hR
        rw [hl0] at hR0
        exact hR0.block_lt
      have hSrc := Src.mk0 hR
      have hTl := hSrc.tail (n := k) (by omega)
      have hHd : Rd w 1 (.slice (if c = 0 then some ⟨g0, o0, none⟩ else (some (⟨g0, o0, none⟩ : Addr)).map (·.add (0 * 1))) (k - 0) (c - 0)) (u8l (l.take k)) := by
        have h3 := hR.cut (l := 0) (h := k) (mm := c) (Nat.le_refl _) (by omega) (Nat.zero_le _) (by omega)
        have h4 : List.take ((k - 0) * 1) (List.drop (0 * 1) (u8l l)) = u8l (l.take k) := by simp [u8l, List.map_take]
        rw [← h4]; exact h3
      have htk : (l.take k).length ≤ 1000000 := by rw [List.length_take]; omega
      have htl : (Es.tk ⟨l.drop k, 0⟩ 4) = l.drop k := by
        unfold Es.tk
        rw [if_pos ⟨rfl, by simp; omega⟩, List.take_of_length_le (by simp; omega)]
      refine o_assign (v := .bool _) rfl ?_
      refine O_end ?_
      refine W_else rfl ?_
      refine W_skip ?_
      refine W_seq ?_
      refine W_reg ?_ -- 6 letter.go:106
      refine o_move (by conv => lhs; whnf) ?_
      refine o_move (v := .int _ _) rfl ?_
      refine o_slice Try.underlying32 ti5 rfl (.inl ⟨rfl, rfl⟩) (.inl ⟨rfl, rfl⟩) (.inr ⟨_, rfl⟩) (by simp) (Nat.le_refl _) (show l.length ≤ c by omega) (show k ≤ l.length by omega) ?_
      refine o_build la100 rfl rfl ?_
      refine o_box hA (by conv => lhs; whnf) rfl (fun b3 w3 hA => ?_)
      refine o_assign (v := .pointer _) rfl ?_
      refine O_end ?_
      refine W_seq ?_
      refine W_seq ?_
      refine W_reg ?_ -- 7 letter.go:107
      refine o_move (by conv => lhs; whnf) ?_
      refine o_move (v := .int _ _) rfl ?_
      refine o_slice Try.underlying32 ti5 rfl (.inl ⟨rfl, rfl⟩) (.inr ⟨_, rfl⟩) (.inl ⟨rfl, rfl⟩) (by simp) (Nat.le_refl _) (show k ≤ c by omega) (Nat.zero_le _) ?_
      refine O_calls en60 rfl (c_check (hHd.at_ hA fun _ _ => id) htk) (fun v4 w4 hC => ?_)
      obtain ⟨rfl, hC⟩ := hC
      have hA := (hA.after hC).take
      refine o_conv Try.underlying63 Try.underlying48 rfl (u64w rfl (by have := crcP_lt (l.take k); omega)) ?_
      refine o_move (v := .pointer _) rfl ?_
      refine O_calls en61 rfl (e_number (t := ⟨l.drop k, 0⟩) hA.own1 (hTl.at_ hA id) (by have := (hA.room _ (List.mem_cons_self ..) b3 rfl).2; rcases this with h | h; exact h.elim; omega) 4 (by decide)) (fun v5 w5 hC => ?_)
      obtain ⟨rfl, A5, m5, c5, hT, _⟩ := hC
      have hA := hA.trans1 hT
      rw [htl]
      refine o_cmp2 rfl rfl rfl (fun h => ?_) (fun h => ?_)
      · -- True
        have q30 := bne_iff_ne.1 h
        refine O_end ?_
        refine W_then rfl ?_
        refine W_seq ?_
        refine W_reg ?_ -- 8 letter.go:108
        refine o_build la100 rfl rfl ?_
        refine o_box hA (by conv => lhs; whnf) rfl (fun b6 w6 hA => ?_)
        refine o_assign (v := .pointer _) rfl ?_
        refine O_end ?_
        refine W_ret ?_
        refine ⟨rfl, ?_⟩
        refine ret1 Try.results26 (v := .pointer _) rfl ?_
        refine ⟨_, rfl, none, 0, 0, ?_⟩
        rw [show lookP l = ⟨[], 2⟩ by unfold lookP; rw [if_neg (by omega), if_neg (by omega), if_neg (by rw [← hk]; omega)]]
        exact ((hA.keep 1).nilRow 5 1 none).rot
      · -- False
        have q30 := bne_eq_false_iff_eq.1 h
        refine O_end ?_
        refine W_else rfl ?_
        refine W_skip ?_
        refine W_seq ?_
        refine W_reg ?_ -- 9 letter.go:110
        refine o_move (by conv => lhs; whnf) ?_
        refine o_move (v := .int _ _) rfl ?_
        refine o_slice Try.underlying32 ti5 rfl (.inl ⟨rfl, rfl⟩) (.inr ⟨_, rfl⟩) (.inl ⟨rfl, rfl⟩) (by simp) (Nat.le_refl _) (show k ≤ c by omega) (Nat.zero_le _) ?_
        refine O_calls en58 rfl (c_clone (hHd.at_ hA fun _ _ => id) htk) (fun v7 w7 hC => ?_)
        obtain ⟨A7, m7, c7, rfl⟩ := (hC.row 0 rfl).slice
        have hA := hA.more hC
        refine o_build la100 rfl rfl ?_
        refine o_box hA (by conv => lhs; whnf) rfl (fun b8 w8 hA => ?_)
        refine o_assign (v := .pointer _) rfl ?_
        refine O_end ?_
        refine W_ret ?_
        refine ⟨rfl, ?_⟩
        refine ret1 Try.results26 (v := .pointer _) rfl ?_
        refine ⟨_, rfl, A7, m7, c7, ?_⟩
        rw [show lookP l = ⟨l.take k, 0⟩ by unfold lookP; rw [if_neg (by omega), if_neg (by omega), if_pos (by rw [← hk]; omega), ← hk]]
        exact hA.keep 2

theorem e_end {w : World} {A : Option Addr} {be m c g : Nat} {t : Es} (hP : At w (SS [EyeC be (.slice A m c) t.e]) [EyeC be (.slice A m c) t.e] w) (hS : Src w g (.slice A m c) t.s) : Calls Try.prog 37 #[.pointer (some ⟨be, 0, none⟩)] w fun e w' => ∃ v, e = .returned v ∧ ∃ k : Nat, v = .int .i64 (k : Int) ∧ (k = 0 ↔ t.e = 0 ∧ t.s = []) ∧ ∃ (e' : Nat), At w (SS [EyeC be (.slice A m c) t.e]) [EyeC be (.slice A m c) e'] w' := by
  refine body_in (n := 27) (l := [.pointer (some ⟨be, 0, none⟩)]) en37 rfl Try.ntmps37 rfl ?_
  have hA := hP
  obtain rfl : m = t.s.length := u8l_rd hS.rd
  refine W_seq ?_
  refine W_reg ?_ -- 0 letter.go:146
  refine o_assign (v := .int _ _) rfl ?_
  refine O_end ?_
  refine W_seq ?_
  refine W_block ?_ -- 0
  refine W_seq ?_
  refine W_reg ?_ -- 1 letter.go:148
  refine o_move (v := .pointer _) rfl ?_
  refine o_eqnil2 Try.underlying66 rfl rfl (.inl ⟨rfl, rfl⟩) (fun h => (by first | exact absurd h (by decide) | (exfalso; simp at h; omega) | (exfalso; simp at h))) (fun h => ?_)
  have q5 := h
  refine o_assign (v := .bool _) rfl ?_
  refine O_end ?_
  refine W_else rfl ?_
  refine W_seq ?_
  refine W_reg ?_ -- 3 letter.go:150
  refine o_move (v := .pointer _) rfl ?_
  refine o_nilCheck rfl ?_
  refine o_fieldAddr fo100_1 rfl rfl ?_
  refine o_load1 ag22 rfl (hA.c 0 rfl rfl) ?_
  refine o_cmp2 rfl rfl rfl (fun h => ?_) (fun h => ?_)
  · -- True
    have q11 := beq_iff_eq.1 h
    refine o_move (v := .bool _) rfl ?_
    refine O_yes rfl rfl rfl ?_
    refine o_move (v := .pointer _) rfl ?_
    refine O_yes rfl rfl rfl ?_
    refine o_nilCheck rfl ?_
    refine O_yes rfl rfl rfl ?_
    refine o_fieldAddr fo100_0 rfl rfl ?_
    refine O_yes rfl rfl rfl ?_
    refine o_load1 ag32 rfl (hA.c 0 rfl rfl) ?_
    refine O_yes rfl rfl rfl ?_
    refine o_len Try.underlying32 rfl ?_
    refine O_yes rfl rfl rfl ?_
    refine o_cmp2 rfl rfl rfl (fun h => ?_) (fun h => ?_)
    · -- True
      have q18 := of_decide_eq_true h
      refine o_pick_t rfl (v := .bool _) rfl ?_
      refine o_assign (v := .bool _) rfl ?_
      refine O_end ?_
      refine W_then rfl ?_
      refine W_reg ?_ -- 4 letter.go:151
      refine o_move (v := .pointer _) rfl ?_
      refine o_nilCheck rfl ?_
      refine o_fieldAddr fo100_1 rfl rfl ?_
      refine o_store (cs' := [_, _]) (i := 0) hA rfl (v := .int _ _) rfl rfl ti22 rfl rfl rfl rfl (fun w1 hA => ?_)
      refine O_end ?_
      refine W_seq ?_
      refine W_reg ?_ -- 5 letter.go:153
      refine o_move (v := .pointer _) rfl ?_
      refine o_nilCheck rfl ?_
      refine o_fieldAddr fo100_1 rfl rfl ?_
      refine o_load1 ag22 rfl (hA.c 0 rfl rfl) ?_
      refine o_assign (v := .int _ _) rfl ?_
      refine O_end ?_
      refine W_ret ?_
      refine ⟨rfl, ?_⟩
      refine ret1 Try.results37 (v := .int _ _) rfl ?_
      exact ⟨2, rfl, ⟨fun h => (by cases h), fun h => (by rw [h.2] at q18; simp at q18)⟩, 2, hA⟩
    · -- False
      have q18 := of_decide_eq_false h
      refine o_pick_t rfl (v := .bool _) rfl ?_
      refine o_assign (v := .bool _) rfl ?_
      refine O_end ?_
      refine W_else rfl ?_
      refine W_skip ?_
      refine W_seq ?_
      refine W_reg ?_ -- 5 letter.go:153
      refine o_move (v := .pointer _) rfl ?_
      refine o_nilCheck rfl ?_
      refine o_fieldAddr fo100_1 rfl rfl ?_
      refine o_load1 ag22 rfl (hA.c 0 rfl rfl) ?_
      refine o_assign (v := .int _ _) rfl ?_
      refine O_end ?_
      refine W_ret ?_
      refine ⟨rfl, ?_⟩
      refine ret1 Try.results37 (v := .int _ _) rfl ?_
      exact ⟨t.e, rfl, ⟨fun h => ⟨h, List.eq_nil_of_length_eq_zero (by omega)⟩, fun h => h.1⟩, t.e, hA⟩
  · -- False
    have q11 := beq_eq_false_iff_ne.1 h
    refine o_move (v := .bool _) rfl ?_
    refine O_no rfl rfl rfl rfl ?_
    refine O_no rfl rfl rfl rfl ?_
    refine O_no rfl rfl rfl rfl ?_
    refine O_no rfl rfl rfl rfl ?_
    refine O_no rfl rfl rfl rfl ?_
    refine O_no rfl rfl rfl rfl ?_
    refine o_pick_f rfl (v := .bool _) rfl ?_
    refine o_assign (v := .bool _) rfl ?_
    refine O_end ?_
    refine W_else rfl ?_
    refine W_skip ?_
    refine W_seq ?_
    refine W_reg ?_ -- 5 letter.go:153
    refine o_move (v := .pointer _) rfl ?_
    refine o_nilCheck rfl ?_
    refine o_fieldAddr fo100_1 rfl rfl ?_
    refine o_load1 ag22 rfl (hA.c 0 rfl rfl) ?_
    refine o_assign (v := .int _ _) rfl ?_
    refine O_end ?_
    refine W_ret ?_
    refine ⟨rfl, ?_⟩
    refine ret1 Try.results37 (v := .int _ _) rfl ?_
    exact ⟨t.e, rfl, ⟨fun h => (by omega), fun h => h.1⟩, t.e, hA⟩

end Go.Proofs.Ytbcaooiphalkoaa
