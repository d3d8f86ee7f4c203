/-
  Package letter: seal.
-/
import Derived.Test.YtbcaooiphalkoaaChk
set_option linter.unusedVariables false
set_option linter.unusedSimpArgs false
namespace Go.Proofs.Ytbcaooiphalkoaa
open Go Go.RowKit

theorem l_seal {w : World} {A : Option Addr} {b m c : Nat} {bs : List UInt8} (hP : At w (SS (pap b (.slice A m c) bs)) (pap b (.slice A m c) bs) w) (hl : bs.length ≤ 65536) : Calls Try.prog 25 #[.pointer (some ⟨b, 0, none⟩)] w fun e w' => ∃ v, e = .returned v ∧ ∃ s, v = .tuple #[s, .int .i64 0] ∧ At w (SS (pap b (.slice A m c) bs)) (Row 5 1 s (u8l (bs ++ leN (crcP bs) 4)) :: pap b (.slice A m c) bs) w' := by
  refine body_in (n := 39) (l := [.pointer (some ⟨b, 0, none⟩)]) en25 rfl Try.ntmps25 rfl ?_
  have hA := hP
  obtain rfl : m = bs.length := u8l_rd (hP.rd 1 rfl)
  refine W_seq ?_
  refine W_reg ?_ -- 0 letter.go:78
  refine o_assign (by conv => lhs; whnf) ?_
  refine o_assign (v := .int _ _) rfl ?_
  refine O_end ?_
  refine W_seq ?_
  refine W_block ?_ -- 0
  refine W_seq ?_
  refine W_reg ?_ -- 1 letter.go:80
  refine o_move (v := .pointer _) rfl ?_
  refine o_eqnil2 Try.underlying58 rfl rfl (.inl ⟨rfl, rfl⟩) (fun h => (by first | exact absurd h (by decide) | (exfalso; simp at h; omega) | (exfalso; simp at h))) (fun h => ?_)
  have q7 := h
  refine o_assign (v := .bool _) rfl ?_
  refine O_end ?_
  refine W_else rfl ?_
  refine W_seq ?_
  refine W_reg ?_ -- 3 letter.go:82
  refine o_move (v := .pointer _) rfl ?_
  refine o_nilCheck rfl ?_
  refine o_fieldAddr fo95_1 rfl rfl ?_
  refine o_load1 ag4 rfl (hA.c 0 rfl rfl) ?_
  refine o_assign (v := .bool _) rfl ?_
  refine O_end ?_
  refine W_else rfl ?_
  refine W_seq ?_
  refine W_reg ?_ -- 5 letter.go:84
  refine o_move (v := .pointer _) rfl ?_
  refine o_nilCheck rfl ?_
  refine o_fieldAddr fo95_0 rfl rfl ?_
  refine o_load1 ag32 rfl (hA.c 0 rfl rfl) ?_
  refine o_len Try.underlying32 rfl ?_
  refine o_cmp2 rfl rfl rfl (fun h => (by first | exact absurd h (by decide) | (exfalso; simp at h; omega) | (exfalso; simp at h))) (fun h => ?_)
  have q19 := of_decide_eq_false h
  refine o_assign (v := .bool _) rfl ?_
  refine O_end ?_
  refine W_else rfl ?_
  refine W_skip ?_
  refine W_seq ?_
  refine W_reg ?_ -- 7 letter.go:87
  refine o_move (v := .pointer _) rfl ?_
  refine o_nilCheck rfl ?_
  refine o_fieldAddr fo95_0 rfl rfl ?_
  refine o_load1 ag32 rfl (hA.c 0 rfl rfl) ?_
  refine O_calls en58 rfl (c_clone (hA.rd 1 rfl) (by omega)) (fun v1 w1 hC => ?_)
  obtain ⟨A5, m5, c5, rfl⟩ := (hC.row 0 rfl).slice
  have hA := hA.more hC
  refine o_build la95 rfl rfl ?_
  refine o_box hA (by conv => lhs; whnf) rfl (fun b2 w2 hA => ?_)
  refine o_assign (v := .pointer _) rfl ?_
  refine O_end ?_
  refine W_seq ?_
  refine W_reg ?_ -- 8 letter.go:88
  refine o_move (v := .pointer _) rfl ?_
  refine o_move (v := .pointer _) rfl ?_
  refine o_nilCheck rfl ?_
  refine o_fieldAddr fo95_0 rfl rfl ?_
  refine o_load1 ag32 rfl (hA.c 2 rfl rfl) ?_
  refine O_calls en60 rfl (c_check (hA.rd 3 rfl) (by omega)) (fun v3 w3 hC => ?_)
  obtain ⟨rfl, hC⟩ := hC
  have hA := (hA.after hC).take
  refine o_conv Try.underlying63 Try.underlying48 rfl (u64w rfl (by have := crcP_lt bs; omega)) ?_
  refine O_calls en57 rfl (l_lay (hA.own (R := pap b2 (.slice A5 m5 c5) bs)) (k := 4) (n := crcP bs) (bs := bs) (by decide) (by have := crcP_lt bs; omega) (by omega)) (fun v4 w4 hC => ?_)
  obtain ⟨A6, m6, c6, rfl, hC⟩ := hC
  have hA : At w _ (pap b2 (.slice A6 m6 c6) (bs ++ leN (crcP bs) 4) ++ pap b (.slice A bs.length c) bs) _ := hA.trans hC
  refine o_nilCheck rfl ?_
  refine o_fieldAddr fo95_0 rfl rfl ?_
  refine o_load1 ag32 rfl (hA.c 0 rfl rfl) ?_
  refine O_calls en59 rfl (c_clip (hA.row 1 rfl)) (fun v5 w5 hC => ?_)
  have hA := hA.more hC.2.2
  refine o_assign (by conv => lhs; whnf) ?_
  refine o_assign (v := .int _ _) rfl ?_
  refine O_end ?_
  refine W_ret ?_
  refine ⟨rfl, ?_⟩
  refine ret2 Try.results25 (by conv => lhs; whnf) (u := .int _ _) rfl ?_
  obtain ⟨A9, m9, c9, rfl⟩ := hC.1.slice
  exact ⟨_, rfl, (hA.drop).turn hC.1 hC.2.1⟩

end Go.Proofs.Ytbcaooiphalkoaa
