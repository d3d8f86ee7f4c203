/-
  Package poly: Zero (its error; its value is not used by those who call it here).
-/
import Derived.Test.YtogpmiodnmigoaaThrough
import Derived.Test.YtogpmiodnmigoaaAt
set_option linter.unusedVariables false
set_option linter.unusedSimpArgs false
namespace Go.Proofs.Ytogpmiodnmigoaa
open Go Go.RowKit

theorem l_zero {w : World} {A : Option Addr} {m c : Nat} {l : List Pt} (hR : Rd w 2 (.slice A m c) (flatP l)) (hl : l.length ≤ 140737488355328) : Calls Try.prog 16 #[.slice A m c] w fun e w' => ∃ v, e = .returned v ∧ (((soundP l ≠ 0 ∧ v = .tuple #[.int .u64 0, .int .i64 (soundP l)]) ∨ (soundP l = 0 ∧ ∃ z : Nat, v = .tuple #[.int .u64 (z : Int), .int .i64 0])) ∧ At w No [] w') := by
  obtain rfl := pt_len hR
  refine body_in (n := 65) (l := [.slice A l.length c]) en16 rfl Try.ntmps16 rfl ?_
  have hA := At.refl w
  refine W_seq ?_
  refine W_reg ?_ -- 0 poly.go:108
  refine o_assign (v := .int _ _) rfl ?_
  refine o_assign (v := .int _ _) rfl ?_
  refine O_end ?_
  refine W_seq ?_
  refine W_seq ?_
  refine W_reg ?_ -- 1 poly.go:109
  refine o_move (by conv => lhs; whnf) ?_
  refine O_calls en30 rfl (l_sound hR hl) (fun v1 w1 hC => ?_)
  obtain ⟨rfl, hC⟩ := hC
  have hA := (hA.after hC).take
  refine o_assign (v := .int _ _) rfl ?_
  refine O_end ?_
  refine W_seq ?_
  refine W_reg ?_ -- 2 poly.go:109
  refine o_move (v := .int _ _) rfl ?_
  refine o_cmp2 rfl rfl rfl (fun h => ?_) (fun h => ?_)
  · -- True
    have q17 := bne_iff_ne.1 h
    refine O_end ?_
    refine W_then rfl ?_
    refine W_seq ?_
    refine W_reg ?_ -- 3 poly.go:110
    refine o_move (v := .int _ _) rfl ?_
    refine o_assign (v := .int _ _) rfl ?_
    refine o_assign (v := .int _ _) rfl ?_
    refine O_end ?_
    refine W_ret ?_
    refine ⟨rfl, ?_⟩
    refine ret2 Try.results16 (v := .int _ _) rfl (u := .int _ _) rfl ?_
    exact ⟨.inl ⟨by have := bne_iff_ne.1 h; exact this, rfl⟩, hA.clear⟩
  · -- False
    have q17 := bne_eq_false_iff_eq.1 h
    refine O_end ?_
    refine W_else rfl ?_
    refine W_skip ?_
    refine W_seq ?_
    refine W_reg ?_ -- 4 poly.go:112
    refine o_assign (v := .int _ _) rfl ?_
    refine O_end ?_
    refine W_seq ?_
    refine W_seq ?_
    refine W_reg ?_ -- 5 poly.go:113
    refine o_move (by conv => lhs; whnf) ?_
    refine o_len Try.underlying23 rfl ?_
    refine o_move (v := .int _ _) rfl ?_
    refine O_end ?_
    have hs0 : soundP l = 0 := by have := bne_eq_false_iff_eq.1 h; exact this
    obtain ⟨hl64, hpl, hvl⟩ := sound_places hs0
    refine W_block ?_ -- 0
    refine W_loop (fun kk ρ w' => ∃ (j z : Nat), kk = l.length - j ∧ j ≤ l.length ∧ ρ 21 = .int .i64 (j : Int) ∧ ρ 20 = .int .i64 (l.length : Int) ∧ ρ 19 = .slice A l.length c ∧ ρ 0 = .slice A l.length c ∧ ρ 5 = .int .u64 (z : Int) ∧ At w No [] w') l.length
      ⟨0, 0, by simp, Nat.zero_le _, rfl, rfl, rfl, rfl, rfl, hA⟩ ?_
    clear hA
    rintro kk ρ w1 ⟨j, z, rfl, hj, h21, h20, h19, h0, h5, hA⟩
    refine W_known (t := 21) h21 ?_
    refine W_known (t := 20) h20 ?_
    refine W_known (t := 19) h19 ?_
    refine W_known (t := 0) h0 ?_
    refine W_known (t := 5) h5 ?_
    refine W_seq ?_
    refine W_reg ?_ -- 6 poly.go:113
    refine o_cmp2 rfl rfl rfl (fun h => ?_) (fun h => ?_)
    · -- True
      have q22 := of_decide_eq_true h
      have hlt : j < l.length := by have := of_decide_eq_true h; omega
      obtain ⟨x, hx⟩ : ∃ x, l[j]? = some x := ⟨_, List.getElem?_eq_getElem hlt⟩
      have hxa := hpl x (List.mem_of_getElem? hx)
      obtain ⟨g0, o0, rfl⟩ := Rd.some hR (by rw [flatP_len]; omega)
      refine O_end ?_
      refine W_seq ?_
      refine W_then rfl ?_
      refine W_skip ?_
      refine W_seq ?_
      refine W_block ?_ -- 1
      refine W_seq ?_
      refine W_reg ?_ -- 7 poly.go:113
      refine o_move (v := .int _ _) rfl ?_
      refine o_index Try.underlying23 ti33 rfl rfl (by omega) (by omega) ?_
      refine o_loadN ag33 ti33 rfl (cs := ptc x) rfl (pt_cells (hR.old hA) hx) ?_
      refine o_alloc hA ti33 rfl (fun b2 w2 hA => ?_)
      refine o_assign (v := .int _ _) rfl ?_
      refine o_store (cs' := [_, _]) (i := 0) hA rfl (by conv => lhs; whnf) rfl ti33 rfl rfl rfl rfl (fun w3 hA => ?_)
      refine O_end ?_
      refine W_seq ?_
      refine W_reg ?_ -- 8 poly.go:114
      refine o_fieldAddr fo33_1 rfl rfl ?_
      refine o_load1 ag22 rfl (hA.c 0 rfl rfl) ?_
      refine o_assign (v := .int _ _) rfl ?_
      refine o_assign (v := .int _ _) rfl ?_
      refine O_end ?_
      refine W_seq ?_
      refine W_seq ?_
      refine W_reg ?_ -- 9 poly.go:115
      refine o_move (by conv => lhs; whnf) ?_
      refine o_len Try.underlying23 rfl ?_
      refine o_move (v := .int _ _) rfl ?_
      refine O_end ?_
      refine W_block ?_ -- 2
      refine W_loop (fun kk ρ w' => ∃ (i a d : Nat), kk = l.length - i ∧ i ≤ l.length ∧ ρ 30 = .int .i64 (i : Int) ∧ ρ 29 = .int .i64 (l.length : Int) ∧ ρ 28 = .slice (some ⟨g0, o0, none⟩) l.length c ∧ ρ 6 = .int .i64 (j : Int) ∧ ρ 7 = .pointer (some ⟨b2, 0, none⟩) ∧ ρ 8 = .int .u64 (a : Int) ∧ ρ 9 = .int .u64 (d : Int) ∧ ρ 21 = .int .i64 (j : Int) ∧ ρ 20 = .int .i64 (l.length : Int) ∧ ρ 19 = .slice (some ⟨g0, o0, none⟩) l.length c ∧ ρ 0 = .slice (some ⟨g0, o0, none⟩) l.length c ∧ ρ 5 = .int .u64 (z : Int) ∧ At w No [Cell b2 33 (ptc x)] w') l.length
        ⟨0, x.v, 1, by simp, Nat.zero_le _, rfl, rfl, rfl, rfl, rfl, rfl, rfl, rfl, rfl, rfl, rfl, rfl, hA⟩ ?_
      clear hA
      rintro kk ρ w1 ⟨i, a, d, rfl, hi, h30, h29, h28, h6, h7, h8, h9, h21, h20, h19, h0, h5, hA⟩
      refine W_known (t := 30) h30 ?_
      refine W_known (t := 29) h29 ?_
      refine W_known (t := 28) h28 ?_
      refine W_known (t := 6) h6 ?_
      refine W_known (t := 7) h7 ?_
      refine W_known (t := 8) h8 ?_
      refine W_known (t := 9) h9 ?_
      refine W_known (t := 21) h21 ?_
      refine W_known (t := 20) h20 ?_
      refine W_known (t := 19) h19 ?_
      refine W_known (t := 0) h0 ?_
      refine W_known (t := 5) h5 ?_
      refine W_seq ?_
      refine W_reg ?_ -- 10 poly.go:115
      refine o_cmp2 rfl rfl rfl (fun h => ?_) (fun h => ?_)
      · -- True
        have q31 := of_decide_eq_true h
        have hlti : i < l.length := by have := of_decide_eq_true h; omega
        obtain ⟨y, hy⟩ : ∃ y, l[i]? = some y := ⟨_, List.getElem?_eq_getElem hlti⟩
        have hya := hpl y (List.mem_of_getElem? hy)
        refine O_end ?_
        refine W_seq ?_
        refine W_then rfl ?_
        refine W_skip ?_
        refine W_seq ?_
        refine W_block ?_ -- 3
        refine W_seq ?_
        refine W_reg ?_ -- 11 poly.go:115
        refine o_move (v := .int _ _) rfl ?_
        refine o_index Try.underlying23 ti33 rfl rfl (by omega) (by omega) ?_
        refine o_loadN ag33 ti33 rfl (cs := ptc y) rfl (pt_cells (hR.old hA) hy) ?_
        refine o_alloc hA ti33 rfl (fun b4 w4 hA => ?_)
        refine o_assign (v := .int _ _) rfl ?_
        refine o_store (cs' := [_, _]) (i := 0) hA rfl (by conv => lhs; whnf) rfl ti33 rfl rfl rfl rfl (fun w5 hA => ?_)
        refine O_end ?_
        refine W_seq ?_
        refine W_reg ?_ -- 12 poly.go:116
        refine o_move (v := .int _ _) rfl ?_
        refine o_move (v := .int _ _) rfl ?_
        refine o_cmp2 rfl rfl rfl (fun h => ?_) (fun h => ?_)
        · -- True
          have q37 := bne_iff_ne.1 h
          refine O_end ?_
          refine W_then rfl ?_
          refine W_seq ?_
          refine W_reg ?_ -- 13 poly.go:117
          refine o_move (v := .int _ _) rfl ?_
          refine o_fieldAddr fo33_0 rfl rfl ?_
          refine o_load1 ag3 rfl (hA.c 0 rfl rfl) ?_
          refine o_conv Try.underlying3 Try.underlying22 rfl (conv_place hya.1 hya.2) ?_
          refine O_calls en18 rfl p_Mul (fun v6 w6 hC => ?_)
          obtain ⟨rfl, hC⟩ := hC
          have hA := (hA.after hC).take
          refine o_assign (v := .int _ _) rfl ?_
          refine O_end ?_
          refine W_reg ?_ -- 14 poly.go:118
          refine o_move (v := .int _ _) rfl ?_
          refine o_fieldAddr fo33_0 rfl rfl ?_
          refine o_load1 ag3 rfl (hA.c 0 rfl rfl) ?_
          refine o_conv Try.underlying3 Try.underlying22 rfl (conv_place hya.1 hya.2) ?_
          refine o_fieldAddr fo33_0 rfl rfl ?_
          refine o_load1 ag3 rfl (hA.c 1 rfl rfl) ?_
          refine o_conv Try.underlying3 Try.underlying22 rfl (conv_place hxa.1 hxa.2) ?_
          refine O_calls en19 rfl p_Sub (fun v7 w7 hC => ?_)
          obtain ⟨rfl, hC⟩ := hC
          have hA := (hA.after hC).take
          refine O_calls en18 rfl p_Mul (fun v8 w8 hC => ?_)
          obtain ⟨rfl, hC⟩ := hC
          have hA := (hA.after hC).take
          refine o_assign (v := .int _ _) rfl ?_
          refine O_end ?_
          refine W_reg ?_ -- 15 poly.go:115
          refine o_add rfl rfl (w64 (r := ((i + 1 : Nat) : Int)) (by omega) (by omega) (by omega)) ?_
          refine o_move (v := .int _ _) rfl ?_
          refine O_end ?_
          exact ⟨l.length - (i + 1), by omega, i + 1, _, _, rfl, by omega, rfl, rfl, rfl, rfl, rfl, rfl, rfl, rfl, rfl, rfl, rfl, rfl, hA.drop⟩
        · -- False
          have q37 := bne_eq_false_iff_eq.1 h
          refine O_end ?_
          refine W_else rfl ?_
          refine W_skip ?_
          refine W_reg ?_ -- 15 poly.go:115
          refine o_add rfl rfl (w64 (r := ((i + 1 : Nat) : Int)) (by omega) (by omega) (by omega)) ?_
          refine o_move (v := .int _ _) rfl ?_
          refine O_end ?_
          exact ⟨l.length - (i + 1), by omega, i + 1, _, _, rfl, by omega, rfl, rfl, rfl, rfl, rfl, rfl, rfl, rfl, rfl, rfl, rfl, rfl, hA.drop⟩
      · -- False
        have q31 := of_decide_eq_false h
        refine O_end ?_
        refine W_seq ?_
        refine W_else rfl ?_
        refine W_exit ?_
        refine xb_hit ?_
        refine W_seq ?_
        refine W_reg ?_ -- 16 poly.go:121
        refine o_move (v := .int _ _) rfl ?_
        refine O_calls en17 rfl p_Inv (fun v9 w9 hC => ?_)
        obtain ⟨hv, hC⟩ := hC
        have hA := (hA.after hC).take
        obtain ⟨zi, e, rfl⟩ : ∃ (zi : Nat) (e : Int), v9 = .tuple #[.int .u64 (zi : Int), .int .i64 e] := by
          rw [hv]
          split
          · exact ⟨0, 1, rfl⟩
          · exact ⟨_, 0, rfl⟩
        refine o_move (by conv => lhs; whnf) ?_
        refine o_extract rfl rfl ?_
        refine o_extract rfl rfl ?_
        refine o_assign (v := .int _ _) rfl ?_
        refine o_assign (v := .int _ _) rfl ?_
        refine O_end ?_
        refine W_reg ?_ -- 17 poly.go:122
        refine o_move (v := .int _ _) rfl ?_
        refine o_move (v := .int _ _) rfl ?_
        refine o_move (v := .int _ _) rfl ?_
        refine O_calls en18 rfl p_Mul (fun v10 w10 hC => ?_)
        obtain ⟨rfl, hC⟩ := hC
        have hA := (hA.after hC).take
        refine O_calls en31 rfl p_Add (fun v11 w11 hC => ?_)
        obtain ⟨rfl, hC⟩ := hC
        have hA := (hA.after hC).take
        refine o_assign (v := .int _ _) rfl ?_
        refine O_end ?_
        refine W_reg ?_ -- 18 poly.go:113
        refine o_add rfl rfl (w64 (r := ((j + 1 : Nat) : Int)) (by omega) (by omega) (by omega)) ?_
        refine o_move (v := .int _ _) rfl ?_
        refine O_end ?_
        exact ⟨l.length - (j + 1), by omega, j + 1, _, rfl, by omega, rfl, rfl, rfl, rfl, rfl, hA.clear⟩
    · -- False
      have q22 := of_decide_eq_false h
      refine O_end ?_
      refine W_seq ?_
      refine W_else rfl ?_
      refine W_exit ?_
      refine xb_hit ?_
      refine W_seq ?_
      refine W_reg ?_ -- 19 poly.go:124
      refine o_move (v := .int _ _) rfl ?_
      refine o_assign (v := .int _ _) rfl ?_
      refine o_assign (v := .int _ _) rfl ?_
      refine O_end ?_
      refine W_ret ?_
      refine ⟨rfl, ?_⟩
      refine ret2 Try.results16 (v := .int _ _) rfl (u := .int _ _) rfl ?_
      exact ⟨.inr ⟨hs0, _, rfl⟩, hA.clear⟩

end Go.Proofs.Ytogpmiodnmigoaa
