/-
  Words: the reader's lists.
-/
import Derived.Test.YtbcaooiphalkoaaRda
set_option linter.unusedVariables false
set_option linter.unusedSimpArgs false
namespace Go.Proofs.Ytbcaooiphalkoaa
open Go Go.RowKit

theorem r_cards {w : World} {A : Option Addr} {br be m c g : Nat} {p : Ps} (hP : At w (SS (RdC br be (.slice A m c) p)) (RdC br be (.slice A m c) p) w) (hS : Src w g (.slice A m c) p.t.s) (hg : g ≠ be) (hr : g ≠ br) : Calls Try.prog 28 #[.pointer (some ⟨br, 0, none⟩), .func (.func 29) #[.pointer (some ⟨br, 0, none⟩)] #[]] w fun e w' => ∃ v, e = .returned v ∧ ∃ (L : Option Addr) (lm lc : Nat), v = .slice L lm lc ∧ ∃ (A' : Option Addr) (m' c' : Nat), At w (SS (RdC br be (.slice A m c) p)) (RdC br be (.slice A' m' c') ((pList pCard p).2) ++ [Row 50 3 (.slice L lm lc) ((pList pCard p).1.flatMap cdc)]) w' ∧ Der g (.slice A m c) p.t.s (.slice A' m' c') ((pList pCard p).2).t.s := by
  refine body_in (n := 34) (l := [.pointer (some ⟨br, 0, none⟩), .func (.func 29) #[.pointer (some ⟨br, 0, none⟩)] #[]]) en28 rfl Try.ntmps28 rfl ?_
  have hA := hP
  have hM : ¬ SS (RdC br be (.slice A m c) p) g := RdC_S hg hr
  obtain ⟨K, hK⟩ : ∃ K, K = min (p.num 4) 257 := ⟨_, rfl⟩
  refine W_seq ?_
  refine W_reg ?_ -- 0 words.go:138
  refine o_assign (by conv => lhs; whnf) ?_
  refine O_end ?_
  refine W_seq ?_
  refine W_reg ?_ -- 1 words.go:139
  refine o_move (v := .pointer _) rfl ?_
  refine o_nilCheck rfl ?_
  refine o_fieldAddr fo69_0 rfl rfl ?_
  refine o_load1 ag66 rfl (hA.c 0 rfl rfl) ?_
  refine O_calls en27 rfl (e_small (t := p.t) (hA.mown (A := [_]) (R := [EyeC be (.slice A m c) p.t.e]) (G := [])) (hS.at_ hA hM) hg) (fun v1 w1 hC => ?_)
  obtain ⟨rfl, A1, m1, c1, hT1, hD1⟩ := hC
  have hA := hA.mid (A := [_]) (G := []) hT1
  have D1 := hD1
  refine o_assign (v := .int _ _) rfl ?_
  refine O_end ?_
  refine W_seq ?_
  refine W_reg ?_ -- 2 words.go:140
  refine o_assign (by conv => lhs; whnf) ?_
  refine O_end ?_
  refine W_seq ?_
  refine W_seq ?_
  refine W_reg ?_ -- 3 words.go:141
  refine o_move (v := .int _ _) rfl ?_
  refine o_min rfl (show (if (257 : Int) < ((p.num 4 : Nat) : Int) then (257 : Int) else ((p.num 4 : Nat) : Int)) = (K : Int) by split <;> omega) ?_
  refine o_move (v := .int _ _) rfl ?_
  refine O_end ?_
  refine W_block ?_ -- 0
  have hA := (hA.nilRow 50 3 none).rot
  refine W_loop (fun kk ρ w' => ∃ (j : Nat) (A' : Option Addr) (m' c' : Nat) (L : Option Addr) (lm lc : Nat), kk = K - j ∧ j ≤ K ∧ ρ 14 = .int .i64 (j : Int) ∧ ρ 13 = .int .i64 (K : Int) ∧ ρ 0 = .pointer (some ⟨br, 0, none⟩) ∧ ρ 1 = .func (.func 29) #[.pointer (some ⟨br, 0, none⟩)] #[] ∧ ρ 5 = .int .i64 ((p.num 4 : Nat) : Int) ∧ ρ 6 = .slice L lm lc ∧ At w (SS (RdC br be (.slice A m c) p)) (RdC br be (.slice A' m' c') (pRep pCard (p.nx 4) j).2 ++ [Row 50 3 (.slice L lm lc) ((pRep pCard (p.nx 4) j).1.flatMap cdc)]) w' ∧ Der g (.slice A m c) p.t.s (.slice A' m' c') ((pRep pCard (p.nx 4) j).2).t.s) K
    ⟨0, A1, m1, c1, none, 0, 0, by simp, Nat.zero_le _, rfl, rfl, rfl, rfl, rfl, rfl, hA, D1⟩ ?_
  clear hA
  rintro kk ρ w2 ⟨j, A', m', c', L, lm, lc, rfl, hj, h14, h13, h0, h1, h5, h6, hA, D⟩
  refine W_known (t := 14) h14 ?_
  refine W_known (t := 13) h13 ?_
  refine W_known (t := 0) h0 ?_
  refine W_known (t := 1) h1 ?_
  refine W_known (t := 5) h5 ?_
  refine W_known (t := 6) h6 ?_
  refine W_seq ?_
  refine W_reg ?_ -- 4 words.go:141
  refine o_cmp2 rfl rfl rfl (fun h => ?_) (fun h => ?_)
  · -- True
    have q15 := of_decide_eq_true h
    have hjK : j < K := by omega
    have hSj := D _ (hS.at_ hA hM)
    refine O_end ?_
    refine W_seq ?_
    refine W_then rfl ?_
    refine W_skip ?_
    refine W_seq ?_
    refine W_block ?_ -- 1
    refine W_reg ?_ -- 5 words.go:142
    refine o_move (by conv => lhs; whnf) ?_
    refine o_move (by conv => lhs; whnf) ?_
    refine O_callv (fi := [.pointer (some ⟨br, 0, none⟩)]) (ca := []) en29 rfl rfl (r_card (hA.own (R := RdC br be (.slice A' m' c') (pRep pCard (p.nx 4) j).2)) hSj hg hr) (fun v2 w2 hC => ?_)
    obtain ⟨rfl, A2, m2, c2, hT2, hD2⟩ := hC
    have hA := hA.trans hT2
    have D2 := D.trans hD2
    refine o_buildSlice (cs := [_, _, _]) hA Try.underlying23 ti50 rfl rfl rfl rfl rfl (fun a3 w3 hA => ?_)
    refine o_append (i := 3) hA rfl rfl rfl Try.underlying23 ti50 rfl (by decide) (hA.rd 0 rfl) (fun u hu => by simp only [List.mem_cons, List.not_mem_nil, or_false] at hu; rcases hu with rfl | rfl | rfl <;> rfl) (fun a k h1 h2 => by rw [fm_len (f := cdc) (s := 3) (fun _ => rfl), pRep_len] at h1; simp at h2; omega) (fun a k h1 h2 => by rw [fm_len (f := cdc) (s := 3) (fun _ => rfl), pRep_len] at h1; simp at h2; omega) (fun v4 w4 hA => ?_)
    obtain ⟨Av4, mv4, cv4, rfl⟩ := (hA.row 3 rfl).slice
    refine o_assign (by conv => lhs; whnf) ?_
    refine O_end ?_
    refine W_reg ?_ -- 6 words.go:141
    refine o_add rfl rfl (w64 (r := ((j + 1 : Nat) : Int)) (by omega) (by omega) (by omega)) ?_
    refine o_move (v := .int _ _) rfl ?_
    refine O_end ?_
    refine ⟨K - (j + 1), by omega, j + 1, A2, m2, c2, Av4, mv4, cv4, rfl, by omega, rfl, rfl, rfl, rfl, rfl, rfl, ?_, D2⟩
    show At w _ (_ ++ [Row _ _ _ (((pRep pCard (p.nx 4) j).1 ++ [(pCard (pRep pCard (p.nx 4) j).2).1]).flatMap cdc)]) _
    rw [List.flatMap_append]
    exact hA.drop
  · -- False
    have q15 := of_decide_eq_false h
    refine O_end ?_
    refine W_seq ?_
    refine W_else rfl ?_
    refine W_exit ?_
    refine xb_hit ?_
    refine W_seq ?_
    refine W_reg ?_ -- 7 words.go:144
    refine o_move (v := .pointer _) rfl ?_
    refine o_move (v := .pointer _) rfl ?_
    refine o_nilCheck rfl ?_
    refine o_fieldAddr fo69_1 rfl rfl ?_
    refine o_load1b ag4 rfl (hA.c 0 rfl rfl) (fun h => ?_) (fun h => ?_)
    · -- True
      have q26 := h
      refine o_move (v := .bool _) rfl ?_
      refine O_no rfl rfl rfl rfl ?_
      refine O_no rfl rfl rfl rfl ?_
      refine o_pick_t rfl (v := .bool _) rfl ?_
      refine o_nilCheck rfl ?_
      refine o_fieldAddr fo69_1 rfl rfl ?_
      refine o_store (cs' := [_, _]) (i := 0) hA rfl (v := .bool _) rfl rfl ti4 rfl rfl rfl rfl (fun w5 hA => ?_)
      refine O_end ?_
      refine W_seq ?_
      refine W_reg ?_ -- 8 words.go:145
      refine o_move (by conv => lhs; whnf) ?_
      refine o_assign (by conv => lhs; whnf) ?_
      refine O_end ?_
      refine W_ret ?_
      refine ⟨rfl, ?_⟩
      refine ret1 Try.results28 (by conv => lhs; whnf) ?_
      have hjK : j = K := by omega
      subst hjK
      subst hK
      refine ⟨L, lm, lc, rfl, A', m', c', ?_, D⟩
      show At w _ ([Cell br 69 [_, .bool ((pRep pCard (p.nx 4) (min (p.num 4) 257)).2.odd || decide (256 < p.num 4))], _] ++ _) _
      rw [q26, Bool.true_or]
      exact hA
    · -- False
      have q26 := h
      refine o_move (v := .bool _) rfl ?_
      refine O_yes rfl rfl rfl ?_
      refine o_move (v := .int _ _) rfl ?_
      refine O_yes rfl rfl rfl ?_
      refine o_cmp rfl rfl rfl ?_
      refine o_pick_f rfl (v := .bool _) rfl ?_
      refine o_nilCheck rfl ?_
      refine o_fieldAddr fo69_1 rfl rfl ?_
      refine o_store (cs' := [_, _]) (i := 0) hA rfl (v := .bool _) rfl rfl ti4 rfl rfl rfl rfl (fun w6 hA => ?_)
      refine O_end ?_
      refine W_seq ?_
      refine W_reg ?_ -- 8 words.go:145
      refine o_move (by conv => lhs; whnf) ?_
      refine o_assign (by conv => lhs; whnf) ?_
      refine O_end ?_
      refine W_ret ?_
      refine ⟨rfl, ?_⟩
      refine ret1 Try.results28 (by conv => lhs; whnf) ?_
      have hjK : j = K := by omega
      subst hjK
      subst hK
      refine ⟨L, lm, lc, rfl, A', m', c', ?_, D⟩
      show At w _ ([Cell br 69 [_, .bool ((pRep pCard (p.nx 4) (min (p.num 4) 257)).2.odd || decide (256 < p.num 4))], _] ++ _) _
      rw [q26, Bool.false_or, show decide (256 < p.num 4) = decide ((256 : Int) < ((p.num 4 : Nat) : Int)) by rw [decide_eq_decide]; omega]
      exact hA

theorem r_cells {w : World} {A : Option Addr} {br be m c g : Nat} {p : Ps} (hP : At w (SS (RdC br be (.slice A m c) p)) (RdC br be (.slice A m c) p) w) (hS : Src w g (.slice A m c) p.t.s) (hg : g ≠ be) (hr : g ≠ br) : Calls Try.prog 32 #[.pointer (some ⟨br, 0, none⟩), .func (.func 33) #[.pointer (some ⟨br, 0, none⟩)] #[]] w fun e w' => ∃ v, e = .returned v ∧ ∃ (L : Option Addr) (lm lc : Nat), v = .slice L lm lc ∧ ∃ (A' : Option Addr) (m' c' : Nat), At w (SS (RdC br be (.slice A m c) p)) (RdC br be (.slice A' m' c') ((pList pCell p).2) ++ [Row 63 1 (.slice L lm lc) ((pList pCell p).1.map u32v)]) w' ∧ Der g (.slice A m c) p.t.s (.slice A' m' c') ((pList pCell p).2).t.s := by
  refine body_in (n := 34) (l := [.pointer (some ⟨br, 0, none⟩), .func (.func 33) #[.pointer (some ⟨br, 0, none⟩)] #[]]) en32 rfl Try.ntmps32 rfl ?_
  have hA := hP
  have hM : ¬ SS (RdC br be (.slice A m c) p) g := RdC_S hg hr
  obtain ⟨K, hK⟩ : ∃ K, K = min (p.num 4) 257 := ⟨_, rfl⟩
  refine W_seq ?_
  refine W_reg ?_ -- 0 words.go:138
  refine o_assign (by conv => lhs; whnf) ?_
  refine O_end ?_
  refine W_seq ?_
  refine W_reg ?_ -- 1 words.go:139
  refine o_move (v := .pointer _) rfl ?_
  refine o_nilCheck rfl ?_
  refine o_fieldAddr fo69_0 rfl rfl ?_
  refine o_load1 ag66 rfl (hA.c 0 rfl rfl) ?_
  refine O_calls en27 rfl (e_small (t := p.t) (hA.mown (A := [_]) (R := [EyeC be (.slice A m c) p.t.e]) (G := [])) (hS.at_ hA hM) hg) (fun v1 w1 hC => ?_)
  obtain ⟨rfl, A1, m1, c1, hT1, hD1⟩ := hC
  have hA := hA.mid (A := [_]) (G := []) hT1
  have D1 := hD1
  refine o_assign (v := .int _ _) rfl ?_
  refine O_end ?_
  refine W_seq ?_
  refine W_reg ?_ -- 2 words.go:140
  refine o_assign (by conv => lhs; whnf) ?_
  refine O_end ?_
  refine W_seq ?_
  refine W_seq ?_
  refine W_reg ?_ -- 3 words.go:141
  refine o_move (v := .int _ _) rfl ?_
  refine o_min rfl (show (if (257 : Int) < ((p.num 4 : Nat) : Int) then (257 : Int) else ((p.num 4 : Nat) : Int)) = (K : Int) by split <;> omega) ?_
  refine o_move (v := .int _ _) rfl ?_
  refine O_end ?_
  refine W_block ?_ -- 0
  have hA := (hA.nilRow 63 1 none).rot
  refine W_loop (fun kk ρ w' => ∃ (j : Nat) (A' : Option Addr) (m' c' : Nat) (L : Option Addr) (lm lc : Nat), kk = K - j ∧ j ≤ K ∧ ρ 14 = .int .i64 (j : Int) ∧ ρ 13 = .int .i64 (K : Int) ∧ ρ 0 = .pointer (some ⟨br, 0, none⟩) ∧ ρ 1 = .func (.func 33) #[.pointer (some ⟨br, 0, none⟩)] #[] ∧ ρ 5 = .int .i64 ((p.num 4 : Nat) : Int) ∧ ρ 6 = .slice L lm lc ∧ At w (SS (RdC br be (.slice A m c) p)) (RdC br be (.slice A' m' c') (pRep pCell (p.nx 4) j).2 ++ [Row 63 1 (.slice L lm lc) ((pRep pCell (p.nx 4) j).1.map u32v)]) w' ∧ Der g (.slice A m c) p.t.s (.slice A' m' c') ((pRep pCell (p.nx 4) j).2).t.s) K
    ⟨0, A1, m1, c1, none, 0, 0, by simp, Nat.zero_le _, rfl, rfl, rfl, rfl, rfl, rfl, hA, D1⟩ ?_
  clear hA
  rintro kk ρ w2 ⟨j, A', m', c', L, lm, lc, rfl, hj, h14, h13, h0, h1, h5, h6, hA, D⟩
  refine W_known (t := 14) h14 ?_
  refine W_known (t := 13) h13 ?_
  refine W_known (t := 0) h0 ?_
  refine W_known (t := 1) h1 ?_
  refine W_known (t := 5) h5 ?_
  refine W_known (t := 6) h6 ?_
  refine W_seq ?_
  refine W_reg ?_ -- 4 words.go:141
  refine o_cmp2 rfl rfl rfl (fun h => ?_) (fun h => ?_)
  · -- True
    have q15 := of_decide_eq_true h
    have hjK : j < K := by omega
    have hSj := D _ (hS.at_ hA hM)
    refine O_end ?_
    refine W_seq ?_
    refine W_then rfl ?_
    refine W_skip ?_
    refine W_seq ?_
    refine W_block ?_ -- 1
    refine W_reg ?_ -- 5 words.go:142
    refine o_move (by conv => lhs; whnf) ?_
    refine o_move (by conv => lhs; whnf) ?_
    refine O_callv (fi := [.pointer (some ⟨br, 0, none⟩)]) (ca := []) en33 rfl rfl (r_cell (hA.own (R := RdC br be (.slice A' m' c') (pRep pCell (p.nx 4) j).2)) hSj hg hr) (fun v2 w2 hC => ?_)
    obtain ⟨rfl, A2, m2, c2, hT2, hD2⟩ := hC
    have hA := hA.trans hT2
    have D2 := D.trans hD2
    refine o_buildSlice (cs := [_]) hA Try.underlying25 ti63 rfl rfl rfl rfl rfl (fun a3 w3 hA => ?_)
    refine o_append (i := 3) hA rfl rfl rfl Try.underlying25 ti63 rfl (by decide) (hA.rd 0 rfl) (fun u hu => by obtain rfl := List.mem_singleton.1 hu; rfl) (fun a k h1 h2 => by rw [List.length_map, pRep_len] at h1; simp at h2; omega) (fun a k h1 h2 => by rw [List.length_map, pRep_len] at h1; simp at h2; omega) (fun v4 w4 hA => ?_)
    obtain ⟨Av4, mv4, cv4, rfl⟩ := (hA.row 3 rfl).slice
    refine o_assign (by conv => lhs; whnf) ?_
    refine O_end ?_
    refine W_reg ?_ -- 6 words.go:141
    refine o_add rfl rfl (w64 (r := ((j + 1 : Nat) : Int)) (by omega) (by omega) (by omega)) ?_
    refine o_move (v := .int _ _) rfl ?_
    refine O_end ?_
    refine ⟨K - (j + 1), by omega, j + 1, A2, m2, c2, Av4, mv4, cv4, rfl, by omega, rfl, rfl, rfl, rfl, rfl, rfl, ?_, D2⟩
    show At w _ (_ ++ [Row _ _ _ (((pRep pCell (p.nx 4) j).1 ++ [(pCell (pRep pCell (p.nx 4) j).2).1]).map u32v)]) _
    rw [List.map_append]
    exact hA.drop
  · -- False
    have q15 := of_decide_eq_false h
    refine O_end ?_
    refine W_seq ?_
    refine W_else rfl ?_
    refine W_exit ?_
    refine xb_hit ?_
    refine W_seq ?_
    refine W_reg ?_ -- 7 words.go:144
    refine o_move (v := .pointer _) rfl ?_
    refine o_move (v := .pointer _) rfl ?_
    refine o_nilCheck rfl ?_
    refine o_fieldAddr fo69_1 rfl rfl ?_
    refine o_load1b ag4 rfl (hA.c 0 rfl rfl) (fun h => ?_) (fun h => ?_)
    · -- True
      have q26 := h
      refine o_move (v := .bool _) rfl ?_
      refine O_no rfl rfl rfl rfl ?_
      refine O_no rfl rfl rfl rfl ?_
      refine o_pick_t rfl (v := .bool _) rfl ?_
      refine o_nilCheck rfl ?_
      refine o_fieldAddr fo69_1 rfl rfl ?_
      refine o_store (cs' := [_, _]) (i := 0) hA rfl (v := .bool _) rfl rfl ti4 rfl rfl rfl rfl (fun w5 hA => ?_)
      refine O_end ?_
      refine W_seq ?_
      refine W_reg ?_ -- 8 words.go:145
      refine o_move (by conv => lhs; whnf) ?_
      refine o_assign (by conv => lhs; whnf) ?_
      refine O_end ?_
      refine W_ret ?_
      refine ⟨rfl, ?_⟩
      refine ret1 Try.results32 (by conv => lhs; whnf) ?_
      have hjK : j = K := by omega
      subst hjK
      subst hK
      refine ⟨L, lm, lc, rfl, A', m', c', ?_, D⟩
      show At w _ ([Cell br 69 [_, .bool ((pRep pCell (p.nx 4) (min (p.num 4) 257)).2.odd || decide (256 < p.num 4))], _] ++ _) _
      rw [q26, Bool.true_or]
      exact hA
    · -- False
      have q26 := h
      refine o_move (v := .bool _) rfl ?_
      refine O_yes rfl rfl rfl ?_
      refine o_move (v := .int _ _) rfl ?_
      refine O_yes rfl rfl rfl ?_
      refine o_cmp rfl rfl rfl ?_
      refine o_pick_f rfl (v := .bool _) rfl ?_
      refine o_nilCheck rfl ?_
      refine o_fieldAddr fo69_1 rfl rfl ?_
      refine o_store (cs' := [_, _]) (i := 0) hA rfl (v := .bool _) rfl rfl ti4 rfl rfl rfl rfl (fun w6 hA => ?_)
      refine O_end ?_
      refine W_seq ?_
      refine W_reg ?_ -- 8 words.go:145
      refine o_move (by conv => lhs; whnf) ?_
      refine o_assign (by conv => lhs; whnf) ?_
      refine O_end ?_
      refine W_ret ?_
      refine ⟨rfl, ?_⟩
      refine ret1 Try.results32 (by conv => lhs; whnf) ?_
      have hjK : j = K := by omega
      subst hjK
      subst hK
      refine ⟨L, lm, lc, rfl, A', m', c', ?_, D⟩
      show At w _ ([Cell br 69 [_, .bool ((pRep pCell (p.nx 4) (min (p.num 4) 257)).2.odd || decide (256 < p.num 4))], _] ++ _) _
      rw [q26, Bool.false_or, show decide (256 < p.num 4) = decide ((256 : Int) < ((p.num 4 : Nat) : Int)) by rw [decide_eq_decide]; omega]
      exact hA

theorem r_ints {w : World} {A : Option Addr} {br be m c g : Nat} {p : Ps} (hP : At w (SS (RdC br be (.slice A m c) p)) (RdC br be (.slice A m c) p) w) (hS : Src w g (.slice A m c) p.t.s) (hg : g ≠ be) (hr : g ≠ br) : Calls Try.prog 34 #[.pointer (some ⟨br, 0, none⟩), .func (.func 27) #[.pointer (some ⟨be, 0, none⟩)] #[]] w fun e w' => ∃ v, e = .returned v ∧ ∃ (L : Option Addr) (lm lc : Nat), v = .slice L lm lc ∧ ∃ (A' : Option Addr) (m' c' : Nat), At w (SS (RdC br be (.slice A m c) p)) (RdC br be (.slice A' m' c') ((pList pSmall p).2) ++ [Row 3 1 (.slice L lm lc) ((pList pSmall p).1.map i64v)]) w' ∧ Der g (.slice A m c) p.t.s (.slice A' m' c') ((pList pSmall p).2).t.s := by
  refine body_in (n := 34) (l := [.pointer (some ⟨br, 0, none⟩), .func (.func 27) #[.pointer (some ⟨be, 0, none⟩)] #[]]) en34 rfl Try.ntmps34 rfl ?_
  have hA := hP
  have hM : ¬ SS (RdC br be (.slice A m c) p) g := RdC_S hg hr
  obtain ⟨K, hK⟩ : ∃ K, K = min (p.num 4) 257 := ⟨_, rfl⟩
  refine W_seq ?_
  refine W_reg ?_ -- 0 words.go:138
  refine o_assign (by conv => lhs; whnf) ?_
  refine O_end ?_
  refine W_seq ?_
  refine W_reg ?_ -- 1 words.go:139
  refine o_move (v := .pointer _) rfl ?_
  refine o_nilCheck rfl ?_
  refine o_fieldAddr fo69_0 rfl rfl ?_
  refine o_load1 ag66 rfl (hA.c 0 rfl rfl) ?_
  refine O_calls en27 rfl (e_small (t := p.t) (hA.mown (A := [_]) (R := [EyeC be (.slice A m c) p.t.e]) (G := [])) (hS.at_ hA hM) hg) (fun v1 w1 hC => ?_)
  obtain ⟨rfl, A1, m1, c1, hT1, hD1⟩ := hC
  have hA := hA.mid (A := [_]) (G := []) hT1
  have D1 := hD1
  refine o_assign (v := .int _ _) rfl ?_
  refine O_end ?_
  refine W_seq ?_
  refine W_reg ?_ -- 2 words.go:140
  refine o_assign (by conv => lhs; whnf) ?_
  refine O_end ?_
  refine W_seq ?_
  refine W_seq ?_
  refine W_reg ?_ -- 3 words.go:141
  refine o_move (v := .int _ _) rfl ?_
  refine o_min rfl (show (if (257 : Int) < ((p.num 4 : Nat) : Int) then (257 : Int) else ((p.num 4 : Nat) : Int)) = (K : Int) by split <;> omega) ?_
  refine o_move (v := .int _ _) rfl ?_
  refine O_end ?_
  refine W_block ?_ -- 0
  have hA := (hA.nilRow 3 1 none).rot
  refine W_loop (fun kk ρ w' => ∃ (j : Nat) (A' : Option Addr) (m' c' : Nat) (L : Option Addr) (lm lc : Nat), kk = K - j ∧ j ≤ K ∧ ρ 14 = .int .i64 (j : Int) ∧ ρ 13 = .int .i64 (K : Int) ∧ ρ 0 = .pointer (some ⟨br, 0, none⟩) ∧ ρ 1 = .func (.func 27) #[.pointer (some ⟨be, 0, none⟩)] #[] ∧ ρ 5 = .int .i64 ((p.num 4 : Nat) : Int) ∧ ρ 6 = .slice L lm lc ∧ At w (SS (RdC br be (.slice A m c) p)) (RdC br be (.slice A' m' c') (pRep pSmall (p.nx 4) j).2 ++ [Row 3 1 (.slice L lm lc) ((pRep pSmall (p.nx 4) j).1.map i64v)]) w' ∧ Der g (.slice A m c) p.t.s (.slice A' m' c') ((pRep pSmall (p.nx 4) j).2).t.s) K
    ⟨0, A1, m1, c1, none, 0, 0, by simp, Nat.zero_le _, rfl, rfl, rfl, rfl, rfl, rfl, hA, D1⟩ ?_
  clear hA
  rintro kk ρ w2 ⟨j, A', m', c', L, lm, lc, rfl, hj, h14, h13, h0, h1, h5, h6, hA, D⟩
  refine W_known (t := 14) h14 ?_
  refine W_known (t := 13) h13 ?_
  refine W_known (t := 0) h0 ?_
  refine W_known (t := 1) h1 ?_
  refine W_known (t := 5) h5 ?_
  refine W_known (t := 6) h6 ?_
  refine W_seq ?_
  refine W_reg ?_ -- 4 words.go:141
  refine o_cmp2 rfl rfl rfl (fun h => ?_) (fun h => ?_)
  · -- True
    have q15 := of_decide_eq_true h
    have hjK : j < K := by omega
    have hSj := D _ (hS.at_ hA hM)
    refine O_end ?_
    refine W_seq ?_
    refine W_then rfl ?_
    refine W_skip ?_
    refine W_seq ?_
    refine W_block ?_ -- 1
    refine W_reg ?_ -- 5 words.go:142
    refine o_move (by conv => lhs; whnf) ?_
    refine o_move (by conv => lhs; whnf) ?_
    refine O_callv (fi := [.pointer (some ⟨be, 0, none⟩)]) (ca := []) en27 rfl rfl (e_small (t := (pRep pSmall (p.nx 4) j).2.t) (hA.mown (A := [_]) (R := [EyeC be (.slice A' m' c') (pRep pSmall (p.nx 4) j).2.t.e]) (G := [_])) hSj hg) (fun v2 w2 hC => ?_)
    obtain ⟨rfl, A2, m2, c2, hT2, hD2⟩ := hC
    have hA := hA.mid (A := [_]) (G := [_]) hT2
    have D2 := D.trans hD2
    refine o_buildSlice (cs := [_]) hA Try.underlying26 ti3 rfl rfl rfl rfl rfl (fun a3 w3 hA => ?_)
    refine o_append (i := 3) hA rfl rfl rfl Try.underlying26 ti3 rfl (by decide) (hA.rd 0 rfl) (fun u hu => by obtain rfl := List.mem_singleton.1 hu; rfl) (fun a k h1 h2 => by rw [List.length_map, pRep_len] at h1; simp at h2; omega) (fun a k h1 h2 => by rw [List.length_map, pRep_len] at h1; simp at h2; omega) (fun v4 w4 hA => ?_)
    obtain ⟨Av4, mv4, cv4, rfl⟩ := (hA.row 3 rfl).slice
    refine o_assign (by conv => lhs; whnf) ?_
    refine O_end ?_
    refine W_reg ?_ -- 6 words.go:141
    refine o_add rfl rfl (w64 (r := ((j + 1 : Nat) : Int)) (by omega) (by omega) (by omega)) ?_
    refine o_move (v := .int _ _) rfl ?_
    refine O_end ?_
    refine ⟨K - (j + 1), by omega, j + 1, A2, m2, c2, Av4, mv4, cv4, rfl, by omega, rfl, rfl, rfl, rfl, rfl, rfl, ?_, D2⟩
    show At w _ (_ ++ [Row _ _ _ (((pRep pSmall (p.nx 4) j).1 ++ [(pSmall (pRep pSmall (p.nx 4) j).2).1]).map i64v)]) _
    rw [List.map_append]
    exact hA.drop
  · -- False
    have q15 := of_decide_eq_false h
    refine O_end ?_
    refine W_seq ?_
    refine W_else rfl ?_
    refine W_exit ?_
    refine xb_hit ?_
    refine W_seq ?_
    refine W_reg ?_ -- 7 words.go:144
    refine o_move (v := .pointer _) rfl ?_
    refine o_move (v := .pointer _) rfl ?_
    refine o_nilCheck rfl ?_
    refine o_fieldAddr fo69_1 rfl rfl ?_
    refine o_load1b ag4 rfl (hA.c 0 rfl rfl) (fun h => ?_) (fun h => ?_)
    · -- True
      have q26 := h
      refine o_move (v := .bool _) rfl ?_
      refine O_no rfl rfl rfl rfl ?_
      refine O_no rfl rfl rfl rfl ?_
      refine o_pick_t rfl (v := .bool _) rfl ?_
      refine o_nilCheck rfl ?_
      refine o_fieldAddr fo69_1 rfl rfl ?_
      refine o_store (cs' := [_, _]) (i := 0) hA rfl (v := .bool _) rfl rfl ti4 rfl rfl rfl rfl (fun w5 hA => ?_)
      refine O_end ?_
      refine W_seq ?_
      refine W_reg ?_ -- 8 words.go:145
      refine o_move (by conv => lhs; whnf) ?_
      refine o_assign (by conv => lhs; whnf) ?_
      refine O_end ?_
      refine W_ret ?_
      refine ⟨rfl, ?_⟩
      refine ret1 Try.results34 (by conv => lhs; whnf) ?_
      have hjK : j = K := by omega
      subst hjK
      subst hK
      refine ⟨L, lm, lc, rfl, A', m', c', ?_, D⟩
      show At w _ ([Cell br 69 [_, .bool ((pRep pSmall (p.nx 4) (min (p.num 4) 257)).2.odd || decide (256 < p.num 4))], _] ++ _) _
      rw [q26, Bool.true_or]
      exact hA
    · -- False
      have q26 := h
      refine o_move (v := .bool _) rfl ?_
      refine O_yes rfl rfl rfl ?_
      refine o_move (v := .int _ _) rfl ?_
      refine O_yes rfl rfl rfl ?_
      refine o_cmp rfl rfl rfl ?_
      refine o_pick_f rfl (v := .bool _) rfl ?_
      refine o_nilCheck rfl ?_
      refine o_fieldAddr fo69_1 rfl rfl ?_
      refine o_store (cs' := [_, _]) (i := 0) hA rfl (v := .bool _) rfl rfl ti4 rfl rfl rfl rfl (fun w6 hA => ?_)
      refine O_end ?_
      refine W_seq ?_
      refine W_reg ?_ -- 8 words.go:145
      refine o_move (by conv => lhs; whnf) ?_
      refine o_assign (by conv => lhs; whnf) ?_
      refine O_end ?_
      refine W_ret ?_
      refine ⟨rfl, ?_⟩
      refine ret1 Try.results34 (by conv => lhs; whnf) ?_
      have hjK : j = K := by omega
      subst hjK
      subst hK
      refine ⟨L, lm, lc, rfl, A', m', c', ?_, D⟩
      show At w _ ([Cell br 69 [_, .bool ((pRep pSmall (p.nx 4) (min (p.num 4) 257)).2.odd || decide (256 < p.num 4))], _] ++ _) _
      rw [q26, Bool.false_or, show decide (256 < p.num 4) = decide ((256 : Int) < ((p.num 4 : Nat) : Int)) by rw [decide_eq_decide]; omega]
      exact hA

theorem r_greats {w : World} {A : Option Addr} {br be m c g : Nat} {p : Ps} (hP : At w (SS (RdC br be (.slice A m c) p)) (RdC br be (.slice A m c) p) w) (hS : Src w g (.slice A m c) p.t.s) (hg : g ≠ be) (hr : g ≠ br) : Calls Try.prog 64 #[.pointer (some ⟨br, 0, none⟩), .func (.func 62) #[.pointer (some ⟨be, 0, none⟩)] #[]] w fun e w' => ∃ v, e = .returned v ∧ ∃ (L : Option Addr) (lm lc : Nat), v = .slice L lm lc ∧ ∃ (A' : Option Addr) (m' c' : Nat), At w (SS (RdC br be (.slice A m c) p)) (RdC br be (.slice A' m' c') ((pList pGreat p).2) ++ [Row 48 1 (.slice L lm lc) ((pList pGreat p).1.map u64v)]) w' ∧ Der g (.slice A m c) p.t.s (.slice A' m' c') ((pList pGreat p).2).t.s := by
  refine body_in (n := 34) (l := [.pointer (some ⟨br, 0, none⟩), .func (.func 62) #[.pointer (some ⟨be, 0, none⟩)] #[]]) en64 rfl Try.ntmps64 rfl ?_
  have hA := hP
  have hM : ¬ SS (RdC br be (.slice A m c) p) g := RdC_S hg hr
  obtain ⟨K, hK⟩ : ∃ K, K = min (p.num 4) 257 := ⟨_, rfl⟩
  refine W_seq ?_
  refine W_reg ?_ -- 0 words.go:138
  refine o_assign (by conv => lhs; whnf) ?_
  refine O_end ?_
  refine W_seq ?_
  refine W_reg ?_ -- 1 words.go:139
  refine o_move (v := .pointer _) rfl ?_
  refine o_nilCheck rfl ?_
  refine o_fieldAddr fo69_0 rfl rfl ?_
  refine o_load1 ag66 rfl (hA.c 0 rfl rfl) ?_
  refine O_calls en27 rfl (e_small (t := p.t) (hA.mown (A := [_]) (R := [EyeC be (.slice A m c) p.t.e]) (G := [])) (hS.at_ hA hM) hg) (fun v1 w1 hC => ?_)
  obtain ⟨rfl, A1, m1, c1, hT1, hD1⟩ := hC
  have hA := hA.mid (A := [_]) (G := []) hT1
  have D1 := hD1
  refine o_assign (v := .int _ _) rfl ?_
  refine O_end ?_
  refine W_seq ?_
  refine W_reg ?_ -- 2 words.go:140
  refine o_assign (by conv => lhs; whnf) ?_
  refine O_end ?_
  refine W_seq ?_
  refine W_seq ?_
  refine W_reg ?_ -- 3 words.go:141
  refine o_move (v := .int _ _) rfl ?_
  refine o_min rfl (show (if (257 : Int) < ((p.num 4 : Nat) : Int) then (257 : Int) else ((p.num 4 : Nat) : Int)) = (K : Int) by split <;> omega) ?_
  refine o_move (v := .int _ _) rfl ?_
  refine O_end ?_
  refine W_block ?_ -- 0
  have hA := (hA.nilRow 48 1 none).rot
  refine W_loop (fun kk ρ w' => ∃ (j : Nat) (A' : Option Addr) (m' c' : Nat) (L : Option Addr) (lm lc : Nat), kk = K - j ∧ j ≤ K ∧ ρ 14 = .int .i64 (j : Int) ∧ ρ 13 = .int .i64 (K : Int) ∧ ρ 0 = .pointer (some ⟨br, 0, none⟩) ∧ ρ 1 = .func (.func 62) #[.pointer (some ⟨be, 0, none⟩)] #[] ∧ ρ 5 = .int .i64 ((p.num 4 : Nat) : Int) ∧ ρ 6 = .slice L lm lc ∧ At w (SS (RdC br be (.slice A m c) p)) (RdC br be (.slice A' m' c') (pRep pGreat (p.nx 4) j).2 ++ [Row 48 1 (.slice L lm lc) ((pRep pGreat (p.nx 4) j).1.map u64v)]) w' ∧ Der g (.slice A m c) p.t.s (.slice A' m' c') ((pRep pGreat (p.nx 4) j).2).t.s) K
    ⟨0, A1, m1, c1, none, 0, 0, by simp, Nat.zero_le _, rfl, rfl, rfl, rfl, rfl, rfl, hA, D1⟩ ?_
  clear hA
  rintro kk ρ w2 ⟨j, A', m', c', L, lm, lc, rfl, hj, h14, h13, h0, h1, h5, h6, hA, D⟩
  refine W_known (t := 14) h14 ?_
  refine W_known (t := 13) h13 ?_
  refine W_known (t := 0) h0 ?_
  refine W_known (t := 1) h1 ?_
  refine W_known (t := 5) h5 ?_
  refine W_known (t := 6) h6 ?_
  refine W_seq ?_
  refine W_reg ?_ -- 4 words.go:141
  refine o_cmp2 rfl rfl rfl (fun h => ?_) (fun h => ?_)
  · -- True
    have q15 := of_decide_eq_true h
    have hjK : j < K := by omega
    have hSj := D _ (hS.at_ hA hM)
    refine O_end ?_
    refine W_seq ?_
    refine W_then rfl ?_
    refine W_skip ?_
    refine W_seq ?_
    refine W_block ?_ -- 1
    refine W_reg ?_ -- 5 words.go:142
    refine o_move (by conv => lhs; whnf) ?_
    refine o_move (by conv => lhs; whnf) ?_
    refine O_callv (fi := [.pointer (some ⟨be, 0, none⟩)]) (ca := []) en62 rfl rfl (e_great (t := (pRep pGreat (p.nx 4) j).2.t) (hA.mown (A := [_]) (R := [EyeC be (.slice A' m' c') (pRep pGreat (p.nx 4) j).2.t.e]) (G := [_])) hSj hg) (fun v2 w2 hC => ?_)
    obtain ⟨rfl, A2, m2, c2, hT2, hD2⟩ := hC
    have hA := hA.mid (A := [_]) (G := [_]) hT2
    have D2 := D.trans hD2
    refine o_buildSlice (cs := [_]) hA Try.underlying53 ti48 rfl rfl rfl rfl rfl (fun a3 w3 hA => ?_)
    refine o_append (i := 3) hA rfl rfl rfl Try.underlying53 ti48 rfl (by decide) (hA.rd 0 rfl) (fun u hu => by obtain rfl := List.mem_singleton.1 hu; rfl) (fun a k h1 h2 => by rw [List.length_map, pRep_len] at h1; simp at h2; omega) (fun a k h1 h2 => by rw [List.length_map, pRep_len] at h1; simp at h2; omega) (fun v4 w4 hA => ?_)
    obtain ⟨Av4, mv4, cv4, rfl⟩ := (hA.row 3 rfl).slice
    refine o_assign (by conv => lhs; whnf) ?_
    refine O_end ?_
    refine W_reg ?_ -- 6 words.go:141
    refine o_add rfl rfl (w64 (r := ((j + 1 : Nat) : Int)) (by omega) (by omega) (by omega)) ?_
    refine o_move (v := .int _ _) rfl ?_
    refine O_end ?_
    refine ⟨K - (j + 1), by omega, j + 1, A2, m2, c2, Av4, mv4, cv4, rfl, by omega, rfl, rfl, rfl, rfl, rfl, rfl, ?_, D2⟩
    show At w _ (_ ++ [Row _ _ _ (((pRep pGreat (p.nx 4) j).1 ++ [(pGreat (pRep pGreat (p.nx 4) j).2).1]).map u64v)]) _
    rw [List.map_append]
    exact hA.drop
  · -- False
    have q15 := of_decide_eq_false h
    refine O_end ?_
    refine W_seq ?_
    refine W_else rfl ?_
    refine W_exit ?_
    refine xb_hit ?_
    refine W_seq ?_
    refine W_reg ?_ -- 7 words.go:144
    refine o_move (v := .pointer _) rfl ?_
    refine o_move (v := .pointer _) rfl ?_
    refine o_nilCheck rfl ?_
    refine o_fieldAddr fo69_1 rfl rfl ?_
    refine o_load1b ag4 rfl (hA.c 0 rfl rfl) (fun h => ?_) (fun h => ?_)
    · -- True
      have q26 := h
      refine o_move (v := .bool _) rfl ?_
      refine O_no rfl rfl rfl rfl ?_
      refine O_no rfl rfl rfl rfl ?_
      refine o_pick_t rfl (v := .bool _) rfl ?_
      refine o_nilCheck rfl ?_
      refine o_fieldAddr fo69_1 rfl rfl ?_
      refine o_store (cs' := [_, _]) (i := 0) hA rfl (v := .bool _) rfl rfl ti4 rfl rfl rfl rfl (fun w5 hA => ?_)
      refine O_end ?_
      refine W_seq ?_
      refine W_reg ?_ -- 8 words.go:145
      refine o_move (by conv => lhs; whnf) ?_
      refine o_assign (by conv => lhs; whnf) ?_
      refine O_end ?_
      refine W_ret ?_
      refine ⟨rfl, ?_⟩
      refine ret1 Try.results64 (by conv => lhs; whnf) ?_
      have hjK : j = K := by omega
      subst hjK
      subst hK
      refine ⟨L, lm, lc, rfl, A', m', c', ?_, D⟩
      show At w _ ([Cell br 69 [_, .bool ((pRep pGreat (p.nx 4) (min (p.num 4) 257)).2.odd || decide (256 < p.num 4))], _] ++ _) _
      rw [q26, Bool.true_or]
      exact hA
    · -- False
      have q26 := h
      refine o_move (v := .bool _) rfl ?_
      refine O_yes rfl rfl rfl ?_
      refine o_move (v := .int _ _) rfl ?_
      refine O_yes rfl rfl rfl ?_
      refine o_cmp rfl rfl rfl ?_
      refine o_pick_f rfl (v := .bool _) rfl ?_
      refine o_nilCheck rfl ?_
      refine o_fieldAddr fo69_1 rfl rfl ?_
      refine o_store (cs' := [_, _]) (i := 0) hA rfl (v := .bool _) rfl rfl ti4 rfl rfl rfl rfl (fun w6 hA => ?_)
      refine O_end ?_
      refine W_seq ?_
      refine W_reg ?_ -- 8 words.go:145
      refine o_move (by conv => lhs; whnf) ?_
      refine o_assign (by conv => lhs; whnf) ?_
      refine O_end ?_
      refine W_ret ?_
      refine ⟨rfl, ?_⟩
      refine ret1 Try.results64 (by conv => lhs; whnf) ?_
      have hjK : j = K := by omega
      subst hjK
      subst hK
      refine ⟨L, lm, lc, rfl, A', m', c', ?_, D⟩
      show At w _ ([Cell br 69 [_, .bool ((pRep pGreat (p.nx 4) (min (p.num 4) 257)).2.odd || decide (256 < p.num 4))], _] ++ _) _
      rw [q26, Bool.false_or, show decide (256 < p.num 4) = decide ((256 : Int) < ((p.num 4 : Nat) : Int)) by rw [decide_eq_decide]; omega]
      exact hA

end Go.Proofs.Ytbcaooiphalkoaa
