/-
  Words: the reader's lists of things that own memory.
-/
import Derived.Test.YtbcaooiphalkoaaRdb
set_option linter.unusedVariables false
set_option linter.unusedSimpArgs false
namespace Go.Proofs.Ytbcaooiphalkoaa
open Go Go.RowKit

theorem r_parcels {w : World} {A : Option Addr} {br be m c g : Nat} {p : Ps} (hP : At w (SS (RdC br be (.slice A m c) p)) (RdC br be (.slice A m c) p) w) (hS : Src w g (.slice A m c) p.t.s) (hg : g ≠ be) (hr : g ≠ br) (hl : p.t.s.length ≤ 1000000) : Calls Try.prog 30 #[.pointer (some ⟨br, 0, none⟩), .func (.func 31) #[.pointer (some ⟨br, 0, none⟩)] #[]] w fun e w' => ∃ v, e = .returned v ∧ ∃ (L : Option Addr) (lm lc : Nat), v = .slice L lm lc ∧ ∃ xs : List (Pp × Sl), xs.map (·.1) = (pList pParcel p).1 ∧ ∃ (A' : Option Addr) (m' c' : Nat), At w (SS (RdC br be (.slice A m c) p)) (RdC br be (.slice A' m' c') ((pList pParcel p).2) ++ (Row 52 3 (.slice L lm lc) (xs.flatMap ppc) :: xs.map (fun (y : Pp × Sl) => Row 5 1 y.2.v (u8l y.1.d)))) w' ∧ Der g (.slice A m c) p.t.s (.slice A' m' c') ((pList pParcel p).2).t.s := by
  refine body_in (n := 34) (l := [.pointer (some ⟨br, 0, none⟩), .func (.func 31) #[.pointer (some ⟨br, 0, none⟩)] #[]]) en30 rfl Try.ntmps30 rfl ?_
  have hA := hP
  have hM : ¬ SS (RdC br be (.slice A m c) p) g := RdC_S hg hr
  obtain ⟨K, hK⟩ : ∃ K, K = min (p.num 4) 257 := ⟨_, rfl⟩
  refine W_seq ?_
  refine W_reg ?_ -- 0 words.go:138
  refine o_assign (by conv => lhs; whnf) ?_
  refine O_end ?_
  refine W_seq ?_
  refine W_reg ?_ -- 1 words.go:139
  refine o_move (v := .pointer _) rfl ?_
  refine o_nilCheck rfl ?_
  refine o_fieldAddr fo69_0 rfl rfl ?_
  refine o_load1 ag66 rfl (hA.c 0 rfl rfl) ?_
  refine O_calls en27 rfl (e_small (t := p.t) (hA.mown (A := [_]) (R := [EyeC be (.slice A m c) p.t.e]) (G := [])) (hS.at_ hA hM) hg) (fun v1 w1 hC => ?_)
  obtain ⟨rfl, A1, m1, c1, hT1, hD1⟩ := hC
  have hA := hA.mid (A := [_]) (G := []) hT1
  have D1 := hD1
  refine o_assign (v := .int _ _) rfl ?_
  refine O_end ?_
  refine W_seq ?_
  refine W_reg ?_ -- 2 words.go:140
  refine o_assign (by conv => lhs; whnf) ?_
  refine O_end ?_
  refine W_seq ?_
  refine W_seq ?_
  refine W_reg ?_ -- 3 words.go:141
  refine o_move (v := .int _ _) rfl ?_
  refine o_min rfl (show (if (257 : Int) < ((p.num 4 : Nat) : Int) then (257 : Int) else ((p.num 4 : Nat) : Int)) = (K : Int) by split <;> omega) ?_
  refine o_move (v := .int _ _) rfl ?_
  refine O_end ?_
  refine W_block ?_ -- 0
  have hA := (hA.nilRow 52 3 none).rot
  refine W_loop (fun kk ρ w' => ∃ (j : Nat) (xs : List (Pp × Sl)) (A' : Option Addr) (m' c' : Nat) (L : Option Addr) (lm lc : Nat), kk = K - j ∧ j ≤ K ∧ ρ 14 = .int .i64 (j : Int) ∧ ρ 13 = .int .i64 (K : Int) ∧ ρ 0 = .pointer (some ⟨br, 0, none⟩) ∧ ρ 1 = .func (.func 31) #[.pointer (some ⟨br, 0, none⟩)] #[] ∧ ρ 5 = .int .i64 ((p.num 4 : Nat) : Int) ∧ ρ 6 = .slice L lm lc ∧ xs.map (·.1) = (pRep pParcel (p.nx 4) j).1 ∧ At w (SS (RdC br be (.slice A m c) p)) (RdC br be (.slice A' m' c') (pRep pParcel (p.nx 4) j).2 ++ (Row 52 3 (.slice L lm lc) (xs.flatMap ppc) :: xs.map (fun (y : Pp × Sl) => Row 5 1 y.2.v (u8l y.1.d)))) w' ∧ Der g (.slice A m c) p.t.s (.slice A' m' c') ((pRep pParcel (p.nx 4) j).2).t.s) K
    ⟨0, [], A1, m1, c1, none, 0, 0, by simp, Nat.zero_le _, rfl, rfl, rfl, rfl, rfl, rfl, rfl, hA, D1⟩ ?_
  clear hA
  rintro kk ρ w2 ⟨j, xs, A', m', c', L, lm, lc, rfl, hj, h14, h13, h0, h1, h5, h6, hxs, hA, D⟩
  refine W_known (t := 14) h14 ?_
  refine W_known (t := 13) h13 ?_
  refine W_known (t := 0) h0 ?_
  refine W_known (t := 1) h1 ?_
  refine W_known (t := 5) h5 ?_
  refine W_known (t := 6) h6 ?_
  refine W_seq ?_
  refine W_reg ?_ -- 4 words.go:141
  refine o_cmp2 rfl rfl rfl (fun h => ?_) (fun h => ?_)
  · -- True
    have q15 := of_decide_eq_true h
    have hjK : j < K := by omega
    have hSj := D _ (hS.at_ hA hM)
    have hlj : (pRep pParcel (p.nx 4) j).2.t.s.length ≤ 1000000 := Nat.le_trans (pRep_s pParcel_s _ _) (Nat.le_trans (Ps.nx_len _ _) hl)
    refine O_end ?_
    refine W_seq ?_
    refine W_then rfl ?_
    refine W_skip ?_
    refine W_seq ?_
    refine W_block ?_ -- 1
    refine W_reg ?_ -- 5 words.go:142
    refine o_move (by conv => lhs; whnf) ?_
    refine o_move (by conv => lhs; whnf) ?_
    refine O_callv (fi := [.pointer (some ⟨br, 0, none⟩)]) (ca := []) en31 rfl rfl (r_parcel (hA.own (R := RdC br be (.slice A' m' c') (pRep pParcel (p.nx 4) j).2)) hSj hg hr hlj) (fun v2 w2 hC => ?_)
    obtain ⟨B, k, d, rfl, A2, m2, c2, hT2, hD2⟩ := hC
    have hA := hA.trans hT2
    have D2 := D.trans hD2
    refine o_buildSlice (cs := [_, _, _]) hA Try.underlying24 ti52 rfl rfl rfl rfl rfl (fun a3 w3 hA => ?_)
    refine o_append (i := 4) hA rfl rfl rfl Try.underlying24 ti52 rfl (by decide) (hA.rd 0 rfl) (fun u hu => by simp only [List.mem_cons, List.not_mem_nil, or_false] at hu; rcases hu with rfl | rfl | rfl <;> rfl) (fun a k h1 h2 => by rw [fm_len (f := ppc) (s := 3) (fun _ => rfl), show xs.length = j by have h9 := congrArg List.length hxs; rw [List.length_map, pRep_len] at h9; exact h9] at h1; simp at h2; omega) (fun a k h1 h2 => by rw [fm_len (f := ppc) (s := 3) (fun _ => rfl), show xs.length = j by have h9 := congrArg List.length hxs; rw [List.length_map, pRep_len] at h9; exact h9] at h1; simp at h2; omega) (fun v4 w4 hA => ?_)
    obtain ⟨Av4, mv4, cv4, rfl⟩ := (hA.row 4 rfl).slice
    refine o_assign (by conv => lhs; whnf) ?_
    refine O_end ?_
    refine W_reg ?_ -- 6 words.go:141
    refine o_add rfl rfl (w64 (r := ((j + 1 : Nat) : Int)) (by omega) (by omega) (by omega)) ?_
    refine o_move (v := .int _ _) rfl ?_
    refine O_end ?_
    refine ⟨K - (j + 1), by omega, j + 1, xs ++ [((pParcel (pRep pParcel (p.nx 4) j).2).1, ⟨B, k, d⟩)], A2, m2, c2, Av4, mv4, cv4, rfl, by omega, rfl, rfl, rfl, rfl, rfl, rfl, ?_, ?_, D2⟩
    · rw [List.map_append, hxs]; rfl
    · rw [List.flatMap_append, List.map_append]
      exact hA.drop.lastly
  · -- False
    have q15 := of_decide_eq_false h
    refine O_end ?_
    refine W_seq ?_
    refine W_else rfl ?_
    refine W_exit ?_
    refine xb_hit ?_
    refine W_seq ?_
    refine W_reg ?_ -- 7 words.go:144
    refine o_move (v := .pointer _) rfl ?_
    refine o_move (v := .pointer _) rfl ?_
    refine o_nilCheck rfl ?_
    refine o_fieldAddr fo69_1 rfl rfl ?_
    refine o_load1b ag4 rfl (hA.c 0 rfl rfl) (fun h => ?_) (fun h => ?_)
    · -- True
      have q26 := h
      refine o_move (v := .bool _) rfl ?_
      refine O_no rfl rfl rfl rfl ?_
      refine O_no rfl rfl rfl rfl ?_
      refine o_pick_t rfl (v := .bool _) rfl ?_
      refine o_nilCheck rfl ?_
      refine o_fieldAddr fo69_1 rfl rfl ?_
      refine o_store (cs' := [_, _]) (i := 0) hA rfl (v := .bool _) rfl rfl ti4 rfl rfl rfl rfl (fun w5 hA => ?_)
      refine O_end ?_
      refine W_seq ?_
      refine W_reg ?_ -- 8 words.go:145
      refine o_move (by conv => lhs; whnf) ?_
      refine o_assign (by conv => lhs; whnf) ?_
      refine O_end ?_
      refine W_ret ?_
      refine ⟨rfl, ?_⟩
      refine ret1 Try.results30 (by conv => lhs; whnf) ?_
      have hjK : j = K := by omega
      subst hjK
      subst hK
      refine ⟨L, lm, lc, rfl, xs, hxs, A', m', c', ?_, D⟩
      show At w _ ([Cell br 69 [_, .bool ((pRep pParcel (p.nx 4) (min (p.num 4) 257)).2.odd || decide (256 < p.num 4))], _] ++ _) _
      rw [q26, Bool.true_or]
      exact hA
    · -- False
      have q26 := h
      refine o_move (v := .bool _) rfl ?_
      refine O_yes rfl rfl rfl ?_
      refine o_move (v := .int _ _) rfl ?_
      refine O_yes rfl rfl rfl ?_
      refine o_cmp rfl rfl rfl ?_
      refine o_pick_f rfl (v := .bool _) rfl ?_
      refine o_nilCheck rfl ?_
      refine o_fieldAddr fo69_1 rfl rfl ?_
      refine o_store (cs' := [_, _]) (i := 0) hA rfl (v := .bool _) rfl rfl ti4 rfl rfl rfl rfl (fun w6 hA => ?_)
      refine O_end ?_
      refine W_seq ?_
      refine W_reg ?_ -- 8 words.go:145
      refine o_move (by conv => lhs; whnf) ?_
      refine o_assign (by conv => lhs; whnf) ?_
      refine O_end ?_
      refine W_ret ?_
      refine ⟨rfl, ?_⟩
      refine ret1 Try.results30 (by conv => lhs; whnf) ?_
      have hjK : j = K := by omega
      subst hjK
      subst hK
      refine ⟨L, lm, lc, rfl, xs, hxs, A', m', c', ?_, D⟩
      show At w _ ([Cell br 69 [_, .bool ((pRep pParcel (p.nx 4) (min (p.num 4) 257)).2.odd || decide (256 < p.num 4))], _] ++ _) _
      rw [q26, Bool.false_or, show decide (256 < p.num 4) = decide ((256 : Int) < ((p.num 4 : Nat) : Int)) by rw [decide_eq_decide]; omega]
      exact hA

theorem r_opening {w : World} {A : Option Addr} {br be m c g : Nat} {p : Ps} (hP : At w (SS (RdC br be (.slice A m c) p)) (RdC br be (.slice A m c) p) w) (hS : Src w g (.slice A m c) p.t.s) (hg : g ≠ be) (hr : g ≠ br) : Calls Try.prog 36 #[.pointer (some ⟨br, 0, none⟩)] w fun e w' => ∃ v, e = .returned v ∧ ∃ (B : Option Addr) (k d : Nat), v = .agg (ooc ((pOpen p).1, ⟨B, k, d⟩)).toArray ∧ ∃ (A' : Option Addr) (m' c' : Nat), At w (SS (RdC br be (.slice A m c) p)) (Row 48 1 (.slice B k d) ((pOpen p).1.v.map u64v) :: RdC br be (.slice A' m' c') ((pOpen p).2)) w' ∧ Der g (.slice A m c) p.t.s (.slice A' m' c') ((pOpen p).2).t.s := by
  refine body_in (n := 39) (l := [.pointer (some ⟨br, 0, none⟩)]) en36 rfl Try.ntmps36 rfl ?_
  have hA := hP
  have hM : ¬ SS (RdC br be (.slice A m c) p) g := RdC_S hg hr
  refine W_seq ?_
  refine W_reg ?_ -- 0 words.go:160
  refine o_alloc hA ti55 rfl (fun b1 w1 hA => ?_)
  refine O_end ?_
  refine W_seq ?_
  refine W_reg ?_ -- 1 words.go:161
  refine o_move (v := .pointer _) rfl ?_
  refine o_nilCheck rfl ?_
  refine o_fieldAddr fo69_0 rfl rfl ?_
  refine o_load1 ag66 rfl (hA.c 1 rfl rfl) ?_
  refine O_calls en27 rfl (e_small (t := p.t) (hA.mown (A := [_, _]) (R := [EyeC be (.slice A m c) p.t.e]) (G := [])) (hS.at_ hA hM) hg) (fun v2 w2 hC => ?_)
  obtain ⟨rfl, A1, m1, c1, hT1, hD1⟩ := hC
  have hA := hA.mid (A := [_, _]) (G := []) hT1
  refine o_build la55 rfl rfl ?_
  refine o_alloc hA ti55 rfl (fun b3 w3 hA => ?_)
  refine o_store (cs' := [_, _, _]) (i := 0) hA rfl (by conv => lhs; whnf) rfl ti55 rfl rfl rfl rfl (fun w4 hA => ?_)
  refine O_end ?_
  refine W_seq ?_
  refine W_reg ?_ -- 2 words.go:162
  refine o_move (v := .pointer _) rfl ?_
  refine o_nilCheck rfl ?_
  refine o_fieldAddr fo69_0 rfl rfl ?_
  refine o_load1 ag66 rfl (hA.c 2 rfl rfl) ?_
  refine O_calls en27 rfl (e_small (t := (p.nx 4).t) (hA.mown (A := [_, _, _]) (R := [EyeC be (.slice A1 m1 c1) (p.nx 4).t.e]) (G := [])) (hD1 _ (hS.at_ hA hM)) hg) (fun v5 w5 hC => ?_)
  obtain ⟨rfl, A2, m2, c2, hT2, hD2⟩ := hC
  have hA := hA.mid (A := [_, _, _]) (G := []) hT2
  have D2 := hD1.trans hD2
  refine o_assign (v := .int _ _) rfl ?_
  refine O_end ?_
  refine W_seq ?_
  refine W_reg ?_ -- 3 words.go:163
  refine o_move (v := .pointer _) rfl ?_
  refine o_move (v := .pointer _) rfl ?_
  refine o_nilCheck rfl ?_
  refine o_fieldAddr fo69_1 rfl rfl ?_
  refine o_load1b ag4 rfl (hA.c 2 rfl rfl) (fun h => ?_) (fun h => ?_)
  · -- True
    have q20 := h
    refine o_move (v := .bool _) rfl ?_
    refine O_no rfl rfl rfl rfl ?_
    refine O_no rfl rfl rfl rfl ?_
    refine o_pick_t rfl (v := .bool _) rfl ?_
    refine o_nilCheck rfl ?_
    refine o_fieldAddr fo69_1 rfl rfl ?_
    refine o_store (cs' := [_, _]) (i := 2) hA rfl (v := .bool _) rfl rfl ti4 rfl rfl rfl rfl (fun w6 hA => ?_)
    have hA : At w (SS (RdC br be (.slice A m c) p)) ([Cell b3 55 [.int .i64 ((p.num 4 : Nat) : Int), .bool false, .slice none 0 0], Cell b1 55 [.int .i64 0, .bool false, .slice none 0 0]] ++ (RdC br be (.slice A2 m2 c2) (pOpen0 p) ++ [])) w6 := by
      show At w _ [Cell b3 55 [.int .i64 ((p.num 4 : Nat) : Int), .bool false, .slice none 0 0], Cell b1 55 [.int .i64 0, .bool false, .slice none 0 0], Cell br 69 [_, .bool (p.odd || decide (1 < (p.nx 4).num 4))], EyeC be (.slice A2 m2 c2) (pOpen0 p).t.e] w6
      rw [q20, Bool.true_or]
      exact hA
    refine O_end ?_
    refine W_seq ?_
    refine W_reg ?_ -- 4 words.go:164
    refine o_move (v := .int _ _) rfl ?_
    refine o_cmp rfl rfl rfl ?_
    refine o_fieldAddr fo55_1 rfl rfl ?_
    refine o_store (cs' := [_, _, _]) (i := 0) hA rfl (v := .bool _) rfl rfl ti4 rfl rfl rfl rfl (fun w7 hA => ?_)
    refine O_end ?_
    refine W_seq ?_
    refine W_reg ?_ -- 5 words.go:165
    refine o_move (v := .pointer _) rfl ?_
    refine o_move (v := .pointer _) rfl ?_
    refine o_nilCheck rfl ?_
    refine o_fieldAddr fo69_0 rfl rfl ?_
    refine o_load1 ag66 rfl (hA.c 2 rfl rfl) ?_
    refine o_makeFunc rfl rfl ?_ -- Go.Fn.func 62
    refine O_calls en64 rfl (r_greats (p := pOpen0 p) (hA.mown (A := [_, _]) (R := RdC br be (.slice A2 m2 c2) (pOpen0 p)) (G := [])) (D2 _ (hS.at_ hA hM)) hg hr) (fun v8 w8 hC => ?_)
    obtain ⟨B, k, d, rfl, A3, m3, c3, hT3, hD3⟩ := hC
    have hA := hA.mid (A := [_, _]) (G := []) hT3
    have D3 := D2.trans hD3
    refine o_fieldAddr fo55_2 rfl rfl ?_
    refine o_store (cs' := [_, _, _]) (i := 0) hA rfl (by conv => lhs; whnf) rfl ti53 rfl rfl rfl rfl (fun w9 hA => ?_)
    refine O_end ?_
    refine W_seq ?_
    refine W_reg ?_ -- 6 words.go:166
    refine o_loadN ag55 ti55 rfl rfl (hA.cs (i := 0) (o := 0) (s := 3) (ds := [_, _, _]) rfl rfl) ?_
    refine o_store (cs' := [_, _, _]) (i := 1) hA rfl (by conv => lhs; whnf) rfl ti55 rfl rfl rfl rfl (fun w10 hA => ?_)
    refine O_end ?_
    refine W_ret ?_
    refine ⟨rfl, ?_⟩
    refine retc (i := 1) hA Try.results36 rfl ag55 ti55 rfl rfl ?_
    exact ⟨B, k, d, rfl, A3, m3, c3, (hA.tail 2).pull 2 rfl, D3⟩
  · -- False
    have q20 := h
    refine o_move (v := .bool _) rfl ?_
    refine O_yes rfl rfl rfl ?_
    refine o_move (v := .int _ _) rfl ?_
    refine O_yes rfl rfl rfl ?_
    refine o_cmp rfl rfl rfl ?_
    refine o_pick_f rfl (v := .bool _) rfl ?_
    refine o_nilCheck rfl ?_
    refine o_fieldAddr fo69_1 rfl rfl ?_
    refine o_store (cs' := [_, _]) (i := 2) hA rfl (v := .bool _) rfl rfl ti4 rfl rfl rfl rfl (fun w11 hA => ?_)
    have hA : At w (SS (RdC br be (.slice A m c) p)) ([Cell b3 55 [.int .i64 ((p.num 4 : Nat) : Int), .bool false, .slice none 0 0], Cell b1 55 [.int .i64 0, .bool false, .slice none 0 0]] ++ (RdC br be (.slice A2 m2 c2) (pOpen0 p) ++ [])) w11 := by
      show At w _ [Cell b3 55 [.int .i64 ((p.num 4 : Nat) : Int), .bool false, .slice none 0 0], Cell b1 55 [.int .i64 0, .bool false, .slice none 0 0], Cell br 69 [_, .bool (p.odd || decide (1 < (p.nx 4).num 4))], EyeC be (.slice A2 m2 c2) (pOpen0 p).t.e] w11
      rw [q20, Bool.false_or, show decide (1 < (p.nx 4).num 4) = decide ((1 : Int) < (((p.nx 4).num 4 : Nat) : Int)) by rw [decide_eq_decide]; omega]
      exact hA
    refine O_end ?_
    refine W_seq ?_
    refine W_reg ?_ -- 4 words.go:164
    refine o_move (v := .int _ _) rfl ?_
    refine o_cmp rfl rfl rfl ?_
    refine o_fieldAddr fo55_1 rfl rfl ?_
    refine o_store (cs' := [_, _, _]) (i := 0) hA rfl (v := .bool _) rfl rfl ti4 rfl rfl rfl rfl (fun w12 hA => ?_)
    refine O_end ?_
    refine W_seq ?_
    refine W_reg ?_ -- 5 words.go:165
    refine o_move (v := .pointer _) rfl ?_
    refine o_move (v := .pointer _) rfl ?_
    refine o_nilCheck rfl ?_
    refine o_fieldAddr fo69_0 rfl rfl ?_
    refine o_load1 ag66 rfl (hA.c 2 rfl rfl) ?_
    refine o_makeFunc rfl rfl ?_ -- Go.Fn.func 62
    refine O_calls en64 rfl (r_greats (p := pOpen0 p) (hA.mown (A := [_, _]) (R := RdC br be (.slice A2 m2 c2) (pOpen0 p)) (G := [])) (D2 _ (hS.at_ hA hM)) hg hr) (fun v13 w13 hC => ?_)
    obtain ⟨B, k, d, rfl, A3, m3, c3, hT3, hD3⟩ := hC
    have hA := hA.mid (A := [_, _]) (G := []) hT3
    have D3 := D2.trans hD3
    refine o_fieldAddr fo55_2 rfl rfl ?_
    refine o_store (cs' := [_, _, _]) (i := 0) hA rfl (by conv => lhs; whnf) rfl ti53 rfl rfl rfl rfl (fun w14 hA => ?_)
    refine O_end ?_
    refine W_seq ?_
    refine W_reg ?_ -- 6 words.go:166
    refine o_loadN ag55 ti55 rfl rfl (hA.cs (i := 0) (o := 0) (s := 3) (ds := [_, _, _]) rfl rfl) ?_
    refine o_store (cs' := [_, _, _]) (i := 1) hA rfl (by conv => lhs; whnf) rfl ti55 rfl rfl rfl rfl (fun w15 hA => ?_)
    refine O_end ?_
    refine W_ret ?_
    refine ⟨rfl, ?_⟩
    refine retc (i := 1) hA Try.results36 rfl ag55 ti55 rfl rfl ?_
    exact ⟨B, k, d, rfl, A3, m3, c3, (hA.tail 2).pull 2 rfl, D3⟩

theorem r_openings {w : World} {A : Option Addr} {br be m c g : Nat} {p : Ps} (hP : At w (SS (RdC br be (.slice A m c) p)) (RdC br be (.slice A m c) p) w) (hS : Src w g (.slice A m c) p.t.s) (hg : g ≠ be) (hr : g ≠ br) : Calls Try.prog 35 #[.pointer (some ⟨br, 0, none⟩), .func (.func 36) #[.pointer (some ⟨br, 0, none⟩)] #[]] w fun e w' => ∃ v, e = .returned v ∧ ∃ (L : Option Addr) (lm lc : Nat), v = .slice L lm lc ∧ ∃ xs : List (Oo × Sl), xs.map (·.1) = (pList pOpen p).1 ∧ ∃ (A' : Option Addr) (m' c' : Nat), At w (SS (RdC br be (.slice A m c) p)) (RdC br be (.slice A' m' c') ((pList pOpen p).2) ++ (Row 55 3 (.slice L lm lc) (xs.flatMap ooc) :: xs.map (fun (y : Oo × Sl) => Row 48 1 y.2.v (y.1.v.map u64v)))) w' ∧ Der g (.slice A m c) p.t.s (.slice A' m' c') ((pList pOpen p).2).t.s := by
  refine body_in (n := 34) (l := [.pointer (some ⟨br, 0, none⟩), .func (.func 36) #[.pointer (some ⟨br, 0, none⟩)] #[]]) en35 rfl Try.ntmps35 rfl ?_
  have hA := hP
  have hM : ¬ SS (RdC br be (.slice A m c) p) g := RdC_S hg hr
  obtain ⟨K, hK⟩ : ∃ K, K = min (p.num 4) 257 := ⟨_, rfl⟩
  refine W_seq ?_
  refine W_reg ?_ -- 0 words.go:138
  refine o_assign (by conv => lhs; whnf) ?_
  refine O_end ?_
  refine W_seq ?_
  refine W_reg ?_ -- 1 words.go:139
  refine o_move (v := .pointer _) rfl ?_
  refine o_nilCheck rfl ?_
  refine o_fieldAddr fo69_0 rfl rfl ?_
  refine o_load1 ag66 rfl (hA.c 0 rfl rfl) ?_
  refine O_calls en27 rfl (e_small (t := p.t) (hA.mown (A := [_]) (R := [EyeC be (.slice A m c) p.t.e]) (G := [])) (hS.at_ hA hM) hg) (fun v1 w1 hC => ?_)
  obtain ⟨rfl, A1, m1, c1, hT1, hD1⟩ := hC
  have hA := hA.mid (A := [_]) (G := []) hT1
  have D1 := hD1
  refine o_assign (v := .int _ _) rfl ?_
  refine O_end ?_
  refine W_seq ?_
  refine W_reg ?_ -- 2 words.go:140
  refine o_assign (by conv => lhs; whnf) ?_
  refine O_end ?_
  refine W_seq ?_
  refine W_seq ?_
  refine W_reg ?_ -- 3 words.go:141
  refine o_move (v := .int _ _) rfl ?_
  refine o_min rfl (show (if (257 : Int) < ((p.num 4 : Nat) : Int) then (257 : Int) else ((p.num 4 : Nat) : Int)) = (K : Int) by split <;> omega) ?_
  refine o_move (v := .int _ _) rfl ?_
  refine O_end ?_
  refine W_block ?_ -- 0
  have hA := (hA.nilRow 55 3 none).rot
  refine W_loop (fun kk ρ w' => ∃ (j : Nat) (xs : List (Oo × Sl)) (A' : Option Addr) (m' c' : Nat) (L : Option Addr) (lm lc : Nat), kk = K - j ∧ j ≤ K ∧ ρ 14 = .int .i64 (j : Int) ∧ ρ 13 = .int .i64 (K : Int) ∧ ρ 0 = .pointer (some ⟨br, 0, none⟩) ∧ ρ 1 = .func (.func 36) #[.pointer (some ⟨br, 0, none⟩)] #[] ∧ ρ 5 = .int .i64 ((p.num 4 : Nat) : Int) ∧ ρ 6 = .slice L lm lc ∧ xs.map (·.1) = (pRep pOpen (p.nx 4) j).1 ∧ At w (SS (RdC br be (.slice A m c) p)) (RdC br be (.slice A' m' c') (pRep pOpen (p.nx 4) j).2 ++ (Row 55 3 (.slice L lm lc) (xs.flatMap ooc) :: xs.map (fun (y : Oo × Sl) => Row 48 1 y.2.v (y.1.v.map u64v)))) w' ∧ Der g (.slice A m c) p.t.s (.slice A' m' c') ((pRep pOpen (p.nx 4) j).2).t.s) K
    ⟨0, [], A1, m1, c1, none, 0, 0, by simp, Nat.zero_le _, rfl, rfl, rfl, rfl, rfl, rfl, rfl, hA, D1⟩ ?_
  clear hA
  rintro kk ρ w2 ⟨j, xs, A', m', c', L, lm, lc, rfl, hj, h14, h13, h0, h1, h5, h6, hxs, hA, D⟩
  refine W_known (t := 14) h14 ?_
  refine W_known (t := 13) h13 ?_
  refine W_known (t := 0) h0 ?_
  refine W_known (t := 1) h1 ?_
  refine W_known (t := 5) h5 ?_
  refine W_known (t := 6) h6 ?_
  refine W_seq ?_
  refine W_reg ?_ -- 4 words.go:141
  refine o_cmp2 rfl rfl rfl (fun h => ?_) (fun h => ?_)
  · -- True
    have q15 := of_decide_eq_true h
    have hjK : j < K := by omega
    have hSj := D _ (hS.at_ hA hM)
    refine O_end ?_
    refine W_seq ?_
    refine W_then rfl ?_
    refine W_skip ?_
    refine W_seq ?_
    refine W_block ?_ -- 1
    refine W_reg ?_ -- 5 words.go:142
    refine o_move (by conv => lhs; whnf) ?_
    refine o_move (by conv => lhs; whnf) ?_
    refine O_callv (fi := [.pointer (some ⟨br, 0, none⟩)]) (ca := []) en36 rfl rfl (r_opening (hA.own (R := RdC br be (.slice A' m' c') (pRep pOpen (p.nx 4) j).2)) hSj hg hr) (fun v2 w2 hC => ?_)
    obtain ⟨B, k, d, rfl, A2, m2, c2, hT2, hD2⟩ := hC
    have hA := hA.trans hT2
    have D2 := D.trans hD2
    refine o_buildSlice (cs := [_, _, _]) hA Try.underlying27 ti55 rfl rfl rfl rfl rfl (fun a3 w3 hA => ?_)
    refine o_append (i := 4) hA rfl rfl rfl Try.underlying27 ti55 rfl (by decide) (hA.rd 0 rfl) (fun u hu => by simp only [List.mem_cons, List.not_mem_nil, or_false] at hu; rcases hu with rfl | rfl | rfl <;> rfl) (fun a k h1 h2 => by rw [fm_len (f := ooc) (s := 3) (fun _ => rfl), show xs.length = j by have h9 := congrArg List.length hxs; rw [List.length_map, pRep_len] at h9; exact h9] at h1; simp at h2; omega) (fun a k h1 h2 => by rw [fm_len (f := ooc) (s := 3) (fun _ => rfl), show xs.length = j by have h9 := congrArg List.length hxs; rw [List.length_map, pRep_len] at h9; exact h9] at h1; simp at h2; omega) (fun v4 w4 hA => ?_)
    obtain ⟨Av4, mv4, cv4, rfl⟩ := (hA.row 4 rfl).slice
    refine o_assign (by conv => lhs; whnf) ?_
    refine O_end ?_
    refine W_reg ?_ -- 6 words.go:141
    refine o_add rfl rfl (w64 (r := ((j + 1 : Nat) : Int)) (by omega) (by omega) (by omega)) ?_
    refine o_move (v := .int _ _) rfl ?_
    refine O_end ?_
    refine ⟨K - (j + 1), by omega, j + 1, xs ++ [((pOpen (pRep pOpen (p.nx 4) j).2).1, ⟨B, k, d⟩)], A2, m2, c2, Av4, mv4, cv4, rfl, by omega, rfl, rfl, rfl, rfl, rfl, rfl, ?_, ?_, D2⟩
    · rw [List.map_append, hxs]; rfl
    · rw [List.flatMap_append, List.map_append]
      exact hA.drop.lastly
  · -- False
    have q15 := of_decide_eq_false h
    refine O_end ?_
    refine W_seq ?_
    refine W_else rfl ?_
    refine W_exit ?_
    refine xb_hit ?_
    refine W_seq ?_
    refine W_reg ?_ -- 7 words.go:144
    refine o_move (v := .pointer _) rfl ?_
    refine o_move (v := .pointer _) rfl ?_
    refine o_nilCheck rfl ?_
    refine o_fieldAddr fo69_1 rfl rfl ?_
    refine o_load1b ag4 rfl (hA.c 0 rfl rfl) (fun h => ?_) (fun h => ?_)
    · -- True
      have q26 := h
      refine o_move (v := .bool _) rfl ?_
      refine O_no rfl rfl rfl rfl ?_
      refine O_no rfl rfl rfl rfl ?_
      refine o_pick_t rfl (v := .bool _) rfl ?_
      refine o_nilCheck rfl ?_
      refine o_fieldAddr fo69_1 rfl rfl ?_
      refine o_store (cs' := [_, _]) (i := 0) hA rfl (v := .bool _) rfl rfl ti4 rfl rfl rfl rfl (fun w5 hA => ?_)
      refine O_end ?_
      refine W_seq ?_
      refine W_reg ?_ -- 8 words.go:145
      refine o_move (by conv => lhs; whnf) ?_
      refine o_assign (by conv => lhs; whnf) ?_
      refine O_end ?_
      refine W_ret ?_
      refine ⟨rfl, ?_⟩
      refine ret1 Try.results35 (by conv => lhs; whnf) ?_
      have hjK : j = K := by omega
      subst hjK
      subst hK
      refine ⟨L, lm, lc, rfl, xs, hxs, A', m', c', ?_, D⟩
      show At w _ ([Cell br 69 [_, .bool ((pRep pOpen (p.nx 4) (min (p.num 4) 257)).2.odd || decide (256 < p.num 4))], _] ++ _) _
      rw [q26, Bool.true_or]
      exact hA
    · -- False
      have q26 := h
      refine o_move (v := .bool _) rfl ?_
      refine O_yes rfl rfl rfl ?_
      refine o_move (v := .int _ _) rfl ?_
      refine O_yes rfl rfl rfl ?_
      refine o_cmp rfl rfl rfl ?_
      refine o_pick_f rfl (v := .bool _) rfl ?_
      refine o_nilCheck rfl ?_
      refine o_fieldAddr fo69_1 rfl rfl ?_
      refine o_store (cs' := [_, _]) (i := 0) hA rfl (v := .bool _) rfl rfl ti4 rfl rfl rfl rfl (fun w6 hA => ?_)
      refine O_end ?_
      refine W_seq ?_
      refine W_reg ?_ -- 8 words.go:145
      refine o_move (by conv => lhs; whnf) ?_
      refine o_assign (by conv => lhs; whnf) ?_
      refine O_end ?_
      refine W_ret ?_
      refine ⟨rfl, ?_⟩
      refine ret1 Try.results35 (by conv => lhs; whnf) ?_
      have hjK : j = K := by omega
      subst hjK
      subst hK
      refine ⟨L, lm, lc, rfl, xs, hxs, A', m', c', ?_, D⟩
      show At w _ ([Cell br 69 [_, .bool ((pRep pOpen (p.nx 4) (min (p.num 4) 257)).2.odd || decide (256 < p.num 4))], _] ++ _) _
      rw [q26, Bool.false_or, show decide (256 < p.num 4) = decide ((256 : Int) < ((p.num 4 : Nat) : Int)) by rw [decide_eq_decide]; omega]
      exact hA

end Go.Proofs.Ytbcaooiphalkoaa
