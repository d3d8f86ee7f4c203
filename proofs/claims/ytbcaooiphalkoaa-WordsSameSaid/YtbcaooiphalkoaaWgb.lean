/-
  Package words: parcels, openings; slices.IndexFunc, ContainsFunc of openings.
-/
import Derived.Test.YtbcaooiphalkoaaWga
set_option linter.unusedVariables false
set_option linter.unusedSimpArgs false
namespace Go.Proofs.Ytbcaooiphalkoaa
open Go Go.RowKit

theorem any_none {α : Type} {p : α → Bool} {l : List α} (h : ∀ (i : Nat) (x : α), l[i]? = some x → p x = false) : l.any p = false := by
  rw [List.any_eq_false]
  intro x hx
  obtain ⟨i, hi⟩ := List.getElem?_of_mem hx
  rw [h i x hi]
  simp

theorem s_index_o {w : World} {A : Option Addr} {m c g : Nat} {fi ca : List Value} {fn : Func} {l : List (Oo × Sl)} {p : Oo × Sl → Bool} (hf : Ent Try.prog g fn) (hR : Rd w 3 (.slice A m c) (l.flatMap ooc)) (hl : l.length ≤ 9223372036854775807)
    (hp : ∀ (w' : World) (x : Oo × Sl), At w No [] w' → x ∈ l → Calls Try.prog g (fi ++ [Value.agg (ooc x).toArray] ++ ca).toArray w' fun e w'' => ∃ v, e = .returned v ∧ (v = .bool (p x) ∧ At w' No [] w'')) :
    Calls Try.prog 77 #[.slice A m c, .func (.func g) fi.toArray ca.toArray] w fun e w' => ∃ v, e = .returned v ∧ (∃ r : Int, v = .int .i64 r ∧ decide (0 ≤ r) = l.any p ∧ At w No [] w') := by
  obtain rfl := hR.lenf (fun _ => rfl) (by decide)
  refine body_in (n := 19) (l := [.slice A l.length c, .func (.func g) fi.toArray ca.toArray]) en77 rfl Try.ntmps77 rfl ?_
  have hA := At.refl w
  refine W_seq ?_
  refine W_reg ?_ -- 0 slices.go:107
  refine o_assign (v := .int _ _) rfl ?_
  refine O_end ?_
  refine W_seq ?_
  refine W_seq ?_
  refine W_reg ?_ -- 1 slices.go:108
  refine o_move (by conv => lhs; whnf) ?_
  refine o_len Try.underlying27 rfl ?_
  refine o_move (v := .int _ _) rfl ?_
  refine O_end ?_
  refine W_block ?_ -- 0
  refine W_loop (fun kk ρ w' => ∃ (j : Nat), kk = l.length - j ∧ j ≤ l.length ∧ ρ 8 = .int .i64 (j : Int) ∧ ρ 7 = .int .i64 (l.length : Int) ∧ ρ 0 = .slice A l.length c ∧ ρ 1 = .func (.func g) fi.toArray ca.toArray ∧ (∀ i x, i < j → l[i]? = some x → p x = false) ∧ At w No [] w') l.length
    ⟨0, by simp, Nat.zero_le _, rfl, rfl, rfl, rfl, fun i x hi => by omega, hA⟩ ?_
  clear hA
  rintro kk ρ w1 ⟨j, rfl, hj, h8, h7, h0, h1, hno, hA⟩
  refine W_known (t := 8) h8 ?_
  refine W_known (t := 7) h7 ?_
  refine W_known (t := 0) h0 ?_
  refine W_known (t := 1) h1 ?_
  refine W_seq ?_
  refine W_reg ?_ -- 2 slices.go:108
  refine o_cmp2 rfl rfl rfl (fun h => ?_) (fun h => ?_)
  · -- True
    have q9 := of_decide_eq_true h
    have hlt : j < l.length := by omega
    obtain ⟨x, hx⟩ : ∃ x, l[j]? = some x := ⟨_, List.getElem?_eq_getElem hlt⟩
    obtain ⟨g0, o0, rfl⟩ := hR.addr (by decide) (fm_len (s := 3) (fun _ => rfl) l) (by omega)
    refine O_end ?_
    refine W_seq ?_
    refine W_then rfl ?_
    refine W_skip ?_
    refine W_seq ?_
    refine W_block ?_ -- 1
    refine W_seq ?_
    refine W_reg ?_ -- 3 slices.go:108
    refine o_move (v := .int _ _) rfl ?_
    refine o_assign (v := .int _ _) rfl ?_
    refine O_end ?_
    refine W_seq ?_
    refine W_reg ?_ -- 4 slices.go:109
    refine o_move (by conv => lhs; whnf) ?_
    refine o_move (by conv => lhs; whnf) ?_
    refine o_move (v := .int _ _) rfl ?_
    refine o_index Try.underlying27 ti55 rfl rfl (by omega) (by omega) ?_
    refine o_loadN ag55 ti55 rfl (cs := ooc x) rfl (fun j v hj => (hR.old hA).fld (fun _ => rfl) hx hj) ?_
    refine O_callv (fi := fi) (ca := ca) hf rfl rfl (hp _ x hA (List.mem_of_getElem? hx)) (fun v1 w1 hC => ?_)
    obtain ⟨rfl, hC⟩ := hC
    have hA := (hA.after hC).tail 0
    refine O_end ?_
    refine W_if rfl (fun hcc => ?_) (fun hcc => ?_)
    · -- True
      have q16 := hcc
      refine W_seq ?_
      refine W_reg ?_ -- 5 slices.go:110
      refine o_move (v := .int _ _) rfl ?_
      refine o_assign (v := .int _ _) rfl ?_
      refine O_end ?_
      refine W_ret ?_
      refine xb_ret ?_
      refine xb_ret ?_
      refine ⟨rfl, ?_⟩
      refine ret1 Try.results77 (v := .int _ _) rfl ?_
      exact ⟨_, rfl, by rw [decide_eq_true (by omega)]; exact (List.any_eq_true.2 ⟨x, List.mem_of_getElem? hx, q16⟩).symm, hA⟩
    · -- False
      have q16 := hcc
      refine W_skip ?_
      refine W_reg ?_ -- 6 slices.go:108
      refine o_add rfl rfl (w64 (r := ((j + 1 : Nat) : Int)) (by omega) (by omega) (by omega)) ?_
      refine o_move (v := .int _ _) rfl ?_
      refine O_end ?_
      refine ⟨l.length - (j + 1), by omega, j + 1, rfl, by omega, rfl, rfl, rfl, rfl, fun i y hi hy => ?_, hA⟩
      by_cases e : i = j
      · rw [e, hx] at hy; obtain rfl := Option.some.inj hy; exact q16
      · exact hno i y (by omega) hy
  · -- False
    have q9 := of_decide_eq_false h
    refine O_end ?_
    refine W_seq ?_
    refine W_else rfl ?_
    refine W_exit ?_
    refine xb_hit ?_
    refine W_seq ?_
    refine W_reg ?_ -- 7 slices.go:113
    refine o_assign (v := .int _ _) rfl ?_
    refine O_end ?_
    refine W_ret ?_
    refine ⟨rfl, ?_⟩
    refine ret1 Try.results77 (v := .int _ _) rfl ?_
    exact ⟨-1, rfl, by
      rw [any_none fun i x hx => hno i x (by have := (List.getElem?_eq_some_iff.1 hx).1; omega) hx]; rfl, hA⟩

theorem s_contains_o {w : World} {A : Option Addr} {m c g : Nat} {fi ca : List Value} {fn : Func} {l : List (Oo × Sl)} {p : Oo × Sl → Bool} (hf : Ent Try.prog g fn) (hR : Rd w 3 (.slice A m c) (l.flatMap ooc)) (hl : l.length ≤ 9223372036854775807)
    (hp : ∀ (w' : World) (x : Oo × Sl), At w No [] w' → x ∈ l → Calls Try.prog g (fi ++ [Value.agg (ooc x).toArray] ++ ca).toArray w' fun e w'' => ∃ v, e = .returned v ∧ (v = .bool (p x) ∧ At w' No [] w'')) :
    Calls Try.prog 75 #[.slice A m c, .func (.func g) fi.toArray ca.toArray] w fun e w' => ∃ v, e = .returned v ∧ (v = .bool (l.any p) ∧ At w No [] w') := by
  refine body_in (n := 9) (l := [.slice A m c, .func (.func g) fi.toArray ca.toArray]) en75 rfl Try.ntmps75 rfl ?_
  have hA := At.refl w
  refine W_seq ?_
  refine W_reg ?_ -- 0 slices.go:124
  refine o_assign (v := .bool _) rfl ?_
  refine O_end ?_
  refine W_seq ?_
  refine W_reg ?_ -- 1 slices.go:125
  refine o_move (by conv => lhs; whnf) ?_
  refine o_move (by conv => lhs; whnf) ?_
  refine O_calls en77 rfl (s_index_o hf (hR.old hA) hl hp) (fun v1 w1 hC => ?_)
  obtain ⟨r, rfl, hr, hC⟩ := hC
  have hA := (hA.after hC).tail 0
  refine o_cmp rfl rfl rfl ?_
  refine o_assign (v := .bool _) rfl ?_
  refine O_end ?_
  refine W_ret ?_
  refine ⟨rfl, ?_⟩
  refine ret1 Try.results75 (v := .bool _) rfl ?_
  exact ⟨by show Value.bool (decide (r ≥ 0)) = _; rw [← hr], hA⟩

theorem w_open1 {w : World} {x : Oo × Sl} (hd : Rd w 1 x.2.v (x.1.v.map u64v)) : Calls Try.prog 76 #[.agg (ooc x).toArray] w fun e w' => ∃ v, e = .returned v ∧ (v = .bool (decide (5 < x.1.v.length)) ∧ At w No [] w') := by
  refine body_in (n := 7) (l := [.agg (ooc x).toArray]) en76 rfl Try.ntmps76 rfl ?_
  have hA := At.refl w
  refine W_seq ?_
  refine W_reg ?_ -- 0 words.go:48
  refine o_box hA (by conv => lhs; whnf) rfl (fun b1 w1 hA => ?_)
  refine o_assign (v := .bool _) rfl ?_
  refine O_end ?_
  refine W_seq ?_
  refine W_reg ?_ -- 1 words.go:48
  refine o_fieldAddr fo55_2 rfl rfl ?_
  refine o_load1 ag53 rfl (hA.c 0 rfl rfl) ?_
  refine o_len Try.underlying53 rfl ?_
  refine o_cmp rfl rfl rfl ?_
  refine o_assign (v := .bool _) rfl ?_
  refine O_end ?_
  refine W_ret ?_
  refine ⟨rfl, ?_⟩
  refine ret1 Try.results76 (v := .bool _) rfl ?_
  refine ⟨?_, hA.clear⟩
  show Value.bool _ = _
  congr 1
  rw [decide_eq_decide, hd.lenp]
  omega

theorem At.trans0 {w0 w w' : World} {F : List Ch} (h : At w0 No F w) (k : At w No [] w') : At w0 No [] w' := (h.more k).clear
theorem w_rising' {w : World} {g k : Nat} {fi ca : List Value} {fn : Func} {l : List Int} (hf : Ent Try.prog g fn) (hk : l.length = k) (hl : l.length ≤ 9223372036854775807)
    (hp : ∀ (w' : World) (i : Nat) (x : Int), At w No [] w' → l[i]? = some x → Calls Try.prog g (fi ++ [Value.int .i64 (i : Int)] ++ ca).toArray w' fun e w'' => ∃ v, e = .returned v ∧ (v = .int .i64 x ∧ At w' No [] w'')) :
    Calls Try.prog 65 #[.int .i64 (k : Int), .func (.func g) fi.toArray ca.toArray] w fun e w' => ∃ v, e = .returned v ∧ (v = .bool (risP l) ∧ At w No [] w') := by
  subst hk; exact w_rising hf hl hp

theorem w_parcels {w : World} {b m c g1 g2 : Nat} {A : Option Addr} {fi1 fi2 : List Value} {fn1 fn2 : Func} {ps : List (Pp × Sl)} {by_ ot : Pp → Int} (hcell : w.cell? ⟨b, 4, none⟩ = some (.slice A m c)) (hR : Rd w 3 (.slice A m c) (ps.flatMap ppc)) (hd : ∀ x ∈ ps, Rd w 1 x.2.v (x.1.d.map u8v)) (hl : ps.length ≤ 9223372036854775807) (hf1 : Ent Try.prog g1 fn1) (hf2 : Ent Try.prog g2 fn2)
    (hp1 : ∀ (w' : World) (i : Nat) (x : Pp × Sl), At w No [] w' → ps[i]? = some x → Calls Try.prog g1 (fi1 ++ [Value.int .i64 (i : Int)] ++ []).toArray w' fun e w'' => ∃ v, e = .returned v ∧ (v = .int .i64 (by_ x.1) ∧ At w' No [] w''))
    (hp2 : ∀ (w' : World) (i : Nat) (x : Pp × Sl), At w No [] w' → ps[i]? = some x → Calls Try.prog g2 (fi2 ++ [Value.int .i64 (i : Int)] ++ []).toArray w' fun e w'' => ∃ v, e = .returned v ∧ (v = .int .i64 (ot x.1) ∧ At w' No [] w'')) :
    Calls Try.prog 67 #[.pointer (some ⟨b, 0, none⟩), .func (.func g1) fi1.toArray #[], .func (.func g2) fi2.toArray #[]] w fun e w' => ∃ v, e = .returned v ∧ (v = .bool (parcelsP (ps.map (·.1)) by_ ot) ∧ At w No [] w') := by
  obtain rfl := hR.lenf (fun _ => rfl) (by decide)
  refine body_in (n := 40) (l := [.pointer (some ⟨b, 0, none⟩), .func (.func g1) fi1.toArray #[], .func (.func g2) fi2.toArray #[]]) en67 rfl Try.ntmps67 rfl ?_
  have hA := At.refl w
  refine W_seq ?_
  refine W_reg ?_ -- 0 words.go:37
  refine o_assign (v := .bool _) rfl ?_
  refine O_end ?_
  refine W_seq ?_
  refine W_seq ?_
  refine W_reg ?_ -- 1 words.go:38
  refine o_move (v := .pointer _) rfl ?_
  refine o_nilCheck rfl ?_
  refine o_fieldAddr fo46_0 rfl rfl ?_
  refine o_fieldAddr fo29_4 rfl rfl ?_
  refine o_load1 ag24 rfl (hA.cellT hcell) ?_
  refine o_len Try.underlying24 rfl ?_
  refine o_move (v := .int _ _) rfl ?_
  refine O_end ?_
  refine W_block ?_ -- 0
  refine W_loop (fun kk ρ w' => ∃ (j : Nat), kk = ps.length - j ∧ j ≤ ps.length ∧ ρ 15 = .int .i64 (j : Int) ∧ ρ 14 = .int .i64 (ps.length : Int) ∧ ρ 13 = .slice A ps.length c ∧ ρ 0 = .pointer (some ⟨b, 0, none⟩) ∧ ρ 1 = .func (.func g1) fi1.toArray #[] ∧ ρ 2 = .func (.func g2) fi2.toArray #[] ∧ (∀ i x, i < j → ps[i]? = some x → (whoP (ot x.1) && decide (x.1.d.length ≤ 64)) = true) ∧ At w No [] w') ps.length
    ⟨0, by simp, Nat.zero_le _, rfl, rfl, rfl, rfl, rfl, rfl, fun i x hi => by omega, hA⟩ ?_
  clear hA
  rintro kk ρ w1 ⟨j, rfl, hj, h15, h14, h13, h0, h1, h2, hno, hA⟩
  refine W_known (t := 15) h15 ?_
  refine W_known (t := 14) h14 ?_
  refine W_known (t := 13) h13 ?_
  refine W_known (t := 0) h0 ?_
  refine W_known (t := 1) h1 ?_
  refine W_known (t := 2) h2 ?_
  refine W_seq ?_
  refine W_reg ?_ -- 2 words.go:38
  refine o_cmp2 rfl rfl rfl (fun h => ?_) (fun h => ?_)
  · -- True
    have q16 := of_decide_eq_true h
    have hlt : j < ps.length := by omega
    obtain ⟨x, hx⟩ : ∃ x, ps[j]? = some x := ⟨_, List.getElem?_eq_getElem hlt⟩
    obtain ⟨g0, o0, rfl⟩ := hR.addr (by decide) (fm_len (s := 3) (fun _ => rfl) ps) (by omega)
    have hxd := (hd x (List.mem_of_getElem? hx)).lenp
    refine O_end ?_
    refine W_seq ?_
    refine W_then rfl ?_
    refine W_skip ?_
    refine W_seq ?_
    refine W_block ?_ -- 1
    refine W_seq ?_
    refine W_reg ?_ -- 3 words.go:38
    refine o_move (v := .int _ _) rfl ?_
    refine o_index Try.underlying24 ti52 rfl rfl (by omega) (by omega) ?_
    refine o_loadN ag52 ti52 rfl (cs := ppc x) rfl (fun j v hj => (hR.old hA).fld (fun _ => rfl) hx hj) ?_
    refine o_alloc hA ti52 rfl (fun b1 w1 hA => ?_)
    refine o_assign (v := .int _ _) rfl ?_
    refine o_store (cs' := [_, _, _]) (i := 0) hA rfl (by conv => lhs; whnf) rfl ti52 rfl rfl rfl rfl (fun w2 hA => ?_)
    refine O_end ?_
    refine W_seq ?_
    refine W_reg ?_ -- 4 words.go:39
    refine o_move (by conv => lhs; whnf) ?_
    refine o_move (v := .int _ _) rfl ?_
    refine O_callv (fi := fi2) (ca := []) hf2 rfl rfl (hp2 _ j x hA.clear hx) (fun v3 w3 hC => ?_)
    obtain ⟨rfl, hC⟩ := hC
    have hA := (hA.after hC).tail 0
    refine O_callb en73 rfl w_who (fun w4 hC h => ?_) (fun w4 hC h => ?_)
    · -- True
      have hA := (hA.after hC).take
      have q23 := h
      refine o_not rfl ?_
      refine o_move (v := .bool _) rfl ?_
      refine O_yes rfl rfl rfl ?_
      refine o_fieldAddr fo52_2 rfl rfl ?_
      refine O_yes rfl rfl rfl ?_
      refine o_load1 ag32 rfl (hA.c 0 rfl rfl) ?_
      refine O_yes rfl rfl rfl ?_
      refine o_len Try.underlying32 rfl ?_
      refine O_yes rfl rfl rfl ?_
      refine o_cmp2 rfl rfl rfl (fun h => ?_) (fun h => ?_)
      · -- True
        have q29 := of_decide_eq_true h
        refine o_pick_f rfl (v := .bool _) rfl ?_
        refine O_end ?_
        refine W_then rfl ?_
        refine W_seq ?_
        refine W_reg ?_ -- 5 words.go:40
        refine o_assign (v := .bool _) rfl ?_
        refine O_end ?_
        refine W_ret ?_
        refine xb_ret ?_
        refine xb_ret ?_
        refine ⟨rfl, ?_⟩
        refine ret1 Try.results67 (v := .bool _) rfl ?_
        refine ⟨?_, hA.clear⟩
        have : (ps.map (·.1)).all (fun p => whoP (ot p) && decide (p.d.length ≤ 64)) = false := by
          rw [Bool.eq_false_iff]
          intro hc
          have := List.all_eq_true.1 hc x.1 (List.mem_map_of_mem (List.mem_of_getElem? hx))
          simp only [Bool.and_eq_true, decide_eq_true_eq] at this
          omega
        show Value.bool _ = _
        unfold parcelsP
        rw [this, Bool.false_and]
      · -- False
        have q29 := of_decide_eq_false h
        refine o_pick_f rfl (v := .bool _) rfl ?_
        refine O_end ?_
        refine W_else rfl ?_
        refine W_skip ?_
        refine W_reg ?_ -- 6 words.go:38
        refine o_add rfl rfl (w64 (r := ((j + 1 : Nat) : Int)) (by omega) (by omega) (by omega)) ?_
        refine o_move (v := .int _ _) rfl ?_
        refine O_end ?_
        refine ⟨ps.length - (j + 1), by omega, j + 1, rfl, by omega, rfl, rfl, rfl, rfl, rfl, rfl, fun i y hi hy => ?_, hA.clear⟩
        by_cases e : i = j
        · rw [e, hx] at hy; obtain rfl := Option.some.inj hy
          rw [q23, decide_eq_true (by omega)]; rfl
        · exact hno i y (by omega) hy
    · -- False
      have hA := (hA.after hC).take
      have q23 := h
      refine o_not rfl ?_
      refine o_move (v := .bool _) rfl ?_
      refine O_no rfl rfl rfl rfl ?_
      refine O_no rfl rfl rfl rfl ?_
      refine O_no rfl rfl rfl rfl ?_
      refine O_no rfl rfl rfl rfl ?_
      refine o_pick_t rfl (v := .bool _) rfl ?_
      refine O_end ?_
      refine W_then rfl ?_
      refine W_seq ?_
      refine W_reg ?_ -- 5 words.go:40
      refine o_assign (v := .bool _) rfl ?_
      refine O_end ?_
      refine W_ret ?_
      refine xb_ret ?_
      refine xb_ret ?_
      refine ⟨rfl, ?_⟩
      refine ret1 Try.results67 (v := .bool _) rfl ?_
      refine ⟨?_, hA.clear⟩
      have : (ps.map (·.1)).all (fun p => whoP (ot p) && decide (p.d.length ≤ 64)) = false := by
        rw [Bool.eq_false_iff]
        intro hc
        have := List.all_eq_true.1 hc x.1 (List.mem_map_of_mem (List.mem_of_getElem? hx))
        rw [q23] at this
        cases this
      show Value.bool _ = _
      unfold parcelsP
      rw [this, Bool.false_and]
  · -- False
    have q16 := of_decide_eq_false h
    refine O_end ?_
    refine W_seq ?_
    refine W_else rfl ?_
    refine W_exit ?_
    refine xb_hit ?_
    refine W_seq ?_
    refine W_reg ?_ -- 7 words.go:43
    refine o_move (v := .pointer _) rfl ?_
    refine o_nilCheck rfl ?_
    refine o_fieldAddr fo46_0 rfl rfl ?_
    refine o_fieldAddr fo29_4 rfl rfl ?_
    refine o_load1 ag24 rfl (hA.cellT hcell) ?_
    refine o_len Try.underlying24 rfl ?_
    refine o_move (by conv => lhs; whnf) ?_
    refine O_calls en65 rfl (w_rising' (fi := fi1) (ca := []) (l := (ps.map (·.1)).map by_) hf1 (by simp) (by simp; omega) (fun w' i x hA' hx' => by
        rw [List.map_map, List.getElem?_map] at hx'
        obtain ⟨y, hy, rfl⟩ := Option.map_eq_some_iff.1 hx'
        exact hp1 w' i y (hA.trans0 hA') hy)) (fun v5 w5 hC => ?_)
    obtain ⟨rfl, hC⟩ := hC
    have hA := (hA.after hC).tail 0
    refine o_assign (v := .bool _) rfl ?_
    refine O_end ?_
    refine W_ret ?_
    refine ⟨rfl, ?_⟩
    refine ret1 Try.results67 (v := .bool _) rfl ?_
    refine ⟨?_, hA.clear⟩
    have : (ps.map (·.1)).all (fun p => whoP (ot p) && decide (p.d.length ≤ 64)) = true := by
      rw [List.all_eq_true]
      intro y hy
      obtain ⟨x, hx, rfl⟩ := List.mem_map.1 hy
      obtain ⟨i, hi⟩ := List.getElem?_of_mem hx
      exact hno i x (by have := (List.getElem?_eq_some_iff.1 hi).1; omega) hi
    show Value.bool _ = _
    unfold parcelsP
    rw [this, Bool.true_and]

theorem w_openings {w : World} {b m c : Nat} {A : Option Addr} {os : List (Oo × Sl)} (hcell : w.cell? ⟨b, 7, none⟩ = some (.slice A m c)) (hR : Rd w 3 (.slice A m c) (os.flatMap ooc)) (hd : ∀ x ∈ os, Rd w 1 x.2.v (x.1.v.map u64v)) (hl : os.length ≤ 9223372036854775807) : Calls Try.prog 71 #[.pointer (some ⟨b, 0, none⟩)] w fun e w' => ∃ v, e = .returned v ∧ (v = .bool (risP ((os.map (·.1)).map (·.w)) && !((os.map (·.1)).any fun o => decide (5 < o.v.length))) ∧ At w No [] w') := by
  obtain rfl := hR.lenf (fun _ => rfl) (by decide)
  refine body_in (n := 21) (l := [.pointer (some ⟨b, 0, none⟩)]) en71 rfl Try.ntmps71 rfl ?_
  have hA := At.refl w
  refine W_seq ?_
  refine W_reg ?_ -- 0 words.go:47
  refine o_assign (v := .bool _) rfl ?_
  refine O_end ?_
  refine W_seq ?_
  refine W_reg ?_ -- 1 words.go:48
  refine o_move (v := .pointer _) rfl ?_
  refine o_nilCheck rfl ?_
  refine o_fieldAddr fo46_0 rfl rfl ?_
  refine o_fieldAddr fo29_7 rfl rfl ?_
  refine o_load1 ag27 rfl (hA.cellT hcell) ?_
  refine o_len Try.underlying27 rfl ?_
  refine o_move (v := .pointer _) rfl ?_
  refine o_makeFunc rfl rfl ?_ -- Go.Fn.func 74
  refine O_callb en65 rfl (w_rising' (fi := [.pointer (some ⟨b, 0, none⟩)]) (ca := []) (l := (os.map (·.1)).map (·.w)) en74 (by simp) (by simp; omega) (fun w' i x hA' hx' => by
        rw [List.map_map, List.getElem?_map] at hx'
        obtain ⟨y, hy, rfl⟩ := Option.map_eq_some_iff.1 hx'
        exact w_opened (hA'.cellT (hA.cellT hcell)) ((hR.old hA).old hA') hl hy)) (fun w1 hC h => ?_) (fun w1 hC h => ?_)
  · -- True
    have hA := (hA.after hC).take
    have q11 := h
    refine o_move (v := .bool _) rfl ?_
    refine O_yes rfl rfl rfl ?_
    refine o_move (v := .pointer _) rfl ?_
    refine O_yes rfl rfl rfl ?_
    refine o_nilCheck rfl ?_
    refine O_yes rfl rfl rfl ?_
    refine o_fieldAddr fo46_0 rfl rfl ?_
    refine O_yes rfl rfl rfl ?_
    refine o_fieldAddr fo29_7 rfl rfl ?_
    refine O_yes rfl rfl rfl ?_
    refine o_load1 ag27 rfl (hA.cellT hcell) ?_
    refine O_yes rfl rfl rfl ?_
    refine O_calls en75 rfl (s_contains_o (p := fun x => decide (5 < x.1.v.length)) (fi := []) (ca := []) en76 (hR.old hA) hl (fun w' x hA' hx => w_open1 (((hd x hx).old hA).old hA'))) (fun v2 w2 hC => ?_)
    obtain ⟨rfl, hC⟩ := hC
    have hA := (hA.after hC).tail 0
    refine O_yes rfl rfl rfl ?_
    refine o_not rfl ?_
    refine o_pick_t rfl (v := .bool _) rfl ?_
    refine o_assign (v := .bool _) rfl ?_
    refine O_end ?_
    refine W_ret ?_
    refine ⟨rfl, ?_⟩
    refine ret1 Try.results71 (v := .bool _) rfl ?_
    refine ⟨?_, hA⟩
    show Value.bool _ = _
    rw [q11, Bool.true_and, List.any_map]; rfl
  · -- False
    have hA := (hA.after hC).take
    have q11 := h
    refine o_move (v := .bool _) rfl ?_
    refine O_no rfl rfl rfl rfl ?_
    refine O_no rfl rfl rfl rfl ?_
    refine O_no rfl rfl rfl rfl ?_
    refine O_no rfl rfl rfl rfl ?_
    refine O_no rfl rfl rfl rfl ?_
    refine O_no rfl rfl rfl rfl ?_
    refine O_no rfl rfl rfl rfl ?_
    refine o_pick_f rfl (v := .bool _) rfl ?_
    refine o_assign (v := .bool _) rfl ?_
    refine O_end ?_
    refine W_ret ?_
    refine ⟨rfl, ?_⟩
    refine ret1 Try.results71 (v := .bool _) rfl ?_
    refine ⟨?_, hA⟩
    show Value.bool _ = _
    rw [q11, Bool.false_and]

end Go.Proofs.Ytbcaooiphalkoaa
