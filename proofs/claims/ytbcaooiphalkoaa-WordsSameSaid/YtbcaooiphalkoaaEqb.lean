/-
  Words: Same.
-/
import Derived.Test.YtbcaooiphalkoaaEqa
set_option linter.unusedVariables false
set_option linter.unusedSimpArgs false
namespace Go.Proofs.Ytbcaooiphalkoaa
open Go Go.RowKit

instance cdDec : DecidableEq Cd := fun a b => decidable_of_iff (a.w = b.w ∧ a.l = b.l ∧ a.k = b.k) ⟨fun ⟨h1, h2, h3⟩ => by cases a; cases b; dsimp only at h1 h2 h3; rw [h1, h2, h3], fun h => by rw [h]; exact ⟨rfl, rfl, rfl⟩⟩
instance ppDec : DecidableEq Pp := fun a b => decidable_of_iff (a.f = b.f ∧ a.t = b.t ∧ a.d = b.d) ⟨fun ⟨h1, h2, h3⟩ => by cases a; cases b; dsimp only at h1 h2 h3; rw [h1, h2, h3], fun h => by rw [h]; exact ⟨rfl, rfl, rfl⟩⟩
theorem dec_call {P : Program} {g : Nat} {xs : Array Value} {w : World} {p : Prop} [Decidable p] (h : Calls P g xs w fun e w' => ∃ v, e = .returned v ∧ ∃ t : Bool, v = .bool t ∧ (t = true ↔ p) ∧ At w No [] w') : Calls P g xs w fun e w' => ∃ v, e = .returned v ∧ (v = .bool (decide p) ∧ At w No [] w') := by
  refine h.mono fun e w' hh => ?_
  obtain ⟨v, he, t, hv, ht, hA⟩ := hh
  refine ⟨v, he, ?_, hA⟩
  rw [hv]
  by_cases hp : p
  · rw [decide_eq_true hp, ht.2 hp]
  · rw [decide_eq_false hp]
    cases t with
    | true => exact absurd (ht.1 rfl) hp
    | false => rfl

theorem s_eqps {w : World} {A A' : Option Addr} {m m' c c' : Nat} {a b : List (Pp × Sl)} (hR : Rd w 3 (.slice A m c) (a.flatMap ppc)) (hS : Rd w 3 (.slice A' m' c') (b.flatMap ppc)) (hRd : ∀ x ∈ a, Rd w 1 x.2.v (u8l x.1.d)) (hSd : ∀ x ∈ b, Rd w 1 x.2.v (u8l x.1.d)) (hl : a.length ≤ 9223372036854775807) (hk : b.length ≤ 9223372036854775807) (hld : ∀ x ∈ a, x.1.d.length ≤ 9223372036854775807) (hkd : ∀ x ∈ b, x.1.d.length ≤ 9223372036854775807) : Calls Try.prog 48 #[.slice A m c, .slice A' m' c', .func (.func 49) #[] #[]] w fun e w' => ∃ v, e = .returned v ∧ ∃ t : Bool, v = .bool t ∧ (t = true ↔ a.map (·.1) = b.map (·.1)) ∧ At w No [] w' := by
  obtain rfl := hR.lenf (fun _ => rfl) (by decide)
  obtain rfl := hS.lenf (fun _ => rfl) (by decide)
  refine body_in (n := 32) (l := [.slice A a.length c, .slice A' b.length c', .func (.func 49) #[] #[]]) en48 rfl Try.ntmps48 rfl ?_
  have hA := At.refl w
  refine W_seq ?_
  refine W_reg ?_ -- 0 slices.go:37
  refine o_assign (v := .bool _) rfl ?_
  refine O_end ?_
  refine W_seq ?_
  refine W_seq ?_
  refine W_reg ?_ -- 1 slices.go:38
  refine o_move (by conv => lhs; whnf) ?_
  refine o_len Try.underlying24 rfl ?_
  refine o_move (by conv => lhs; whnf) ?_
  refine o_len Try.underlying24 rfl ?_
  refine o_cmp2 rfl rfl rfl (fun h => ?_) (fun h => ?_)
  · -- True
    have q14 := bne_iff_ne.1 h
    refine O_end ?_
    refine W_then rfl ?_
    refine W_seq ?_
    refine W_reg ?_ -- 2 slices.go:39
    refine o_assign (v := .bool _) rfl ?_
    refine O_end ?_
    refine W_ret ?_
    refine ⟨rfl, ?_⟩
    refine ret1 Try.results48 (v := .bool _) rfl ?_
    exact ⟨false, rfl, ⟨fun h => (by cases h), fun h => by have h7 := congrArg List.length h; rw [List.length_map, List.length_map] at h7; rw [h7] at q14; exact absurd rfl q14⟩, hA⟩
  · -- False
    have q14 := bne_eq_false_iff_eq.1 h
    refine O_end ?_
    refine W_else rfl ?_
    refine W_skip ?_
    refine W_seq ?_
    refine W_seq ?_
    refine W_reg ?_ -- 3 slices.go:41
    refine o_move (by conv => lhs; whnf) ?_
    refine o_len Try.underlying24 rfl ?_
    refine o_move (v := .int _ _) rfl ?_
    refine O_end ?_
    refine W_block ?_ -- 0
    refine W_loop (fun kk ρ w' => ∃ (j : Nat), kk = a.length - j ∧ j ≤ a.length ∧ ρ 17 = .int .i64 (j : Int) ∧ ρ 16 = .int .i64 (a.length : Int) ∧ ρ 15 = .slice A a.length c ∧ ρ 1 = .slice A' b.length c' ∧ ρ 2 = .func (.func 49) #[] #[] ∧ (∀ i, i < j → (a.map (·.1))[i]? = (b.map (·.1))[i]?) ∧ At w No [] w') a.length
      ⟨0, by simp, Nat.zero_le _, rfl, rfl, rfl, rfl, rfl, fun i hi => by omega, hA⟩ ?_
    clear hA
    rintro kk ρ w1 ⟨j, rfl, hj, h17, h16, h15, h1, h2, hno, hA⟩
    refine W_known (t := 17) h17 ?_
    refine W_known (t := 16) h16 ?_
    refine W_known (t := 15) h15 ?_
    refine W_known (t := 1) h1 ?_
    refine W_known (t := 2) h2 ?_
    refine W_seq ?_
    refine W_reg ?_ -- 4 slices.go:41
    refine o_cmp2 rfl rfl rfl (fun h => ?_) (fun h => ?_)
    · -- True
      have q18 := of_decide_eq_true h
      have hlt : j < a.length := by omega
      obtain ⟨x, hx⟩ : ∃ x, a[j]? = some x := ⟨_, List.getElem?_eq_getElem hlt⟩
      obtain ⟨y, hy⟩ : ∃ y, b[j]? = some y := ⟨_, List.getElem?_eq_getElem (by omega)⟩
      obtain ⟨g0, o0, rfl⟩ := hR.addr (by decide) (fm_len (s := 3) (fun _ => rfl) a) (by omega)
      obtain ⟨g1, o1, rfl⟩ := hS.addr (by decide) (fm_len (s := 3) (fun _ => rfl) b) (by omega)
      have hxm := List.mem_of_getElem? hx
      have hym := List.mem_of_getElem? hy
      have hx1 : (a.map (·.1))[j]? = some x.1 := by rw [List.getElem?_map, hx]; rfl
      have hy1 : (b.map (·.1))[j]? = some y.1 := by rw [List.getElem?_map, hy]; rfl
      refine O_end ?_
      refine W_seq ?_
      refine W_then rfl ?_
      refine W_skip ?_
      refine W_seq ?_
      refine W_block ?_ -- 1
      refine W_seq ?_
      refine W_reg ?_ -- 5 slices.go:41
      refine o_move (v := .int _ _) rfl ?_
      refine o_index Try.underlying24 ti52 rfl rfl (by omega) (by omega) ?_
      refine o_loadN ag52 ti52 rfl (cs := ppc x) rfl (fun j v hj => (hR.old hA).fld (fun _ => rfl) hx hj) ?_
      refine o_alloc hA ti52 rfl (fun b1 w1 hA => ?_)
      refine o_assign (v := .int _ _) rfl ?_
      refine o_store (cs' := [_, _, _]) (i := 0) hA rfl (by conv => lhs; whnf) rfl ti52 rfl rfl rfl rfl (fun w2 hA => ?_)
      refine O_end ?_
      refine W_seq ?_
      refine W_reg ?_ -- 6 slices.go:42
      refine o_move (by conv => lhs; whnf) ?_
      refine o_move (v := .int _ _) rfl ?_
      refine o_index Try.underlying24 ti52 rfl rfl (by omega) (by omega) ?_
      refine o_loadN ag52 ti52 rfl (cs := ppc y) rfl (fun j v hj => (hS.old hA).fld (fun _ => rfl) hy hj) ?_
      refine o_alloc hA ti52 rfl (fun b3 w3 hA => ?_)
      refine o_store (cs' := [_, _, _]) (i := 0) hA rfl (by conv => lhs; whnf) rfl ti52 rfl rfl rfl rfl (fun w4 hA => ?_)
      refine O_end ?_
      refine W_seq ?_
      refine W_reg ?_ -- 7 slices.go:43
      refine o_move (by conv => lhs; whnf) ?_
      refine o_loadN ag52 ti52 rfl rfl (hA.cs (i := 1) (o := 0) (s := 3) (ds := [_, _, _]) rfl rfl) ?_
      refine o_loadN ag52 ti52 rfl rfl (hA.cs (i := 0) (o := 0) (s := 3) (ds := [_, _, _]) rfl rfl) ?_
      refine O_callv (fi := []) (ca := []) en49 rfl rfl (s_same1 (x := x) (y := y) ((hRd x hxm).old hA) ((hSd y hym).old hA) (hld x hxm) (hkd y hym)) (fun v5 w5 hC => ?_)
      obtain ⟨tb, rfl, hq, hC⟩ := hC
      have hA := (hA.after hC).take
      refine o_not rfl ?_
      refine O_end ?_
      refine W_if rfl (fun hcc => ?_) (fun hcc => ?_)
      · -- True
        have q30 := hcc
        refine W_seq ?_
        refine W_reg ?_ -- 8 slices.go:44
        refine o_assign (v := .bool _) rfl ?_
        refine O_end ?_
        refine W_ret ?_
        refine xb_ret ?_
        refine xb_ret ?_
        refine ⟨rfl, ?_⟩
        refine ret1 Try.results48 (v := .bool _) rfl ?_
        exact ⟨false, rfl, ⟨fun h => (by cases h), fun h => by
          have h5 := map_inj_get h hx1 hy1
          rw [hq.2 h5] at q30
          cases q30⟩, hA.clear⟩
      · -- False
        have q30 := hcc
        refine W_skip ?_
        refine W_reg ?_ -- 9 slices.go:41
        refine o_add rfl rfl (w64 (r := ((j + 1 : Nat) : Int)) (by omega) (by omega) (by omega)) ?_
        refine o_move (v := .int _ _) rfl ?_
        refine O_end ?_
        have h6 : x.1 = y.1 := hq.1 (by cases tb with | true => rfl | false => cases q30)
        refine ⟨a.length - (j + 1), by omega, j + 1, rfl, by omega, rfl, rfl, rfl, rfl, rfl, fun i hi => ?_, hA.clear⟩
        by_cases e : i = j
        · rw [e, hx1, hy1, h6]
        · exact hno i (by omega)
    · -- False
      have q18 := of_decide_eq_false h
      refine O_end ?_
      refine W_seq ?_
      refine W_else rfl ?_
      refine W_exit ?_
      refine xb_hit ?_
      refine W_seq ?_
      refine W_reg ?_ -- 10 slices.go:47
      refine o_assign (v := .bool _) rfl ?_
      refine O_end ?_
      refine W_ret ?_
      refine ⟨rfl, ?_⟩
      refine ret1 Try.results48 (v := .bool _) rfl ?_
      exact ⟨true, rfl, ⟨fun _ => ext_upto (by rw [List.length_map, List.length_map]; omega) fun i hi => hno i (by rw [List.length_map] at hi; omega), fun _ => rfl⟩, hA⟩

theorem s_eqos {w : World} {A A' : Option Addr} {m m' c c' : Nat} {a b : List (Oo × Sl)} (hR : Rd w 3 (.slice A m c) (a.flatMap ooc)) (hS : Rd w 3 (.slice A' m' c') (b.flatMap ooc)) (hRd : ∀ x ∈ a, Rd w 1 x.2.v (x.1.v.map u64v)) (hSd : ∀ x ∈ b, Rd w 1 x.2.v (x.1.v.map u64v)) (hl : a.length ≤ 9223372036854775807) (hk : b.length ≤ 9223372036854775807) (hld : ∀ x ∈ a, x.1.v.length ≤ 9223372036854775807) (hkd : ∀ x ∈ b, x.1.v.length ≤ 9223372036854775807) : Calls Try.prog 51 #[.slice A m c, .slice A' m' c', .func (.func 52) #[] #[]] w fun e w' => ∃ v, e = .returned v ∧ ∃ t : Bool, v = .bool t ∧ (t = true ↔ a.map (·.1) = b.map (·.1)) ∧ At w No [] w' := by
  obtain rfl := hR.lenf (fun _ => rfl) (by decide)
  obtain rfl := hS.lenf (fun _ => rfl) (by decide)
  refine body_in (n := 32) (l := [.slice A a.length c, .slice A' b.length c', .func (.func 52) #[] #[]]) en51 rfl Try.ntmps51 rfl ?_
  have hA := At.refl w
  refine W_seq ?_
  refine W_reg ?_ -- 0 slices.go:37
  refine o_assign (v := .bool _) rfl ?_
  refine O_end ?_
  refine W_seq ?_
  refine W_seq ?_
  refine W_reg ?_ -- 1 slices.go:38
  refine o_move (by conv => lhs; whnf) ?_
  refine o_len Try.underlying27 rfl ?_
  refine o_move (by conv => lhs; whnf) ?_
  refine o_len Try.underlying27 rfl ?_
  refine o_cmp2 rfl rfl rfl (fun h => ?_) (fun h => ?_)
  · -- True
    have q14 := bne_iff_ne.1 h
    refine O_end ?_
    refine W_then rfl ?_
    refine W_seq ?_
    refine W_reg ?_ -- 2 slices.go:39
    refine o_assign (v := .bool _) rfl ?_
    refine O_end ?_
    refine W_ret ?_
    refine ⟨rfl, ?_⟩
    refine ret1 Try.results51 (v := .bool _) rfl ?_
    exact ⟨false, rfl, ⟨fun h => (by cases h), fun h => by have h7 := congrArg List.length h; rw [List.length_map, List.length_map] at h7; rw [h7] at q14; exact absurd rfl q14⟩, hA⟩
  · -- False
    have q14 := bne_eq_false_iff_eq.1 h
    refine O_end ?_
    refine W_else rfl ?_
    refine W_skip ?_
    refine W_seq ?_
    refine W_seq ?_
    refine W_reg ?_ -- 3 slices.go:41
    refine o_move (by conv => lhs; whnf) ?_
    refine o_len Try.underlying27 rfl ?_
    refine o_move (v := .int _ _) rfl ?_
    refine O_end ?_
    refine W_block ?_ -- 0
    refine W_loop (fun kk ρ w' => ∃ (j : Nat), kk = a.length - j ∧ j ≤ a.length ∧ ρ 17 = .int .i64 (j : Int) ∧ ρ 16 = .int .i64 (a.length : Int) ∧ ρ 15 = .slice A a.length c ∧ ρ 1 = .slice A' b.length c' ∧ ρ 2 = .func (.func 52) #[] #[] ∧ (∀ i, i < j → (a.map (·.1))[i]? = (b.map (·.1))[i]?) ∧ At w No [] w') a.length
      ⟨0, by simp, Nat.zero_le _, rfl, rfl, rfl, rfl, rfl, fun i hi => by omega, hA⟩ ?_
    clear hA
    rintro kk ρ w1 ⟨j, rfl, hj, h17, h16, h15, h1, h2, hno, hA⟩
    refine W_known (t := 17) h17 ?_
    refine W_known (t := 16) h16 ?_
    refine W_known (t := 15) h15 ?_
    refine W_known (t := 1) h1 ?_
    refine W_known (t := 2) h2 ?_
    refine W_seq ?_
    refine W_reg ?_ -- 4 slices.go:41
    refine o_cmp2 rfl rfl rfl (fun h => ?_) (fun h => ?_)
    · -- True
      have q18 := of_decide_eq_true h
      have hlt : j < a.length := by omega
      obtain ⟨x, hx⟩ : ∃ x, a[j]? = some x := ⟨_, List.getElem?_eq_getElem hlt⟩
      obtain ⟨y, hy⟩ : ∃ y, b[j]? = some y := ⟨_, List.getElem?_eq_getElem (by omega)⟩
      obtain ⟨g0, o0, rfl⟩ := hR.addr (by decide) (fm_len (s := 3) (fun _ => rfl) a) (by omega)
      obtain ⟨g1, o1, rfl⟩ := hS.addr (by decide) (fm_len (s := 3) (fun _ => rfl) b) (by omega)
      have hxm := List.mem_of_getElem? hx
      have hym := List.mem_of_getElem? hy
      have hx1 : (a.map (·.1))[j]? = some x.1 := by rw [List.getElem?_map, hx]; rfl
      have hy1 : (b.map (·.1))[j]? = some y.1 := by rw [List.getElem?_map, hy]; rfl
      refine O_end ?_
      refine W_seq ?_
      refine W_then rfl ?_
      refine W_skip ?_
      refine W_seq ?_
      refine W_block ?_ -- 1
      refine W_seq ?_
      refine W_reg ?_ -- 5 slices.go:41
      refine o_move (v := .int _ _) rfl ?_
      refine o_index Try.underlying27 ti55 rfl rfl (by omega) (by omega) ?_
      refine o_loadN ag55 ti55 rfl (cs := ooc x) rfl (fun j v hj => (hR.old hA).fld (fun _ => rfl) hx hj) ?_
      refine o_alloc hA ti55 rfl (fun b1 w1 hA => ?_)
      refine o_assign (v := .int _ _) rfl ?_
      refine o_store (cs' := [_, _, _]) (i := 0) hA rfl (by conv => lhs; whnf) rfl ti55 rfl rfl rfl rfl (fun w2 hA => ?_)
      refine O_end ?_
      refine W_seq ?_
      refine W_reg ?_ -- 6 slices.go:42
      refine o_move (by conv => lhs; whnf) ?_
      refine o_move (v := .int _ _) rfl ?_
      refine o_index Try.underlying27 ti55 rfl rfl (by omega) (by omega) ?_
      refine o_loadN ag55 ti55 rfl (cs := ooc y) rfl (fun j v hj => (hS.old hA).fld (fun _ => rfl) hy hj) ?_
      refine o_alloc hA ti55 rfl (fun b3 w3 hA => ?_)
      refine o_store (cs' := [_, _, _]) (i := 0) hA rfl (by conv => lhs; whnf) rfl ti55 rfl rfl rfl rfl (fun w4 hA => ?_)
      refine O_end ?_
      refine W_seq ?_
      refine W_reg ?_ -- 7 slices.go:43
      refine o_move (by conv => lhs; whnf) ?_
      refine o_loadN ag55 ti55 rfl rfl (hA.cs (i := 1) (o := 0) (s := 3) (ds := [_, _, _]) rfl rfl) ?_
      refine o_loadN ag55 ti55 rfl rfl (hA.cs (i := 0) (o := 0) (s := 3) (ds := [_, _, _]) rfl rfl) ?_
      refine O_callv (fi := []) (ca := []) en52 rfl rfl (s_same2 (x := x) (y := y) ((hRd x hxm).old hA) ((hSd y hym).old hA) (hld x hxm) (hkd y hym)) (fun v5 w5 hC => ?_)
      obtain ⟨tb, rfl, hq, hC⟩ := hC
      have hA := (hA.after hC).take
      refine o_not rfl ?_
      refine O_end ?_
      refine W_if rfl (fun hcc => ?_) (fun hcc => ?_)
      · -- True
        have q30 := hcc
        refine W_seq ?_
        refine W_reg ?_ -- 8 slices.go:44
        refine o_assign (v := .bool _) rfl ?_
        refine O_end ?_
        refine W_ret ?_
        refine xb_ret ?_
        refine xb_ret ?_
        refine ⟨rfl, ?_⟩
        refine ret1 Try.results51 (v := .bool _) rfl ?_
        exact ⟨false, rfl, ⟨fun h => (by cases h), fun h => by
          have h5 := map_inj_get h hx1 hy1
          rw [hq.2 h5] at q30
          cases q30⟩, hA.clear⟩
      · -- False
        have q30 := hcc
        refine W_skip ?_
        refine W_reg ?_ -- 9 slices.go:41
        refine o_add rfl rfl (w64 (r := ((j + 1 : Nat) : Int)) (by omega) (by omega) (by omega)) ?_
        refine o_move (v := .int _ _) rfl ?_
        refine O_end ?_
        have h6 : x.1 = y.1 := hq.1 (by cases tb with | true => rfl | false => cases q30)
        refine ⟨a.length - (j + 1), by omega, j + 1, rfl, by omega, rfl, rfl, rfl, rfl, rfl, fun i hi => ?_, hA.clear⟩
        by_cases e : i = j
        · rw [e, hx1, hy1, h6]
        · exact hno i (by omega)
    · -- False
      have q18 := of_decide_eq_false h
      refine O_end ?_
      refine W_seq ?_
      refine W_else rfl ?_
      refine W_exit ?_
      refine xb_hit ?_
      refine W_seq ?_
      refine W_reg ?_ -- 10 slices.go:47
      refine o_assign (v := .bool _) rfl ?_
      refine O_end ?_
      refine W_ret ?_
      refine ⟨rfl, ?_⟩
      refine ret1 Try.results51 (v := .bool _) rfl ?_
      exact ⟨true, rfl, ⟨fun _ => ext_upto (by rw [List.length_map, List.length_map]; omega) fun i hi => hno i (by rw [List.length_map] at hi; omega), fun _ => rfl⟩, hA⟩

/-- How long a word's lists are. -/
structure Small (H : WH) : Prop where
  cs : H.cs.length ≤ 9223372036854775807
  ps : H.ps.length ≤ 9223372036854775807
  vs : H.vs.length ≤ 9223372036854775807
  ws : H.ws.length ≤ 9223372036854775807
  os : H.os.length ≤ 9223372036854775807
  pd : ∀ x ∈ H.ps, x.1.d.length ≤ 9223372036854775807
  od : ∀ x ∈ H.os, x.1.v.length ≤ 9223372036854775807
theorem Small.five {H : WH} (h : Small H) : H.cs.length ≤ 9223372036854775807 ∧ H.ps.length ≤ 9223372036854775807 ∧ H.vs.length ≤ 9223372036854775807 ∧ H.ws.length ≤ 9223372036854775807 ∧ H.os.length ≤ 9223372036854775807 := ⟨h.cs, h.ps, h.vs, h.ws, h.os⟩

theorem w_Same {w : World} {H K : WH} (hR : RdW w H) (hS : RdW w K) (hl : Small H) (hk : Small K) : Calls Try.prog 17 #[.agg (wdc H).toArray, .agg (wdc K).toArray] w fun e w' => ∃ v, e = .returned v ∧ ∃ t : Bool, v = .bool t ∧ (t = true ↔ H.x = K.x) ∧ At w No [] w' := by
  obtain ⟨kind, frm, why, cs, ps, vs, ws, os, ⟨CA, Cm, Cc⟩, ⟨PA, Pm, Pc⟩, ⟨VA, Vm, Vc⟩, ⟨NA, Nm, Nc⟩, ⟨OA, Om, Oc⟩⟩ := H
  obtain ⟨hc, hp, hpd, hv, hn, ho, hod⟩ := hR
  obtain ⟨lc, lp, lv, ln, lo, lpd, lod⟩ := hl
  obtain ⟨kind', frm', why', cs', ps', vs', ws', os', ⟨CA', Cm', Cc'⟩, ⟨PA', Pm', Pc'⟩, ⟨VA', Vm', Vc'⟩, ⟨NA', Nm', Nc'⟩, ⟨OA', Om', Oc'⟩⟩ := K
  obtain ⟨hc', hp', hpd', hv', hn', ho', hod'⟩ := hS
  obtain ⟨lc', lp', lv', ln', lo', lpd', lod'⟩ := hk
  refine body_in (n := 59) (l := [.agg #[.int .i64 kind, .int .i64 frm, .int .i64 why, .slice CA Cm Cc, .slice PA Pm Pc, .slice VA Vm Vc, .slice NA Nm Nc, .slice OA Om Oc], .agg #[.int .i64 kind', .int .i64 frm', .int .i64 why', .slice CA' Cm' Cc', .slice PA' Pm' Pc', .slice VA' Vm' Vc', .slice NA' Nm' Nc', .slice OA' Om' Oc']]) en17 rfl Try.ntmps17 rfl ?_
  have hA := At.refl w
  refine W_seq ?_
  refine W_reg ?_ -- 0 words.go:185
  refine o_box hA (by conv => lhs; whnf) rfl (fun b1 w1 hA => ?_)
  refine o_box hA (by conv => lhs; whnf) rfl (fun b2 w2 hA => ?_)
  refine o_assign (v := .bool _) rfl ?_
  refine O_end ?_
  refine W_seq ?_
  refine W_reg ?_ -- 1 words.go:186
  refine o_fieldAddr fo29_0 rfl rfl ?_
  refine o_load1 ag3 rfl (hA.c 1 rfl rfl) ?_
  refine o_fieldAddr fo29_0 rfl rfl ?_
  refine o_load1 ag3 rfl (hA.c 0 rfl rfl) ?_
  refine o_cmp2 rfl rfl rfl (fun h => ?_) (fun h => ?_)
  · -- True
    have q9 := beq_iff_eq.1 h
    refine o_move (v := .bool _) rfl ?_
    refine O_yes rfl rfl rfl ?_
    refine o_fieldAddr fo29_1 rfl rfl ?_
    refine O_yes rfl rfl rfl ?_
    refine o_load1 ag3 rfl (hA.c 1 rfl rfl) ?_
    refine O_yes rfl rfl rfl ?_
    refine o_fieldAddr fo29_1 rfl rfl ?_
    refine O_yes rfl rfl rfl ?_
    refine o_load1 ag3 rfl (hA.c 0 rfl rfl) ?_
    refine O_yes rfl rfl rfl ?_
    refine o_cmp2 rfl rfl rfl (fun h => ?_) (fun h => ?_)
    · -- True
      have q15 := beq_iff_eq.1 h
      refine o_pick_t rfl (v := .bool _) rfl ?_
      refine o_move (v := .bool _) rfl ?_
      refine O_yes rfl rfl rfl ?_
      refine o_fieldAddr fo29_2 rfl rfl ?_
      refine O_yes rfl rfl rfl ?_
      refine o_load1 ag22 rfl (hA.c 1 rfl rfl) ?_
      refine O_yes rfl rfl rfl ?_
      refine o_fieldAddr fo29_2 rfl rfl ?_
      refine O_yes rfl rfl rfl ?_
      refine o_load1 ag22 rfl (hA.c 0 rfl rfl) ?_
      refine O_yes rfl rfl rfl ?_
      refine o_cmp2 rfl rfl rfl (fun h => ?_) (fun h => ?_)
      · -- True
        have q22 := beq_iff_eq.1 h
        refine o_pick_t rfl (v := .bool _) rfl ?_
        refine o_move (v := .bool _) rfl ?_
        refine O_yes rfl rfl rfl ?_
        refine o_fieldAddr fo29_3 rfl rfl ?_
        refine O_yes rfl rfl rfl ?_
        refine o_load1 ag23 rfl (hA.c 1 rfl rfl) ?_
        refine O_yes rfl rfl rfl ?_
        refine o_fieldAddr fo29_3 rfl rfl ?_
        refine O_yes rfl rfl rfl ?_
        refine o_load1 ag23 rfl (hA.c 0 rfl rfl) ?_
        refine O_yes rfl rfl rfl ?_
        refine O_callb en45 rfl (dec_call (s_eqc (hc.old hA) (hc'.old hA) lc lc')) (fun w3 hC h => ?_) (fun w3 hC h => ?_)
        · -- True
          have hA := (hA.after hC).take
          have q29 := h
          refine o_pick_t rfl (v := .bool _) rfl ?_
          refine o_move (v := .bool _) rfl ?_
          refine O_yes rfl rfl rfl ?_
          refine o_fieldAddr fo29_5 rfl rfl ?_
          refine O_yes rfl rfl rfl ?_
          refine o_load1 ag25 rfl (hA.c 1 rfl rfl) ?_
          refine O_yes rfl rfl rfl ?_
          refine o_fieldAddr fo29_5 rfl rfl ?_
          refine O_yes rfl rfl rfl ?_
          refine o_load1 ag25 rfl (hA.c 0 rfl rfl) ?_
          refine O_yes rfl rfl rfl ?_
          refine O_callb en46 rfl (dec_call (s_eqv (hv.old hA) (hv'.old hA) lv lv')) (fun w4 hC h => ?_) (fun w4 hC h => ?_)
          · -- True
            have hA := (hA.after hC).take
            have q36 := h
            refine o_pick_t rfl (v := .bool _) rfl ?_
            refine o_move (v := .bool _) rfl ?_
            refine O_yes rfl rfl rfl ?_
            refine o_fieldAddr fo29_6 rfl rfl ?_
            refine O_yes rfl rfl rfl ?_
            refine o_load1 ag26 rfl (hA.c 1 rfl rfl) ?_
            refine O_yes rfl rfl rfl ?_
            refine o_fieldAddr fo29_6 rfl rfl ?_
            refine O_yes rfl rfl rfl ?_
            refine o_load1 ag26 rfl (hA.c 0 rfl rfl) ?_
            refine O_yes rfl rfl rfl ?_
            refine O_callb en47 rfl (dec_call (s_eqi (hn.old hA) (hn'.old hA) ln ln')) (fun w5 hC h => ?_) (fun w5 hC h => ?_)
            · -- True
              have hA := (hA.after hC).take
              have q43 := h
              refine o_pick_t rfl (v := .bool _) rfl ?_
              refine o_move (v := .bool _) rfl ?_
              refine O_yes rfl rfl rfl ?_
              refine o_fieldAddr fo29_4 rfl rfl ?_
              refine O_yes rfl rfl rfl ?_
              refine o_load1 ag24 rfl (hA.c 1 rfl rfl) ?_
              refine O_yes rfl rfl rfl ?_
              refine o_fieldAddr fo29_4 rfl rfl ?_
              refine O_yes rfl rfl rfl ?_
              refine o_load1 ag24 rfl (hA.c 0 rfl rfl) ?_
              refine O_yes rfl rfl rfl ?_
              refine O_callb en48 rfl (dec_call (s_eqps (hp.old hA) (hp'.old hA) (fun x hx => (hpd x hx).old hA) (fun x hx => (hpd' x hx).old hA) lp lp' lpd lpd')) (fun w6 hC h => ?_) (fun w6 hC h => ?_)
              · -- True
                have hA := (hA.after hC).take
                have q50 := h
                refine o_pick_t rfl (v := .bool _) rfl ?_
                refine o_move (v := .bool _) rfl ?_
                refine O_yes rfl rfl rfl ?_
                refine o_fieldAddr fo29_7 rfl rfl ?_
                refine O_yes rfl rfl rfl ?_
                refine o_load1 ag27 rfl (hA.c 1 rfl rfl) ?_
                refine O_yes rfl rfl rfl ?_
                refine o_fieldAddr fo29_7 rfl rfl ?_
                refine O_yes rfl rfl rfl ?_
                refine o_load1 ag27 rfl (hA.c 0 rfl rfl) ?_
                refine O_yes rfl rfl rfl ?_
                refine O_calls en51 rfl (s_eqos (ho.old hA) (ho'.old hA) (fun x hx => (hod x hx).old hA) (fun x hx => (hod' x hx).old hA) lo lo' lod lod') (fun v7 w7 hC => ?_)
                obtain ⟨tb, rfl, hq, hC⟩ := hC
                have hA := (hA.after hC).take
                refine o_pick_t rfl (v := .bool _) rfl ?_
                refine o_assign (v := .bool _) rfl ?_
                refine O_end ?_
                refine W_ret ?_
                refine ⟨rfl, ?_⟩
                refine ret1 Try.results17 (v := .bool _) rfl ?_
                exact ⟨tb, rfl, ⟨fun h => by
                  show Wd.mk kind frm why cs (ps.map (·.1)) vs ws (os.map (·.1)) = Wd.mk kind' frm' why' cs' (ps'.map (·.1)) vs' ws' (os'.map (·.1))
                  rw [q9, q15, q22, show cs = cs' from of_decide_eq_true q29, show vs = vs' from of_decide_eq_true q36, show ws = ws' from of_decide_eq_true q43, show ps.map (·.1) = ps'.map (·.1) from of_decide_eq_true q50, show os.map (·.1) = os'.map (·.1) from hq.1 h], fun h => by
                  injection h with h1 h2 h3 h4 h5 h6 h7 h8
                  exact hq.2 h8⟩, hA.clear⟩
              · -- False
                have hA := (hA.after hC).take
                have q50 := h
                refine o_pick_t rfl (v := .bool _) rfl ?_
                refine o_move (v := .bool _) rfl ?_
                refine O_no rfl rfl rfl rfl ?_
                refine O_no rfl rfl rfl rfl ?_
                refine O_no rfl rfl rfl rfl ?_
                refine O_no rfl rfl rfl rfl ?_
                refine O_no rfl rfl rfl rfl ?_
                refine o_pick_f rfl (v := .bool _) rfl ?_
                refine o_assign (v := .bool _) rfl ?_
                refine O_end ?_
                refine W_ret ?_
                refine ⟨rfl, ?_⟩
                refine ret1 Try.results17 (v := .bool _) rfl ?_
                exact ⟨false, rfl, ⟨fun h => (by cases h), fun h => by
                  injection h with h1 h2 h3 h4 h5 h6 h7 h8
                  exact absurd h5 (of_decide_eq_false q50)⟩, hA.clear⟩
            · -- False
              have hA := (hA.after hC).take
              have q43 := h
              refine o_pick_t rfl (v := .bool _) rfl ?_
              refine o_move (v := .bool _) rfl ?_
              refine O_no rfl rfl rfl rfl ?_
              refine O_no rfl rfl rfl rfl ?_
              refine O_no rfl rfl rfl rfl ?_
              refine O_no rfl rfl rfl rfl ?_
              refine O_no rfl rfl rfl rfl ?_
              refine o_pick_f rfl (v := .bool _) rfl ?_
              refine o_move (v := .bool _) rfl ?_
              refine O_no rfl rfl rfl rfl ?_
              refine O_no rfl rfl rfl rfl ?_
              refine O_no rfl rfl rfl rfl ?_
              refine O_no rfl rfl rfl rfl ?_
              refine O_no rfl rfl rfl rfl ?_
              refine o_pick_f rfl (v := .bool _) rfl ?_
              refine o_assign (v := .bool _) rfl ?_
              refine O_end ?_
              refine W_ret ?_
              refine ⟨rfl, ?_⟩
              refine ret1 Try.results17 (v := .bool _) rfl ?_
              exact ⟨false, rfl, ⟨fun h => (by cases h), fun h => by
                injection h with h1 h2 h3 h4 h5 h6 h7 h8
                exact absurd h7 (of_decide_eq_false q43)⟩, hA.clear⟩
          · -- False
            have hA := (hA.after hC).take
            have q36 := h
            refine o_pick_t rfl (v := .bool _) rfl ?_
            refine o_move (v := .bool _) rfl ?_
            refine O_no rfl rfl rfl rfl ?_
            refine O_no rfl rfl rfl rfl ?_
            refine O_no rfl rfl rfl rfl ?_
            refine O_no rfl rfl rfl rfl ?_
            refine O_no rfl rfl rfl rfl ?_
            refine o_pick_f rfl (v := .bool _) rfl ?_
            refine o_move (v := .bool _) rfl ?_
            refine O_no rfl rfl rfl rfl ?_
            refine O_no rfl rfl rfl rfl ?_
            refine O_no rfl rfl rfl rfl ?_
            refine O_no rfl rfl rfl rfl ?_
            refine O_no rfl rfl rfl rfl ?_
            refine o_pick_f rfl (v := .bool _) rfl ?_
            refine o_move (v := .bool _) rfl ?_
            refine O_no rfl rfl rfl rfl ?_
            refine O_no rfl rfl rfl rfl ?_
            refine O_no rfl rfl rfl rfl ?_
            refine O_no rfl rfl rfl rfl ?_
            refine O_no rfl rfl rfl rfl ?_
            refine o_pick_f rfl (v := .bool _) rfl ?_
            refine o_assign (v := .bool _) rfl ?_
            refine O_end ?_
            refine W_ret ?_
            refine ⟨rfl, ?_⟩
            refine ret1 Try.results17 (v := .bool _) rfl ?_
            exact ⟨false, rfl, ⟨fun h => (by cases h), fun h => by
              injection h with h1 h2 h3 h4 h5 h6 h7 h8
              exact absurd h6 (of_decide_eq_false q36)⟩, hA.clear⟩
        · -- False
          have hA := (hA.after hC).take
          have q29 := h
          refine o_pick_t rfl (v := .bool _) rfl ?_
          refine o_move (v := .bool _) rfl ?_
          refine O_no rfl rfl rfl rfl ?_
          refine O_no rfl rfl rfl rfl ?_
          refine O_no rfl rfl rfl rfl ?_
          refine O_no rfl rfl rfl rfl ?_
          refine O_no rfl rfl rfl rfl ?_
          refine o_pick_f rfl (v := .bool _) rfl ?_
          refine o_move (v := .bool _) rfl ?_
          refine O_no rfl rfl rfl rfl ?_
          refine O_no rfl rfl rfl rfl ?_
          refine O_no rfl rfl rfl rfl ?_
          refine O_no rfl rfl rfl rfl ?_
          refine O_no rfl rfl rfl rfl ?_
          refine o_pick_f rfl (v := .bool _) rfl ?_
          refine o_move (v := .bool _) rfl ?_
          refine O_no rfl rfl rfl rfl ?_
          refine O_no rfl rfl rfl rfl ?_
          refine O_no rfl rfl rfl rfl ?_
          refine O_no rfl rfl rfl rfl ?_
          refine O_no rfl rfl rfl rfl ?_
          refine o_pick_f rfl (v := .bool _) rfl ?_
          refine o_move (v := .bool _) rfl ?_
          refine O_no rfl rfl rfl rfl ?_
          refine O_no rfl rfl rfl rfl ?_
          refine O_no rfl rfl rfl rfl ?_
          refine O_no rfl rfl rfl rfl ?_
          refine O_no rfl rfl rfl rfl ?_
          refine o_pick_f rfl (v := .bool _) rfl ?_
          refine o_assign (v := .bool _) rfl ?_
          refine O_end ?_
          refine W_ret ?_
          refine ⟨rfl, ?_⟩
          refine ret1 Try.results17 (v := .bool _) rfl ?_
          exact ⟨false, rfl, ⟨fun h => (by cases h), fun h => by
            injection h with h1 h2 h3 h4 h5 h6 h7 h8
            exact absurd h4 (of_decide_eq_false q29)⟩, hA.clear⟩
      · -- False
        have q22 := beq_eq_false_iff_ne.1 h
        refine o_pick_t rfl (v := .bool _) rfl ?_
        refine o_move (v := .bool _) rfl ?_
        refine O_no rfl rfl rfl rfl ?_
        refine O_no rfl rfl rfl rfl ?_
        refine O_no rfl rfl rfl rfl ?_
        refine O_no rfl rfl rfl rfl ?_
        refine O_no rfl rfl rfl rfl ?_
        refine o_pick_f rfl (v := .bool _) rfl ?_
        refine o_move (v := .bool _) rfl ?_
        refine O_no rfl rfl rfl rfl ?_
        refine O_no rfl rfl rfl rfl ?_
        refine O_no rfl rfl rfl rfl ?_
        refine O_no rfl rfl rfl rfl ?_
        refine O_no rfl rfl rfl rfl ?_
        refine o_pick_f rfl (v := .bool _) rfl ?_
        refine o_move (v := .bool _) rfl ?_
        refine O_no rfl rfl rfl rfl ?_
        refine O_no rfl rfl rfl rfl ?_
        refine O_no rfl rfl rfl rfl ?_
        refine O_no rfl rfl rfl rfl ?_
        refine O_no rfl rfl rfl rfl ?_
        refine o_pick_f rfl (v := .bool _) rfl ?_
        refine o_move (v := .bool _) rfl ?_
        refine O_no rfl rfl rfl rfl ?_
        refine O_no rfl rfl rfl rfl ?_
        refine O_no rfl rfl rfl rfl ?_
        refine O_no rfl rfl rfl rfl ?_
        refine O_no rfl rfl rfl rfl ?_
        refine o_pick_f rfl (v := .bool _) rfl ?_
        refine o_move (v := .bool _) rfl ?_
        refine O_no rfl rfl rfl rfl ?_
        refine O_no rfl rfl rfl rfl ?_
        refine O_no rfl rfl rfl rfl ?_
        refine O_no rfl rfl rfl rfl ?_
        refine O_no rfl rfl rfl rfl ?_
        refine o_pick_f rfl (v := .bool _) rfl ?_
        refine o_assign (v := .bool _) rfl ?_
        refine O_end ?_
        refine W_ret ?_
        refine ⟨rfl, ?_⟩
        refine ret1 Try.results17 (v := .bool _) rfl ?_
        exact ⟨false, rfl, ⟨fun h => (by cases h), fun h => by
          injection h with h1 h2 h3 h4 h5 h6 h7 h8
          exact absurd h3 q22⟩, hA.clear⟩
    · -- False
      have q15 := beq_eq_false_iff_ne.1 h
      refine o_pick_t rfl (v := .bool _) rfl ?_
      refine o_move (v := .bool _) rfl ?_
      refine O_no rfl rfl rfl rfl ?_
      refine O_no rfl rfl rfl rfl ?_
      refine O_no rfl rfl rfl rfl ?_
      refine O_no rfl rfl rfl rfl ?_
      refine O_no rfl rfl rfl rfl ?_
      refine o_pick_f rfl (v := .bool _) rfl ?_
      refine o_move (v := .bool _) rfl ?_
      refine O_no rfl rfl rfl rfl ?_
      refine O_no rfl rfl rfl rfl ?_
      refine O_no rfl rfl rfl rfl ?_
      refine O_no rfl rfl rfl rfl ?_
      refine O_no rfl rfl rfl rfl ?_
      refine o_pick_f rfl (v := .bool _) rfl ?_
      refine o_move (v := .bool _) rfl ?_
      refine O_no rfl rfl rfl rfl ?_
      refine O_no rfl rfl rfl rfl ?_
      refine O_no rfl rfl rfl rfl ?_
      refine O_no rfl rfl rfl rfl ?_
      refine O_no rfl rfl rfl rfl ?_
      refine o_pick_f rfl (v := .bool _) rfl ?_
      refine o_move (v := .bool _) rfl ?_
      refine O_no rfl rfl rfl rfl ?_
      refine O_no rfl rfl rfl rfl ?_
      refine O_no rfl rfl rfl rfl ?_
      refine O_no rfl rfl rfl rfl ?_
      refine O_no rfl rfl rfl rfl ?_
      refine o_pick_f rfl (v := .bool _) rfl ?_
      refine o_move (v := .bool _) rfl ?_
      refine O_no rfl rfl rfl rfl ?_
      refine O_no rfl rfl rfl rfl ?_
      refine O_no rfl rfl rfl rfl ?_
      refine O_no rfl rfl rfl rfl ?_
      refine O_no rfl rfl rfl rfl ?_
      refine o_pick_f rfl (v := .bool _) rfl ?_
      refine o_move (v := .bool _) rfl ?_
      refine O_no rfl rfl rfl rfl ?_
      refine O_no rfl rfl rfl rfl ?_
      refine O_no rfl rfl rfl rfl ?_
      refine O_no rfl rfl rfl rfl ?_
      refine O_no rfl rfl rfl rfl ?_
      refine o_pick_f rfl (v := .bool _) rfl ?_
      refine o_assign (v := .bool _) rfl ?_
      refine O_end ?_
      refine W_ret ?_
      refine ⟨rfl, ?_⟩
      refine ret1 Try.results17 (v := .bool _) rfl ?_
      exact ⟨false, rfl, ⟨fun h => (by cases h), fun h => by
        injection h with h1 h2 h3 h4 h5 h6 h7 h8
        exact absurd h2 q15⟩, hA.clear⟩
  · -- False
    have q9 := beq_eq_false_iff_ne.1 h
    refine o_move (v := .bool _) rfl ?_
    refine O_no rfl rfl rfl rfl ?_
    refine O_no rfl rfl rfl rfl ?_
    refine O_no rfl rfl rfl rfl ?_
    refine O_no rfl rfl rfl rfl ?_
    refine O_no rfl rfl rfl rfl ?_
    refine o_pick_f rfl (v := .bool _) rfl ?_
    refine o_move (v := .bool _) rfl ?_
    refine O_no rfl rfl rfl rfl ?_
    refine O_no rfl rfl rfl rfl ?_
    refine O_no rfl rfl rfl rfl ?_
    refine O_no rfl rfl rfl rfl ?_
    refine O_no rfl rfl rfl rfl ?_
    refine o_pick_f rfl (v := .bool _) rfl ?_
    refine o_move (v := .bool _) rfl ?_
    refine O_no rfl rfl rfl rfl ?_
    refine O_no rfl rfl rfl rfl ?_
    refine O_no rfl rfl rfl rfl ?_
    refine O_no rfl rfl rfl rfl ?_
    refine O_no rfl rfl rfl rfl ?_
    refine o_pick_f rfl (v := .bool _) rfl ?_
    refine o_move (v := .bool _) rfl ?_
    refine O_no rfl rfl rfl rfl ?_
    refine O_no rfl rfl rfl rfl ?_
    refine O_no rfl rfl rfl rfl ?_
    refine O_no rfl rfl rfl rfl ?_
    refine O_no rfl rfl rfl rfl ?_
    refine o_pick_f rfl (v := .bool _) rfl ?_
    refine o_move (v := .bool _) rfl ?_
    refine O_no rfl rfl rfl rfl ?_
    refine O_no rfl rfl rfl rfl ?_
    refine O_no rfl rfl rfl rfl ?_
    refine O_no rfl rfl rfl rfl ?_
    refine O_no rfl rfl rfl rfl ?_
    refine o_pick_f rfl (v := .bool _) rfl ?_
    refine o_move (v := .bool _) rfl ?_
    refine O_no rfl rfl rfl rfl ?_
    refine O_no rfl rfl rfl rfl ?_
    refine O_no rfl rfl rfl rfl ?_
    refine O_no rfl rfl rfl rfl ?_
    refine O_no rfl rfl rfl rfl ?_
    refine o_pick_f rfl (v := .bool _) rfl ?_
    refine o_move (v := .bool _) rfl ?_
    refine O_no rfl rfl rfl rfl ?_
    refine O_no rfl rfl rfl rfl ?_
    refine O_no rfl rfl rfl rfl ?_
    refine O_no rfl rfl rfl rfl ?_
    refine O_no rfl rfl rfl rfl ?_
    refine o_pick_f rfl (v := .bool _) rfl ?_
    refine o_assign (v := .bool _) rfl ?_
    refine O_end ?_
    refine W_ret ?_
    refine ⟨rfl, ?_⟩
    refine ret1 Try.results17 (v := .bool _) rfl ?_
    exact ⟨false, rfl, ⟨fun h => (by cases h), fun h => by
      injection h with h1 h2 h3 h4 h5 h6 h7 h8
      exact absurd h1 q9⟩, hA.clear⟩

end Go.Proofs.Ytbcaooiphalkoaa
