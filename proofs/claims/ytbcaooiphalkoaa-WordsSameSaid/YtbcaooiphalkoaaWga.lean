/-
  Package words: who, rising, the numbers of what stands at a place.
-/
import Derived.Test.YtbcaooiphalkoaaWd
set_option linter.unusedVariables false
set_option linter.unusedSimpArgs false
namespace Go.Proofs.Ytbcaooiphalkoaa
open Go Go.RowKit

theorem w_who {w : World} {n : Int} : Calls Try.prog 73 #[.int .i64 n] w fun e w' => ∃ v, e = .returned v ∧ (v = .bool (whoP n) ∧ At w No [] w') := by
  refine body_in (n := 9) (l := [.int .i64 n]) en73 rfl Try.ntmps73 rfl ?_
  have hA := At.refl w
  refine W_seq ?_
  refine W_reg ?_ -- 0 words.go:17
  refine o_assign (v := .bool _) rfl ?_
  refine O_end ?_
  refine W_seq ?_
  refine W_reg ?_ -- 1 words.go:17
  refine o_move (v := .int _ _) rfl ?_
  refine o_cmp2 rfl rfl rfl (fun h => ?_) (fun h => ?_)
  · -- True
    have q4 := of_decide_eq_true h
    refine o_move (v := .bool _) rfl ?_
    refine O_yes rfl rfl rfl ?_
    refine o_move (v := .int _ _) rfl ?_
    refine O_yes rfl rfl rfl ?_
    refine o_cmp rfl rfl rfl ?_
    refine o_pick_t rfl (v := .bool _) rfl ?_
    refine o_assign (v := .bool _) rfl ?_
    refine O_end ?_
    refine W_ret ?_
    refine ⟨rfl, ?_⟩
    refine ret1 Try.results73 (v := .bool _) rfl ?_
    refine ⟨?_, hA⟩
    show Value.bool _ = _
    unfold whoP
    rw [decide_eq_true (show 1 ≤ n from q4), Bool.true_and]
  · -- False
    have q4 := of_decide_eq_false h
    refine o_move (v := .bool _) rfl ?_
    refine O_no rfl rfl rfl rfl ?_
    refine O_no rfl rfl rfl rfl ?_
    refine o_pick_f rfl (v := .bool _) rfl ?_
    refine o_assign (v := .bool _) rfl ?_
    refine O_end ?_
    refine W_ret ?_
    refine ⟨rfl, ?_⟩
    refine ret1 Try.results73 (v := .bool _) rfl ?_
    refine ⟨?_, hA⟩
    show Value.bool _ = _
    unfold whoP
    rw [decide_eq_false (show ¬ 1 ≤ n from q4), Bool.false_and]

theorem w_rising {w : World} {g : Nat} {fi ca : List Value} {fn : Func} {l : List Int} (hf : Ent Try.prog g fn) (hl : l.length ≤ 9223372036854775807)
    (hp : ∀ (w' : World) (i : Nat) (x : Int), At w No [] w' → l[i]? = some x → Calls Try.prog g (fi ++ [Value.int .i64 (i : Int)] ++ ca).toArray w' fun e w'' => ∃ v, e = .returned v ∧ (v = .int .i64 x ∧ At w' No [] w'')) :
    Calls Try.prog 65 #[.int .i64 (l.length : Int), .func (.func g) fi.toArray ca.toArray] w fun e w' => ∃ v, e = .returned v ∧ (v = .bool (risP l) ∧ At w No [] w') := by
  refine body_in (n := 30) (l := [.int .i64 (l.length : Int), .func (.func g) fi.toArray ca.toArray]) en65 rfl Try.ntmps65 rfl ?_
  have hA := At.refl w
  refine W_seq ?_
  refine W_reg ?_ -- 0 words.go:20
  refine o_assign (v := .bool _) rfl ?_
  refine O_end ?_
  refine W_seq ?_
  refine W_seq ?_
  refine W_reg ?_ -- 1 words.go:21
  refine o_move (v := .int _ _) rfl ?_
  refine o_move (v := .int _ _) rfl ?_
  refine O_end ?_
  refine W_block ?_ -- 0
  refine W_loop (fun kk ρ w' => ∃ (i : Nat), kk = l.length - i ∧ i ≤ l.length ∧ ρ 7 = .int .i64 (i : Int) ∧ ρ 6 = .int .i64 (l.length : Int) ∧ ρ 1 = .func (.func g) fi.toArray ca.toArray ∧ (∀ j, j < i → risAt l j = true) ∧ At w No [] w') l.length
    ⟨0, by simp, Nat.zero_le _, rfl, rfl, rfl, fun j hj => by omega, hA⟩ ?_
  clear hA
  rintro kk ρ w1 ⟨i, rfl, hi, h7, h6, h1, hno, hA⟩
  refine W_known (t := 7) h7 ?_
  refine W_known (t := 6) h6 ?_
  refine W_known (t := 1) h1 ?_
  refine W_seq ?_
  refine W_reg ?_ -- 2 words.go:21
  refine o_cmp2 rfl rfl rfl (fun h => ?_) (fun h => ?_)
  · -- True
    have q8 := of_decide_eq_true h
    have hlt : i < l.length := by omega
    obtain ⟨x, hx⟩ : ∃ x, l[i]? = some x := ⟨_, List.getElem?_eq_getElem hlt⟩
    refine O_end ?_
    refine W_seq ?_
    refine W_then rfl ?_
    refine W_skip ?_
    refine W_seq ?_
    refine W_block ?_ -- 1
    refine W_seq ?_
    refine W_reg ?_ -- 3 words.go:21
    refine o_move (v := .int _ _) rfl ?_
    refine o_assign (v := .int _ _) rfl ?_
    refine O_end ?_
    refine W_seq ?_
    refine W_reg ?_ -- 4 words.go:22
    refine o_move (by conv => lhs; whnf) ?_
    refine o_move (v := .int _ _) rfl ?_
    refine O_callv (fi := fi) (ca := ca) hf rfl rfl (hp _ i _ hA hx) (fun v1 w1 hC => ?_)
    obtain ⟨rfl, hC⟩ := hC
    have hA := (hA.after hC).tail 0
    refine O_callb en73 rfl w_who (fun w2 hC h => ?_) (fun w2 hC h => ?_)
    · -- True
      have hA := (hA.after hC).take
      have q13 := h
      refine o_not rfl ?_
      refine o_move (v := .bool _) rfl ?_
      refine O_yes rfl rfl rfl ?_
      refine o_move (v := .int _ _) rfl ?_
      refine O_yes rfl rfl rfl ?_
      refine o_cmp2 rfl rfl rfl (fun h => ?_) (fun h => ?_)
      · -- True
        have q17 := of_decide_eq_true h
        refine O_yes rfl rfl rfl ?_
        refine o_move (v := .bool _) rfl ?_
        refine O_yes rfl rfl rfl ?_
        refine o_move (by conv => lhs; whnf) ?_
        refine O_yes rfl rfl rfl ?_
        refine o_move (v := .int _ _) rfl ?_
        refine O_yes rfl rfl rfl ?_
        refine O_callv (fi := fi) (ca := ca) hf rfl rfl (hp _ i _ hA hx) (fun v3 w3 hC => ?_)
        obtain ⟨rfl, hC⟩ := hC
        have hA := (hA.after hC).tail 0
        refine O_yes rfl rfl rfl ?_
        refine o_move (by conv => lhs; whnf) ?_
        refine O_yes rfl rfl rfl ?_
        refine o_move (v := .int _ _) rfl ?_
        refine O_yes rfl rfl rfl ?_
        refine o_sub rfl rfl (w64 (r := ((i - 1 : Nat) : Int)) (by omega) (by omega) (by omega)) ?_
        refine O_yes rfl rfl rfl ?_
        obtain ⟨y, hy⟩ : ∃ y, l[i - 1]? = some y := ⟨_, List.getElem?_eq_getElem (by omega)⟩
        refine O_callv (fi := fi) (ca := ca) hf rfl rfl (hp _ (i - 1) y hA hy) (fun v4 w4 hC => ?_)
        obtain ⟨rfl, hC⟩ := hC
        have hA := (hA.after hC).tail 0
        refine O_yes rfl rfl rfl ?_
        refine o_cmp2 rfl rfl rfl (fun h => ?_) (fun h => ?_)
        · -- True
          have q26 := of_decide_eq_true h
          refine O_yes rfl rfl rfl ?_
          refine o_pick_t rfl (v := .bool _) rfl ?_
          refine o_pick_f rfl (v := .bool _) rfl ?_
          refine O_end ?_
          refine W_then rfl ?_
          refine W_seq ?_
          refine W_reg ?_ -- 5 words.go:23
          refine o_assign (v := .bool _) rfl ?_
          refine O_end ?_
          refine W_ret ?_
          refine xb_ret ?_
          refine xb_ret ?_
          refine ⟨rfl, ?_⟩
          refine ret1 Try.results65 (v := .bool _) rfl ?_
          exact ⟨by rw [risP_no hlt (by unfold risAt; rw [hx]; rw [hy, Option.getD_some, Option.getD_some, q13, decide_eq_false (show ¬ y < x by omega), show (i == 0) = false from by rw [beq_eq_false_iff_ne]; omega]; rfl)], hA⟩
        · -- False
          have q26 := of_decide_eq_false h
          refine O_yes rfl rfl rfl ?_
          refine o_pick_t rfl (v := .bool _) rfl ?_
          refine o_pick_f rfl (v := .bool _) rfl ?_
          refine O_end ?_
          refine W_else rfl ?_
          refine W_skip ?_
          refine W_reg ?_ -- 6 words.go:21
          refine o_add rfl rfl (w64 (r := ((i + 1 : Nat) : Int)) (by omega) (by omega) (by omega)) ?_
          refine o_move (v := .int _ _) rfl ?_
          refine O_end ?_
          exact ⟨l.length - (i + 1), by omega, i + 1, rfl, by omega, rfl, rfl, rfl, fun j hj => by
            by_cases e : j = i
            · rw [e]; unfold risAt; rw [hx]; rw [hy, Option.getD_some, Option.getD_some, q13, decide_eq_true (show y < x by omega)]; simp
            · exact hno j (by omega), hA⟩
      · -- False
        have q17 := of_decide_eq_false h
        refine O_yes rfl rfl rfl ?_
        refine o_move (v := .bool _) rfl ?_
        refine O_no rfl rfl rfl rfl ?_
        refine O_no rfl rfl rfl rfl ?_
        refine O_no rfl rfl rfl rfl ?_
        refine O_no rfl rfl rfl rfl ?_
        refine O_no rfl rfl rfl rfl ?_
        refine O_no rfl rfl rfl rfl ?_
        refine O_no rfl rfl rfl rfl ?_
        refine O_no rfl rfl rfl rfl ?_
        refine O_yes rfl rfl rfl ?_
        refine o_pick_f rfl (v := .bool _) rfl ?_
        refine o_pick_f rfl (v := .bool _) rfl ?_
        refine O_end ?_
        refine W_else rfl ?_
        refine W_skip ?_
        refine W_reg ?_ -- 6 words.go:21
        refine o_add rfl rfl (w64 (r := ((i + 1 : Nat) : Int)) (by omega) (by omega) (by omega)) ?_
        refine o_move (v := .int _ _) rfl ?_
        refine O_end ?_
        exact ⟨l.length - (i + 1), by omega, i + 1, rfl, by omega, rfl, rfl, rfl, fun j hj => by
          by_cases e : j = i
          · rw [e]; unfold risAt; rw [hx]; rw [Option.getD_some, q13, show (i == 0) = true from by rw [beq_iff_eq]; omega]; rfl
          · exact hno j (by omega), hA⟩
    · -- False
      have hA := (hA.after hC).take
      have q13 := h
      refine o_not rfl ?_
      refine o_move (v := .bool _) rfl ?_
      refine O_no rfl rfl rfl rfl ?_
      refine O_no rfl rfl rfl rfl ?_
      refine O_no rfl rfl rfl rfl ?_
      refine O_nu rfl rfl rfl ?_
      refine O_nu rfl rfl rfl ?_
      refine O_nu rfl rfl rfl ?_
      refine O_nu rfl rfl rfl ?_
      refine O_nu rfl rfl rfl ?_
      refine O_nu rfl rfl rfl ?_
      refine O_nu rfl rfl rfl ?_
      refine O_nu rfl rfl rfl ?_
      refine O_no rfl rfl rfl rfl ?_
      refine o_pick_t rfl (v := .bool _) rfl ?_
      refine O_end ?_
      refine W_then rfl ?_
      refine W_seq ?_
      refine W_reg ?_ -- 5 words.go:23
      refine o_assign (v := .bool _) rfl ?_
      refine O_end ?_
      refine W_ret ?_
      refine xb_ret ?_
      refine xb_ret ?_
      refine ⟨rfl, ?_⟩
      refine ret1 Try.results65 (v := .bool _) rfl ?_
      exact ⟨by rw [risP_no hlt (by unfold risAt; rw [hx]; rw [Option.getD_some, q13]; rfl)], hA⟩
  · -- False
    have q8 := of_decide_eq_false h
    refine O_end ?_
    refine W_seq ?_
    refine W_else rfl ?_
    refine W_exit ?_
    refine xb_hit ?_
    refine W_seq ?_
    refine W_reg ?_ -- 7 words.go:26
    refine o_assign (v := .bool _) rfl ?_
    refine O_end ?_
    refine W_ret ?_
    refine ⟨rfl, ?_⟩
    refine ret1 Try.results65 (v := .bool _) rfl ?_
    exact ⟨by rw [risP_yes fun j hj => hno j (by omega)], hA⟩

theorem w_card {w : World} {b m c i : Nat} {A : Option Addr} {cs : List (Cd)} {x : Cd} (hcell : w.cell? ⟨b, 3, none⟩ = some (.slice A m c)) (hc : Rd w 3 (.slice A m c) (cs.flatMap cdc)) (hl : cs.length ≤ 9223372036854775807) (hx : cs[i]? = some x) : Calls Try.prog 66 #[.pointer (some ⟨b, 0, none⟩), .int .i64 (i : Int)] w fun e w' => ∃ v, e = .returned v ∧ (v = .int .i64 x.w ∧ At w No [] w') := by
  refine body_in (n := 14) (l := [.pointer (some ⟨b, 0, none⟩), .int .i64 (i : Int)]) en66 rfl Try.ntmps66 rfl ?_
  obtain rfl := hc.lenf (fun _ => rfl) (by decide)
  obtain ⟨g, o, rfl⟩ := hc.addr (by decide) (fm_len (s := 3) (fun _ => rfl) cs) (show 0 < cs.length by have := (List.getElem?_eq_some_iff.1 hx).1; omega)
  have hlt := (List.getElem?_eq_some_iff.1 hx).1
  have hA := At.refl w
  refine W_seq ?_
  refine W_reg ?_ -- 0 words.go:30
  refine o_assign (v := .int _ _) rfl ?_
  refine O_end ?_
  refine W_seq ?_
  refine W_reg ?_ -- 1 words.go:30
  refine o_move (v := .pointer _) rfl ?_
  refine o_nilCheck rfl ?_
  refine o_fieldAddr fo46_0 rfl rfl ?_
  refine o_fieldAddr fo29_3 rfl rfl ?_
  refine o_load1 ag23 rfl (hA.cellT hcell) ?_
  refine o_move (v := .int _ _) rfl ?_
  refine o_index Try.underlying23 ti50 rfl rfl (by omega) (by omega) ?_
  refine o_fieldAddr fo50_0 rfl rfl ?_
  refine o_load1 ag3 rfl ((hc.old hA).fld (fun _ => rfl) hx rfl) ?_
  refine o_assign (v := .int _ _) rfl ?_
  refine O_end ?_
  refine W_ret ?_
  refine ⟨rfl, ?_⟩
  refine ret1 Try.results66 (v := .int _ _) rfl ?_
  exact ⟨rfl, hA⟩

theorem w_to {w : World} {b m c i : Nat} {A : Option Addr} {cs : List (Pp × Sl)} {x : Pp × Sl} (hcell : w.cell? ⟨b, 4, none⟩ = some (.slice A m c)) (hc : Rd w 3 (.slice A m c) (cs.flatMap ppc)) (hl : cs.length ≤ 9223372036854775807) (hx : cs[i]? = some x) : Calls Try.prog 68 #[.pointer (some ⟨b, 0, none⟩), .int .i64 (i : Int)] w fun e w' => ∃ v, e = .returned v ∧ (v = .int .i64 x.1.t ∧ At w No [] w') := by
  refine body_in (n := 14) (l := [.pointer (some ⟨b, 0, none⟩), .int .i64 (i : Int)]) en68 rfl Try.ntmps68 rfl ?_
  obtain rfl := hc.lenf (fun _ => rfl) (by decide)
  obtain ⟨g, o, rfl⟩ := hc.addr (by decide) (fm_len (s := 3) (fun _ => rfl) cs) (show 0 < cs.length by have := (List.getElem?_eq_some_iff.1 hx).1; omega)
  have hlt := (List.getElem?_eq_some_iff.1 hx).1
  have hA := At.refl w
  refine W_seq ?_
  refine W_reg ?_ -- 0 words.go:31
  refine o_assign (v := .int _ _) rfl ?_
  refine O_end ?_
  refine W_seq ?_
  refine W_reg ?_ -- 1 words.go:31
  refine o_move (v := .pointer _) rfl ?_
  refine o_nilCheck rfl ?_
  refine o_fieldAddr fo46_0 rfl rfl ?_
  refine o_fieldAddr fo29_4 rfl rfl ?_
  refine o_load1 ag24 rfl (hA.cellT hcell) ?_
  refine o_move (v := .int _ _) rfl ?_
  refine o_index Try.underlying24 ti52 rfl rfl (by omega) (by omega) ?_
  refine o_fieldAddr fo52_1 rfl rfl ?_
  refine o_load1 ag3 rfl ((hc.old hA).fld (fun _ => rfl) hx rfl) ?_
  refine o_assign (v := .int _ _) rfl ?_
  refine O_end ?_
  refine W_ret ?_
  refine ⟨rfl, ?_⟩
  refine ret1 Try.results68 (v := .int _ _) rfl ?_
  exact ⟨rfl, hA⟩

theorem w_from {w : World} {b m c i : Nat} {A : Option Addr} {cs : List (Pp × Sl)} {x : Pp × Sl} (hcell : w.cell? ⟨b, 4, none⟩ = some (.slice A m c)) (hc : Rd w 3 (.slice A m c) (cs.flatMap ppc)) (hl : cs.length ≤ 9223372036854775807) (hx : cs[i]? = some x) : Calls Try.prog 69 #[.pointer (some ⟨b, 0, none⟩), .int .i64 (i : Int)] w fun e w' => ∃ v, e = .returned v ∧ (v = .int .i64 x.1.f ∧ At w No [] w') := by
  refine body_in (n := 14) (l := [.pointer (some ⟨b, 0, none⟩), .int .i64 (i : Int)]) en69 rfl Try.ntmps69 rfl ?_
  obtain rfl := hc.lenf (fun _ => rfl) (by decide)
  obtain ⟨g, o, rfl⟩ := hc.addr (by decide) (fm_len (s := 3) (fun _ => rfl) cs) (show 0 < cs.length by have := (List.getElem?_eq_some_iff.1 hx).1; omega)
  have hlt := (List.getElem?_eq_some_iff.1 hx).1
  have hA := At.refl w
  refine W_seq ?_
  refine W_reg ?_ -- 0 words.go:32
  refine o_assign (v := .int _ _) rfl ?_
  refine O_end ?_
  refine W_seq ?_
  refine W_reg ?_ -- 1 words.go:32
  refine o_move (v := .pointer _) rfl ?_
  refine o_nilCheck rfl ?_
  refine o_fieldAddr fo46_0 rfl rfl ?_
  refine o_fieldAddr fo29_4 rfl rfl ?_
  refine o_load1 ag24 rfl (hA.cellT hcell) ?_
  refine o_move (v := .int _ _) rfl ?_
  refine o_index Try.underlying24 ti52 rfl rfl (by omega) (by omega) ?_
  refine o_fieldAddr fo52_0 rfl rfl ?_
  refine o_load1 ag3 rfl ((hc.old hA).fld (fun _ => rfl) hx rfl) ?_
  refine o_assign (v := .int _ _) rfl ?_
  refine O_end ?_
  refine W_ret ?_
  refine ⟨rfl, ?_⟩
  refine ret1 Try.results69 (v := .int _ _) rfl ?_
  exact ⟨rfl, hA⟩

theorem w_named {w : World} {b m c i : Nat} {A : Option Addr} {cs : List (Int)} {x : Int} (hcell : w.cell? ⟨b, 6, none⟩ = some (.slice A m c)) (hc : Rd w 1 (.slice A m c) (cs.map i64v)) (hl : cs.length ≤ 9223372036854775807) (hx : cs[i]? = some x) : Calls Try.prog 70 #[.pointer (some ⟨b, 0, none⟩), .int .i64 (i : Int)] w fun e w' => ∃ v, e = .returned v ∧ (v = .int .i64 x ∧ At w No [] w') := by
  refine body_in (n := 13) (l := [.pointer (some ⟨b, 0, none⟩), .int .i64 (i : Int)]) en70 rfl Try.ntmps70 rfl ?_
  obtain rfl := hc.lenp
  obtain ⟨g, o, rfl⟩ := hc.addr (by decide) (by simp) (show 0 < cs.length by have := (List.getElem?_eq_some_iff.1 hx).1; omega)
  have hlt := (List.getElem?_eq_some_iff.1 hx).1
  have hA := At.refl w
  refine W_seq ?_
  refine W_reg ?_ -- 0 words.go:33
  refine o_assign (v := .int _ _) rfl ?_
  refine O_end ?_
  refine W_seq ?_
  refine W_reg ?_ -- 1 words.go:33
  refine o_move (v := .pointer _) rfl ?_
  refine o_nilCheck rfl ?_
  refine o_fieldAddr fo46_0 rfl rfl ?_
  refine o_fieldAddr fo29_6 rfl rfl ?_
  refine o_load1 ag26 rfl (hA.cellT hcell) ?_
  refine o_move (v := .int _ _) rfl ?_
  refine o_index Try.underlying26 ti3 rfl rfl (by omega) (by omega) ?_
  refine o_load1 ag3 rfl ((hc.old hA).elt hx) ?_
  refine o_assign (v := .int _ _) rfl ?_
  refine O_end ?_
  refine W_ret ?_
  refine ⟨rfl, ?_⟩
  refine ret1 Try.results70 (v := .int _ _) rfl ?_
  exact ⟨rfl, hA⟩

theorem w_opened {w : World} {b m c i : Nat} {A : Option Addr} {cs : List (Oo × Sl)} {x : Oo × Sl} (hcell : w.cell? ⟨b, 7, none⟩ = some (.slice A m c)) (hc : Rd w 3 (.slice A m c) (cs.flatMap ooc)) (hl : cs.length ≤ 9223372036854775807) (hx : cs[i]? = some x) : Calls Try.prog 74 #[.pointer (some ⟨b, 0, none⟩), .int .i64 (i : Int)] w fun e w' => ∃ v, e = .returned v ∧ (v = .int .i64 x.1.w ∧ At w No [] w') := by
  refine body_in (n := 14) (l := [.pointer (some ⟨b, 0, none⟩), .int .i64 (i : Int)]) en74 rfl Try.ntmps74 rfl ?_
  obtain rfl := hc.lenf (fun _ => rfl) (by decide)
  obtain ⟨g, o, rfl⟩ := hc.addr (by decide) (fm_len (s := 3) (fun _ => rfl) cs) (show 0 < cs.length by have := (List.getElem?_eq_some_iff.1 hx).1; omega)
  have hlt := (List.getElem?_eq_some_iff.1 hx).1
  have hA := At.refl w
  refine W_seq ?_
  refine W_reg ?_ -- 0 words.go:34
  refine o_assign (v := .int _ _) rfl ?_
  refine O_end ?_
  refine W_seq ?_
  refine W_reg ?_ -- 1 words.go:34
  refine o_move (v := .pointer _) rfl ?_
  refine o_nilCheck rfl ?_
  refine o_fieldAddr fo46_0 rfl rfl ?_
  refine o_fieldAddr fo29_7 rfl rfl ?_
  refine o_load1 ag27 rfl (hA.cellT hcell) ?_
  refine o_move (v := .int _ _) rfl ?_
  refine o_index Try.underlying27 ti55 rfl rfl (by omega) (by omega) ?_
  refine o_fieldAddr fo55_0 rfl rfl ?_
  refine o_load1 ag3 rfl ((hc.old hA).fld (fun _ => rfl) hx rfl) ?_
  refine o_assign (v := .int _ _) rfl ?_
  refine O_end ?_
  refine W_ret ?_
  refine ⟨rfl, ?_⟩
  refine ret1 Try.results74 (v := .int _ _) rfl ?_
  exact ⟨rfl, hA⟩

end Go.Proofs.Ytbcaooiphalkoaa
