/-
  When a word is good: the two ways agree. No program in sight.
-/
import Derived.Test.YtbcaooiphalkoaaWra
set_option linter.unusedVariables false
set_option linter.unusedSimpArgs false
namespace Go.Proofs.Ytbcaooiphalkoaa
open Go

theorem risP_nil : risP [] = true := rfl
theorem risP_who {l : List Int} (h : risP l = true) : ∀ x ∈ l, whoP x = true := by
  intro x hx
  obtain ⟨i, hi⟩ := List.getElem?_of_mem hx
  have hl := (List.getElem?_eq_some_iff.1 hi).1
  have := List.all_eq_true.1 h i (List.mem_range.2 hl)
  unfold risAt at this
  rw [hi, Option.getD_some, Bool.and_eq_true] at this
  exact this.1
theorem all_map_fst (ps : List (Pp × Sl)) (p : Pp → Bool) : (ps.map (·.1)).all p = ps.all fun y => p y.1 := by rw [List.all_map]; rfl
theorem len0_nil {α : Type} {l : List α} (h : l.length = 0) : l = [] := List.eq_nil_of_length_eq_zero h
theorem head_eq (kind frm : Int) : (!headBad kind frm) = (decide (0 ≤ frm) && decide (frm ≤ 64) && ((kind == 2 || kind == 4 || kind == 6) == (frm == 0))) := by
  unfold headBad whoP
  generalize (kind == 2 || kind == 4 || kind == 6) = b
  have h1 : frm = 0 ∨ (1 ≤ frm ∧ frm ≤ 64) ∨ frm < 0 ∨ 64 < frm := by omega
  rcases h1 with rfl | ⟨h1, h2⟩ | h1 | h1
  · cases b <;> decide
  · rw [show (frm == 0) = false from by rw [beq_eq_false_iff_ne]; omega, decide_eq_true h1, decide_eq_true h2, decide_eq_true (show 0 ≤ frm by omega)]
    cases b <;> decide
  · rw [show (frm == 0) = false from by rw [beq_eq_false_iff_ne]; omega, decide_eq_false (show ¬ 1 ≤ frm by omega), decide_eq_false (show ¬ 0 ≤ frm by omega)]
    cases b <;> simp
  · rw [show (frm == 0) = false from by rw [beq_eq_false_iff_ne]; omega, decide_eq_false (show ¬ frm ≤ 64 by omega)]
    cases b <;> simp
/-- Of a word of a known kind: all that is not its kind's is empty. -/
theorem mid_eq {kind frm why : Int} {cs : List Cd} {ps : List (Pp × Sl)} {vs : List Nat} {ws : List Int} {os : List (Oo × Sl)} (h1 : 1 ≤ kind) (h8 : kind ≤ 8) :
    (!midB kind cs ps vs ws os && (if kind = 1 then (why == 0) && decide (cs.length = 1) && ((cs[0]?).map (·.w)).getD 0 == frm else if kind = 8 then decide (1 ≤ why) && decide (why ≤ 17) else (why == 0) && risP (cs.map (·.w))))
    = (onlyP ⟨kind, frm, why, cs, ps.map (·.1), vs, ws, os.map (·.1)⟩ && bodyP ⟨kind, frm, why, cs, ps.map (·.1), vs, ws, os.map (·.1)⟩) := by
  have hk : kind = 1 ∨ kind = 2 ∨ kind = 3 ∨ kind = 4 ∨ kind = 5 ∨ kind = 6 ∨ kind = 7 ∨ kind = 8 := by omega
  unfold midB onlyP bodyP parcelsP hasN
  dsimp only
  have hsel : risP (ps.map fun (y : Pp × Sl) => if kind = 3 then y.1.t else y.1.f) = (if kind = 3 then risP (ps.map fun y => y.1.t) else risP (ps.map fun y => y.1.f)) := by split <;> rfl
  have ht : (ps.map (·.1)).map (·.t) = ps.map fun y => y.1.t := by rw [List.map_map]; rfl
  have hf : (ps.map (·.1)).map (·.f) = ps.map fun y => y.1.f := by rw [List.map_map]; rfl
  have ho : (os.map (·.1)).map (·.w) = os.map fun y => y.1.w := by rw [List.map_map]; rfl
  have hany : ((os.map (·.1)).any fun o => decide (5 < o.v.length)) = !(os.all fun y => decide (y.1.v.length ≤ 5)) := by
    rw [List.any_map, List.not_all_eq_any_not]
    congr 1
    funext y
    show decide (5 < y.1.v.length) = !decide (y.1.v.length ≤ 5)
    rw [← decide_not]; congr 1; rw [eq_iff_iff]; omega
  have h3 : risP (ps.map fun y => y.1.t) = true → (ps.all fun y => whoP y.1.f && whoP y.1.t && decide (y.1.d.length ≤ 64)) = ((ps.map (·.1)).all fun p => whoP p.f && decide (p.d.length ≤ 64)) := by
    intro hr
    rw [all_map_fst, Bool.eq_iff_iff, List.all_eq_true, List.all_eq_true]
    refine forall_congr' fun y => forall_congr' fun hy => ?_
    rw [risP_who hr _ (List.mem_map_of_mem hy)]
    simp
  have h4 : risP (ps.map fun y => y.1.f) = true → (ps.all fun y => whoP y.1.f && whoP y.1.t && decide (y.1.d.length ≤ 64)) = ((ps.map (·.1)).all fun p => whoP p.t && decide (p.d.length ≤ 64)) := by
    intro hr
    rw [all_map_fst, Bool.eq_iff_iff, List.all_eq_true, List.all_eq_true]
    refine forall_congr' fun y => forall_congr' fun hy => ?_
    rw [risP_who hr _ (List.mem_map_of_mem hy)]
    simp
  have p0 : ps.length = 0 → (ps.all fun y => whoP y.1.f && whoP y.1.t && decide (y.1.d.length ≤ 64)) = true ∧ risP (ps.map fun y => y.1.t) = true ∧ risP (ps.map fun y => y.1.f) = true := fun h => by rw [len0_nil h]; exact ⟨rfl, rfl, rfl⟩
  have o0 : os.length = 0 → (os.all fun y => decide (y.1.v.length ≤ 5)) = true ∧ risP (os.map fun y => y.1.w) = true := fun h => by rw [len0_nil h]; exact ⟨rfl, rfl⟩
  have n0 : ws.length = 0 → risP ws = true := fun h => by rw [len0_nil h]; rfl
  have c0 : cs.length = 0 → risP (cs.map (·.w)) = true := fun h => by rw [len0_nil h]; rfl
  rw [hsel, ht, hf, ho, hany]
  clear hsel ht hf ho hany
  simp only [List.length_map]
  generalize (ps.all fun y => whoP y.1.f && whoP y.1.t && decide (y.1.d.length ≤ 64)) = f at *
  generalize risP (ps.map fun y => y.1.t) = r3 at *
  generalize risP (ps.map fun y => y.1.f) = r4 at *
  generalize ((ps.map (·.1)).all fun p => whoP p.f && decide (p.d.length ≤ 64)) = q3 at *
  generalize ((ps.map (·.1)).all fun p => whoP p.t && decide (p.d.length ≤ 64)) = q4 at *
  generalize (os.all fun y => decide (y.1.v.length ≤ 5)) = g at *
  generalize risP (os.map fun y => y.1.w) = ro at *
  generalize risP ws = rw' at *
  generalize risP (cs.map (·.w)) = rc at *
  generalize (((cs[0]?).map (·.w)).getD 0 == frm) = fst at *
  generalize cs.length = c at *
  generalize ps.length = p at *
  generalize vs.length = v at *
  generalize ws.length = n at *
  generalize os.length = o at *
  have hk : kind = 1 ∨ kind = 2 ∨ kind = 3 ∨ kind = 4 ∨ kind = 5 ∨ kind = 6 ∨ kind = 7 ∨ kind = 8 := by omega
  rcases hk with rfl | rfl | rfl | rfl | rfl | rfl | rfl | rfl <;> (rw [Bool.eq_iff_iff]; simp; grind)
theorem refG_eq (h : WH) : refG h.kind h.frm h.why h.cs h.ps h.vs h.ws h.os = goodP h.x := by
  obtain ⟨kind, frm, why, cs, ps, vs, ws, os, _, _, _, _, _⟩ := h
  show _ = goodP ⟨kind, frm, why, cs, ps.map (·.1), vs, ws, os.map (·.1)⟩
  unfold refG goodP wardenP
  dsimp only
  by_cases hk : kind < 1 ∨ 8 < kind
  · rw [if_pos hk]
    rcases hk with hk | hk
    · rw [decide_eq_false (show ¬ 1 ≤ kind by omega)]; simp
    · rw [decide_eq_false (show ¬ kind ≤ 8 by omega)]; simp
  · rw [if_neg hk, decide_eq_true (show 1 ≤ kind by omega), decide_eq_true (show kind ≤ 8 by omega)]
    have h1 := head_eq kind frm
    have h2 := mid_eq (kind := kind) (frm := frm) (why := why) (cs := cs) (ps := ps) (vs := vs) (ws := ws) (os := os) (by omega) (by omega)
    simp only [Bool.true_and]
    rw [← h1, Bool.and_assoc (!headBad kind frm), ← h2]
    cases headBad kind frm <;> cases midB kind cs ps vs ws os <;> simp
end Go.Proofs.Ytbcaooiphalkoaa
