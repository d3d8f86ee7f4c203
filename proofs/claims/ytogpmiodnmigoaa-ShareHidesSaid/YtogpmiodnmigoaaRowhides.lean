/-
  'ShareHides' returns true for every input, and its argument reads as it did.
-/
import Derived.Test.YtogpmiodnmigoaaArgsb
import Derived.Test.YtogpmiodnmigoaaHides
set_option linter.unusedVariables false
namespace Go.Proofs.Ytogpmiodnmigoaa
open Go Go.ChangeShapes Go.WideShapes Go.ChangeAt Go.RowKit

theorem cells_pt : Try.prog.cellsOf 33 = 2 := by kernel_rfl
theorem cells_int1 : Try.prog.cellsOf 3 = 1 := by kernel_rfl
theorem cells_u64 : Try.prog.cellsOf 22 = 1 := by kernel_rfl
theorem open_pt {H : Type} {enc : TypeId × Value → H} {w : World} {base : Nat} {spare : Nat → Bool} {held : Bool} {fuel : Nat} {cs : List Value} {x : DataW H × List MemPlace}
    (h : DataW.trod enc Try.prog w base spare held fuel 33 cs = some x) : ∃ s : Pt, cs = ptc s ∧ True := by
  obtain ⟨xs, n, rfl, rfl, hcs, hxs, hf⟩ := DataW.trod_struct Try.underlying33 h
  rw [cells_pt] at hcs
  obtain ⟨a, b, rfl⟩ : ∃ a b, cs = [a, b] := by match cs, hcs with | [a, b], _ => exact ⟨a, b, rfl⟩
  have hx : ∀ i, i < 2 → ∃ y, xs[i]? = some y := fun i hi => ⟨_, List.getElem?_eq_getElem (by rw [hxs]; exact hi)⟩
  obtain ⟨y0, h0⟩ := hx 0 (by omega)
  obtain ⟨y1, h1⟩ := hx 1 (by omega)
  have e0 : DataW.trod enc Try.prog w base spare held n 3 (List.take (Try.prog.cellsOf 3) (List.drop 0 [a, b])) = xs[0]? := hf 0 _ rfl
  rw [cells_int1, h0] at e0
  have e1 : DataW.trod enc Try.prog w base spare held n 22 (List.take (Try.prog.cellsOf 22) (List.drop 1 [a, b])) = xs[1]? := hf 1 _ rfl
  rw [cells_u64, h1] at e1
  obtain ⟨d0, q0, _, _⟩ := DataW.trod_int Try.underlying3 e0
  obtain ⟨d1, q1, _, w1⟩ := DataW.trod_int Try.underlying22 e1
  obtain ⟨k, rfl, _⟩ := u64_range w1
  obtain rfl : a = _ := List.head_eq_of_cons_eq q0
  obtain rfl : b = _ := List.head_eq_of_cons_eq q1
  exact ⟨⟨d0, k⟩, rfl, trivial⟩
theorem flatP_map (l : List Pt) : l.flatMap ptc = flatP l := by
  induction l with
  | nil => rfl
  | cons p r ih => rw [List.flatMap_cons, flatP, ih]

theorem share_hides_contract (H : Type) (enc : TypeId × Value → H) (W : World) (base : Nat) (args : Array Value) (ds gs : List (DataW H)) (before : List MemPlace)
    (hval : ∀ (j : Nat) t v, Try.f3.params[j]? = some t → args[j]? = some v → Value.okWide Try.prog W .any base t v)
    (hW : DataW.Whole enc Try.prog Try.f3.params.toList Rows.shareHidesSpec.vars false W args.toList ds gs before) :
    Calls Try.prog 3 args W fun e W' => ∃ v, e = .returned v ∧ Rows.shareHidesSpec.post enc Try.prog Try.f3 false true false false W args v W' := by
  have hW' := hW
  obtain ⟨p, q, hA0, hV, rfl, hfz, hnd⟩ := hW
  have hA : DataW.TrodAll enc Try.prog W 0 (fun _ => true) true Try.f3.params.toList args.toList ds p := hA0
  rw [Try.params3] at hA hval
  obtain ⟨v0, vs0, d0, ds0, p0, q0, hargs0, rfl, rfl, h0, r0⟩ := trodAll_cons hA
  obtain ⟨v1, vs1, d1, ds1, p1, q1, hargs1, rfl, rfl, h1, r1⟩ := trodAll_cons r0
  obtain ⟨v2, vs2, d2, ds2, p2, q2, hargs2, rfl, rfl, h2, r2⟩ := trodAll_cons r1
  obtain ⟨rfl, rfl, rfl⟩ := trodAll_nil r2
  subst hargs1
  subst hargs2
  obtain rfl : args = #[v0, v1, v2] := by cases args; simp_all
  obtain ⟨rfl, rfl⟩ := trodVars_none hV
  obtain ⟨a0, rfl, _, _, wf0⟩ := open_int Try.underlying22 (hval 0 _ _ rfl rfl) h0
  obtain ⟨n0, rfl, hn0⟩ := u64_range wf0
  obtain ⟨a1, rfl, _, _, wf1⟩ := open_int Try.underlying3 (hval 1 _ _ rfl rfl) h1
  have hr1 := i64_range wf1
  obtain ⟨A2, m2, c2, rfl⟩ := okWide_slice Try.underlying23 (hval 2 _ _ rfl rfl)
  obtain ⟨fuel2, hf2⟩ := h2
  obtain ⟨l2, hR2, _⟩ := open_list ptc (fun _ => True) (by decide) Try.underlying23 cells_pt (fun _ => rfl) open_pt hf2
  rw [flatP_map] at hR2
  refine (l_hides (w := W) hR2 hr1.1 hr1.2).mono fun e W' ⟨v, he, hv, hA'⟩ => ?_
  subst he; subst hv
  exact ⟨_, rfl, row_post laid_out hW' rfl (by kernel_rfl) rfl Try.underlying4 rfl hA'⟩

set_option maxRecDepth 100000 in
theorem share_hides_lifted (os : Os) (started : os.Started) (H : Type) (enc : TypeId × Value → H) :
    ReturnsInHanded {} Try.checked os 3 .any (Rows.shareHidesSpec.pre6 enc Try.prog Try.f3 Rows.shareHidesRow.domain false) (Rows.shareHidesSpec.post enc Try.prog Try.f3 false true false false) := by
  refine returnsInHanded_of_change (C := Try.checked) own_knob started (by kernel_rfl) Try.func3
    (ChangeSpec.witness6 (enc := enc) (C := Try.checked) false ⟨#[], #[.int .u64 0, .int .i64 0, .slice none 0 0], []⟩ 8 (by kernel_rfl) (by kernel_rfl) (by kernel_rfl) (by kernel_rfl)) ?_
  intro W base args ds gs before hval hW _ _
  exact share_hides_contract H enc W base args ds gs before hval hW

theorem share_hides : Rows.ShareHidesSaid :=
  OpenClaim.holds_of_wide 3 Try.f3 rfl rfl rfl rfl rfl rfl rfl ⟨rfl, rfl, rfl, rfl, rfl⟩ rfl rfl rfl rfl rfl (by kernel_rfl) Try.func3 (by kernel_rfl)
    (of_decide_eq_true (by kernel_rfl)) (by unfold Func.isWrapper; first | (rw [if_pos (by decide +kernel)]; kernel_rfl) | (rw [if_neg (by decide +kernel)]; exact ⟨rfl, rfl⟩))
    (fun os started H enc _ => share_hides_lifted os started H enc)
end Go.Proofs.Ytogpmiodnmigoaa
