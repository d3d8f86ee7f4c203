/-
  'RoadOwn' returns true for every input, and its argument reads as it did.
-/
import Derived.Test.YtpgjmbppbckojaaArgs
import Derived.Test.YtpgjmbppbckojaaRoad7
set_option linter.unusedVariables false
namespace Go.Proofs.Ytpgjmbppbckojaa
open Go Go.ChangeShapes Go.WideShapes Go.ChangeAt Go.RowKit

theorem own_u8 : Try.prog.cellsOf 5 = 1 := by kernel_rfl
theorem own_contract (H : Type) (enc : TypeId × Value → H) (W : World) (base : Nat) (args : Array Value) (ds gs : List (DataW H)) (before : List MemPlace)
    (hval : ∀ (j : Nat) t v, Try.f5.params[j]? = some t → args[j]? = some v → Value.okWide Try.prog W .any base t v)
    (hW : DataW.Whole enc Try.prog Try.f5.params.toList Rows.roadOwnSpec.vars false W args.toList ds gs before) :
    Calls Try.prog 5 args W fun e W' => ∃ v, e = .returned v ∧ Rows.roadOwnSpec.post enc Try.prog Try.f5 false true false false W args v W' := by
  have hW' := hW
  obtain ⟨p, q, hA0, hV, rfl, hfz, hnd⟩ := hW
  have hA : DataW.TrodAll enc Try.prog W 0 (fun _ => true) true Try.f5.params.toList args.toList ds p := hA0
  rw [Try.params5] at hA hval
  obtain ⟨v0, vs0, d0, ds0, p0, q0, hargs, rfl, rfl, h0, r0⟩ := trodAll_cons hA
  obtain ⟨rfl, rfl, rfl⟩ := trodAll_nil r0
  obtain rfl : args = #[v0] := by cases args; simp_all
  obtain ⟨rfl, rfl⟩ := trodVars_none hV
  obtain ⟨fuel, hf⟩ := h0
  obtain ⟨D, l, hcs, hr⟩ := open_bytes Try.underlying27 Try.underlying5 own_u8 hf
  obtain ⟨A, m, c, rfl⟩ := okWide_slice Try.underlying27 (hval 0 _ _ rfl rfl)
  obtain rfl : D = .slice A m c := by
    have : [Value.slice A m c] = [D] := hcs
    injection this with h
    exact h.symm
  refine (c_ownlaw (w := W) hr).mono fun e W' ⟨v, he, hv, hA'⟩ => ?_
  subst he; subst hv
  exact ⟨_, rfl, row_post laid_out hW' rfl (by kernel_rfl) rfl Try.underlying4 rfl hA'⟩

set_option maxRecDepth 100000 in
theorem own_lifted (os : Os) (started : os.Started) (H : Type) (enc : TypeId × Value → H) :
    ReturnsInHanded {} Try.checked os 5 .any (Rows.roadOwnSpec.pre6 enc Try.prog Try.f5 Rows.roadOwnRow.domain false) (Rows.roadOwnSpec.post enc Try.prog Try.f5 false true false false) := by
  refine returnsInHanded_of_change (C := Try.checked) own_knob started (by kernel_rfl) Try.func5
    (ChangeSpec.witness6 (enc := enc) (C := Try.checked) false ⟨#[], #[.slice none 0 0], []⟩ 8 (by kernel_rfl) (by kernel_rfl) (by kernel_rfl) (by kernel_rfl)) ?_
  intro W base args ds gs before hval hW _ _
  exact own_contract H enc W base args ds gs before hval hW

theorem road_own : Rows.RoadOwnSaid :=
  OpenClaim.holds_of_wide 5 Try.f5 rfl rfl rfl rfl rfl rfl rfl ⟨rfl, rfl, rfl, rfl, rfl⟩ rfl rfl rfl rfl rfl (by kernel_rfl) Try.func5 (by kernel_rfl)
    (of_decide_eq_true (by kernel_rfl)) (by unfold Func.isWrapper; first | (rw [if_pos (by decide +kernel)]; kernel_rfl) | (rw [if_neg (by decide +kernel)]; exact ⟨rfl, rfl⟩))
    (fun os started H enc _ => own_lifted os started H enc)
end Go.Proofs.Ytpgjmbppbckojaa
