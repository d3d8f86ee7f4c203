/-
  'RoadFull' returns true for every input, and its arguments read as they did.
-/
import Derived.Test.YtpgjmbppbckojaaRow
import Derived.Test.YtpgjmbppbckojaaRoad5
set_option linter.unusedVariables false
namespace Go.Proofs.Ytpgjmbppbckojaa
open Go Go.ChangeShapes Go.WideShapes Go.ChangeAt Go.RowKit

theorem full_contract (H : Type) (enc : TypeId × Value → H) (W : World) (base : Nat) (args : Array Value) (ds gs : List (DataW H)) (before : List MemPlace)
    (hval : ∀ (j : Nat) t v, Try.f4.params[j]? = some t → args[j]? = some v → Value.okWide Try.prog W .any base t v)
    (hW : DataW.Whole enc Try.prog Try.f4.params.toList Rows.roadFullSpec.vars false W args.toList ds gs before) :
    Calls Try.prog 4 args W fun e W' => ∃ v, e = .returned v ∧ Rows.roadFullSpec.post enc Try.prog Try.f4 false true false false W args v W' := by
  have hW' := hW
  obtain ⟨p, q, hA0, hV, rfl, hfz, hnd⟩ := hW
  have hA : DataW.TrodAll enc Try.prog W 0 (fun _ => true) true Try.f4.params.toList args.toList ds p := hA0
  rw [Try.params4] at hA hval
  obtain ⟨v0, v1, d0, d1, p0, p1, rfl, rfl, rfl, h0, h1⟩ := trodAll_two hA
  obtain ⟨rfl, rfl⟩ := trodVars_none hV
  obtain ⟨a, rfl, rfl, rfl, wa⟩ := open_int Try.underlying42 (hval 0 _ _ rfl rfl) h0
  obtain ⟨b, rfl, rfl, rfl, wb⟩ := open_int Try.underlying42 (hval 1 _ _ rfl rfl) h1
  obtain ⟨n, rfl, hn⟩ := u16_range wa
  obtain ⟨k, rfl, hk⟩ := u16_range wb
  refine (c_full (w := W) hn hk).mono fun e W' ⟨v, he, hv, hA'⟩ => ?_
  subst he; subst hv
  exact ⟨_, rfl, row_post laid_out hW' rfl (by kernel_rfl) rfl Try.underlying4 rfl hA'⟩

set_option maxRecDepth 100000 in
theorem full_lifted (os : Os) (started : os.Started) (H : Type) (enc : TypeId × Value → H) :
    ReturnsInHanded {} Try.checked os 4 .any (Rows.roadFullSpec.pre6 enc Try.prog Try.f4 Rows.roadFullRow.domain false) (Rows.roadFullSpec.post enc Try.prog Try.f4 false true false false) := by
  refine returnsInHanded_of_change (C := Try.checked) own_knob started (by kernel_rfl) Try.func4
    (ChangeSpec.witness6 (enc := enc) (C := Try.checked) false ⟨#[], #[.int .u16 0, .int .u16 0], []⟩ 8 (by kernel_rfl) (by kernel_rfl) (by kernel_rfl) (by kernel_rfl)) ?_
  intro W base args ds gs before hval hW _ _
  exact full_contract H enc W base args ds gs before hval hW

theorem road_full : Rows.RoadFullSaid :=
  OpenClaim.holds_of_wide 4 Try.f4 rfl rfl rfl rfl rfl rfl rfl ⟨rfl, rfl, rfl, rfl, rfl⟩ rfl rfl rfl rfl rfl (by kernel_rfl) Try.func4 (by kernel_rfl)
    (of_decide_eq_true (by kernel_rfl)) (by unfold Func.isWrapper; first | (rw [if_pos (by decide +kernel)]; kernel_rfl) | (rw [if_neg (by decide +kernel)]; exact ⟨rfl, rfl⟩))
    (fun os started H enc _ => full_lifted os started H enc)
end Go.Proofs.Ytpgjmbppbckojaa
