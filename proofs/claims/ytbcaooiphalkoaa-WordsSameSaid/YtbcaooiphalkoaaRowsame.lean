/-
  'WordsSame' returns true for every input, and its arguments read as they did.
-/
import Derived.Test.YtbcaooiphalkoaaArgw
import Derived.Test.YtbcaooiphalkoaaLwc
set_option linter.unusedVariables false
namespace Go.Proofs.Ytbcaooiphalkoaa
open Go Go.ChangeShapes Go.WideShapes Go.ChangeAt Go.RowKit

set_option maxRecDepth 100000 in
theorem words_same_contract (H : Type) (enc : TypeId × Value → H) (W : World) (base : Nat) (args : Array Value) (ds gs : List (DataW H)) (before : List MemPlace)
    (hval : ∀ (j : Nat) t v, Try.f7.params[j]? = some t → args[j]? = some v → Value.okWide Try.prog W .any base t v)
    (hW : DataW.Whole enc Try.prog Try.f7.params.toList Rows.wordsSameSpec.vars false W args.toList ds gs before) :
    Calls Try.prog 7 args W fun e W' => ∃ v, e = .returned v ∧ Rows.wordsSameSpec.post enc Try.prog Try.f7 false true false false W args v W' := by
  have hW' := hW
  obtain ⟨p, q, hA0, hV, rfl, hfz, hnd⟩ := hW
  have hA : DataW.TrodAll enc Try.prog W 0 (fun _ => true) true Try.f7.params.toList args.toList ds p := hA0
  rw [Try.params7] at hA hval
  obtain ⟨v0, vs0, d0, ds0, p0, q0, hargs0, rfl, rfl, h0, r0⟩ := trodAll_cons hA
  obtain ⟨v1, vs1, d1, ds1, p1, q1, hargs1, rfl, rfl, h1, r1⟩ := trodAll_cons r0
  obtain ⟨rfl, rfl, rfl⟩ := trodAll_nil r1
  subst hargs1
  obtain rfl : args = #[v0, v1] := by cases args; simp_all
  obtain ⟨rfl, rfl⟩ := trodVars_none hV
  obtain ⟨cs0, rfl, _⟩ := okWide_struct Try.underlying29 (hval 0 _ _ rfl rfl)
  obtain ⟨fuel0, hf0⟩ := h0
  obtain ⟨H0, hH0, hR0, hK0⟩ := open_wd hf0
  obtain rfl : cs0 = (wdc H0).toArray := by rw [← (show cs0.toList = wdc H0 from hH0), Array.toArray_toList]
  obtain ⟨cs1, rfl, _⟩ := okWide_struct Try.underlying29 (hval 1 _ _ rfl rfl)
  obtain ⟨fuel1, hf1⟩ := h1
  obtain ⟨H1, hH1, hR1, hK1⟩ := open_wd hf1
  obtain rfl : cs1 = (wdc H1).toArray := by rw [← (show cs1.toList = wdc H1 from hH1), Array.toArray_toList]
  refine (l_same (w := W) hR0 hR1 hK0 hK1).mono fun e W' ⟨v, he, hv, hA'⟩ => ?_
  subst he; subst hv
  exact ⟨_, rfl, row_post laid_out hW' rfl (by kernel_rfl) rfl Try.underlying4 rfl hA'⟩

set_option maxRecDepth 100000 in
theorem words_same_lifted (os : Os) (started : os.Started) (H : Type) (enc : TypeId × Value → H) :
    ReturnsInHanded {} Try.checked os 7 .any (Rows.wordsSameSpec.pre6 enc Try.prog Try.f7 Rows.wordsSameRow.domain false) (Rows.wordsSameSpec.post enc Try.prog Try.f7 false true false false) := by
  refine returnsInHanded_of_change (C := Try.checked) own_knob started (by kernel_rfl) Try.func7
    (ChangeSpec.witness6 (enc := enc) (C := Try.checked) false ⟨#[], #[.agg #[.int .i64 0, .int .i64 0, .int .i64 0, .slice none 0 0, .slice none 0 0, .slice none 0 0, .slice none 0 0, .slice none 0 0], .agg #[.int .i64 0, .int .i64 0, .int .i64 0, .slice none 0 0, .slice none 0 0, .slice none 0 0, .slice none 0 0, .slice none 0 0]], []⟩ 8 (by kernel_rfl) (by kernel_rfl) (by kernel_rfl) (by kernel_rfl)) ?_
  intro W base args ds gs before hval hW _ _
  exact words_same_contract H enc W base args ds gs before hval hW

theorem words_same : Rows.WordsSameSaid :=
  OpenClaim.holds_of_wide 7 Try.f7 rfl rfl rfl rfl rfl rfl rfl ⟨rfl, rfl, rfl, rfl, rfl⟩ rfl rfl rfl rfl rfl (by kernel_rfl) Try.func7 (by kernel_rfl)
    (of_decide_eq_true (by kernel_rfl)) (by unfold Func.isWrapper; first | (rw [if_pos (by decide +kernel)]; kernel_rfl) | (rw [if_neg (by decide +kernel)]; exact ⟨rfl, rfl⟩))
    (fun os started H enc _ => words_same_lifted os started H enc)
end Go.Proofs.Ytbcaooiphalkoaa
