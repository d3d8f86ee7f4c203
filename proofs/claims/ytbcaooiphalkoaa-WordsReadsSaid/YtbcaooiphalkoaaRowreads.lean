/-
  'WordsReads' returns true for every input, and its arguments read as they did.
-/
import Derived.Test.YtbcaooiphalkoaaArgw
import Derived.Test.YtbcaooiphalkoaaLwc
set_option linter.unusedVariables false
namespace Go.Proofs.Ytbcaooiphalkoaa
open Go Go.ChangeShapes Go.WideShapes Go.ChangeAt Go.RowKit

set_option maxRecDepth 100000 in
theorem words_reads_contract (H : Type) (enc : TypeId × Value → H) (W : World) (base : Nat) (args : Array Value) (ds gs : List (DataW H)) (before : List MemPlace)
    (hval : ∀ (j : Nat) t v, Try.f5.params[j]? = some t → args[j]? = some v → Value.okWide Try.prog W .any base t v)
    (hW : DataW.Whole enc Try.prog Try.f5.params.toList Rows.wordsReadsSpec.vars false W args.toList ds gs before) :
    Calls Try.prog 5 args W fun e W' => ∃ v, e = .returned v ∧ Rows.wordsReadsSpec.post enc Try.prog Try.f5 false true false false W args v W' := by
  have hW' := hW
  obtain ⟨p, q, hA0, hV, rfl, hfz, hnd⟩ := hW
  have hA : DataW.TrodAll enc Try.prog W 0 (fun _ => true) true Try.f5.params.toList args.toList ds p := hA0
  rw [Try.params5] at hA hval
  obtain ⟨v0, vs0, d0, ds0, p0, q0, hargs0, rfl, rfl, h0, r0⟩ := trodAll_cons hA
  obtain ⟨rfl, rfl, rfl⟩ := trodAll_nil r0
  obtain rfl : args = #[v0] := by cases args; simp_all
  obtain ⟨rfl, rfl⟩ := trodVars_none hV
  obtain ⟨A0, m0, c0, rfl⟩ := okWide_slice Try.underlying32 (hval 0 _ _ rfl rfl)
  obtain ⟨fuel0, hf0⟩ := h0
  obtain ⟨D0, l0, hD0, hR0⟩ := open_bytes Try.underlying32 Try.underlying5 cells_u8 hf0
  obtain rfl : .slice A0 m0 c0 = D0 := List.head_eq_of_cons_eq hD0
  refine (l_reads (w := W) hR0).mono fun e W' ⟨v, he, hv, hA'⟩ => ?_
  subst he; subst hv
  exact ⟨_, rfl, row_post laid_out hW' rfl (by kernel_rfl) rfl Try.underlying4 rfl hA'⟩

set_option maxRecDepth 100000 in
theorem words_reads_lifted (os : Os) (started : os.Started) (H : Type) (enc : TypeId × Value → H) :
    ReturnsInHanded {} Try.checked os 5 .any (Rows.wordsReadsSpec.pre6 enc Try.prog Try.f5 Rows.wordsReadsRow.domain false) (Rows.wordsReadsSpec.post enc Try.prog Try.f5 false true false false) := by
  refine returnsInHanded_of_change (C := Try.checked) own_knob started (by kernel_rfl) Try.func5
    (ChangeSpec.witness6 (enc := enc) (C := Try.checked) false ⟨#[], #[.slice none 0 0], []⟩ 8 (by kernel_rfl) (by kernel_rfl) (by kernel_rfl) (by kernel_rfl)) ?_
  intro W base args ds gs before hval hW _ _
  exact words_reads_contract H enc W base args ds gs before hval hW

theorem words_reads : Rows.WordsReadsSaid :=
  OpenClaim.holds_of_wide 5 Try.f5 rfl rfl rfl rfl rfl rfl rfl ⟨rfl, rfl, rfl, rfl, rfl⟩ rfl rfl rfl rfl rfl (by kernel_rfl) Try.func5 (by kernel_rfl)
    (of_decide_eq_true (by kernel_rfl)) (by unfold Func.isWrapper; first | (rw [if_pos (by decide +kernel)]; kernel_rfl) | (rw [if_neg (by decide +kernel)]; exact ⟨rfl, rfl⟩))
    (fun os started H enc _ => words_reads_lifted os started H enc)
end Go.Proofs.Ytbcaooiphalkoaa
