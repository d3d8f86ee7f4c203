/-
  'RoadNone' returns true for every input, and its arguments read as they did.
-/
import Derived.Test.YtpgjmbppbckojaaArgs
import Derived.Test.YtpgjmbppbckojaaRoad6
set_option linter.unusedVariables false
namespace Go.Proofs.Ytpgjmbppbckojaa
open Go Go.ChangeShapes Go.WideShapes Go.ChangeAt Go.RowKit

theorem cells_int : Try.prog.cellsOf 3 = 1 := by kernel_rfl
theorem cells_bool : Try.prog.cellsOf 4 = 1 := by kernel_rfl
theorem cells_u8 : Try.prog.cellsOf 5 = 1 := by kernel_rfl
theorem cells_bytes : Try.prog.cellsOf 27 = 1 := by kernel_rfl
theorem cells_letter : Try.prog.cellsOf 29 = 4 := by kernel_rfl
theorem four_of {cs : List Value} (h : cs.length = 4) : ∃ a b c d, cs = [a, b, c, d] := by
  match cs, h with
  | [a, b, c, d], _ => exact ⟨a, b, c, d, rfl⟩
theorem open_letter {H : Type} {enc : TypeId × Value → H} {w : World} {base : Nat} {spare : Nat → Bool} {held : Bool} {fuel : Nat} {cs : List Value} {x : DataW H × List MemPlace}
    (h : DataW.trod enc Try.prog w base spare held fuel 29 cs = some x) : ∃ d k t D l, cs = [.int .i64 d, .bool k, .bool t, D] ∧ (Lit.int .i64 d).wf = true ∧ Rd w 1 D (u8s l) := by
  obtain ⟨xs, n, rfl, rfl, hcs, hxs, hf⟩ := DataW.trod_struct Try.underlying29 h
  rw [cells_letter] at hcs
  obtain ⟨a, b, c, d, rfl⟩ := four_of hcs
  have hx : ∀ i, i < 4 → ∃ y, xs[i]? = some y := fun i hi => ⟨_, List.getElem?_eq_getElem (by rw [hxs]; exact hi)⟩
  obtain ⟨y0, h0⟩ := hx 0 (by omega)
  obtain ⟨y1, h1⟩ := hx 1 (by omega)
  obtain ⟨y2, h2⟩ := hx 2 (by omega)
  obtain ⟨y3, h3⟩ := hx 3 (by omega)
  have e0 : DataW.trod enc Try.prog w base spare held n 3 (List.take (Try.prog.cellsOf 3) (List.drop 0 [a, b, c, d])) = xs[0]? := hf 0 _ rfl
  rw [cells_int, h0] at e0
  have e1 : DataW.trod enc Try.prog w base spare held n 4 (List.take (Try.prog.cellsOf 4) (List.drop 1 [a, b, c, d])) = xs[1]? := hf 1 _ rfl
  rw [cells_bool, h1] at e1
  have e2 : DataW.trod enc Try.prog w base spare held n 4 (List.take (Try.prog.cellsOf 4) (List.drop 2 [a, b, c, d])) = xs[2]? := hf 2 _ rfl
  rw [cells_bool, h2] at e2
  have e3 : DataW.trod enc Try.prog w base spare held n 27 (List.take (Try.prog.cellsOf 27) (List.drop 3 [a, b, c, d])) = xs[3]? := hf 3 _ rfl
  rw [cells_bytes, h3] at e3
  obtain ⟨d0, q0, _, w0⟩ := DataW.trod_int Try.underlying3 e0
  obtain ⟨b1, q1, _⟩ := DataW.trod_bool Try.underlying4 e1
  obtain ⟨b2, q2, _⟩ := DataW.trod_bool Try.underlying4 e2
  obtain ⟨v, l, q3, hr⟩ := open_bytes Try.underlying27 Try.underlying5 cells_u8 e3
  obtain rfl : a = _ := List.head_eq_of_cons_eq q0
  obtain rfl : b = _ := List.head_eq_of_cons_eq q1
  obtain rfl : c = _ := List.head_eq_of_cons_eq q2
  obtain rfl : d = _ := List.head_eq_of_cons_eq q3
  exact ⟨d0, b1, b2, d, l, rfl, w0, hr⟩

theorem none_contract (H : Type) (enc : TypeId × Value → H) (W : World) (base : Nat) (args : Array Value) (ds gs : List (DataW H)) (before : List MemPlace)
    (hval : ∀ (j : Nat) t v, Try.f6.params[j]? = some t → args[j]? = some v → Value.okWide Try.prog W .any base t v)
    (hW : DataW.Whole enc Try.prog Try.f6.params.toList Rows.roadNoneSpec.vars false W args.toList ds gs before) :
    Calls Try.prog 6 args W fun e W' => ∃ v, e = .returned v ∧ Rows.roadNoneSpec.post enc Try.prog Try.f6 false true false false W args v W' := by
  have hW' := hW
  obtain ⟨p, q, hA0, hV, rfl, hfz, hnd⟩ := hW
  have hA : DataW.TrodAll enc Try.prog W 0 (fun _ => true) true Try.f6.params.toList args.toList ds p := hA0
  rw [Try.params6] at hA hval
  obtain ⟨v0, v1, d0, d1, p0, p1, rfl, rfl, rfl, h0, h1⟩ := trodAll_two hA
  obtain ⟨rfl, rfl⟩ := trodVars_none hV
  obtain ⟨a, rfl, rfl, rfl, wa⟩ := open_int Try.underlying3 (hval 0 _ _ rfl rfl) h0
  obtain ⟨cs, rfl, _⟩ := okWide_struct Try.underlying29 (hval 1 _ _ rfl rfl)
  obtain ⟨fuel, hf⟩ := h1
  obtain ⟨d, k, t, D, l, hcs, _, hr⟩ := open_letter hf
  obtain rfl : cs = #[.int .i64 d, .bool k, .bool t, D] := by cases cs; exact congrArg Array.mk hcs
  obtain ⟨A, m, c, rfl, _⟩ := id hr
  refine (c_none (w := W)).mono fun e W' ⟨v, he, hv, hA'⟩ => ?_
  subst he; subst hv
  exact ⟨_, rfl, row_post laid_out hW' rfl (by kernel_rfl) rfl Try.underlying4 rfl hA'⟩

set_option maxRecDepth 100000 in
theorem none_lifted (os : Os) (started : os.Started) (H : Type) (enc : TypeId × Value → H) :
    ReturnsInHanded {} Try.checked os 6 .any (Rows.roadNoneSpec.pre6 enc Try.prog Try.f6 Rows.roadNoneRow.domain false) (Rows.roadNoneSpec.post enc Try.prog Try.f6 false true false false) := by
  refine returnsInHanded_of_change (C := Try.checked) own_knob started (by kernel_rfl) Try.func6
    (ChangeSpec.witness6 (enc := enc) (C := Try.checked) false ⟨#[], #[.int .i64 0, .agg #[.int .i64 0, .bool false, .bool false, .slice none 0 0]], []⟩ 8 (by kernel_rfl) (by kernel_rfl) (by kernel_rfl) (by kernel_rfl)) ?_
  intro W base args ds gs before hval hW _ _
  exact none_contract H enc W base args ds gs before hval hW

theorem road_none : Rows.RoadNoneSaid :=
  OpenClaim.holds_of_wide 6 Try.f6 rfl rfl rfl rfl rfl rfl rfl ⟨rfl, rfl, rfl, rfl, rfl⟩ rfl rfl rfl rfl rfl (by kernel_rfl) Try.func6 (by kernel_rfl)
    (of_decide_eq_true (by kernel_rfl)) (by unfold Func.isWrapper; first | (rw [if_pos (by decide +kernel)]; kernel_rfl) | (rw [if_neg (by decide +kernel)]; exact ⟨rfl, rfl⟩))
    (fun os started H enc _ => none_lifted os started H enc)
end Go.Proofs.Ytpgjmbppbckojaa
