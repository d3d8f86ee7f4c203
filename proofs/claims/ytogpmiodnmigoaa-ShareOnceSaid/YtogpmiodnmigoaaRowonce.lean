/-
  'ShareOnce' returns true for every input, and its argument reads as it did.
-/
import Derived.Test.YtogpmiodnmigoaaArgsb
import Derived.Test.YtogpmiodnmigoaaOnce
set_option linter.unusedVariables false
namespace Go.Proofs.Ytogpmiodnmigoaa
open Go Go.ChangeShapes Go.WideShapes Go.ChangeAt Go.RowKit

theorem cells_u64b : Try.prog.cellsOf 22 = 1 := by kernel_rfl

theorem share_once_contract (H : Type) (enc : TypeId × Value → H) (W : World) (base : Nat) (args : Array Value) (ds gs : List (DataW H)) (before : List MemPlace)
    (hval : ∀ (j : Nat) t v, Try.f4.params[j]? = some t → args[j]? = some v → Value.okWide Try.prog W .any base t v)
    (hW : DataW.Whole enc Try.prog Try.f4.params.toList Rows.shareOnceSpec.vars false W args.toList ds gs before) :
    Calls Try.prog 4 args W fun e W' => ∃ v, e = .returned v ∧ Rows.shareOnceSpec.post enc Try.prog Try.f4 false true false false W args v W' := by
  have hW' := hW
  obtain ⟨p, q, hA0, hV, rfl, hfz, hnd⟩ := hW
  have hA : DataW.TrodAll enc Try.prog W 0 (fun _ => true) true Try.f4.params.toList args.toList ds p := hA0
  rw [Try.params4] at hA hval
  obtain ⟨v0, vs0, d0, ds0, p0, q0, hargs0, rfl, rfl, h0, r0⟩ := trodAll_cons hA
  obtain ⟨v1, vs1, d1, ds1, p1, q1, hargs1, rfl, rfl, h1, r1⟩ := trodAll_cons r0
  obtain ⟨v2, vs2, d2, ds2, p2, q2, hargs2, rfl, rfl, h2, r2⟩ := trodAll_cons r1
  obtain ⟨v3, vs3, d3, ds3, p3, q3, hargs3, rfl, rfl, h3, r3⟩ := trodAll_cons r2
  obtain ⟨rfl, rfl, rfl⟩ := trodAll_nil r3
  subst hargs1
  subst hargs2
  subst hargs3
  obtain rfl : args = #[v0, v1, v2, v3] := by cases args; simp_all
  obtain ⟨rfl, rfl⟩ := trodVars_none hV
  obtain ⟨a0, rfl, _, _, wf0⟩ := open_int Try.underlying22 (hval 0 _ _ rfl rfl) h0
  obtain ⟨n0, rfl, hn0⟩ := u64_range wf0
  obtain ⟨A1, m1, c1, rfl⟩ := okWide_slice Try.underlying25 (hval 1 _ _ rfl rfl)
  obtain ⟨fuel1, hf1⟩ := h1
  obtain ⟨D1, zs1, hcs1, hR1, hz1⟩ := open_nums Try.underlying25 Try.underlying22 cells_u64b hf1
  obtain rfl : D1 = .slice A1 m1 c1 := by
    have : [Value.slice A1 m1 c1] = [D1] := hcs1
    injection this with h
    exact h.symm
  obtain ⟨l1, hl1, hb1⟩ := nats_of (fun n => u64_range) zs1 hz1
  rw [hl1] at hR1
  obtain ⟨a2, rfl, _, _, wf2⟩ := open_int Try.underlying5 (hval 2 _ _ rfl rfl) h2
  obtain ⟨n2, rfl, hn2⟩ := u8_nat wf2
  obtain ⟨a3, rfl, _, _, wf3⟩ := open_int Try.underlying22 (hval 3 _ _ rfl rfl) h3
  obtain ⟨n3, rfl, hn3⟩ := u64_range wf3
  refine (l_once (w := W) hR1 hn2 hb1).mono fun e W' ⟨v, he, hv, hA'⟩ => ?_
  subst he; subst hv
  exact ⟨_, rfl, row_post laid_out hW' rfl (by kernel_rfl) rfl Try.underlying4 rfl hA'⟩

set_option maxRecDepth 100000 in
theorem share_once_lifted (os : Os) (started : os.Started) (H : Type) (enc : TypeId × Value → H) :
    ReturnsInHanded {} Try.checked os 4 .any (Rows.shareOnceSpec.pre6 enc Try.prog Try.f4 Rows.shareOnceRow.domain false) (Rows.shareOnceSpec.post enc Try.prog Try.f4 false true false false) := by
  refine returnsInHanded_of_change (C := Try.checked) own_knob started (by kernel_rfl) Try.func4
    (ChangeSpec.witness6 (enc := enc) (C := Try.checked) false ⟨#[], #[.int .u64 0, .slice none 0 0, .int .u8 0, .int .u64 0], []⟩ 8 (by kernel_rfl) (by kernel_rfl) (by kernel_rfl) (by kernel_rfl)) ?_
  intro W base args ds gs before hval hW _ _
  exact share_once_contract H enc W base args ds gs before hval hW

theorem share_once : Rows.ShareOnceSaid :=
  OpenClaim.holds_of_wide 4 Try.f4 rfl rfl rfl rfl rfl rfl rfl ⟨rfl, rfl, rfl, rfl, rfl⟩ rfl rfl rfl rfl rfl (by kernel_rfl) Try.func4 (by kernel_rfl)
    (of_decide_eq_true (by kernel_rfl)) (by unfold Func.isWrapper; first | (rw [if_pos (by decide +kernel)]; kernel_rfl) | (rw [if_neg (by decide +kernel)]; exact ⟨rfl, rfl⟩))
    (fun os started H enc _ => share_once_lifted os started H enc)
end Go.Proofs.Ytogpmiodnmigoaa
