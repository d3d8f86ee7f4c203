/-
  'RoadPlays' returns true for every input, and its argument reads as it did.
-/
import Derived.Test.YtpgjmbppbckojaaArgs
import Derived.Test.YtpgjmbppbckojaaRoad8
set_option linter.unusedVariables false
namespace Go.Proofs.Ytpgjmbppbckojaa
open Go Go.ChangeShapes Go.WideShapes Go.ChangeAt Go.RowKit

theorem cells_int : Try.prog.cellsOf 3 = 1 := by kernel_rfl
theorem cells_bool : Try.prog.cellsOf 4 = 1 := by kernel_rfl
theorem cells_u8 : Try.prog.cellsOf 5 = 1 := by kernel_rfl
theorem cells_bytes : Try.prog.cellsOf 27 = 1 := by kernel_rfl
theorem cells_letter : Try.prog.cellsOf 29 = 4 := by kernel_rfl
theorem four_of {cs : List Value} (h : cs.length = 4) : ∃ a b c d, cs = [a, b, c, d] := by
  match cs, h with
  | [a, b, c, d], _ => exact ⟨a, b, c, d, rfl⟩
theorem open_letter {H : Type} {enc : TypeId × Value → H} {w : World} {base : Nat} {spare : Nat → Bool} {held : Bool} {fuel : Nat} {cs : List Value} {x : DataW H × List MemPlace}
    (h : DataW.trod enc Try.prog w base spare held fuel 29 cs = some x) : ∃ d k t D l, cs = [.int .i64 d, .bool k, .bool t, D] ∧ (Lit.int .i64 d).wf = true ∧ Rd w 1 D (u8s l) := by
  obtain ⟨xs, n, rfl, rfl, hcs, hxs, hf⟩ := DataW.trod_struct Try.underlying29 h
  rw [cells_letter] at hcs
  obtain ⟨a, b, c, d, rfl⟩ := four_of hcs
  have hx : ∀ i, i < 4 → ∃ y, xs[i]? = some y := fun i hi => ⟨_, List.getElem?_eq_getElem (by rw [hxs]; exact hi)⟩
  obtain ⟨y0, h0⟩ := hx 0 (by omega)
  obtain ⟨y1, h1⟩ := hx 1 (by omega)
  obtain ⟨y2, h2⟩ := hx 2 (by omega)
  obtain ⟨y3, h3⟩ := hx 3 (by omega)
  have e0 : DataW.trod enc Try.prog w base spare held n 3 (List.take (Try.prog.cellsOf 3) (List.drop 0 [a, b, c, d])) = xs[0]? := hf 0 _ rfl
  rw [cells_int, h0] at e0
  have e1 : DataW.trod enc Try.prog w base spare held n 4 (List.take (Try.prog.cellsOf 4) (List.drop 1 [a, b, c, d])) = xs[1]? := hf 1 _ rfl
  rw [cells_bool, h1] at e1
  have e2 : DataW.trod enc Try.prog w base spare held n 4 (List.take (Try.prog.cellsOf 4) (List.drop 2 [a, b, c, d])) = xs[2]? := hf 2 _ rfl
  rw [cells_bool, h2] at e2
  have e3 : DataW.trod enc Try.prog w base spare held n 27 (List.take (Try.prog.cellsOf 27) (List.drop 3 [a, b, c, d])) = xs[3]? := hf 3 _ rfl
  rw [cells_bytes, h3] at e3
  obtain ⟨d0, q0, _, w0⟩ := DataW.trod_int Try.underlying3 e0
  obtain ⟨b1, q1, _⟩ := DataW.trod_bool Try.underlying4 e1
  obtain ⟨b2, q2, _⟩ := DataW.trod_bool Try.underlying4 e2
  obtain ⟨v, l, q3, hr⟩ := open_bytes Try.underlying27 Try.underlying5 cells_u8 e3
  obtain rfl : a = _ := List.head_eq_of_cons_eq q0
  obtain rfl : b = _ := List.head_eq_of_cons_eq q1
  obtain rfl : c = _ := List.head_eq_of_cons_eq q2
  obtain rfl : d = _ := List.head_eq_of_cons_eq q3
  exact ⟨d0, b1, b2, d, l, rfl, w0, hr⟩

theorem addr_add (b o j : Nat) : (⟨b, o, none⟩ : Addr).add j = ⟨b, o + j, none⟩ := by simp [Addr.add]
theorem cells_step : Try.prog.cellsOf 31 = 7 := by kernel_rfl
theorem seven_of {cs : List Value} (h : cs.length = 7) : ∃ a b c d e f g, cs = [a, b, c, d, e, f, g] := by
  match cs, h with
  | [a, b, c, d, e, f, g], _ => exact ⟨a, b, c, d, e, f, g, rfl⟩
theorem open_step {H : Type} {enc : TypeId × Value → H} {w : World} {base : Nat} {spare : Nat → Bool} {held : Bool} {fuel : Nat} {cs : List Value} {x : DataW H × List MemPlace}
    (h : DataW.trod enc Try.prog w base spare held fuel 31 cs = some x) : ∃ s : St, cs = stc s ∧ Rd w 1 s.x.D (u8s s.x.l) := by
  obtain ⟨xs, n, rfl, rfl, hcs, hxs, hf⟩ := DataW.trod_struct Try.underlying31 h
  rw [cells_step] at hcs
  obtain ⟨a, b, c, d, e, f, g, rfl⟩ := seven_of hcs
  have hx : ∀ i, i < 4 → ∃ y, xs[i]? = some y := fun i hi => ⟨_, List.getElem?_eq_getElem (by rw [hxs]; exact hi)⟩
  obtain ⟨y0, h0⟩ := hx 0 (by omega)
  obtain ⟨y1, h1⟩ := hx 1 (by omega)
  obtain ⟨y2, h2⟩ := hx 2 (by omega)
  obtain ⟨y3, h3⟩ := hx 3 (by omega)
  have e0 : DataW.trod enc Try.prog w base spare held n 3 (List.take (Try.prog.cellsOf 3) (List.drop 0 [a, b, c, d, e, f, g])) = xs[0]? := hf 0 _ rfl
  rw [cells_int, h0] at e0
  have e1 : DataW.trod enc Try.prog w base spare held n 3 (List.take (Try.prog.cellsOf 3) (List.drop 1 [a, b, c, d, e, f, g])) = xs[1]? := hf 1 _ rfl
  rw [cells_int, h1] at e1
  have e2 : DataW.trod enc Try.prog w base spare held n 3 (List.take (Try.prog.cellsOf 3) (List.drop 2 [a, b, c, d, e, f, g])) = xs[2]? := hf 2 _ rfl
  rw [cells_int, h2] at e2
  have e3 : DataW.trod enc Try.prog w base spare held n 29 (List.take (Try.prog.cellsOf 29) (List.drop 3 [a, b, c, d, e, f, g])) = xs[3]? := hf 3 _ rfl
  rw [cells_letter, h3] at e3
  obtain ⟨n0, q0, _⟩ := DataW.trod_int Try.underlying3 e0
  obtain ⟨n1, q1, _⟩ := DataW.trod_int Try.underlying3 e1
  obtain ⟨n2, q2, _⟩ := DataW.trod_int Try.underlying3 e2
  obtain ⟨d3, k3, t3, D, l, q3, _, hr⟩ := open_letter e3
  obtain ⟨A, m, cc, rfl, _⟩ := id hr
  obtain rfl : a = _ := List.head_eq_of_cons_eq q0
  obtain rfl : b = _ := List.head_eq_of_cons_eq q1
  obtain rfl : c = _ := List.head_eq_of_cons_eq q2
  have q4 : [d, e, f, g] = [.int .i64 d3, .bool k3, .bool t3, .slice A m cc] := q3
  injection q4 with r0 q4
  injection q4 with r1 q4
  injection q4 with r2 q4
  injection q4 with r3 q4
  subst r0; subst r1; subst r2; subst r3
  exact ⟨⟨n0, n1, n2, ⟨d3, k3, t3, A, m, cc, l⟩⟩, rfl, hr⟩
theorem list_of {α : Type} {p : Nat → α → Prop} : ∀ n, (∀ i, i < n → ∃ s, p i s) → ∃ ss : List α, ss.length = n ∧ ∀ i s, ss[i]? = some s → p i s
  | 0, _ => ⟨[], rfl, fun i s h => by simp at h⟩
  | n + 1, h => by
    obtain ⟨ss, hl, hp⟩ := list_of n fun i hi => h i (by omega)
    obtain ⟨s, hs⟩ := h n (by omega)
    refine ⟨ss ++ [s], by simp [hl], fun i u hu => ?_⟩
    rw [List.getElem?_append] at hu
    split at hu
    · exact hp i u hu
    · rename_i hi
      have hlt := (List.getElem?_eq_some_iff.1 hu).1
      simp at hlt
      obtain rfl : i = n := by omega
      rw [hl, Nat.sub_self] at hu
      obtain rfl := Option.some.inj hu
      exact hs
theorem open_steps {H : Type} {enc : TypeId × Value → H} {w : World} {base : Nat} {spare : Nat → Bool} {held : Bool} {fuel : Nat} {A : Option Addr} {m c : Nat} {x : DataW H × List MemPlace}
    (h : DataW.trod enc Try.prog w base spare held fuel 22 (Value.slice A m c).cells.toList = some x) : ∃ ss : List St, Rd w 7 (.slice A m c) (flatS ss) ∧ ∀ s ∈ ss, Rd w 1 s.x.D (u8s s.x.l) := by
  rcases DataW.trod_slice Try.underlying22 h with ⟨h0, _⟩ | ⟨a, len, cap, elems, rest, n, _, h0, _, hb, hlc, hcap, hlen, hel, _, _⟩
  · have h0 : [Value.slice A m c] = [.slice none 0 0] := h0
    injection h0 with h0
    injection h0 with h1 h2 h3
    subst h1; subst h2; subst h3
    exact ⟨[], ⟨none, 0, 0, rfl, rfl, Nat.le_refl _, by simp [maxLen], .inl rfl⟩, by simp⟩
  · have h0 : [Value.slice A m c] = [.slice (some a) len cap] := h0
    injection h0 with h0
    injection h0 with h1 h2 h3
    subst h1; subst h2; subst h3
    rw [cells_step] at hel
    obtain ⟨ss, hl, hp⟩ := list_of (p := fun i (s : St) => (∀ j, j < 7 → w.cell? ((a.add (i * 7)).add j) = (stc s)[j]?) ∧ Rd w 1 s.x.D (u8s s.x.l)) m (fun i hi => by
      have h1 := hel i hi
      rw [List.getElem?_eq_getElem (by omega), Option.bind_eq_some_iff] at h1
      obtain ⟨cs, hcs, hx⟩ := h1
      obtain ⟨s, rfl, hr⟩ := open_step hx
      exact ⟨s, (World.cells?_some hcs).2.2, hr⟩)
    refine ⟨ss, ⟨some a, m, c, rfl, by rw [flatS_len, hl], hlc, hcap, ?_⟩, fun s hs => ?_⟩
    · rcases Nat.eq_zero_or_pos m with hm | hm
      · left
        rw [hm] at hl
        rw [List.eq_nil_of_length_eq_zero hl]; rfl
      · right
        obtain ⟨s0, hs0⟩ : ∃ s0, ss[0]? = some s0 := ⟨_, List.getElem?_eq_getElem (by omega)⟩
        have hc0 := (hp 0 s0 hs0).1 0 (by omega)
        have hsp := World.cell?_spot (v := .int .i64 s0.what) hc0
        obtain ⟨b, o, sp⟩ := a
        have hsp2 : sp = none := by simpa [Addr.add] using hsp
        subst hsp2
        refine ⟨b, o, rfl, fun j u hu => ?_⟩
        have hj := (List.getElem?_eq_some_iff.1 hu).1
        rw [flatS_len] at hj
        obtain ⟨s, hs⟩ : ∃ s, ss[j / 7]? = some s := ⟨_, List.getElem?_eq_getElem (by omega)⟩
        have h7 : j % 7 < (stc s).length := Nat.mod_lt j (show 0 < 7 from by decide)
        have h1 := flatS_cell hs (List.getElem?_eq_getElem h7)
        rw [show j / 7 * 7 + j % 7 = j from by omega, hu] at h1
        have h2 := (hp (j / 7) s hs).1 (j % 7) (Nat.mod_lt _ (by omega))
        rw [List.getElem?_eq_getElem h7, ← h1] at h2
        have ha : ((⟨b, o, none⟩ : Addr).add (j / 7 * 7)).add (j % 7) = ⟨b, o + j, none⟩ := by
          rw [addr_add, addr_add, Nat.add_assoc, show j / 7 * 7 + j % 7 = j from by omega]
        rw [ha] at h2
        exact h2
    · obtain ⟨i, hi⟩ := List.getElem?_of_mem hs
      exact (hp i s hi).2

theorem plays_contract (H : Type) (enc : TypeId × Value → H) (W : World) (base : Nat) (args : Array Value) (ds gs : List (DataW H)) (before : List MemPlace)
    (hval : ∀ (j : Nat) t v, Try.f3.params[j]? = some t → args[j]? = some v → Value.okWide Try.prog W .any base t v)
    (hW : DataW.Whole enc Try.prog Try.f3.params.toList Rows.roadPlaysSpec.vars false W args.toList ds gs before) :
    Calls Try.prog 3 args W fun e W' => ∃ v, e = .returned v ∧ Rows.roadPlaysSpec.post enc Try.prog Try.f3 false true false false W args v W' := by
  have hW' := hW
  obtain ⟨p, q, hA0, hV, rfl, hfz, hnd⟩ := hW
  have hA : DataW.TrodAll enc Try.prog W 0 (fun _ => true) true Try.f3.params.toList args.toList ds p := hA0
  rw [Try.params3] at hA hval
  obtain ⟨v0, vs0, d0, ds0, p0, q0, hargs, rfl, rfl, h0, r0⟩ := trodAll_cons hA
  obtain ⟨rfl, rfl, rfl⟩ := trodAll_nil r0
  obtain rfl : args = #[v0] := by cases args; simp_all
  obtain ⟨rfl, rfl⟩ := trodVars_none hV
  obtain ⟨fuel, hf⟩ := h0
  obtain ⟨A, m, c, rfl⟩ := okWide_slice Try.underlying22 (hval 0 _ _ rfl rfl)
  obtain ⟨ss, hs, hxs⟩ := open_steps hf
  refine (c_plays (w := W) hs hxs).mono fun e W' ⟨v, he, hv, hA'⟩ => ?_
  subst he; subst hv
  exact ⟨_, rfl, row_post laid_out hW' rfl (by kernel_rfl) rfl Try.underlying4 rfl hA'⟩

set_option maxRecDepth 100000 in
theorem plays_lifted (os : Os) (started : os.Started) (H : Type) (enc : TypeId × Value → H) :
    ReturnsInHanded {} Try.checked os 3 .any (Rows.roadPlaysSpec.pre6 enc Try.prog Try.f3 Rows.roadPlaysRow.domain false) (Rows.roadPlaysSpec.post enc Try.prog Try.f3 false true false false) := by
  refine returnsInHanded_of_change (C := Try.checked) own_knob started (by kernel_rfl) Try.func3
    (ChangeSpec.witness6 (enc := enc) (C := Try.checked) false ⟨#[], #[.slice none 0 0], []⟩ 8 (by kernel_rfl) (by kernel_rfl) (by kernel_rfl) (by kernel_rfl)) ?_
  intro W base args ds gs before hval hW _ _
  exact plays_contract H enc W base args ds gs before hval hW

theorem road_plays : Rows.RoadPlaysSaid :=
  OpenClaim.holds_of_wide 3 Try.f3 rfl rfl rfl rfl rfl rfl rfl ⟨rfl, rfl, rfl, rfl, rfl⟩ rfl rfl rfl rfl rfl (by kernel_rfl) Try.func3 (by kernel_rfl)
    (of_decide_eq_true (by kernel_rfl)) (by unfold Func.isWrapper; first | (rw [if_pos (by decide +kernel)]; kernel_rfl) | (rw [if_neg (by decide +kernel)]; exact ⟨rfl, rfl⟩))
    (fun os started H enc _ => plays_lifted os started H enc)
end Go.Proofs.Ytpgjmbppbckojaa
