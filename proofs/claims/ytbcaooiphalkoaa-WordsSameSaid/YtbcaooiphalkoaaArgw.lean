/-
  What comes in: words, opened.
-/
import Derived.Test.YtbcaooiphalkoaaArgsb
import Derived.Test.YtbcaooiphalkoaaWd
set_option linter.unusedVariables false
namespace Go.Proofs.Ytbcaooiphalkoaa
open Go Go.ChangeShapes Go.WideShapes Go.ChangeAt Go.RowKit
theorem cells_int1 : Try.prog.cellsOf 3 = 1 := by kernel_rfl
theorem cells_u64 : Try.prog.cellsOf 48 = 1 := by kernel_rfl
theorem cells_bool : Try.prog.cellsOf 4 = 1 := by kernel_rfl
theorem cells_bytes : Try.prog.cellsOf 32 = 1 := by kernel_rfl
theorem cells_u64s : Try.prog.cellsOf 53 = 1 := by kernel_rfl
theorem cells_errno : Try.prog.cellsOf 22 = 1 := by kernel_rfl
theorem cells_cds : Try.prog.cellsOf 23 = 1 := by kernel_rfl
theorem cells_pps : Try.prog.cellsOf 24 = 1 := by kernel_rfl
theorem cells_u32s : Try.prog.cellsOf 25 = 1 := by kernel_rfl
theorem cells_ints : Try.prog.cellsOf 26 = 1 := by kernel_rfl
theorem cells_oos : Try.prog.cellsOf 27 = 1 := by kernel_rfl
theorem cells_u32 : Try.prog.cellsOf 63 = 1 := by kernel_rfl
theorem cells_u8 : Try.prog.cellsOf 5 = 1 := by kernel_rfl
theorem cells_cd : Try.prog.cellsOf 50 = 3 := by kernel_rfl
theorem cells_pp : Try.prog.cellsOf 52 = 3 := by kernel_rfl
theorem cells_oo : Try.prog.cellsOf 55 = 3 := by kernel_rfl
theorem cells_wd : Try.prog.cellsOf 29 = 8 := by kernel_rfl
theorem len3 {α : Type} {l : List α} (h : l.length = 3) : ∃ a0 a1 a2, l = [a0, a1, a2] := by
  rcases l with _ | ⟨a0, _ | ⟨a1, _ | ⟨a2, _ | ⟨zz, rr⟩⟩⟩⟩
  · simp at h
  · simp at h
  · simp at h
  · exact ⟨a0, a1, a2, rfl⟩
  · simp at h

theorem len8 {α : Type} {l : List α} (h : l.length = 8) : ∃ a0 a1 a2 a3 a4 a5 a6 a7, l = [a0, a1, a2, a3, a4, a5, a6, a7] := by
  rcases l with _ | ⟨a0, _ | ⟨a1, _ | ⟨a2, _ | ⟨a3, _ | ⟨a4, _ | ⟨a5, _ | ⟨a6, _ | ⟨a7, _ | ⟨zz, rr⟩⟩⟩⟩⟩⟩⟩⟩⟩
  · simp at h
  · simp at h
  · simp at h
  · simp at h
  · simp at h
  · simp at h
  · simp at h
  · simp at h
  · exact ⟨a0, a1, a2, a3, a4, a5, a6, a7, rfl⟩
  · simp at h

theorem slice_shape {H : Type} {enc : TypeId × Value → H} {P : Program} {w : World} {base : Nat} {spare : Nat → Bool} {held : Bool} {fuel : Nat} {t e : TypeId} {v : Value} {x : DataW H × List MemPlace} (ht : P.underlying t = some (.slice e)) (h : DataW.trod enc P w base spare held fuel t [v] = some x) : ∃ A m c, v = .slice A m c := by
  rcases DataW.trod_slice ht h with ⟨h0, _⟩ | ⟨a, len, cap, elems, rest, n, _, h0, _⟩
  · injection h0 with h0; exact ⟨_, _, _, h0⟩
  · injection h0 with h0; exact ⟨_, _, _, h0⟩
theorem open_cd {H : Type} {enc : TypeId × Value → H} {w : World} {base : Nat} {spare : Nat → Bool} {held : Bool} {fuel : Nat} {cs : List Value} {x : DataW H × List MemPlace} (h : DataW.trod enc Try.prog w base spare held fuel 50 cs = some x) : ∃ s : Cd, cs = cdc s ∧ (-9223372036854775808 ≤ s.w ∧ s.w ≤ 9223372036854775807 ∧ s.l < 18446744073709551616 ∧ s.k < 18446744073709551616) := by
  obtain ⟨xs, n, rfl, rfl, hcs, hxs, hf⟩ := DataW.trod_struct Try.underlying50 h
  rw [cells_cd] at hcs
  obtain ⟨a, b, c, rfl⟩ := len3 hcs
  have hx : ∀ i, i < 3 → ∃ y, xs[i]? = some y := fun i hi => ⟨_, List.getElem?_eq_getElem (by rw [hxs]; exact hi)⟩
  obtain ⟨y0, h0⟩ := hx 0 (by omega)
  have e0 : DataW.trod enc Try.prog w base spare held n 3 (List.take (Try.prog.cellsOf 3) (List.drop 0 [a, b, c])) = xs[0]? := hf 0 _ rfl
  rw [cells_int1, h0] at e0
  obtain ⟨y1, h1⟩ := hx 1 (by omega)
  have e1 : DataW.trod enc Try.prog w base spare held n 48 (List.take (Try.prog.cellsOf 48) (List.drop 1 [a, b, c])) = xs[1]? := hf 1 _ rfl
  rw [cells_u64, h1] at e1
  obtain ⟨y2, h2⟩ := hx 2 (by omega)
  have e2 : DataW.trod enc Try.prog w base spare held n 48 (List.take (Try.prog.cellsOf 48) (List.drop 2 [a, b, c])) = xs[2]? := hf 2 _ rfl
  rw [cells_u64, h2] at e2
  obtain ⟨d0, q0, _, w0⟩ := DataW.trod_int Try.underlying3 e0
  have r0 := i64_range w0
  obtain rfl : a = _ := List.head_eq_of_cons_eq q0
  obtain ⟨d1, q1, _, w1⟩ := DataW.trod_int Try.underlying48 e1
  obtain ⟨k1, rfl, b1⟩ := u64_range w1
  obtain rfl : b = _ := List.head_eq_of_cons_eq q1
  obtain ⟨d2, q2, _, w2⟩ := DataW.trod_int Try.underlying48 e2
  obtain ⟨k2, rfl, b2⟩ := u64_range w2
  obtain rfl : c = _ := List.head_eq_of_cons_eq q2
  exact ⟨⟨d0, k1, k2⟩, rfl, r0.1, r0.2, b1, b2⟩

theorem open_pp {H : Type} {enc : TypeId × Value → H} {w : World} {base : Nat} {spare : Nat → Bool} {held : Bool} {fuel : Nat} {cs : List Value} {x : DataW H × List MemPlace} (h : DataW.trod enc Try.prog w base spare held fuel 52 cs = some x) : ∃ s : Pp × Sl, cs = ppc s ∧ Rd w 1 s.2.v (s.1.d.map u8v) ∧ (-9223372036854775808 ≤ s.1.f ∧ s.1.f ≤ 9223372036854775807 ∧ -9223372036854775808 ≤ s.1.t ∧ s.1.t ≤ 9223372036854775807) := by
  obtain ⟨xs, n, rfl, rfl, hcs, hxs, hf⟩ := DataW.trod_struct Try.underlying52 h
  rw [cells_pp] at hcs
  obtain ⟨a, b, c, rfl⟩ := len3 hcs
  have hx : ∀ i, i < 3 → ∃ y, xs[i]? = some y := fun i hi => ⟨_, List.getElem?_eq_getElem (by rw [hxs]; exact hi)⟩
  obtain ⟨y0, h0⟩ := hx 0 (by omega)
  have e0 : DataW.trod enc Try.prog w base spare held n 3 (List.take (Try.prog.cellsOf 3) (List.drop 0 [a, b, c])) = xs[0]? := hf 0 _ rfl
  rw [cells_int1, h0] at e0
  obtain ⟨y1, h1⟩ := hx 1 (by omega)
  have e1 : DataW.trod enc Try.prog w base spare held n 3 (List.take (Try.prog.cellsOf 3) (List.drop 1 [a, b, c])) = xs[1]? := hf 1 _ rfl
  rw [cells_int1, h1] at e1
  obtain ⟨y2, h2⟩ := hx 2 (by omega)
  have e2 : DataW.trod enc Try.prog w base spare held n 32 (List.take (Try.prog.cellsOf 32) (List.drop 2 [a, b, c])) = xs[2]? := hf 2 _ rfl
  rw [cells_bytes, h2] at e2
  obtain ⟨d0, q0, _, w0⟩ := DataW.trod_int Try.underlying3 e0
  have r0 := i64_range w0
  obtain rfl : a = _ := List.head_eq_of_cons_eq q0
  obtain ⟨d1, q1, _, w1⟩ := DataW.trod_int Try.underlying3 e1
  have r1 := i64_range w1
  obtain rfl : b = _ := List.head_eq_of_cons_eq q1
  obtain ⟨v, l, hv, hR⟩ := open_bytes Try.underlying32 Try.underlying5 cells_u8 e2
  obtain rfl : c = v := List.head_eq_of_cons_eq hv
  obtain ⟨A, m, k, rfl⟩ := slice_shape Try.underlying32 e2
  exact ⟨(⟨d0, d1, l⟩, ⟨A, m, k⟩), rfl, hR, r0.1, r0.2, r1.1, r1.2⟩

theorem open_oo {H : Type} {enc : TypeId × Value → H} {w : World} {base : Nat} {spare : Nat → Bool} {held : Bool} {fuel : Nat} {cs : List Value} {x : DataW H × List MemPlace} (h : DataW.trod enc Try.prog w base spare held fuel 55 cs = some x) : ∃ s : Oo × Sl, cs = ooc s ∧ Rd w 1 s.2.v (s.1.v.map u64v) ∧ (-9223372036854775808 ≤ s.1.w ∧ s.1.w ≤ 9223372036854775807 ∧ ∀ n ∈ s.1.v, n < 18446744073709551616) := by
  obtain ⟨xs, n, rfl, rfl, hcs, hxs, hf⟩ := DataW.trod_struct Try.underlying55 h
  rw [cells_oo] at hcs
  obtain ⟨a, b, c, rfl⟩ := len3 hcs
  have hx : ∀ i, i < 3 → ∃ y, xs[i]? = some y := fun i hi => ⟨_, List.getElem?_eq_getElem (by rw [hxs]; exact hi)⟩
  obtain ⟨y0, h0⟩ := hx 0 (by omega)
  have e0 : DataW.trod enc Try.prog w base spare held n 3 (List.take (Try.prog.cellsOf 3) (List.drop 0 [a, b, c])) = xs[0]? := hf 0 _ rfl
  rw [cells_int1, h0] at e0
  obtain ⟨y1, h1⟩ := hx 1 (by omega)
  have e1 : DataW.trod enc Try.prog w base spare held n 4 (List.take (Try.prog.cellsOf 4) (List.drop 1 [a, b, c])) = xs[1]? := hf 1 _ rfl
  rw [cells_bool, h1] at e1
  obtain ⟨y2, h2⟩ := hx 2 (by omega)
  have e2 : DataW.trod enc Try.prog w base spare held n 53 (List.take (Try.prog.cellsOf 53) (List.drop 2 [a, b, c])) = xs[2]? := hf 2 _ rfl
  rw [cells_u64s, h2] at e2
  obtain ⟨d0, q0, _, w0⟩ := DataW.trod_int Try.underlying3 e0
  have r0 := i64_range w0
  obtain rfl : a = _ := List.head_eq_of_cons_eq q0
  obtain ⟨d1, q1, _⟩ := DataW.trod_bool Try.underlying4 e1
  obtain rfl : b = _ := List.head_eq_of_cons_eq q1
  obtain ⟨v, zs, hv, hR, hz⟩ := open_nums Try.underlying53 Try.underlying48 cells_u64 e2
  obtain rfl : c = v := List.head_eq_of_cons_eq hv
  obtain ⟨A, m, k, rfl⟩ := slice_shape Try.underlying53 e2
  obtain ⟨l, hl, hb⟩ := nats_of (fun n => u64_range) zs hz
  rw [hl] at hR
  exact ⟨(⟨d0, d1, l⟩, ⟨A, m, k⟩), rfl, hR, r0.1, r0.2, hb⟩

theorem open_wd {H : Type} {enc : TypeId × Value → H} {w : World} {base : Nat} {spare : Nat → Bool} {held : Bool} {fuel : Nat} {cs : List Value} {x : DataW H × List MemPlace} (h : DataW.trod enc Try.prog w base spare held fuel 29 cs = some x) : ∃ s : WH, cs = wdc s ∧ RdW w s ∧ Kinds s.x := by
  obtain ⟨xs, n, rfl, rfl, hcs, hxs, hf⟩ := DataW.trod_struct Try.underlying29 h
  rw [cells_wd] at hcs
  obtain ⟨a, b, c, d, e, f, g, o, rfl⟩ := len8 hcs
  have hx : ∀ i, i < 8 → ∃ y, xs[i]? = some y := fun i hi => ⟨_, List.getElem?_eq_getElem (by rw [hxs]; exact hi)⟩
  obtain ⟨y0, h0⟩ := hx 0 (by omega)
  have e0 : DataW.trod enc Try.prog w base spare held n 3 (List.take (Try.prog.cellsOf 3) (List.drop 0 [a, b, c, d, e, f, g, o])) = xs[0]? := hf 0 _ rfl
  rw [cells_int1, h0] at e0
  obtain ⟨y1, h1⟩ := hx 1 (by omega)
  have e1 : DataW.trod enc Try.prog w base spare held n 3 (List.take (Try.prog.cellsOf 3) (List.drop 1 [a, b, c, d, e, f, g, o])) = xs[1]? := hf 1 _ rfl
  rw [cells_int1, h1] at e1
  obtain ⟨y2, h2⟩ := hx 2 (by omega)
  have e2 : DataW.trod enc Try.prog w base spare held n 22 (List.take (Try.prog.cellsOf 22) (List.drop 2 [a, b, c, d, e, f, g, o])) = xs[2]? := hf 2 _ rfl
  rw [cells_errno, h2] at e2
  obtain ⟨y3, h3⟩ := hx 3 (by omega)
  have e3 : DataW.trod enc Try.prog w base spare held n 23 (List.take (Try.prog.cellsOf 23) (List.drop 3 [a, b, c, d, e, f, g, o])) = xs[3]? := hf 3 _ rfl
  rw [cells_cds, h3] at e3
  obtain ⟨y4, h4⟩ := hx 4 (by omega)
  have e4 : DataW.trod enc Try.prog w base spare held n 24 (List.take (Try.prog.cellsOf 24) (List.drop 4 [a, b, c, d, e, f, g, o])) = xs[4]? := hf 4 _ rfl
  rw [cells_pps, h4] at e4
  obtain ⟨y5, h5⟩ := hx 5 (by omega)
  have e5 : DataW.trod enc Try.prog w base spare held n 25 (List.take (Try.prog.cellsOf 25) (List.drop 5 [a, b, c, d, e, f, g, o])) = xs[5]? := hf 5 _ rfl
  rw [cells_u32s, h5] at e5
  obtain ⟨y6, h6⟩ := hx 6 (by omega)
  have e6 : DataW.trod enc Try.prog w base spare held n 26 (List.take (Try.prog.cellsOf 26) (List.drop 6 [a, b, c, d, e, f, g, o])) = xs[6]? := hf 6 _ rfl
  rw [cells_ints, h6] at e6
  obtain ⟨y7, h7⟩ := hx 7 (by omega)
  have e7 : DataW.trod enc Try.prog w base spare held n 27 (List.take (Try.prog.cellsOf 27) (List.drop 7 [a, b, c, d, e, f, g, o])) = xs[7]? := hf 7 _ rfl
  rw [cells_oos, h7] at e7
  obtain ⟨d0, q0, _, w0⟩ := DataW.trod_int Try.underlying3 e0
  have r0 := i64_range w0
  obtain rfl : a = _ := List.head_eq_of_cons_eq q0
  obtain ⟨d1, q1, _, w1⟩ := DataW.trod_int Try.underlying3 e1
  have r1 := i64_range w1
  obtain rfl : b = _ := List.head_eq_of_cons_eq q1
  obtain ⟨d2, q2, _, w2⟩ := DataW.trod_int Try.underlying22 e2
  have r2 := i64_range w2
  obtain rfl : c = _ := List.head_eq_of_cons_eq q2
  obtain ⟨A3, m3, c3, rfl⟩ := slice_shape Try.underlying23 e3
  obtain ⟨A4, m4, c4, rfl⟩ := slice_shape Try.underlying24 e4
  obtain ⟨A5, m5, c5, rfl⟩ := slice_shape Try.underlying25 e5
  obtain ⟨A6, m6, c6, rfl⟩ := slice_shape Try.underlying26 e6
  obtain ⟨A7, m7, c7, rfl⟩ := slice_shape Try.underlying27 e7
  obtain ⟨l3, hR3, hQ3⟩ := open_list (w := w) cdc _ (by decide) Try.underlying23 cells_cd (fun _ => rfl) open_cd e3
  obtain ⟨l4, hR4, hQ4⟩ := open_list (w := w) ppc _ (by decide) Try.underlying24 cells_pp (fun _ => rfl) open_pp e4
  obtain ⟨v5, z5, hv5, hR5, hz5⟩ := open_nums Try.underlying25 Try.underlying63 cells_u32 e5
  obtain rfl : .slice A5 m5 c5 = v5 := List.head_eq_of_cons_eq hv5
  obtain ⟨l5, hl5, hb5⟩ := nats_of (fun n => u32_range) z5 hz5
  rw [hl5] at hR5
  obtain ⟨v6, z6, hv6, hR6, hz6⟩ := open_nums Try.underlying26 Try.underlying3 cells_int1 e6
  obtain rfl : .slice A6 m6 c6 = v6 := List.head_eq_of_cons_eq hv6
  obtain ⟨l7, hR7, hQ7⟩ := open_list (w := w) ooc _ (by decide) Try.underlying27 cells_oo (fun _ => rfl) open_oo e7
  refine ⟨⟨d0, d1, d2, l3, l4, l5, z6, l7, ⟨A3, m3, c3⟩, ⟨A4, m4, c4⟩, ⟨A5, m5, c5⟩, ⟨A6, m6, c6⟩, ⟨A7, m7, c7⟩⟩, rfl, ⟨hR3, hR4, fun y hy => (hQ4 y hy).1, hR5, hR6, hR7, fun y hy => (hQ7 y hy).1⟩, ⟨r0, r1, r2, hQ3, fun y hy => ?_, hb5, fun y hy => i64_range (hz6 y hy), fun y hy => ?_⟩⟩
  · obtain ⟨u, hu, rfl⟩ := List.mem_map.1 hy
    exact (hQ4 u hu).2
  · obtain ⟨u, hu, rfl⟩ := List.mem_map.1 hy
    exact (hQ7 u hu).2

end Go.Proofs.Ytbcaooiphalkoaa
