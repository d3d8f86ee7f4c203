/-
  Road: walks, more.
-/
import Derived.Test.YtpgjmbppbckojaaRoad
set_option linter.unusedVariables false
namespace Go.Proofs.Ytpgjmbppbckojaa
open Go Go.RowKit

theorem road_form {w w0 : World} {M : Nat → Prop} {b : Nat} {sv : Value} {ds : List RL} (hR : At w0 M (road b sv ds) w) : ∃ A m c, sv = .slice A m c ∧ ds.length = m := by
  obtain ⟨A, m, c, rfl⟩ := (hR.row 0 rfl).slice
  refine ⟨A, m, c, rfl, ?_⟩
  obtain ⟨_, _, _, he, h, _⟩ := hR.row 0 rfl
  injection he with _ h1 h2
  rw [flat_len] at h
  omega


theorem letter_cells {w : World} {g m c i : Nat} {ds : List RL} {x : RL} (h : Rd w 4 (.slice (some ⟨g, 0, none⟩) m c) (flat ds)) (hx : ds[i]? = some x) : ∀ j v, (rlc x)[j]? = some v → w.cell? ⟨g, 0 + (i : Int).toNat * 4 + j, none⟩ = some v := by
  intro j v hj
  have := h.cells (flat_cell hx hj)
  simpa [Nat.add_assoc] using this


theorem Rd.mono {w w1 w0 : World} {M : Nat → Prop} {R : List Ch} {s : Nat} {v : Value} {xs : List Value} (h : Rd w s v xs) (_ : At w0 M R w) (hA : At w No [] w1) : Rd w1 s v xs := h.old hA

theorem c_twin {w : World} {b : Nat} {sv : Value} {ds : List RL} {n : Int} (hsm : ds.length ≤ 1000) (hl : ∀ x ∈ ds, x.l.length ≤ 140737488355328) (hR : At w (SS (road b sv ds)) (road b sv ds) w) :
    Calls Try.prog 12 #[.pointer (some ⟨b, 0, none⟩), .int .i64 n] w fun e w' => ∃ v, e = .returned v ∧ ((¬ (0 ≤ n ∧ n < (ds.length : Int)) ∧ v = .int .i64 7 ∧ At w (SS (road b sv ds)) (road b sv ds) w') ∨
      ∃ (i : Nat) (x : RL), n = i ∧ ds[i]? = some x ∧ ((512 ≤ ds.length ∧ v = .int .i64 6 ∧ At w (SS (road b sv ds)) (road b sv ds) w') ∨
        (ds.length < 512 ∧ v = .int .i64 0 ∧ ∃ sv' A m c, At w (SS (road b sv ds)) (road b sv' (ds ++ [⟨x.d, x.k, x.t, A, m, c, x.l⟩])) w'))) := by
  obtain ⟨A, m, c, rfl, hm⟩ := road_form hR
  rw [hm]
  have hcell : w.cell? ⟨b, 0, none⟩ = some (.slice A m c) := hR.c 1 rfl rfl
  refine body_in (n := 22) (l := [.pointer (some ⟨b, 0, none⟩), .int .i64 n]) en12 rfl Try.ntmps12 rfl ?_
  have hA := At.refl w
  refine W_seq ?_
  refine W_reg ?_ -- 0 road.go:67
  refine o_assign (v := .int _ _) rfl ?_
  refine O_end ?_
  refine W_seq ?_
  refine W_seq ?_
  refine W_reg ?_ -- 1 road.go:68
  refine o_move (v := .pointer _) rfl ?_
  refine o_move (v := .int _ _) rfl ?_
  refine O_calls en16 rfl (c_at (hA.cell hcell id)) (fun v1 w1 hC => ?_)
  obtain ⟨rfl, hC⟩ := hC
  have hA := hA.more hC
  refine o_assign (v := .int _ _) rfl ?_
  refine O_end ?_
  refine W_seq ?_
  refine W_reg ?_ -- 2 road.go:68
  refine o_move (v := .int _ _) rfl ?_
  refine o_cmp2 rfl rfl rfl (fun h => ?_) (fun h => ?_)
  · -- True
    refine O_end ?_
    refine W_then rfl ?_
    refine W_seq ?_
    refine W_reg ?_ -- 3 road.go:69
    refine o_move (v := .int _ _) rfl ?_
    refine o_assign (v := .int _ _) rfl ?_
    refine O_end ?_
    refine W_ret ?_
    refine ⟨rfl, ?_⟩
    refine ret1 Try.results12 (v := .int _ _) rfl ?_
    have hn : ¬ (0 ≤ n ∧ n < (m : Int)) := fun hn => by rw [if_pos hn] at h; cases h
    exact .inl ⟨hn, by rw [if_neg hn], hR.more hA⟩
  · -- False
    have hn : 0 ≤ n ∧ n < (m : Int) := by
      refine Classical.byContradiction fun hn => ?_
      rw [if_neg hn] at h
      cases h
    obtain ⟨i, rfl⟩ := Int.eq_ofNat_of_zero_le hn.1
    have hi : i < ds.length := by omega
    obtain ⟨x, hx⟩ : ∃ x, ds[i]? = some x := ⟨_, List.getElem?_eq_getElem hi⟩
    obtain ⟨g, rfl⟩ := row_some (hR.row 0 rfl) (by omega)
    subst hm
    refine O_end ?_
    refine W_else rfl ?_
    refine W_skip ?_
    refine W_seq ?_
    refine W_reg ?_ -- 4 road.go:71
    refine o_move (v := .pointer _) rfl ?_
    refine o_move (v := .pointer _) rfl ?_
    refine o_nilCheck rfl ?_
    refine o_fieldAddr fo49_0 rfl rfl ?_
    refine o_fieldAddr fo47_0 rfl rfl ?_
    refine o_load1 ag26 rfl (hA.cell hcell id) ?_
    refine o_move (v := .int _ _) rfl ?_
    refine o_index Try.underlying26 ti29 rfl rfl (by omega) (by omega) ?_
    refine o_loadN ag29 ti29 rfl (cs := rlc x) rfl (letter_cells ((hR.rd 0 rfl).mono hR hA) hx) ?_
    refine O_calls en9 rfl (c_send hsm ((hR.more hA).own1) ((hR.more hA).rd (i + 2) (road_data hx)) (hl x (List.mem_of_getElem? hx))) (fun v2 w2 hC => ?_)
    refine o_assign (by conv => lhs; whnf) ?_
    refine O_end ?_
    refine W_ret ?_
    refine ⟨rfl, ?_⟩
    refine ret1 Try.results12 (by conv => lhs; whnf) ?_
    refine .inr ⟨i, x, rfl, hx, ?_⟩
    rcases hC with ⟨h1, rfl, hC⟩ | ⟨h1, rfl, sv', A', m', c', hC⟩
    · exact .inl ⟨h1, rfl, (hR.more hA).trans1 hC⟩
    · exact .inr ⟨h1, rfl, sv', A', m', c', (hR.more hA).trans1 hC⟩

theorem c_new {w : World} : Calls Try.prog 7 #[] w fun e w' => ∃ v, e = .returned v ∧ ∃ b sv, v = .pointer (some ⟨b, 0, none⟩) ∧ At w No (road b sv []) w' := by
  refine body_in (n := 3) (l := []) en7 rfl Try.ntmps7 rfl ?_
  have hA := At.refl w
  refine W_seq ?_
  refine W_reg ?_ -- 0 road.go:27
  refine o_assign (v := .pointer _) rfl ?_
  refine O_end ?_
  refine W_seq ?_
  refine W_reg ?_ -- 1 road.go:27
  refine o_build la49 rfl rfl ?_
  refine o_box hA (by conv => lhs; whnf) rfl (fun b1 w1 hA => ?_)
  refine o_assign (v := .pointer _) rfl ?_
  refine O_end ?_
  refine W_ret ?_
  refine ⟨rfl, ?_⟩
  refine ret1 Try.results7 (v := .pointer _) rfl ?_
  exact ⟨_, _, rfl, hA.nilRow 29 4 none⟩

theorem c_bend {w : World} {b : Nat} {sv : Value} {ds : List RL} {n bit : Int} (hsm : ds.length ≤ 1000) (hl : ∀ x ∈ ds, x.l.length ≤ 140737488355328) (hR : At w (SS (road b sv ds)) (road b sv ds) w) :
    Calls Try.prog 13 #[.pointer (some ⟨b, 0, none⟩), .int .i64 n, .int .i64 bit] w fun e w' => ∃ v, e = .returned v ∧ ((¬ (0 ≤ n ∧ n < (ds.length : Int)) ∧ v = .int .i64 7 ∧ At w (SS (road b sv ds)) (road b sv ds) w') ∨
      ∃ (i : Nat) (x : RL), n = i ∧ ds[i]? = some x ∧ ((x.t = true ∧ v = .int .i64 17 ∧ At w (SS (road b sv ds)) (road b sv ds) w') ∨ (x.t = false ∧ ¬ (0 ≤ bit ∧ bit < 8 * (x.l.length : Int)) ∧ v = .int .i64 4 ∧ At w (SS (road b sv ds)) (road b sv ds) w') ∨
        (x.t = false ∧ ∃ q : Nat, bit = q ∧ q < 8 * x.l.length ∧ v = .int .i64 0 ∧ At w (SS (road b sv ds)) (road b sv (ds.set i { x with t := true, l := flipB x.l q })) w'))) := by
  obtain ⟨A, m, c, rfl, hm⟩ := road_form hR
  rw [hm]
  have hcell : w.cell? ⟨b, 0, none⟩ = some (.slice A m c) := hR.c 1 rfl rfl
  refine body_in (n := 56) (l := [.pointer (some ⟨b, 0, none⟩), .int .i64 n, .int .i64 bit]) en13 rfl Try.ntmps13 rfl ?_
  have hA := At.refl w
  refine W_seq ?_
  refine W_reg ?_ -- 0 road.go:75
  refine o_assign (v := .int _ _) rfl ?_
  refine O_end ?_
  refine W_seq ?_
  refine W_seq ?_
  refine W_reg ?_ -- 1 road.go:76
  refine o_move (v := .pointer _) rfl ?_
  refine o_move (v := .int _ _) rfl ?_
  refine O_calls en16 rfl (c_at (hA.cell hcell id)) (fun v1 w1 hC => ?_)
  obtain ⟨rfl, hC⟩ := hC
  have hA := hA.more hC
  refine o_assign (v := .int _ _) rfl ?_
  refine O_end ?_
  refine W_seq ?_
  refine W_reg ?_ -- 2 road.go:76
  refine o_move (v := .int _ _) rfl ?_
  refine o_cmp2 rfl rfl rfl (fun h => ?_) (fun h => ?_)
  · -- True
    refine O_end ?_
    refine W_then rfl ?_
    refine W_seq ?_
    refine W_reg ?_ -- 3 road.go:77
    refine o_move (v := .int _ _) rfl ?_
    refine o_assign (v := .int _ _) rfl ?_
    refine O_end ?_
    refine W_ret ?_
    refine ⟨rfl, ?_⟩
    refine ret1 Try.results13 (v := .int _ _) rfl ?_
    have hn : ¬ (0 ≤ n ∧ n < (m : Int)) := fun hn => by rw [if_pos hn] at h; cases h
    exact .inl ⟨hn, by rw [if_neg hn], hR.more hA⟩
  · -- False
    have hn : 0 ≤ n ∧ n < (m : Int) := by
      refine Classical.byContradiction fun hn => ?_
      rw [if_neg hn] at h
      cases h
    obtain ⟨i, rfl⟩ := Int.eq_ofNat_of_zero_le hn.1
    have hi : i < ds.length := by omega
    obtain ⟨x, hx⟩ : ∃ x, ds[i]? = some x := ⟨_, List.getElem?_eq_getElem hi⟩
    obtain ⟨g, rfl⟩ := row_some (hR.row 0 rfl) (by omega)
    subst hm
    obtain ⟨xd, xk, xt, xA, xm, xc, xl⟩ := x
    have hDr : IsRow w 5 1 (.slice xA xm xc) (u8s xl) := hR.row (i + 2) (road_data hx)
    have hD := hDr.rd
    have hxl := hl _ (List.mem_of_getElem? hx)
    have hxm : xl.length = xm := by
      obtain ⟨_, _, _, he, h, _⟩ := hDr
      injection he with _ h1 h2
      rw [u8s_len] at h
      omega
    have hxl : xl.length ≤ 140737488355328 := hxl
    refine O_end ?_
    refine W_else rfl ?_
    refine W_skip ?_
    refine W_seq ?_
    refine W_reg ?_ -- 4 road.go:79
    refine o_move (v := .pointer _) rfl ?_
    refine o_nilCheck rfl ?_
    refine o_fieldAddr fo49_0 rfl rfl ?_
    refine o_fieldAddr fo47_0 rfl rfl ?_
    refine o_load1 ag26 rfl (hA.cell hcell id) ?_
    refine o_move (v := .int _ _) rfl ?_
    refine o_index Try.underlying26 ti29 rfl rfl (by omega) (by omega) ?_
    refine o_assign (v := .pointer _) rfl ?_
    refine O_end ?_
    refine W_seq ?_
    refine W_block ?_ -- 0
    refine W_seq ?_
    refine W_reg ?_ -- 5 road.go:81
    refine o_move (v := .pointer _) rfl ?_
    refine o_nilCheck rfl ?_
    refine o_fieldAddr fo29_2 rfl rfl ?_
    refine o_load1 ag4 rfl (letter_cells ((hR.rd 0 rfl).mono hR hA) hx 2 (.bool xt) rfl) ?_
    refine o_assign (v := .bool _) rfl ?_
    refine O_end ?_
    refine W_if rfl (fun hc => ?_) (fun hc => ?_)
    ·
      refine W_seq ?_
      refine W_reg ?_ -- 6 road.go:82
      refine o_assign (v := .int _ _) rfl ?_
      refine O_end ?_
      refine W_ret ?_
      refine xb_ret ?_
      refine ⟨rfl, ?_⟩
      refine ret1 Try.results13 (v := .int _ _) rfl ?_
      exact .inr ⟨i, _, rfl, hx, .inl ⟨hc, rfl, hR.more hA⟩⟩
    ·
      refine W_seq ?_
      refine W_reg ?_ -- 7 road.go:83
      refine o_move (v := .int _ _) rfl ?_
      refine o_cmp2 rfl rfl rfl (fun h => ?_) (fun h => ?_)
      · -- True
        refine o_move (v := .bool _) rfl ?_
        refine O_no rfl rfl rfl rfl ?_
        refine O_no rfl rfl rfl rfl ?_
        refine O_no rfl rfl rfl rfl ?_
        refine O_no rfl rfl rfl rfl ?_
        refine O_no rfl rfl rfl rfl ?_
        refine O_no rfl rfl rfl rfl ?_
        refine O_no rfl rfl rfl rfl ?_
        refine O_no rfl rfl rfl rfl ?_
        refine o_pick_t rfl (v := .bool _) rfl ?_
        refine o_assign (v := .bool _) rfl ?_
        refine O_end ?_
        refine W_then rfl ?_
        refine W_seq ?_
        refine W_reg ?_ -- 8 road.go:84
        refine o_assign (v := .int _ _) rfl ?_
        refine O_end ?_
        refine W_ret ?_
        refine xb_ret ?_
        refine ⟨rfl, ?_⟩
        refine ret1 Try.results13 (v := .int _ _) rfl ?_
        exact .inr ⟨i, _, rfl, hx, .inr (.inl ⟨hc, by show ¬ (0 ≤ bit ∧ bit < 8 * (xl.length : Int)); simp at h; omega, rfl, hR.more hA⟩)⟩
      · -- False
        refine o_move (v := .bool _) rfl ?_
        refine O_yes rfl rfl rfl ?_
        refine o_move (v := .int _ _) rfl ?_
        refine O_yes rfl rfl rfl ?_
        refine o_move (v := .pointer _) rfl ?_
        refine O_yes rfl rfl rfl ?_
        refine o_nilCheck rfl ?_
        refine O_yes rfl rfl rfl ?_
        refine o_fieldAddr fo29_3 rfl rfl ?_
        refine O_yes rfl rfl rfl ?_
        refine o_load1 ag27 rfl (letter_cells ((hR.rd 0 rfl).mono hR hA) hx 3 (.slice xA xm xc) rfl) ?_
        refine O_yes rfl rfl rfl ?_
        refine o_len Try.underlying27 rfl ?_
        refine O_yes rfl rfl rfl ?_
        refine o_mul rfl rfl (w64 rfl (by omega) (by omega)) ?_
        refine O_yes rfl rfl rfl ?_
        refine o_cmp2 rfl rfl rfl (fun h => ?_) (fun h => ?_)
        · -- True
          refine o_pick_f rfl (v := .bool _) rfl ?_
          refine o_assign (v := .bool _) rfl ?_
          refine O_end ?_
          refine W_then rfl ?_
          refine W_seq ?_
          refine W_reg ?_ -- 8 road.go:84
          refine o_assign (v := .int _ _) rfl ?_
          refine O_end ?_
          refine W_ret ?_
          refine xb_ret ?_
          refine ⟨rfl, ?_⟩
          refine ret1 Try.results13 (v := .int _ _) rfl ?_
          exact .inr ⟨i, _, rfl, hx, .inr (.inl ⟨hc, by show ¬ (0 ≤ bit ∧ bit < 8 * (xl.length : Int)); simp at h; omega, rfl, hR.more hA⟩)⟩
        · -- False
          refine o_pick_f rfl (v := .bool _) rfl ?_
          refine o_assign (v := .bool _) rfl ?_
          refine O_end ?_
          refine W_else rfl ?_
          have hb0 : 0 ≤ bit := by simp at *; omega
          obtain ⟨q, rfl⟩ := Int.eq_ofNat_of_zero_le hb0
          have hq : q < 8 * xm := by simp at h; omega
          have hq8 : q / 8 < xl.length := by omega
          obtain ⟨g2, rfl⟩ := row_some hDr (by omega)
          refine W_skip ?_
          refine W_seq ?_
          refine W_drawA hA [3, 7] mix rfl rfl (fun w0_9 hA => ?_) -- 9 road.go:86
          refine D_take 0 rfl (by kernel_rfl) (by rintro _ _ _ ⟨h, _⟩; cases h) rfl (fun h => by cases h) (fun w hA => r_move (v := .pointer _) rfl) ?_
          refine D_take 1 rfl (by kernel_rfl) (by rintro _ _ _ ⟨h, _⟩; cases h) rfl (fun h => by cases h) (fun w hA => r_nilCheck rfl) ?_
          refine D_take 2 rfl (by kernel_rfl) (by rintro _ _ _ ⟨h, _⟩; cases h) rfl (fun h => by cases h) (fun w hA => r_fieldAddr fo29_3 rfl rfl) ?_
          refine D_take 3 rfl (by kernel_rfl) (by rintro _ _ _ ⟨h, _⟩; cases h) rfl (fun _ => hA) (fun w hA => r_load1 ag27 rfl (letter_cells ((hR.rd 0 rfl).mono hR (hA rfl)) hx 3 (.slice (some ⟨g2, 0, none⟩) xm xc) rfl)) ?_
          refine D_take 4 rfl (by kernel_rfl) (by rintro _ _ _ ⟨h, _⟩; cases h) rfl (fun h => by cases h) (fun w hA => r_move (v := .int _ _) rfl) ?_
          refine D_take 5 rfl (by kernel_rfl) (by rintro _ _ _ ⟨h, _⟩; cases h) rfl (fun h => by cases h) (fun w hA => r_quo rfl rfl (by decide) (w64r (show Int.tdiv (q : Int) 8 = ((q / 8 : Nat) : Int) from rfl) (by omega) (by omega))) ?_
          refine D_take 6 rfl (by kernel_rfl) (by rintro _ _ _ ⟨h, _⟩; cases h) rfl (fun h => by cases h) (fun w hA => r_index Try.underlying27 ti5 rfl rfl (by omega) (by omega)) ?_
          refine D_take 7 rfl (by kernel_rfl) (by rintro _ _ _ ⟨h, _⟩; cases h) rfl (fun _ => hA) (fun w hA => r_load1 ag5 rfl ((hD.mono hR (hA rfl)).cells (j := ((q / 8 : Nat) : Int).toNat * 1) (by rw [Nat.mul_one]; exact u8s_get (by omega)))) ?_
          refine D_take 8 rfl (by kernel_rfl) (by rintro _ _ _ ⟨h, _⟩; cases h) rfl (fun h => by cases h) (fun w hA => r_move (v := .int _ _) rfl) ?_
          refine D_take 9 rfl (by kernel_rfl) (by rintro _ _ _ ⟨h, _⟩; cases h) rfl (fun h => by cases h) (fun w hA => r_rem rfl rfl (by decide) (show Int.tmod (q : Int) 8 = ((q % 8 : Nat) : Int) from rfl)) ?_
          refine D_take 10 rfl (by kernel_rfl) (by rintro _ _ _ ⟨h, _⟩; cases h) rfl (fun h => by cases h) (fun w hA => r_shl rfl rfl (by omega) rfl) ?_
          refine D_take 11 rfl (by kernel_rfl) (by rintro _ _ _ ⟨h, _⟩; cases h) rfl (fun h => by cases h) (fun w hA => r_bits (by simp) rfl rfl rfl) ?_
          refine D_take 12 rfl (by kernel_rfl) (by rintro _ _ _ ⟨h, _⟩; cases h) rfl (fun h => by cases h) (fun w hA => r_index Try.underlying27 ti5 rfl rfl (by omega) (by omega)) ?_
          refine D_run 13 (by kernel_rfl) rfl rfl ?_
          have hA := hR.more hA
          refine o_storeRow (i := i + 2) (xs' := u8s (flipB xl q)) hA rfl (by conv => lhs; whnf) (road_data hx) ti5 rfl rfl (by rw [u8s_len]; show 0 + q / 8 * 1 + 1 ≤ xl.length; omega) rfl (by rw [show 0 + ((q / 8 : Nat) : Int).toNat * 1 = q / 8 from (by rw [Nat.zero_add, Nat.mul_one]; rfl)]; exact (set_parts _ _ _ (by rw [u8s_len]; exact hq8)).trans (flip_cells hq8)) (fun w2 hA => ?_)
          refine O_end ⟨(fun h _ => noNeed (by kernel_rfl) h), ?_⟩
          refine D_done (by kernel_rfl) ?_
          refine W_seq ?_
          refine W_reg ?_ -- 10 road.go:87
          refine o_move (v := .pointer _) rfl ?_
          refine o_nilCheck rfl ?_
          refine o_fieldAddr fo29_2 rfl rfl ?_
          refine o_storeRow (i := 0) (xs' := flat (ds.set i ⟨xd, xk, true, some ⟨g2, 0, none⟩, xm, xc, flipB xl q⟩)) hA rfl (by conv => lhs; whnf) rfl ti4 rfl rfl (by rw [flat_len]; simp; omega) rfl (by rw [show 0 + (i : Int).toNat * 4 + 2 = i * 4 + 2 from by simp]; exact (set_parts _ _ _ (by rw [flat_len]; omega)).trans (flat_set ds i 2 _ _ _ hx (by omega) rfl)) (fun w3 hA => ?_)
          refine O_end ?_
          refine W_seq ?_
          refine W_reg ?_ -- 11 road.go:88
          refine o_assign (v := .int _ _) rfl ?_
          refine O_end ?_
          refine W_ret ?_
          refine ⟨rfl, ?_⟩
          refine ret1 Try.results13 (v := .int _ _) rfl ?_
          exact .inr ⟨i, _, rfl, hx, .inr (.inr ⟨hc, q, rfl, by show q < 8 * xl.length; omega, rfl, by rw [← road_bent (xs := [])]; exact hA⟩)⟩

end Go.Proofs.Ytpgjmbppbckojaa
