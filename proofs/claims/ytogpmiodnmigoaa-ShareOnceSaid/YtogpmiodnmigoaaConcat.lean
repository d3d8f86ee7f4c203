/-
  slices.Grow (of nothing), slices.Concat.
-/
import Derived.Test.YtogpmiodnmigoaaZeros
import Derived.Test.YtogpmiodnmigoaaPoly
set_option linter.unusedVariables false
set_option linter.unusedSimpArgs false
namespace Go.Proofs.Ytogpmiodnmigoaa
open Go Go.RowKit

/-- Lists one behind the other. -/
def catP (ps : List (Value × List Nat)) : List Nat := ps.flatMap (·.2)
theorem catP_step {ps : List (Value × List Nat)} {j : Nat} {x : Value × List Nat} (hx : ps[j]? = some x) : catP (ps.take (j + 1)) = catP (ps.take j) ++ x.2 := by simp [catP, List.take_add_one, hx]
theorem catP_le (ps : List (Value × List Nat)) (j : Nat) : (catP (ps.take j)).length ≤ (catP ps).length := by
  have : catP ps = catP (ps.take j) ++ catP (ps.drop j) := by
    unfold catP; rw [← List.flatMap_append, List.take_append_drop]
  rw [this, List.length_append]; omega

theorem s_grow {w : World} {q : Nat} (hq : 0 < q) (hq2 : q ≤ 1000000) : Calls Try.prog 44 #[.slice none 0 0, .int .i64 (q : Int)] w fun e w' => ∃ v, e = .returned v ∧ (At w No [Row 22 1 v []] w') := by
  refine body_in (n := 27) (l := [.slice none 0 0, .int .i64 (q : Int)]) en44 rfl Try.ntmps44 rfl ?_
  have hA := At.refl w
  refine W_seq ?_
  refine W_reg ?_ -- 0 slices.go:422
  refine o_assign (by conv => lhs; whnf) ?_
  refine O_end ?_
  refine W_seq ?_
  refine W_seq ?_
  refine W_reg ?_ -- 1 slices.go:423
  refine o_move (v := .int _ _) rfl ?_
  refine o_cmp2 rfl rfl rfl (fun h => by simp at h; omega) (fun h => ?_)
  have q6 := of_decide_eq_false h
  refine O_end ?_
  refine W_else rfl ?_
  refine W_skip ?_
  refine W_seq ?_
  refine W_seq ?_
  refine W_reg ?_ -- 3 slices.go:426
  refine o_move (v := .int _ _) rfl ?_
  refine o_move (by conv => lhs; whnf) ?_
  refine o_cap Try.underlying25 rfl ?_
  refine o_move (by conv => lhs; whnf) ?_
  refine o_len Try.underlying25 rfl ?_
  refine o_sub rfl rfl (w64 (r := 0) (by omega) (by omega) (by omega)) ?_
  refine o_sub rfl rfl (w64 (r := (q : Int)) (by omega) (by omega) (by omega)) ?_
  refine o_assign (v := .int _ _) rfl ?_
  refine O_end ?_
  refine W_seq ?_
  refine W_reg ?_ -- 4 slices.go:426
  refine o_move (v := .int _ _) rfl ?_
  refine o_cmp2 rfl rfl rfl (fun h => ?_) (fun h => by simp at h; omega)
  have q16 := of_decide_eq_true h
  refine O_end ?_
  refine W_then rfl ?_
  refine W_reg ?_ -- 5 slices.go:428
  refine o_move (by conv => lhs; whnf) ?_
  refine o_move (by conv => lhs; whnf) ?_
  refine o_cap Try.underlying25 rfl ?_
  refine o_slice Try.underlying25 ti22 rfl (.inl ⟨rfl, rfl⟩) (.inr ⟨_, rfl⟩) (.inl ⟨rfl, rfl⟩) (by simp) (Nat.le_refl _) (Nat.le_refl _) (Nat.le_refl _) ?_
  refine o_move (v := .int _ _) rfl ?_
  have hA := hA.nilRow 22 1 none
  refine o_appendz (i := 0) hA rfl rfl rfl Try.underlying25 Try.underlying3 ti22 rfl (by decide) rfl (by omega) (by omega) (fun A1 c1 w1 hA => ?_)
  refine o_move (by conv => lhs; whnf) ?_
  refine o_len Try.underlying25 rfl ?_
  refine o_slice Try.underlying25 ti22 rfl (.inl ⟨rfl, rfl⟩) (.inr ⟨_, rfl⟩) (.inl ⟨rfl, rfl⟩) (by simp) (Nat.le_refl _) (Nat.zero_le _) (Nat.le_refl _) ?_
  refine o_assign (by conv => lhs; whnf) ?_
  refine O_end ?_
  refine W_seq ?_
  refine W_reg ?_ -- 6 slices.go:430
  refine o_move (by conv => lhs; whnf) ?_
  refine o_assign (by conv => lhs; whnf) ?_
  refine O_end ?_
  refine W_ret ?_
  refine ⟨rfl, ?_⟩
  refine ret1 Try.results44 (by conv => lhs; whnf) ?_
  have hrow := (hA.row 0 rfl).head (h := 0) (mm := c1) (Nat.le_refl _) (Nat.zero_le _) (by omega)
  rw [Nat.zero_mul, List.take_zero] at hrow
  exact hA.turn hrow fun b hb => cut_blk (Nat.le_refl _) (Nat.zero_le _) hb

theorem s_concat {w : World} {A : Option Addr} {m c : Nat} {ps : List (Value × List Nat)} (hR : Rd w 1 (.slice A m c) (ps.map (·.1))) (hps : ∀ p ∈ ps, Rd w 1 p.1 (u64s p.2)) (hpos : 0 < (catP ps).length) (hl : (catP ps).length ≤ 1000000) (hn : ps.length ≤ 1000000) : Calls Try.prog 24 #[.slice A m c] w fun e w' => ∃ v, e = .returned v ∧ (At w No [Row 22 1 v (u64s (catP ps))] w') := by
  obtain rfl : m = ps.length := by
    obtain ⟨_, _, _, he, h, _⟩ := id hR
    injection he with _ h1 h2
    rw [List.length_map] at h
    omega
  refine body_in (n := 36) (l := [.slice A ps.length c]) en24 rfl Try.ntmps24 rfl ?_
  have hA := At.refl w
  refine W_seq ?_
  refine W_reg ?_ -- 0 slices.go:491
  refine o_assign (by conv => lhs; whnf) ?_
  refine O_end ?_
  refine W_seq ?_
  refine W_reg ?_ -- 1 slices.go:492
  refine o_assign (v := .int _ _) rfl ?_
  refine O_end ?_
  refine W_seq ?_
  refine W_seq ?_
  refine W_reg ?_ -- 2 slices.go:493
  refine o_move (by conv => lhs; whnf) ?_
  refine o_len Try.underlying65 rfl ?_
  refine o_move (v := .int _ _) rfl ?_
  refine O_end ?_
  refine W_block ?_ -- 0
  refine W_loop (fun kk ρ w' => ∃ (j : Nat), kk = ps.length - j ∧ j ≤ ps.length ∧ ρ 11 = .int .i64 (j : Int) ∧ ρ 10 = .int .i64 (ps.length : Int) ∧ ρ 9 = .slice A ps.length c ∧ ρ 0 = .slice A ps.length c ∧ ρ 3 = .int .i64 ((catP (ps.take j)).length : Int) ∧ At w No [] w') ps.length
    ⟨0, by simp, Nat.zero_le _, rfl, rfl, rfl, rfl, rfl, hA⟩ ?_
  clear hA
  rintro kk ρ w1 ⟨j, rfl, hj, h11, h10, h9, h0, h3, hA⟩
  refine W_known (t := 11) h11 ?_
  refine W_known (t := 10) h10 ?_
  refine W_known (t := 9) h9 ?_
  refine W_known (t := 0) h0 ?_
  refine W_known (t := 3) h3 ?_
  refine W_seq ?_
  refine W_reg ?_ -- 3 slices.go:493
  refine o_cmp2 rfl rfl rfl (fun h => ?_) (fun h => ?_)
  · -- True
    have q12 := of_decide_eq_true h
    have hlt : j < ps.length := by have := of_decide_eq_true h; omega
    obtain ⟨x, hx⟩ : ∃ x, ps[j]? = some x := ⟨_, List.getElem?_eq_getElem hlt⟩
    obtain ⟨g0, o0, rfl⟩ := Rd.some hR (by rw [List.length_map]; omega)
    have hpx := hps x (List.mem_of_getElem? hx)
    obtain ⟨B, bm, bc, hB⟩ : ∃ B bm bc, x.1 = .slice B bm bc := by obtain ⟨B, bm, bc, hB, _⟩ := hpx; exact ⟨B, bm, bc, hB⟩
    rw [hB] at hpx
    obtain rfl := u64_len hpx
    have hct : catP (ps.take (j + 1)) = catP (ps.take j) ++ x.2 := catP_step hx
    have hcl : (catP (ps.take (j + 1))).length ≤ 1000000 := Nat.le_trans (catP_le ps (j + 1)) hl
    have hcl2 : (catP (ps.take (j + 1))).length = (catP (ps.take j)).length + x.2.length := by rw [hct, List.length_append]
    refine O_end ?_
    refine W_seq ?_
    refine W_then rfl ?_
    refine W_skip ?_
    refine W_seq ?_
    refine W_block ?_ -- 1
    refine W_seq ?_
    refine W_reg ?_ -- 4 slices.go:493
    refine o_index Try.underlying65 ti25 rfl rfl (by omega) (by omega) ?_
    refine o_load1 ag25 rfl ((hR.old hA).cells (j := (j : Int).toNat * 1) (u := .slice B x.2.length bc) (by rw [Nat.mul_one, Int.toNat_natCast, List.getElem?_map, hx, Option.map_some, hB])) ?_
    refine o_assign (by conv => lhs; whnf) ?_
    refine O_end ?_
    refine W_seq ?_
    refine W_reg ?_ -- 5 slices.go:494
    refine o_move (v := .int _ _) rfl ?_
    refine o_move (by conv => lhs; whnf) ?_
    refine o_len Try.underlying25 rfl ?_
    refine o_add rfl rfl (w64 (r := ((catP (ps.take (j + 1))).length : Int)) (by omega) (by omega) (by omega)) ?_
    refine o_assign (v := .int _ _) rfl ?_
    refine O_end ?_
    refine W_seq ?_
    refine W_reg ?_ -- 6 slices.go:495
    refine o_move (v := .int _ _) rfl ?_
    refine o_cmp2 rfl rfl rfl (fun h => by simp at h; omega) (fun h => ?_)
    have q20 := of_decide_eq_false h
    refine O_end ?_
    refine W_else rfl ?_
    refine W_skip ?_
    refine W_reg ?_ -- 8 slices.go:493
    refine o_add rfl rfl (w64 (r := ((j + 1 : Nat) : Int)) (by omega) (by omega) (by omega)) ?_
    refine o_move (v := .int _ _) rfl ?_
    refine O_end ?_
    exact ⟨ps.length - (j + 1), by omega, j + 1, rfl, by omega, rfl, rfl, rfl, rfl, rfl, hA⟩
  · -- False
    have q12 := of_decide_eq_false h
    refine O_end ?_
    refine W_seq ?_
    refine W_else rfl ?_
    refine W_exit ?_
    refine xb_hit ?_
    refine W_seq ?_
    obtain rfl : j = ps.length := by have := of_decide_eq_false h; omega
    rw [List.take_length]
    refine W_reg ?_ -- 9 slices.go:502
    refine o_move (v := .int _ _) rfl ?_
    refine O_calls en44 rfl (s_grow (q := (catP ps).length) hpos hl) (fun v1 w1 hC => ?_)
    have hA := (hA.after hC).tail 0
    obtain ⟨GA, Gm, Gc, rfl⟩ := ((hA.row 0 rfl)).slice
    refine o_assign (by conv => lhs; whnf) ?_
    refine O_end ?_
    refine W_seq ?_
    refine W_seq ?_
    refine W_reg ?_ -- 10 slices.go:503
    refine o_move (by conv => lhs; whnf) ?_
    refine o_len Try.underlying65 rfl ?_
    refine o_move (v := .int _ _) rfl ?_
    refine O_end ?_
    refine W_block ?_ -- 2
    refine W_loop (fun kk ρ w' => ∃ (j : Nat) (OA : Option Addr) (Om Oc : Nat), kk = ps.length - j ∧ j ≤ ps.length ∧ ρ 27 = .int .i64 (j : Int) ∧ ρ 26 = .int .i64 (ps.length : Int) ∧ ρ 25 = .slice A ps.length c ∧ ρ 6 = .slice OA Om Oc ∧ At w No [Row 22 1 (.slice OA Om Oc) (u64s (catP (ps.take j)))] w') ps.length
      ⟨0, _, _, _, by simp, Nat.zero_le _, rfl, rfl, rfl, rfl, hA⟩ ?_
    clear hA
    rintro kk ρ w1 ⟨j, OA, Om, Oc, rfl, hj, h27, h26, h25, h6, hA⟩
    refine W_known (t := 27) h27 ?_
    refine W_known (t := 26) h26 ?_
    refine W_known (t := 25) h25 ?_
    refine W_known (t := 6) h6 ?_
    refine W_seq ?_
    refine W_reg ?_ -- 11 slices.go:503
    refine o_cmp2 rfl rfl rfl (fun h => ?_) (fun h => ?_)
    · -- True
      have q28 := of_decide_eq_true h
      have hlt : j < ps.length := by have := of_decide_eq_true h; omega
      obtain ⟨x, hx⟩ : ∃ x, ps[j]? = some x := ⟨_, List.getElem?_eq_getElem hlt⟩
      obtain ⟨g0, o0, rfl⟩ := Rd.some hR (by rw [List.length_map]; omega)
      have hpx := hps x (List.mem_of_getElem? hx)
      obtain ⟨B, bm, bc, hB⟩ : ∃ B bm bc, x.1 = .slice B bm bc := by obtain ⟨B, bm, bc, hB, _⟩ := hpx; exact ⟨B, bm, bc, hB⟩
      rw [hB] at hpx
      obtain rfl := u64_len hpx
      have hct : catP (ps.take (j + 1)) = catP (ps.take j) ++ x.2 := catP_step hx
      have hcl : (catP (ps.take (j + 1))).length ≤ 1000000 := Nat.le_trans (catP_le ps (j + 1)) hl
      have hcl2 : (catP (ps.take (j + 1))).length = (catP (ps.take j)).length + x.2.length := by rw [hct, List.length_append]
      refine O_end ?_
      refine W_seq ?_
      refine W_then rfl ?_
      refine W_skip ?_
      refine W_seq ?_
      refine W_block ?_ -- 3
      refine W_seq ?_
      refine W_reg ?_ -- 12 slices.go:503
      refine o_index Try.underlying65 ti25 rfl rfl (by omega) (by omega) ?_
      refine o_load1 ag25 rfl ((hR.old hA).cells (j := (j : Int).toNat * 1) (u := .slice B x.2.length bc) (by rw [Nat.mul_one, Int.toNat_natCast, List.getElem?_map, hx, Option.map_some, hB])) ?_
      refine o_assign (by conv => lhs; whnf) ?_
      refine O_end ?_
      refine W_reg ?_ -- 13 slices.go:504
      refine o_move (by conv => lhs; whnf) ?_
      refine o_move (by conv => lhs; whnf) ?_
      refine o_append (i := 0) hA rfl rfl rfl Try.underlying25 ti22 rfl (by decide) (hpx.old hA) (u64s_one _) (fun m k h1 h2 => by rw [u64s_len] at h1 h2; omega) (fun m k h1 h2 => by rw [u64s_len] at h1 h2; omega) (fun v2 w2 hA => ?_)
      obtain ⟨VA, Vm, Vc, rfl⟩ := ((hA.row 0 rfl)).slice
      refine o_assign (by conv => lhs; whnf) ?_
      refine O_end ?_
      refine W_reg ?_ -- 14 slices.go:503
      refine o_add rfl rfl (w64 (r := ((j + 1 : Nat) : Int)) (by omega) (by omega) (by omega)) ?_
      refine o_move (v := .int _ _) rfl ?_
      refine O_end ?_
      rw [← u64s_append, ← hct] at hA
      exact ⟨ps.length - (j + 1), by omega, j + 1, VA, Vm, Vc, rfl, by omega, rfl, rfl, rfl, rfl, hA⟩
    · -- False
      have q28 := of_decide_eq_false h
      refine O_end ?_
      refine W_seq ?_
      refine W_else rfl ?_
      refine W_exit ?_
      refine xb_hit ?_
      refine W_seq ?_
      refine W_reg ?_ -- 15 slices.go:506
      refine o_move (by conv => lhs; whnf) ?_
      refine o_assign (by conv => lhs; whnf) ?_
      refine O_end ?_
      refine W_ret ?_
      refine ⟨rfl, ?_⟩
      refine ret1 Try.results24 (by conv => lhs; whnf) ?_
      have hjl : j = ps.length := by have := of_decide_eq_false h; omega
      subst hjl
      rw [List.take_length] at hA
      exact hA

end Go.Proofs.Ytogpmiodnmigoaa
