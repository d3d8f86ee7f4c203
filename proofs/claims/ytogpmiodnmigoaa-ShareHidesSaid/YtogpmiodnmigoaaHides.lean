/-
  ShareHides answers true.
-/
import Derived.Test.YtogpmiodnmigoaaSharelaw
set_option linter.unusedVariables false
set_option linter.unusedSimpArgs false
namespace Go.Proofs.Ytogpmiodnmigoaa
open Go Go.RowKit

theorem otherE_range {s : Nat} {e : Int} {l : List Pt} (h : otherE s e l = 0) : 1 ≤ e ∧ e ≤ 64 ∧ (l.length : Int) = e - 1 := by
  unfold otherE at h
  split at h
  · cases h
  · omega

theorem l_hides {w : World} {A : Option Addr} {m c s : Nat} {e : Int} {l0 : List Pt} (hR : Rd w 2 (.slice A m c) (flatP l0)) (he0 : -9223372036854775808 ≤ e) (he1 : e ≤ 9223372036854775807) : Calls Try.prog 3 #[.int .u64 (s : Int), .int .i64 e, .slice A m c] w fun e w' => ∃ v, e = .returned v ∧ (v = .bool true ∧ At w No [] w') := by
  refine body_in (n := 93) (l := [.int .u64 (s : Int), .int .i64 e, .slice A m c]) en3 rfl Try.ntmps3 rfl ?_
  have hA := At.refl w
  refine W_seq ?_
  refine W_reg ?_ -- 0 law.go:109
  refine o_assign (v := .bool _) rfl ?_
  refine O_end ?_
  refine W_seq ?_
  refine W_reg ?_ -- 1 law.go:110
  refine o_move (by conv => lhs; whnf) ?_
  refine O_calls en5 rfl (c_some hR) (fun v1 w1 hC => ?_)
  obtain ⟨⟨LA, Lm, Lc, rfl⟩, hLR, hC⟩ := hC
  have hA := (hA.after hC).take
  obtain rfl := pt_len hLR
  generalize someL l0 = l at *
  refine o_assign (by conv => lhs; whnf) ?_
  refine O_end ?_
  refine W_seq ?_
  refine W_reg ?_ -- 2 law.go:111
  refine o_move (v := .int _ _) rfl ?_
  refine o_move (v := .int _ _) rfl ?_
  refine o_move (by conv => lhs; whnf) ?_
  refine O_calls en6 rfl (l_other (hLR.old hA) he0 he1) (fun v2 w2 hC => ?_)
  obtain ⟨u, rfl, hC⟩ := hC
  obtain ⟨UA, Um, Uc, rfl⟩ := (hC.row 0 rfl).slice
  obtain rfl := u64_len (hC.rd 0 rfl)
  have hA := hA.more hC
  refine o_move (by conv => lhs; whnf) ?_
  refine o_extract rfl rfl ?_
  refine o_extract rfl rfl ?_
  refine o_assign (by conv => lhs; whnf) ?_
  refine o_assign (v := .int _ _) rfl ?_
  refine O_end ?_
  refine W_seq ?_
  refine W_reg ?_ -- 3 law.go:112
  refine o_assign (v := .int _ _) rfl ?_
  refine O_end ?_
  refine W_seq ?_
  refine W_cut (fun ρ w' => ρ 0 = .int .u64 (s : Int) ∧ ρ 1 = .int .i64 e ∧ ρ 2 = .slice LA l.length Lc ∧ ρ 7 = .slice UA (otherL s e l).length Uc ∧ ρ 8 = .int .i64 (otherE s e l) ∧ ρ 9 = .int .i64 (otherE s e l) ∧ At w No [Row 22 1 (.slice UA (otherL s e l).length Uc) (u64s (otherL s e l))] w') ?_ ?_
  · -- up to the cut
    refine W_block ?_ -- 0
    refine W_seq ?_
    refine W_reg ?_ -- 4 law.go:114
    refine o_move (v := .int _ _) rfl ?_
    refine o_cmp2 rfl rfl rfl (fun h => ?_) (fun h => ?_)
    · -- True
      have q22 := of_decide_eq_true h
      refine o_move (v := .bool _) rfl ?_
      refine O_no rfl rfl rfl rfl ?_
      refine O_no rfl rfl rfl rfl ?_
      refine o_pick_t rfl (v := .bool _) rfl ?_
      refine o_move (v := .bool _) rfl ?_
      refine O_no rfl rfl rfl rfl ?_
      refine O_no rfl rfl rfl rfl ?_
      refine O_no rfl rfl rfl rfl ?_
      refine O_no rfl rfl rfl rfl ?_
      refine O_no rfl rfl rfl rfl ?_
      refine o_pick_t rfl (v := .bool _) rfl ?_
      refine o_assign (v := .bool _) rfl ?_
      refine O_end ?_
      refine W_then rfl ?_
      refine W_reg ?_ -- 5 law.go:115
      refine o_assign (v := .int _ _) rfl ?_
      refine O_end ?_
      exact ⟨rfl, rfl, rfl, rfl, rfl, by show Value.int _ _ = _; congr 1; rw [otherE, if_pos (by omega)], hA⟩
    · -- False
      have q22 := of_decide_eq_false h
      refine o_move (v := .bool _) rfl ?_
      refine O_yes rfl rfl rfl ?_
      refine o_move (v := .int _ _) rfl ?_
      refine O_yes rfl rfl rfl ?_
      refine o_cmp2 rfl rfl rfl (fun h => ?_) (fun h => ?_)
      · -- True
        have q25 := of_decide_eq_true h
        refine o_pick_f rfl (v := .bool _) rfl ?_
        refine o_move (v := .bool _) rfl ?_
        refine O_no rfl rfl rfl rfl ?_
        refine O_no rfl rfl rfl rfl ?_
        refine O_no rfl rfl rfl rfl ?_
        refine O_no rfl rfl rfl rfl ?_
        refine O_no rfl rfl rfl rfl ?_
        refine o_pick_t rfl (v := .bool _) rfl ?_
        refine o_assign (v := .bool _) rfl ?_
        refine O_end ?_
        refine W_then rfl ?_
        refine W_reg ?_ -- 5 law.go:115
        refine o_assign (v := .int _ _) rfl ?_
        refine O_end ?_
        exact ⟨rfl, rfl, rfl, rfl, rfl, by show Value.int _ _ = _; congr 1; rw [otherE, if_pos (by omega)], hA⟩
      · -- False
        have q25 := of_decide_eq_false h
        refine o_pick_f rfl (v := .bool _) rfl ?_
        refine o_move (v := .bool _) rfl ?_
        refine O_yes rfl rfl rfl ?_
        refine o_move (by conv => lhs; whnf) ?_
        refine O_yes rfl rfl rfl ?_
        refine o_len Try.underlying23 rfl ?_
        refine O_yes rfl rfl rfl ?_
        refine o_move (v := .int _ _) rfl ?_
        refine O_yes rfl rfl rfl ?_
        refine o_sub rfl rfl (w64 rfl (by omega) (by omega)) ?_
        refine O_yes rfl rfl rfl ?_
        refine o_cmp2 rfl rfl rfl (fun h => ?_) (fun h => ?_)
        · -- True
          have q32 := bne_iff_ne.1 h
          refine o_pick_f rfl (v := .bool _) rfl ?_
          refine o_assign (v := .bool _) rfl ?_
          refine O_end ?_
          refine W_then rfl ?_
          refine W_reg ?_ -- 5 law.go:115
          refine o_assign (v := .int _ _) rfl ?_
          refine O_end ?_
          exact ⟨rfl, rfl, rfl, rfl, rfl, by show Value.int _ _ = _; congr 1; rw [otherE, if_pos (by omega)], hA⟩
        · -- False
          have q32 := bne_eq_false_iff_eq.1 h
          refine o_pick_f rfl (v := .bool _) rfl ?_
          refine o_assign (v := .bool _) rfl ?_
          refine O_end ?_
          refine W_else rfl ?_
          refine W_seq ?_
          refine W_reg ?_ -- 6 law.go:116
          refine o_move (v := .int _ _) rfl ?_
          refine o_cmp2 rfl rfl rfl (fun h => ?_) (fun h => ?_)
          · -- True
            have q36 := of_decide_eq_true h
            refine o_assign (v := .bool _) rfl ?_
            refine O_end ?_
            refine W_then rfl ?_
            refine W_reg ?_ -- 7 law.go:117
            refine o_assign (v := .int _ _) rfl ?_
            refine O_end ?_
            exact ⟨rfl, rfl, rfl, rfl, rfl, by show Value.int _ _ = _; congr 1; rw [otherE, if_neg (by omega), if_pos (by omega)], hA⟩
          · -- False
            have q36 := of_decide_eq_false h
            refine o_assign (v := .bool _) rfl ?_
            refine O_end ?_
            refine W_else rfl ?_
            refine W_seq ?_
            refine W_reg ?_ -- 8 law.go:118
            refine o_move (by conv => lhs; whnf) ?_
            refine o_len Try.underlying23 rfl ?_
            refine o_cmp2 rfl rfl rfl (fun h => ?_) (fun h => ?_)
            · -- True
              have q40 := of_decide_eq_true h
              refine o_assign (v := .bool _) rfl ?_
              refine O_end ?_
              refine W_then rfl ?_
              refine W_reg ?_ -- 9 law.go:119
              refine o_move (by conv => lhs; whnf) ?_
              refine O_calls en7 rfl (q_points (hLR.old hA) (by omega)) (fun v3 w3 hC => ?_)
              obtain ⟨rfl, hC⟩ := hC
              have hA := (hA.after hC).tail 0
              refine o_assign (v := .int _ _) rfl ?_
              refine O_end ?_
              exact ⟨rfl, rfl, rfl, rfl, rfl, by show Value.int _ _ = _; congr 1; rw [otherE, if_neg (by omega), if_neg (by omega), if_neg (by omega)], hA⟩
            · -- False
              have q40 := of_decide_eq_false h
              refine o_assign (v := .bool _) rfl ?_
              refine O_end ?_
              refine W_else rfl ?_
              refine W_skip ?_
              exact ⟨rfl, rfl, rfl, rfl, rfl, by show Value.int _ _ = _; congr 1; rw [otherE, if_neg (by omega), if_neg (by omega), if_pos (by omega)], hA⟩
  · -- behind it
    clear hA
    rintro ρ w1 ⟨h0, h1, h2, h7, h8, h9, hA⟩
    refine W_known (t := 0) h0 ?_
    refine W_known (t := 1) h1 ?_
    refine W_known (t := 2) h2 ?_
    refine W_known (t := 7) h7 ?_
    refine W_known (t := 8) h8 ?_
    refine W_known (t := 9) h9 ?_
    refine W_seq ?_
    refine W_seq ?_
    refine W_reg ?_ -- 10 law.go:121
    refine o_move (v := .int _ _) rfl ?_
    refine o_cmp2 rfl rfl rfl (fun h => ?_) (fun h => ?_)
    · -- True
      have q44 := bne_iff_ne.1 h
      refine O_end ?_
      refine W_then rfl ?_
      refine W_seq ?_
      refine W_reg ?_ -- 11 law.go:122
      refine O_calls en8 rfl c_awake (fun v4 w4 hC => ?_)
      obtain ⟨rfl, hC⟩ := hC
      have hA := (hA.after hC).tail 0
      refine o_move (v := .bool _) rfl ?_
      refine O_yes rfl rfl rfl ?_
      refine o_move (v := .int _ _) rfl ?_
      refine O_yes rfl rfl rfl ?_
      refine o_move (v := .int _ _) rfl ?_
      refine O_yes rfl rfl rfl ?_
      refine o_cmp2 rfl rfl rfl (fun h => ?_) (fun h => (by first | exact absurd h (by decide) | (exfalso; simp at h; omega) | (exfalso; simp at h)))
      have q49 := beq_iff_eq.1 h
      refine o_pick_t rfl (v := .bool _) rfl ?_
      refine o_move (v := .bool _) rfl ?_
      refine O_yes rfl rfl rfl ?_
      refine o_move (by conv => lhs; whnf) ?_
      refine O_yes rfl rfl rfl ?_
      refine o_len Try.underlying25 rfl ?_
      refine O_yes rfl rfl rfl ?_
      refine o_cmp rfl rfl rfl ?_
      refine o_pick_t rfl (v := .bool _) rfl ?_
      refine o_assign (v := .bool _) rfl ?_
      refine O_end ?_
      refine W_ret ?_
      refine ⟨rfl, ?_⟩
      refine ret1 Try.results3 (v := .bool _) rfl ?_
      have h0 : otherL s e l = [] := by rw [otherL, if_neg q44]
      exact ⟨by show Value.bool _ = _; rw [h0]; rfl, hA.clear⟩
    · -- False
      have q44 := bne_eq_false_iff_eq.1 h
      have hE0 : otherE s e l = 0 := q44
      have hol := other_len hE0
      have hr := otherE_range hE0
      refine O_end ?_
      refine W_else rfl ?_
      refine W_skip ?_
      refine W_seq ?_
      refine W_seq ?_
      refine W_reg ?_ -- 12 law.go:124
      refine o_move (v := .int _ _) rfl ?_
      refine o_cmp2 rfl rfl rfl (fun h => (by first | exact absurd h (by decide) | (exfalso; simp at h; omega) | (exfalso; simp at h))) (fun h => ?_)
      have q57 := bne_eq_false_iff_eq.1 h
      refine o_move (v := .bool _) rfl ?_
      refine O_yes rfl rfl rfl ?_
      refine o_move (by conv => lhs; whnf) ?_
      refine O_yes rfl rfl rfl ?_
      refine o_len Try.underlying25 rfl ?_
      refine O_yes rfl rfl rfl ?_
      refine o_move (v := .int _ _) rfl ?_
      refine O_yes rfl rfl rfl ?_
      refine o_sub rfl rfl (w64 rfl (by omega) (by omega)) ?_
      refine O_yes rfl rfl rfl ?_
      refine o_cmp2 rfl rfl rfl (fun h => (by first | exact absurd h (by decide) | (exfalso; simp at h; omega) | (exfalso; simp at h))) (fun h => ?_)
      have q63 := bne_eq_false_iff_eq.1 h
      refine o_pick_f rfl (v := .bool _) rfl ?_
      refine O_end ?_
      refine W_else rfl ?_
      refine W_skip ?_
      refine W_seq ?_
      refine W_seq ?_
      refine W_reg ?_ -- 14 law.go:127
      refine o_assign (v := .int _ _) rfl ?_
      refine O_end ?_
      refine W_block ?_ -- 1
      refine W_loop (fun kk ρ w' => ∃ (j : Nat), kk = l.length - j ∧ j ≤ l.length ∧ ρ 10 = .int .i64 (j : Int) ∧ ρ 0 = .int .u64 (s : Int) ∧ ρ 1 = .int .i64 e ∧ ρ 2 = .slice LA l.length Lc ∧ ρ 7 = .slice UA (otherL s e l).length Uc ∧ ρ 8 = .int .i64 (otherE s e l) ∧ At w No [Row 22 1 (.slice UA (otherL s e l).length Uc) (u64s (otherL s e l))] w') l.length
        ⟨0, by simp, Nat.zero_le _, rfl, rfl, rfl, rfl, rfl, rfl, hA⟩ ?_
      clear hA
      rintro kk ρ w1 ⟨j, rfl, hj, h10, h0, h1, h2, h7, h8, hA⟩
      refine W_known (t := 10) h10 ?_
      refine W_known (t := 0) h0 ?_
      refine W_known (t := 1) h1 ?_
      refine W_known (t := 2) h2 ?_
      refine W_known (t := 7) h7 ?_
      refine W_known (t := 8) h8 ?_
      refine W_seq ?_
      refine W_seq ?_
      refine W_reg ?_ -- 15 law.go:127
      refine o_move (v := .int _ _) rfl ?_
      refine o_move (by conv => lhs; whnf) ?_
      refine o_len Try.underlying23 rfl ?_
      refine o_cmp2 rfl rfl rfl (fun h => ?_) (fun h => ?_)
      · -- True
        have q68 := of_decide_eq_true h
        have hlt : j < l.length := by omega
        obtain ⟨x, hx⟩ : ∃ x, l[j]? = some x := ⟨_, List.getElem?_eq_getElem hlt⟩
        obtain ⟨y, hy⟩ : ∃ y, (otherL s e l)[j]? = some y := ⟨_, List.getElem?_eq_getElem (by omega)⟩
        have hyP := other_lt y (List.mem_of_getElem? hy)
        have hso := otherE_sound hE0 (by omega)
        have hxa := (sound_places hso).2.1 x (List.mem_of_getElem? hx)
        have hox := other_at hE0 hx
        obtain ⟨g0, o0, rfl⟩ := Rd.some hLR (by rw [flatP_len]; omega)
        obtain ⟨ug, rfl⟩ := row_some (hA.row 0 rfl) (by omega)
        obtain ⟨xa, xv⟩ := x
        obtain ⟨na, rfl⟩ : ∃ na : Nat, xa = (na : Int) := ⟨xa.toNat, by have := hxa.1; dsimp only at this; omega⟩
        dsimp only at hxa
        rw [Int.toNat_natCast] at hox
        refine O_end ?_
        refine W_then rfl ?_
        refine W_skip ?_
        refine W_seq ?_
        refine W_block ?_ -- 2
        refine W_seq ?_
        refine W_drawA hA [3, 12, 18] mix rfl rfl (fun w0_17 hA => ?_) -- 17 law.go:128
        refine D_take 0 rfl (by kernel_rfl) (by rintro _ _ _ ⟨h, _⟩; cases h) rfl (fun h => by cases h) (fun w hA => r_move (by conv => lhs; whnf)) ?_
        refine D_take 1 rfl (by kernel_rfl) (by rintro _ _ _ ⟨h, _⟩; cases h) rfl (fun h => by cases h) (fun w hA => r_move (v := .int _ _) rfl) ?_
        refine D_take 2 rfl (by kernel_rfl) (by rintro _ _ _ ⟨h, _⟩; cases h) rfl (fun h => by cases h) (fun w hA => r_index Try.underlying25 ti22 rfl rfl (by omega) (by omega)) ?_
        refine D_take 3 rfl (by kernel_rfl) (by rintro _ _ _ ⟨h, _⟩; cases h) rfl (fun _ => hA) (fun w hA => r_load1 ag22 rfl (((hA rfl).rd 0 rfl).cells (j := (j : Int).toNat * 1) (u := .int .u64 (y : Int)) (by rw [Nat.mul_one]; exact u64s_get hy))) ?_
        refine D_takeb 4 rfl (by kernel_rfl) (by rintro _ _ _ ⟨h, _⟩; cases h) rfl (fun h => by cases h) (fun w hA => r_cmp rfl rfl rfl) (fun h => (by first | exact absurd h (by decide) | (exfalso; simp at h; omega) | (exfalso; simp at h))) (fun h => ?_)
        have q75 := of_decide_eq_false h
        refine D_take 5 rfl (by kernel_rfl) (by rintro _ _ _ ⟨h, _⟩; cases h) rfl (fun h => by cases h) (fun w hA => r_move (v := .bool _) rfl) ?_
        refine D_take_yes 6 rfl (by kernel_rfl) (by rintro _ _ _ ⟨h, _⟩; cases h) rfl (fun h => by cases h) rfl rfl rfl (fun w hA => r_move (v := .int _ _) rfl) ?_
        refine D_take_yes 7 rfl (by kernel_rfl) (by rintro _ _ _ ⟨h, _⟩; cases h) rfl (fun h => by cases h) rfl rfl rfl (fun w hA => r_move (by conv => lhs; whnf)) ?_
        refine D_take_yes 8 rfl (by kernel_rfl) (by rintro _ _ _ ⟨h, _⟩; cases h) rfl (fun h => by cases h) rfl rfl rfl (fun w hA => r_move (by conv => lhs; whnf)) ?_
        refine D_take_yes 9 rfl (by kernel_rfl) (by rintro _ _ _ ⟨h, _⟩; cases h) rfl (fun h => by cases h) rfl rfl rfl (fun w hA => r_move (v := .int _ _) rfl) ?_
        refine D_take_yes 10 rfl (by kernel_rfl) (by rintro _ _ _ ⟨h, _⟩; cases h) rfl (fun h => by cases h) rfl rfl rfl (fun w hA => r_index Try.underlying23 ti33 rfl rfl (by omega) (by omega)) ?_
        refine D_take_yes 11 rfl (by kernel_rfl) (by rintro _ _ _ ⟨h, _⟩; cases h) rfl (fun h => by cases h) rfl rfl rfl (fun w hA => r_fieldAddr fo33_0 rfl rfl) ?_
        refine D_take_yes 12 rfl (by kernel_rfl) (by rintro _ _ _ ⟨h, _⟩; cases h) rfl (fun _ => hA) rfl rfl rfl (fun w hA => r_load1 ag3 rfl (pt_cells (hLR.old (hA rfl)) hx 0 _ rfl)) ?_
        refine D_take_yes 14 rfl (by kernel_rfl) (by rintro _ _ _ ⟨h, _⟩; cases h) rfl (fun h => by cases h) rfl rfl rfl (fun w hA => r_move (by conv => lhs; whnf)) ?_
        refine D_take_yes 15 rfl (by kernel_rfl) (by rintro _ _ _ ⟨h, _⟩; cases h) rfl (fun h => by cases h) rfl rfl rfl (fun w hA => r_move (v := .int _ _) rfl) ?_
        refine D_take_yes 16 rfl (by kernel_rfl) (by rintro _ _ _ ⟨h, _⟩; cases h) rfl (fun h => by cases h) rfl rfl rfl (fun w hA => r_index Try.underlying23 ti33 rfl rfl (by omega) (by omega)) ?_
        refine D_take_yes 17 rfl (by kernel_rfl) (by rintro _ _ _ ⟨h, _⟩; cases h) rfl (fun h => by cases h) rfl rfl rfl (fun w hA => r_fieldAddr fo33_1 rfl rfl) ?_
        refine D_take_yes 18 rfl (by kernel_rfl) (by rintro _ _ _ ⟨h, _⟩; cases h) rfl (fun _ => hA) rfl rfl rfl (fun w hA => r_load1 ag22 rfl (pt_cells (hLR.old (hA rfl)) hx 1 _ rfl)) ?_
        refine D_run 13 (by kernel_rfl) rfl rfl ?_
        refine O_yes rfl rfl rfl ?_
        refine O_calls en9 rfl (q_share (x := na) (hA.rd 0 rfl) (by omega) (by omega)) (fun v5 w5 hC => ?_)
        obtain ⟨rfl, hC⟩ := hC
        have hA := (hA.after hC).tail 0
        refine O_end ⟨fun _ _ => hA, ?_⟩
        refine D_takeb_yes 19 rfl (by kernel_rfl) (by rintro _ _ _ ⟨h, _⟩; cases h) rfl (fun h => by cases h) rfl rfl rfl (fun w hA => r_cmp rfl rfl rfl) (fun h => (absurd (congrArg (Nat.cast (R := Int)) hox) (bne_iff_ne.1 h))) (fun h => ?_)
        have q90 := bne_eq_false_iff_eq.1 h
        refine D_take 20 rfl (by kernel_rfl) (by rintro _ _ _ ⟨h, _⟩; cases h) rfl (fun h => by cases h) (fun w hA => r_pick_f rfl (v := .bool _) rfl) ?_
        refine D_done (by kernel_rfl) ?_
        refine W_else rfl ?_
        refine W_skip ?_
        refine W_reg ?_ -- 16 law.go:127
        refine o_move (v := .int _ _) rfl ?_
        refine o_add rfl rfl (w64 (r := ((j + 1 : Nat) : Int)) (by omega) (by omega) (by omega)) ?_
        refine o_assign (v := .int _ _) rfl ?_
        refine O_end ?_
        exact ⟨l.length - (j + 1), by omega, j + 1, rfl, by omega, rfl, rfl, rfl, rfl, rfl, rfl, hA⟩
      · -- False
        have q68 := of_decide_eq_false h
        refine O_end ?_
        refine W_else rfl ?_
        refine W_exit ?_
        refine xb_hit ?_
        refine W_seq ?_
        refine W_reg ?_ -- 19 law.go:132
        refine O_calls en8 rfl c_awake (fun v6 w6 hC => ?_)
        obtain ⟨rfl, hC⟩ := hC
        have hA := (hA.after hC).tail 0
        refine o_assign (v := .bool _) rfl ?_
        refine O_end ?_
        refine W_ret ?_
        refine ⟨rfl, ?_⟩
        refine ret1 Try.results3 (v := .bool _) rfl ?_
        exact ⟨rfl, hA.clear⟩

end Go.Proofs.Ytogpmiodnmigoaa
