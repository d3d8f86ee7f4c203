/-
  offertoryref06.Points: it answers as poly.sound does.
-/
import Derived.Test.YtogpmiodnmigoaaZero
set_option linter.unusedVariables false
set_option linter.unusedSimpArgs false
namespace Go.Proofs.Ytogpmiodnmigoaa
open Go Go.RowKit

theorem q_points {w : World} {A : Option Addr} {m c : Nat} {l : List Pt} (hR : Rd w 2 (.slice A m c) (flatP l)) (hl : l.length ≤ 140737488355328) : Calls Try.prog 7 #[.slice A m c] w fun e w' => ∃ v, e = .returned v ∧ (v = .int .i64 (soundP l) ∧ At w No [] w') := by
  obtain rfl := pt_len hR
  refine body_in (n := 59) (l := [.slice A l.length c]) en7 rfl Try.ntmps7 rfl ?_
  have hA := At.refl w
  refine W_seq ?_
  refine W_reg ?_ -- 0 ref.go:35
  refine o_assign (v := .int _ _) rfl ?_
  refine O_end ?_
  refine W_seq ?_
  refine W_seq ?_
  refine W_reg ?_ -- 1 ref.go:36
  refine o_move (by conv => lhs; whnf) ?_
  refine o_len Try.underlying23 rfl ?_
  refine o_cmp2 rfl rfl rfl (fun h => ?_) (fun h => ?_)
  · -- True
    refine o_move (v := .bool _) rfl ?_
    refine O_no rfl rfl rfl rfl ?_
    refine O_no rfl rfl rfl rfl ?_
    refine O_no rfl rfl rfl rfl ?_
    refine o_pick_t rfl (v := .bool _) rfl ?_
    refine O_end ?_
    refine W_then rfl ?_
    refine W_seq ?_
    refine W_reg ?_ -- 2 ref.go:37
    refine o_assign (v := .int _ _) rfl ?_
    refine O_end ?_
    refine W_ret ?_
    refine ⟨rfl, ?_⟩
    refine ret1 Try.results7 (v := .int _ _) rfl ?_
    exact ⟨by unfold soundP; rw [if_pos (by have := beq_iff_eq.1 h; omega)], hA⟩
  · -- False
    have hl0 : ¬ l.length = 0 := by have := beq_eq_false_iff_ne.1 h; omega
    refine o_move (v := .bool _) rfl ?_
    refine O_yes rfl rfl rfl ?_
    refine o_move (by conv => lhs; whnf) ?_
    refine O_yes rfl rfl rfl ?_
    refine o_len Try.underlying23 rfl ?_
    refine O_yes rfl rfl rfl ?_
    refine o_cmp2 rfl rfl rfl (fun h => ?_) (fun h => ?_)
    · -- True
      refine o_pick_f rfl (v := .bool _) rfl ?_
      refine O_end ?_
      refine W_then rfl ?_
      refine W_seq ?_
      refine W_reg ?_ -- 2 ref.go:37
      refine o_assign (v := .int _ _) rfl ?_
      refine O_end ?_
      refine W_ret ?_
      refine ⟨rfl, ?_⟩
      refine ret1 Try.results7 (v := .int _ _) rfl ?_
      exact ⟨by unfold soundP; rw [if_neg hl0, if_pos (by have := of_decide_eq_true h; omega)], hA⟩
    · -- False
      have hl1 : ¬ 64 < l.length := by have := of_decide_eq_false h; omega
      refine o_pick_f rfl (v := .bool _) rfl ?_
      refine O_end ?_
      refine W_else rfl ?_
      refine W_skip ?_
      refine W_seq ?_
      refine W_reg ?_ -- 3 ref.go:39
      refine o_assign (v := .int _ _) rfl ?_
      refine O_end ?_
      refine W_seq ?_
      refine W_seq ?_
      refine W_reg ?_ -- 4 ref.go:40
      refine o_assign (v := .int _ _) rfl ?_
      refine O_end ?_
      refine W_block ?_ -- 0
      refine W_loop (fun kk ρ w' => ∃ (j : Nat), kk = l.length - j ∧ j ≤ l.length ∧ ρ 0 = .slice A l.length c ∧ ρ 4 = .int .i64 (j : Int) ∧ ρ 3 = .int .i64 (if (l.take j).any badP = true then 4 else 0) ∧ (∀ i, i < j → dupAt l i = false) ∧ At w No [] w') l.length
        ⟨0, by simp, Nat.zero_le _, rfl, rfl, rfl, fun i hi => by omega, hA⟩ ?_
      clear hA
      rintro kk ρ w1 ⟨j, rfl, hj, h0, h4, h3, hd, hA⟩
      refine W_known (t := 0) h0 ?_
      refine W_known (t := 4) h4 ?_
      refine W_known (t := 3) h3 ?_
      refine W_seq ?_
      refine W_seq ?_
      refine W_reg ?_ -- 5 ref.go:40
      refine o_move (v := .int _ _) rfl ?_
      refine o_move (by conv => lhs; whnf) ?_
      refine o_len Try.underlying23 rfl ?_
      refine o_cmp2 rfl rfl rfl (fun h => ?_) (fun h => ?_)
      · -- True
        have hlt : j < l.length := by have := of_decide_eq_true h; omega
        obtain ⟨x, hx⟩ : ∃ x, l[j]? = some x := ⟨_, List.getElem?_eq_getElem hlt⟩
        obtain ⟨g0, o0, rfl⟩ := Rd.some hR (by rw [flatP_len]; omega)
        have htk : (l.take (j + 1)).any badP = ((l.take j).any badP || badP x) := by rw [List.take_add_one, hx]; simp
        refine O_end ?_
        refine W_then rfl ?_
        refine W_skip ?_
        refine W_seq ?_
        refine W_block ?_ -- 1
        refine W_seq ?_
        refine W_seq ?_
        refine W_reg ?_ -- 7 ref.go:41
        refine o_assign (v := .int _ _) rfl ?_
        refine O_end ?_
        refine W_block ?_ -- 2
        refine W_loop (fun kk ρ w' => ∃ (i : Nat), kk = l.length - i ∧ i ≤ j ∧ ρ 5 = .int .i64 (i : Int) ∧ ρ 0 = .slice (some ⟨g0, o0, none⟩) l.length c ∧ ρ 4 = .int .i64 (j : Int) ∧ ρ 3 = .int .i64 (if (l.take j).any badP = true then 4 else 0) ∧ (∀ k q, k < i → l[k]? = some q → (q.a == x.a) = false) ∧ At w No [] w') l.length
          ⟨0, by simp, Nat.zero_le _, rfl, rfl, rfl, rfl, fun k q hk => by omega, hA⟩ ?_
        clear hA
        rintro kk ρ w1 ⟨i, rfl, hi, h5, h0, h4, h3, hq, hA⟩
        refine W_known (t := 5) h5 ?_
        refine W_known (t := 0) h0 ?_
        refine W_known (t := 4) h4 ?_
        refine W_known (t := 3) h3 ?_
        refine W_seq ?_
        refine W_seq ?_
        refine W_reg ?_ -- 8 ref.go:41
        refine o_move (v := .int _ _) rfl ?_
        refine o_move (v := .int _ _) rfl ?_
        refine o_cmp2 rfl rfl rfl (fun h => ?_) (fun h => ?_)
        · -- True
          have hlti : i < j := by have := of_decide_eq_true h; omega
          obtain ⟨y, hy⟩ : ∃ y, l[i]? = some y := ⟨_, List.getElem?_eq_getElem (by omega)⟩
          refine O_end ?_
          refine W_then rfl ?_
          refine W_skip ?_
          refine W_seq ?_
          refine W_block ?_ -- 3
          refine W_seq ?_
          refine W_drawA hA [4, 9] mix rfl rfl (fun w0_10 hA => ?_) -- 10 ref.go:42
          refine D_take 0 rfl (by kernel_rfl) (by rintro _ _ _ ⟨h, _⟩; cases h) rfl (fun h => by cases h) (fun w hA => r_move (by conv => lhs; whnf)) ?_
          refine D_take 1 rfl (by kernel_rfl) (by rintro _ _ _ ⟨h, _⟩; cases h) rfl (fun h => by cases h) (fun w hA => r_move (v := .int _ _) rfl) ?_
          refine D_take 2 rfl (by kernel_rfl) (by rintro _ _ _ ⟨h, _⟩; cases h) rfl (fun h => by cases h) (fun w hA => r_index Try.underlying23 ti33 rfl rfl (by omega) (by omega)) ?_
          refine D_take 3 rfl (by kernel_rfl) (by rintro _ _ _ ⟨h, _⟩; cases h) rfl (fun h => by cases h) (fun w hA => r_fieldAddr fo33_0 rfl rfl) ?_
          refine D_take 4 rfl (by kernel_rfl) (by rintro _ _ _ ⟨h, _⟩; cases h) rfl (fun _ => hA) (fun w hA => r_load1 ag3 rfl (pt_cells (hR.old (hA rfl)) hx 0 (.int .i64 x.a) rfl)) ?_
          refine D_take 5 rfl (by kernel_rfl) (by rintro _ _ _ ⟨h, _⟩; cases h) rfl (fun h => by cases h) (fun w hA => r_move (by conv => lhs; whnf)) ?_
          refine D_take 6 rfl (by kernel_rfl) (by rintro _ _ _ ⟨h, _⟩; cases h) rfl (fun h => by cases h) (fun w hA => r_move (v := .int _ _) rfl) ?_
          refine D_take 7 rfl (by kernel_rfl) (by rintro _ _ _ ⟨h, _⟩; cases h) rfl (fun h => by cases h) (fun w hA => r_index Try.underlying23 ti33 rfl rfl (by omega) (by omega)) ?_
          refine D_take 8 rfl (by kernel_rfl) (by rintro _ _ _ ⟨h, _⟩; cases h) rfl (fun h => by cases h) (fun w hA => r_fieldAddr fo33_0 rfl rfl) ?_
          refine D_take 9 rfl (by kernel_rfl) (by rintro _ _ _ ⟨h, _⟩; cases h) rfl (fun _ => hA) (fun w hA => r_load1 ag3 rfl (pt_cells (hR.old (hA rfl)) hy 0 (.int .i64 y.a) rfl)) ?_
          refine D_takeb 10 rfl (by kernel_rfl) (by rintro _ _ _ ⟨h, _⟩; cases h) rfl (fun h => by cases h) (fun w hA => r_cmp rfl rfl rfl) (fun h => ?_) (fun h => ?_)
          · -- True
            refine D_done (by kernel_rfl) ?_
            refine W_then rfl ?_
            refine W_seq ?_
            refine W_reg ?_ -- 11 ref.go:43
            refine o_assign (v := .int _ _) rfl ?_
            refine O_end ?_
            refine W_ret ?_
            refine xb_ret ?_
            refine xb_ret ?_
            refine xb_ret ?_
            refine xb_ret ?_
            refine ⟨rfl, ?_⟩
            refine ret1 Try.results7 (v := .int _ _) rfl ?_
            refine ⟨?_, hA⟩
            have hdup : dupP l = true := dup_hit hlt hx (any_hit (List.getElem?_take_of_lt hlti ▸ hy) (by rw [beq_iff_eq] at h ⊢; exact h.symm))
            unfold soundP; rw [if_neg hl0, if_neg hl1, if_pos hdup]
          · -- False
            refine D_done (by kernel_rfl) ?_
            refine W_else rfl ?_
            refine W_skip ?_
            refine W_reg ?_ -- 9 ref.go:41
            refine o_move (v := .int _ _) rfl ?_
            refine o_add rfl rfl (w64 (r := ((i + 1 : Nat) : Int)) (by omega) (by omega) (by omega)) ?_
            refine o_assign (v := .int _ _) rfl ?_
            refine O_end ?_
            refine ⟨l.length - (i + 1), by omega, i + 1, rfl, by omega, rfl, rfl, rfl, rfl, fun k q hk hkq => ?_, hA⟩
            by_cases e : k = i
            · rw [e, hy] at hkq; obtain rfl := Option.some.inj hkq
              rw [beq_eq_false_iff_ne] at h ⊢; exact fun e => h e.symm
            · exact hq k q (by omega) hkq
        · -- False
          have hn := h
          refine O_end ?_
          refine W_else rfl ?_
          refine W_exit ?_
          refine xb_hit ?_
          refine W_seq ?_
          refine W_reg ?_ -- 12 ref.go:46
          refine o_move (by conv => lhs; whnf) ?_
          refine o_move (v := .int _ _) rfl ?_
          refine o_index Try.underlying23 ti33 rfl rfl (by omega) (by omega) ?_
          refine o_fieldAddr fo33_0 rfl rfl ?_
          refine o_load1 ag3 rfl (pt_cells (hR.old hA) hx 0 (.int .i64 x.a) rfl) ?_
          refine o_cmp2 rfl rfl rfl (fun h => ?_) (fun h => ?_)
          · -- True
            refine o_move (v := .bool _) rfl ?_
            refine O_no rfl rfl rfl rfl ?_
            refine O_no rfl rfl rfl rfl ?_
            refine O_no rfl rfl rfl rfl ?_
            refine O_no rfl rfl rfl rfl ?_
            refine O_no rfl rfl rfl rfl ?_
            refine O_no rfl rfl rfl rfl ?_
            refine o_pick_t rfl (v := .bool _) rfl ?_
            refine o_move (v := .bool _) rfl ?_
            refine O_no rfl rfl rfl rfl ?_
            refine O_no rfl rfl rfl rfl ?_
            refine O_no rfl rfl rfl rfl ?_
            refine O_no rfl rfl rfl rfl ?_
            refine O_no rfl rfl rfl rfl ?_
            refine O_no rfl rfl rfl rfl ?_
            refine o_pick_t rfl (v := .bool _) rfl ?_
            refine O_end ?_
            refine W_then rfl ?_
            refine W_reg ?_ -- 13 ref.go:47
            refine o_assign (v := .int _ _) rfl ?_
            refine O_end ?_
            refine W_reg ?_ -- 6 ref.go:40
            refine o_move (v := .int _ _) rfl ?_
            refine o_add rfl rfl (w64 (r := ((j + 1 : Nat) : Int)) (by omega) (by omega) (by omega)) ?_
            refine o_assign (v := .int _ _) rfl ?_
            refine O_end ?_
            have hdj : dupAt l j = false := by
              unfold dupAt; rw [hx]
              refine any_step fun k q hk hkq => ?_
              rw [List.length_take] at hk
              rw [List.getElem?_take_of_lt (by omega)] at hkq
              have := of_decide_eq_false hn
              exact hq k q (by omega) hkq
            refine ⟨l.length - (j + 1), by omega, j + 1, rfl, by omega, rfl, rfl, ?_, fun i hi => ?_, hA⟩
            · show Value.int _ _ = _
              have hb : badP x = true := by simp only [badP, Bool.or_eq_true]; exact .inl (.inl h)
              rw [htk, hb]; simp
            · by_cases e : i = j
              · rw [e]; exact hdj
              · exact hd i (by omega)
          · -- False
            have k1 := h
            refine o_move (v := .bool _) rfl ?_
            refine O_yes rfl rfl rfl ?_
            refine o_move (by conv => lhs; whnf) ?_
            refine O_yes rfl rfl rfl ?_
            refine o_move (v := .int _ _) rfl ?_
            refine O_yes rfl rfl rfl ?_
            refine o_index Try.underlying23 ti33 rfl rfl (by omega) (by omega) ?_
            refine O_yes rfl rfl rfl ?_
            refine o_fieldAddr fo33_0 rfl rfl ?_
            refine O_yes rfl rfl rfl ?_
            refine o_load1 ag3 rfl (pt_cells (hR.old hA) hx 0 (.int .i64 x.a) rfl) ?_
            refine O_yes rfl rfl rfl ?_
            refine o_cmp2 rfl rfl rfl (fun h => ?_) (fun h => ?_)
            · -- True
              refine o_pick_f rfl (v := .bool _) rfl ?_
              refine o_move (v := .bool _) rfl ?_
              refine O_no rfl rfl rfl rfl ?_
              refine O_no rfl rfl rfl rfl ?_
              refine O_no rfl rfl rfl rfl ?_
              refine O_no rfl rfl rfl rfl ?_
              refine O_no rfl rfl rfl rfl ?_
              refine O_no rfl rfl rfl rfl ?_
              refine o_pick_t rfl (v := .bool _) rfl ?_
              refine O_end ?_
              refine W_then rfl ?_
              refine W_reg ?_ -- 13 ref.go:47
              refine o_assign (v := .int _ _) rfl ?_
              refine O_end ?_
              refine W_reg ?_ -- 6 ref.go:40
              refine o_move (v := .int _ _) rfl ?_
              refine o_add rfl rfl (w64 (r := ((j + 1 : Nat) : Int)) (by omega) (by omega) (by omega)) ?_
              refine o_assign (v := .int _ _) rfl ?_
              refine O_end ?_
              have hdj : dupAt l j = false := by
                unfold dupAt; rw [hx]
                refine any_step fun k q hk hkq => ?_
                rw [List.length_take] at hk
                rw [List.getElem?_take_of_lt (by omega)] at hkq
                have := of_decide_eq_false hn
                exact hq k q (by omega) hkq
              refine ⟨l.length - (j + 1), by omega, j + 1, rfl, by omega, rfl, rfl, ?_, fun i hi => ?_, hA⟩
              · show Value.int _ _ = _
                have hb : badP x = true := by simp only [badP, Bool.or_eq_true]; exact .inl (.inr h)
                rw [htk, hb]; simp
              · by_cases e : i = j
                · rw [e]; exact hdj
                · exact hd i (by omega)
            · -- False
              have k2 := h
              refine o_pick_f rfl (v := .bool _) rfl ?_
              refine o_move (v := .bool _) rfl ?_
              refine O_yes rfl rfl rfl ?_
              refine o_move (by conv => lhs; whnf) ?_
              refine O_yes rfl rfl rfl ?_
              refine o_move (v := .int _ _) rfl ?_
              refine O_yes rfl rfl rfl ?_
              refine o_index Try.underlying23 ti33 rfl rfl (by omega) (by omega) ?_
              refine O_yes rfl rfl rfl ?_
              refine o_fieldAddr fo33_1 rfl rfl ?_
              refine O_yes rfl rfl rfl ?_
              refine o_load1 ag22 rfl (pt_cells (hR.old hA) hx 1 (.int .u64 (x.v : Int)) rfl) ?_
              refine O_yes rfl rfl rfl ?_
              refine o_cmp2 rfl rfl rfl (fun h => ?_) (fun h => ?_)
              · -- True
                refine o_pick_f rfl (v := .bool _) rfl ?_
                refine O_end ?_
                refine W_then rfl ?_
                refine W_reg ?_ -- 13 ref.go:47
                refine o_assign (v := .int _ _) rfl ?_
                refine O_end ?_
                refine W_reg ?_ -- 6 ref.go:40
                refine o_move (v := .int _ _) rfl ?_
                refine o_add rfl rfl (w64 (r := ((j + 1 : Nat) : Int)) (by omega) (by omega) (by omega)) ?_
                refine o_assign (v := .int _ _) rfl ?_
                refine O_end ?_
                have hdj : dupAt l j = false := by
                  unfold dupAt; rw [hx]
                  refine any_step fun k q hk hkq => ?_
                  rw [List.length_take] at hk
                  rw [List.getElem?_take_of_lt (by omega)] at hkq
                  have := of_decide_eq_false hn
                  exact hq k q (by omega) hkq
                refine ⟨l.length - (j + 1), by omega, j + 1, rfl, by omega, rfl, rfl, ?_, fun i hi => ?_, hA⟩
                · show Value.int _ _ = _
                  have hb : badP x = true := by simp only [badP, Bool.or_eq_true]; exact .inr (decide_eq_true (by have := of_decide_eq_true h; omega))
                  rw [htk, hb]; simp
                · by_cases e : i = j
                  · rw [e]; exact hdj
                  · exact hd i (by omega)
              · -- False
                refine o_pick_f rfl (v := .bool _) rfl ?_
                refine O_end ?_
                refine W_else rfl ?_
                refine W_skip ?_
                refine W_reg ?_ -- 6 ref.go:40
                refine o_move (v := .int _ _) rfl ?_
                refine o_add rfl rfl (w64 (r := ((j + 1 : Nat) : Int)) (by omega) (by omega) (by omega)) ?_
                refine o_assign (v := .int _ _) rfl ?_
                refine O_end ?_
                have hdj : dupAt l j = false := by
                  unfold dupAt; rw [hx]
                  refine any_step fun k q hk hkq => ?_
                  rw [List.length_take] at hk
                  rw [List.getElem?_take_of_lt (by omega)] at hkq
                  have := of_decide_eq_false hn
                  exact hq k q (by omega) hkq
                refine ⟨l.length - (j + 1), by omega, j + 1, rfl, by omega, rfl, rfl, ?_, fun i hi => ?_, hA⟩
                · show Value.int _ _ = _
                  have hb : badP x = false := by simp only [badP, Bool.or_eq_false_iff]; exact ⟨⟨k1, k2⟩, decide_eq_false (by have := of_decide_eq_false h; omega)⟩
                  rw [htk, hb]; simp
                · by_cases e : i = j
                  · rw [e]; exact hdj
                  · exact hd i (by omega)
      · -- False
        refine O_end ?_
        refine W_else rfl ?_
        refine W_exit ?_
        refine xb_hit ?_
        refine W_seq ?_
        refine W_reg ?_ -- 14 ref.go:50
        refine o_move (v := .int _ _) rfl ?_
        refine o_assign (v := .int _ _) rfl ?_
        refine O_end ?_
        refine W_ret ?_
        refine ⟨rfl, ?_⟩
        refine ret1 Try.results7 (v := .int _ _) rfl ?_
        have hjl : j = l.length := by have := of_decide_eq_false h; omega
        subst hjl
        refine ⟨?_, hA⟩
        rw [List.take_length]
        unfold soundP; rw [if_neg hl0, if_neg hl1, if_neg (show ¬ dupP l = true by rw [dup_no hd]; simp)]

end Go.Proofs.Ytogpmiodnmigoaa
