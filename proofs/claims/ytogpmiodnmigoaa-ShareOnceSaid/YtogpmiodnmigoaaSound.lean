/-
  Package poly: sound.
-/
import Derived.Test.YtogpmiodnmigoaaTwice
set_option linter.unusedVariables false
set_option linter.unusedSimpArgs false
namespace Go.Proofs.Ytogpmiodnmigoaa
open Go Go.RowKit

def badP (x : Pt) : Bool := decide (x.a < 1) || decide (64 < x.a) || decide (2305843009213693951 ≤ x.v)
def soundP (l : List Pt) : Int := if l.length = 0 then 1 else if 64 < l.length then 1 else if dupP l = true then 1 else if l.any badP = true then 4 else 0

theorem l_sound {w : World} {A : Option Addr} {m c : Nat} {l : List Pt} (hR : Rd w 2 (.slice A m c) (flatP l)) (hl : l.length ≤ 140737488355328) : Calls Try.prog 30 #[.slice A m c] w fun e w' => ∃ v, e = .returned v ∧ (v = .int .i64 (soundP l) ∧ At w No [] w') := by
  obtain rfl := pt_len hR
  refine body_in (n := 37) (l := [.slice A l.length c]) en30 rfl Try.ntmps30 rfl ?_
  have hA := At.refl w
  refine W_seq ?_
  refine W_reg ?_ -- 0 poly.go:60
  refine o_assign (v := .int _ _) rfl ?_
  refine O_end ?_
  refine W_seq ?_
  refine W_seq ?_
  refine W_reg ?_ -- 1 poly.go:61
  refine o_move (by conv => lhs; whnf) ?_
  refine o_len Try.underlying23 rfl ?_
  refine o_cmp2 rfl rfl rfl (fun h => ?_) (fun h => ?_)
  · -- True
    refine o_move (v := .bool _) rfl ?_
    refine O_no rfl rfl rfl rfl ?_
    refine O_no rfl rfl rfl rfl ?_
    refine O_no rfl rfl rfl rfl ?_
    refine o_pick_t rfl (v := .bool _) rfl ?_
    refine o_move (v := .bool _) rfl ?_
    refine O_no rfl rfl rfl rfl ?_
    refine O_no rfl rfl rfl rfl ?_
    refine o_pick_t rfl (v := .bool _) rfl ?_
    refine O_end ?_
    refine W_then rfl ?_
    refine W_seq ?_
    refine W_reg ?_ -- 2 poly.go:62
    refine o_assign (v := .int _ _) rfl ?_
    refine O_end ?_
    refine W_ret ?_
    refine ⟨rfl, ?_⟩
    refine ret1 Try.results30 (v := .int _ _) rfl ?_
    exact ⟨by unfold soundP; rw [if_pos (by have := beq_iff_eq.1 h; omega)], hA⟩
  · -- False
    have hl0 : ¬ l.length = 0 := by have := beq_eq_false_iff_ne.1 h; omega
    refine o_move (v := .bool _) rfl ?_
    refine O_yes rfl rfl rfl ?_
    refine o_move (by conv => lhs; whnf) ?_
    refine O_yes rfl rfl rfl ?_
    refine o_len Try.underlying23 rfl ?_
    refine O_yes rfl rfl rfl ?_
    refine o_cmp2 rfl rfl rfl (fun h => ?_) (fun h => ?_)
    · -- True
      refine o_pick_f rfl (v := .bool _) rfl ?_
      refine o_move (v := .bool _) rfl ?_
      refine O_no rfl rfl rfl rfl ?_
      refine O_no rfl rfl rfl rfl ?_
      refine o_pick_t rfl (v := .bool _) rfl ?_
      refine O_end ?_
      refine W_then rfl ?_
      refine W_seq ?_
      refine W_reg ?_ -- 2 poly.go:62
      refine o_assign (v := .int _ _) rfl ?_
      refine O_end ?_
      refine W_ret ?_
      refine ⟨rfl, ?_⟩
      refine ret1 Try.results30 (v := .int _ _) rfl ?_
      exact ⟨by unfold soundP; rw [if_neg hl0, if_pos (by have := of_decide_eq_true h; omega)], hA⟩
    · -- False
      have hl1 : ¬ 64 < l.length := by have := of_decide_eq_false h; omega
      refine o_pick_f rfl (v := .bool _) rfl ?_
      refine o_move (v := .bool _) rfl ?_
      refine O_yes rfl rfl rfl ?_
      refine o_move (by conv => lhs; whnf) ?_
      refine O_yes rfl rfl rfl ?_
      refine O_callb en46 rfl (l_twice hR (by have := of_decide_eq_false h; omega)) (fun w1 hC h => ?_) (fun w1 hC h => ?_)
      · -- True
        have hA := (hA.after hC).clear
        refine o_pick_f rfl (v := .bool _) rfl ?_
        refine O_end ?_
        refine W_then rfl ?_
        refine W_seq ?_
        refine W_reg ?_ -- 2 poly.go:62
        refine o_assign (v := .int _ _) rfl ?_
        refine O_end ?_
        refine W_ret ?_
        refine ⟨rfl, ?_⟩
        refine ret1 Try.results30 (v := .int _ _) rfl ?_
        exact ⟨by unfold soundP; rw [if_neg hl0, if_neg hl1, if_pos h], hA⟩
      · -- False
        have hl2 : ¬ dupP l = true := by rw [h]; simp
        have hA := (hA.after hC).clear
        refine o_pick_f rfl (v := .bool _) rfl ?_
        refine O_end ?_
        refine W_else rfl ?_
        refine W_skip ?_
        refine W_seq ?_
        refine W_seq ?_
        refine W_reg ?_ -- 3 poly.go:64
        refine o_move (by conv => lhs; whnf) ?_
        refine o_len Try.underlying23 rfl ?_
        refine o_move (v := .int _ _) rfl ?_
        refine O_end ?_
        refine W_block ?_ -- 0
        refine W_loop (fun kk ρ w' => ∃ (j : Nat), kk = l.length - j ∧ j ≤ l.length ∧ ρ 19 = .int .i64 (j : Int) ∧ ρ 18 = .int .i64 (l.length : Int) ∧ ρ 17 = .slice A l.length c ∧ (∀ i x, i < j → l[i]? = some x → badP x = false) ∧ At w No [] w') l.length
          ⟨0, by simp, Nat.zero_le _, rfl, rfl, rfl, fun i x hi => by omega, hA⟩ ?_
        clear hA
        rintro kk ρ w1 ⟨j, rfl, hj, h19, h18, h17, hno, hA⟩
        refine W_known (t := 19) h19 ?_
        refine W_known (t := 18) h18 ?_
        refine W_known (t := 17) h17 ?_
        refine W_seq ?_
        refine W_reg ?_ -- 4 poly.go:64
        refine o_cmp2 rfl rfl rfl (fun h => ?_) (fun h => ?_)
        · -- True
          have hlt : j < l.length := by have := of_decide_eq_true h; omega
          obtain ⟨x, hx⟩ : ∃ x, l[j]? = some x := ⟨_, List.getElem?_eq_getElem hlt⟩
          obtain ⟨g0, o0, rfl⟩ := Rd.some hR (by rw [flatP_len]; omega)
          refine O_end ?_
          refine W_seq ?_
          refine W_then rfl ?_
          refine W_skip ?_
          refine W_seq ?_
          refine W_block ?_ -- 1
          refine W_seq ?_
          refine W_reg ?_ -- 5 poly.go:64
          refine o_index Try.underlying23 ti33 rfl rfl (by omega) (by omega) ?_
          refine o_loadN ag33 ti33 rfl (cs := ptc x) rfl (pt_cells (hR.old hA) hx) ?_
          refine o_alloc hA ti33 rfl (fun b2 w2 hA => ?_)
          refine o_store (cs' := [_, _]) (i := 0) hA rfl (by conv => lhs; whnf) rfl ti33 rfl rfl rfl rfl (fun w3 hA => ?_)
          refine O_end ?_
          refine W_seq ?_
          refine W_reg ?_ -- 6 poly.go:65
          refine o_fieldAddr fo33_0 rfl rfl ?_
          refine o_load1 ag3 rfl (hA.c 0 rfl rfl) ?_
          refine o_cmp2 rfl rfl rfl (fun h => ?_) (fun h => ?_)
          · -- True
            refine o_move (v := .bool _) rfl ?_
            refine O_no rfl rfl rfl rfl ?_
            refine O_no rfl rfl rfl rfl ?_
            refine O_no rfl rfl rfl rfl ?_
            refine o_pick_t rfl (v := .bool _) rfl ?_
            refine o_move (v := .bool _) rfl ?_
            refine O_no rfl rfl rfl rfl ?_
            refine O_no rfl rfl rfl rfl ?_
            refine O_no rfl rfl rfl rfl ?_
            refine o_pick_t rfl (v := .bool _) rfl ?_
            refine O_end ?_
            refine W_then rfl ?_
            refine W_seq ?_
            refine W_reg ?_ -- 7 poly.go:66
            refine o_assign (v := .int _ _) rfl ?_
            refine O_end ?_
            refine W_ret ?_
            refine xb_ret ?_
            refine xb_ret ?_
            refine ⟨rfl, ?_⟩
            refine ret1 Try.results30 (v := .int _ _) rfl ?_
            exact ⟨by unfold soundP; rw [if_neg hl0, if_neg hl1, if_neg hl2, if_pos (any_hit hx (by simp only [badP, Bool.or_eq_true]; exact .inl (.inl h)))], hA.clear⟩
          · -- False
            have k1 : decide (x.a < 1) = false := h
            refine o_move (v := .bool _) rfl ?_
            refine O_yes rfl rfl rfl ?_
            refine o_fieldAddr fo33_0 rfl rfl ?_
            refine O_yes rfl rfl rfl ?_
            refine o_load1 ag3 rfl (hA.c 0 rfl rfl) ?_
            refine O_yes rfl rfl rfl ?_
            refine o_cmp2 rfl rfl rfl (fun h => ?_) (fun h => ?_)
            · -- True
              refine o_pick_f rfl (v := .bool _) rfl ?_
              refine o_move (v := .bool _) rfl ?_
              refine O_no rfl rfl rfl rfl ?_
              refine O_no rfl rfl rfl rfl ?_
              refine O_no rfl rfl rfl rfl ?_
              refine o_pick_t rfl (v := .bool _) rfl ?_
              refine O_end ?_
              refine W_then rfl ?_
              refine W_seq ?_
              refine W_reg ?_ -- 7 poly.go:66
              refine o_assign (v := .int _ _) rfl ?_
              refine O_end ?_
              refine W_ret ?_
              refine xb_ret ?_
              refine xb_ret ?_
              refine ⟨rfl, ?_⟩
              refine ret1 Try.results30 (v := .int _ _) rfl ?_
              exact ⟨by unfold soundP; rw [if_neg hl0, if_neg hl1, if_neg hl2, if_pos (any_hit hx (by simp only [badP, Bool.or_eq_true]; exact .inl (.inr h)))], hA.clear⟩
            · -- False
              have k2 : decide (64 < x.a) = false := h
              refine o_pick_f rfl (v := .bool _) rfl ?_
              refine o_move (v := .bool _) rfl ?_
              refine O_yes rfl rfl rfl ?_
              refine o_fieldAddr fo33_1 rfl rfl ?_
              refine O_yes rfl rfl rfl ?_
              refine o_load1 ag22 rfl (hA.c 0 rfl rfl) ?_
              refine O_yes rfl rfl rfl ?_
              refine o_cmp2 rfl rfl rfl (fun h => ?_) (fun h => ?_)
              · -- True
                refine o_pick_f rfl (v := .bool _) rfl ?_
                refine O_end ?_
                refine W_then rfl ?_
                refine W_seq ?_
                refine W_reg ?_ -- 7 poly.go:66
                refine o_assign (v := .int _ _) rfl ?_
                refine O_end ?_
                refine W_ret ?_
                refine xb_ret ?_
                refine xb_ret ?_
                refine ⟨rfl, ?_⟩
                refine ret1 Try.results30 (v := .int _ _) rfl ?_
                exact ⟨by unfold soundP; rw [if_neg hl0, if_neg hl1, if_neg hl2, if_pos (any_hit hx (by simp only [badP, Bool.or_eq_true]; have h5 := of_decide_eq_true h; exact .inr (decide_eq_true (by omega))))], hA.clear⟩
              · -- False
                refine o_pick_f rfl (v := .bool _) rfl ?_
                refine O_end ?_
                refine W_else rfl ?_
                refine W_skip ?_
                refine W_reg ?_ -- 8 poly.go:64
                refine o_add rfl rfl (w64 (r := ((j + 1 : Nat) : Int)) (by omega) (by omega) (by omega)) ?_
                refine o_move (v := .int _ _) rfl ?_
                refine O_end ?_
                have h6 : ¬ ((2305843009213693951 : Int) ≤ (x.v : Int)) := of_decide_eq_false h
                exact ⟨l.length - (j + 1), by omega, j + 1, rfl, by omega, rfl, rfl, rfl, fun i y hi hy => by
                  by_cases e : i = j
                  · subst e; rw [hx] at hy; obtain rfl := Option.some.inj hy
                    simp only [badP]
                    rw [k1, k2, decide_eq_false (by omega)]; rfl
                  · exact hno i y (by omega) hy, hA.clear⟩
        · -- False
          refine O_end ?_
          refine W_seq ?_
          refine W_else rfl ?_
          refine W_exit ?_
          refine xb_hit ?_
          refine W_seq ?_
          refine W_reg ?_ -- 9 poly.go:69
          refine o_assign (v := .int _ _) rfl ?_
          refine O_end ?_
          refine W_ret ?_
          refine ⟨rfl, ?_⟩
          refine ret1 Try.results30 (v := .int _ _) rfl ?_
          exact ⟨by unfold soundP; rw [if_neg hl0, if_neg hl1, if_neg hl2, if_neg (by rw [any_step fun i x hi => hno i x (by have := of_decide_eq_false h; omega)]; simp)], hA⟩

end Go.Proofs.Ytogpmiodnmigoaa
