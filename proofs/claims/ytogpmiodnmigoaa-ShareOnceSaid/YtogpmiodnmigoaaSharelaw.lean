/-
  The laws' own functions: some, awake.
-/
import Derived.Test.YtogpmiodnmigoaaHide
set_option linter.unusedVariables false
set_option linter.unusedSimpArgs false
namespace Go.Proofs.Ytogpmiodnmigoaa
open Go Go.RowKit

theorem urow_cap' {w : World} {e : TypeId} {s m c : Nat} {A : Option Addr} {xs : List Value} (h : IsRow w e s (.slice A m c) xs) : m ≤ c := urow_cap h
def someL (l : List Pt) : List Pt := if 9 < l.length ∧ l.length ≤ 64 then l.take 9 else l
theorem aw_split : splitE 7 2 3 [4] = 0 := by decide
theorem aw_list : splitL 7 [4] (3 : Int).toNat = [⟨1, 11⟩, ⟨2, 15⟩, ⟨3, 19⟩] := rfl
theorem aw_join : joinF 2 [⟨2, 15⟩, ⟨3, 19⟩] = .tuple #[.int .u64 7, .int .i64 0] :=
  join_split (s := 7) (cf := [4]) (by decide) (by decide) fun i x hi hx => by
    have hi' : i = 0 ∨ i = 1 := by simp at hi; omega
    rcases hi' with rfl | rfl <;> (obtain rfl := Option.some.inj hx; rfl)
theorem aw_fits : fitsF 2 [⟨1, 11⟩, ⟨2, 15⟩, ⟨3, 19⟩] = .tuple #[.bool true, .int .i64 0] := once_fits (s := 7) (cf := [4]) (k := 0) (m := 11) (by decide) (by decide) (by decide)
theorem aw_other : otherE 9 2 [⟨1, 11⟩] = 0 := by decide
theorem aw_olist : otherL 9 2 [⟨1, 11⟩] = [2] := by
  have h1 := other_len aw_other
  have h2 := other_at (i := 0) aw_other rfl
  have h3 := other_lt (s := 9) (e := 2) (l := [⟨1, 11⟩])
  generalize otherL 9 2 [⟨1, 11⟩] = o at *
  match o, h1 with
  | [c], _ =>
    have h4 := h3 c List.mem_cons_self
    simp only [evN] at h2
    have h5 : (9 + 1 * (c + 1 * 0)) % 2305843009213693951 = 11 := h2
    congr 1
    omega

theorem c_some {w : World} {A : Option Addr} {m c : Nat} {l : List Pt} (hR : Rd w 2 (.slice A m c) (flatP l)) : Calls Try.prog 5 #[.slice A m c] w fun e w' => ∃ v, e = .returned v ∧ ((∃ A' m' c', v = .slice A' m' c') ∧ Rd w 2 v (flatP (someL l)) ∧ At w No [] w') := by
  obtain rfl := pt_len hR
  have hlc : l.length ≤ c := by obtain ⟨_, _, _, he, _, h, _⟩ := id hR; injection he with _ h1 h2; omega
  refine body_in (n := 14) (l := [.slice A l.length c]) en5 rfl Try.ntmps5 rfl ?_
  have hA := At.refl w
  refine W_seq ?_
  refine W_reg ?_ -- 0 law.go:24
  refine o_assign (by conv => lhs; whnf) ?_
  refine O_end ?_
  refine W_seq ?_
  refine W_seq ?_
  refine W_reg ?_ -- 1 law.go:25
  refine o_move (by conv => lhs; whnf) ?_
  refine o_len Try.underlying23 rfl ?_
  refine o_cmp2 rfl rfl rfl (fun h => ?_) (fun h => ?_)
  · -- True
    have q5 := of_decide_eq_true h
    refine o_move (v := .bool _) rfl ?_
    refine O_yes rfl rfl rfl ?_
    refine o_move (by conv => lhs; whnf) ?_
    refine O_yes rfl rfl rfl ?_
    refine o_len Try.underlying23 rfl ?_
    refine O_yes rfl rfl rfl ?_
    refine o_cmp2 rfl rfl rfl (fun h => ?_) (fun h => ?_)
    · -- True
      have q9 := of_decide_eq_true h
      refine o_pick_t rfl (v := .bool _) rfl ?_
      refine O_end ?_
      refine W_then rfl ?_
      refine W_seq ?_
      refine W_reg ?_ -- 2 law.go:26
      refine o_move (by conv => lhs; whnf) ?_
      refine o_slice (h := 9) Try.underlying23 ti33 rfl (.inl ⟨rfl, rfl⟩) (.inr ⟨_, rfl⟩) (.inl ⟨rfl, rfl⟩) (by simp) (Nat.le_refl _) (by omega) (Nat.zero_le _) ?_
      refine o_assign (by conv => lhs; whnf) ?_
      refine O_end ?_
      refine W_ret ?_
      refine ⟨rfl, ?_⟩
      refine ret1 Try.results5 (by conv => lhs; whnf) ?_
      have := hR.cut (l := 0) (h := 9) (mm := c) (Nat.le_refl _) (by omega) (Nat.zero_le _) (by omega)
      rw [flatP_take l 9 (by omega)] at this
      have hs : someL l = l.take 9 := if_pos (by omega)
      exact ⟨⟨_, _, _, rfl⟩, by rw [hs]; exact this, hA⟩
    · -- False
      have q9 := of_decide_eq_false h
      refine o_pick_t rfl (v := .bool _) rfl ?_
      refine O_end ?_
      refine W_else rfl ?_
      refine W_skip ?_
      refine W_seq ?_
      refine W_reg ?_ -- 3 law.go:28
      refine o_move (by conv => lhs; whnf) ?_
      refine o_assign (by conv => lhs; whnf) ?_
      refine O_end ?_
      refine W_ret ?_
      refine ⟨rfl, ?_⟩
      refine ret1 Try.results5 (by conv => lhs; whnf) ?_
      have hs : someL l = l := if_neg (by omega)
      exact ⟨⟨_, _, _, rfl⟩, by rw [hs]; exact hR, hA⟩
  · -- False
    have q5 := of_decide_eq_false h
    refine o_move (v := .bool _) rfl ?_
    refine O_no rfl rfl rfl rfl ?_
    refine O_no rfl rfl rfl rfl ?_
    refine O_no rfl rfl rfl rfl ?_
    refine o_pick_f rfl (v := .bool _) rfl ?_
    refine O_end ?_
    refine W_else rfl ?_
    refine W_skip ?_
    refine W_seq ?_
    refine W_reg ?_ -- 3 law.go:28
    refine o_move (by conv => lhs; whnf) ?_
    refine o_assign (by conv => lhs; whnf) ?_
    refine O_end ?_
    refine W_ret ?_
    refine ⟨rfl, ?_⟩
    refine ret1 Try.results5 (by conv => lhs; whnf) ?_
    have hs : someL l = l := if_neg (by omega)
    exact ⟨⟨_, _, _, rfl⟩, by rw [hs]; exact hR, hA⟩

theorem c_awake {w : World} : Calls Try.prog 8 #[] w fun e w' => ∃ v, e = .returned v ∧ (v = .bool true ∧ At w No [] w') := by
  refine body_in (n := 73) (l := []) en8 rfl Try.ntmps8 rfl ?_
  have hA := At.refl w
  refine W_seq ?_
  refine W_reg ?_ -- 0 law.go:12
  refine o_assign (v := .bool _) rfl ?_
  refine O_end ?_
  refine W_seq ?_
  refine W_reg ?_ -- 1 law.go:13
  refine o_buildSlice (cs := [_]) hA Try.underlying25 ti22 rfl rfl rfl rfl rfl (fun a1 w1 hA => ?_)
  refine O_calls en10 rfl (l_split (cf := [4]) (e := 2) (kk0 := 3) (hA.rd 0 rfl) (by omega) (by omega)) (fun v2 w2 hC => ?_)
  obtain ⟨u, rfl, hC⟩ := hC
  rw [aw_split, if_pos rfl, aw_list] at hC
  obtain ⟨UA, Um, Uc, rfl⟩ := (hC.row 0 rfl).slice
  obtain rfl : Um = 3 := pt_len (hC.rd 0 rfl)
  obtain ⟨ug, rfl⟩ := row_some (hC.row 0 rfl) (by omega)
  have hA := hA.more hC
  have hUc := urow_cap' (hA.row 0 rfl)
  rw [aw_split]
  refine o_move (by conv => lhs; whnf) ?_
  refine o_extract rfl rfl ?_
  refine o_extract rfl rfl ?_
  refine o_assign (by conv => lhs; whnf) ?_
  refine o_assign (v := .int _ _) rfl ?_
  refine O_end ?_
  refine W_seq ?_
  refine W_seq ?_
  refine W_reg ?_ -- 2 law.go:14
  refine o_move (v := .int _ _) rfl ?_
  refine o_cmp2 rfl rfl rfl (fun h => (by first | exact absurd h (by decide) | (exfalso; simp at h; omega) | (exfalso; simp at h))) (fun h => ?_)
  have q15 := bne_eq_false_iff_eq.1 h
  refine o_move (v := .bool _) rfl ?_
  refine O_yes rfl rfl rfl ?_
  refine o_move (by conv => lhs; whnf) ?_
  refine O_yes rfl rfl rfl ?_
  refine o_len Try.underlying23 rfl ?_
  refine O_yes rfl rfl rfl ?_
  refine o_cmp2 rfl rfl rfl (fun h => (by first | exact absurd h (by decide) | (exfalso; simp at h; omega) | (exfalso; simp at h))) (fun h => ?_)
  have q19 := bne_eq_false_iff_eq.1 h
  refine o_pick_f rfl (v := .bool _) rfl ?_
  refine O_end ?_
  refine W_else rfl ?_
  refine W_skip ?_
  refine W_seq ?_
  refine W_reg ?_ -- 4 law.go:17
  refine o_move (by conv => lhs; whnf) ?_
  refine o_slice (l := 1) Try.underlying23 ti33 rfl (.inl ⟨rfl, rfl⟩) (.inl ⟨rfl, rfl⟩) (.inr ⟨_, rfl⟩) (by simp) (Nat.le_refl _) (by omega) (by omega) ?_
  refine O_calls en21 rfl (l_join (e := 2) (l := [⟨2, 15⟩, ⟨3, 19⟩]) (by have := (hA.rd 0 rfl).cut (l := 1) (h := 3) (mm := Uc) (Nat.le_refl _) hUc (by omega) (by omega); exact this) (by simp)) (fun v3 w3 hC => ?_)
  rw [aw_join] at hC
  obtain ⟨rfl, hC⟩ := hC
  have hA := (hA.after hC).tail 0
  refine o_move (by conv => lhs; whnf) ?_
  refine o_extract rfl rfl ?_
  refine o_extract rfl rfl ?_
  refine o_assign (v := .int _ _) rfl ?_
  refine o_assign (v := .int _ _) rfl ?_
  refine O_end ?_
  refine W_seq ?_
  refine W_reg ?_ -- 5 law.go:18
  refine o_move (by conv => lhs; whnf) ?_
  refine O_calls en12 rfl (l_fits (e := 2) (l := [⟨1, 11⟩, ⟨2, 15⟩, ⟨3, 19⟩]) (hA.rd 0 rfl) (by simp)) (fun v4 w4 hC => ?_)
  rw [aw_fits] at hC
  obtain ⟨rfl, hC⟩ := hC
  have hA := (hA.after hC).tail 0
  refine o_move (by conv => lhs; whnf) ?_
  refine o_extract rfl rfl ?_
  refine o_extract rfl rfl ?_
  refine o_assign (v := .bool _) rfl ?_
  refine o_assign (v := .int _ _) rfl ?_
  refine O_end ?_
  refine W_seq ?_
  refine W_reg ?_ -- 6 law.go:19
  refine o_move (by conv => lhs; whnf) ?_
  refine o_slice (h := 1) Try.underlying23 ti33 rfl (.inl ⟨rfl, rfl⟩) (.inr ⟨_, rfl⟩) (.inl ⟨rfl, rfl⟩) (by simp) (Nat.le_refl _) (by omega) (by omega) ?_
  refine O_calls en6 rfl (l_other (e := 2) (l := [⟨1, 11⟩]) (by have := (hA.rd 0 rfl).cut (l := 0) (h := 1) (mm := Uc) (Nat.le_refl _) (by omega) (by omega) (by omega); exact this) (by omega) (by omega)) (fun v5 w5 hC => ?_)
  obtain ⟨u, rfl, hC⟩ := hC
  rw [aw_olist] at hC
  obtain ⟨VA, Vm, Vc, rfl⟩ := (hC.row 0 rfl).slice
  obtain rfl : Vm = 1 := u64_len (hC.rd 0 rfl)
  obtain ⟨vg, rfl⟩ := row_some (hC.row 0 rfl) (by omega)
  have hA := hA.more hC
  rw [aw_other]
  refine o_move (by conv => lhs; whnf) ?_
  refine o_extract rfl rfl ?_
  refine o_extract rfl rfl ?_
  refine o_assign (by conv => lhs; whnf) ?_
  refine o_assign (v := .int _ _) rfl ?_
  refine O_end ?_
  refine W_seq ?_
  refine W_reg ?_ -- 7 law.go:20
  refine o_move (v := .int _ _) rfl ?_
  refine o_cmp2 rfl rfl rfl (fun h => ?_) (fun h => (by first | exact absurd h (by decide) | (exfalso; simp at h; omega) | (exfalso; simp at h)))
  have q39 := beq_iff_eq.1 h
  refine o_move (v := .bool _) rfl ?_
  refine O_yes rfl rfl rfl ?_
  refine o_move (v := .int _ _) rfl ?_
  refine O_yes rfl rfl rfl ?_
  refine o_cmp2 rfl rfl rfl (fun h => ?_) (fun h => (by first | exact absurd h (by decide) | (exfalso; simp at h; omega) | (exfalso; simp at h)))
  have q42 := beq_iff_eq.1 h
  refine o_pick_t rfl (v := .bool _) rfl ?_
  refine o_move (v := .bool _) rfl ?_
  refine O_yes rfl rfl rfl ?_
  refine o_move (v := .int _ _) rfl ?_
  refine O_yes rfl rfl rfl ?_
  refine o_cmp2 rfl rfl rfl (fun h => ?_) (fun h => (by first | exact absurd h (by decide) | (exfalso; simp at h; omega) | (exfalso; simp at h)))
  have q46 := beq_iff_eq.1 h
  refine o_pick_t rfl (v := .bool _) rfl ?_
  refine o_move (v := .bool _) rfl ?_
  refine O_yes rfl rfl rfl ?_
  refine o_move (v := .int _ _) rfl ?_
  refine O_yes rfl rfl rfl ?_
  refine o_cmp2 rfl rfl rfl (fun h => ?_) (fun h => (by first | exact absurd h (by decide) | (exfalso; simp at h; omega) | (exfalso; simp at h)))
  have q50 := beq_iff_eq.1 h
  refine o_pick_t rfl (v := .bool _) rfl ?_
  refine o_move (v := .bool _) rfl ?_
  refine O_yes rfl rfl rfl ?_
  refine o_move (v := .bool _) rfl ?_
  refine o_pick_t rfl (v := .bool _) rfl ?_
  refine o_move (v := .bool _) rfl ?_
  refine O_yes rfl rfl rfl ?_
  refine o_move (by conv => lhs; whnf) ?_
  refine O_yes rfl rfl rfl ?_
  refine o_index Try.underlying23 ti33 rfl rfl (by omega) (by omega) ?_
  refine O_yes rfl rfl rfl ?_
  refine o_fieldAddr fo33_1 rfl rfl ?_
  refine O_yes rfl rfl rfl ?_
  refine o_load1 ag22 rfl ((hA.rd 1 rfl).cells (j := 5) (u := .int .u64 19) rfl) ?_
  refine O_yes rfl rfl rfl ?_
  refine o_cmp2 rfl rfl rfl (fun h => ?_) (fun h => (by first | exact absurd h (by decide) | (exfalso; simp at h; omega) | (exfalso; simp at h)))
  have q60 := beq_iff_eq.1 h
  refine o_pick_t rfl (v := .bool _) rfl ?_
  refine o_move (v := .bool _) rfl ?_
  refine O_yes rfl rfl rfl ?_
  refine o_move (by conv => lhs; whnf) ?_
  refine O_yes rfl rfl rfl ?_
  refine o_len Try.underlying25 rfl ?_
  refine O_yes rfl rfl rfl ?_
  refine o_cmp2 rfl rfl rfl (fun h => ?_) (fun h => (by first | exact absurd h (by decide) | (exfalso; simp at h; omega) | (exfalso; simp at h)))
  have q65 := beq_iff_eq.1 h
  refine o_pick_t rfl (v := .bool _) rfl ?_
  refine o_move (v := .bool _) rfl ?_
  refine O_yes rfl rfl rfl ?_
  refine o_move (by conv => lhs; whnf) ?_
  refine O_yes rfl rfl rfl ?_
  refine o_index Try.underlying25 ti22 rfl rfl (by omega) (by omega) ?_
  refine O_yes rfl rfl rfl ?_
  refine o_load1 ag22 rfl ((hA.rd 0 rfl).cells (j := 0) (u := .int .u64 2) rfl) ?_
  refine O_yes rfl rfl rfl ?_
  refine o_cmp rfl rfl rfl ?_
  refine o_pick_t rfl (v := .bool _) rfl ?_
  refine o_assign (v := .bool _) rfl ?_
  refine O_end ?_
  refine W_ret ?_
  refine ⟨rfl, ?_⟩
  refine ret1 Try.results8 (v := .bool _) rfl ?_
  exact ⟨rfl, hA.clear⟩

end Go.Proofs.Ytogpmiodnmigoaa
