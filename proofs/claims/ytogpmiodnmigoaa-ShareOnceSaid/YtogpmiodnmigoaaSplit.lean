/-
  Package share: Split; slices.Clone of points.
-/
import Derived.Test.YtogpmiodnmigoaaShare
set_option linter.unusedVariables false
set_option linter.unusedSimpArgs false
namespace Go.Proofs.Ytogpmiodnmigoaa
open Go Go.RowKit

theorem flatP_one (l : List Pt) : ∀ u ∈ flatP l, u.oneCell' = true := by
  induction l with
  | nil => intro u hu; cases hu
  | cons p r ih =>
    intro u hu
    rw [flatP, List.mem_append] at hu
    rcases hu with hu | hu
    · simp only [ptc, List.mem_cons, List.not_mem_nil, or_false] at hu
      rcases hu with rfl | rfl <;> rfl
    · exact ih u hu
theorem flatP_drop (l : List Pt) (k : Nat) : (flatP l).drop (k * 2) = flatP (l.drop k) := by
  induction l generalizing k with
  | nil => simp [flatP]
  | cons p r ih =>
    cases k with
    | zero => simp
    | succ k =>
      rw [flatP, List.drop_succ_cons, ← ih k, show (k + 1) * 2 = (ptc p).length + k * 2 from by simp [ptc]; omega, List.drop_append]
      simp [ptc]
theorem flatP_take' (l : List Pt) (k : Nat) : (flatP l).take (k * 2) = flatP (l.take k) := by
  induction l generalizing k with
  | nil => simp [flatP]
  | cons p r ih =>
    cases k with
    | zero => simp [flatP]
    | succ k =>
      rw [flatP, List.take_succ_cons, flatP, ← ih k, show (k + 1) * 2 = (ptc p).length + k * 2 from by simp [ptc]; omega, List.take_length_add_append]
theorem flatP_put {l : List Pt} {j : Nat} {p : Pt} (hj : j < l.length) : (flatP l).take (j * 2) ++ ptc p ++ (flatP l).drop (j * 2 + 2) = flatP (l.set j p) := by
  rw [flatP_take', show j * 2 + 2 = (j + 1) * 2 from by omega, flatP_drop, List.set_eq_take_append_cons_drop, if_pos hj, flatP_append, flatP, List.append_assoc]
theorem made_pts (m : Nat) : (madeCells (Value.agg #[.int .i64 0, .int .u64 0]).cells (m * 2)).toList = flatP (List.replicate m ⟨0, 0⟩) := by
  refine List.ext_getElem? fun i => ?_
  simp only [madeCells, Array.toList_map, List.getElem?_map, Array.toList_range]
  by_cases h : i < m * 2
  · have hi : i = (i / 2) * 2 + i % 2 := by omega
    have hr : (List.replicate m (⟨0, 0⟩ : Pt))[i / 2]? = some ⟨0, 0⟩ := by rw [List.getElem?_replicate, if_pos (by omega)]
    have h2 : i % 2 = 0 ∨ i % 2 = 1 := by omega
    rw [List.getElem?_range h]
    rcases h2 with h2 | h2
    · rw [hi, h2]
      rw [flatP_cell (j := 0) hr rfl]
      simp [Value.cells]
    · rw [hi, h2]
      rw [flatP_cell (j := 1) hr rfl]
      simp [Value.cells]
  · rw [List.getElem?_eq_none (by simp; omega), List.getElem?_eq_none (by rw [flatP_len, List.length_replicate]; omega)]
    rfl
def splitE (s : Nat) (e k : Int) (cf : List Nat) : Int := if k < 1 ∨ 64 < k ∨ e < 1 ∨ k < e ∨ (cf.length : Int) ≠ e - 1 then 1 else if 2305843009213693951 ≤ s ∨ (cf.any fun a => decide (2305843009213693951 ≤ a)) = true then 4 else 0
def splitP (s : Nat) (cf : List Nat) (i : Nat) : Pt := ⟨((i + 1 : Nat) : Int), evN (s :: cf) (i + 1) % 2305843009213693951⟩
def splitL (s : Nat) (cf : List Nat) (k : Nat) : List Pt := (List.range k).map (splitP s cf)
def splitJ (s : Nat) (cf : List Nat) (k j : Nat) : List Pt := (List.range k).map fun i => if i < j then splitP s cf i else ⟨0, 0⟩
theorem splitJ_len (s : Nat) (cf : List Nat) (k j : Nat) : (splitJ s cf k j).length = k := by simp [splitJ]
theorem splitJ_zero (s : Nat) (cf : List Nat) (k : Nat) : splitJ s cf k 0 = List.replicate k ⟨0, 0⟩ := by
  refine List.ext_getElem? fun i => ?_
  simp only [splitJ, List.getElem?_map, List.getElem?_replicate]
  by_cases h : i < k <;> simp [h]
theorem splitJ_all (s : Nat) (cf : List Nat) (k : Nat) : splitJ s cf k k = splitL s cf k := by
  unfold splitJ splitL
  refine List.map_congr_left fun i hi => ?_
  rw [if_pos (List.mem_range.1 hi)]
theorem splitJ_step {s : Nat} {cf : List Nat} {k j : Nat} (hj : j < k) : splitJ s cf k (j + 1) = (splitJ s cf k j).set j (splitP s cf j) := by
  refine List.ext_getElem? fun i => ?_
  by_cases h : i = j
  · subst h
    rw [List.getElem?_set_self (by rw [splitJ_len]; exact hj)]
    simp [splitJ, hj]
  · rw [List.getElem?_set_ne (fun e => h e.symm)]
    simp only [splitJ, List.getElem?_map]
    by_cases hk : i < k
    · simp only [List.getElem?_range hk, Option.map_some]
      have : i < j + 1 ↔ i < j := by omega
      simp only [this]
    · simp [hk]

theorem s_clone_p {w : World} {A : Option Addr} {m c : Nat} {l : List Pt} (hR : Rd w 2 (.slice A m c) (flatP l)) (hl : l.length ≤ 1000000) : Calls Try.prog 15 #[.slice A m c] w fun e w' => ∃ v, e = .returned v ∧ (At w No [Row 33 2 v (flatP l)] w') := by
  have hml := pt_len hR
  refine body_in (n := 8) (l := [.slice A m c]) en15 rfl Try.ntmps15 rfl ?_
  have hA := At.refl w
  refine W_seq ?_
  refine W_reg ?_ -- 0 slices.go:355
  refine o_assign (by conv => lhs; whnf) ?_
  refine O_end ?_
  refine W_seq ?_
  refine W_seq ?_
  refine W_reg ?_ -- 1 slices.go:357
  refine o_move (by conv => lhs; whnf) ?_
  refine o_eqnils2 Try.underlying23 rfl rfl (.inl ⟨rfl, rfl⟩) (fun h => ?_) (fun h => ?_)
  · -- True
    have q4 := h
    refine O_end ?_
    refine W_then rfl ?_
    refine W_seq ?_
    refine W_reg ?_ -- 2 slices.go:358
    refine o_assign (by conv => lhs; whnf) ?_
    refine O_end ?_
    refine W_ret ?_
    refine ⟨rfl, ?_⟩
    refine ret1 Try.results15 (by conv => lhs; whnf) ?_
    have hn : A = none := by cases A with | none => rfl | some a => cases h
    subst hn
    have hl0 : l = [] := by
      obtain ⟨_, _, _, he, h1, _, _, h2⟩ := id hR
      injection he with e1 e2 e3
      subst e1
      rcases h2 with h2 | ⟨b, o, h2, _⟩
      · cases l with | nil => rfl | cons _ _ => simp [flatP, ptc] at h2
      · cases h2
    subst hl0
    exact hA.nilRow _ 2 none
  · -- False
    have q4 := h
    refine O_end ?_
    refine W_else rfl ?_
    refine W_skip ?_
    refine W_seq ?_
    refine W_reg ?_ -- 3 slices.go:362
    refine o_buildSlice (cs := []) hA Try.underlying23 ti33 rfl rfl rfl rfl rfl (fun a1 w1 hA => ?_)
    refine o_move (by conv => lhs; whnf) ?_
    refine o_append (i := 0) hA rfl rfl rfl Try.underlying23 ti33 rfl (by decide) (hR.old hA) (flatP_one _) (fun m k h1 h2 => by simp only [List.length_nil, flatP_len] at h1 h2; omega) (fun m k h1 h2 => by simp only [List.length_nil, flatP_len] at h1 h2; omega) (fun v2 w2 hA => ?_)
    refine o_assign (by conv => lhs; whnf) ?_
    refine O_end ?_
    refine W_ret ?_
    refine ⟨rfl, ?_⟩
    refine ret1 Try.results15 (by conv => lhs; whnf) ?_
    rw [List.nil_append] at hA
    exact hA

theorem l_split {w : World} {A : Option Addr} {m c s : Nat} {e kk0 : Int} {cf : List Nat} (hR : Rd w 1 (.slice A m c) (u64s cf)) (he0 : -1000000 ≤ e) (he1 : e ≤ 1000000) : Calls Try.prog 10 #[.int .u64 (s : Int), .int .i64 e, .int .i64 kk0, .slice A m c] w fun ee w' => ∃ v, ee = .returned v ∧ ∃ u, v = .tuple #[u, .int .i64 (splitE s e kk0 cf)] ∧ At w No [Row 33 2 u (flatP (if splitE s e kk0 cf = 0 then splitL s cf kk0.toNat else []))] w' := by
  obtain rfl := u64_len hR
  refine body_in (n := 63) (l := [.int .u64 (s : Int), .int .i64 e, .int .i64 kk0, .slice A cf.length c]) en10 rfl Try.ntmps10 rfl ?_
  have hA := At.refl w
  refine W_seq ?_
  refine W_reg ?_ -- 0 share.go:25
  refine o_assign (by conv => lhs; whnf) ?_
  refine o_assign (v := .int _ _) rfl ?_
  refine O_end ?_
  refine W_seq ?_
  refine W_seq ?_
  refine W_reg ?_ -- 1 share.go:26
  refine o_move (v := .int _ _) rfl ?_
  refine o_cmp2 rfl rfl rfl (fun h => ?_) (fun h => ?_)
  · -- True
    have q14 := of_decide_eq_true h
    refine o_move (v := .bool _) rfl ?_
    refine O_no rfl rfl rfl rfl ?_
    refine O_no rfl rfl rfl rfl ?_
    refine o_pick_t rfl (v := .bool _) rfl ?_
    refine o_move (v := .bool _) rfl ?_
    refine O_no rfl rfl rfl rfl ?_
    refine O_no rfl rfl rfl rfl ?_
    refine o_pick_t rfl (v := .bool _) rfl ?_
    refine o_move (v := .bool _) rfl ?_
    refine O_no rfl rfl rfl rfl ?_
    refine O_no rfl rfl rfl rfl ?_
    refine O_no rfl rfl rfl rfl ?_
    refine o_pick_t rfl (v := .bool _) rfl ?_
    refine o_move (v := .bool _) rfl ?_
    refine O_no rfl rfl rfl rfl ?_
    refine O_no rfl rfl rfl rfl ?_
    refine O_no rfl rfl rfl rfl ?_
    refine O_no rfl rfl rfl rfl ?_
    refine O_no rfl rfl rfl rfl ?_
    refine o_pick_t rfl (v := .bool _) rfl ?_
    refine O_end ?_
    refine W_then rfl ?_
    refine W_seq ?_
    refine W_reg ?_ -- 2 share.go:27
    refine o_assign (by conv => lhs; whnf) ?_
    refine o_assign (v := .int _ _) rfl ?_
    refine O_end ?_
    refine W_ret ?_
    refine ⟨rfl, ?_⟩
    refine ret2 Try.results10 (by conv => lhs; whnf) (u := .int _ _) rfl ?_
    have hE : splitE s e kk0 cf = 1 := by rw [splitE, if_pos (by omega)]
    exact ⟨_, by rw [hE], by rw [hE]; exact hA.nilRow _ 2 none⟩
  · -- False
    have q14 := of_decide_eq_false h
    refine o_move (v := .bool _) rfl ?_
    refine O_yes rfl rfl rfl ?_
    refine o_move (v := .int _ _) rfl ?_
    refine O_yes rfl rfl rfl ?_
    refine o_cmp2 rfl rfl rfl (fun h => ?_) (fun h => ?_)
    · -- True
      have q17 := of_decide_eq_true h
      refine o_pick_f rfl (v := .bool _) rfl ?_
      refine o_move (v := .bool _) rfl ?_
      refine O_no rfl rfl rfl rfl ?_
      refine O_no rfl rfl rfl rfl ?_
      refine o_pick_t rfl (v := .bool _) rfl ?_
      refine o_move (v := .bool _) rfl ?_
      refine O_no rfl rfl rfl rfl ?_
      refine O_no rfl rfl rfl rfl ?_
      refine O_no rfl rfl rfl rfl ?_
      refine o_pick_t rfl (v := .bool _) rfl ?_
      refine o_move (v := .bool _) rfl ?_
      refine O_no rfl rfl rfl rfl ?_
      refine O_no rfl rfl rfl rfl ?_
      refine O_no rfl rfl rfl rfl ?_
      refine O_no rfl rfl rfl rfl ?_
      refine O_no rfl rfl rfl rfl ?_
      refine o_pick_t rfl (v := .bool _) rfl ?_
      refine O_end ?_
      refine W_then rfl ?_
      refine W_seq ?_
      refine W_reg ?_ -- 2 share.go:27
      refine o_assign (by conv => lhs; whnf) ?_
      refine o_assign (v := .int _ _) rfl ?_
      refine O_end ?_
      refine W_ret ?_
      refine ⟨rfl, ?_⟩
      refine ret2 Try.results10 (by conv => lhs; whnf) (u := .int _ _) rfl ?_
      have hE : splitE s e kk0 cf = 1 := by rw [splitE, if_pos (by omega)]
      exact ⟨_, by rw [hE], by rw [hE]; exact hA.nilRow _ 2 none⟩
    · -- False
      have q17 := of_decide_eq_false h
      refine o_pick_f rfl (v := .bool _) rfl ?_
      refine o_move (v := .bool _) rfl ?_
      refine O_yes rfl rfl rfl ?_
      refine o_move (v := .int _ _) rfl ?_
      refine O_yes rfl rfl rfl ?_
      refine o_cmp2 rfl rfl rfl (fun h => ?_) (fun h => ?_)
      · -- True
        have q21 := of_decide_eq_true h
        refine o_pick_f rfl (v := .bool _) rfl ?_
        refine o_move (v := .bool _) rfl ?_
        refine O_no rfl rfl rfl rfl ?_
        refine O_no rfl rfl rfl rfl ?_
        refine O_no rfl rfl rfl rfl ?_
        refine o_pick_t rfl (v := .bool _) rfl ?_
        refine o_move (v := .bool _) rfl ?_
        refine O_no rfl rfl rfl rfl ?_
        refine O_no rfl rfl rfl rfl ?_
        refine O_no rfl rfl rfl rfl ?_
        refine O_no rfl rfl rfl rfl ?_
        refine O_no rfl rfl rfl rfl ?_
        refine o_pick_t rfl (v := .bool _) rfl ?_
        refine O_end ?_
        refine W_then rfl ?_
        refine W_seq ?_
        refine W_reg ?_ -- 2 share.go:27
        refine o_assign (by conv => lhs; whnf) ?_
        refine o_assign (v := .int _ _) rfl ?_
        refine O_end ?_
        refine W_ret ?_
        refine ⟨rfl, ?_⟩
        refine ret2 Try.results10 (by conv => lhs; whnf) (u := .int _ _) rfl ?_
        have hE : splitE s e kk0 cf = 1 := by rw [splitE, if_pos (by omega)]
        exact ⟨_, by rw [hE], by rw [hE]; exact hA.nilRow _ 2 none⟩
      · -- False
        have q21 := of_decide_eq_false h
        refine o_pick_f rfl (v := .bool _) rfl ?_
        refine o_move (v := .bool _) rfl ?_
        refine O_yes rfl rfl rfl ?_
        refine o_move (v := .int _ _) rfl ?_
        refine O_yes rfl rfl rfl ?_
        refine o_move (v := .int _ _) rfl ?_
        refine O_yes rfl rfl rfl ?_
        refine o_cmp2 rfl rfl rfl (fun h => ?_) (fun h => ?_)
        · -- True
          have q26 := of_decide_eq_true h
          refine o_pick_f rfl (v := .bool _) rfl ?_
          refine o_move (v := .bool _) rfl ?_
          refine O_no rfl rfl rfl rfl ?_
          refine O_no rfl rfl rfl rfl ?_
          refine O_no rfl rfl rfl rfl ?_
          refine O_no rfl rfl rfl rfl ?_
          refine O_no rfl rfl rfl rfl ?_
          refine o_pick_t rfl (v := .bool _) rfl ?_
          refine O_end ?_
          refine W_then rfl ?_
          refine W_seq ?_
          refine W_reg ?_ -- 2 share.go:27
          refine o_assign (by conv => lhs; whnf) ?_
          refine o_assign (v := .int _ _) rfl ?_
          refine O_end ?_
          refine W_ret ?_
          refine ⟨rfl, ?_⟩
          refine ret2 Try.results10 (by conv => lhs; whnf) (u := .int _ _) rfl ?_
          have hE : splitE s e kk0 cf = 1 := by rw [splitE, if_pos (by omega)]
          exact ⟨_, by rw [hE], by rw [hE]; exact hA.nilRow _ 2 none⟩
        · -- False
          have q26 := of_decide_eq_false h
          refine o_pick_f rfl (v := .bool _) rfl ?_
          refine o_move (v := .bool _) rfl ?_
          refine O_yes rfl rfl rfl ?_
          refine o_move (by conv => lhs; whnf) ?_
          refine O_yes rfl rfl rfl ?_
          refine o_len Try.underlying25 rfl ?_
          refine O_yes rfl rfl rfl ?_
          refine o_move (v := .int _ _) rfl ?_
          refine O_yes rfl rfl rfl ?_
          refine o_sub rfl rfl (w64 rfl (by omega) (by omega)) ?_
          refine O_yes rfl rfl rfl ?_
          refine o_cmp2 rfl rfl rfl (fun h => ?_) (fun h => ?_)
          · -- True
            have q33 := bne_iff_ne.1 h
            refine o_pick_f rfl (v := .bool _) rfl ?_
            refine O_end ?_
            refine W_then rfl ?_
            refine W_seq ?_
            refine W_reg ?_ -- 2 share.go:27
            refine o_assign (by conv => lhs; whnf) ?_
            refine o_assign (v := .int _ _) rfl ?_
            refine O_end ?_
            refine W_ret ?_
            refine ⟨rfl, ?_⟩
            refine ret2 Try.results10 (by conv => lhs; whnf) (u := .int _ _) rfl ?_
            have hE : splitE s e kk0 cf = 1 := by rw [splitE, if_pos (by omega)]
            exact ⟨_, by rw [hE], by rw [hE]; exact hA.nilRow _ 2 none⟩
          · -- False
            have q33 := bne_eq_false_iff_eq.1 h
            refine o_pick_f rfl (v := .bool _) rfl ?_
            refine O_end ?_
            refine W_else rfl ?_
            refine W_skip ?_
            refine W_seq ?_
            refine W_seq ?_
            refine W_reg ?_ -- 3 share.go:29
            refine o_move (v := .int _ _) rfl ?_
            refine O_callb en14 rfl c_large (fun w1 hC h => ?_) (fun w1 hC h => ?_)
            · -- True
              have hA := (hA.after hC).take
              have q36 := h
              refine o_move (v := .bool _) rfl ?_
              refine O_no rfl rfl rfl rfl ?_
              refine O_no rfl rfl rfl rfl ?_
              refine o_pick_t rfl (v := .bool _) rfl ?_
              refine O_end ?_
              refine W_then rfl ?_
              refine W_seq ?_
              refine W_reg ?_ -- 4 share.go:30
              refine o_assign (by conv => lhs; whnf) ?_
              refine o_assign (v := .int _ _) rfl ?_
              refine O_end ?_
              refine W_ret ?_
              refine ⟨rfl, ?_⟩
              refine ret2 Try.results10 (by conv => lhs; whnf) (u := .int _ _) rfl ?_
              have hE : splitE s e kk0 cf = 4 := by rw [splitE, if_neg (by omega), if_pos (.inl (by simpa using q36))]
              exact ⟨_, by rw [hE], by rw [hE]; exact hA.nilRow _ 2 none⟩
            · -- False
              have hA := (hA.after hC).take
              have q36 := h
              refine o_move (v := .bool _) rfl ?_
              refine O_yes rfl rfl rfl ?_
              refine o_move (by conv => lhs; whnf) ?_
              refine O_yes rfl rfl rfl ?_
              refine O_callb en23 rfl (s_contains_u (p := fun a => decide (2305843009213693951 ≤ a)) (fi := []) (ca := []) en14 (hR.old hA) (by omega) (fun w' a hA' ha => c_large)) (fun w2 hC h => ?_) (fun w2 hC h => ?_)
              · -- True
                have hA := (hA.after hC).take
                have q39 := h
                refine o_pick_f rfl (v := .bool _) rfl ?_
                refine O_end ?_
                refine W_then rfl ?_
                refine W_seq ?_
                refine W_reg ?_ -- 4 share.go:30
                refine o_assign (by conv => lhs; whnf) ?_
                refine o_assign (v := .int _ _) rfl ?_
                refine O_end ?_
                refine W_ret ?_
                refine ⟨rfl, ?_⟩
                refine ret2 Try.results10 (by conv => lhs; whnf) (u := .int _ _) rfl ?_
                have hE : splitE s e kk0 cf = 4 := by rw [splitE, if_neg (by omega), if_pos (.inr (by simpa using q39))]
                exact ⟨_, by rw [hE], by rw [hE]; exact hA.nilRow _ 2 none⟩
              · -- False
                have hA := (hA.after hC).take
                have q39 := h
                refine o_pick_f rfl (v := .bool _) rfl ?_
                refine O_end ?_
                refine W_else rfl ?_
                refine W_skip ?_
                refine W_seq ?_
                refine W_reg ?_ -- 5 share.go:32
                refine o_move (v := .int _ _) rfl ?_
                refine o_buildSlice (cs := [_]) hA Try.underlying25 ti22 rfl rfl rfl rfl rfl (fun a3 w3 hA => ?_)
                refine o_move (by conv => lhs; whnf) ?_
                refine o_buildSlice (cs := [_, _]) hA Try.underlying65 ti25 rfl rfl rfl rfl rfl (fun a4 w4 hA => ?_)
                refine O_calls en24 rfl (s_concat (ps := [(.slice (some a3) 1 1, [s]), (.slice A cf.length c, cf)]) (hA.rd 0 rfl) (by
      intro p hp
      rcases List.mem_cons.1 hp with rfl | hp
      · exact hA.rd 1 rfl
      · obtain rfl := List.mem_singleton.1 hp
        exact hR.old hA) (by simp [catP]) (by simp [catP]; omega) (by simp)) (fun v5 w5 hC => ?_)
                have hcat : catP [(Value.slice (some a3) 1 1, [s]), (.slice A cf.length c, cf)] = s :: cf := by simp [catP]
                rw [hcat] at hC
                have hA := hA.more hC
                obtain ⟨CA, Cm, Cc, rfl⟩ := (hA.row 0 rfl).slice
                refine o_makeFunc rfl rfl ?_ -- Go.Fn.func 25
                refine o_assign (by conv => lhs; whnf) ?_
                refine O_end ?_
                refine W_seq ?_
                obtain ⟨k, rfl⟩ : ∃ k : Nat, kk0 = (k : Int) := ⟨kk0.toNat, by omega⟩
                refine W_reg ?_ -- 6 share.go:33
                refine o_move (v := .int _ _) rfl ?_
                refine o_make hA Try.underlying23 ti33 rfl (by omega) (by simp only [maxLen]; omega) (fun a6 w6 hA => ?_)
                refine o_assign (by conv => lhs; whnf) ?_
                refine O_end ?_
                refine W_seq ?_
                refine W_seq ?_
                refine W_reg ?_ -- 7 share.go:34
                refine o_move (by conv => lhs; whnf) ?_
                refine o_len Try.underlying23 rfl ?_
                refine o_move (v := .int _ _) rfl ?_
                refine O_end ?_
                refine W_block ?_ -- 0
                rw [made_pts, ← splitJ_zero s cf k] at hA
                have hA := hA.keep 2
                refine W_loop (fun kk ρ w' => ∃ (j : Nat), kk = k - j ∧ j ≤ k ∧ ρ 51 = .int .i64 (j : Int) ∧ ρ 50 = .int .i64 (k : Int) ∧ ρ 11 = .slice (some ⟨a6, 0, none⟩) k k ∧ ρ 10 = .func (.func 25) #[.slice CA Cm Cc] #[] ∧ At w No [Row 33 2 (.slice (some ⟨a6, 0, none⟩) k k) (flatP (splitJ s cf k j)), Row 22 1 (.slice CA Cm Cc) (u64s (s :: cf))] w') k
                  ⟨0, by simp, Nat.zero_le _, rfl, rfl, rfl, rfl, hA⟩ ?_
                clear hA
                rintro kk ρ w1 ⟨j, rfl, hj, h51, h50, h11, h10, hA⟩
                refine W_known (t := 51) h51 ?_
                refine W_known (t := 50) h50 ?_
                refine W_known (t := 11) h11 ?_
                refine W_known (t := 10) h10 ?_
                refine W_seq ?_
                refine W_reg ?_ -- 8 share.go:34
                refine o_cmp2 rfl rfl rfl (fun h => ?_) (fun h => ?_)
                · -- True
                  have q52 := of_decide_eq_true h
                  have hlt : j < k := by omega
                  refine O_end ?_
                  refine W_seq ?_
                  refine W_then rfl ?_
                  refine W_skip ?_
                  refine W_seq ?_
                  refine W_block ?_ -- 1
                  refine W_seq ?_
                  refine W_reg ?_ -- 9 share.go:34
                  refine o_move (v := .int _ _) rfl ?_
                  refine o_assign (v := .int _ _) rfl ?_
                  refine O_end ?_
                  refine W_reg ?_ -- 10 share.go:35
                  refine o_move (by conv => lhs; whnf) ?_
                  refine o_move (v := .int _ _) rfl ?_
                  refine o_move (by conv => lhs; whnf) ?_
                  refine o_move (v := .int _ _) rfl ?_
                  refine o_add rfl rfl (w64 (r := ((j + 1 : Nat) : Int)) (by omega) (by omega) (by omega)) ?_
                  refine O_callv (fi := [.slice CA Cm Cc]) (ca := []) en25 rfl rfl (c_point (a := ((j + 1 : Nat) : Int)) (hA.rd 1 rfl) (by simp; omega) (by omega) (by omega)) (fun v7 w7 hC => ?_)
                  obtain ⟨rfl, hC⟩ := hC
                  have hA := (hA.after hC).take
                  refine o_index Try.underlying23 ti33 rfl rfl (by omega) (by omega) ?_
                  have hjl : j < (splitJ s cf k j).length := by rw [splitJ_len]; omega
                  refine o_storeRow (i := 0) (xs' := flatP (splitJ s cf k (j + 1))) hA rfl rfl rfl ti33 rfl rfl (by rw [flatP_len, splitJ_len]; simp only [Int.toNat_natCast]; omega) rfl (by rw [Nat.zero_add, Int.toNat_natCast, splitJ_step (by omega), ← flatP_put hjl]; rfl) (fun w9 hA => ?_)
                  refine O_end ?_
                  refine W_reg ?_ -- 11 share.go:34
                  refine o_add rfl rfl (w64 (r := ((j + 1 : Nat) : Int)) (by omega) (by omega) (by omega)) ?_
                  refine o_move (v := .int _ _) rfl ?_
                  refine O_end ?_
                  exact ⟨k - (j + 1), by omega, j + 1, rfl, by omega, rfl, rfl, rfl, rfl, hA⟩
                · -- False
                  have q52 := of_decide_eq_false h
                  refine O_end ?_
                  refine W_seq ?_
                  refine W_else rfl ?_
                  refine W_exit ?_
                  refine xb_hit ?_
                  refine W_seq ?_
                  refine W_reg ?_ -- 12 share.go:37
                  refine o_move (by conv => lhs; whnf) ?_
                  refine o_assign (by conv => lhs; whnf) ?_
                  refine o_assign (v := .int _ _) rfl ?_
                  refine O_end ?_
                  refine W_ret ?_
                  refine ⟨rfl, ?_⟩
                  refine ret2 Try.results10 (by conv => lhs; whnf) (u := .int _ _) rfl ?_
                  have hjl : j = k := by omega
                  subst hjl
                  have hno : ¬ (2305843009213693951 ≤ s ∨ (cf.any fun a => decide (2305843009213693951 ≤ a)) = true) := by
                    simp only [q39, or_false, Bool.false_eq_true]
                    simpa using q36
                  have hE : splitE s e (j : Int) cf = 0 := by rw [splitE, if_neg (by omega), if_neg hno]
                  exact ⟨_, by rw [hE], by
                    rw [hE]
                    show At w No [Row _ 2 _ (flatP (splitL s cf _))] _
                    rw [Int.toNat_natCast, ← splitJ_all]
                    exact hA.keep 1⟩

end Go.Proofs.Ytogpmiodnmigoaa
