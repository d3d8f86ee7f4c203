/-
  Road: walks.
-/
import Derived.Test.YtpgjmbppbckojaaTy
import Derived.Test.YtpgjmbppbckojaaRl
set_option linter.unusedVariables false
namespace Go.Proofs.Ytpgjmbppbckojaa
open Go Go.RowKit

theorem c_same {w : World} {d1 d2 : Int} {k1 k2 t1 t2 : Bool} {D1 D2 : Value} {l1 l2 : List UInt8} (hR1 : Rd w 1 D1 (u8s l1)) (hR2 : Rd w 1 D2 (u8s l2)) :
    Calls Try.prog 11 #[.agg #[.int .i64 d1, .bool k1, .bool t1, D1], .agg #[.int .i64 d2, .bool k2, .bool t2, D2]] w fun e w' => ∃ v, e = .returned v ∧ (v = .bool (d1 == d2 && k1 == k2 && t1 == t2 && decide (l1 = l2)) ∧ At w No [] w') := by
  refine body_in (n := 33) (l := [.agg #[.int .i64 d1, .bool k1, .bool t1, D1], .agg #[.int .i64 d2, .bool k2, .bool t2, D2]]) en11 rfl Try.ntmps11 rfl ?_
  have hA := At.refl w
  refine W_seq ?_
  refine W_reg ?_ -- 0 law.go:27
  refine o_box hA (by conv => lhs; whnf) rfl (fun b1 w1 hA => ?_)
  refine o_box hA (by conv => lhs; whnf) rfl (fun b2 w2 hA => ?_)
  refine o_assign (v := .bool _) rfl ?_
  refine O_end ?_
  refine W_seq ?_
  refine W_reg ?_ -- 1 law.go:28
  refine o_fieldAddr fo29_0 rfl rfl ?_
  refine o_load1 ag3 rfl (hA.c 1 rfl rfl) ?_
  refine o_fieldAddr fo29_0 rfl rfl ?_
  refine o_load1 ag3 rfl (hA.c 0 rfl rfl) ?_
  refine o_cmp2 rfl rfl rfl (fun h => ?_) (fun h => ?_)
  · -- True
    refine o_move (v := .bool _) rfl ?_
    refine O_yes rfl rfl rfl ?_
    refine o_fieldAddr fo29_1 rfl rfl ?_
    refine O_yes rfl rfl rfl ?_
    refine o_load1 ag4 rfl (hA.c 1 rfl rfl) ?_
    refine O_yes rfl rfl rfl ?_
    refine o_fieldAddr fo29_1 rfl rfl ?_
    refine O_yes rfl rfl rfl ?_
    refine o_load1 ag4 rfl (hA.c 0 rfl rfl) ?_
    refine O_yes rfl rfl rfl ?_
    refine o_eqb2 Try.underlying4 rfl rfl (.inl ⟨rfl, rfl⟩) (fun h => ?_) (fun h => ?_)
    · -- True
      refine o_pick_t rfl (v := .bool _) rfl ?_
      refine o_move (v := .bool _) rfl ?_
      refine O_yes rfl rfl rfl ?_
      refine o_fieldAddr fo29_2 rfl rfl ?_
      refine O_yes rfl rfl rfl ?_
      refine o_load1 ag4 rfl (hA.c 1 rfl rfl) ?_
      refine O_yes rfl rfl rfl ?_
      refine o_fieldAddr fo29_2 rfl rfl ?_
      refine O_yes rfl rfl rfl ?_
      refine o_load1 ag4 rfl (hA.c 0 rfl rfl) ?_
      refine O_yes rfl rfl rfl ?_
      refine o_eqb2 Try.underlying4 rfl rfl (.inl ⟨rfl, rfl⟩) (fun h => ?_) (fun h => ?_)
      · -- True
        refine o_pick_t rfl (v := .bool _) rfl ?_
        refine o_move (v := .bool _) rfl ?_
        refine O_yes rfl rfl rfl ?_
        refine o_fieldAddr fo29_3 rfl rfl ?_
        refine O_yes rfl rfl rfl ?_
        refine o_load1 ag27 rfl (hA.c 1 rfl rfl) ?_
        refine O_yes rfl rfl rfl ?_
        refine o_toString Try.underlying27 Try.underlying5 Try.underlying9 rfl (hR1.old hA) ?_
        refine O_yes rfl rfl rfl ?_
        refine o_fieldAddr fo29_3 rfl rfl ?_
        refine O_yes rfl rfl rfl ?_
        refine o_load1 ag27 rfl (hA.c 0 rfl rfl) ?_
        refine O_yes rfl rfl rfl ?_
        refine o_toString Try.underlying27 Try.underlying5 Try.underlying9 rfl (hR2.old hA) ?_
        refine O_yes rfl rfl rfl ?_
        refine o_eqs rfl rfl (.inl ⟨rfl, rfl⟩) ?_
        refine o_pick_t rfl (v := .bool _) rfl ?_
        refine o_assign (v := .bool _) rfl ?_
        refine O_end ?_
        refine W_ret ?_
        refine ⟨rfl, ?_⟩
        refine ret1 Try.results11 (v := .bool _) rfl ?_
        exact ⟨by simp_all, hA.clear⟩
      · -- False
        refine o_pick_t rfl (v := .bool _) rfl ?_
        refine o_move (v := .bool _) rfl ?_
        refine O_no rfl rfl rfl rfl ?_
        refine O_no rfl rfl rfl rfl ?_
        refine O_no rfl rfl rfl rfl ?_
        refine O_no rfl rfl rfl rfl ?_
        refine O_no rfl rfl rfl rfl ?_
        refine O_no rfl rfl rfl rfl ?_
        refine O_no rfl rfl rfl rfl ?_
        refine o_pick_f rfl (v := .bool _) rfl ?_
        refine o_assign (v := .bool _) rfl ?_
        refine O_end ?_
        refine W_ret ?_
        refine ⟨rfl, ?_⟩
        refine ret1 Try.results11 (v := .bool _) rfl ?_
        exact ⟨by simp_all, hA.clear⟩
    · -- False
      refine o_pick_t rfl (v := .bool _) rfl ?_
      refine o_move (v := .bool _) rfl ?_
      refine O_no rfl rfl rfl rfl ?_
      refine O_no rfl rfl rfl rfl ?_
      refine O_no rfl rfl rfl rfl ?_
      refine O_no rfl rfl rfl rfl ?_
      refine O_no rfl rfl rfl rfl ?_
      refine o_pick_f rfl (v := .bool _) rfl ?_
      refine o_move (v := .bool _) rfl ?_
      refine O_no rfl rfl rfl rfl ?_
      refine O_no rfl rfl rfl rfl ?_
      refine O_no rfl rfl rfl rfl ?_
      refine O_no rfl rfl rfl rfl ?_
      refine O_no rfl rfl rfl rfl ?_
      refine O_no rfl rfl rfl rfl ?_
      refine O_no rfl rfl rfl rfl ?_
      refine o_pick_f rfl (v := .bool _) rfl ?_
      refine o_assign (v := .bool _) rfl ?_
      refine O_end ?_
      refine W_ret ?_
      refine ⟨rfl, ?_⟩
      refine ret1 Try.results11 (v := .bool _) rfl ?_
      exact ⟨by simp_all, hA.clear⟩
  · -- False
    refine o_move (v := .bool _) rfl ?_
    refine O_no rfl rfl rfl rfl ?_
    refine O_no rfl rfl rfl rfl ?_
    refine O_no rfl rfl rfl rfl ?_
    refine O_no rfl rfl rfl rfl ?_
    refine O_no rfl rfl rfl rfl ?_
    refine o_pick_f rfl (v := .bool _) rfl ?_
    refine o_move (v := .bool _) rfl ?_
    refine O_no rfl rfl rfl rfl ?_
    refine O_no rfl rfl rfl rfl ?_
    refine O_no rfl rfl rfl rfl ?_
    refine O_no rfl rfl rfl rfl ?_
    refine O_no rfl rfl rfl rfl ?_
    refine o_pick_f rfl (v := .bool _) rfl ?_
    refine o_move (v := .bool _) rfl ?_
    refine O_no rfl rfl rfl rfl ?_
    refine O_no rfl rfl rfl rfl ?_
    refine O_no rfl rfl rfl rfl ?_
    refine O_no rfl rfl rfl rfl ?_
    refine O_no rfl rfl rfl rfl ?_
    refine O_no rfl rfl rfl rfl ?_
    refine O_no rfl rfl rfl rfl ?_
    refine o_pick_f rfl (v := .bool _) rfl ?_
    refine o_assign (v := .bool _) rfl ?_
    refine O_end ?_
    refine W_ret ?_
    refine ⟨rfl, ?_⟩
    refine ret1 Try.results11 (v := .bool _) rfl ?_
    exact ⟨by simp_all, hA.clear⟩

theorem c_clone {w : World} {D : Value} {l : List UInt8} (hR : Rd w 1 D (u8s l)) (hl : l.length ≤ 140737488355328) :
    Calls Try.prog 19 #[D] w fun e w' => ∃ v, e = .returned v ∧ At w No [Row 5 1 v (u8s l)] w' := by
  obtain ⟨A, m, c, rfl, hlen, hc, hm, hd⟩ := id hR
  refine body_in (n := 8) (l := [.slice A m c]) en19 rfl Try.ntmps19 rfl ?_
  have hA := At.refl w
  refine W_seq ?_
  refine W_reg ?_ -- 0 slices.go:355
  refine o_assign (by conv => lhs; whnf) ?_
  refine O_end ?_
  refine W_seq ?_
  refine W_seq ?_
  refine W_reg ?_ -- 1 slices.go:357
  refine o_move (by conv => lhs; whnf) ?_
  refine o_eqnils2 Try.underlying27 rfl rfl (.inl ⟨rfl, rfl⟩) (fun h => ?_) (fun h => ?_)
  · -- True
    refine O_end ?_
    refine W_then rfl ?_
    refine W_seq ?_
    refine W_reg ?_ -- 2 slices.go:358
    refine o_assign (by conv => lhs; whnf) ?_
    refine O_end ?_
    refine W_ret ?_
    refine ⟨rfl, ?_⟩
    refine ret1 Try.results19 (by conv => lhs; whnf) ?_
    obtain rfl : A = none := by cases A with | none => rfl | some a => cases h
    obtain rfl : l = [] := by
      rcases hd with h0 | ⟨b, o, h0, _⟩
      · simpa [u8s] using h0
      · cases h0
    exact hA.nilRow 5 1 none
  · -- False
    refine O_end ?_
    refine W_else rfl ?_
    refine W_skip ?_
    refine W_seq ?_
    refine W_reg ?_ -- 3 slices.go:362
    refine o_buildSlice (cs := []) hA Try.underlying27 ti5 rfl rfl rfl rfl rfl (fun a1 w1 hA => ?_)
    refine o_move (by conv => lhs; whnf) ?_
    refine o_append (i := 0) hA rfl rfl rfl Try.underlying27 ti5 rfl (by decide) (hR.old hA) (fun u hu => by simp only [u8s, List.mem_map] at hu; obtain ⟨q, _, rfl⟩ := hu; rfl) (fun m k h1 h2 => by simp [u8s] at h1 h2; omega) (fun m k h1 h2 => by simp [u8s] at h1 h2; omega) (fun v2 w2 hA => ?_)
    refine o_assign (by conv => lhs; whnf) ?_
    refine O_end ?_
    refine W_ret ?_
    refine ⟨rfl, ?_⟩
    refine ret1 Try.results19 (by conv => lhs; whnf) ?_
    exact hA

theorem c_clip {w : World} {D : Value} {l : List UInt8} (hR : IsRow w 5 1 D (u8s l)) :
    Calls Try.prog 18 #[D] w fun e w' => ∃ v, e = .returned v ∧ (IsRow w' 5 1 v (u8s l) ∧ (∀ b, InBlk v b → InBlk D b) ∧ At w No [] w') := by
  obtain ⟨A, m, c, rfl, hlen, hc, hm, hd⟩ := id hR
  refine body_in (n := 9) (l := [.slice A m c]) en18 rfl Try.ntmps18 rfl ?_
  have hA := At.refl w
  refine W_seq ?_
  refine W_reg ?_ -- 0 slices.go:435
  refine o_assign (by conv => lhs; whnf) ?_
  refine O_end ?_
  refine W_seq ?_
  refine W_reg ?_ -- 1 slices.go:436
  refine o_move (by conv => lhs; whnf) ?_
  refine o_move (by conv => lhs; whnf) ?_
  refine o_len Try.underlying27 rfl ?_
  refine o_move (by conv => lhs; whnf) ?_
  refine o_len Try.underlying27 rfl ?_
  refine o_slice Try.underlying27 ti5 rfl (.inr ⟨_, rfl⟩) (.inr ⟨_, rfl⟩) (.inl ⟨rfl, rfl⟩) (by simp) (by omega) (Nat.le_refl _) (Nat.zero_le _) ?_
  refine o_assign (by conv => lhs; whnf) ?_
  refine O_end ?_
  refine W_ret ?_
  refine ⟨rfl, ?_⟩
  refine ret1 Try.results18 (by conv => lhs; whnf) ?_
  have hr := (hR.head (mm := m) (h := m) (by omega) (Nat.le_refl _) (Nat.le_refl _))
  rw [List.take_of_length_le (by omega)] at hr
  exact ⟨hr, fun b hb => cut_blk (s := 1) (by omega) (Nat.zero_le _) hb, hA⟩

theorem c_own {w : World} {d : Int} {D : Value} {k t : Bool} {l : List UInt8} (hR : Rd w 1 D (u8s l)) (hl : l.length ≤ 140737488355328) :
    Calls Try.prog 15 #[.agg #[.int .i64 d, .bool k, .bool t, D]] w fun e w' => ∃ v, e = .returned v ∧ ∃ D', v = .agg #[.int .i64 d, .bool k, .bool t, D'] ∧ At w No [Row 5 1 D' (u8s l)] w' := by
  obtain ⟨A, m, c, rfl, _⟩ := id hR
  refine body_in (n := 9) (l := [.agg #[.int .i64 d, .bool k, .bool t, .slice A m c]]) en15 rfl Try.ntmps15 rfl ?_
  have hA := At.refl w
  refine W_seq ?_
  refine W_reg ?_ -- 0 road.go:30
  refine o_box hA (by conv => lhs; whnf) rfl (fun b1 w1 hA => ?_)
  refine o_alloc hA ti29 rfl (fun b2 w2 hA => ?_)
  refine O_end ?_
  refine W_seq ?_
  refine W_reg ?_ -- 1 road.go:31
  refine o_fieldAddr fo29_3 rfl rfl ?_
  refine o_load1 ag27 rfl (hA.c 1 rfl rfl) ?_
  refine O_calls en19 rfl (c_clone (hR.old hA) hl) (fun v3 w3 hC => ?_)
  have hA' := hA.more hC
  refine O_calls en18 rfl (c_clip (hA'.row 0 rfl)) (fun v4 w4 hC => ?_)
  have hA := hA'.more hC.2.2
  have hA := (hA.turn (c' := Row 5 1 v4 (u8s l)) hC.1 hC.2.1)
  obtain ⟨A4, m4, c4, rfl⟩ := hC.1.slice
  refine o_fieldAddr fo29_3 rfl rfl ?_
  refine o_store (cs' := [_, _, _, _]) (i := 2) hA rfl (by conv => lhs; whnf) rfl ti27 rfl rfl rfl rfl (fun w5 hA => ?_)
  refine O_end ?_
  refine W_seq ?_
  refine W_reg ?_ -- 2 road.go:32
  refine o_loadN ag29 ti29 rfl rfl (hA.cs (i := 2) (o := 0) (s := 4) (ds := [_, _, _, _]) rfl rfl) ?_
  refine o_store (cs' := [_, _, _, _]) (i := 1) hA rfl (by conv => lhs; whnf) rfl ti29 rfl rfl rfl rfl (fun w6 hA => ?_)
  refine O_end ?_
  refine W_ret ?_
  refine ⟨rfl, ?_⟩
  refine retc (i := 1) hA Try.results15 rfl ag29 ti29 rfl rfl ?_
  exact ⟨_, rfl, hA.keep 1⟩

theorem c_in {w : World} {b o m c : Nat} {A : Option Addr} {n : Int} (hc : w.cell? ⟨b, o, none⟩ = some (.slice A m c)) :
    Calls Try.prog 20 #[.pointer (some ⟨b, o, none⟩), .int .i64 n] w fun e w' => ∃ v, e = .returned v ∧ (v = .bool (decide (0 ≤ n) && decide (n < (m : Int))) ∧ At w No [] w') := by
  refine body_in (n := 16) (l := [.pointer (some ⟨b, o, none⟩), .int .i64 n]) en20 rfl Try.ntmps20 rfl ?_
  have hA := At.refl w
  refine W_seq ?_
  refine W_reg ?_ -- 0 road.go:14
  refine o_assign (v := .bool _) rfl ?_
  refine O_end ?_
  refine W_seq ?_
  refine W_reg ?_ -- 1 road.go:14
  refine o_move (v := .int _ _) rfl ?_
  refine o_cmp2 rfl rfl rfl (fun h => ?_) (fun h => ?_)
  · -- True
    refine o_move (v := .bool _) rfl ?_
    refine O_yes rfl rfl rfl ?_
    refine o_move (v := .int _ _) rfl ?_
    refine O_yes rfl rfl rfl ?_
    refine o_move (v := .pointer _) rfl ?_
    refine O_yes rfl rfl rfl ?_
    refine o_nilCheck rfl ?_
    refine O_yes rfl rfl rfl ?_
    refine o_fieldAddr fo47_0 rfl rfl ?_
    refine O_yes rfl rfl rfl ?_
    refine o_load1 ag26 rfl (hA.cell hc id) ?_
    refine O_yes rfl rfl rfl ?_
    refine o_len Try.underlying26 rfl ?_
    refine O_yes rfl rfl rfl ?_
    refine o_cmp rfl rfl rfl ?_
    refine o_pick_t rfl (v := .bool _) rfl ?_
    refine o_assign (v := .bool _) rfl ?_
    refine O_end ?_
    refine W_ret ?_
    refine ⟨rfl, ?_⟩
    refine ret1 Try.results20 (v := .bool _) rfl ?_
    exact ⟨by simp_all, hA.clear⟩
  · -- False
    refine o_move (v := .bool _) rfl ?_
    refine O_no rfl rfl rfl rfl ?_
    refine O_no rfl rfl rfl rfl ?_
    refine O_no rfl rfl rfl rfl ?_
    refine O_no rfl rfl rfl rfl ?_
    refine O_no rfl rfl rfl rfl ?_
    refine O_no rfl rfl rfl rfl ?_
    refine O_no rfl rfl rfl rfl ?_
    refine o_pick_f rfl (v := .bool _) rfl ?_
    refine o_assign (v := .bool _) rfl ?_
    refine O_end ?_
    refine W_ret ?_
    refine ⟨rfl, ?_⟩
    refine ret1 Try.results20 (v := .bool _) rfl ?_
    exact ⟨by simp_all; omega, hA.clear⟩

theorem c_at {w : World} {b o m c : Nat} {A : Option Addr} {n : Int} (hc : w.cell? ⟨b, o, none⟩ = some (.slice A m c)) :
    Calls Try.prog 16 #[.pointer (some ⟨b, o, none⟩), .int .i64 n] w fun e w' => ∃ v, e = .returned v ∧ (v = .int .i64 (if 0 ≤ n ∧ n < (m : Int) then 0 else 7) ∧ At w No [] w') := by
  refine body_in (n := 15) (l := [.pointer (some ⟨b, o, none⟩), .int .i64 n]) en16 rfl Try.ntmps16 rfl ?_
  have hA := At.refl w
  refine W_seq ?_
  refine W_reg ?_ -- 0 road.go:48
  refine o_assign (v := .int _ _) rfl ?_
  refine O_end ?_
  refine W_seq ?_
  refine W_block ?_ -- 0
  refine W_seq ?_
  refine W_reg ?_ -- 1 road.go:50
  refine o_move (v := .pointer _) rfl ?_
  refine o_eqnil2 Try.underlying23 rfl rfl (.inl ⟨rfl, rfl⟩) (fun h => ?_) (fun h => ?_)
  · -- True
    refine o_assign (v := .bool _) rfl ?_
    refine O_end ?_
    refine W_then rfl ?_
    refine W_seq ?_
    refine W_reg ?_ -- 2 road.go:51
    refine o_assign (v := .int _ _) rfl ?_
    refine O_end ?_
    refine W_ret ?_
    refine xb_ret ?_
    refine ⟨rfl, ?_⟩
    refine ret1 Try.results16 (v := .int _ _) rfl ?_
    simp at h
  · -- False
    refine o_assign (v := .bool _) rfl ?_
    refine O_end ?_
    refine W_else rfl ?_
    refine W_seq ?_
    refine W_reg ?_ -- 3 road.go:52
    refine o_move (v := .pointer _) rfl ?_
    refine o_nilCheck rfl ?_
    refine o_fieldAddr fo49_0 rfl rfl ?_
    refine o_move (v := .int _ _) rfl ?_
    refine O_callb (c := decide (0 ≤ n) && decide (n < (m : Int))) en20 rfl (c_in (hA.cell hc id)) (fun w1 hC h => ?_) (fun w1 hC h => ?_)
    · -- True
      have hA := hA.more hC
      refine o_not rfl ?_
      refine o_assign (v := .bool _) rfl ?_
      refine O_end ?_
      refine W_else rfl ?_
      refine W_skip ?_
      refine W_seq ?_
      refine W_reg ?_ -- 5 road.go:55
      refine o_assign (v := .int _ _) rfl ?_
      refine O_end ?_
      refine W_ret ?_
      refine ⟨rfl, ?_⟩
      refine ret1 Try.results16 (v := .int _ _) rfl ?_
      exact ⟨by rw [if_pos (by simp_all)], hA.clear⟩
    · -- False
      have hA := hA.more hC
      refine o_not rfl ?_
      refine o_assign (v := .bool _) rfl ?_
      refine O_end ?_
      refine W_then rfl ?_
      refine W_seq ?_
      refine W_reg ?_ -- 4 road.go:53
      refine o_assign (v := .int _ _) rfl ?_
      refine O_end ?_
      refine W_ret ?_
      refine xb_ret ?_
      refine ⟨rfl, ?_⟩
      refine ret1 Try.results16 (v := .int _ _) rfl ?_
      exact ⟨by rw [if_neg (by simp_all)], hA.clear⟩

theorem c_delete {w : World} {g m c i j : Nat} {xs : List Value} (hxl : xs.length = m * 4) (one : ∀ u ∈ ((xs.drop (j * 4)).take ((m - j) * 4)), u.oneCell' = true) (hij : j = i + 1) (hjm : j ≤ m) (hmc : m ≤ c) (hsm : m ≤ 1000)
    (hR : At w (SS [Row 29 4 (.slice (some ⟨g, 0, none⟩) m c) xs]) [Row 29 4 (.slice (some ⟨g, 0, none⟩) m c) xs] w) :
    Calls Try.prog 21 #[.slice (some ⟨g, 0, none⟩) m c, .int .i64 (i : Int), .int .i64 (j : Int)] w fun e w' => ∃ v, e = .returned v ∧ At w (SS [Row 29 4 (.slice (some ⟨g, 0, none⟩) m c) xs]) [Row 29 4 v (xs.take (i * 4) ++ (xs.drop (j * 4)).take ((m - j) * 4))] w' := by
  refine body_in (n := 33) (l := [.slice (some ⟨g, 0, none⟩) m c, .int .i64 (i : Int), .int .i64 (j : Int)]) en21 rfl Try.ntmps21 rfl ?_
  have hA := hR
  refine W_seq ?_
  refine W_reg ?_ -- 0 slices.go:224
  refine o_assign (by conv => lhs; whnf) ?_
  refine O_end ?_
  refine W_seq ?_
  refine W_reg ?_ -- 1 slices.go:225
  refine o_move (by conv => lhs; whnf) ?_
  refine o_move (v := .int _ _) rfl ?_
  refine o_move (v := .int _ _) rfl ?_
  refine o_move (by conv => lhs; whnf) ?_
  refine o_len Try.underlying26 rfl ?_
  refine o_slice Try.underlying26 ti29 rfl (.inr ⟨_, rfl⟩) (.inr ⟨_, rfl⟩) (.inr ⟨_, rfl⟩) (by simp) (by omega) (by omega) (by omega) ?_
  refine O_end ?_
  refine W_seq ?_
  refine W_seq ?_
  refine W_reg ?_ -- 2 slices.go:227
  refine o_move (v := .int _ _) rfl ?_
  refine o_move (v := .int _ _) rfl ?_
  refine o_cmp2 rfl rfl rfl (fun h => ?_) (fun h => ?_)
  · -- True
    refine O_end ?_
    refine W_then rfl ?_
    refine W_seq ?_
    refine W_reg ?_ -- 3 slices.go:228
    refine o_move (by conv => lhs; whnf) ?_
    refine o_assign (by conv => lhs; whnf) ?_
    refine O_end ?_
    refine W_ret ?_
    refine ⟨rfl, ?_⟩
    refine ret1 Try.results21 (by conv => lhs; whnf) ?_
    exfalso; simp at h; omega
  · -- False
    refine O_end ?_
    refine W_else rfl ?_
    refine W_skip ?_
    refine W_seq ?_
    refine W_reg ?_ -- 4 slices.go:231
    refine o_move (by conv => lhs; whnf) ?_
    refine o_len Try.underlying26 rfl ?_
    refine o_assign (v := .int _ _) rfl ?_
    refine O_end ?_
    refine W_seq ?_
    refine W_drawA hA [] mix rfl rfl (fun w0_5 hA => ?_) -- 5 slices.go:232
    refine D_take 0 rfl (by kernel_rfl) (by rintro _ _ _ ⟨h, _⟩; cases h) rfl (fun h => by cases h) (fun w hA => r_move (by conv => lhs; whnf)) ?_
    refine D_take 1 rfl (by kernel_rfl) (by rintro _ _ _ ⟨h, _⟩; cases h) rfl (fun h => by cases h) (fun w hA => r_move (v := .int _ _) rfl) ?_
    refine D_take 2 (v := .slice (some ⟨g, 0, none⟩) i c) rfl (by kernel_rfl) (by rintro _ _ _ ⟨h, _⟩; cases h) rfl (fun h => by cases h) (fun w hA => r_sliceg Try.underlying26 ti29 rfl (.inl ⟨rfl, rfl⟩) (.inr ⟨_, rfl⟩) (.inl ⟨rfl, rfl⟩) (by simp) (by omega) (by omega) (by omega) (by omega)) ?_
    refine D_take 3 rfl (by kernel_rfl) (by rintro _ _ _ ⟨h, _⟩; cases h) rfl (fun h => by cases h) (fun w hA => r_move (by conv => lhs; whnf)) ?_
    refine D_take 4 rfl (by kernel_rfl) (by rintro _ _ _ ⟨h, _⟩; cases h) rfl (fun h => by cases h) (fun w hA => r_move (v := .int _ _) rfl) ?_
    refine D_take 5 rfl (by kernel_rfl) (by rintro _ _ _ ⟨h, _⟩; cases h) rfl (fun h => by cases h) (fun w hA => r_slice Try.underlying26 ti29 rfl (.inl ⟨rfl, rfl⟩) (.inl ⟨rfl, rfl⟩) (.inr ⟨_, rfl⟩) (by simp) (by omega) (by omega) (by omega)) ?_
    refine D_run 6 (by kernel_rfl) rfl rfl ?_
    have hrd := ((hA.rd 0 rfl).cut (l := j) (h := m) (mm := c) (by omega) (by omega) (by omega) (by omega))
    have hA := hA.turn (c' := Row 29 4 (.slice (some ⟨g, 0, none⟩) i c) (xs.take (i * 4))) ((hA.row 0 rfl).headg (by omega)) (fun b hb => by obtain ⟨a, _, _, he, h0, rfl⟩ := hb; injection he with he; exact ⟨a, m, c, by rw [he], by omega, rfl⟩)
    refine o_appendin (i := 0) (k := m - j) hA rfl rfl rfl Try.underlying26 ti29 rfl (by decide) hrd one (fun a b h1 h2 => by simp [hxl] at h1 h2; omega) (fun a b h1 h2 => by simp [hxl] at h1 h2; omega) (by simp [hxl]; omega) (by omega) (fun w1 hA => ?_)
    refine O_end ⟨(fun h _ => nomatch (show false = true from h)), ?_⟩
    refine D_take 7 rfl (by kernel_rfl) (by rintro _ _ _ ⟨h, _⟩; cases h) rfl (fun h => by cases h) (fun w hA => r_assign (by conv => lhs; whnf)) ?_
    refine D_done (by kernel_rfl) ?_
    refine W_seq ?_
    refine W_reg ?_ -- 6 slices.go:233
    refine o_move (by conv => lhs; whnf) ?_
    refine o_move (by conv => lhs; whnf) ?_
    refine o_len Try.underlying26 rfl ?_
    refine o_move (v := .int _ _) rfl ?_
    refine o_sliceg Try.underlying26 ti29 rfl (.inl ⟨rfl, rfl⟩) (.inr ⟨_, rfl⟩) (.inr ⟨_, rfl⟩) (by simp) (by omega) (by omega) (by omega) (by omega) ?_
    refine o_clear_tail (i := 0) hA Try.underlying26 ti29 rfl rfl rfl rfl (by omega) (by omega) (by omega) (fun w2 hA => ?_)
    refine O_end ?_
    refine W_seq ?_
    refine W_reg ?_ -- 7 slices.go:234
    refine o_move (by conv => lhs; whnf) ?_
    refine o_assign (by conv => lhs; whnf) ?_
    refine O_end ?_
    refine W_ret ?_
    refine ⟨rfl, ?_⟩
    refine ret1 Try.results21 (by conv => lhs; whnf) ?_
    exact hA

theorem c_out {w : World} {b g m c i : Nat} {ds : List RL} {x : RL} (hm : ds.length = m) (hx : ds[i]? = some x) (hsm : m ≤ 1000)
    (hR : At w (SS [Row 29 4 (.slice (some ⟨g, 0, none⟩) m c) (flat ds), Cell b 49 [.slice (some ⟨g, 0, none⟩) m c]]) [Row 29 4 (.slice (some ⟨g, 0, none⟩) m c) (flat ds), Cell b 49 [.slice (some ⟨g, 0, none⟩) m c]] w) :
    Calls Try.prog 17 #[.pointer (some ⟨b, 0, none⟩), .int .i64 (i : Int)] w fun e w' => ∃ v, e = .returned v ∧ (v = .agg (rlc x).toArray ∧ ∃ sv, At w (SS [Row 29 4 (.slice (some ⟨g, 0, none⟩) m c) (flat ds), Cell b 49 [.slice (some ⟨g, 0, none⟩) m c]]) [Row 29 4 sv (flat (ds.eraseIdx i)), Cell b 49 [sv]] w') := by
  have hi : i < m := by rw [← hm]; exact (List.getElem?_eq_some_iff.1 hx).1
  have hmc : m ≤ c := by
    obtain ⟨_, _, _, he, _, h, _⟩ := hR.row 0 rfl
    injection he with _ h1 h2
    omega
  refine body_in (n := 25) (l := [.pointer (some ⟨b, 0, none⟩), .int .i64 (i : Int)]) en17 rfl Try.ntmps17 rfl ?_
  have hA := hR
  refine W_seq ?_
  refine W_reg ?_ -- 0 road.go:17
  refine o_alloc hA ti29 rfl (fun b1 w1 hA => ?_)
  refine O_end ?_
  refine W_seq ?_
  refine W_reg ?_ -- 1 road.go:18
  refine o_move (v := .pointer _) rfl ?_
  refine o_nilCheck rfl ?_
  refine o_fieldAddr fo47_0 rfl rfl ?_
  refine o_load1 ag26 rfl (hA.c 2 rfl rfl) ?_
  refine o_move (v := .int _ _) rfl ?_
  refine o_index Try.underlying26 ti29 rfl rfl (by omega) (by omega) ?_
  refine o_loadN ag29 ti29 rfl (cs := rlc x) rfl (fun j v hj => (by have := (hA.rd 1 rfl).cells (flat_cell hx hj); simpa [Nat.add_assoc] using this)) ?_
  refine o_alloc hA ti29 rfl (fun b2 w2 hA => ?_)
  refine o_store (cs' := [_, _, _, _]) (i := 0) hA rfl (by conv => lhs; whnf) rfl ti29 rfl rfl rfl rfl (fun w3 hA => ?_)
  refine O_end ?_
  refine W_seq ?_
  refine W_reg ?_ -- 2 road.go:19
  refine o_move (v := .pointer _) rfl ?_
  refine o_move (v := .pointer _) rfl ?_
  refine o_nilCheck rfl ?_
  refine o_fieldAddr fo47_0 rfl rfl ?_
  refine o_load1 ag26 rfl (hA.c 3 rfl rfl) ?_
  refine o_move (v := .int _ _) rfl ?_
  refine o_move (v := .int _ _) rfl ?_
  refine o_add rfl rfl (w64 (r := ((i + 1 : Nat) : Int)) (by omega) (by omega) (by omega)) ?_
  refine O_calls en21 rfl (c_delete (by rw [flat_len, hm]) (fun u hu => flat_one ds u (List.mem_of_mem_drop (List.mem_of_mem_take hu))) rfl (by omega) (by omega) (by omega) ((hA.pull 2 rfl).own (R := [_]))) (fun v4 w4 hC => ?_)
  have hA := (hA.pull 2 rfl).trans (F1 := [_]) hC
  obtain ⟨A', m', c', rfl⟩ := (hA.row 0 rfl).slice
  refine o_nilCheck rfl ?_
  refine o_fieldAddr fo47_0 rfl rfl ?_
  refine o_store (cs' := [_]) (i := 3) hA rfl (by conv => lhs; whnf) rfl ti26 rfl rfl rfl rfl (fun w5 hA => ?_)
  refine O_end ?_
  refine W_seq ?_
  refine W_reg ?_ -- 3 road.go:20
  refine o_loadN ag29 ti29 rfl rfl (hA.cs (i := 1) (o := 0) (s := 4) (ds := [_, _, _, _]) rfl rfl) ?_
  refine o_store (cs' := [_, _, _, _]) (i := 2) hA rfl (by conv => lhs; whnf) rfl ti29 rfl rfl rfl rfl (fun w6 hA => ?_)
  refine O_end ?_
  refine W_ret ?_
  refine ⟨rfl, ?_⟩
  refine retc (i := 2) hA Try.results17 rfl ag29 ti29 rfl rfl ?_
  exact ⟨rfl, _, by rw [← flat_erase' ds i m hm]; exact hA.sub (.cons_cons _ (.cons _ (.cons _ (.cons_cons _ .slnil))))⟩

theorem row_some {w : World} {e : TypeId} {s m c : Nat} {A : Option Addr} {xs : List Value} (h : IsRow w e s (.slice A m c) xs) (hm : 0 < m) : ∃ g, A = some ⟨g, 0, none⟩ := by
  obtain ⟨_, _, _, he, _, h1, _, h2⟩ := h
  injection he with e1 e2 e3
  rcases h2 with h2 | ⟨g, _, h2, _⟩
  · omega
  · exact ⟨g, e1.trans h2⟩


theorem c_take {w : World} {b : Nat} {sv : Value} {ds : List RL} {n : Int} (hsm : ds.length ≤ 1000) (hR : At w (SS (road b sv ds)) (road b sv ds) w) :
    Calls Try.prog 10 #[.pointer (some ⟨b, 0, none⟩), .int .i64 n] w fun e w' => ∃ v, e = .returned v ∧ ((¬ (0 ≤ n ∧ n < (ds.length : Int)) ∧ v = .tuple #[.agg #[.int .i64 0, .bool false, .bool false, .slice none 0 0], .int .i64 7] ∧ At w (SS (road b sv ds)) (road b sv ds) w') ∨
      ∃ (i : Nat) (x : RL), n = i ∧ ds[i]? = some x ∧ v = .tuple #[.agg (rlc x).toArray, .int .i64 0] ∧ ∃ sv', At w (SS (road b sv ds)) (Row 5 1 x.D (u8s x.l) :: road b sv' (ds.eraseIdx i)) w') := by
  obtain ⟨A, m, c, rfl⟩ := (hR.row 0 rfl).slice
  have hm : ds.length = m := by
    obtain ⟨_, _, _, he, h, _⟩ := hR.row 0 rfl
    injection he with _ h1 h2
    rw [flat_len] at h
    omega
  rw [hm]
  refine body_in (n := 19) (l := [.pointer (some ⟨b, 0, none⟩), .int .i64 n]) en10 rfl Try.ntmps10 rfl ?_
  have hA := hR
  refine W_seq ?_
  refine W_reg ?_ -- 0 road.go:59
  refine o_alloc hA ti29 rfl (fun b1 w1 hA => ?_)
  refine o_assign (v := .int _ _) rfl ?_
  refine O_end ?_
  refine W_seq ?_
  refine W_seq ?_
  refine W_reg ?_ -- 1 road.go:60
  refine o_move (v := .pointer _) rfl ?_
  refine o_move (v := .int _ _) rfl ?_
  refine O_calls en16 rfl (c_at (hA.c 2 rfl rfl)) (fun v2 w2 hC => ?_)
  obtain ⟨rfl, hC⟩ := hC
  have hA := hA.more hC
  refine o_assign (v := .int _ _) rfl ?_
  refine O_end ?_
  refine W_seq ?_
  refine W_reg ?_ -- 2 road.go:60
  refine o_move (v := .int _ _) rfl ?_
  refine o_cmp2 rfl rfl rfl (fun h => ?_) (fun h => ?_)
  · -- True
    refine O_end ?_
    refine W_then rfl ?_
    refine W_seq ?_
    refine W_reg ?_ -- 3 road.go:61
    refine o_build la29 rfl rfl ?_
    refine o_move (v := .int _ _) rfl ?_
    refine o_store (cs' := [_, _, _, _]) (i := 0) hA rfl (by conv => lhs; whnf) rfl ti29 rfl rfl rfl rfl (fun w3 hA => ?_)
    refine o_assign (v := .int _ _) rfl ?_
    refine O_end ?_
    refine W_ret ?_
    refine ⟨rfl, ?_⟩
    refine retct (i := 0) hA Try.results10 rfl (u := .int _ _) rfl ag29 ti29 rfl rfl ?_
    have hn : ¬ (0 ≤ n ∧ n < (m : Int)) := fun hn => by rw [if_pos hn] at h; cases h
    exact .inl ⟨hn, by rw [if_neg hn], hA.tail 1⟩
  · -- False
    have hn : 0 ≤ n ∧ n < (m : Int) := by
      refine Classical.byContradiction fun hn => ?_
      rw [if_neg hn] at h
      cases h
    obtain ⟨i, rfl⟩ := Int.eq_ofNat_of_zero_le hn.1
    have hi : i < ds.length := by omega
    obtain ⟨x, hx⟩ : ∃ x, ds[i]? = some x := ⟨_, List.getElem?_eq_getElem hi⟩
    obtain ⟨g, rfl⟩ := row_some (hR.row 0 rfl) (by omega)
    subst hm
    refine O_end ?_
    refine W_else rfl ?_
    refine W_skip ?_
    refine W_seq ?_
    refine W_reg ?_ -- 4 road.go:63
    refine o_move (v := .pointer _) rfl ?_
    refine o_nilCheck rfl ?_
    refine o_fieldAddr fo49_0 rfl rfl ?_
    refine o_move (v := .int _ _) rfl ?_
    refine O_calls en17 rfl (c_out rfl hx hsm (((hA.pull 2 rfl).pull 2 rfl).own (R := [_, _]))) (fun v4 w4 hC => ?_)
    obtain ⟨rfl, sv', hC⟩ := hC
    have hA := ((hA.pull 2 rfl).pull 2 rfl).trans (F1 := [_, _]) hC
    refine o_store (cs' := [_, _, _, _]) (i := 2) hA rfl (by conv => lhs; whnf) rfl ti29 rfl rfl rfl rfl (fun w5 hA => ?_)
    refine o_assign (v := .int _ _) rfl ?_
    refine O_end ?_
    refine W_ret ?_
    refine ⟨rfl, ?_⟩
    refine retct (i := 2) hA Try.results10 rfl (u := .int _ _) rfl ag29 ti29 rfl rfl ?_
    refine .inr ⟨i, x, rfl, hx, rfl, sv', ?_⟩
    exact ((hA.perm ((datas_erase hx).append_left [_, _, _])).pull 2 rfl).drop.pull 2 rfl

theorem c_send {w : World} {b : Nat} {sv D : Value} {ds : List RL} {d : Int} {k t : Bool} {l : List UInt8} (hsm : ds.length ≤ 1000) (hR : At w (SS (road b sv ds)) (road b sv ds) w) (hD : Rd w 1 D (u8s l)) (hl : l.length ≤ 140737488355328) :
    Calls Try.prog 9 #[.pointer (some ⟨b, 0, none⟩), .agg #[.int .i64 d, .bool k, .bool t, D]] w fun e w' => ∃ v, e = .returned v ∧ ((512 ≤ ds.length ∧ v = .int .i64 6 ∧ At w (SS (road b sv ds)) (road b sv ds) w') ∨
      (ds.length < 512 ∧ v = .int .i64 0 ∧ ∃ sv' A m c, At w (SS (road b sv ds)) (road b sv' (ds ++ [⟨d, k, t, A, m, c, l⟩])) w')) := by
  obtain ⟨A, m, c, rfl⟩ := (hR.row 0 rfl).slice
  obtain ⟨DA, Dm, Dc, rfl, _⟩ := id hD
  have hm : ds.length = m := by
    obtain ⟨_, _, _, he, h, _⟩ := hR.row 0 rfl
    injection he with _ h1 h2
    rw [flat_len] at h
    omega
  have hcell : w.cell? ⟨b, 0, none⟩ = some (.slice A m c) := hR.c 1 rfl rfl
  have hRow := hR.own (R := [_])
  have hne : ¬ SS [Row 29 4 (.slice A m c) (flat ds)] b := by
    rintro ⟨c', hc', hb⟩
    obtain rfl := List.mem_singleton.1 hc'
    exact (List.pairwise_cons.1 hR.apart).1 _ (List.mem_cons_self ..) b hb rfl
  refine body_in (n := 29) (l := [.pointer (some ⟨b, 0, none⟩), .agg #[.int .i64 d, .bool k, .bool t, .slice DA Dm Dc]]) en9 rfl Try.ntmps9 rfl ?_
  have hA := At.refl w
  refine W_seq ?_
  refine W_reg ?_ -- 0 road.go:36
  refine o_box hA (by conv => lhs; whnf) rfl (fun b1 w1 hA => ?_)
  refine o_assign (v := .int _ _) rfl ?_
  refine O_end ?_
  refine W_seq ?_
  refine W_block ?_ -- 0
  refine W_seq ?_
  refine W_reg ?_ -- 1 road.go:38
  refine o_move (v := .pointer _) rfl ?_
  refine o_eqnil2 Try.underlying23 rfl rfl (.inl ⟨rfl, rfl⟩) (fun h => ?_) (fun h => ?_)
  · -- True
    refine o_assign (v := .bool _) rfl ?_
    refine O_end ?_
    refine W_then rfl ?_
    refine W_seq ?_
    refine W_reg ?_ -- 2 road.go:39
    refine o_assign (v := .int _ _) rfl ?_
    refine O_end ?_
    refine W_ret ?_
    refine xb_ret ?_
    refine ⟨rfl, ?_⟩
    refine ret1 Try.results9 (v := .int _ _) rfl ?_
    simp at h
  · -- False
    refine o_assign (v := .bool _) rfl ?_
    refine O_end ?_
    refine W_else rfl ?_
    refine W_seq ?_
    refine W_reg ?_ -- 3 road.go:40
    refine o_move (v := .pointer _) rfl ?_
    refine o_nilCheck rfl ?_
    refine o_fieldAddr fo49_0 rfl rfl ?_
    refine o_fieldAddr fo47_0 rfl rfl ?_
    refine o_load1 ag26 rfl (hA.cell hcell id) ?_
    refine o_len Try.underlying26 rfl ?_
    refine o_cmp2 rfl rfl rfl (fun h => ?_) (fun h => ?_)
    · -- True
      refine o_assign (v := .bool _) rfl ?_
      refine O_end ?_
      refine W_then rfl ?_
      refine W_seq ?_
      refine W_reg ?_ -- 4 road.go:41
      refine o_assign (v := .int _ _) rfl ?_
      refine O_end ?_
      refine W_ret ?_
      refine xb_ret ?_
      refine ⟨rfl, ?_⟩
      refine ret1 Try.results9 (v := .int _ _) rfl ?_
      exact .inl ⟨by simp at h; omega, rfl, hR.more hA.clear⟩
    · -- False
      refine o_assign (v := .bool _) rfl ?_
      refine O_end ?_
      refine W_else rfl ?_
      refine W_skip ?_
      refine W_seq ?_
      refine W_drawB (At w (SS [Row 29 4 (.slice A m c) (flat ds)]) [Cell b1 29 [.int .i64 d, .bool k, .bool t, .slice DA Dm Dc]]) hA [5, 6] mix rfl rfl (fun w0_5 hA => ?_) -- 5 road.go:43
      refine D_take 0 rfl (by kernel_rfl) (by rintro _ _ _ ⟨h, _⟩; cases h) rfl (fun h => by cases h) (fun w hA => r_move (v := .pointer _) rfl) ?_
      refine D_take 1 rfl (by kernel_rfl) (by rintro _ _ _ ⟨h, _⟩; cases h) rfl (fun h => by cases h) (fun w hA => r_move (v := .pointer _) rfl) ?_
      refine D_take 2 rfl (by kernel_rfl) (by rintro _ _ _ ⟨h, _⟩; cases h) rfl (fun h => by cases h) (fun w hA => r_nilCheck rfl) ?_
      refine D_take 3 rfl (by kernel_rfl) (by rintro _ _ _ ⟨h, _⟩; cases h) rfl (fun h => by cases h) (fun w hA => r_fieldAddr fo49_0 rfl rfl) ?_
      refine D_take 4 rfl (by kernel_rfl) (by rintro _ _ _ ⟨h, _⟩; cases h) rfl (fun h => by cases h) (fun w hA => r_fieldAddr fo47_0 rfl rfl) ?_
      refine D_take 5 rfl (by kernel_rfl) (by rintro _ _ _ ⟨h, _⟩; cases h) rfl (fun _ => hA.weaken _) (fun w hA => r_load1 ag26 rfl ((hA rfl).cell hcell hne)) ?_
      refine D_take 6 rfl (by kernel_rfl) (by rintro _ _ _ ⟨h, _⟩; cases h) rfl (fun _ => hA.weaken _) (fun w hA => r_loadN ag29 ti29 rfl rfl ((hA rfl).cs (i := 0) (o := 0) (s := 4) (ds := [_, _, _, _]) rfl rfl)) ?_
      refine D_run 7 (by kernel_rfl) rfl rfl ?_
      refine O_calls en15 rfl (c_own (hD.old hA) hl) (fun v2 w2 hC => ?_)
      obtain ⟨D', rfl, hC⟩ := hC
      have hA := hA.more hC
      obtain ⟨A1, m1, c1, rfl⟩ := (hA.row 0 rfl).slice
      refine O_end ⟨fun _ _ => (hA.tail 1).weaken _, ?_⟩
      refine D_run 8 (by kernel_rfl) rfl rfl ?_
      refine o_buildSlice (cs := [_, _, _, _]) hA Try.underlying26 ti29 rfl rfl rfl rfl rfl (fun a3 w3 hA => ?_)
      refine O_end ⟨fun _ _ => (hA.tail 2).weaken _, ?_⟩
      refine D_run 9 (by kernel_rfl) rfl rfl ?_
      have hA := hRow.more hA
      refine o_append (i := 3) hA rfl rfl rfl Try.underlying26 ti29 rfl (by decide) (hA.rd 0 rfl) (oneAll_mem _ rfl) (fun p q h1 h2 => by rw [flat_len] at h1; simp at h2; omega) (fun p q h1 h2 => by rw [flat_len] at h1; simp at h2; omega) (fun v4 w4 hA => ?_)
      refine O_end ⟨fun _ _ => (hA.keep 3).tail 2, ?_⟩
      refine D_take 10 rfl (by kernel_rfl) (by rintro _ _ _ ⟨h, _⟩; cases h) rfl (fun h => by cases h) (fun w hA => r_nilCheck rfl) ?_
      refine D_take 11 rfl (by kernel_rfl) (by rintro _ _ _ ⟨h, _⟩; cases h) rfl (fun h => by cases h) (fun w hA => r_fieldAddr fo49_0 rfl rfl) ?_
      refine D_take 12 rfl (by kernel_rfl) (by rintro _ _ _ ⟨h, _⟩; cases h) rfl (fun h => by cases h) (fun w hA => r_fieldAddr fo47_0 rfl rfl) ?_
      refine D_run 13 (by kernel_rfl) rfl rfl ?_
      have hA := hR.trans (F1 := [_]) hA
      obtain ⟨A2, m2, c2, rfl⟩ := (hA.row 3 rfl).slice
      refine o_store (cs' := [_]) (i := 4) hA rfl (by conv => lhs; whnf) rfl ti26 rfl rfl rfl rfl (fun w5 hA => ?_)
      refine O_end ⟨(fun h _ => noNeed (by kernel_rfl) h), ?_⟩
      refine D_done (by kernel_rfl) ?_
      refine W_seq ?_
      refine W_reg ?_ -- 6 road.go:44
      refine o_assign (v := .int _ _) rfl ?_
      refine O_end ?_
      refine W_ret ?_
      refine ⟨rfl, ?_⟩
      refine ret1 Try.results9 (v := .int _ _) rfl ?_
      refine .inr ⟨by simp at h; omega, rfl, .slice A2 m2 c2, A1, m1, c1, ?_⟩
      rw [road_snoc]
      exact (hA.tail 1).rot.drop

end Go.Proofs.Ytpgjmbppbckojaa
