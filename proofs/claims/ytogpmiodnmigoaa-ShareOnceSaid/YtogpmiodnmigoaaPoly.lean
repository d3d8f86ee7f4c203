/-
  Package poly: trim; slices of numbers.
-/
import Derived.Test.YtogpmiodnmigoaaRefa
set_option linter.unusedVariables false
set_option linter.unusedSimpArgs false
namespace Go.Proofs.Ytogpmiodnmigoaa
open Go Go.RowKit

theorem row_some {w : World} {e : TypeId} {s m c : Nat} {A : Option Addr} {xs : List Value} (h : IsRow w e s (.slice A m c) xs) (hm : 0 < m) : ∃ g, A = some ⟨g, 0, none⟩ := by
  obtain ⟨A', m', c', he, hl, hc, hx, hr⟩ := h
  injection he with h1 h2 h3
  subst h1; subst h2; subst h3
  rcases hr with h0 | ⟨g, cur, h0, _⟩
  · omega
  · exact ⟨g, h0⟩
theorem urow_len {w : World} {e : TypeId} {m c : Nat} {A : Option Addr} {l : List Nat} (h : IsRow w e 1 (.slice A m c) (u64s l)) : m = l.length := u64_len h.rd
theorem urow_cap {w : World} {e : TypeId} {s m c : Nat} {A : Option Addr} {xs : List Value} (h : IsRow w e s (.slice A m c) xs) : m ≤ c := by
  obtain ⟨_, _, _, he, _, h, _⟩ := h
  injection he with _ h1 h2
  omega
theorem u64s_append (a b : List Nat) : u64s (a ++ b) = u64s a ++ u64s b := by simp [u64s]
theorem u64s_take (a : List Nat) (k : Nat) : (u64s a).take k = u64s (a.take k) := by simp [u64s]
def trimN (m : List Nat) : List Nat := (m.reverse.dropWhile (· == 0)).reverse
theorem trimN_snoc0 (a : List Nat) : trimN (a ++ [0]) = trimN a := by simp [trimN]
theorem trimN_snoc {x : Nat} (a : List Nat) (h : x ≠ 0) : trimN (a ++ [x]) = a ++ [x] := by
  simp [trimN, List.dropWhile_cons, h]
theorem split_last {l : List Nat} {x : Nat} (h : l[l.length - 1]? = some x) : l = l.take (l.length - 1) ++ [x] := by
  have hl := (List.getElem?_eq_some_iff.1 h).1
  have h2 : l = l.take (l.length - 1 + 1) := by rw [List.take_of_length_le (by omega)]
  rw [List.take_add_one, h] at h2
  exact h2

theorem s_clip {w : World} {D : Value} {xs : List Value} (hR : IsRow w 22 1 D xs) : Calls Try.prog 54 #[D] w fun e w' => ∃ v, e = .returned v ∧ (IsRow w' 22 1 v xs ∧ (∀ b, InBlk v b → InBlk D b) ∧ At w No [] w') := by
  obtain ⟨A, m, c, rfl, hlen, hc, hm, hd⟩ := id hR
  refine body_in (n := 9) (l := [.slice A m c]) en54 rfl Try.ntmps54 rfl ?_
  have hA := At.refl w
  refine W_seq ?_
  refine W_reg ?_ -- 0 slices.go:435
  refine o_assign (by conv => lhs; whnf) ?_
  refine O_end ?_
  refine W_seq ?_
  refine W_reg ?_ -- 1 slices.go:436
  refine o_move (by conv => lhs; whnf) ?_
  refine o_move (by conv => lhs; whnf) ?_
  refine o_len Try.underlying25 rfl ?_
  refine o_move (by conv => lhs; whnf) ?_
  refine o_len Try.underlying25 rfl ?_
  refine o_slice Try.underlying25 ti22 rfl (.inr ⟨_, rfl⟩) (.inr ⟨_, rfl⟩) (.inl ⟨rfl, rfl⟩) (by simp) (by omega) (Nat.le_refl _) (Nat.zero_le _) ?_
  refine o_assign (by conv => lhs; whnf) ?_
  refine O_end ?_
  refine W_ret ?_
  refine ⟨rfl, ?_⟩
  refine ret1 Try.results54 (by conv => lhs; whnf) ?_
  have hr := (hR.head (mm := m) (h := m) (by omega) (Nat.le_refl _) (Nat.le_refl _))
  rw [List.take_of_length_le (by omega)] at hr
  exact ⟨hr, fun b hb => cut_blk (s := 1) (by omega) (Nat.zero_le _) hb, hA⟩

theorem s_clone {w : World} {D : Value} {l : List Nat} (hR : Rd w 1 D (u64s l)) (hl : l.length ≤ 1000000) : Calls Try.prog 50 #[D] w fun e w' => ∃ v, e = .returned v ∧ (At w No [Row 22 1 v (u64s l)] w') := by
  obtain ⟨A, m, c, rfl, hlen, hc, hm, hd⟩ := id hR
  refine body_in (n := 8) (l := [.slice A m c]) en50 rfl Try.ntmps50 rfl ?_
  have hA := At.refl w
  refine W_seq ?_
  refine W_reg ?_ -- 0 slices.go:355
  refine o_assign (by conv => lhs; whnf) ?_
  refine O_end ?_
  refine W_seq ?_
  refine W_seq ?_
  refine W_reg ?_ -- 1 slices.go:357
  refine o_move (by conv => lhs; whnf) ?_
  refine o_eqnils2 Try.underlying25 rfl rfl (.inl ⟨rfl, rfl⟩) (fun h => ?_) (fun h => ?_)
  · -- True
    refine O_end ?_
    refine W_then rfl ?_
    refine W_seq ?_
    refine W_reg ?_ -- 2 slices.go:358
    refine o_assign (by conv => lhs; whnf) ?_
    refine O_end ?_
    refine W_ret ?_
    refine ⟨rfl, ?_⟩
    refine ret1 Try.results50 (by conv => lhs; whnf) ?_
    obtain rfl : A = none := by cases A with | none => rfl | some a => cases h
    obtain rfl : l = [] := by
      rcases hd with h0 | ⟨b, o, h0, _⟩
      · simpa [u64s] using h0
      · cases h0
    exact hA.nilRow 22 1 none
  · -- False
    refine O_end ?_
    refine W_else rfl ?_
    refine W_skip ?_
    refine W_seq ?_
    refine W_reg ?_ -- 3 slices.go:362
    refine o_buildSlice (cs := []) hA Try.underlying25 ti22 rfl rfl rfl rfl rfl (fun a1 w1 hA => ?_)
    refine o_move (by conv => lhs; whnf) ?_
    refine o_append (i := 0) hA rfl rfl rfl Try.underlying25 ti22 rfl (by decide) (hR.old hA) (u64s_one l) (fun m k h1 h2 => by simp [u64s] at h1 h2; omega) (fun m k h1 h2 => by simp [u64s] at h1 h2; omega) (fun v2 w2 hA => ?_)
    refine o_assign (by conv => lhs; whnf) ?_
    refine O_end ?_
    refine W_ret ?_
    refine ⟨rfl, ?_⟩
    refine ret1 Try.results50 (by conv => lhs; whnf) ?_
    exact hA

theorem l_trim {w : World} {D : Value} {l : List Nat} (hR : Rd w 1 D (u64s l)) (hl : l.length ≤ 1000000) : Calls Try.prog 51 #[D] w fun e w' => ∃ v, e = .returned v ∧ (At w No [Row 22 1 v (u64s (trimN (l.map (· % 2305843009213693951))))] w') := by
  obtain ⟨A, m, c, rfl, _⟩ := id hR
  obtain rfl := u64_len hR
  refine body_in (n := 38) (l := [.slice A l.length c]) en51 rfl Try.ntmps51 rfl ?_
  have hA := At.refl w
  refine W_seq ?_
  refine W_reg ?_ -- 0 poly.go:21
  refine o_assign (by conv => lhs; whnf) ?_
  refine O_end ?_
  refine W_seq ?_
  refine W_reg ?_ -- 1 poly.go:22
  refine o_buildSlice (cs := []) hA Try.underlying25 ti22 rfl rfl rfl rfl rfl (fun a1 w1 hA => ?_)
  refine o_assign (by conv => lhs; whnf) ?_
  refine O_end ?_
  refine W_seq ?_
  refine W_seq ?_
  refine W_reg ?_ -- 2 poly.go:23
  refine o_move (by conv => lhs; whnf) ?_
  refine o_len Try.underlying25 rfl ?_
  refine o_move (v := .int _ _) rfl ?_
  refine O_end ?_
  refine W_block ?_ -- 0
  refine W_loop (fun kk ρ w' => ∃ (j : Nat) (A' : Option Addr) (m' c' : Nat), kk = l.length - j ∧ j ≤ l.length ∧ ρ 9 = .int .i64 (j : Int) ∧ ρ 8 = .int .i64 (l.length : Int) ∧ ρ 7 = .slice A l.length c ∧ ρ 3 = .slice A' m' c' ∧
    At w No [Row 22 1 (.slice A' m' c') (u64s ((l.map (· % 2305843009213693951)).take j))] w') l.length ⟨0, _, _, _, by simp, Nat.zero_le _, rfl, rfl, rfl, rfl, hA⟩ ?_
  clear hA
  rintro kk ρ w1 ⟨j, A', m', c', rfl, hj, h9, h8, h7, h3, hA⟩
  refine W_known (t := 9) h9 ?_
  refine W_known (t := 8) h8 ?_
  refine W_known (t := 7) h7 ?_
  refine W_known (t := 3) h3 ?_
  refine W_seq ?_
  refine W_reg ?_ -- 3 poly.go:23
  refine o_cmp2 rfl rfl rfl (fun h => ?_) (fun h => ?_)
  · -- True
    have hlt : j < l.length := by simp at h; omega
    obtain ⟨x, hx⟩ : ∃ x, l[j]? = some x := ⟨_, List.getElem?_eq_getElem hlt⟩
    obtain ⟨gL, oL, rfl⟩ := Rd.some hR (by rw [u64s_len]; omega)
    refine O_end ?_
    refine W_seq ?_
    refine W_then rfl ?_
    refine W_skip ?_
    refine W_seq ?_
    refine W_block ?_ -- 1
    refine W_seq ?_
    refine W_reg ?_ -- 4 poly.go:23
    refine o_index Try.underlying25 ti22 rfl rfl (by omega) (by omega) ?_
    refine o_load1 ag22 rfl ((hR.old hA).cells (j := (j : Int).toNat * 1) (by rw [Nat.mul_one]; exact u64s_get hx)) ?_
    refine o_assign (v := .int _ _) rfl ?_
    refine O_end ?_
    refine W_reg ?_ -- 5 poly.go:24
    refine o_move (by conv => lhs; whnf) ?_
    refine o_move (v := .int _ _) rfl ?_
    refine O_calls en32 rfl p_mod (fun v2 w2 hC => ?_)
    obtain ⟨rfl, hC⟩ := hC
    have hA := (hA.after hC).take
    refine o_buildSlice (cs := [_]) hA Try.underlying25 ti22 rfl rfl rfl rfl rfl (fun a3 w3 hA => ?_)
    refine o_append (i := 1) hA rfl rfl rfl Try.underlying25 ti22 rfl (by decide) (hA.rd 0 rfl) (fun u hu => by simp only [List.mem_cons, List.not_mem_nil, or_false] at hu; rcases hu with rfl; rfl) (fun a k h1 h2 => by simp [u64s_len] at h1 h2; omega) (fun a k h1 h2 => by simp [u64s_len] at h1 h2; omega) (fun v4 w4 hA => ?_)
    refine o_assign (by conv => lhs; whnf) ?_
    refine O_end ?_
    refine W_reg ?_ -- 6 poly.go:23
    refine o_add rfl rfl (w64 (r := ((j + 1 : Nat) : Int)) (by omega) (by omega) (by omega)) ?_
    refine o_move (v := .int _ _) rfl ?_
    refine O_end ?_
    obtain ⟨A4, m4, c4, rfl⟩ := (hA.row 1 rfl).slice
    refine ⟨l.length - (j + 1), by omega, j + 1, A4, m4, c4, rfl, by omega, rfl, rfl, rfl, rfl, ?_⟩
    rw [List.take_add_one, List.getElem?_map, hx, u64s_append]
    exact hA.drop
  · -- False
    refine O_end ?_
    refine W_seq ?_
    refine W_else rfl ?_
    refine W_exit ?_
    refine xb_hit ?_
    refine W_seq ?_
    refine W_block ?_ -- 2
    have hjl : j = l.length := by simp at h; omega
    rw [List.take_of_length_le (by simp; omega)] at hA
    refine W_loop (fun kk ρ w' => ∃ (cur : List Nat) (A' : Option Addr) (m' c' : Nat), kk = cur.length ∧ cur.length ≤ l.length ∧ trimN cur = trimN (l.map (· % 2305843009213693951)) ∧ ρ 3 = .slice A' m' c' ∧ At w No [Row 22 1 (.slice A' m' c') (u64s cur)] w') (l.map (· % 2305843009213693951)).length
      ⟨_, _, _, _, rfl, by simp, rfl, rfl, hA⟩ ?_
    clear hA h
    rintro kk ρ w1 ⟨cur, A', m', c', rfl, hcl, hcur, h3, hA⟩
    obtain rfl := urow_len (hA.row 0 rfl)
    have hcc := urow_cap (hA.row 0 rfl)
    refine W_known (t := 3) h3 ?_
    refine W_seq ?_
    refine W_seq ?_
    refine W_reg ?_ -- 7 poly.go:26
    refine o_move (by conv => lhs; whnf) ?_
    refine o_len Try.underlying25 rfl ?_
    refine o_cmp2 rfl rfl rfl (fun h => ?_) (fun h => ?_)
    · -- True
      have hpos : 0 < cur.length := by simp at h; omega
      obtain ⟨x, hx⟩ : ∃ x, cur[cur.length - 1]? = some x := ⟨_, List.getElem?_eq_getElem (by omega)⟩
      obtain ⟨g, rfl⟩ := row_some (hA.row 0 rfl) hpos
      refine o_move (v := .bool _) rfl ?_
      refine O_yes rfl rfl rfl ?_
      refine o_move (by conv => lhs; whnf) ?_
      refine O_yes rfl rfl rfl ?_
      refine o_move (by conv => lhs; whnf) ?_
      refine O_yes rfl rfl rfl ?_
      refine o_len Try.underlying25 rfl ?_
      refine O_yes rfl rfl rfl ?_
      refine o_sub rfl rfl (w64 (r := ((cur.length - 1 : Nat) : Int)) (by omega) (by omega) (by omega)) ?_
      refine O_yes rfl rfl rfl ?_
      refine o_index Try.underlying25 ti22 rfl rfl (by omega) (by omega) ?_
      refine O_yes rfl rfl rfl ?_
      refine o_load1 ag22 rfl ((hA.rd 0 rfl).cells (j := ((cur.length - 1 : Nat) : Int).toNat * 1) (by rw [Nat.mul_one]; exact u64s_get hx)) ?_
      refine O_yes rfl rfl rfl ?_
      refine o_cmp2 rfl rfl rfl (fun h => ?_) (fun h => ?_)
      · -- True
        refine o_pick_t rfl (v := .bool _) rfl ?_
        refine O_end ?_
        refine W_then rfl ?_
        refine W_skip ?_
        refine W_block ?_ -- 3
        refine W_reg ?_ -- 8 poly.go:27
        refine o_move (by conv => lhs; whnf) ?_
        refine o_move (by conv => lhs; whnf) ?_
        refine o_len Try.underlying25 rfl ?_
        refine o_sub rfl rfl (w64 (r := ((cur.length - 1 : Nat) : Int)) (by omega) (by omega) (by omega)) ?_
        refine o_sliceg Try.underlying25 ti22 rfl (.inl ⟨rfl, rfl⟩) (.inr ⟨_, rfl⟩) (.inl ⟨rfl, rfl⟩) (by simp) (Nat.le_refl _) (by omega) (Nat.zero_le _) (by omega) ?_
        refine o_assign (by conv => lhs; whnf) ?_
        refine O_end ?_
        have hx0 : x = 0 := by
          have h2 : ((x : Int) == 0) = true := h
          have h3 := beq_iff_eq.1 h2
          omega
        have hA := hA.turn (c' := Row 22 1 (.slice (some ⟨g, 0, none⟩) (cur.length - 1) c') (u64s (cur.take (cur.length - 1)))) (by have h5 := (hA.row 0 rfl).headg (h := cur.length - 1) (by omega); rw [Nat.mul_one, u64s_take] at h5; exact h5) (fun b hb => by obtain ⟨a, _, _, he, h0, rfl⟩ := hb; injection he with he; exact ⟨a, _, c', by rw [he], by omega, rfl⟩)
        exact ⟨(cur.take (cur.length - 1)).length, by rw [List.length_take]; omega, cur.take (cur.length - 1), _, _, _, rfl, by rw [List.length_take]; omega, by rw [← hcur]; conv => rhs; rw [split_last hx, hx0, trimN_snoc0], rfl, hA⟩
      · -- False
        refine o_pick_t rfl (v := .bool _) rfl ?_
        refine O_end ?_
        refine W_else rfl ?_
        refine W_exit ?_
        refine xb_hit ?_
        refine W_seq ?_
        refine W_reg ?_ -- 9 poly.go:29
        refine o_move (by conv => lhs; whnf) ?_
        refine O_calls en54 rfl (s_clip (hA.row 0 rfl)) (fun v5 w5 hC => ?_)
        have hx0 : x ≠ 0 := by
          have h2 : ((x : Int) == 0) = false := h
          have h3 := beq_eq_false_iff_ne.1 h2
          omega
        obtain ⟨A5, m5, c5, rfl⟩ := hC.1.slice
        refine o_assign (by conv => lhs; whnf) ?_
        refine O_end ?_
        refine W_ret ?_
        refine ⟨rfl, ?_⟩
        refine ret1 Try.results51 (by conv => lhs; whnf) ?_
        have hA := hA.more hC.2.2
        have hA := (hA.turn (c' := Row 22 1 (.slice A5 m5 c5) (u64s (trimN (l.map (· % 2305843009213693951))))) (by rw [← hcur]; rw [split_last hx, trimN_snoc _ hx0, ← split_last hx]; exact hC.1) hC.2.1)
        exact hA
    · -- False
      refine o_move (v := .bool _) rfl ?_
      refine O_no rfl rfl rfl rfl ?_
      refine O_no rfl rfl rfl rfl ?_
      refine O_no rfl rfl rfl rfl ?_
      refine O_no rfl rfl rfl rfl ?_
      refine O_no rfl rfl rfl rfl ?_
      refine O_no rfl rfl rfl rfl ?_
      refine O_no rfl rfl rfl rfl ?_
      refine o_pick_f rfl (v := .bool _) rfl ?_
      refine O_end ?_
      refine W_else rfl ?_
      refine W_exit ?_
      refine xb_hit ?_
      refine W_seq ?_
      refine W_reg ?_ -- 9 poly.go:29
      refine o_move (by conv => lhs; whnf) ?_
      refine O_calls en54 rfl (s_clip (hA.row 0 rfl)) (fun v6 w6 hC => ?_)
      have hc0 : cur.length = 0 := by
        have h2 : decide ((0 : Int) < (cur.length : Int)) = false := h
        have h3 := of_decide_eq_false h2
        omega
      obtain ⟨A6, m6, c6, rfl⟩ := hC.1.slice
      refine o_assign (by conv => lhs; whnf) ?_
      refine O_end ?_
      refine W_ret ?_
      refine ⟨rfl, ?_⟩
      refine ret1 Try.results51 (by conv => lhs; whnf) ?_
      have hA := hA.more hC.2.2
      have hA := (hA.turn (c' := Row 22 1 (.slice A6 m6 c6) (u64s (trimN (l.map (· % 2305843009213693951))))) (by rw [← hcur]; rw [List.eq_nil_of_length_eq_zero hc0] at hC ⊢; show IsRow _ _ _ _ (u64s []) ; exact hC.1) hC.2.1)
      exact hA

end Go.Proofs.Ytogpmiodnmigoaa
