/-
  Package slices with function values: IndexFunc, ContainsFunc; points as cells.
-/
import Derived.Test.YtogpmiodnmigoaaPoly
set_option linter.unusedVariables false
set_option linter.unusedSimpArgs false
namespace Go.Proofs.Ytogpmiodnmigoaa
open Go Go.RowKit

/-- A point: where, and what. -/
structure Pt where
  a : Int
  v : Nat
def ptc (p : Pt) : List Value := [.int .i64 p.a, .int .u64 (p.v : Int)]
def flatP : List Pt → List Value
  | [] => []
  | p :: r => ptc p ++ flatP r
theorem flatP_len : ∀ l : List Pt, (flatP l).length = l.length * 2
  | [] => rfl
  | p :: r => by simp [flatP, ptc, flatP_len r]; omega
theorem flatP_cell : ∀ {l : List Pt} {i j : Nat} {p : Pt} {v : Value}, l[i]? = some p → (ptc p)[j]? = some v → (flatP l)[i * 2 + j]? = some v
  | [], i, j, p, v, h, _ => by simp at h
  | q :: r, 0, j, p, v, h, hj => by
    simp at h; subst h
    have : j < (ptc q).length := (List.getElem?_eq_some_iff.1 hj).1
    rw [flatP, Nat.zero_mul, Nat.zero_add, List.getElem?_append_left this]; exact hj
  | q :: r, i + 1, j, p, v, h, hj => by
    simp at h
    have e : (i + 1) * 2 + j = (ptc q).length + (i * 2 + j) := by simp [ptc]; omega
    rw [flatP, e, List.getElem?_append_right (by omega), Nat.add_sub_cancel_left]
    exact flatP_cell h hj
theorem pt_cells {w : World} {g o m c i : Nat} {l : List Pt} {p : Pt} (h : Rd w 2 (.slice (some ⟨g, o, none⟩) m c) (flatP l)) (hx : l[i]? = some p) : ∀ j v, (ptc p)[j]? = some v → w.cell? ⟨g, o + (i : Int).toNat * 2 + j, none⟩ = some v := by
  intro j v hj
  have := h.cells (flatP_cell hx hj)
  simpa [Nat.add_assoc] using this
theorem pt_len {w : World} {A : Option Addr} {m c : Nat} {l : List Pt} (h : Rd w 2 (.slice A m c) (flatP l)) : m = l.length := by
  obtain ⟨_, _, _, he, h, _⟩ := h
  injection he with _ h1 h2
  rw [flatP_len] at h
  omega
theorem any_step {α : Type} {p : α → Bool} {l : List α} (h : ∀ i x, i < l.length → l[i]? = some x → p x = false) : l.any p = false := by
  rw [List.any_eq_false]
  intro x hx
  obtain ⟨i, hi⟩ := List.getElem?_of_mem hx
  rw [h i x (List.getElem?_eq_some_iff.1 hi).1 hi]
  simp
theorem any_hit {α : Type} {p : α → Bool} {l : List α} {j : Nat} {x : α} (hx : l[j]? = some x) (h : p x = true) : l.any p = true := List.any_eq_true.2 ⟨x, List.mem_of_getElem? hx, h⟩

theorem s_index_u {w : World} {A : Option Addr} {m c g : Nat} {fi ca : List Value} {fn : Func} {l : List Nat} {p : Nat → Bool} (hf : Ent Try.prog g fn) (hR : Rd w 1 (.slice A m c) (u64s l)) (hl : l.length ≤ 1000000)
    (hp : ∀ (w' : World) (x : Nat), At w No [] w' → x ∈ l → Calls Try.prog g (fi ++ [Value.int .u64 (x : Int)] ++ ca).toArray w' fun e w'' => ∃ v, e = .returned v ∧ (v = .bool (p x) ∧ At w' No [] w'')) :
    Calls Try.prog 43 #[.slice A m c, .func (.func g) fi.toArray ca.toArray] w fun e w' => ∃ v, e = .returned v ∧ (∃ r : Int, v = .int .i64 r ∧ decide (0 ≤ r) = l.any p ∧ At w No [] w') := by
  obtain rfl := u64_len hR
  refine body_in (n := 19) (l := [.slice A l.length c, .func (.func g) fi.toArray ca.toArray]) en43 rfl Try.ntmps43 rfl ?_
  have hA := At.refl w
  refine W_seq ?_
  refine W_reg ?_ -- 0 slices.go:107
  refine o_assign (v := .int _ _) rfl ?_
  refine O_end ?_
  refine W_seq ?_
  refine W_seq ?_
  refine W_reg ?_ -- 1 slices.go:108
  refine o_move (by conv => lhs; whnf) ?_
  refine o_len Try.underlying25 rfl ?_
  refine o_move (v := .int _ _) rfl ?_
  refine O_end ?_
  refine W_block ?_ -- 0
  refine W_loop (fun kk ρ w' => ∃ (j : Nat), kk = l.length - j ∧ j ≤ l.length ∧ ρ 8 = .int .i64 (j : Int) ∧ ρ 7 = .int .i64 (l.length : Int) ∧ ρ 0 = .slice A l.length c ∧ ρ 1 = .func (.func g) fi.toArray ca.toArray ∧ (∀ i x, i < j → l[i]? = some x → p x = false) ∧ At w No [] w') l.length
    ⟨0, by simp, Nat.zero_le _, rfl, rfl, rfl, rfl, fun i x hi => by omega, hA⟩ ?_
  clear hA
  rintro kk ρ w1 ⟨j, rfl, hj, h8, h7, h0, h1, hno, hA⟩
  refine W_known (t := 8) h8 ?_
  refine W_known (t := 7) h7 ?_
  refine W_known (t := 0) h0 ?_
  refine W_known (t := 1) h1 ?_
  refine W_seq ?_
  refine W_reg ?_ -- 2 slices.go:108
  refine o_cmp2 rfl rfl rfl (fun h => ?_) (fun h => ?_)
  · -- True
    have hlt : j < l.length := by simp at h; omega
    obtain ⟨x, hx⟩ : ∃ x, l[j]? = some x := ⟨_, List.getElem?_eq_getElem hlt⟩
    obtain ⟨g0, o0, rfl⟩ := Rd.some hR (by rw [u64s_len]; omega)
    refine O_end ?_
    refine W_seq ?_
    refine W_then rfl ?_
    refine W_skip ?_
    refine W_seq ?_
    refine W_block ?_ -- 1
    refine W_seq ?_
    refine W_reg ?_ -- 3 slices.go:108
    refine o_move (v := .int _ _) rfl ?_
    refine o_assign (v := .int _ _) rfl ?_
    refine O_end ?_
    refine W_seq ?_
    refine W_reg ?_ -- 4 slices.go:109
    refine o_move (by conv => lhs; whnf) ?_
    refine o_move (by conv => lhs; whnf) ?_
    refine o_move (v := .int _ _) rfl ?_
    refine o_index Try.underlying25 ti22 rfl rfl (by omega) (by omega) ?_
    refine o_load1 ag22 rfl ((hR.old hA).cells (j := (j : Int).toNat * 1) (by rw [Nat.mul_one]; exact u64s_get hx)) ?_
    refine O_callv (fi := fi) (ca := ca) hf rfl rfl (hp _ x hA (List.mem_of_getElem? hx)) (fun v2 w2 hC => ?_)
    obtain ⟨rfl, hC⟩ := hC
    have hA := (hA.after hC).take
    refine O_end ?_
    refine W_if rfl (fun hc => ?_) (fun hc => ?_)
    ·
      refine W_seq ?_
      refine W_reg ?_ -- 5 slices.go:110
      refine o_move (v := .int _ _) rfl ?_
      refine o_assign (v := .int _ _) rfl ?_
      refine O_end ?_
      refine W_ret ?_
      refine xb_ret ?_
      refine xb_ret ?_
      refine ⟨rfl, ?_⟩
      refine ret1 Try.results43 (v := .int _ _) rfl ?_
      exact ⟨(j : Int), rfl, by rw [any_hit hx hc]; simp, hA⟩
    ·
      refine W_skip ?_
      refine W_reg ?_ -- 6 slices.go:108
      refine o_add rfl rfl (w64 (r := ((j + 1 : Nat) : Int)) (by omega) (by omega) (by omega)) ?_
      refine o_move (v := .int _ _) rfl ?_
      refine O_end ?_
      exact ⟨l.length - (j + 1), by omega, j + 1, rfl, by omega, rfl, rfl, rfl, rfl, fun i y hi hy => by
        by_cases e : i = j
        · subst e; rw [hx] at hy; obtain rfl := Option.some.inj hy; exact hc
        · exact hno i y (by omega) hy, hA⟩
  · -- False
    refine O_end ?_
    refine W_seq ?_
    refine W_else rfl ?_
    refine W_exit ?_
    refine xb_hit ?_
    refine W_seq ?_
    refine W_reg ?_ -- 7 slices.go:113
    refine o_assign (v := .int _ _) rfl ?_
    refine O_end ?_
    refine W_ret ?_
    refine ⟨rfl, ?_⟩
    refine ret1 Try.results43 (v := .int _ _) rfl ?_
    exact ⟨-1, rfl, by rw [any_step fun i x hi => hno i x (by simp at h; omega)]; rfl, hA⟩

theorem s_contains_u {w : World} {A : Option Addr} {m c g : Nat} {fi ca : List Value} {fn : Func} {l : List Nat} {p : Nat → Bool} (hf : Ent Try.prog g fn) (hR : Rd w 1 (.slice A m c) (u64s l)) (hl : l.length ≤ 1000000)
    (hp : ∀ (w' : World) (x : Nat), At w No [] w' → x ∈ l → Calls Try.prog g (fi ++ [Value.int .u64 (x : Int)] ++ ca).toArray w' fun e w'' => ∃ v, e = .returned v ∧ (v = .bool (p x) ∧ At w' No [] w'')) :
    Calls Try.prog 23 #[.slice A m c, .func (.func g) fi.toArray ca.toArray] w fun e w' => ∃ v, e = .returned v ∧ (v = .bool (l.any p) ∧ At w No [] w') := by
  refine body_in (n := 9) (l := [.slice A m c, .func (.func g) fi.toArray ca.toArray]) en23 rfl Try.ntmps23 rfl ?_
  have hA := At.refl w
  refine W_seq ?_
  refine W_reg ?_ -- 0 slices.go:124
  refine o_assign (v := .bool _) rfl ?_
  refine O_end ?_
  refine W_seq ?_
  refine W_reg ?_ -- 1 slices.go:125
  refine o_move (by conv => lhs; whnf) ?_
  refine o_move (by conv => lhs; whnf) ?_
  refine O_calls en43 rfl (s_index_u hf hR hl hp) (fun v1 w1 hC => ?_)
  obtain ⟨r, rfl, hr, hA⟩ := hC
  refine o_cmp rfl rfl rfl ?_
  refine o_assign (v := .bool _) rfl ?_
  refine O_end ?_
  refine W_ret ?_
  refine ⟨rfl, ?_⟩
  refine ret1 Try.results23 (v := .bool _) rfl ?_
  exact ⟨by rw [← hr], hA⟩

theorem s_index_p {w : World} {A : Option Addr} {m c g : Nat} {fi ca : List Value} {fn : Func} {l : List Pt} {p : Pt → Bool} (hf : Ent Try.prog g fn) (hR : Rd w 2 (.slice A m c) (flatP l)) (hl : l.length ≤ 1000000)
    (hp : ∀ (w' : World) (x : Pt), At w No [] w' → x ∈ l → Calls Try.prog g (fi ++ [Value.agg #[.int .i64 x.a, .int .u64 (x.v : Int)]] ++ ca).toArray w' fun e w'' => ∃ v, e = .returned v ∧ (v = .bool (p x) ∧ At w' No [] w'')) :
    Calls Try.prog 45 #[.slice A m c, .func (.func g) fi.toArray ca.toArray] w fun e w' => ∃ v, e = .returned v ∧ (∃ r : Int, v = .int .i64 r ∧ decide (0 ≤ r) = l.any p ∧ At w No [] w') := by
  obtain rfl := pt_len hR
  refine body_in (n := 19) (l := [.slice A l.length c, .func (.func g) fi.toArray ca.toArray]) en45 rfl Try.ntmps45 rfl ?_
  have hA := At.refl w
  refine W_seq ?_
  refine W_reg ?_ -- 0 slices.go:107
  refine o_assign (v := .int _ _) rfl ?_
  refine O_end ?_
  refine W_seq ?_
  refine W_seq ?_
  refine W_reg ?_ -- 1 slices.go:108
  refine o_move (by conv => lhs; whnf) ?_
  refine o_len Try.underlying23 rfl ?_
  refine o_move (v := .int _ _) rfl ?_
  refine O_end ?_
  refine W_block ?_ -- 0
  refine W_loop (fun kk ρ w' => ∃ (j : Nat), kk = l.length - j ∧ j ≤ l.length ∧ ρ 8 = .int .i64 (j : Int) ∧ ρ 7 = .int .i64 (l.length : Int) ∧ ρ 0 = .slice A l.length c ∧ ρ 1 = .func (.func g) fi.toArray ca.toArray ∧ (∀ i x, i < j → l[i]? = some x → p x = false) ∧ At w No [] w') l.length
    ⟨0, by simp, Nat.zero_le _, rfl, rfl, rfl, rfl, fun i x hi => by omega, hA⟩ ?_
  clear hA
  rintro kk ρ w1 ⟨j, rfl, hj, h8, h7, h0, h1, hno, hA⟩
  refine W_known (t := 8) h8 ?_
  refine W_known (t := 7) h7 ?_
  refine W_known (t := 0) h0 ?_
  refine W_known (t := 1) h1 ?_
  refine W_seq ?_
  refine W_reg ?_ -- 2 slices.go:108
  refine o_cmp2 rfl rfl rfl (fun h => ?_) (fun h => ?_)
  · -- True
    have hlt : j < l.length := by simp at h; omega
    obtain ⟨x, hx⟩ : ∃ x, l[j]? = some x := ⟨_, List.getElem?_eq_getElem hlt⟩
    obtain ⟨g0, o0, rfl⟩ := Rd.some hR (by rw [flatP_len]; omega)
    refine O_end ?_
    refine W_seq ?_
    refine W_then rfl ?_
    refine W_skip ?_
    refine W_seq ?_
    refine W_block ?_ -- 1
    refine W_seq ?_
    refine W_reg ?_ -- 3 slices.go:108
    refine o_move (v := .int _ _) rfl ?_
    refine o_assign (v := .int _ _) rfl ?_
    refine O_end ?_
    refine W_seq ?_
    refine W_reg ?_ -- 4 slices.go:109
    refine o_move (by conv => lhs; whnf) ?_
    refine o_move (by conv => lhs; whnf) ?_
    refine o_move (v := .int _ _) rfl ?_
    refine o_index Try.underlying23 ti33 rfl rfl (by omega) (by omega) ?_
    refine o_loadN ag33 ti33 rfl (cs := ptc x) rfl (pt_cells (hR.old hA) hx) ?_
    refine O_callv (fi := fi) (ca := ca) hf rfl rfl (hp _ x hA (List.mem_of_getElem? hx)) (fun v2 w2 hC => ?_)
    obtain ⟨rfl, hC⟩ := hC
    have hA := (hA.after hC).take
    refine O_end ?_
    refine W_if rfl (fun hc => ?_) (fun hc => ?_)
    ·
      refine W_seq ?_
      refine W_reg ?_ -- 5 slices.go:110
      refine o_move (v := .int _ _) rfl ?_
      refine o_assign (v := .int _ _) rfl ?_
      refine O_end ?_
      refine W_ret ?_
      refine xb_ret ?_
      refine xb_ret ?_
      refine ⟨rfl, ?_⟩
      refine ret1 Try.results45 (v := .int _ _) rfl ?_
      exact ⟨(j : Int), rfl, by rw [any_hit hx hc]; simp, hA⟩
    ·
      refine W_skip ?_
      refine W_reg ?_ -- 6 slices.go:108
      refine o_add rfl rfl (w64 (r := ((j + 1 : Nat) : Int)) (by omega) (by omega) (by omega)) ?_
      refine o_move (v := .int _ _) rfl ?_
      refine O_end ?_
      exact ⟨l.length - (j + 1), by omega, j + 1, rfl, by omega, rfl, rfl, rfl, rfl, fun i y hi hy => by
        by_cases e : i = j
        · subst e; rw [hx] at hy; obtain rfl := Option.some.inj hy; exact hc
        · exact hno i y (by omega) hy, hA⟩
  · -- False
    refine O_end ?_
    refine W_seq ?_
    refine W_else rfl ?_
    refine W_exit ?_
    refine xb_hit ?_
    refine W_seq ?_
    refine W_reg ?_ -- 7 slices.go:113
    refine o_assign (v := .int _ _) rfl ?_
    refine O_end ?_
    refine W_ret ?_
    refine ⟨rfl, ?_⟩
    refine ret1 Try.results45 (v := .int _ _) rfl ?_
    exact ⟨-1, rfl, by rw [any_step fun i x hi => hno i x (by simp at h; omega)]; rfl, hA⟩

theorem s_contains_p {w : World} {A : Option Addr} {m c g : Nat} {fi ca : List Value} {fn : Func} {l : List Pt} {p : Pt → Bool} (hf : Ent Try.prog g fn) (hR : Rd w 2 (.slice A m c) (flatP l)) (hl : l.length ≤ 1000000)
    (hp : ∀ (w' : World) (x : Pt), At w No [] w' → x ∈ l → Calls Try.prog g (fi ++ [Value.agg #[.int .i64 x.a, .int .u64 (x.v : Int)]] ++ ca).toArray w' fun e w'' => ∃ v, e = .returned v ∧ (v = .bool (p x) ∧ At w' No [] w'')) :
    Calls Try.prog 28 #[.slice A m c, .func (.func g) fi.toArray ca.toArray] w fun e w' => ∃ v, e = .returned v ∧ (v = .bool (l.any p) ∧ At w No [] w') := by
  refine body_in (n := 9) (l := [.slice A m c, .func (.func g) fi.toArray ca.toArray]) en28 rfl Try.ntmps28 rfl ?_
  have hA := At.refl w
  refine W_seq ?_
  refine W_reg ?_ -- 0 slices.go:124
  refine o_assign (v := .bool _) rfl ?_
  refine O_end ?_
  refine W_seq ?_
  refine W_reg ?_ -- 1 slices.go:125
  refine o_move (by conv => lhs; whnf) ?_
  refine o_move (by conv => lhs; whnf) ?_
  refine O_calls en45 rfl (s_index_p hf hR hl hp) (fun v1 w1 hC => ?_)
  obtain ⟨r, rfl, hr, hA⟩ := hC
  refine o_cmp rfl rfl rfl ?_
  refine o_assign (v := .bool _) rfl ?_
  refine O_end ?_
  refine W_ret ?_
  refine ⟨rfl, ?_⟩
  refine ret1 Try.results28 (v := .bool _) rfl ?_
  exact ⟨by rw [← hr], hA⟩

end Go.Proofs.Ytogpmiodnmigoaa
