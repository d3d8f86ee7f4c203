/-
  Package poly: twice.
-/
import Derived.Test.YtogpmiodnmigoaaSlf
set_option linter.unusedVariables false
set_option linter.unusedSimpArgs false
namespace Go.Proofs.Ytogpmiodnmigoaa
open Go Go.RowKit

def dupAt (l : List Pt) (i : Nat) : Bool := match l[i]? with
  | some p => (l.take i).any fun q => q.a == p.a
  | none => false
def dupP (l : List Pt) : Bool := (List.range l.length).any (dupAt l)
theorem flatP_append : ∀ a b : List Pt, flatP (a ++ b) = flatP a ++ flatP b
  | [], b => rfl
  | p :: a, b => by simp [flatP, flatP_append a b]
theorem flatP_take (l : List Pt) (k : Nat) (hk : k ≤ l.length) : ((flatP l).drop (0 * 2)).take ((k - 0) * 2) = flatP (l.take k) := by
  have h : flatP l = flatP (l.take k) ++ flatP (l.drop k) := by rw [← flatP_append, List.take_append_drop]
  have hl : (k - 0) * 2 = (flatP (l.take k)).length := by rw [flatP_len, List.length_take]; omega
  rw [h, hl, Nat.zero_mul, List.drop_zero, List.take_left]

theorem l_twice1 {w : World} {qa pa : Int} {qv b : Nat} (hc : w.cell? ⟨b, 0, none⟩ = some (.int .i64 pa)) : Calls Try.prog 53 #[.agg #[.int .i64 qa, .int .u64 (qv : Int)], .pointer (some ⟨b, 0, none⟩)] w fun e w' => ∃ v, e = .returned v ∧ (v = .bool (qa == pa) ∧ At w No [] w') := by
  refine body_in (n := 9) (l := [.agg #[.int .i64 qa, .int .u64 (qv : Int)], .pointer (some ⟨b, 0, none⟩)]) en53 rfl Try.ntmps53 rfl ?_
  have hA := At.refl w
  refine W_seq ?_
  refine W_reg ?_ -- 0 poly.go:75
  refine o_box hA (by conv => lhs; whnf) rfl (fun b1 w1 hA => ?_)
  refine o_assign (v := .bool _) rfl ?_
  refine O_end ?_
  refine W_seq ?_
  refine W_reg ?_ -- 1 poly.go:75
  refine o_fieldAddr fo33_0 rfl rfl ?_
  refine o_load1 ag3 rfl (hA.c 0 rfl rfl) ?_
  refine o_fieldAddr fo33_0 rfl rfl ?_
  refine o_load1 ag3 rfl (hA.cell hc id) ?_
  refine o_cmp rfl rfl rfl ?_
  refine o_assign (v := .bool _) rfl ?_
  refine O_end ?_
  refine W_ret ?_
  refine ⟨rfl, ?_⟩
  refine ret1 Try.results53 (v := .bool _) rfl ?_
  exact ⟨rfl, hA.clear⟩

theorem dup_hit {l : List Pt} {j : Nat} {x : Pt} (hj : j < l.length) (hx : l[j]? = some x) (h : ((l.take j).any fun q => q.a == x.a) = true) : dupP l = true :=
  List.any_eq_true.2 ⟨j, List.mem_range.2 hj, by unfold dupAt; rw [hx]; exact h⟩
theorem dup_no {l : List Pt} (h : ∀ i, i < l.length → dupAt l i = false) : dupP l = false := by
  unfold dupP
  rw [List.any_eq_false]
  intro i hi
  rw [h i (List.mem_range.1 hi)]
  simp

theorem l_twice {w : World} {A : Option Addr} {m c : Nat} {l : List Pt} (hR : Rd w 2 (.slice A m c) (flatP l)) (hl : l.length ≤ 1000000) : Calls Try.prog 46 #[.slice A m c] w fun e w' => ∃ v, e = .returned v ∧ (v = .bool (dupP l) ∧ At w No [] w') := by
  obtain rfl := pt_len hR
  have hmc : l.length ≤ c := by
    obtain ⟨_, _, _, he, _, h, _⟩ := id hR
    injection he with _ h1 h2
    omega
  refine body_in (n := 18) (l := [.slice A l.length c]) en46 rfl Try.ntmps46 rfl ?_
  have hA := At.refl w
  refine W_seq ?_
  refine W_reg ?_ -- 0 poly.go:73
  refine o_assign (v := .bool _) rfl ?_
  refine O_end ?_
  refine W_seq ?_
  refine W_seq ?_
  refine W_reg ?_ -- 1 poly.go:74
  refine o_move (by conv => lhs; whnf) ?_
  refine o_len Try.underlying23 rfl ?_
  refine o_move (v := .int _ _) rfl ?_
  refine O_end ?_
  refine W_block ?_ -- 0
  refine W_loop (fun kk ρ w' => ∃ (j : Nat), kk = l.length - j ∧ j ≤ l.length ∧ ρ 7 = .int .i64 (j : Int) ∧ ρ 6 = .int .i64 (l.length : Int) ∧ ρ 5 = .slice A l.length c ∧ ρ 0 = .slice A l.length c ∧ (∀ i, i < j → dupAt l i = false) ∧ At w No [] w') l.length
    ⟨0, by simp, Nat.zero_le _, rfl, rfl, rfl, rfl, fun i hi => by omega, hA⟩ ?_
  clear hA
  rintro kk ρ w1 ⟨j, rfl, hj, h7, h6, h5, h0, hno, hA⟩
  refine W_known (t := 7) h7 ?_
  refine W_known (t := 6) h6 ?_
  refine W_known (t := 5) h5 ?_
  refine W_known (t := 0) h0 ?_
  refine W_seq ?_
  refine W_reg ?_ -- 2 poly.go:74
  refine o_cmp2 rfl rfl rfl (fun h => ?_) (fun h => ?_)
  · -- True
    have hlt : j < l.length := by simp at h; omega
    obtain ⟨x, hx⟩ : ∃ x, l[j]? = some x := ⟨_, List.getElem?_eq_getElem hlt⟩
    obtain ⟨g0, o0, rfl⟩ := Rd.some hR (by rw [flatP_len]; omega)
    refine O_end ?_
    refine W_seq ?_
    refine W_then rfl ?_
    refine W_skip ?_
    refine W_seq ?_
    refine W_block ?_ -- 1
    refine W_seq ?_
    refine W_reg ?_ -- 3 poly.go:74
    refine o_move (v := .int _ _) rfl ?_
    refine o_index Try.underlying23 ti33 rfl rfl (by omega) (by omega) ?_
    refine o_loadN ag33 ti33 rfl (cs := ptc x) rfl (pt_cells (hR.old hA) hx) ?_
    refine o_alloc hA ti33 rfl (fun b1 w1 hA => ?_)
    refine o_assign (v := .int _ _) rfl ?_
    refine o_store (cs' := [_, _]) (i := 0) hA rfl (by conv => lhs; whnf) rfl ti33 rfl rfl rfl rfl (fun w2 hA => ?_)
    refine O_end ?_
    refine W_seq ?_
    refine W_reg ?_ -- 4 poly.go:75
    refine o_move (by conv => lhs; whnf) ?_
    refine o_move (v := .int _ _) rfl ?_
    refine o_slice Try.underlying23 ti33 rfl (.inl ⟨rfl, rfl⟩) (.inr ⟨_, rfl⟩) (.inl ⟨rfl, rfl⟩) (by simp) (by omega) (by omega) (Nat.zero_le _) ?_
    refine o_makeFunc rfl rfl ?_ -- Go.Fn.func 53
    refine O_callb en28 rfl (s_contains_p (l := l.take j) (p := fun q => q.a == x.a) (fi := []) (ca := [.pointer (some ⟨b1, 0, none⟩)]) en53 (by have h9 := (hR.old hA).cut (l := 0) (h := j) (mm := c) (Nat.le_refl _) (by omega) (by omega) (by omega); rw [flatP_take l j (by omega)] at h9; exact h9) (by rw [List.length_take]; omega) (fun w' q hA' hq => l_twice1 (hA'.cell (hA.c 0 rfl rfl) id))) (fun w3 hC h => ?_) (fun w3 hC h => ?_)
    · -- True
      have hA := (hA.after hC).clear
      refine O_end ?_
      refine W_then rfl ?_
      refine W_seq ?_
      refine W_reg ?_ -- 5 poly.go:76
      refine o_assign (v := .bool _) rfl ?_
      refine O_end ?_
      refine W_ret ?_
      refine xb_ret ?_
      refine xb_ret ?_
      refine ⟨rfl, ?_⟩
      refine ret1 Try.results46 (v := .bool _) rfl ?_
      exact ⟨by rw [dup_hit hlt hx h], hA⟩
    · -- False
      have hA := (hA.after hC).clear
      refine O_end ?_
      refine W_else rfl ?_
      refine W_skip ?_
      refine W_reg ?_ -- 6 poly.go:74
      refine o_add rfl rfl (w64 (r := ((j + 1 : Nat) : Int)) (by omega) (by omega) (by omega)) ?_
      refine o_move (v := .int _ _) rfl ?_
      refine O_end ?_
      exact ⟨l.length - (j + 1), by omega, j + 1, rfl, by omega, rfl, rfl, rfl, rfl, fun i hi => by
        by_cases e : i = j
        · subst e; unfold dupAt; rw [hx]; exact h
        · exact hno i (by omega), hA⟩
  · -- False
    refine O_end ?_
    refine W_seq ?_
    refine W_else rfl ?_
    refine W_exit ?_
    refine xb_hit ?_
    refine W_seq ?_
    refine W_reg ?_ -- 7 poly.go:79
    refine o_assign (v := .bool _) rfl ?_
    refine O_end ?_
    refine W_ret ?_
    refine ⟨rfl, ?_⟩
    refine ret1 Try.results46 (v := .bool _) rfl ?_
    exact ⟨by rw [dup_no fun i hi => hno i (by simp at h; omega)], hA⟩

end Go.Proofs.Ytogpmiodnmigoaa
