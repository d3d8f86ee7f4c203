/-
  Road: awake.
-/
import Derived.Test.YtpgjmbppbckojaaRoad3
set_option linter.unusedVariables false
namespace Go.Proofs.Ytpgjmbppbckojaa
open Go Go.RowKit

theorem core_nil {ds : List RL} (h : ds.map RL.core = []) : ds = [] := by simpa using h
theorem core_cons {ds : List RL} {a : Int × Bool × Bool × List UInt8} {r : List (Int × Bool × Bool × List UInt8)} (h : ds.map RL.core = a :: r) : ∃ A m c ds', ds = ⟨a.1, a.2.1, a.2.2.1, A, m, c, a.2.2.2⟩ :: ds' ∧ ds'.map RL.core = r := by
  cases ds with
  | nil => simp at h
  | cons x ds' =>
    simp only [List.map_cons, List.cons.injEq] at h
    obtain ⟨rfl, h⟩ := h
    obtain ⟨d, k, t, A, m, c, l⟩ := x
    exact ⟨A, m, c, ds', rfl, h⟩
theorem flip5 : flipB [1] 2 = [5] := by decide +kernel
theorem At.after {w0 w w' : World} {M : Nat → Prop} {F F' : List Ch} (h : At w0 M F w) (k : At w No F' w') : At w0 M (F ++ F') w' := (h.more k).perm List.perm_append_comm
theorem row_len {w : World} {m c : Nat} {A : Option Addr} {ds : List RL} (h : IsRow w 29 4 (.slice A m c) (flat ds)) : m = ds.length := by
  obtain ⟨_, _, _, he, h, _⟩ := h
  injection he with _ h1 h2
  rw [flat_len] at h
  omega
theorem byte_len {w : World} {m c : Nat} {A : Option Addr} {l : List UInt8} (h : IsRow w 5 1 (.slice A m c) (u8s l)) : m = l.length := by
  obtain ⟨_, _, _, he, h, _⟩ := h
  injection he with _ h1 h2
  rw [u8s_len] at h
  omega

theorem c_awake {w : World} : Calls Try.prog 8 #[] w fun e w' => ∃ v, e = .returned v ∧ (v = .bool true ∧ At w No [] w') := by
  refine body_in (n := 72) (l := []) en8 rfl Try.ntmps8 rfl ?_
  have hA := At.refl w
  refine W_seq ?_
  refine W_reg ?_ -- 0 law.go:10
  refine o_assign (v := .bool _) rfl ?_
  refine O_end ?_
  refine W_seq ?_
  refine W_reg ?_ -- 1 law.go:11
  refine O_calls en7 rfl (c_new) (fun v1 w1 hC => ?_)
  obtain ⟨b, sv, rfl, hA⟩ := hC
  refine o_assign (v := .pointer _) rfl ?_
  refine O_end ?_
  refine W_seq ?_
  refine W_seq ?_
  refine W_reg ?_ -- 2 law.go:12
  refine o_move (v := .pointer _) rfl ?_
  refine o_eqnil2 Try.underlying23 rfl rfl (.inl ⟨rfl, rfl⟩) (fun h => (by simp at h)) (fun h => ?_)
  refine o_move (v := .bool _) rfl ?_
  refine O_yes rfl rfl rfl ?_
  refine o_move (v := .pointer _) rfl ?_
  refine O_yes rfl rfl rfl ?_
  refine o_buildSlice (cs := [_]) hA Try.underlying27 ti5 rfl rfl rfl rfl rfl (fun a2 w2 hA => ?_)
  refine O_yes rfl rfl rfl ?_
  refine o_build la29 rfl rfl ?_
  refine O_yes rfl rfl rfl ?_
  refine O_calls en9 rfl (c_send (ds := []) (l := [1]) (by simp) (hA.rot.own (R := road b sv [])) (hA.rd 0 rfl) (by simp)) (fun v3 w3 hC => ?_)
  rcases hC with ⟨h1, _⟩ | ⟨_, rfl, sv1, A1, m1, c1, hC⟩
  · simp at h1
  have hA := (hA.rot.trans (F1 := road b sv []) hC).take
  refine O_yes rfl rfl rfl ?_
  refine o_cmp2 rfl rfl rfl (fun h => (by simp at h)) (fun h => ?_)
  refine o_pick_f rfl (v := .bool _) rfl ?_
  refine o_move (v := .bool _) rfl ?_
  refine O_yes rfl rfl rfl ?_
  refine o_move (v := .pointer _) rfl ?_
  refine O_yes rfl rfl rfl ?_
  refine O_calls en12 rfl (c_twin (ds := [⟨3, false, false, A1, m1, c1, [1]⟩]) (by simp) (by simp) hA.own1) (fun v4 w4 hC => ?_)
  rcases hC with ⟨h1, _⟩ | ⟨i, x, hi, hx, ⟨h1, _⟩ | ⟨_, rfl, sv2, A2, m2, c2, hC⟩⟩
  · exact absurd (by simp) h1
  · simp at h1
  obtain rfl : i = 0 := by omega
  obtain rfl := Option.some.inj hx
  clear hx hi
  have hA := hA.trans1 hC
  refine O_yes rfl rfl rfl ?_
  refine o_cmp2 rfl rfl rfl (fun h => (by simp at h)) (fun h => ?_)
  refine o_pick_f rfl (v := .bool _) rfl ?_
  refine o_move (v := .bool _) rfl ?_
  refine O_yes rfl rfl rfl ?_
  refine o_move (v := .pointer _) rfl ?_
  refine O_yes rfl rfl rfl ?_
  refine O_calls en13 rfl (c_bend (ds := [⟨3, false, false, A1, m1, c1, [1]⟩, ⟨3, false, false, A2, m2, c2, [1]⟩]) (by simp) (by simp) hA.own1) (fun v5 w5 hC => ?_)
  rcases hC with ⟨h1, _⟩ | ⟨i, x, hi, hx, ⟨h1, _⟩ | ⟨_, h1, _⟩ | ⟨_, q, hq, _, rfl, hC⟩⟩
  · exact absurd (by simp) h1
  · obtain rfl : i = 1 := by omega
    obtain rfl := Option.some.inj hx
    cases h1
  · obtain rfl : i = 1 := by omega
    obtain rfl := Option.some.inj hx
    exact absurd (by simp) h1
  obtain rfl : i = 1 := by omega
  obtain rfl : q = 2 := by omega
  obtain rfl := Option.some.inj hx
  clear hx hi hq
  have hA : At w No (road b sv2 [⟨3, false, false, A1, m1, c1, [1]⟩, ⟨3, false, true, A2, m2, c2, flipB [1] 2⟩]) w5 := hA.trans1 hC
  rw [flip5] at hA
  refine O_yes rfl rfl rfl ?_
  refine o_cmp2 rfl rfl rfl (fun h => (by simp at h)) (fun h => ?_)
  refine o_pick_f rfl (v := .bool _) rfl ?_
  refine o_move (v := .bool _) rfl ?_
  refine O_yes rfl rfl rfl ?_
  refine o_move (v := .pointer _) rfl ?_
  refine O_yes rfl rfl rfl ?_
  refine O_calls en13 rfl (c_bend (ds := [⟨3, false, false, A1, m1, c1, [1]⟩, ⟨3, false, true, A2, m2, c2, [5]⟩]) (by simp) (by simp) hA.own1) (fun v6 w6 hC => ?_)
  rcases hC with ⟨h1, _⟩ | ⟨i, x, hi, hx, ⟨_, rfl, hC⟩ | ⟨h1, _⟩ | ⟨h1, _⟩⟩
  · exact absurd (by simp) h1
  rotate_left
  · obtain rfl : i = 1 := by omega
    obtain rfl := Option.some.inj hx
    cases h1
  · obtain rfl : i = 1 := by omega
    obtain rfl := Option.some.inj hx
    cases h1
  clear hx hi
  have hA := hA.trans1 hC
  refine O_yes rfl rfl rfl ?_
  refine o_cmp2 rfl rfl rfl (fun h => (by simp at h)) (fun h => ?_)
  refine o_pick_f rfl (v := .bool _) rfl ?_
  refine O_end ?_
  refine W_else rfl ?_
  refine W_skip ?_
  refine W_seq ?_
  refine W_reg ?_ -- 4 law.go:15
  refine o_move (v := .pointer _) rfl ?_
  refine O_calls en14 rfl (c_letters (ds := [⟨3, false, false, A1, m1, c1, [1]⟩, ⟨3, false, true, A2, m2, c2, [5]⟩]) (by simp) (by simp) hA.own1) (fun v7 w7 hC => ?_)
  obtain ⟨ds1, v', rfl, hc1, hC⟩ := hC
  obtain ⟨A3, m3, c3, ds2, rfl, hc2⟩ := core_cons hc1
  obtain ⟨A4, m4, c4, ds3, rfl, hc3⟩ := core_cons hc2
  obtain rfl := core_nil hc3
  have hA := hA.after hC
  obtain ⟨LA, Lm, Lc, rfl⟩ := (hC.row 0 rfl).slice
  have hL : Lm = 2 := row_len (hC.row 0 rfl)
  subst hL
  obtain ⟨g, rfl⟩ := row_some (hC.row 0 rfl) (by simp)
  have hL : m4 = 1 := byte_len (hC.row 2 rfl)
  subst hL
  obtain ⟨g4, rfl⟩ := row_some (hC.row 2 rfl) (by simp)
  have hLr := hC.rd 0 rfl
  have hBr := hC.rd 2 rfl
  clear hC hc1 hc2 hc3
  refine o_assign (by conv => lhs; whnf) ?_
  refine O_end ?_
  refine W_seq ?_
  refine W_reg ?_ -- 5 law.go:16
  refine o_move (v := .pointer _) rfl ?_
  refine O_calls en10 rfl (c_take (ds := [⟨3, false, false, A1, m1, c1, [1]⟩, ⟨3, false, true, A2, m2, c2, [5]⟩]) (by simp) hA.own) (fun v8 w8 hC => ?_)
  rcases hC with ⟨h1, _⟩ | ⟨i, x, hi, hx, rfl, sv3, hC⟩
  · exact absurd (by simp) h1
  obtain rfl : i = 0 := by omega
  obtain rfl := Option.some.inj hx
  clear hx hi
  have hA := hA.trans (F1 := road b sv2 _) hC
  have hL : m1 = 1 := byte_len (hA.row 0 rfl)
  subst hL
  obtain ⟨g1, rfl⟩ := row_some (hA.row 0 rfl) (by simp)
  refine o_move (by conv => lhs; whnf) ?_
  refine o_extract rfl rfl ?_
  refine o_extract rfl rfl ?_
  refine o_alloc hA ti29 rfl (fun b9 w9 hA => ?_)
  refine o_store (cs' := [_, _, _, _]) (i := 0) hA rfl (by conv => lhs; whnf) rfl ti29 rfl rfl rfl rfl (fun w10 hA => ?_)
  refine o_assign (v := .int _ _) rfl ?_
  refine O_end ?_
  refine W_seq ?_
  refine W_reg ?_ -- 6 law.go:17
  refine o_move (by conv => lhs; whnf) ?_
  refine o_len Try.underlying26 rfl ?_
  refine o_cmp2 rfl rfl rfl (fun h => ?_) (fun h => (by simp at h))
  refine o_move (v := .bool _) rfl ?_
  refine O_yes rfl rfl rfl ?_
  refine o_move (by conv => lhs; whnf) ?_
  refine O_yes rfl rfl rfl ?_
  refine o_index Try.underlying26 ti29 rfl rfl (by decide) (by decide) ?_
  refine O_yes rfl rfl rfl ?_
  refine o_fieldAddr fo29_3 rfl rfl ?_
  refine O_yes rfl rfl rfl ?_
  refine o_load1 ag27 rfl ((hA.rd 5 rfl).cells (j := 7) rfl) ?_
  refine O_yes rfl rfl rfl ?_
  refine o_index Try.underlying27 ti5 rfl rfl (by decide) (show (0 : Int) < ((1 : Nat) : Int) from by decide) ?_
  refine O_yes rfl rfl rfl ?_
  refine o_load1 ag5 rfl ((hA.rd 7 rfl).cells (j := 0) rfl) ?_
  refine O_yes rfl rfl rfl ?_
  refine o_cmp2 rfl rfl rfl (fun h => ?_) (fun h => (by cases h))
  refine o_pick_t rfl (v := .bool _) rfl ?_
  refine o_move (v := .bool _) rfl ?_
  refine O_yes rfl rfl rfl ?_
  refine o_move (by conv => lhs; whnf) ?_
  refine O_yes rfl rfl rfl ?_
  refine o_index Try.underlying26 ti29 rfl rfl (by decide) (by decide) ?_
  refine O_yes rfl rfl rfl ?_
  refine o_fieldAddr fo29_2 rfl rfl ?_
  refine O_yes rfl rfl rfl ?_
  refine o_load1 ag4 rfl ((hA.rd 5 rfl).cells (j := 6) rfl) ?_
  refine o_pick_t rfl (v := .bool _) rfl ?_
  refine o_move (v := .bool _) rfl ?_
  refine O_yes rfl rfl rfl ?_
  refine o_move (v := .int _ _) rfl ?_
  refine O_yes rfl rfl rfl ?_
  refine o_cmp2 rfl rfl rfl (fun h => ?_) (fun h => (by simp at h))
  refine o_pick_t rfl (v := .bool _) rfl ?_
  refine o_move (v := .bool _) rfl ?_
  refine O_yes rfl rfl rfl ?_
  refine o_fieldAddr fo29_3 rfl rfl ?_
  refine O_yes rfl rfl rfl ?_
  refine o_load1 ag27 rfl (hA.c 0 rfl rfl) ?_
  refine O_yes rfl rfl rfl ?_
  refine o_index Try.underlying27 ti5 rfl rfl (by decide) (show (0 : Int) < ((1 : Nat) : Int) from by decide) ?_
  refine O_yes rfl rfl rfl ?_
  refine o_load1 ag5 rfl ((hA.rd 1 rfl).cells (j := 0) rfl) ?_
  refine O_yes rfl rfl rfl ?_
  refine o_cmp2 rfl rfl rfl (fun h => ?_) (fun h => (by simp at h))
  refine o_pick_t rfl (v := .bool _) rfl ?_
  refine o_move (v := .bool _) rfl ?_
  refine O_yes rfl rfl rfl ?_
  refine o_move (v := .pointer _) rfl ?_
  refine O_yes rfl rfl rfl ?_
  refine O_calls en14 rfl (c_letters (ds := [⟨3, false, true, A2, m2, c2, [5]⟩]) (by simp) (by simp) (hA.tail 2).own) (fun v11 w11 hC => ?_)
  obtain ⟨ds1, v', rfl, hc1, hC⟩ := hC
  obtain ⟨A5, m5, c5, ds2, rfl, hc2⟩ := core_cons hc1
  obtain rfl := core_nil hc2
  obtain ⟨LA, Lm, Lc, rfl⟩ := (hC.row 0 rfl).slice
  have hL : Lm = 1 := row_len (hC.row 0 rfl)
  subst hL
  refine O_yes rfl rfl rfl ?_
  refine o_len Try.underlying26 rfl ?_
  refine O_yes rfl rfl rfl ?_
  refine o_cmp rfl rfl rfl ?_
  refine o_pick_t rfl (v := .bool _) rfl ?_
  refine o_assign (v := .bool _) rfl ?_
  refine O_end ?_
  refine W_ret ?_
  refine ⟨rfl, ?_⟩
  refine ret1 Try.results8 (v := .bool _) rfl ?_
  exact ⟨rfl, (hA.more hC).clear⟩

end Go.Proofs.Ytpgjmbppbckojaa
