/-
  Road: no road; the law RoadNone.
-/
import Derived.Test.YtpgjmbppbckojaaRoad4
set_option linter.unusedVariables false
namespace Go.Proofs.Ytpgjmbppbckojaa
open Go Go.RowKit

theorem n_at {w : World} {n : Int} : Calls Try.prog 16 #[.pointer none, .int .i64 n] w fun e w' => ∃ v, e = .returned v ∧ (v = .int .i64 1 ∧ At w No [] w') := by
  refine body_in (n := 15) (l := [.pointer none, .int .i64 n]) en16 rfl Try.ntmps16 rfl ?_
  have hA := At.refl w
  refine W_seq ?_
  refine W_reg ?_ -- 0 road.go:48
  refine o_assign (v := .int _ _) rfl ?_
  refine O_end ?_
  refine W_seq ?_
  refine W_block ?_ -- 0
  refine W_seq ?_
  refine W_reg ?_ -- 1 road.go:50
  refine o_move (v := .pointer _) rfl ?_
  refine o_eqnil2 Try.underlying23 rfl rfl (.inl ⟨rfl, rfl⟩) (fun h => ?_) (fun h => (by cases h))
  refine o_assign (v := .bool _) rfl ?_
  refine O_end ?_
  refine W_then rfl ?_
  refine W_seq ?_
  refine W_reg ?_ -- 2 road.go:51
  refine o_assign (v := .int _ _) rfl ?_
  refine O_end ?_
  refine W_ret ?_
  refine xb_ret ?_
  refine ⟨rfl, ?_⟩
  refine ret1 Try.results16 (v := .int _ _) rfl ?_
  exact ⟨rfl, hA⟩

theorem n_send {w : World} {d : Int} {k t : Bool} {A : Option Addr} {m c : Nat} : Calls Try.prog 9 #[.pointer none, .agg #[.int .i64 d, .bool k, .bool t, .slice A m c]] w fun e w' => ∃ v, e = .returned v ∧ (v = .int .i64 1 ∧ At w No [] w') := by
  refine body_in (n := 29) (l := [.pointer none, .agg #[.int .i64 d, .bool k, .bool t, .slice A m c]]) en9 rfl Try.ntmps9 rfl ?_
  have hA := At.refl w
  refine W_seq ?_
  refine W_reg ?_ -- 0 road.go:36
  refine o_box hA (by conv => lhs; whnf) rfl (fun b1 w1 hA => ?_)
  refine o_assign (v := .int _ _) rfl ?_
  refine O_end ?_
  refine W_seq ?_
  refine W_block ?_ -- 0
  refine W_seq ?_
  refine W_reg ?_ -- 1 road.go:38
  refine o_move (v := .pointer _) rfl ?_
  refine o_eqnil2 Try.underlying23 rfl rfl (.inl ⟨rfl, rfl⟩) (fun h => ?_) (fun h => (by cases h))
  refine o_assign (v := .bool _) rfl ?_
  refine O_end ?_
  refine W_then rfl ?_
  refine W_seq ?_
  refine W_reg ?_ -- 2 road.go:39
  refine o_assign (v := .int _ _) rfl ?_
  refine O_end ?_
  refine W_ret ?_
  refine xb_ret ?_
  refine ⟨rfl, ?_⟩
  refine ret1 Try.results9 (v := .int _ _) rfl ?_
  exact ⟨rfl, hA.clear⟩

theorem n_take {w : World} {n : Int} : Calls Try.prog 10 #[.pointer none, .int .i64 n] w fun e w' => ∃ v, e = .returned v ∧ (v = .tuple #[.agg #[.int .i64 0, .bool false, .bool false, .slice none 0 0], .int .i64 1] ∧ At w No [] w') := by
  refine body_in (n := 19) (l := [.pointer none, .int .i64 n]) en10 rfl Try.ntmps10 rfl ?_
  have hA := At.refl w
  refine W_seq ?_
  refine W_reg ?_ -- 0 road.go:59
  refine o_alloc hA ti29 rfl (fun b1 w1 hA => ?_)
  refine o_assign (v := .int _ _) rfl ?_
  refine O_end ?_
  refine W_seq ?_
  refine W_seq ?_
  refine W_reg ?_ -- 1 road.go:60
  refine o_move (v := .pointer _) rfl ?_
  refine o_move (v := .int _ _) rfl ?_
  refine O_calls en16 rfl n_at (fun v2 w2 hC => ?_)
  obtain ⟨rfl, hC⟩ := hC
  have hA := (hA.after hC)
  refine o_assign (v := .int _ _) rfl ?_
  refine O_end ?_
  refine W_seq ?_
  refine W_reg ?_ -- 2 road.go:60
  refine o_move (v := .int _ _) rfl ?_
  refine o_cmp2 rfl rfl rfl (fun h => ?_) (fun h => (by cases h))
  refine O_end ?_
  refine W_then rfl ?_
  refine W_seq ?_
  refine W_reg ?_ -- 3 road.go:61
  refine o_build la29 rfl rfl ?_
  refine o_move (v := .int _ _) rfl ?_
  refine o_store (cs' := [_, _, _, _]) (i := 0) hA rfl (by conv => lhs; whnf) rfl ti29 rfl rfl rfl rfl (fun w3 hA => ?_)
  refine o_assign (v := .int _ _) rfl ?_
  refine O_end ?_
  refine W_ret ?_
  refine ⟨rfl, ?_⟩
  refine retct (i := 0) hA Try.results10 rfl (u := .int _ _) rfl ag29 ti29 rfl rfl ?_
  exact ⟨rfl, hA.clear⟩

theorem n_twin {w : World} {n : Int} : Calls Try.prog 12 #[.pointer none, .int .i64 n] w fun e w' => ∃ v, e = .returned v ∧ (v = .int .i64 1 ∧ At w No [] w') := by
  refine body_in (n := 22) (l := [.pointer none, .int .i64 n]) en12 rfl Try.ntmps12 rfl ?_
  have hA := At.refl w
  refine W_seq ?_
  refine W_reg ?_ -- 0 road.go:67
  refine o_assign (v := .int _ _) rfl ?_
  refine O_end ?_
  refine W_seq ?_
  refine W_seq ?_
  refine W_reg ?_ -- 1 road.go:68
  refine o_move (v := .pointer _) rfl ?_
  refine o_move (v := .int _ _) rfl ?_
  refine O_calls en16 rfl n_at (fun v1 w1 hC => ?_)
  obtain ⟨rfl, hC⟩ := hC
  have hA := (hA.after hC)
  refine o_assign (v := .int _ _) rfl ?_
  refine O_end ?_
  refine W_seq ?_
  refine W_reg ?_ -- 2 road.go:68
  refine o_move (v := .int _ _) rfl ?_
  refine o_cmp2 rfl rfl rfl (fun h => ?_) (fun h => (by cases h))
  refine O_end ?_
  refine W_then rfl ?_
  refine W_seq ?_
  refine W_reg ?_ -- 3 road.go:69
  refine o_move (v := .int _ _) rfl ?_
  refine o_assign (v := .int _ _) rfl ?_
  refine O_end ?_
  refine W_ret ?_
  refine ⟨rfl, ?_⟩
  refine ret1 Try.results12 (v := .int _ _) rfl ?_
  exact ⟨rfl, hA⟩

theorem n_bend {w : World} {n q : Int} : Calls Try.prog 13 #[.pointer none, .int .i64 n, .int .i64 q] w fun e w' => ∃ v, e = .returned v ∧ (v = .int .i64 1 ∧ At w No [] w') := by
  refine body_in (n := 56) (l := [.pointer none, .int .i64 n, .int .i64 q]) en13 rfl Try.ntmps13 rfl ?_
  have hA := At.refl w
  refine W_seq ?_
  refine W_reg ?_ -- 0 road.go:75
  refine o_assign (v := .int _ _) rfl ?_
  refine O_end ?_
  refine W_seq ?_
  refine W_seq ?_
  refine W_reg ?_ -- 1 road.go:76
  refine o_move (v := .pointer _) rfl ?_
  refine o_move (v := .int _ _) rfl ?_
  refine O_calls en16 rfl n_at (fun v1 w1 hC => ?_)
  obtain ⟨rfl, hC⟩ := hC
  have hA := (hA.after hC)
  refine o_assign (v := .int _ _) rfl ?_
  refine O_end ?_
  refine W_seq ?_
  refine W_reg ?_ -- 2 road.go:76
  refine o_move (v := .int _ _) rfl ?_
  refine o_cmp2 rfl rfl rfl (fun h => ?_) (fun h => (by cases h))
  refine O_end ?_
  refine W_then rfl ?_
  refine W_seq ?_
  refine W_reg ?_ -- 3 road.go:77
  refine o_move (v := .int _ _) rfl ?_
  refine o_assign (v := .int _ _) rfl ?_
  refine O_end ?_
  refine W_ret ?_
  refine ⟨rfl, ?_⟩
  refine ret1 Try.results13 (v := .int _ _) rfl ?_
  exact ⟨rfl, hA⟩

theorem n_letters {w : World} : Calls Try.prog 14 #[.pointer none] w fun e w' => ∃ v, e = .returned v ∧ (v = .slice none 0 0 ∧ At w No [] w') := by
  refine body_in (n := 26) (l := [.pointer none]) en14 rfl Try.ntmps14 rfl ?_
  have hA := At.refl w
  refine W_seq ?_
  refine W_reg ?_ -- 0 road.go:92
  refine o_assign (by conv => lhs; whnf) ?_
  refine O_end ?_
  refine W_seq ?_
  refine W_seq ?_
  refine W_reg ?_ -- 1 road.go:93
  refine o_move (v := .pointer _) rfl ?_
  refine o_eqnil2 Try.underlying23 rfl rfl (.inl ⟨rfl, rfl⟩) (fun h => ?_) (fun h => (by cases h))
  refine O_end ?_
  refine W_then rfl ?_
  refine W_seq ?_
  refine W_reg ?_ -- 2 road.go:94
  refine o_assign (by conv => lhs; whnf) ?_
  refine O_end ?_
  refine W_ret ?_
  refine ⟨rfl, ?_⟩
  refine ret1 Try.results14 (by conv => lhs; whnf) ?_
  exact ⟨rfl, hA⟩

theorem c_none {w : World} {n d : Int} {k t : Bool} {A : Option Addr} {m c : Nat} : Calls Try.prog 6 #[.int .i64 n, .agg #[.int .i64 d, .bool k, .bool t, .slice A m c]] w fun e w' => ∃ v, e = .returned v ∧ (v = .bool true ∧ At w No [] w') := by
  refine body_in (n := 49) (l := [.int .i64 n, .agg #[.int .i64 d, .bool k, .bool t, .slice A m c]]) en6 rfl Try.ntmps6 rfl ?_
  have hA := At.refl w
  refine W_seq ?_
  refine W_reg ?_ -- 0 law.go:147
  refine o_box hA (by conv => lhs; whnf) rfl (fun b1 w1 hA => ?_)
  refine o_assign (v := .bool _) rfl ?_
  refine O_end ?_
  refine W_seq ?_
  refine W_reg ?_ -- 1 law.go:148
  refine o_assign (v := .pointer _) rfl ?_
  refine O_end ?_
  refine W_seq ?_
  refine W_reg ?_ -- 2 law.go:149
  refine o_move (v := .pointer _) rfl ?_
  refine o_move (v := .int _ _) rfl ?_
  refine O_calls en10 rfl n_take (fun v2 w2 hC => ?_)
  obtain ⟨rfl, hC⟩ := hC
  have hA := (hA.after hC)
  refine o_move (by conv => lhs; whnf) ?_
  refine o_extract rfl rfl ?_
  refine o_extract rfl rfl ?_
  refine o_alloc hA ti29 rfl (fun b3 w3 hA => ?_)
  refine o_store (cs' := [_, _, _, _]) (i := 0) hA rfl (by conv => lhs; whnf) rfl ti29 rfl rfl rfl rfl (fun w4 hA => ?_)
  refine o_assign (v := .int _ _) rfl ?_
  refine O_end ?_
  refine W_seq ?_
  refine W_reg ?_ -- 3 law.go:150
  refine O_calls en8 rfl c_awake (fun v5 w5 hC => ?_)
  obtain ⟨rfl, hC⟩ := hC
  have hA := (hA.after hC)
  refine o_move (v := .bool _) rfl ?_
  refine O_yes rfl rfl rfl ?_
  refine o_move (v := .pointer _) rfl ?_
  refine O_yes rfl rfl rfl ?_
  refine o_loadN ag29 ti29 rfl rfl (hA.cs (i := 1) (o := 0) (s := 4) (ds := [_, _, _, _]) rfl rfl) ?_
  refine O_yes rfl rfl rfl ?_
  refine O_calls en9 rfl n_send (fun v6 w6 hC => ?_)
  obtain ⟨rfl, hC⟩ := hC
  have hA := (hA.after hC)
  refine O_yes rfl rfl rfl ?_
  refine o_cmp2 rfl rfl rfl (fun h => ?_) (fun h => (by cases h))
  refine o_pick_t rfl (v := .bool _) rfl ?_
  refine o_move (v := .bool _) rfl ?_
  refine O_yes rfl rfl rfl ?_
  refine o_move (v := .int _ _) rfl ?_
  refine O_yes rfl rfl rfl ?_
  refine o_cmp2 rfl rfl rfl (fun h => ?_) (fun h => (by cases h))
  refine o_pick_t rfl (v := .bool _) rfl ?_
  refine o_move (v := .bool _) rfl ?_
  refine O_yes rfl rfl rfl ?_
  refine o_loadN ag29 ti29 rfl rfl (hA.cs (i := 0) (o := 0) (s := 4) (ds := [_, _, _, _]) rfl rfl) ?_
  refine O_yes rfl rfl rfl ?_
  refine o_build la29 rfl rfl ?_
  refine O_yes rfl rfl rfl ?_
  refine O_calls en11 rfl (c_same (l1 := []) (l2 := []) (IsRow.nil _ 5 1 none).rd (IsRow.nil _ 5 1 none).rd) (fun v7 w7 hC => ?_)
  obtain ⟨rfl, hC⟩ := hC
  have hA := (hA.after hC)
  refine o_pick_t rfl (v := .bool _) rfl ?_
  refine o_move (v := .bool _) rfl ?_
  refine O_yes rfl rfl rfl ?_
  refine o_move (v := .pointer _) rfl ?_
  refine O_yes rfl rfl rfl ?_
  refine o_move (v := .int _ _) rfl ?_
  refine O_yes rfl rfl rfl ?_
  refine O_calls en12 rfl n_twin (fun v8 w8 hC => ?_)
  obtain ⟨rfl, hC⟩ := hC
  have hA := (hA.after hC)
  refine O_yes rfl rfl rfl ?_
  refine o_cmp2 rfl rfl rfl (fun h => ?_) (fun h => (by cases h))
  refine o_pick_t rfl (v := .bool _) rfl ?_
  refine o_move (v := .bool _) rfl ?_
  refine O_yes rfl rfl rfl ?_
  refine o_move (v := .pointer _) rfl ?_
  refine O_yes rfl rfl rfl ?_
  refine o_move (v := .int _ _) rfl ?_
  refine O_yes rfl rfl rfl ?_
  refine o_move (v := .int _ _) rfl ?_
  refine O_yes rfl rfl rfl ?_
  refine O_calls en13 rfl n_bend (fun v9 w9 hC => ?_)
  obtain ⟨rfl, hC⟩ := hC
  have hA := (hA.after hC)
  refine O_yes rfl rfl rfl ?_
  refine o_cmp2 rfl rfl rfl (fun h => ?_) (fun h => (by cases h))
  refine o_pick_t rfl (v := .bool _) rfl ?_
  refine o_move (v := .bool _) rfl ?_
  refine O_yes rfl rfl rfl ?_
  refine o_move (v := .pointer _) rfl ?_
  refine O_yes rfl rfl rfl ?_
  refine O_calls en14 rfl n_letters (fun v10 w10 hC => ?_)
  obtain ⟨rfl, hC⟩ := hC
  have hA := (hA.after hC)
  refine O_yes rfl rfl rfl ?_
  refine o_len Try.underlying26 rfl ?_
  refine O_yes rfl rfl rfl ?_
  refine o_cmp rfl rfl rfl ?_
  refine o_pick_t rfl (v := .bool _) rfl ?_
  refine o_assign (v := .bool _) rfl ?_
  refine O_end ?_
  refine W_ret ?_
  refine ⟨rfl, ?_⟩
  refine ret1 Try.results6 (v := .bool _) rfl ?_
  exact ⟨rfl, hA.clear⟩

end Go.Proofs.Ytpgjmbppbckojaa
