/-
  Road: what it tells.
-/
import Derived.Test.YtpgjmbppbckojaaRoad2
set_option linter.unusedVariables false
namespace Go.Proofs.Ytpgjmbppbckojaa
open Go Go.RowKit

def RL.core (x : RL) : Int × Bool × Bool × List UInt8 := (x.d, x.k, x.t, x.l)
theorem datas_snoc (ds : List RL) (x : RL) : datas (ds ++ [x]) = datas ds ++ [Row 5 1 x.D (u8s x.l)] := by simp [datas]
theorem flat_snoc (ds : List RL) (x : RL) : flat (ds ++ [x]) = flat ds ++ rlc x := by rw [flat_append]; simp [flat]
theorem core_len {a b : List RL} (h : a.map RL.core = b.map RL.core) : a.length = b.length := by have := congrArg List.length h; simpa using this

theorem c_letters {w : World} {b : Nat} {sv : Value} {ds : List RL} (hsm : ds.length ≤ 1000) (hl : ∀ x ∈ ds, x.l.length ≤ 140737488355328) (hR : At w (SS (road b sv ds)) (road b sv ds) w) :
    Calls Try.prog 14 #[.pointer (some ⟨b, 0, none⟩)] w fun e w' => ∃ v, e = .returned v ∧ ∃ ds' v', v = v' ∧ ds'.map RL.core = ds.map RL.core ∧ At w No (Row 29 4 v' (flat ds') :: datas ds') w' := by
  obtain ⟨A, m, c, rfl, hm⟩ := road_form hR
  have hcell : w.cell? ⟨b, 0, none⟩ = some (.slice A m c) := hR.c 1 rfl rfl
  refine body_in (n := 26) (l := [.pointer (some ⟨b, 0, none⟩)]) en14 rfl Try.ntmps14 rfl ?_
  have hA := At.refl w
  refine W_seq ?_
  refine W_reg ?_ -- 0 road.go:92
  refine o_assign (by conv => lhs; whnf) ?_
  refine O_end ?_
  refine W_seq ?_
  refine W_seq ?_
  refine W_reg ?_ -- 1 road.go:93
  refine o_move (v := .pointer _) rfl ?_
  refine o_eqnil2 Try.underlying23 rfl rfl (.inl ⟨rfl, rfl⟩) (fun h => ?_) (fun h => ?_)
  · -- True
    refine O_end ?_
    refine W_then rfl ?_
    refine W_seq ?_
    refine W_reg ?_ -- 2 road.go:94
    refine o_assign (by conv => lhs; whnf) ?_
    refine O_end ?_
    refine W_ret ?_
    refine ⟨rfl, ?_⟩
    refine ret1 Try.results14 (by conv => lhs; whnf) ?_
    simp at h
  · -- False
    refine O_end ?_
    refine W_else rfl ?_
    refine W_skip ?_
    refine W_seq ?_
    refine W_reg ?_ -- 3 road.go:96
    refine o_buildSlice (cs := []) hA Try.underlying26 ti29 rfl rfl rfl rfl rfl (fun a1 w1 hA => ?_)
    refine o_assign (by conv => lhs; whnf) ?_
    refine O_end ?_
    refine W_seq ?_
    refine W_seq ?_
    refine W_reg ?_ -- 4 road.go:97
    refine o_move (v := .pointer _) rfl ?_
    refine o_nilCheck rfl ?_
    refine o_fieldAddr fo49_0 rfl rfl ?_
    refine o_fieldAddr fo47_0 rfl rfl ?_
    refine o_load1 ag26 rfl (hA.cell hcell id) ?_
    refine o_len Try.underlying26 rfl ?_
    refine o_move (v := .int _ _) rfl ?_
    refine O_end ?_
    refine W_block ?_ -- 0
    refine W_loop (fun k ρ w' => ∃ (i : Nat) (ds' : List RL) (A' : Option Addr) (m' c' : Nat), i ≤ ds.length ∧ k = ds.length - i ∧ ρ 15 = .int .i64 (i : Int) ∧ ρ 14 = .int .i64 (m : Int) ∧ ρ 13 = .slice A m c ∧ ρ 3 = .slice A' m' c' ∧
      At w No (Row 29 4 (.slice A' m' c') (flat ds') :: datas ds') w' ∧ ds'.map RL.core = (ds.take i).map RL.core) ds.length ⟨0, [], _, _, _, Nat.zero_le _, by simp, rfl, rfl, rfl, rfl, hA, by simp⟩ ?_
    clear hA
    rintro kk ρ w1 ⟨i, ds', A', m', c', hi, rfl, h15, h14, h13, h3, hA, hcore⟩
    have hlen : ds'.length = i := by have := core_len hcore; rw [List.length_take] at this; omega
    refine W_known (t := 15) h15 ?_
    refine W_known (t := 14) h14 ?_
    refine W_known (t := 13) h13 ?_
    refine W_known (t := 3) h3 ?_
    refine W_seq ?_
    refine W_reg ?_ -- 5 road.go:97
    refine o_cmp2 rfl rfl rfl (fun h => ?_) (fun h => ?_)
    · -- True
      have hlt : i < ds.length := by simp at h; omega
      obtain ⟨x, hx⟩ : ∃ x, ds[i]? = some x := ⟨_, List.getElem?_eq_getElem (by simp at h; omega)⟩
      obtain ⟨g, rfl⟩ := row_some (hR.row 0 rfl) (by simp at h; omega)
      refine O_end ?_
      refine W_seq ?_
      refine W_then rfl ?_
      refine W_skip ?_
      refine W_seq ?_
      refine W_block ?_ -- 1
      refine W_seq ?_
      refine W_reg ?_ -- 6 road.go:97
      refine o_index Try.underlying26 ti29 rfl rfl (by omega) (by simp at h; omega) ?_
      refine o_loadN ag29 ti29 rfl (cs := rlc x) rfl (letter_cells ((hR.rd 0 rfl).old hA) hx) ?_
      refine o_alloc hA ti29 rfl (fun b2 w2 hA => ?_)
      refine o_store (cs' := [_, _, _, _]) (i := 0) hA rfl (by conv => lhs; whnf) rfl ti29 rfl rfl rfl rfl (fun w3 hA => ?_)
      refine O_end ?_
      refine W_reg ?_ -- 7 road.go:98
      refine o_move (by conv => lhs; whnf) ?_
      refine o_loadN ag29 ti29 rfl rfl (hA.cs (i := 0) (o := 0) (s := 4) (ds := [_, _, _, _]) rfl rfl) ?_
      refine O_calls en15 rfl (c_own ((hR.rd (i + 2) (road_data hx)).old hA) (hl x (List.mem_of_getElem? hx))) (fun v4 w4 hC => ?_)
      obtain ⟨D', rfl, hC⟩ := hC
      have hA := hA.more hC
      obtain ⟨D'A, D'm, D'c, rfl⟩ := (hA.row 0 rfl).slice
      refine o_buildSlice (cs := [_, _, _, _]) hA Try.underlying26 ti29 rfl rfl rfl rfl rfl (fun a5 w5 hA => ?_)
      refine o_append (i := 3) hA rfl rfl rfl Try.underlying26 ti29 rfl (by decide) (hA.rd 0 rfl) (fun u hu => by simp only [List.mem_cons, List.not_mem_nil, or_false] at hu; rcases hu with rfl | rfl | rfl | rfl <;> rfl) (fun a k h1 h2 => by rw [flat_len] at h1; simp only [List.length_cons, List.length_nil] at h2; omega) (fun a k h1 h2 => by rw [flat_len] at h1; simp only [List.length_cons, List.length_nil] at h2; omega) (fun v6 w6 hA => ?_)
      refine o_assign (by conv => lhs; whnf) ?_
      refine O_end ?_
      refine W_reg ?_ -- 8 road.go:97
      refine o_add rfl rfl (w64 (r := ((i + 1 : Nat) : Int)) (by omega) (by omega) (by omega)) ?_
      refine o_move (v := .int _ _) rfl ?_
      refine O_end ?_
      obtain ⟨A6, m6, c6, rfl⟩ := (hA.row 3 rfl).slice
      refine ⟨ds.length - (i + 1), by omega, i + 1, ds' ++ [⟨x.d, x.k, x.t, D'A, D'm, D'c, x.l⟩], A6, m6, c6, by omega, rfl, rfl, rfl, rfl, rfl, ?_, ?_⟩
      · rw [flat_snoc, datas_snoc]
        exact hA.drop.rot.drop
      · rw [List.take_add_one, hx, List.map_append, List.map_append, hcore]
        rfl
    · -- False
      refine O_end ?_
      refine W_seq ?_
      refine W_else rfl ?_
      refine W_exit ?_
      refine xb_hit ?_
      refine W_seq ?_
      refine W_reg ?_ -- 9 road.go:100
      refine o_move (by conv => lhs; whnf) ?_
      refine o_assign (by conv => lhs; whnf) ?_
      refine O_end ?_
      refine W_ret ?_
      refine ⟨rfl, ?_⟩
      refine ret1 Try.results14 (by conv => lhs; whnf) ?_
      exact ⟨ds', _, rfl, by rw [hcore, List.take_of_length_le (by simp at h; omega)], hA⟩

end Go.Proofs.Ytpgjmbppbckojaa
