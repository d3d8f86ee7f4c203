/-
  Road: the law RoadFull.
-/
import Derived.Test.YtpgjmbppbckojaaRoad4
set_option linter.unusedVariables false
namespace Go.Proofs.Ytpgjmbppbckojaa
open Go Go.RowKit

theorem full_absurd {e k : Int} {L : Nat} (hk : k ≤ 512) (hL : (L : Int) = k) (hb : e = 6 ↔ 512 ≤ L) (h : ((e == 6) == (k == 512)) = false) : False := by
  by_cases h6 : e = 6
  · have h1 := hb.1 h6
    have h2 : k = 512 := by omega
    subst h6; subst h2; simp at h
  · have h1 : ¬ 512 ≤ L := fun q => h6 (hb.2 q)
    have h2 : k ≠ 512 := by omega
    rw [show (e == 6) = false from beq_eq_false_iff_ne.2 h6, show (k == 512) = false from beq_eq_false_iff_ne.2 h2] at h
    cases h

theorem c_full {w : World} {n p : Nat} (hn : n < 65536) (hp : p < 65536) : Calls Try.prog 4 #[.int .u16 (n : Int), .int .u16 (p : Int)] w fun e w' => ∃ v, e = .returned v ∧ (v = .bool true ∧ At w No [] w') := by
  refine body_in (n := 71) (l := [.int .u16 (n : Int), .int .u16 (p : Int)]) en4 rfl Try.ntmps4 rfl ?_
  have hA := At.refl w
  refine W_seq ?_
  refine W_reg ?_ -- 0 law.go:99
  refine o_assign (v := .bool _) rfl ?_
  refine O_end ?_
  refine W_seq ?_
  refine W_reg ?_ -- 1 law.go:100
  refine O_calls en7 rfl c_new (fun v1 w1 hC => ?_)
  obtain ⟨b, sv, rfl, hA⟩ := hC
  refine o_assign (v := .pointer _) rfl ?_
  refine O_end ?_
  refine W_seq ?_
  refine W_seq ?_
  refine W_reg ?_ -- 2 law.go:101
  refine O_calls en8 rfl (c_awake) (fun v2 w2 hC => ?_)
  obtain ⟨rfl, hC⟩ := hC
  have hA := (hA.after hC).take
  refine o_not rfl ?_
  refine o_move (v := .bool _) rfl ?_
  refine O_yes rfl rfl rfl ?_
  refine o_move (v := .pointer _) rfl ?_
  refine O_yes rfl rfl rfl ?_
  refine o_eqnil2 Try.underlying23 rfl rfl (.inl ⟨rfl, rfl⟩) (fun h => (by simp at h)) (fun h => ?_)
  refine o_pick_f rfl (v := .bool _) rfl ?_
  refine O_end ?_
  refine W_else rfl ?_
  refine W_skip ?_
  refine W_seq ?_
  refine W_reg ?_ -- 4 law.go:104
  refine o_move (v := .int _ _) rfl ?_
  refine o_rem rfl rfl (by decide) (show Int.tmod (n : Int) 700 = ((n % 700 : Nat) : Int) from rfl) ?_
  refine o_conv Try.underlying42 Try.underlying3 rfl (w64 rfl (by omega) (by omega)) ?_
  refine o_assign (v := .int _ _) rfl ?_
  refine O_end ?_
  refine W_seq ?_
  refine W_seq ?_
  refine W_reg ?_ -- 5 law.go:105
  refine o_assign (v := .int _ _) rfl ?_
  refine O_end ?_
  refine W_block ?_ -- 0
  have hk : n % 700 < 700 := Nat.mod_lt _ (by decide)
  generalize n % 700 = k at hk
  refine W_loop (fun kk ρ w' => ∃ (i : Nat) (ds : List RL) (sv : Value), i ≤ k ∧ kk = k - i ∧ ρ 7 = .int .i64 (i : Int) ∧ ρ 6 = .int .i64 (k : Int) ∧ ρ 5 = .pointer (some ⟨b, 0, none⟩) ∧ ρ 1 = .int .u16 (p : Int) ∧
    At w No (road b sv ds) w' ∧ ds.length = min i 512 ∧ (∀ x ∈ ds, x.l = []) ∧ (∀ (j : Nat) (x : RL), ds[j]? = some x → x.d = (j : Int))) k ⟨0, [], sv, Nat.zero_le _, by simp, rfl, rfl, rfl, rfl, hA, by simp, by simp, by simp⟩ ?_
  clear hA h
  rintro kk ρ w1 ⟨i, ds, sv, hi, rfl, h7, h6, h5, h1, hA, hlen, hl, hd⟩
  refine W_known (t := 7) h7 ?_
  refine W_known (t := 6) h6 ?_
  refine W_known (t := 5) h5 ?_
  refine W_known (t := 1) h1 ?_
  refine W_seq ?_
  refine W_seq ?_
  refine W_reg ?_ -- 6 law.go:105
  refine o_move (v := .int _ _) rfl ?_
  refine o_move (v := .int _ _) rfl ?_
  refine o_cmp2 rfl rfl rfl (fun h => ?_) (fun h => ?_)
  · -- True
    have hlt : i < k := by simp at h; omega
    refine O_end ?_
    refine W_then rfl ?_
    refine W_skip ?_
    refine W_seq ?_
    refine W_block ?_ -- 1
    refine W_seq ?_
    refine W_reg ?_ -- 8 law.go:106
    refine o_assign (v := .int _ _) rfl ?_
    refine O_end ?_
    refine W_seq ?_
    refine W_seq ?_
    refine W_reg ?_ -- 9 law.go:107
    refine o_move (v := .int _ _) rfl ?_
    refine o_cmp2 rfl rfl rfl (fun h => ?_) (fun h => ?_)
    · -- True
      refine O_end ?_
      refine W_then rfl ?_
      refine W_reg ?_ -- 10 law.go:108
      refine o_assign (v := .int _ _) rfl ?_
      refine O_end ?_
      refine W_seq ?_
      refine W_reg ?_ -- 11 law.go:110
      refine o_move (v := .pointer _) rfl ?_
      refine o_move (v := .int _ _) rfl ?_
      refine o_build la29 rfl rfl ?_
      refine O_calls en9 rfl (c_send (ds := ds) (l := []) (by omega) hA.own1 (IsRow.nil _ 5 1 none).rd (by simp)) (fun v3 w3 hC => ?_)
      have h512 : 512 ≤ i := by simp at h; omega
      rcases hC with ⟨_, rfl, hC⟩ | ⟨h1, _⟩
      rotate_left
      · omega
      refine o_move (v := .int _ _) rfl ?_
      refine o_cmp2 rfl rfl rfl (fun h => (by simp at h)) (fun h => ?_)
      refine O_end ?_
      refine W_else rfl ?_
      refine W_skip ?_
      refine W_reg ?_ -- 7 law.go:105
      refine o_move (v := .int _ _) rfl ?_
      refine o_add rfl rfl (w64 (r := ((i + 1 : Nat) : Int)) (by omega) (by omega) (by omega)) ?_
      refine o_assign (v := .int _ _) rfl ?_
      refine O_end ?_
      exact ⟨k - (i + 1), by omega, i + 1, ds, sv, by omega, rfl, rfl, rfl, rfl, rfl, hA.trans1 hC, by omega, hl, hd⟩
    · -- False
      refine O_end ?_
      refine W_else rfl ?_
      refine W_skip ?_
      refine W_seq ?_
      refine W_reg ?_ -- 11 law.go:110
      refine o_move (v := .pointer _) rfl ?_
      refine o_move (v := .int _ _) rfl ?_
      refine o_build la29 rfl rfl ?_
      refine O_calls en9 rfl (c_send (ds := ds) (l := []) (by omega) hA.own1 (IsRow.nil _ 5 1 none).rd (by simp)) (fun v4 w4 hC => ?_)
      have h512 : i < 512 := by simp at h; omega
      rcases hC with ⟨h1, _⟩ | ⟨_, rfl, sv', A, m, c, hC⟩
      · omega
      refine o_move (v := .int _ _) rfl ?_
      refine o_cmp2 rfl rfl rfl (fun h => (by simp at h)) (fun h => ?_)
      refine O_end ?_
      refine W_else rfl ?_
      refine W_skip ?_
      refine W_reg ?_ -- 7 law.go:105
      refine o_move (v := .int _ _) rfl ?_
      refine o_add rfl rfl (w64 (r := ((i + 1 : Nat) : Int)) (by omega) (by omega) (by omega)) ?_
      refine o_assign (v := .int _ _) rfl ?_
      refine O_end ?_
      exact ⟨k - (i + 1), by omega, i + 1, _, sv', by omega, rfl, rfl, rfl, rfl, rfl, hA.trans1 hC, by simp; omega, (fun x hx => by
        rcases List.mem_append.1 hx with h | h
        · exact hl x h
        · obtain rfl := List.mem_singleton.1 h; rfl), fun j x hx => by
        rw [List.getElem?_append] at hx
        split at hx
        · exact hd j x hx
        · rw [List.getElem?_singleton] at hx
          split at hx
          · obtain rfl := Option.some.inj hx
            show (i : Int) = (j : Int)
            omega
          · cases hx⟩
  · -- False
    refine O_end ?_
    refine W_else rfl ?_
    refine W_exit ?_
    refine xb_hit ?_
    refine W_seq ?_
    refine W_seq ?_
    refine W_reg ?_ -- 13 law.go:114
    refine o_move (v := .int _ _) rfl ?_
    refine o_cmp2 rfl rfl rfl (fun h => ?_) (fun h => ?_)
    · -- True
      refine O_end ?_
      refine W_then rfl ?_
      refine W_seq ?_
      refine W_reg ?_ -- 14 law.go:115
      refine o_move (v := .pointer _) rfl ?_
      refine O_calls en12 rfl (c_twin (ds := ds) (by omega) (fun x hx => by rw [hl x hx]; simp) hA.own1) (fun v5 w5 hC => ?_)
      have hk0 : k = 0 := by simp at h; omega
      rcases hC with ⟨_, rfl, hC⟩ | ⟨j, x, hj, hx, _⟩
      rotate_left
      · have := (List.getElem?_eq_some_iff.1 hx).1
        omega
      refine o_cmp rfl rfl rfl ?_
      refine o_assign (v := .bool _) rfl ?_
      refine O_end ?_
      refine W_ret ?_
      refine ⟨rfl, ?_⟩
      refine ret1 Try.results4 (v := .bool _) rfl ?_
      exact ⟨rfl, (hA.trans1 hC).clear⟩
    · -- False
      refine O_end ?_
      refine W_else rfl ?_
      refine W_skip ?_
      refine W_seq ?_
      refine W_seq ?_
      refine W_reg ?_ -- 15 law.go:117
      refine o_move (v := .int _ _) rfl ?_
      refine o_cmp2 rfl rfl rfl (fun h => ?_) (fun h => ?_)
      · -- True
        refine O_end ?_
        refine W_then rfl ?_
        refine W_reg ?_ -- 16 law.go:118
        refine o_assign (v := .int _ _) rfl ?_
        refine O_end ?_
        refine W_seq ?_
        refine W_reg ?_ -- 17 law.go:120
        refine o_move (v := .int _ _) rfl ?_
        refine o_conv Try.underlying42 Try.underlying3 rfl (w64 rfl (by omega) (by omega)) ?_
        refine o_move (v := .int _ _) rfl ?_
        refine o_rem rfl rfl (by decide) (show Int.tmod (p : Int) 512 = ((p % 512 : Nat) : Int) from rfl) ?_
        have hk512 : 512 < k ∧ i = k := by simp at *; omega
        have hat : p % 512 < 512 := Nat.mod_lt _ (by decide)
        generalize p % 512 = at_ at hat
        refine o_assign (v := .int _ _) rfl ?_
        refine O_end ?_
        refine W_seq ?_
        refine W_reg ?_ -- 18 law.go:121
        refine o_move (v := .pointer _) rfl ?_
        refine o_move (v := .int _ _) rfl ?_
        refine O_calls en12 rfl (c_twin (ds := ds) (by omega) (fun x hx => by rw [hl x hx]; simp) hA.own1) (fun v6 w6 hC => ?_)
        obtain ⟨e, sv2, ds2, x, rfl, hb, hA, hx, hxd, hle⟩ : ∃ (e : Int) (sv2 : Value) (ds2 : List RL) (x : RL), v6 = .int .i64 e ∧ (e = 6 ↔ 512 ≤ ds.length) ∧ At w No (road b sv2 ds2) w6 ∧ ds2[at_]? = some x ∧ x.d = at_ ∧ ds2.length ≤ 513 := by
          rcases hC with ⟨h1, _⟩ | ⟨j, x, hj, hx, ⟨h1, rfl, hC⟩ | ⟨h1, rfl, sv2, A2, m2, c2, hC⟩⟩
          · exact absurd ⟨by omega, by omega⟩ h1
          · obtain rfl : at_ = j := by omega
            exact ⟨6, sv, ds, x, rfl, by omega, hA.trans1 hC, hx, hd _ _ hx, by omega⟩
          · obtain rfl : at_ = j := by omega
            exact ⟨0, sv2, _, x, rfl, by omega, hA.trans1 hC, by rw [List.getElem?_append_left (by omega)]; exact hx, hd _ _ hx, by simp; omega⟩
        clear hC
        refine o_assign (v := .int _ _) rfl ?_
        refine O_end ?_
        refine W_seq ?_
        refine W_reg ?_ -- 19 law.go:122
        refine o_move (v := .pointer _) rfl ?_
        refine o_move (v := .int _ _) rfl ?_
        refine O_calls en10 rfl (c_take (ds := ds2) (by omega) hA.own1) (fun v7 w7 hC => ?_)
        rcases hC with ⟨h1, _⟩ | ⟨j, x', hj, hx', rfl, sv3, hC⟩
        · exact absurd ⟨by omega, by have := (List.getElem?_eq_some_iff.1 hx).1; omega⟩ h1
        obtain rfl : at_ = j := by omega
        obtain rfl := Option.some.inj (hx.symm.trans hx')
        have hA := hA.trans1 hC
        refine o_move (by conv => lhs; whnf) ?_
        refine o_extract rfl rfl ?_
        refine o_extract rfl rfl ?_
        refine o_alloc hA ti29 rfl (fun b8 w8 hA => ?_)
        refine o_store (cs' := [_, _, _, _]) (i := 0) hA rfl (by conv => lhs; whnf) rfl ti29 rfl rfl rfl rfl (fun w9 hA => ?_)
        refine o_assign (v := .int _ _) rfl ?_
        refine O_end ?_
        refine W_seq ?_
        refine W_reg ?_ -- 20 law.go:123
        refine o_move (v := .int _ _) rfl ?_
        refine o_cmp rfl rfl rfl ?_
        refine o_move (v := .int _ _) rfl ?_
        refine o_cmp rfl rfl rfl ?_
        refine o_eqb2 Try.underlying4 rfl rfl (.inl ⟨rfl, rfl⟩) (fun h => ?_) (fun h => (by exfalso; exact full_absurd (by omega) (by omega) hb h))
        refine o_move (v := .bool _) rfl ?_
        refine O_yes rfl rfl rfl ?_
        refine o_move (v := .int _ _) rfl ?_
        refine O_yes rfl rfl rfl ?_
        refine o_cmp2 rfl rfl rfl (fun h => ?_) (fun h => (by simp at h))
        refine o_pick_t rfl (v := .bool _) rfl ?_
        refine o_move (v := .bool _) rfl ?_
        refine O_yes rfl rfl rfl ?_
        refine o_fieldAddr fo29_0 rfl rfl ?_
        refine O_yes rfl rfl rfl ?_
        refine o_load1 ag3 rfl (hA.c 0 rfl rfl) ?_
        refine O_yes rfl rfl rfl ?_
        refine o_move (v := .int _ _) rfl ?_
        refine O_yes rfl rfl rfl ?_
        refine o_cmp rfl rfl rfl ?_
        refine o_pick_t rfl (v := .bool _) rfl ?_
        refine o_assign (v := .bool _) rfl ?_
        refine O_end ?_
        refine W_ret ?_
        refine ⟨rfl, ?_⟩
        refine ret1 Try.results4 (v := .bool _) rfl ?_
        refine ⟨?_, hA.clear⟩
        congr 1
        simpa using hxd
      · -- False
        refine O_end ?_
        refine W_else rfl ?_
        refine W_skip ?_
        refine W_seq ?_
        refine W_reg ?_ -- 17 law.go:120
        refine o_move (v := .int _ _) rfl ?_
        refine o_conv Try.underlying42 Try.underlying3 rfl (w64 rfl (by omega) (by omega)) ?_
        refine o_move (v := .int _ _) rfl ?_
        have hk512 : 0 < k ∧ k ≤ 512 ∧ i = k := by simp at *; omega
        refine o_rem rfl rfl (by omega) (show Int.tmod (p : Int) (k : Int) = ((p % k : Nat) : Int) from rfl) ?_
        have hat : p % k < k := Nat.mod_lt _ hk512.1
        generalize p % k = at_ at hat
        refine o_assign (v := .int _ _) rfl ?_
        refine O_end ?_
        refine W_seq ?_
        refine W_reg ?_ -- 18 law.go:121
        refine o_move (v := .pointer _) rfl ?_
        refine o_move (v := .int _ _) rfl ?_
        refine O_calls en12 rfl (c_twin (ds := ds) (by omega) (fun x hx => by rw [hl x hx]; simp) hA.own1) (fun v10 w10 hC => ?_)
        obtain ⟨e, sv2, ds2, x, rfl, hb, hA, hx, hxd, hle⟩ : ∃ (e : Int) (sv2 : Value) (ds2 : List RL) (x : RL), v10 = .int .i64 e ∧ (e = 6 ↔ 512 ≤ ds.length) ∧ At w No (road b sv2 ds2) w10 ∧ ds2[at_]? = some x ∧ x.d = at_ ∧ ds2.length ≤ 513 := by
          rcases hC with ⟨h1, _⟩ | ⟨j, x, hj, hx, ⟨h1, rfl, hC⟩ | ⟨h1, rfl, sv2, A2, m2, c2, hC⟩⟩
          · exact absurd ⟨by omega, by omega⟩ h1
          · obtain rfl : at_ = j := by omega
            exact ⟨6, sv, ds, x, rfl, by omega, hA.trans1 hC, hx, hd _ _ hx, by omega⟩
          · obtain rfl : at_ = j := by omega
            exact ⟨0, sv2, _, x, rfl, by omega, hA.trans1 hC, by rw [List.getElem?_append_left (by omega)]; exact hx, hd _ _ hx, by simp; omega⟩
        clear hC
        refine o_assign (v := .int _ _) rfl ?_
        refine O_end ?_
        refine W_seq ?_
        refine W_reg ?_ -- 19 law.go:122
        refine o_move (v := .pointer _) rfl ?_
        refine o_move (v := .int _ _) rfl ?_
        refine O_calls en10 rfl (c_take (ds := ds2) (by omega) hA.own1) (fun v11 w11 hC => ?_)
        rcases hC with ⟨h1, _⟩ | ⟨j, x', hj, hx', rfl, sv3, hC⟩
        · exact absurd ⟨by omega, by have := (List.getElem?_eq_some_iff.1 hx).1; omega⟩ h1
        obtain rfl : at_ = j := by omega
        obtain rfl := Option.some.inj (hx.symm.trans hx')
        have hA := hA.trans1 hC
        refine o_move (by conv => lhs; whnf) ?_
        refine o_extract rfl rfl ?_
        refine o_extract rfl rfl ?_
        refine o_alloc hA ti29 rfl (fun b12 w12 hA => ?_)
        refine o_store (cs' := [_, _, _, _]) (i := 0) hA rfl (by conv => lhs; whnf) rfl ti29 rfl rfl rfl rfl (fun w13 hA => ?_)
        refine o_assign (v := .int _ _) rfl ?_
        refine O_end ?_
        refine W_seq ?_
        refine W_reg ?_ -- 20 law.go:123
        refine o_move (v := .int _ _) rfl ?_
        refine o_cmp rfl rfl rfl ?_
        refine o_move (v := .int _ _) rfl ?_
        refine o_cmp rfl rfl rfl ?_
        refine o_eqb2 Try.underlying4 rfl rfl (.inl ⟨rfl, rfl⟩) (fun h => ?_) (fun h => (by exfalso; exact full_absurd (by omega) (by omega) hb h))
        refine o_move (v := .bool _) rfl ?_
        refine O_yes rfl rfl rfl ?_
        refine o_move (v := .int _ _) rfl ?_
        refine O_yes rfl rfl rfl ?_
        refine o_cmp2 rfl rfl rfl (fun h => ?_) (fun h => (by simp at h))
        refine o_pick_t rfl (v := .bool _) rfl ?_
        refine o_move (v := .bool _) rfl ?_
        refine O_yes rfl rfl rfl ?_
        refine o_fieldAddr fo29_0 rfl rfl ?_
        refine O_yes rfl rfl rfl ?_
        refine o_load1 ag3 rfl (hA.c 0 rfl rfl) ?_
        refine O_yes rfl rfl rfl ?_
        refine o_move (v := .int _ _) rfl ?_
        refine O_yes rfl rfl rfl ?_
        refine o_cmp rfl rfl rfl ?_
        refine o_pick_t rfl (v := .bool _) rfl ?_
        refine o_assign (v := .bool _) rfl ?_
        refine O_end ?_
        refine W_ret ?_
        refine ⟨rfl, ?_⟩
        refine ret1 Try.results4 (v := .bool _) rfl ?_
        refine ⟨?_, hA.clear⟩
        congr 1
        simpa using hxd

end Go.Proofs.Ytpgjmbppbckojaa
