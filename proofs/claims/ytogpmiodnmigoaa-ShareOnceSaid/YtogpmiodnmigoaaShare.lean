/-
  Package share: large, point, on, some, Join, Fits.
-/
import Derived.Test.YtogpmiodnmigoaaPoints
import Derived.Test.YtogpmiodnmigoaaEqs
import Derived.Test.YtogpmiodnmigoaaConcat
set_option linter.unusedVariables false
set_option linter.unusedSimpArgs false
namespace Go.Proofs.Ytogpmiodnmigoaa
open Go Go.RowKit

theorem sound_take {l : List Pt} {k : Nat} (h : soundP l = 0) (h1 : 1 ≤ k) (h2 : k ≤ l.length) : soundP (l.take k) = 0 := by
  have hlen : (l.take k).length = k := by rw [List.length_take]; omega
  unfold soundP at h
  split at h
  · cases h
  · split at h
    · cases h
    · split at h
      · cases h
      · rename_i hd
        split at h
        · cases h
        · rename_i hb
          unfold soundP
          rw [hlen, if_neg (by omega), if_neg (by omega), if_neg, if_neg]
          · intro hc
            obtain ⟨x, hx, hxb⟩ := List.any_eq_true.1 hc
            exact hb (List.any_eq_true.2 ⟨x, List.mem_of_mem_take hx, hxb⟩)
          · intro hc
            obtain ⟨i, hi, hib⟩ := List.any_eq_true.1 hc
            have hi' := List.mem_range.1 hi
            rw [hlen] at hi'
            refine hd (List.any_eq_true.2 ⟨i, List.mem_range.2 (by omega), ?_⟩)
            unfold dupAt at hib ⊢
            rw [List.getElem?_take_of_lt hi', List.take_take, Nat.min_eq_left (by omega)] at hib
            exact hib
def someE (e : Int) (l : List Pt) : Int := if e < 1 ∨ 64 < e then 1 else if soundP l ≠ 0 then soundP l else if (l.length : Int) < e then 12 else 0
def curveF (e : Int) (l : List Pt) : List Nat := throughF (l.take e.toNat) e.toNat
def onP (c : List Nat) (p : Pt) : Bool := evN c p.a.toNat % 2305843009213693951 == p.v
def joinF (e : Int) (l : List Pt) : Value := if someE e l = 0 then .tuple #[.int .u64 ((evN (throughF (l.take e.toNat) e.toNat) 0 % 2305843009213693951 : Nat) : Int), .int .i64 0] else .tuple #[.int .u64 0, .int .i64 (someE e l)]
def fitsF (e : Int) (l : List Pt) : Value := if someE e l = 0 then .tuple #[.bool (!(l.any fun p => !(onP (throughF (l.take e.toNat) e.toNat) p))), .int .i64 0] else .tuple #[.bool false, .int .i64 (someE e l)]
theorem someE_sound {e : Int} {l : List Pt} (h : someE e l = 0) : soundP l = 0 ∧ 1 ≤ e ∧ e ≤ 64 ∧ e ≤ l.length := by
  unfold someE at h
  split at h
  · cases h
  · split at h
    · contradiction
    · split at h
      · cases h
      · rename_i h1 h2 h3; simp at h2; omega
theorem eq_pt (w : World) (a b c d : Int) : (Op.equalIn 10000 33 (.agg #[.int .i64 a, .int .u64 b]) (.agg #[.int .i64 c, .int .u64 d])).run Try.prog w = .ok (a == c && b == d) w := by
  have u3 := Try.underlying3
  have u4 := Try.underlying22
  have z3 := Try.sizeOf3
  have z4 := Try.sizeOf22
  have a3 := Try.isAgg3
  have a4 := Try.isAgg22
  have hS : Try.prog.underlying 33 = some (.struct (Try.prog.fieldsOf 33)) := by kernel_rfl
  have hp : Try.prog.stoodInHeld 33 = false := by kernel_rfl
  rw [show (10000 : Nat) = 9999 + 1 from rfl, run_equalIn_agg w 9999 33 _ _ hS hp]
  simp only [Program.fieldsOf, Try.underlying33]
  go_simp
  by_cases h1 : a = c <;> by_cases h2 : b = d <;> simp [h1, h2]

theorem c_large {w : World} {a : Nat} : Calls Try.prog 14 #[.int .u64 (a : Int)] w fun e w' => ∃ v, e = .returned v ∧ (v = .bool (decide (2305843009213693951 ≤ a)) ∧ At w No [] w') := by
  refine body_in (n := 5) (l := [.int .u64 (a : Int)]) en14 rfl Try.ntmps14 rfl ?_
  have hA := At.refl w
  refine W_seq ?_
  refine W_reg ?_ -- 0 share.go:13
  refine o_assign (v := .bool _) rfl ?_
  refine O_end ?_
  refine W_seq ?_
  refine W_reg ?_ -- 1 share.go:13
  refine o_move (v := .int _ _) rfl ?_
  refine o_cmp rfl rfl rfl ?_
  refine o_assign (v := .bool _) rfl ?_
  refine O_end ?_
  refine W_ret ?_
  refine ⟨rfl, ?_⟩
  refine ret1 Try.results14 (v := .bool _) rfl ?_
  refine ⟨?_, hA⟩
  show Value.bool _ = _
  congr 1
  rw [decide_eq_decide]; omega

theorem c_point {w : World} {A : Option Addr} {m c : Nat} {a : Int} {l : List Nat} (hR : Rd w 1 (.slice A m c) (u64s l)) (hl : l.length ≤ 1000000) (ha0 : 0 ≤ a) (ha1 : a ≤ 1000000) : Calls Try.prog 25 #[.slice A m c, .int .i64 a] w fun e w' => ∃ v, e = .returned v ∧ (v = .agg #[.int .i64 a, .int .u64 ((evN l a.toNat % 2305843009213693951 : Nat) : Int)] ∧ At w No [] w') := by
  refine body_in (n := 11) (l := [.slice A m c, .int .i64 a]) en25 rfl Try.ntmps25 rfl ?_
  have hA := At.refl w
  refine W_seq ?_
  refine W_reg ?_ -- 0 share.go:19
  refine o_alloc hA ti33 rfl (fun b1 w1 hA => ?_)
  refine O_end ?_
  refine W_seq ?_
  refine W_reg ?_ -- 1 share.go:19
  refine o_move (v := .int _ _) rfl ?_
  refine o_move (by conv => lhs; whnf) ?_
  refine o_move (v := .int _ _) rfl ?_
  refine o_conv Try.underlying3 Try.underlying22 rfl (u64w (r := a.toNat) (by omega) (by omega)) ?_
  refine O_calls en40 rfl (l_at (hR.old hA) hl) (fun v2 w2 hC => ?_)
  obtain ⟨rfl, hC⟩ := hC
  have hA := (hA.after hC).take
  refine o_build la33 rfl rfl ?_
  refine o_store (cs' := [_, _]) (i := 0) hA rfl (by conv => lhs; whnf) rfl ti33 rfl rfl rfl rfl (fun w3 hA => ?_)
  refine O_end ?_
  refine W_ret ?_
  refine ⟨rfl, ?_⟩
  refine retc (i := 0) hA Try.results25 rfl ag33 ti33 rfl rfl ?_
  exact ⟨rfl, hA.clear⟩

theorem c_on {w : World} {A : Option Addr} {m c : Nat} {p : Pt} {l : List Nat} (hR : Rd w 1 (.slice A m c) (u64s l)) (hl : l.length ≤ 1000000) (hp0 : 0 ≤ p.a) (hp1 : p.a ≤ 1000000) : Calls Try.prog 27 #[.slice A m c, .agg #[.int .i64 p.a, .int .u64 (p.v : Int)]] w fun e w' => ∃ v, e = .returned v ∧ (v = .bool (onP l p) ∧ At w No [] w') := by
  refine body_in (n := 11) (l := [.slice A m c, .agg #[.int .i64 p.a, .int .u64 (p.v : Int)]]) en27 rfl Try.ntmps27 rfl ?_
  have hA := At.refl w
  refine W_seq ?_
  refine W_reg ?_ -- 0 share.go:22
  refine o_box hA (by conv => lhs; whnf) rfl (fun b1 w1 hA => ?_)
  refine o_assign (v := .bool _) rfl ?_
  refine O_end ?_
  refine W_seq ?_
  refine W_drawA hA [2, 4] mix rfl rfl (fun w0_1 hA => ?_) -- 1 share.go:22
  refine D_take 0 rfl (by kernel_rfl) (by rintro _ _ _ ⟨h, _⟩; cases h) rfl (fun h => by cases h) (fun w hA => r_move (by conv => lhs; whnf)) ?_
  refine D_take 1 rfl (by kernel_rfl) (by rintro _ _ _ ⟨h, _⟩; cases h) rfl (fun h => by cases h) (fun w hA => r_fieldAddr fo33_0 rfl rfl) ?_
  refine D_take 2 rfl (by kernel_rfl) (by rintro _ _ _ ⟨h, _⟩; cases h) rfl (fun _ => hA) (fun w hA => r_load1 ag3 rfl ((hA rfl).c 0 rfl rfl)) ?_
  refine D_take 4 rfl (by kernel_rfl) (by rintro _ _ _ ⟨h, _⟩; cases h) rfl (fun _ => hA) (fun w hA => r_loadN ag33 ti33 rfl rfl ((hA rfl).cs (i := 0) (o := 0) (s := 2) (ds := [_, _]) rfl rfl)) ?_
  refine D_run 3 (by kernel_rfl) rfl rfl ?_
  refine O_calls en25 rfl (c_point (hR.old hA) hl hp0 hp1) (fun v2 w2 hC => ?_)
  obtain ⟨rfl, hC⟩ := hC
  have hA := (hA.after hC).take
  refine O_end ⟨fun _ _ => hA, ?_⟩
  refine D_take 5 rfl (by kernel_rfl) (by rintro _ _ _ ⟨h, _⟩; cases h) rfl (fun h => by cases h) (fun w hA => r_eqagg rfl rfl (by kernel_rfl) (fun w => eq_pt w _ _ _ _) (.inl ⟨rfl, rfl⟩)) ?_
  refine D_take 6 rfl (by kernel_rfl) (by rintro _ _ _ ⟨h, _⟩; cases h) rfl (fun h => by cases h) (fun w hA => r_assign (v := .bool _) rfl) ?_
  refine D_done (by kernel_rfl) ?_
  refine W_ret ?_
  refine ⟨rfl, ?_⟩
  refine ret1 Try.results27 (v := .bool _) rfl ?_
  refine ⟨?_, hA.clear⟩
  show Value.bool _ = _
  unfold onP
  congr 1
  rw [beq_self_eq_true, Bool.true_and, Bool.eq_iff_iff, beq_iff_eq, beq_iff_eq]
  omega

theorem c_fits1 {w : World} {A : Option Addr} {m c b : Nat} {p : Pt} {l : List Nat} (hb : w.cell? ⟨b, 0, none⟩ = some (.func (.func 27) #[.slice A m c] #[])) (hR : Rd w 1 (.slice A m c) (u64s l)) (hl : l.length ≤ 1000000) (hp0 : 0 ≤ p.a) (hp1 : p.a ≤ 1000000) : Calls Try.prog 29 #[.agg #[.int .i64 p.a, .int .u64 (p.v : Int)], .pointer (some ⟨b, 0, none⟩)] w fun e w' => ∃ v, e = .returned v ∧ (v = .bool (!(onP l p)) ∧ At w No [] w') := by
  refine body_in (n := 8) (l := [.agg #[.int .i64 p.a, .int .u64 (p.v : Int)], .pointer (some ⟨b, 0, none⟩)]) en29 rfl Try.ntmps29 rfl ?_
  have hA := At.refl w
  refine W_seq ?_
  refine W_reg ?_ -- 0 share.go:70
  refine o_box hA (by conv => lhs; whnf) rfl (fun b1 w1 hA => ?_)
  refine o_assign (v := .bool _) rfl ?_
  refine O_end ?_
  refine W_seq ?_
  refine W_reg ?_ -- 1 share.go:70
  refine o_load1 ag56 rfl (hA.cellT hb) ?_
  refine o_loadN ag33 ti33 rfl rfl (hA.cs (i := 0) (o := 0) (s := 2) (ds := [_, _]) rfl rfl) ?_
  refine O_callv (fi := [.slice A m c]) (ca := []) en27 rfl rfl (c_on (hR.old hA) hl hp0 hp1) (fun v2 w2 hC => ?_)
  obtain ⟨rfl, hC⟩ := hC
  have hA := (hA.after hC).take
  refine o_not rfl ?_
  refine o_assign (v := .bool _) rfl ?_
  refine O_end ?_
  refine W_ret ?_
  refine ⟨rfl, ?_⟩
  refine ret1 Try.results29 (v := .bool _) rfl ?_
  exact ⟨rfl, hA.clear⟩

theorem l_some {w : World} {A : Option Addr} {m c : Nat} {e : Int} {l : List Pt} (hR : Rd w 2 (.slice A m c) (flatP l)) (hl : l.length ≤ 140737488355328) : Calls Try.prog 26 #[.int .i64 e, .slice A m c] w fun ee w' => ∃ v, ee = .returned v ∧ ((someE e l ≠ 0 ∧ v = .tuple #[.slice none 0 0, .int .i64 (someE e l)] ∧ At w No [] w') ∨ (someE e l = 0 ∧ ∃ u, v = .tuple #[u, .int .i64 0] ∧ At w No [Row 22 1 u (u64s (throughF (l.take e.toNat) e.toNat))] w')) := by
  obtain rfl := pt_len hR
  refine body_in (n := 32) (l := [.int .i64 e, .slice A l.length c]) en26 rfl Try.ntmps26 rfl ?_
  have hA := At.refl w
  refine W_seq ?_
  refine W_reg ?_ -- 0 share.go:41
  refine o_assign (by conv => lhs; whnf) ?_
  refine o_assign (v := .int _ _) rfl ?_
  refine O_end ?_
  refine W_seq ?_
  refine W_seq ?_
  refine W_reg ?_ -- 1 share.go:42
  refine o_move (v := .int _ _) rfl ?_
  refine o_cmp2 rfl rfl rfl (fun h => ?_) (fun h => ?_)
  · -- True
    have q9 := of_decide_eq_true h
    refine o_move (v := .bool _) rfl ?_
    refine O_no rfl rfl rfl rfl ?_
    refine O_no rfl rfl rfl rfl ?_
    refine o_pick_t rfl (v := .bool _) rfl ?_
    refine O_end ?_
    refine W_then rfl ?_
    refine W_seq ?_
    refine W_reg ?_ -- 2 share.go:43
    refine o_assign (by conv => lhs; whnf) ?_
    refine o_assign (v := .int _ _) rfl ?_
    refine O_end ?_
    refine W_ret ?_
    refine ⟨rfl, ?_⟩
    refine ret2 Try.results26 (by conv => lhs; whnf) (u := .int _ _) rfl ?_
    exact .inl ⟨by unfold someE; rw [if_pos (by omega)]; decide, by unfold someE; rw [if_pos (by omega)], hA⟩
  · -- False
    have q9 := of_decide_eq_false h
    refine o_move (v := .bool _) rfl ?_
    refine O_yes rfl rfl rfl ?_
    refine o_move (v := .int _ _) rfl ?_
    refine O_yes rfl rfl rfl ?_
    refine o_cmp2 rfl rfl rfl (fun h => ?_) (fun h => ?_)
    · -- True
      have q12 := of_decide_eq_true h
      refine o_pick_f rfl (v := .bool _) rfl ?_
      refine O_end ?_
      refine W_then rfl ?_
      refine W_seq ?_
      refine W_reg ?_ -- 2 share.go:43
      refine o_assign (by conv => lhs; whnf) ?_
      refine o_assign (v := .int _ _) rfl ?_
      refine O_end ?_
      refine W_ret ?_
      refine ⟨rfl, ?_⟩
      refine ret2 Try.results26 (by conv => lhs; whnf) (u := .int _ _) rfl ?_
      exact .inl ⟨by unfold someE; rw [if_pos (by omega)]; decide, by unfold someE; rw [if_pos (by omega)], hA⟩
    · -- False
      have q12 := of_decide_eq_false h
      refine o_pick_f rfl (v := .bool _) rfl ?_
      refine O_end ?_
      refine W_else rfl ?_
      refine W_skip ?_
      refine W_seq ?_
      refine W_seq ?_
      refine W_reg ?_ -- 3 share.go:45
      refine o_move (by conv => lhs; whnf) ?_
      refine O_calls en16 rfl (l_zero hR hl) (fun v1 w1 hC => ?_)
      obtain ⟨hv, hC⟩ := hC
      have hA := (hA.after hC).take
      obtain ⟨z, rfl⟩ : ∃ z : Nat, v1 = .tuple #[.int .u64 (z : Int), .int .i64 (soundP l)] := by
        rcases hv with ⟨_, rfl⟩ | ⟨h0, z, rfl⟩
        · exact ⟨0, rfl⟩
        · exact ⟨z, by rw [h0]⟩
      refine o_move (by conv => lhs; whnf) ?_
      refine o_extract rfl rfl ?_
      refine o_extract rfl rfl ?_
      refine o_assign (v := .int _ _) rfl ?_
      refine o_assign (v := .int _ _) rfl ?_
      refine O_end ?_
      refine W_seq ?_
      refine W_reg ?_ -- 4 share.go:45
      refine o_move (v := .int _ _) rfl ?_
      refine o_cmp2 rfl rfl rfl (fun h => ?_) (fun h => ?_)
      · -- True
        have q20 := bne_iff_ne.1 h
        refine O_end ?_
        refine W_then rfl ?_
        refine W_seq ?_
        refine W_reg ?_ -- 5 share.go:46
        refine o_move (v := .int _ _) rfl ?_
        refine o_assign (by conv => lhs; whnf) ?_
        refine o_assign (v := .int _ _) rfl ?_
        refine O_end ?_
        refine W_ret ?_
        refine ⟨rfl, ?_⟩
        refine ret2 Try.results26 (by conv => lhs; whnf) (u := .int _ _) rfl ?_
        exact .inl ⟨by unfold someE; rw [if_neg (by omega), if_pos q20]; exact q20, by unfold someE; rw [if_neg (by omega), if_pos q20], hA⟩
      · -- False
        have q20 := bne_eq_false_iff_eq.1 h
        refine O_end ?_
        refine W_else rfl ?_
        refine W_skip ?_
        refine W_seq ?_
        refine W_seq ?_
        refine W_reg ?_ -- 6 share.go:48
        refine o_move (by conv => lhs; whnf) ?_
        refine o_len Try.underlying23 rfl ?_
        refine o_move (v := .int _ _) rfl ?_
        refine o_cmp2 rfl rfl rfl (fun h => ?_) (fun h => ?_)
        · -- True
          have q25 := of_decide_eq_true h
          refine O_end ?_
          refine W_then rfl ?_
          refine W_seq ?_
          refine W_reg ?_ -- 7 share.go:49
          refine o_assign (by conv => lhs; whnf) ?_
          refine o_assign (v := .int _ _) rfl ?_
          refine O_end ?_
          refine W_ret ?_
          refine ⟨rfl, ?_⟩
          refine ret2 Try.results26 (by conv => lhs; whnf) (u := .int _ _) rfl ?_
          exact .inl ⟨by unfold someE; rw [if_neg (by omega), if_neg (by simpa using q20), if_pos (by omega)]; decide, by unfold someE; rw [if_neg (by omega), if_neg (by simpa using q20), if_pos (by omega)], hA⟩
        · -- False
          have q25 := of_decide_eq_false h
          refine O_end ?_
          refine W_else rfl ?_
          refine W_skip ?_
          refine W_seq ?_
          obtain ⟨k, rfl⟩ : ∃ k : Nat, e = (k : Int) := ⟨e.toNat, by omega⟩
          have hlc : l.length ≤ c := by obtain ⟨_, _, _, he, _, h, _⟩ := id hR; injection he with _ h1 h2; omega
          refine W_reg ?_ -- 8 share.go:51
          refine o_move (by conv => lhs; whnf) ?_
          refine o_move (v := .int _ _) rfl ?_
          refine o_slice Try.underlying23 ti33 rfl (.inl ⟨rfl, rfl⟩) (.inr ⟨_, rfl⟩) (.inl ⟨rfl, rfl⟩) (by simp) (Nat.le_refl _) (by omega) (Nat.zero_le _) ?_
          refine O_calls en20 rfl (l_through (l := l.take k) (by have := (hR.old hA).cut (l := 0) (h := k) (mm := c) (Nat.le_refl _) (by omega) (Nat.zero_le _) (by omega); rw [flatP_take l k (by omega)] at this; exact this) (by rw [List.length_take]; omega)) (fun v2 w2 hC => ?_)
          rcases hC with ⟨h0, _⟩ | ⟨h0, u, rfl, hC⟩
          · exact absurd (sound_take q20 (by omega) (by omega)) h0
          have hA := hA.more hC
          obtain ⟨UA, Um, Uc, rfl⟩ := (hA.row 0 rfl).slice
          refine o_extract rfl rfl ?_
          refine o_extract rfl rfl ?_
          refine o_assign (by conv => lhs; whnf) ?_
          refine o_assign (v := .int _ _) rfl ?_
          refine O_end ?_
          refine W_ret ?_
          refine ⟨rfl, ?_⟩
          refine ret2 Try.results26 (by conv => lhs; whnf) (u := .int _ _) rfl ?_
          have hkl : (l.take k).length = k := by rw [List.length_take]; omega
          rw [hkl] at hA
          exact .inr ⟨by unfold someE; rw [if_neg (by omega), if_neg (by simpa using q20), if_neg (by omega)], _, rfl, hA.keep 1⟩

def someP (e : Int) (l : List Pt) : List Nat := if someE e l = 0 then throughF (l.take e.toNat) e.toNat else []
theorem l_some2 {w : World} {A : Option Addr} {m c : Nat} {e : Int} {l : List Pt} (hR : Rd w 2 (.slice A m c) (flatP l)) (hl : l.length ≤ 140737488355328) : Calls Try.prog 26 #[.int .i64 e, .slice A m c] w fun ee w' => ∃ v, ee = .returned v ∧ ∃ u, v = .tuple #[u, .int .i64 (someE e l)] ∧ At w No [Row 22 1 u (u64s (someP e l))] w' := by
  refine (l_some hR hl).mono fun ee w' hh => ?_
  obtain ⟨v, rfl, h⟩ := hh
  refine ⟨v, rfl, ?_⟩
  rcases h with ⟨h0, rfl, hC⟩ | ⟨h0, u, rfl, hC⟩
  · refine ⟨_, rfl, ?_⟩
    rw [someP, if_neg h0]
    exact hC.nilRow _ 1 none
  · refine ⟨u, by rw [h0], ?_⟩
    rw [someP, if_pos h0]
    exact hC

theorem l_join {w : World} {A : Option Addr} {m c : Nat} {e : Int} {l : List Pt} (hR : Rd w 2 (.slice A m c) (flatP l)) (hl : l.length ≤ 140737488355328) : Calls Try.prog 21 #[.int .i64 e, .slice A m c] w fun ee w' => ∃ v, ee = .returned v ∧ (v = joinF e l ∧ At w No [] w') := by
  obtain rfl := pt_len hR
  refine body_in (n := 19) (l := [.int .i64 e, .slice A l.length c]) en21 rfl Try.ntmps21 rfl ?_
  have hA := At.refl w
  refine W_seq ?_
  refine W_reg ?_ -- 0 share.go:55
  refine o_assign (v := .int _ _) rfl ?_
  refine o_assign (v := .int _ _) rfl ?_
  refine O_end ?_
  refine W_seq ?_
  refine W_reg ?_ -- 1 share.go:56
  refine o_move (v := .int _ _) rfl ?_
  refine o_move (by conv => lhs; whnf) ?_
  refine O_calls en26 rfl (l_some2 hR hl) (fun v1 w1 hC => ?_)
  obtain ⟨u, rfl, hC⟩ := hC
  obtain ⟨UA, Um, Uc, rfl⟩ := (hC.row 0 rfl).slice
  have hA := hA.more hC
  refine o_move (by conv => lhs; whnf) ?_
  refine o_extract rfl rfl ?_
  refine o_extract rfl rfl ?_
  refine o_assign (by conv => lhs; whnf) ?_
  refine o_assign (v := .int _ _) rfl ?_
  refine O_end ?_
  refine W_seq ?_
  refine W_seq ?_
  refine W_reg ?_ -- 2 share.go:57
  refine o_move (v := .int _ _) rfl ?_
  refine o_cmp2 rfl rfl rfl (fun h => ?_) (fun h => ?_)
  · -- True
    have q15 := bne_iff_ne.1 h
    refine O_end ?_
    refine W_then rfl ?_
    refine W_seq ?_
    refine W_reg ?_ -- 3 share.go:58
    refine o_move (v := .int _ _) rfl ?_
    refine o_assign (v := .int _ _) rfl ?_
    refine o_assign (v := .int _ _) rfl ?_
    refine O_end ?_
    refine W_ret ?_
    refine ⟨rfl, ?_⟩
    refine ret2 Try.results21 (v := .int _ _) rfl (u := .int _ _) rfl ?_
    exact ⟨by unfold joinF; rw [if_neg q15], hA.clear⟩
  · -- False
    have q15 := bne_eq_false_iff_eq.1 h
    refine O_end ?_
    refine W_else rfl ?_
    refine W_skip ?_
    refine W_seq ?_
    obtain ⟨hs0, he1, he2, he3⟩ := someE_sound q15
    obtain ⟨hl64, hpl, hvl⟩ := sound_places hs0
    have htl : (throughF (l.take e.toNat) e.toNat).length ≤ 1000000 := by have := throughF_len (l.take e.toNat) e.toNat; rw [List.length_take] at this; omega
    have hsp : someP e l = throughF (l.take e.toNat) e.toNat := if_pos q15
    refine W_reg ?_ -- 4 share.go:60
    refine o_move (by conv => lhs; whnf) ?_
    refine O_calls en40 rfl (l_at (x := 0) (by have := hA.rd 0 rfl; rw [hsp] at this; exact this) htl) (fun v2 w2 hC => ?_)
    obtain ⟨rfl, hC⟩ := hC
    have hA := (hA.after hC).take
    refine o_assign (v := .int _ _) rfl ?_
    refine o_assign (v := .int _ _) rfl ?_
    refine O_end ?_
    refine W_ret ?_
    refine ⟨rfl, ?_⟩
    refine ret2 Try.results21 (v := .int _ _) rfl (u := .int _ _) rfl ?_
    exact ⟨by unfold joinF; rw [if_pos q15], hA.clear⟩

theorem l_fits {w : World} {A : Option Addr} {m c : Nat} {e : Int} {l : List Pt} (hR : Rd w 2 (.slice A m c) (flatP l)) (hl : l.length ≤ 140737488355328) : Calls Try.prog 12 #[.int .i64 e, .slice A m c] w fun ee w' => ∃ v, ee = .returned v ∧ (v = fitsF e l ∧ At w No [] w') := by
  obtain rfl := pt_len hR
  refine body_in (n := 24) (l := [.int .i64 e, .slice A l.length c]) en12 rfl Try.ntmps12 rfl ?_
  have hA := At.refl w
  refine W_seq ?_
  refine W_reg ?_ -- 0 share.go:64
  refine o_assign (v := .bool _) rfl ?_
  refine o_assign (v := .int _ _) rfl ?_
  refine O_end ?_
  refine W_seq ?_
  refine W_reg ?_ -- 1 share.go:65
  refine o_move (v := .int _ _) rfl ?_
  refine o_move (by conv => lhs; whnf) ?_
  refine O_calls en26 rfl (l_some2 hR hl) (fun v1 w1 hC => ?_)
  obtain ⟨u, rfl, hC⟩ := hC
  obtain ⟨UA, Um, Uc, rfl⟩ := (hC.row 0 rfl).slice
  have hA := hA.more hC
  refine o_move (by conv => lhs; whnf) ?_
  refine o_extract rfl rfl ?_
  refine o_extract rfl rfl ?_
  refine o_assign (by conv => lhs; whnf) ?_
  refine o_assign (v := .int _ _) rfl ?_
  refine O_end ?_
  refine W_seq ?_
  refine W_seq ?_
  refine W_reg ?_ -- 2 share.go:66
  refine o_move (v := .int _ _) rfl ?_
  refine o_cmp2 rfl rfl rfl (fun h => ?_) (fun h => ?_)
  · -- True
    have q16 := bne_iff_ne.1 h
    refine O_end ?_
    refine W_then rfl ?_
    refine W_seq ?_
    refine W_reg ?_ -- 3 share.go:67
    refine o_move (v := .int _ _) rfl ?_
    refine o_assign (v := .bool _) rfl ?_
    refine o_assign (v := .int _ _) rfl ?_
    refine O_end ?_
    refine W_ret ?_
    refine ⟨rfl, ?_⟩
    refine ret2 Try.results12 (v := .bool _) rfl (u := .int _ _) rfl ?_
    exact ⟨by unfold fitsF; rw [if_neg q16], hA.clear⟩
  · -- False
    have q16 := bne_eq_false_iff_eq.1 h
    refine O_end ?_
    refine W_else rfl ?_
    refine W_skip ?_
    obtain ⟨hs0, he1, he2, he3⟩ := someE_sound q16
    obtain ⟨hl64, hpl, hvl⟩ := sound_places hs0
    have htl : (throughF (l.take e.toNat) e.toNat).length ≤ 1000000 := by have := throughF_len (l.take e.toNat) e.toNat; rw [List.length_take] at this; omega
    have hsp : someP e l = throughF (l.take e.toNat) e.toNat := if_pos q16
    refine W_seq ?_
    refine W_reg ?_ -- 4 share.go:69
    refine o_move (by conv => lhs; whnf) ?_
    refine o_makeFunc rfl rfl ?_ -- Go.Fn.func 27
    refine o_alloc hA ti56 rfl (fun b2 w2 hA => ?_)
    refine o_store (cs' := [_]) (i := 0) hA rfl (by conv => lhs; whnf) rfl ti56 rfl rfl rfl rfl (fun w3 hA => ?_)
    refine O_end ?_
    refine W_seq ?_
    refine W_reg ?_ -- 5 share.go:70
    refine o_move (by conv => lhs; whnf) ?_
    refine o_makeFunc rfl rfl ?_ -- Go.Fn.func 29
    refine O_calls en28 rfl (s_contains_p (p := fun p => !(onP (throughF (l.take e.toNat) e.toNat) p)) (fi := []) (ca := [.pointer (some ⟨b2, 0, none⟩)]) en29 (hR.old hA) (by omega) (fun w' q hA' hq => c_fits1 (hA'.cellT (hA.c 0 rfl rfl)) (by have := (hA.rd 1 rfl).old hA'; rw [hsp] at this; exact this) htl (by have := (hpl q hq).1; omega) (by have := (hpl q hq).2; omega))) (fun v4 w4 hC => ?_)
    obtain ⟨rfl, hC⟩ := hC
    have hA := (hA.after hC).take
    refine o_not rfl ?_
    refine o_assign (v := .bool _) rfl ?_
    refine o_assign (v := .int _ _) rfl ?_
    refine O_end ?_
    refine W_ret ?_
    refine ⟨rfl, ?_⟩
    refine ret2 Try.results12 (v := .bool _) rfl (u := .int _ _) rfl ?_
    exact ⟨by unfold fitsF; rw [if_pos q16], hA.clear⟩

end Go.Proofs.Ytogpmiodnmigoaa
