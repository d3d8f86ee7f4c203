/-
  Package share: Other.
-/
import Derived.Test.YtogpmiodnmigoaaSplit
set_option linter.unusedVariables false
set_option linter.unusedSimpArgs false
namespace Go.Proofs.Ytogpmiodnmigoaa
open Go Go.RowKit

theorem baseF_len2 (l : List Pt) (n : Nat) : ∀ j, (baseF l n j).1.length ≤ (if n < j then j else j + 1)
  | 0 => by simp [baseF]
  | j + 1 => by
    have := baseF_len2 l n j
    unfold baseF
    split
    · rename_i h
      subst h
      rw [if_neg (by omega)] at this
      rw [if_pos (by omega)]; exact this
    · have h := mulP_len (baseF l n j).1 [subP 0 (placeAt l j), 1]
      simp only [List.length_cons, List.length_nil] at h
      show (mulP _ _).length ≤ _
      split at this
      · rw [if_pos (by omega)]; omega
      · rw [if_neg (by omega)]; omega
theorem partF_len2 (l : List Pt) {n : Nat} (v : Nat) (hn : n < l.length) : (partF l n v).length ≤ l.length := by
  unfold partF
  have h1 := baseF_len2 l n l.length
  rw [if_pos hn] at h1
  have h2 := mulP_len (baseF l n l.length).1 [invB l n]
  have h3 := mulP_len (mulP (baseF l n l.length).1 [invB l n]) [v]
  simp only [List.length_cons, List.length_nil] at h2 h3
  omega
theorem throughF_len3 (l : List Pt) : ∀ j, j ≤ l.length → (throughF l j).length ≤ l.length
  | 0, _ => by simp [throughF]
  | j + 1, h => addP_len _ _ _ (throughF_len3 l j (by omega)) (partF_len2 l _ (by omega))
theorem throughF_len2 (l : List Pt) : (throughF l l.length).length ≤ l.length := throughF_len3 l _ (Nat.le_refl _)
def restV (s : Nat) (p : Pt) : Nat := ((p.v % 2305843009213693951 + 2305843009213693951 - s % 2305843009213693951) % 2305843009213693951) % 2305843009213693951 * ((p.a.toNat ^ 2305843009213693949 % 2305843009213693951) % 2305843009213693951) % 2305843009213693951
def restL (s : Nat) (l : List Pt) : List Pt := l.map fun p => ⟨p.a, restV s p⟩
theorem restL_len (s : Nat) (l : List Pt) : (restL s l).length = l.length := by simp [restL]
theorem restL_at (s : Nat) {l : List Pt} {j : Nat} {x : Pt} (h : l[j]? = some x) : (restL s l)[j]? = some ⟨x.a, restV s x⟩ := by simp [restL, h]
theorem rest_sound (s : Nat) {l : List Pt} (h : soundP l = 0) : soundP (restL s l) = 0 := by
  unfold soundP at h
  split at h
  · cases h
  · split at h
    · cases h
    · split at h
      · cases h
      · rename_i hd
        split at h
        · cases h
        · rename_i hb
          unfold soundP
          rw [restL_len, if_neg (by omega), if_neg (by omega), if_neg, if_neg]
          · intro hc
            obtain ⟨x, hx, hxb⟩ := List.any_eq_true.1 hc
            obtain ⟨y, hy, rfl⟩ := List.mem_map.1 hx
            refine hb (List.any_eq_true.2 ⟨y, hy, ?_⟩)
            have : restV s y < 2305843009213693951 := Nat.mod_lt _ (by decide)
            simp only [badP, Bool.or_eq_true, decide_eq_true_eq] at hxb ⊢
            rcases hxb with hxb | hxb
            · exact .inl hxb
            · omega
          · intro hc
            obtain ⟨i, hi, hib⟩ := List.any_eq_true.1 hc
            have hi' := List.mem_range.1 hi
            rw [restL_len] at hi'
            refine hd (List.any_eq_true.2 ⟨i, List.mem_range.2 hi', ?_⟩)
            unfold dupAt at hib ⊢
            rw [restL_at s (List.getElem?_eq_getElem hi'), restL, ← List.map_take] at hib
            dsimp only at hib
            rw [List.any_map] at hib
            rw [List.getElem?_eq_getElem hi']
            exact hib
def mixJ (r l : List Pt) (j : Nat) : List Pt := r.take j ++ l.drop j
theorem mix_len {r l : List Pt} (h : r.length = l.length) (j : Nat) : (mixJ r l j).length = l.length := by simp [mixJ, h]; omega
theorem mix_all {r l : List Pt} (h : r.length = l.length) : mixJ r l l.length = r := by simp [mixJ, ← h]
theorem mix_at {r l : List Pt} (h : r.length = l.length) {j : Nat} {x : Pt} (hx : l[j]? = some x) : (mixJ r l j)[j]? = some x := by
  have hj := (List.getElem?_eq_some_iff.1 hx).1
  unfold mixJ
  rw [List.getElem?_append_right (by rw [List.length_take]; omega), List.length_take, List.getElem?_drop]
  rw [show j + (j - min j r.length) = j from by omega]; exact hx
theorem mix_step {r l : List Pt} (h : r.length = l.length) {j : Nat} {y : Pt} (hy : r[j]? = some y) : mixJ r l (j + 1) = (mixJ r l j).set j y := by
  have hj := (List.getElem?_eq_some_iff.1 hy).1
  unfold mixJ
  rw [List.set_append_right _ _ (by rw [List.length_take]; omega), List.length_take, show j - min j r.length = 0 from by omega, List.take_add_one, hy, List.drop_eq_getElem_cons (show j < l.length from by omega), List.set_cons_zero]
  simp
theorem flatP_val {l : List Pt} {j : Nat} {x : Pt} (hx : l[j]? = some x) (v : Nat) : (flatP l).take (j * 2 + 1) ++ [Value.int .u64 (v : Int)] ++ (flatP l).drop (j * 2 + 1 + 1) = (flatP l).take (j * 2) ++ ptc ⟨x.a, v⟩ ++ (flatP l).drop (j * 2 + 2) := by
  have h0 : (flatP l)[j * 2]? = some (.int .i64 x.a) := flatP_cell (j := 0) hx rfl
  rw [List.take_add_one, h0]
  simp [ptc]
theorem zero_u64 (q : Nat) (c : List Nat) : u64s c ++ (Builtin.zeroCells (Value.int .u64 0).cells q).toList = u64s (c ++ List.replicate q 0) := by
  rw [show (Value.int .u64 0).cells = #[Value.int .u64 0] from rfl, zero_single, u64s_append, u64s_zero]
def otherE (s : Nat) (e : Int) (l : List Pt) : Int := if e < 1 ∨ 64 < e ∨ (l.length : Int) ≠ e - 1 then 1 else if 2305843009213693951 ≤ s then 4 else if l.length = 0 then 0 else soundP l
def otherL (s : Nat) (e : Int) (l : List Pt) : List Nat := if otherE s e l = 0 then (if l.length = 0 then [] else throughF (restL s l) l.length ++ List.replicate (l.length - (throughF (restL s l) l.length).length) 0) else []

theorem l_other {w : World} {A : Option Addr} {m c s : Nat} {e : Int} {l : List Pt} (hR : Rd w 2 (.slice A m c) (flatP l)) (he0 : -9223372036854775808 ≤ e) (he1 : e ≤ 9223372036854775807) : Calls Try.prog 6 #[.int .u64 (s : Int), .int .i64 e, .slice A m c] w fun ee w' => ∃ v, ee = .returned v ∧ ∃ u, v = .tuple #[u, .int .i64 (otherE s e l)] ∧ At w No [Row 22 1 u (u64s (otherL s e l))] w' := by
  obtain rfl := pt_len hR
  refine body_in (n := 88) (l := [.int .u64 (s : Int), .int .i64 e, .slice A l.length c]) en6 rfl Try.ntmps6 rfl ?_
  have hA := At.refl w
  refine W_seq ?_
  refine W_reg ?_ -- 0 share.go:74
  refine o_assign (by conv => lhs; whnf) ?_
  refine o_assign (v := .int _ _) rfl ?_
  refine O_end ?_
  refine W_seq ?_
  refine W_block ?_ -- 0
  refine W_seq ?_
  refine W_reg ?_ -- 1 share.go:76
  refine o_move (v := .int _ _) rfl ?_
  refine o_cmp2 rfl rfl rfl (fun h => ?_) (fun h => ?_)
  · -- True
    have q19 := of_decide_eq_true h
    refine o_move (v := .bool _) rfl ?_
    refine O_no rfl rfl rfl rfl ?_
    refine O_no rfl rfl rfl rfl ?_
    refine o_pick_t rfl (v := .bool _) rfl ?_
    refine o_move (v := .bool _) rfl ?_
    refine O_no rfl rfl rfl rfl ?_
    refine O_no rfl rfl rfl rfl ?_
    refine O_no rfl rfl rfl rfl ?_
    refine O_no rfl rfl rfl rfl ?_
    refine O_no rfl rfl rfl rfl ?_
    refine o_pick_t rfl (v := .bool _) rfl ?_
    refine o_assign (v := .bool _) rfl ?_
    refine O_end ?_
    refine W_then rfl ?_
    refine W_seq ?_
    refine W_reg ?_ -- 2 share.go:77
    refine o_assign (by conv => lhs; whnf) ?_
    refine o_assign (v := .int _ _) rfl ?_
    refine O_end ?_
    refine W_ret ?_
    refine xb_ret ?_
    refine ⟨rfl, ?_⟩
    refine ret2 Try.results6 (by conv => lhs; whnf) (u := .int _ _) rfl ?_
    have hE : otherE s e l = 1 := by rw [otherE, if_pos (by omega)]
    exact ⟨_, by rw [hE], by rw [otherL, if_neg (by rw [hE]; decide)]; exact hA.clear.nilRow _ 1 none⟩
  · -- False
    have q19 := of_decide_eq_false h
    refine o_move (v := .bool _) rfl ?_
    refine O_yes rfl rfl rfl ?_
    refine o_move (v := .int _ _) rfl ?_
    refine O_yes rfl rfl rfl ?_
    refine o_cmp2 rfl rfl rfl (fun h => ?_) (fun h => ?_)
    · -- True
      have q22 := of_decide_eq_true h
      refine o_pick_f rfl (v := .bool _) rfl ?_
      refine o_move (v := .bool _) rfl ?_
      refine O_no rfl rfl rfl rfl ?_
      refine O_no rfl rfl rfl rfl ?_
      refine O_no rfl rfl rfl rfl ?_
      refine O_no rfl rfl rfl rfl ?_
      refine O_no rfl rfl rfl rfl ?_
      refine o_pick_t rfl (v := .bool _) rfl ?_
      refine o_assign (v := .bool _) rfl ?_
      refine O_end ?_
      refine W_then rfl ?_
      refine W_seq ?_
      refine W_reg ?_ -- 2 share.go:77
      refine o_assign (by conv => lhs; whnf) ?_
      refine o_assign (v := .int _ _) rfl ?_
      refine O_end ?_
      refine W_ret ?_
      refine xb_ret ?_
      refine ⟨rfl, ?_⟩
      refine ret2 Try.results6 (by conv => lhs; whnf) (u := .int _ _) rfl ?_
      have hE : otherE s e l = 1 := by rw [otherE, if_pos (by omega)]
      exact ⟨_, by rw [hE], by rw [otherL, if_neg (by rw [hE]; decide)]; exact hA.clear.nilRow _ 1 none⟩
    · -- False
      have q22 := of_decide_eq_false h
      refine o_pick_f rfl (v := .bool _) rfl ?_
      refine o_move (v := .bool _) rfl ?_
      refine O_yes rfl rfl rfl ?_
      refine o_move (by conv => lhs; whnf) ?_
      refine O_yes rfl rfl rfl ?_
      refine o_len Try.underlying23 rfl ?_
      refine O_yes rfl rfl rfl ?_
      refine o_move (v := .int _ _) rfl ?_
      refine O_yes rfl rfl rfl ?_
      refine o_sub rfl rfl (w64 rfl (by omega) (by omega)) ?_
      refine O_yes rfl rfl rfl ?_
      refine o_cmp2 rfl rfl rfl (fun h => ?_) (fun h => ?_)
      · -- True
        have q29 := bne_iff_ne.1 h
        refine o_pick_f rfl (v := .bool _) rfl ?_
        refine o_assign (v := .bool _) rfl ?_
        refine O_end ?_
        refine W_then rfl ?_
        refine W_seq ?_
        refine W_reg ?_ -- 2 share.go:77
        refine o_assign (by conv => lhs; whnf) ?_
        refine o_assign (v := .int _ _) rfl ?_
        refine O_end ?_
        refine W_ret ?_
        refine xb_ret ?_
        refine ⟨rfl, ?_⟩
        refine ret2 Try.results6 (by conv => lhs; whnf) (u := .int _ _) rfl ?_
        have hE : otherE s e l = 1 := by rw [otherE, if_pos (by omega)]
        exact ⟨_, by rw [hE], by rw [otherL, if_neg (by rw [hE]; decide)]; exact hA.clear.nilRow _ 1 none⟩
      · -- False
        have q29 := bne_eq_false_iff_eq.1 h
        refine o_pick_f rfl (v := .bool _) rfl ?_
        refine o_assign (v := .bool _) rfl ?_
        refine O_end ?_
        refine W_else rfl ?_
        refine W_seq ?_
        refine W_reg ?_ -- 3 share.go:78
        refine o_move (v := .int _ _) rfl ?_
        refine O_callb en14 rfl c_large (fun w1 hC h => ?_) (fun w1 hC h => ?_)
        · -- True
          have hA := (hA.after hC).take
          have q33 := h
          refine o_assign (v := .bool _) rfl ?_
          refine O_end ?_
          refine W_then rfl ?_
          refine W_seq ?_
          refine W_reg ?_ -- 4 share.go:79
          refine o_assign (by conv => lhs; whnf) ?_
          refine o_assign (v := .int _ _) rfl ?_
          refine O_end ?_
          refine W_ret ?_
          refine xb_ret ?_
          refine ⟨rfl, ?_⟩
          refine ret2 Try.results6 (by conv => lhs; whnf) (u := .int _ _) rfl ?_
          have hE : otherE s e l = 4 := by rw [otherE, if_neg (by omega), if_pos (by simpa using q33)]
          exact ⟨_, by rw [hE], by rw [otherL, if_neg (by rw [hE]; decide)]; exact hA.clear.nilRow _ 1 none⟩
        · -- False
          have hA := (hA.after hC).take
          have q33 := h
          refine o_assign (v := .bool _) rfl ?_
          refine O_end ?_
          refine W_else rfl ?_
          refine W_seq ?_
          refine W_reg ?_ -- 5 share.go:80
          refine o_move (by conv => lhs; whnf) ?_
          refine o_len Try.underlying23 rfl ?_
          refine o_cmp2 rfl rfl rfl (fun h => ?_) (fun h => ?_)
          · -- True
            have q37 := beq_iff_eq.1 h
            refine o_assign (v := .bool _) rfl ?_
            refine O_end ?_
            refine W_then rfl ?_
            refine W_seq ?_
            refine W_reg ?_ -- 6 share.go:81
            refine o_assign (by conv => lhs; whnf) ?_
            refine o_assign (v := .int _ _) rfl ?_
            refine O_end ?_
            refine W_ret ?_
            refine xb_ret ?_
            refine ⟨rfl, ?_⟩
            refine ret2 Try.results6 (by conv => lhs; whnf) (u := .int _ _) rfl ?_
            have hE : otherE s e l = 0 := by rw [otherE, if_neg (by omega), if_neg (by simpa using q33), if_pos (by omega)]
            exact ⟨_, by rw [hE], by rw [otherL, if_pos hE, if_pos (by omega)]; exact hA.clear.nilRow _ 1 none⟩
          · -- False
            have q37 := beq_eq_false_iff_ne.1 h
            refine o_assign (v := .bool _) rfl ?_
            refine O_end ?_
            refine W_else rfl ?_
            refine W_skip ?_
            refine W_seq ?_
            refine W_reg ?_ -- 7 share.go:83
            refine o_move (by conv => lhs; whnf) ?_
            refine O_calls en15 rfl (s_clone_p (hR.old hA) (by omega)) (fun v2 w2 hC => ?_)
            have hA := hA.more hC
            obtain ⟨RA, Rm, Rc, rfl⟩ := (hA.row 0 rfl).slice
            obtain rfl := pt_len (hA.rd 0 rfl)
            obtain ⟨rg, rfl⟩ := row_some (hA.row 0 rfl) (by omega)
            refine o_assign (by conv => lhs; whnf) ?_
            refine O_end ?_
            refine W_seq ?_
            refine W_seq ?_
            refine W_reg ?_ -- 8 share.go:84
            refine o_move (by conv => lhs; whnf) ?_
            refine O_calls en16 rfl (l_zero (hR.old hA) (by omega)) (fun v3 w3 hC => ?_)
            obtain ⟨hv, hC⟩ := hC
            have hA := (hA.after hC).tail 0
            obtain ⟨z, rfl⟩ : ∃ z : Nat, v3 = .tuple #[.int .u64 (z : Int), .int .i64 (soundP l)] := by
              rcases hv with ⟨_, rfl⟩ | ⟨h0, z, rfl⟩
              · exact ⟨0, rfl⟩
              · exact ⟨z, by rw [h0]⟩
            refine o_move (by conv => lhs; whnf) ?_
            refine o_extract rfl rfl ?_
            refine o_extract rfl rfl ?_
            refine o_assign (v := .int _ _) rfl ?_
            refine o_assign (v := .int _ _) rfl ?_
            refine O_end ?_
            refine W_seq ?_
            refine W_reg ?_ -- 9 share.go:84
            refine o_move (v := .int _ _) rfl ?_
            refine o_cmp2 rfl rfl rfl (fun h => ?_) (fun h => ?_)
            · -- True
              have q46 := bne_iff_ne.1 h
              refine O_end ?_
              refine W_then rfl ?_
              refine W_seq ?_
              refine W_reg ?_ -- 10 share.go:85
              refine o_move (v := .int _ _) rfl ?_
              refine o_assign (by conv => lhs; whnf) ?_
              refine o_assign (v := .int _ _) rfl ?_
              refine O_end ?_
              refine W_ret ?_
              refine ⟨rfl, ?_⟩
              refine ret2 Try.results6 (by conv => lhs; whnf) (u := .int _ _) rfl ?_
              have hE : otherE s e l = soundP l := by rw [otherE, if_neg (by omega), if_neg (by simpa using q33), if_neg (by omega)]
              exact ⟨_, by rw [hE], by rw [otherL, if_neg (by rw [hE]; exact q46)]; exact hA.clear.nilRow _ 1 none⟩
            · -- False
              have q46 := bne_eq_false_iff_eq.1 h
              refine O_end ?_
              refine W_else rfl ?_
              refine W_skip ?_
              refine W_seq ?_
              refine W_seq ?_
              have hs0 : soundP l = 0 := q46
              obtain ⟨hl64, hpl, hvl⟩ := sound_places hs0
              refine W_reg ?_ -- 11 share.go:87
              refine o_move (by conv => lhs; whnf) ?_
              refine o_len Try.underlying23 rfl ?_
              refine o_move (v := .int _ _) rfl ?_
              refine O_end ?_
              refine W_block ?_ -- 1
              refine W_loop (fun kk ρ w' => ∃ (j : Nat), kk = l.length - j ∧ j ≤ l.length ∧ ρ 50 = .int .i64 (j : Int) ∧ ρ 49 = .int .i64 (l.length : Int) ∧ ρ 48 = .slice (some ⟨rg, 0, none⟩) l.length Rc ∧ ρ 8 = .slice (some ⟨rg, 0, none⟩) l.length Rc ∧ ρ 0 = .int .u64 (s : Int) ∧ ρ 1 = .int .i64 e ∧ At w No [Row 33 2 (.slice (some ⟨rg, 0, none⟩) l.length Rc) (flatP (mixJ (restL s l) l j))] w') l.length
                ⟨0, by simp, Nat.zero_le _, rfl, rfl, rfl, rfl, rfl, rfl, hA⟩ ?_
              clear hA
              rintro kk ρ w1 ⟨j, rfl, hj, h50, h49, h48, h8, h0, h1, hA⟩
              refine W_known (t := 50) h50 ?_
              refine W_known (t := 49) h49 ?_
              refine W_known (t := 48) h48 ?_
              refine W_known (t := 8) h8 ?_
              refine W_known (t := 0) h0 ?_
              refine W_known (t := 1) h1 ?_
              refine W_seq ?_
              refine W_reg ?_ -- 12 share.go:87
              refine o_cmp2 rfl rfl rfl (fun h => ?_) (fun h => ?_)
              · -- True
                have q51 := of_decide_eq_true h
                have hlt : j < l.length := by omega
                obtain ⟨x, hx⟩ : ∃ x, l[j]? = some x := ⟨_, List.getElem?_eq_getElem hlt⟩
                have hxm : (mixJ (restL s l) l j)[j]? = some x := mix_at (restL_len s l) hx
                have hxa := hpl x (List.mem_of_getElem? hx)
                have hml := mix_len (restL_len s l) j
                refine O_end ?_
                refine W_seq ?_
                refine W_then rfl ?_
                refine W_skip ?_
                refine W_seq ?_
                refine W_block ?_ -- 2
                refine W_seq ?_
                refine W_reg ?_ -- 13 share.go:87
                refine o_move (v := .int _ _) rfl ?_
                refine o_index Try.underlying23 ti33 rfl rfl (by omega) (by omega) ?_
                refine o_loadN ag33 ti33 rfl (cs := ptc x) rfl (pt_cells (hA.rd 0 rfl) hxm) ?_
                refine o_alloc hA ti33 rfl (fun b4 w4 hA => ?_)
                refine o_assign (v := .int _ _) rfl ?_
                refine o_store (cs' := [_, _]) (i := 0) hA rfl (by conv => lhs; whnf) rfl ti33 rfl rfl rfl rfl (fun w5 hA => ?_)
                refine O_end ?_
                refine W_seq ?_
                refine W_reg ?_ -- 14 share.go:88
                refine o_fieldAddr fo33_0 rfl rfl ?_
                refine o_load1 ag3 rfl (hA.c 0 rfl rfl) ?_
                refine o_conv Try.underlying3 Try.underlying22 rfl (conv_place hxa.1 hxa.2) ?_
                refine O_calls en17 rfl (p_Inv (a := x.a.toNat)) (fun v6 w6 hC => ?_)
                rw [if_neg (by omega)] at hC
                obtain ⟨rfl, hC⟩ := hC
                have hA := (hA.after hC).tail 0
                refine o_move (by conv => lhs; whnf) ?_
                refine o_extract rfl rfl ?_
                refine o_extract rfl rfl ?_
                refine o_assign (v := .int _ _) rfl ?_
                refine o_assign (v := .int _ _) rfl ?_
                refine O_end ?_
                refine W_reg ?_ -- 15 share.go:89
                refine o_move (by conv => lhs; whnf) ?_
                refine o_move (v := .int _ _) rfl ?_
                refine o_fieldAddr fo33_1 rfl rfl ?_
                refine o_load1 ag22 rfl (hA.c 0 rfl rfl) ?_
                refine o_move (v := .int _ _) rfl ?_
                refine O_calls en19 rfl p_Sub (fun v7 w7 hC => ?_)
                obtain ⟨rfl, hC⟩ := hC
                have hA := (hA.after hC).tail 0
                refine o_move (v := .int _ _) rfl ?_
                refine O_calls en18 rfl p_Mul (fun v8 w8 hC => ?_)
                obtain ⟨rfl, hC⟩ := hC
                have hA := (hA.after hC).tail 0
                refine o_index Try.underlying23 ti33 rfl rfl (by omega) (by omega) ?_
                refine o_fieldAddr fo33_1 rfl rfl ?_
                have hstep : (flatP (mixJ (restL s l) l j)).take (j * 2 + 1) ++ [Value.int .u64 ((restV s x : Nat) : Int)] ++ (flatP (mixJ (restL s l) l j)).drop (j * 2 + 1 + 1) = flatP (mixJ (restL s l) l (j + 1)) := by
                  rw [mix_step (restL_len s l) (restL_at s hx), ← flatP_put (by rw [hml]; exact hlt)]
                  exact flatP_val hxm _
                refine o_storeRow (i := 1) (xs' := flatP (mixJ (restL s l) l (j + 1))) hA rfl rfl rfl ti22 rfl rfl (by rw [flatP_len, hml]; simp only [Int.toNat_natCast]; omega) rfl (by rw [Nat.zero_add, Int.toNat_natCast]; exact hstep) (fun w9 hA => ?_)
                refine O_end ?_
                refine W_reg ?_ -- 16 share.go:87
                refine o_add rfl rfl (w64 (r := ((j + 1 : Nat) : Int)) (by omega) (by omega) (by omega)) ?_
                refine o_move (v := .int _ _) rfl ?_
                refine O_end ?_
                exact ⟨l.length - (j + 1), by omega, j + 1, rfl, by omega, rfl, rfl, rfl, rfl, rfl, rfl, hA.tail 1⟩
              · -- False
                have q51 := of_decide_eq_false h
                refine O_end ?_
                refine W_seq ?_
                refine W_else rfl ?_
                refine W_exit ?_
                refine xb_hit ?_
                refine W_seq ?_
                obtain rfl : j = l.length := by omega
                refine W_reg ?_ -- 17 share.go:91
                refine o_move (by conv => lhs; whnf) ?_
                refine O_calls en20 rfl (l_through (l := restL s l) (by have := hA.rd 0 rfl; rw [mix_all (restL_len s l)] at this; exact this) (by rw [restL_len]; omega)) (fun v10 w10 hC => ?_)
                rcases hC with ⟨h0, _⟩ | ⟨h0, u, rfl, hC⟩
                · exact absurd (rest_sound s hs0) h0
                rw [restL_len] at hC
                have hA := hA.more hC
                obtain ⟨UA, Um, Uc, rfl⟩ := (hA.row 0 rfl).slice
                obtain rfl := u64_len (hA.rd 0 rfl)
                have htl := throughF_len2 (restL s l)
                rw [restL_len] at htl
                refine o_move (by conv => lhs; whnf) ?_
                refine o_extract rfl rfl ?_
                refine o_extract rfl rfl ?_
                refine o_assign (by conv => lhs; whnf) ?_
                refine o_assign (v := .int _ _) rfl ?_
                refine O_end ?_
                refine W_seq ?_
                refine W_seq ?_
                refine W_reg ?_ -- 18 share.go:92
                refine o_move (v := .int _ _) rfl ?_
                refine o_cmp2 rfl rfl rfl (fun h => ?_) (fun h => ?_)
                · -- True
                  have q79 := bne_iff_ne.1 h
                  refine O_end ?_
                  refine W_then rfl ?_
                  refine W_seq ?_
                  refine W_reg ?_ -- 19 share.go:93
                  refine o_move (v := .int _ _) rfl ?_
                  refine o_assign (by conv => lhs; whnf) ?_
                  refine o_assign (v := .int _ _) rfl ?_
                  refine O_end ?_
                  refine W_ret ?_
                  refine ⟨rfl, ?_⟩
                  refine ret2 Try.results6 (by conv => lhs; whnf) (u := .int _ _) rfl ?_
                  exact absurd rfl q79
                · -- False
                  have q79 := bne_eq_false_iff_eq.1 h
                  refine O_end ?_
                  refine W_else rfl ?_
                  refine W_skip ?_
                  refine W_seq ?_
                  refine W_reg ?_ -- 20 share.go:95
                  refine o_move (by conv => lhs; whnf) ?_
                  refine o_move (v := .int _ _) rfl ?_
                  refine o_sub rfl rfl (w64 rfl (by omega) (by omega)) ?_
                  refine o_move (by conv => lhs; whnf) ?_
                  refine o_len Try.underlying25 rfl ?_
                  refine o_sub rfl rfl (w64 (r := ((l.length - (throughF (restL s l) l.length).length : Nat) : Int)) (by omega) (by omega) (by omega)) ?_
                  refine o_appendz (i := 0) hA rfl rfl rfl Try.underlying25 Try.underlying3 ti22 rfl (by decide) rfl (by omega) (by omega) (fun A11 c11 w11 hA => ?_)
                  refine o_assign (by conv => lhs; whnf) ?_
                  refine o_assign (v := .int _ _) rfl ?_
                  refine O_end ?_
                  refine W_ret ?_
                  refine ⟨rfl, ?_⟩
                  refine ret2 Try.results6 (by conv => lhs; whnf) (u := .int _ _) rfl ?_
                  have hE : otherE s e l = 0 := by rw [otherE, if_neg (by omega), if_neg (by simpa using q33), if_neg (by omega), hs0]
                  exact ⟨_, by rw [hE], by
                    rw [otherL, if_pos hE, if_neg (by omega)]
                    rw [zero_u64] at hA
                    exact hA.keep 1⟩

end Go.Proofs.Ytogpmiodnmigoaa
