/-
  Package poly: Through.
-/
import Derived.Test.YtogpmiodnmigoaaBase
set_option linter.unusedVariables false
set_option linter.unusedSimpArgs false
namespace Go.Proofs.Ytogpmiodnmigoaa
open Go Go.RowKit

def invB (l : List Pt) (n : Nat) : Nat := if (baseF l n l.length).2 % 2305843009213693951 = 0 then 0 else (baseF l n l.length).2 ^ 2305843009213693949 % 2305843009213693951
def partF (l : List Pt) (n v : Nat) : List Nat := mulP (mulP (baseF l n l.length).1 [invB l n]) [v]
def throughF (l : List Pt) : Nat → List Nat
  | 0 => []
  | j + 1 => addP (throughF l j) (partF l j (((l[j]?).map (·.v)).getD 0))
theorem partF_len (l : List Pt) (n v : Nat) : (partF l n v).length ≤ l.length + 1 := by
  unfold partF
  have h1 := baseF_len l n l.length
  have h2 := mulP_len (baseF l n l.length).1 [invB l n]
  have h3 := mulP_len (mulP (baseF l n l.length).1 [invB l n]) [v]
  simp only [List.length_cons, List.length_nil] at h2 h3
  omega
theorem addP_len (a b : List Nat) (k : Nat) (ha : a.length ≤ k) (hb : b.length ≤ k) : (addP a b).length ≤ k := by
  unfold addP
  refine Nat.le_trans (trimN_len _) ?_
  rw [List.length_map]
  split
  · rw [addN_len (by omega)]; exact hb
  · rw [addN_len (by omega)]; exact ha
theorem throughF_len (l : List Pt) : ∀ j, (throughF l j).length ≤ l.length + 1
  | 0 => by simp [throughF]
  | j + 1 => addP_len _ _ _ (throughF_len l j) (partF_len _ _ _)
theorem sound_places {l : List Pt} (h : soundP l = 0) : l.length ≤ 64 ∧ (∀ x ∈ l, 1 ≤ x.a ∧ x.a ≤ 64) ∧ (∀ x ∈ l, x.v < 2305843009213693951) := by
  unfold soundP at h
  split at h
  · cases h
  · split at h
    · cases h
    · split at h
      · cases h
      · split at h
        · cases h
        · rename_i h1 h2 h3 h4
          have h5 : ∀ x ∈ l, badP x = false := by
            intro x hx
            cases hb : badP x with
            | false => rfl
            | true => exact absurd (List.any_eq_true.2 ⟨x, hx, hb⟩) h4
          refine ⟨by omega, fun x hx => ?_, fun x hx => ?_⟩
          · have := h5 x hx; simp [badP] at this; omega
          · have := h5 x hx; simp [badP] at this; omega

theorem l_through {w : World} {A : Option Addr} {m c : Nat} {l : List Pt} (hR : Rd w 2 (.slice A m c) (flatP l)) (hl : l.length ≤ 140737488355328) : Calls Try.prog 20 #[.slice A m c] w fun e w' => ∃ v, e = .returned v ∧ ((soundP l ≠ 0 ∧ v = .tuple #[.slice none 0 0, .int .i64 (soundP l)] ∧ At w No [] w') ∨ (soundP l = 0 ∧ ∃ u, v = .tuple #[u, .int .i64 0] ∧ At w No [Row 22 1 u (u64s (throughF l l.length))] w')) := by
  obtain rfl := pt_len hR
  refine body_in (n := 32) (l := [.slice A l.length c]) en20 rfl Try.ntmps20 rfl ?_
  have hA := At.refl w
  refine W_seq ?_
  refine W_reg ?_ -- 0 poly.go:96
  refine o_assign (by conv => lhs; whnf) ?_
  refine o_assign (v := .int _ _) rfl ?_
  refine O_end ?_
  refine W_seq ?_
  refine W_seq ?_
  refine W_reg ?_ -- 1 poly.go:97
  refine o_move (by conv => lhs; whnf) ?_
  refine O_calls en30 rfl (l_sound hR (by omega)) (fun v1 w1 hC => ?_)
  obtain ⟨rfl, hC⟩ := hC
  have hA := (hA.after hC).take
  refine o_assign (v := .int _ _) rfl ?_
  refine O_end ?_
  refine W_seq ?_
  refine W_reg ?_ -- 2 poly.go:97
  refine o_move (v := .int _ _) rfl ?_
  refine o_cmp2 rfl rfl rfl (fun h => ?_) (fun h => ?_)
  · -- True
    refine O_end ?_
    refine W_then rfl ?_
    refine W_seq ?_
    refine W_reg ?_ -- 3 poly.go:98
    refine o_move (v := .int _ _) rfl ?_
    refine o_assign (by conv => lhs; whnf) ?_
    refine o_assign (v := .int _ _) rfl ?_
    refine O_end ?_
    refine W_ret ?_
    refine ⟨rfl, ?_⟩
    refine ret2 Try.results20 (by conv => lhs; whnf) (u := .int _ _) rfl ?_
    exact .inl ⟨by have := bne_iff_ne.1 h; exact this, rfl, hA⟩
  · -- False
    have hs0 : soundP l = 0 := by have := bne_eq_false_iff_eq.1 h; exact this
    refine O_end ?_
    refine W_else rfl ?_
    refine W_skip ?_
    refine W_seq ?_
    refine W_reg ?_ -- 4 poly.go:100
    refine o_buildSlice (cs := []) hA Try.underlying25 ti22 rfl rfl rfl rfl rfl (fun a2 w2 hA => ?_)
    refine o_assign (by conv => lhs; whnf) ?_
    refine O_end ?_
    refine W_seq ?_
    refine W_seq ?_
    refine W_reg ?_ -- 5 poly.go:101
    refine o_move (by conv => lhs; whnf) ?_
    refine o_len Try.underlying23 rfl ?_
    refine o_move (v := .int _ _) rfl ?_
    refine O_end ?_
    refine W_block ?_ -- 0
    obtain ⟨hl64, hpl, hvl⟩ := sound_places hs0
    refine W_loop (fun kk ρ w' => ∃ (j : Nat) (OA : Option Addr) (Om Oc : Nat), kk = l.length - j ∧ j ≤ l.length ∧ ρ 16 = .int .i64 (j : Int) ∧ ρ 15 = .int .i64 (l.length : Int) ∧ ρ 14 = .slice A l.length c ∧ ρ 0 = .slice A l.length c ∧ ρ 5 = .slice OA Om Oc ∧ At w No [Row 22 1 (.slice OA Om Oc) (u64s (throughF l j))] w') l.length
      ⟨0, _, _, _, by simp, Nat.zero_le _, rfl, rfl, rfl, rfl, rfl, hA⟩ ?_
    clear hA
    rintro kk ρ w1 ⟨j, OA, Om, Oc, rfl, hj, h16, h15, h14, h0, h5, hA⟩
    refine W_known (t := 16) h16 ?_
    refine W_known (t := 15) h15 ?_
    refine W_known (t := 14) h14 ?_
    refine W_known (t := 0) h0 ?_
    refine W_known (t := 5) h5 ?_
    refine W_seq ?_
    refine W_reg ?_ -- 6 poly.go:101
    refine o_cmp2 rfl rfl rfl (fun h => ?_) (fun h => ?_)
    · -- True
      have hlt : j < l.length := by have := of_decide_eq_true h; omega
      obtain ⟨x, hx⟩ : ∃ x, l[j]? = some x := ⟨_, List.getElem?_eq_getElem hlt⟩
      obtain ⟨g0, o0, rfl⟩ := Rd.some hR (by rw [flatP_len]; omega)
      refine O_end ?_
      refine W_seq ?_
      refine W_then rfl ?_
      refine W_skip ?_
      refine W_seq ?_
      refine W_block ?_ -- 1
      refine W_seq ?_
      refine W_reg ?_ -- 7 poly.go:101
      refine o_move (v := .int _ _) rfl ?_
      refine o_index Try.underlying23 ti33 rfl rfl (by omega) (by omega) ?_
      refine o_loadN ag33 ti33 rfl (cs := ptc x) rfl (pt_cells (hR.old hA) hx) ?_
      refine o_alloc hA ti33 rfl (fun b3 w3 hA => ?_)
      refine o_assign (v := .int _ _) rfl ?_
      refine o_store (cs' := [_, _]) (i := 0) hA rfl (by conv => lhs; whnf) rfl ti33 rfl rfl rfl rfl (fun w4 hA => ?_)
      refine O_end ?_
      refine W_drawA hA [5] mix rfl rfl (fun w0_8 hA => ?_) -- 8 poly.go:102
      refine D_take 0 rfl (by kernel_rfl) (by rintro _ _ _ ⟨h, _⟩; cases h) rfl (fun h => by cases h) (fun w hA => r_move (by conv => lhs; whnf)) ?_
      refine D_take 1 rfl (by kernel_rfl) (by rintro _ _ _ ⟨h, _⟩; cases h) rfl (fun h => by cases h) (fun w hA => r_move (by conv => lhs; whnf)) ?_
      refine D_take 2 rfl (by kernel_rfl) (by rintro _ _ _ ⟨h, _⟩; cases h) rfl (fun h => by cases h) (fun w hA => r_move (v := .int _ _) rfl) ?_
      refine D_take 4 rfl (by kernel_rfl) (by rintro _ _ _ ⟨h, _⟩; cases h) rfl (fun h => by cases h) (fun w hA => r_fieldAddr fo33_1 rfl rfl) ?_
      refine D_take 5 rfl (by kernel_rfl) (by rintro _ _ _ ⟨h, _⟩; cases h) rfl (fun _ => hA) (fun w hA => r_load1 ag22 rfl ((hA rfl).c 0 rfl rfl)) ?_
      refine D_run2 3 6 (by kernel_rfl) rfl rfl rfl rfl ?_ ?_
      · -- 3 first
        refine O_calls en39 rfl (l_base (hR.old hA) hl64 hpl hx) (fun v5 w5 hC => ?_)
        obtain ⟨z, hz, hC⟩ := hC
        obtain ⟨XA, Xm, Xc, rfl⟩ := (hC.row 0 rfl).slice
        have hA := hA.more hC
        refine O_end ⟨fun _ _ => hA.drop, ?_⟩
        refine D_run 6 (by kernel_rfl) rfl rfl ?_
        refine o_buildSlice (cs := [_]) hA Try.underlying25 ti22 rfl rfl rfl rfl rfl (fun a6 w6 hA => ?_)
        refine O_end ⟨fun _ _ => hA.tail 2, ?_⟩
        refine D_run 7 (by kernel_rfl) rfl rfl ?_
        refine O_calls en38 rfl (l_mul (b := [x.v]) (hA.rd 1 rfl) (hA.rd 0 rfl) (by have := mulP_len (baseF l j l.length).1 [z]; have := baseF_len l j l.length; simp only [List.length_cons, List.length_nil] at *; omega) (by simp)) (fun v7 w7 hC => ?_)
        obtain ⟨YA, Ym, Yc, rfl⟩ := (hC.row 0 rfl).slice
        have hA := hA.more hC
        refine O_end ⟨fun _ _ => hA.tail 3, ?_⟩
        refine D_run 8 (by kernel_rfl) rfl rfl ?_
        refine O_calls en37 rfl (l_add (hA.rd 4 rfl) (hA.rd 0 rfl) (by have := throughF_len l j; omega) (by have := mulP_len (mulP (baseF l j l.length).1 [z]) [x.v]; have := mulP_len (baseF l j l.length).1 [z]; have := baseF_len l j l.length; simp only [List.length_cons, List.length_nil] at *; omega)) (fun v8 w8 hC => ?_)
        obtain ⟨OB, Bm, Bc, rfl⟩ := (hC.row 0 rfl).slice
        have hA := hA.more hC
        refine O_end ⟨fun _ _ => hA.tail 4, ?_⟩
        refine D_take 9 rfl (by kernel_rfl) (by rintro _ _ _ ⟨h, _⟩; cases h) rfl (fun h => by cases h) (fun w hA => r_assign (by conv => lhs; whnf)) ?_
        refine D_done (by kernel_rfl) ?_
        refine W_reg ?_ -- 9 poly.go:101
        refine o_add rfl rfl (w64 (r := ((j + 1 : Nat) : Int)) (by omega) (by omega) (by omega)) ?_
        refine o_move (v := .int _ _) rfl ?_
        refine O_end ?_
        refine ⟨l.length - (j + 1), by omega, j + 1, OB, Bm, Bc, rfl, by omega, rfl, rfl, rfl, rfl, rfl, ?_⟩
        rw [throughF, hx]
        rw [hz] at hA
        exact hA.keep 1
      · -- 6 first
        refine o_buildSlice (cs := [_]) hA Try.underlying25 ti22 rfl rfl rfl rfl rfl (fun a9 w9 hA => ?_)
        refine O_end ⟨fun _ _ => hA.drop, ?_⟩
        refine D_run 3 (by kernel_rfl) rfl rfl ?_
        refine O_calls en39 rfl (l_base (hR.old hA) hl64 hpl hx) (fun v10 w10 hC => ?_)
        obtain ⟨z, hz, hC⟩ := hC
        obtain ⟨XA, Xm, Xc, rfl⟩ := (hC.row 0 rfl).slice
        have hA := hA.more hC
        refine O_end ⟨fun _ _ => hA.tail 2, ?_⟩
        refine D_run 7 (by kernel_rfl) rfl rfl ?_
        refine O_calls en38 rfl (l_mul (b := [x.v]) (hA.rd 0 rfl) (hA.rd 1 rfl) (by have := mulP_len (baseF l j l.length).1 [z]; have := baseF_len l j l.length; simp only [List.length_cons, List.length_nil] at *; omega) (by simp)) (fun v11 w11 hC => ?_)
        obtain ⟨YA, Ym, Yc, rfl⟩ := (hC.row 0 rfl).slice
        have hA := hA.more hC
        refine O_end ⟨fun _ _ => hA.tail 3, ?_⟩
        refine D_run 8 (by kernel_rfl) rfl rfl ?_
        refine O_calls en37 rfl (l_add (hA.rd 4 rfl) (hA.rd 0 rfl) (by have := throughF_len l j; omega) (by have := mulP_len (mulP (baseF l j l.length).1 [z]) [x.v]; have := mulP_len (baseF l j l.length).1 [z]; have := baseF_len l j l.length; simp only [List.length_cons, List.length_nil] at *; omega)) (fun v12 w12 hC => ?_)
        obtain ⟨OB, Bm, Bc, rfl⟩ := (hC.row 0 rfl).slice
        have hA := hA.more hC
        refine O_end ⟨fun _ _ => hA.tail 4, ?_⟩
        refine D_take 9 rfl (by kernel_rfl) (by rintro _ _ _ ⟨h, _⟩; cases h) rfl (fun h => by cases h) (fun w hA => r_assign (by conv => lhs; whnf)) ?_
        refine D_done (by kernel_rfl) ?_
        refine W_reg ?_ -- 9 poly.go:101
        refine o_add rfl rfl (w64 (r := ((j + 1 : Nat) : Int)) (by omega) (by omega) (by omega)) ?_
        refine o_move (v := .int _ _) rfl ?_
        refine O_end ?_
        refine ⟨l.length - (j + 1), by omega, j + 1, OB, Bm, Bc, rfl, by omega, rfl, rfl, rfl, rfl, rfl, ?_⟩
        rw [throughF, hx]
        rw [hz] at hA
        exact hA.keep 1
    · -- False
      refine O_end ?_
      refine W_seq ?_
      refine W_else rfl ?_
      refine W_exit ?_
      refine xb_hit ?_
      refine W_seq ?_
      refine W_reg ?_ -- 10 poly.go:104
      refine o_move (by conv => lhs; whnf) ?_
      refine o_assign (by conv => lhs; whnf) ?_
      refine o_assign (v := .int _ _) rfl ?_
      refine O_end ?_
      refine W_ret ?_
      refine ⟨rfl, ?_⟩
      refine ret2 Try.results20 (by conv => lhs; whnf) (u := .int _ _) rfl ?_
      have hjl : j = l.length := by have := of_decide_eq_false h; omega
      subst hjl
      exact .inr ⟨hs0, _, rfl, hA⟩

end Go.Proofs.Ytogpmiodnmigoaa
