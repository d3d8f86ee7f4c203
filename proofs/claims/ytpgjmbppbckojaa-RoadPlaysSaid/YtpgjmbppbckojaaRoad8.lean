/-
  Road: the law RoadPlays.
-/
import Derived.Test.YtpgjmbppbckojaaPl
set_option linter.unusedVariables false
namespace Go.Proofs.Ytpgjmbppbckojaa
open Go Go.RowKit

set_option maxHeartbeats 2000000 in
theorem c_plays {w : World} {A : Option Addr} {m c : Nat} {ss : List St} (hs : Rd w 7 (.slice A m c) (flatS ss)) (hxs : ∀ s ∈ ss, Rd w 1 s.x.D (u8s s.x.l)) :
    Calls Try.prog 3 #[.slice A m c] w fun e w' => ∃ v, e = .returned v ∧ (v = .bool true ∧ At w No [] w') := by
  have hm : ss.length = m := by
    obtain ⟨_, _, _, he, h, _⟩ := hs
    injection he with _ h1 h2
    rw [flatS_len] at h
    omega
  refine body_in (n := 239) (l := [.slice A m c]) en3 rfl Try.ntmps3 rfl ?_
  have hA := At.refl w
  refine W_seq ?_
  refine W_reg ?_ -- 0 law.go:32
  refine o_assign (v := .bool _) rfl ?_
  refine O_end ?_
  refine W_seq ?_
  refine W_reg ?_ -- 1 law.go:33
  refine O_calls en7 rfl c_new (fun v1 w1 hC => ?_)
  obtain ⟨b, sv, rfl, hA⟩ := hC
  refine o_assign (v := .pointer _) rfl ?_
  refine O_end ?_
  refine W_seq ?_
  refine W_seq ?_
  refine W_reg ?_ -- 2 law.go:34
  refine O_calls en8 rfl c_awake (fun v2 w2 hC => ?_)
  obtain ⟨rfl, hC⟩ := hC
  have hA := (hA.after hC).take
  refine o_not rfl ?_
  refine o_move (v := .bool _) rfl ?_
  refine O_yes rfl rfl rfl ?_
  refine o_move (v := .pointer _) rfl ?_
  refine O_yes rfl rfl rfl ?_
  refine o_eqnil2 Try.underlying23 rfl rfl (.inl ⟨rfl, rfl⟩) (fun h => (by cases h)) (fun h => ?_)
  refine o_pick_f rfl (v := .bool _) rfl ?_
  refine O_end ?_
  refine W_else rfl ?_
  refine W_skip ?_
  refine W_seq ?_
  refine W_reg ?_ -- 4 law.go:37
  refine o_buildSlice (cs := []) hA Try.underlying26 ti29 rfl rfl rfl rfl rfl (fun a3 w3 hA => ?_)
  refine o_assign (by conv => lhs; whnf) ?_
  refine O_end ?_
  refine W_seq ?_
  refine W_seq ?_
  refine W_reg ?_ -- 5 law.go:38
  refine o_assign (v := .int _ _) rfl ?_
  refine O_end ?_
  refine W_block ?_ -- 0
  refine W_loop (fun kk ρ w' => ∃ (i : Nat) (ls : List RL) (LA : Option Addr) (Lm Lc : Nat), i ≤ 60 ∧ kk = 60 - i ∧ ρ 5 = .int .i64 (i : Int) ∧ ρ 3 = .pointer (some ⟨b, 0, none⟩) ∧ ρ 4 = .slice LA Lm Lc ∧ ρ 0 = .slice A m c ∧ PL w b i (.slice LA Lm Lc) ls w') 60
    ⟨0, [], _, _, _, by omega, rfl, rfl, rfl, rfl, rfl, [], sv, [], by simp, rfl, by simp, by simp, hA⟩ ?_
  clear hA h
  rintro kk ρ w1 ⟨i, ls, LA, Lm, Lc, hi, rfl, h5, h3, h4, h0, ds, sv, ks, hn1, hcore, hl, hrd, hA⟩
  obtain rfl : Lm = ls.length := row_len (hA.row 0 rfl)
  have hdl : ds.length = ls.length := core_len hcore
  have hLc : ls.length ≤ Lc := by
    obtain ⟨_, _, _, he, _, h, _⟩ := hA.row 0 rfl
    injection he with _ h1 h2
    omega
  refine W_known (t := 5) h5 ?_
  refine W_known (t := 3) h3 ?_
  refine W_known (t := 4) h4 ?_
  refine W_known (t := 0) h0 ?_
  refine W_seq ?_
  refine W_seq ?_
  refine W_reg ?_ -- 6 law.go:38
  refine o_move (v := .int _ _) rfl ?_
  refine o_move (by conv => lhs; whnf) ?_
  refine o_len Try.underlying22 rfl ?_
  refine o_cmp2 rfl rfl rfl (fun h => ?_) (fun h => ?_)
  · -- True
    have hlt : i < m := by simp at h; omega
    obtain ⟨⟨what, n, bit, sx⟩, hsi⟩ : ∃ s, ss[i]? = some s := ⟨_, List.getElem?_eq_getElem (by omega)⟩
    have hsx := hxs _ (List.mem_of_getElem? hsi)
    have hsm : sx.m = sx.l.length := rd_len hsx
    obtain ⟨gS, oS, rfl⟩ := rd_some hs (by rw [flatS_len]; omega)
    refine o_move (v := .bool _) rfl ?_
    refine O_yes rfl rfl rfl ?_
    refine o_move (v := .int _ _) rfl ?_
    refine O_yes rfl rfl rfl ?_
    refine o_cmp2 rfl rfl rfl (fun h => ?_) (fun h => ?_)
    · -- True
      have h60 : i < 60 := by simp at h; omega
      refine o_pick_t rfl (v := .bool _) rfl ?_
      refine O_end ?_
      refine W_then rfl ?_
      refine W_skip ?_
      refine W_seq ?_
      refine W_block ?_ -- 1
      refine W_seq ?_
      refine W_reg ?_ -- 8 law.go:39
      refine o_move (by conv => lhs; whnf) ?_
      refine o_move (v := .int _ _) rfl ?_
      refine o_index Try.underlying22 ti31 rfl rfl (by omega) (by omega) ?_
      refine o_loadN ag31 ti31 rfl (cs := stc ⟨what, n, bit, sx⟩) rfl (step_cells (hs.old hA) hsi) ?_
      refine o_alloc hA ti31 rfl (fun b4 w4 hA => ?_)
      refine o_store (cs' := [_, _, _, _, _, _, _]) (i := 0) hA rfl (by conv => lhs; whnf) rfl ti31 rfl rfl rfl rfl (fun w5 hA => ?_)
      refine O_end ?_
      refine W_seq ?_
      refine W_seq ?_
      refine W_reg ?_ -- 9 law.go:40
      refine o_fieldAddr fo31_3 rfl rfl ?_
      refine o_fieldAddr fo29_3 rfl rfl ?_
      refine o_load1 ag27 rfl (hA.c 0 rfl rfl) ?_
      refine o_len Try.underlying27 rfl ?_
      refine o_cmp2 rfl rfl rfl (fun h => ?_) (fun h => ?_)
      · -- True
        refine O_end ?_
        refine W_then rfl ?_
        refine W_exit ?_
        refine xb_hit ?_
        refine W_reg ?_ -- 7 law.go:38
        refine o_move (v := .int _ _) rfl ?_
        refine o_add rfl rfl (w64 (r := ((i + 1 : Nat) : Int)) (by omega) (by omega) (by omega)) ?_
        refine o_assign (v := .int _ _) rfl ?_
        refine O_end ?_
        exact ⟨60 - (i + 1), by omega, i + 1, ls, LA, _, Lc, by omega, rfl, rfl, rfl, rfl, rfl, ds, sv, ks, by omega, hcore, hl, hrd, hA.drop⟩
      · -- False
        have h2000 : sx.l.length ≤ 2000 := by simp at h; omega
        refine O_end ?_
        refine W_else rfl ?_
        refine W_skip ?_
        refine W_seq ?_
        refine W_cut (fun ρ' w' => ∃ inn : Bool, ρ' 5 = .int .i64 (i : Int) ∧ ρ' 3 = .pointer (some ⟨b, 0, none⟩) ∧ ρ' 4 = .slice LA ls.length Lc ∧ ρ' 0 = .slice (some ⟨gS, oS, none⟩) m c ∧ ρ' 6 = .pointer (some ⟨b4, 0, none⟩) ∧ ρ' 7 = .bool inn ∧
          ((inn = true ∧ 0 ≤ n ∧ n < (ls.length : Int)) ∨ (inn = false ∧ ¬ (0 ≤ n ∧ n < (ls.length : Int)))) ∧ w' = w5) ?_ ?_
        · -- up to the cut
          refine W_reg ?_ -- 10 law.go:43
          refine o_fieldAddr fo31_1 rfl rfl ?_
          refine o_load1 ag3 rfl (hA.c 0 rfl rfl) ?_
          refine o_cmp2 rfl rfl rfl (fun h => ?_) (fun h => ?_)
          · -- True
            have hn0 : 0 ≤ n := by simpa using h
            refine o_move (v := .bool _) rfl ?_
            refine O_yes rfl rfl rfl ?_
            refine o_fieldAddr fo31_1 rfl rfl ?_
            refine O_yes rfl rfl rfl ?_
            refine o_load1 ag3 rfl (hA.c 0 rfl rfl) ?_
            refine O_yes rfl rfl rfl ?_
            refine o_move (by conv => lhs; whnf) ?_
            refine O_yes rfl rfl rfl ?_
            refine o_len Try.underlying26 rfl ?_
            refine O_yes rfl rfl rfl ?_
            refine o_cmp2 rfl rfl rfl (fun h => ?_) (fun h => ?_)
            · -- True
              refine o_pick_t rfl (v := .bool _) rfl ?_
              refine o_assign (v := .bool _) rfl ?_
              refine O_end ?_
              exact ⟨true, rfl, rfl, rfl, rfl, rfl, rfl, .inl ⟨rfl, hn0, by simpa using h⟩, rfl⟩
            · -- False
              refine o_pick_t rfl (v := .bool _) rfl ?_
              refine o_assign (v := .bool _) rfl ?_
              refine O_end ?_
              exact ⟨false, rfl, rfl, rfl, rfl, rfl, rfl, .inr ⟨rfl, fun q => by simp at h; omega⟩, rfl⟩
          · -- False
            refine o_move (v := .bool _) rfl ?_
            refine O_no rfl rfl rfl rfl ?_
            refine O_no rfl rfl rfl rfl ?_
            refine O_no rfl rfl rfl rfl ?_
            refine O_no rfl rfl rfl rfl ?_
            refine O_no rfl rfl rfl rfl ?_
            refine o_pick_f rfl (v := .bool _) rfl ?_
            refine o_assign (v := .bool _) rfl ?_
            refine O_end ?_
            exact ⟨false, rfl, rfl, rfl, rfl, rfl, rfl, .inr ⟨rfl, fun q => by simp at h; omega⟩, rfl⟩
        · -- behind it
          rintro ρ _ ⟨inn, h5, h3, h4, h0, h6, h7, hin, rfl⟩
          refine W_known (t := 5) h5 ?_
          refine W_known (t := 3) h3 ?_
          refine W_known (t := 4) h4 ?_
          refine W_known (t := 0) h0 ?_
          refine W_known (t := 6) h6 ?_
          refine W_known (t := 7) h7 ?_
          refine W_seq ?_
          refine W_seq ?_
          refine W_reg ?_ -- 11 law.go:44
          refine o_fieldAddr fo31_0 rfl rfl ?_
          refine o_load1 ag3 rfl (hA.c 0 rfl rfl) ?_
          refine O_end ?_
          refine W_cut (fun ρ' w' => ∃ (ls' : List RL) (LA' : Option Addr) (Lm' Lc' : Nat), ρ' 5 = .int .i64 (i : Int) ∧ ρ' 3 = .pointer (some ⟨b, 0, none⟩) ∧ ρ' 4 = .slice LA' Lm' Lc' ∧ ρ' 0 = .slice (some ⟨gS, oS, none⟩) m c ∧ PL w b (i + 1) (.slice LA' Lm' Lc') ls' w') ?_ ?_
          · -- up to the cut
            refine W_block ?_ -- 2
            refine W_seq ?_
            refine W_reg ?_ -- 12 law.go:45
            refine o_cmp2 rfl rfl rfl (fun h => ?_) (fun h => ?_)
            · -- True
              refine o_assign (v := .bool _) rfl ?_
              refine O_end ?_
              refine W_then rfl ?_
              refine W_seq ?_
              refine W_seq ?_
              refine W_reg ?_ -- 13 law.go:46
              refine o_move (v := .pointer _) rfl ?_
              refine o_fieldAddr fo31_3 rfl rfl ?_
              refine o_loadN ag29 ti29 rfl rfl (hA.cs (i := 0) (o := 3) (s := 4) (ds := [_, _, _, _]) rfl rfl) ?_
              refine O_calls en9 rfl (c_send (ds := ds) (l := sx.l) (by omega) (hA.mown (A := [_, _]) (R := road b sv ds)) (hsx.old hA) (by omega)) (fun v6 w6 hC => ?_)
              rcases hC with ⟨h1, _⟩ | ⟨_, rfl, sv1, xA, xm, xc, hC⟩
              · omega
              have hA := hA.mid (A := [_, _]) (R := road b sv ds) hC
              refine o_cmp2 rfl rfl rfl (fun h => (by cases h)) (fun h => ?_)
              refine O_end ?_
              refine W_else rfl ?_
              refine W_skip ?_
              refine W_reg ?_ -- 15 law.go:49
              refine o_move (by conv => lhs; whnf) ?_
              refine o_fieldAddr fo31_3 rfl rfl ?_
              refine o_loadN ag29 ti29 rfl rfl (hA.cs (i := 0) (o := 3) (s := 4) (ds := [_, _, _, _]) rfl rfl) ?_
              refine o_buildSlice (cs := [_, _, _, _]) hA Try.underlying26 ti29 rfl rfl rfl rfl rfl (fun a7 w7 hA => ?_)
              refine o_append (i := 2) hA rfl rfl rfl Try.underlying26 ti29 rfl (by decide) (hA.rd 0 rfl) (fun u hu => by simp only [List.mem_cons, List.not_mem_nil, or_false] at hu; rcases hu with rfl | rfl | rfl | rfl <;> rfl) (fun a k h1 h2 => by rw [flat_len] at h1; simp only [List.length_cons, List.length_nil] at h2; omega) (fun a k h1 h2 => by rw [flat_len] at h1; simp only [List.length_cons, List.length_nil] at h2; omega) (fun v8 w8 hA => ?_)
              refine o_assign (by conv => lhs; whnf) ?_
              refine O_end ?_
              obtain ⟨A8, m8, c8, rfl⟩ := (hA.row 2 rfl).slice
              exact ⟨ls ++ [sx], A8, m8, c8, rfl, rfl, rfl, rfl, ds ++ [⟨sx.d, sx.k, sx.t, xA, xm, xc, sx.l⟩], sv1, ks, by simp; omega, core_snoc hcore rfl, forall_snoc hl h2000, forall_snoc hrd (.inl hsx), by rw [flat_snoc]; exact hA.drop.drop⟩
            · -- False
              refine o_assign (v := .bool _) rfl ?_
              refine O_end ?_
              refine W_else rfl ?_
              refine W_seq ?_
              refine W_reg ?_ -- 16 law.go:50
              refine o_cmp2 rfl rfl rfl (fun h => ?_) (fun h => ?_)
              · -- True
                refine o_assign (v := .bool _) rfl ?_
                refine O_end ?_
                refine W_then rfl ?_
                refine W_seq ?_
                rcases hin with ⟨rfl, hn0, hn2⟩ | ⟨rfl, hn⟩
                · -- True
                  obtain ⟨q, rfl⟩ := Int.eq_ofNat_of_zero_le hn0
                  have hq : q < ls.length := by omega
                  obtain ⟨x, hx⟩ : ∃ x, ls[q]? = some x := ⟨_, List.getElem?_eq_getElem hq⟩
                  obtain ⟨yA, ym, yc, hy⟩ := core_get hcore hx
                  obtain ⟨gL, rfl⟩ := row_some (hA.row 1 rfl) (by omega)
                  have hx2 := hl x (List.mem_of_getElem? hx)
                  have hxr := hrd x (List.mem_of_getElem? hx)
                  refine W_reg ?_ -- 17 law.go:51
                  refine o_move (v := .pointer _) rfl ?_
                  refine o_fieldAddr fo31_1 rfl rfl ?_
                  refine o_load1 ag3 rfl (hA.c 0 rfl rfl) ?_
                  refine O_calls en10 rfl (c_take (ds := ds) (by omega) (hA.mown (A := [_, _]) (R := road b sv ds))) (fun v9 w9 hC => ?_)
                  rcases hC with ⟨h1, _⟩ | ⟨q', y', hq', hy', rfl, sv1, hC⟩
                  · exact absurd (show 0 ≤ (q : Int) ∧ (q : Int) < (ds.length : Int) from ⟨by omega, by omega⟩) h1
                  replace hq' : (q : Int) = (q' : Int) := hq'
                  obtain rfl : q = q' := by omega
                  obtain rfl := Option.some.inj (hy.symm.trans hy')
                  have hA := hA.mid (A := [_, _]) (R := road b sv ds) hC
                  refine o_move (by conv => lhs; whnf) ?_
                  refine o_extract rfl rfl ?_
                  refine o_extract rfl rfl ?_
                  refine o_alloc hA ti29 rfl (fun b10 w10 hA => ?_)
                  refine o_store (cs' := [_, _, _, _]) (i := 0) hA rfl (by conv => lhs; whnf) rfl ti29 rfl rfl rfl rfl (fun w11 hA => ?_)
                  refine o_assign (v := .int _ _) rfl ?_
                  refine O_end ?_
                  refine W_seq ?_
                  refine W_seq ?_
                  refine W_drawA hA [6, 18, 21, 23] mix rfl rfl (fun w0_18 hA => ?_) -- 18 law.go:52
                  refine D_take 0 rfl (by kernel_rfl) (by rintro _ _ _ ⟨h, _⟩; cases h) rfl (fun h => by cases h) (fun w hA => r_move (v := .bool _) rfl) ?_
                  refine D_take 1 rfl (by kernel_rfl) (by rintro _ _ _ ⟨h, _⟩; cases h) rfl (fun h => by cases h) (fun w hA => r_not rfl) ?_
                  refine D_take 2 rfl (by kernel_rfl) (by rintro _ _ _ ⟨h, _⟩; cases h) rfl (fun h => by cases h) (fun w hA => r_move (v := .bool _) rfl) ?_
                  refine D_take_no 3 rfl (by kernel_rfl) (by rintro _ _ _ ⟨h, _⟩; cases h) rfl (fun h => by cases h) rfl rfl rfl rfl ?_
                  refine D_take_no 4 rfl (by kernel_rfl) (by rintro _ _ _ ⟨h, _⟩; cases h) rfl (fun h => by cases h) rfl rfl rfl rfl ?_
                  refine D_take_no 5 rfl (by kernel_rfl) (by rintro _ _ _ ⟨h, _⟩; cases h) rfl (fun h => by cases h) rfl rfl rfl rfl ?_
                  refine D_take_nu 6 rfl (by kernel_rfl) (by rintro _ _ _ ⟨h, _⟩; cases h) rfl (fun _ => hA) rfl rfl rfl ?_
                  refine D_take_nu 7 rfl (by kernel_rfl) (by rintro _ _ _ ⟨h, _⟩; cases h) rfl (fun h => by cases h) rfl rfl rfl ?_
                  refine D_take_nu 8 rfl (by kernel_rfl) (by rintro _ _ _ ⟨h, _⟩; cases h) rfl (fun h => by cases h) rfl rfl rfl ?_
                  refine D_take_nu 9 rfl (by kernel_rfl) (by rintro _ _ _ ⟨h, _⟩; cases h) rfl (fun h => by cases h) rfl rfl rfl ?_
                  refine D_take_no 10 rfl (by kernel_rfl) (by rintro _ _ _ ⟨h, _⟩; cases h) rfl (fun h => by cases h) rfl rfl rfl rfl ?_
                  refine D_take 11 rfl (by kernel_rfl) (by rintro _ _ _ ⟨h, _⟩; cases h) rfl (fun h => by cases h) (fun w hA => r_pick_f rfl (v := .bool _) rfl) ?_
                  refine D_take 12 rfl (by kernel_rfl) (by rintro _ _ _ ⟨h, _⟩; cases h) rfl (fun h => by cases h) (fun w hA => r_move (v := .bool _) rfl) ?_
                  refine D_take_yes 13 rfl (by kernel_rfl) (by rintro _ _ _ ⟨h, _⟩; cases h) rfl (fun h => by cases h) rfl rfl rfl (fun w hA => r_move (v := .bool _) rfl) ?_
                  refine D_take_yes 14 rfl (by kernel_rfl) (by rintro _ _ _ ⟨h, _⟩; cases h) rfl (fun h => by cases h) rfl rfl rfl (fun w hA => r_move (v := .bool _) rfl) ?_
                  refine D_take_yes 15 rfl (by kernel_rfl) (by rintro _ _ _ ⟨h, _⟩; cases h) rfl (fun h => by cases h) rfl rfl rfl (fun w hA => r_move (v := .int _ _) rfl) ?_
                  refine D_takeb_yes 16 rfl (by kernel_rfl) (by rintro _ _ _ ⟨h, _⟩; cases h) rfl (fun h => by cases h) rfl rfl rfl (fun w hA => r_cmp rfl rfl rfl) (fun h => (by cases h)) (fun h => ?_)
                  refine D_take_yes 17 rfl (by kernel_rfl) (by rintro _ _ _ ⟨h, _⟩; cases h) rfl (fun h => by cases h) rfl rfl rfl (fun w hA => r_move (v := .bool _) rfl) ?_
                  refine D_take_yes 18 rfl (by kernel_rfl) (by rintro _ _ _ ⟨h, _⟩; cases h) rfl (fun _ => hA) rfl rfl rfl (fun w hA => r_loadN ag29 ti29 rfl rfl ((hA rfl).cs (i := 0) (o := 0) (s := 4) (ds := [_, _, _, _]) rfl rfl)) ?_
                  refine D_take_yes 19 rfl (by kernel_rfl) (by rintro _ _ _ ⟨h, _⟩; cases h) rfl (fun h => by cases h) rfl rfl rfl (fun w hA => r_move (by conv => lhs; whnf)) ?_
                  refine D_take_yes 20 rfl (by kernel_rfl) (by rintro _ _ _ ⟨h, _⟩; cases h) rfl (fun h => by cases h) rfl rfl rfl (fun w hA => r_fieldAddr fo31_1 rfl rfl) ?_
                  refine D_take_yes 21 rfl (by kernel_rfl) (by rintro _ _ _ ⟨h, _⟩; cases h) rfl (fun _ => hA) rfl rfl rfl (fun w hA => r_load1 ag3 rfl ((hA rfl).c 1 rfl rfl)) ?_
                  refine D_take_yes 22 rfl (by kernel_rfl) (by rintro _ _ _ ⟨h, _⟩; cases h) rfl (fun h => by cases h) rfl rfl rfl (fun w hA => r_index Try.underlying26 ti29 rfl rfl (by omega) (by omega)) ?_
                  refine D_take_yes 23 rfl (by kernel_rfl) (by rintro _ _ _ ⟨h, _⟩; cases h) rfl (fun _ => hA) rfl rfl rfl (fun w hA => r_loadN ag29 ti29 rfl (cs := rlc x) rfl (letter_cells ((hA rfl).rd 2 rfl) hx)) ?_
                  refine D_run 24 (by kernel_rfl) rfl rfl ?_
                  refine O_yes rfl rfl rfl ?_
                  refine O_calls en11 rfl (c_same (l1 := x.l) (l2 := x.l) (hA.rd 3 rfl) (rd_in (A := [_, _, _, _]) (R := road b sv1 (ds.eraseIdx q)) hxr hA)) (fun v12 w12 hC => ?_)
                  obtain ⟨hv, hC⟩ := hC
                  have hv : v12 = .bool true := hv.trans (congrArg Value.bool (same_true (x := x) (y := x) rfl))
                  subst hv
                  have hA := (hA.after hC).take
                  refine O_end ⟨fun _ _ => hA, ?_⟩
                  refine D_take_yes 25 rfl (by kernel_rfl) (by rintro _ _ _ ⟨h, _⟩; cases h) rfl (fun h => by cases h) rfl rfl rfl (fun w hA => r_not rfl) ?_
                  refine D_take_yes 26 rfl (by kernel_rfl) (by rintro _ _ _ ⟨h, _⟩; cases h) rfl (fun h => by cases h) rfl rfl rfl (fun w hA => r_pick_f rfl (v := .bool _) rfl) ?_
                  refine D_take_yes 27 rfl (by kernel_rfl) (by rintro _ _ _ ⟨h, _⟩; cases h) rfl (fun h => by cases h) rfl rfl rfl (fun w hA => r_pick_t rfl (v := .bool _) rfl) ?_
                  refine D_take 28 rfl (by kernel_rfl) (by rintro _ _ _ ⟨h, _⟩; cases h) rfl (fun h => by cases h) (fun w hA => r_pick_f rfl (v := .bool _) rfl) ?_
                  refine D_done (by kernel_rfl) ?_
                  refine W_else rfl ?_
                  refine W_skip ?_
                  refine W_seq ?_
                  refine W_reg ?_ -- 20 law.go:55
                  refine o_move (v := .bool _) rfl ?_
                  refine O_end ?_
                  refine W_then rfl ?_
                  refine W_drawA hA [3, 8] mix rfl rfl (fun w0_21 hA => ?_) -- 21 law.go:56
                  refine D_take 1 rfl (by kernel_rfl) (by rintro _ _ _ ⟨h, _⟩; cases h) rfl (fun h => by cases h) (fun w hA => r_move (by conv => lhs; whnf)) ?_
                  refine D_take 2 rfl (by kernel_rfl) (by rintro _ _ _ ⟨h, _⟩; cases h) rfl (fun h => by cases h) (fun w hA => r_fieldAddr fo31_1 rfl rfl) ?_
                  refine D_take 3 rfl (by kernel_rfl) (by rintro _ _ _ ⟨h, _⟩; cases h) rfl (fun _ => hA) (fun w hA => r_load1 ag3 rfl ((hA rfl).c 1 rfl rfl)) ?_
                  refine D_take 4 rfl (by kernel_rfl) (by rintro _ _ _ ⟨h, _⟩; cases h) rfl (fun h => by cases h) (fun w hA => r_slice Try.underlying26 ti29 rfl (.inl ⟨rfl, rfl⟩) (.inr ⟨_, rfl⟩) (.inl ⟨rfl, rfl⟩) (by simp) (Nat.le_refl _) (by omega) (Nat.zero_le _)) ?_
                  refine D_take 6 rfl (by kernel_rfl) (by rintro _ _ _ ⟨h, _⟩; cases h) rfl (fun h => by cases h) (fun w hA => r_move (by conv => lhs; whnf)) ?_
                  refine D_take 7 rfl (by kernel_rfl) (by rintro _ _ _ ⟨h, _⟩; cases h) rfl (fun h => by cases h) (fun w hA => r_fieldAddr fo31_1 rfl rfl) ?_
                  refine D_take 8 rfl (by kernel_rfl) (by rintro _ _ _ ⟨h, _⟩; cases h) rfl (fun _ => hA) (fun w hA => r_load1 ag3 rfl ((hA rfl).c 1 rfl rfl)) ?_
                  refine D_take 9 rfl (by kernel_rfl) (by rintro _ _ _ ⟨h, _⟩; cases h) rfl (fun h => by cases h) (fun w hA => r_add rfl rfl (w64 (a := (q : Int) + 1) (r := ((q + 1 : Nat) : Int)) (by omega) (by omega) (by omega))) ?_
                  refine D_take 10 rfl (by kernel_rfl) (by rintro _ _ _ ⟨h, _⟩; cases h) rfl (fun h => by cases h) (fun w hA => r_slice Try.underlying26 ti29 rfl (.inl ⟨rfl, rfl⟩) (.inl ⟨rfl, rfl⟩) (.inr ⟨_, rfl⟩) (by simp) (Nat.le_refl _) (by omega) (by omega)) ?_
                  refine D_run 0 (by kernel_rfl) rfl rfl ?_
                  refine o_buildSlice (cs := []) hA Try.underlying26 ti29 rfl rfl rfl rfl rfl (fun a13 w13 hA => ?_)
                  refine O_end ⟨fun _ _ => hA.drop, ?_⟩
                  refine D_run 5 (by kernel_rfl) rfl rfl ?_
                  refine o_append (i := 0) hA rfl rfl rfl Try.underlying26 ti29 rfl (by decide) ((hA.rd 3 rfl).cut (l := 0) (h := q) (mm := Lc) (Nat.le_refl _) (by omega) (by omega) (by omega)) (fun u hu => flat_one ls u (List.mem_of_mem_drop (List.mem_of_mem_take hu))) (fun a k h1 h2 => by simp [flat_len] at h1 h2; omega) (fun a k h1 h2 => by simp [flat_len] at h1 h2; omega) (fun v14 w14 hA => ?_)
                  refine O_end ⟨fun _ _ => hA.drop, ?_⟩
                  refine D_run 11 (by kernel_rfl) rfl rfl ?_
                  refine o_append (i := 0) hA rfl rfl rfl Try.underlying26 ti29 rfl (by decide) ((hA.rd 3 rfl).cut (l := q + 1) (h := ls.length) (mm := Lc) (Nat.le_refl _) (by omega) (by omega) (Nat.le_refl _)) (fun u hu => flat_one ls u (List.mem_of_mem_drop (List.mem_of_mem_take hu))) (fun a k h1 h2 => by simp [flat_len] at h1 h2; omega) (fun a k h1 h2 => by simp [flat_len] at h1 h2; omega) (fun v15 w15 hA => ?_)
                  obtain ⟨A8, m8, c8, rfl⟩ := (hA.row 0 rfl).slice
                  refine O_end ⟨fun _ _ => hA.drop, ?_⟩
                  refine D_take 12 rfl (by kernel_rfl) (by rintro _ _ _ ⟨h, _⟩; cases h) rfl (fun h => by cases h) (fun w hA => r_assign (by conv => lhs; whnf)) ?_
                  refine D_done (by kernel_rfl) ?_
                  refine ⟨ls.eraseIdx q, A8, m8, c8, rfl, rfl, rfl, rfl, ds.eraseIdx q, sv1, ks, by rw [List.length_eraseIdx]; split <;> omega, core_erase q hcore, fun z hz => hl z (List.mem_of_mem_eraseIdx hz), fun z hz => hrd z (List.mem_of_mem_eraseIdx hz), ?_⟩
                  rw [← erase_cells]
                  exact hA.sub (.cons_cons _ (.cons _ (.cons _ (.cons _ (.cons _ (List.Sublist.refl _))))))
                · -- False
                  refine W_reg ?_ -- 17 law.go:51
                  refine o_move (v := .pointer _) rfl ?_
                  refine o_fieldAddr fo31_1 rfl rfl ?_
                  refine o_load1 ag3 rfl (hA.c 0 rfl rfl) ?_
                  refine O_calls en10 rfl (c_take (ds := ds) (by omega) (hA.mown (A := [_, _]) (R := road b sv ds))) (fun v16 w16 hC => ?_)
                  rcases hC with ⟨_, rfl, hC⟩ | ⟨q', y', hq', hy', _⟩
                  rotate_left
                  · replace hq' : n = (q' : Int) := hq'
                    exact absurd ⟨by omega, by have := (List.getElem?_eq_some_iff.1 hy').1; omega⟩ hn
                  have hA := hA.mid (A := [_, _]) (R := road b sv ds) hC
                  refine o_move (by conv => lhs; whnf) ?_
                  refine o_extract rfl rfl ?_
                  refine o_extract rfl rfl ?_
                  refine o_alloc hA ti29 rfl (fun b17 w17 hA => ?_)
                  refine o_store (cs' := [_, _, _, _]) (i := 0) hA rfl (by conv => lhs; whnf) rfl ti29 rfl rfl rfl rfl (fun w18 hA => ?_)
                  refine o_assign (v := .int _ _) rfl ?_
                  refine O_end ?_
                  refine W_seq ?_
                  refine W_seq ?_
                  refine W_drawA hA [6, 18, 21, 23] mix rfl rfl (fun w0_18 hA => ?_) -- 18 law.go:52
                  refine D_take 0 rfl (by kernel_rfl) (by rintro _ _ _ ⟨h, _⟩; cases h) rfl (fun h => by cases h) (fun w hA => r_move (v := .bool _) rfl) ?_
                  refine D_take 1 rfl (by kernel_rfl) (by rintro _ _ _ ⟨h, _⟩; cases h) rfl (fun h => by cases h) (fun w hA => r_not rfl) ?_
                  refine D_take 2 rfl (by kernel_rfl) (by rintro _ _ _ ⟨h, _⟩; cases h) rfl (fun h => by cases h) (fun w hA => r_move (v := .bool _) rfl) ?_
                  refine D_take_yes 3 rfl (by kernel_rfl) (by rintro _ _ _ ⟨h, _⟩; cases h) rfl (fun h => by cases h) rfl rfl rfl (fun w hA => r_move (v := .int _ _) rfl) ?_
                  refine D_takeb_yes 4 rfl (by kernel_rfl) (by rintro _ _ _ ⟨h, _⟩; cases h) rfl (fun h => by cases h) rfl rfl rfl (fun w hA => r_cmp rfl rfl rfl) (fun h => (by cases h)) (fun h => ?_)
                  refine D_take_yes 5 rfl (by kernel_rfl) (by rintro _ _ _ ⟨h, _⟩; cases h) rfl (fun h => by cases h) rfl rfl rfl (fun w hA => r_move (v := .bool _) rfl) ?_
                  refine D_take_yes 6 rfl (by kernel_rfl) (by rintro _ _ _ ⟨h, _⟩; cases h) rfl (fun _ => hA) rfl rfl rfl (fun w hA => r_loadN ag29 ti29 rfl rfl ((hA rfl).cs (i := 0) (o := 0) (s := 4) (ds := [_, _, _, _]) rfl rfl)) ?_
                  refine D_take_yes 7 rfl (by kernel_rfl) (by rintro _ _ _ ⟨h, _⟩; cases h) rfl (fun h => by cases h) rfl rfl rfl (fun w hA => r_build la29 rfl rfl) ?_
                  refine D_run 8 (by kernel_rfl) rfl rfl ?_
                  refine O_yes rfl rfl rfl ?_
                  refine O_calls en11 rfl (c_same (l1 := []) (l2 := []) (IsRow.nil _ 5 1 none).rd (IsRow.nil _ 5 1 none).rd) (fun v19 w19 hC => ?_)
                  obtain ⟨rfl, hC⟩ := hC
                  have hA := (hA.after hC).take
                  refine O_end ⟨fun _ _ => hA, ?_⟩
                  refine D_take_yes 9 rfl (by kernel_rfl) (by rintro _ _ _ ⟨h, _⟩; cases h) rfl (fun h => by cases h) rfl rfl rfl (fun w hA => r_not rfl) ?_
                  refine D_take_yes 10 rfl (by kernel_rfl) (by rintro _ _ _ ⟨h, _⟩; cases h) rfl (fun h => by cases h) rfl rfl rfl (fun w hA => r_pick_f rfl (v := .bool _) rfl) ?_
                  refine D_take 11 rfl (by kernel_rfl) (by rintro _ _ _ ⟨h, _⟩; cases h) rfl (fun h => by cases h) (fun w hA => r_pick_t rfl (v := .bool _) rfl) ?_
                  refine D_take 12 rfl (by kernel_rfl) (by rintro _ _ _ ⟨h, _⟩; cases h) rfl (fun h => by cases h) (fun w hA => r_move (v := .bool _) rfl) ?_
                  refine D_take_yes 13 rfl (by kernel_rfl) (by rintro _ _ _ ⟨h, _⟩; cases h) rfl (fun h => by cases h) rfl rfl rfl (fun w hA => r_move (v := .bool _) rfl) ?_
                  refine D_take_yes 14 rfl (by kernel_rfl) (by rintro _ _ _ ⟨h, _⟩; cases h) rfl (fun h => by cases h) rfl rfl rfl (fun w hA => r_move (v := .bool _) rfl) ?_
                  refine D_take_no 15 rfl (by kernel_rfl) (by rintro _ _ _ ⟨h, _⟩; cases h) rfl (fun h => by cases h) rfl rfl rfl rfl ?_
                  refine D_take_no 16 rfl (by kernel_rfl) (by rintro _ _ _ ⟨h, _⟩; cases h) rfl (fun h => by cases h) rfl rfl rfl rfl ?_
                  refine D_take_no 17 rfl (by kernel_rfl) (by rintro _ _ _ ⟨h, _⟩; cases h) rfl (fun h => by cases h) rfl rfl rfl rfl ?_
                  refine D_take_nu 18 rfl (by kernel_rfl) (by rintro _ _ _ ⟨h, _⟩; cases h) rfl (fun _ => hA) rfl rfl rfl ?_
                  refine D_take_nu 19 rfl (by kernel_rfl) (by rintro _ _ _ ⟨h, _⟩; cases h) rfl (fun h => by cases h) rfl rfl rfl ?_
                  refine D_take_nu 20 rfl (by kernel_rfl) (by rintro _ _ _ ⟨h, _⟩; cases h) rfl (fun h => by cases h) rfl rfl rfl ?_
                  refine D_take_nu 21 rfl (by kernel_rfl) (by rintro _ _ _ ⟨h, _⟩; cases h) rfl (fun _ => hA) rfl rfl rfl ?_
                  refine D_take_nu 22 rfl (by kernel_rfl) (by rintro _ _ _ ⟨h, _⟩; cases h) rfl (fun h => by cases h) rfl rfl rfl ?_
                  refine D_take_nu 23 rfl (by kernel_rfl) (by rintro _ _ _ ⟨h, _⟩; cases h) rfl (fun _ => hA) rfl rfl rfl ?_
                  refine D_take_nu 24 rfl (by kernel_rfl) (by rintro _ _ _ ⟨h, _⟩; cases h) rfl (fun h => by cases h) rfl rfl rfl ?_
                  refine D_take_nu 25 rfl (by kernel_rfl) (by rintro _ _ _ ⟨h, _⟩; cases h) rfl (fun h => by cases h) rfl rfl rfl ?_
                  refine D_take_no 26 rfl (by kernel_rfl) (by rintro _ _ _ ⟨h, _⟩; cases h) rfl (fun h => by cases h) rfl rfl rfl rfl ?_
                  refine D_take_yes 27 rfl (by kernel_rfl) (by rintro _ _ _ ⟨h, _⟩; cases h) rfl (fun h => by cases h) rfl rfl rfl (fun w hA => r_pick_f rfl (v := .bool _) rfl) ?_
                  refine D_take 28 rfl (by kernel_rfl) (by rintro _ _ _ ⟨h, _⟩; cases h) rfl (fun h => by cases h) (fun w hA => r_pick_f rfl (v := .bool _) rfl) ?_
                  refine D_done (by kernel_rfl) ?_
                  refine W_else rfl ?_
                  refine W_skip ?_
                  refine W_seq ?_
                  refine W_reg ?_ -- 20 law.go:55
                  refine o_move (v := .bool _) rfl ?_
                  refine O_end ?_
                  refine W_else rfl ?_
                  refine W_skip ?_
                  exact ⟨ls, _, _, Lc, rfl, rfl, rfl, rfl, _, _, ks, by omega, hcore, hl, hrd, hA.drop.drop⟩
              · -- False
                refine o_assign (v := .bool _) rfl ?_
                refine O_end ?_
                refine W_else rfl ?_
                refine W_seq ?_
                refine W_reg ?_ -- 22 law.go:58
                refine o_cmp2 rfl rfl rfl (fun h => ?_) (fun h => ?_)
                · -- True
                  refine o_assign (v := .bool _) rfl ?_
                  refine O_end ?_
                  refine W_then rfl ?_
                  refine W_seq ?_
                  rcases hin with ⟨rfl, hn0, hn2⟩ | ⟨rfl, hn⟩
                  · -- True
                    obtain ⟨q, rfl⟩ := Int.eq_ofNat_of_zero_le hn0
                    have hq : q < ls.length := by omega
                    obtain ⟨x, hx⟩ : ∃ x, ls[q]? = some x := ⟨_, List.getElem?_eq_getElem hq⟩
                    obtain ⟨yA, ym, yc, hy⟩ := core_get hcore hx
                    obtain ⟨gL, rfl⟩ := row_some (hA.row 1 rfl) (by omega)
                    have hx2 := hl x (List.mem_of_getElem? hx)
                    have hxr := hrd x (List.mem_of_getElem? hx)
                    refine W_reg ?_ -- 23 law.go:59
                    refine o_move (v := .pointer _) rfl ?_
                    refine o_fieldAddr fo31_1 rfl rfl ?_
                    refine o_load1 ag3 rfl (hA.c 0 rfl rfl) ?_
                    refine O_calls en12 rfl (c_twin (ds := ds) (by omega) (fun z hz => by have := core_bound hcore hl z hz; omega) (hA.mown (A := [_, _]) (R := road b sv ds))) (fun v20 w20 hC => ?_)
                    rcases hC with ⟨h1, _⟩ | ⟨q', y', hq', hy', ⟨h1, _⟩ | ⟨_, rfl, sv1, xA, xm, xc, hC⟩⟩
                    · exact absurd (show 0 ≤ (q : Int) ∧ (q : Int) < (ds.length : Int) from ⟨by omega, by omega⟩) h1
                    · omega
                    replace hq' : (q : Int) = (q' : Int) := hq'
                    obtain rfl : q = q' := by omega
                    obtain rfl := Option.some.inj (hy.symm.trans hy')
                    have hA := hA.mid (A := [_, _]) (R := road b sv ds) hC
                    refine o_assign (v := .int _ _) rfl ?_
                    refine O_end ?_
                    refine W_seq ?_
                    refine W_seq ?_
                    refine W_reg ?_ -- 24 law.go:60
                    refine o_move (v := .bool _) rfl ?_
                    refine o_not rfl ?_
                    refine o_move (v := .bool _) rfl ?_
                    refine O_no rfl rfl rfl rfl ?_
                    refine O_no rfl rfl rfl rfl ?_
                    refine o_pick_f rfl (v := .bool _) rfl ?_
                    refine o_move (v := .bool _) rfl ?_
                    refine O_yes rfl rfl rfl ?_
                    refine o_move (v := .bool _) rfl ?_
                    refine O_yes rfl rfl rfl ?_
                    refine o_move (v := .bool _) rfl ?_
                    refine O_yes rfl rfl rfl ?_
                    refine o_move (v := .int _ _) rfl ?_
                    refine O_yes rfl rfl rfl ?_
                    refine o_cmp2 rfl rfl rfl (fun h => (by cases h)) (fun h => ?_)
                    refine O_yes rfl rfl rfl ?_
                    refine o_pick_t rfl (v := .bool _) rfl ?_
                    refine o_pick_f rfl (v := .bool _) rfl ?_
                    refine O_end ?_
                    refine W_else rfl ?_
                    refine W_skip ?_
                    refine W_seq ?_
                    refine W_reg ?_ -- 26 law.go:63
                    refine o_move (v := .bool _) rfl ?_
                    refine O_end ?_
                    refine W_then rfl ?_
                    refine W_reg ?_ -- 27 law.go:64
                    refine o_move (by conv => lhs; whnf) ?_
                    refine o_move (by conv => lhs; whnf) ?_
                    refine o_fieldAddr fo31_1 rfl rfl ?_
                    refine o_load1 ag3 rfl (hA.c 0 rfl rfl) ?_
                    refine o_index Try.underlying26 ti29 rfl rfl (by omega) (by omega) ?_
                    refine o_loadN ag29 ti29 rfl (cs := rlc x) rfl (letter_cells (hA.rd 1 rfl) hx) ?_
                    refine o_buildSlice (cs := [_, _, _, _]) hA Try.underlying26 ti29 rfl rfl rfl rfl rfl (fun a21 w21 hA => ?_)
                    refine o_append (i := 2) hA rfl rfl rfl Try.underlying26 ti29 rfl (by decide) (hA.rd 0 rfl) (fun u hu => by simp only [List.mem_cons, List.not_mem_nil, or_false] at hu; rcases hu with rfl | rfl | rfl | rfl <;> rfl) (fun a k h1 h2 => by rw [flat_len] at h1; simp only [List.length_cons, List.length_nil] at h2; omega) (fun a k h1 h2 => by rw [flat_len] at h1; simp only [List.length_cons, List.length_nil] at h2; omega) (fun v22 w22 hA => ?_)
                    refine o_assign (by conv => lhs; whnf) ?_
                    refine O_end ?_
                    obtain ⟨A8, m8, c8, rfl⟩ := (hA.row 2 rfl).slice
                    exact ⟨ls ++ [x], A8, m8, c8, rfl, rfl, rfl, rfl, ds ++ [⟨x.d, x.k, x.t, xA, xm, xc, x.l⟩], sv1, ks, by simp; omega, core_snoc hcore rfl, forall_snoc hl hx2, forall_snoc hrd hxr, by rw [flat_snoc]; exact hA.drop.drop⟩
                  · -- False
                    refine W_reg ?_ -- 23 law.go:59
                    refine o_move (v := .pointer _) rfl ?_
                    refine o_fieldAddr fo31_1 rfl rfl ?_
                    refine o_load1 ag3 rfl (hA.c 0 rfl rfl) ?_
                    refine O_calls en12 rfl (c_twin (ds := ds) (by omega) (fun z hz => by have := core_bound hcore hl z hz; omega) (hA.mown (A := [_, _]) (R := road b sv ds))) (fun v23 w23 hC => ?_)
                    rcases hC with ⟨_, rfl, hC⟩ | ⟨q', y', hq', hy', _⟩
                    rotate_left
                    · replace hq' : n = (q' : Int) := hq'
                      exact absurd ⟨by omega, by have := (List.getElem?_eq_some_iff.1 hy').1; omega⟩ hn
                    have hA := hA.mid (A := [_, _]) (R := road b sv ds) hC
                    refine o_assign (v := .int _ _) rfl ?_
                    refine O_end ?_
                    refine W_seq ?_
                    refine W_seq ?_
                    refine W_reg ?_ -- 24 law.go:60
                    refine o_move (v := .bool _) rfl ?_
                    refine o_not rfl ?_
                    refine o_move (v := .bool _) rfl ?_
                    refine O_yes rfl rfl rfl ?_
                    refine o_move (v := .int _ _) rfl ?_
                    refine O_yes rfl rfl rfl ?_
                    refine o_cmp2 rfl rfl rfl (fun h => (by cases h)) (fun h => ?_)
                    refine o_pick_t rfl (v := .bool _) rfl ?_
                    refine o_move (v := .bool _) rfl ?_
                    refine O_yes rfl rfl rfl ?_
                    refine o_move (v := .bool _) rfl ?_
                    refine O_yes rfl rfl rfl ?_
                    refine o_move (v := .bool _) rfl ?_
                    refine O_no rfl rfl rfl rfl ?_
                    refine O_no rfl rfl rfl rfl ?_
                    refine O_yes rfl rfl rfl ?_
                    refine o_pick_f rfl (v := .bool _) rfl ?_
                    refine o_pick_f rfl (v := .bool _) rfl ?_
                    refine O_end ?_
                    refine W_else rfl ?_
                    refine W_skip ?_
                    refine W_seq ?_
                    refine W_reg ?_ -- 26 law.go:63
                    refine o_move (v := .bool _) rfl ?_
                    refine O_end ?_
                    refine W_else rfl ?_
                    refine W_skip ?_
                    exact ⟨ls, _, _, Lc, rfl, rfl, rfl, rfl, _, _, ks, by omega, hcore, hl, hrd, hA.drop⟩
                · -- False
                  refine o_assign (v := .bool _) rfl ?_
                  refine O_end ?_
                  refine W_else rfl ?_
                  refine W_seq ?_
                  refine W_reg ?_ -- 28 law.go:66
                  refine o_cmp2 rfl rfl rfl (fun h => ?_) (fun h => ?_)
                  · -- True
                    refine o_assign (v := .bool _) rfl ?_
                    refine O_end ?_
                    refine W_then rfl ?_
                    refine W_seq ?_
                    rcases hin with ⟨rfl, hn0, hn2⟩ | ⟨rfl, hn⟩
                    · -- True
                      obtain ⟨q, rfl⟩ := Int.eq_ofNat_of_zero_le hn0
                      have hq : q < ls.length := by omega
                      obtain ⟨x, hx⟩ : ∃ x, ls[q]? = some x := ⟨_, List.getElem?_eq_getElem hq⟩
                      obtain ⟨yA, ym, yc, hy⟩ := core_get hcore hx
                      obtain ⟨gL, rfl⟩ := row_some (hA.row 1 rfl) (by omega)
                      have hx2 := hl x (List.mem_of_getElem? hx)
                      have hxr := hrd x (List.mem_of_getElem? hx)
                      refine W_reg ?_ -- 29 law.go:67
                      refine o_move (v := .pointer _) rfl ?_
                      refine o_fieldAddr fo31_1 rfl rfl ?_
                      refine o_load1 ag3 rfl (hA.c 0 rfl rfl) ?_
                      refine o_fieldAddr fo31_2 rfl rfl ?_
                      refine o_load1 ag3 rfl (hA.c 0 rfl rfl) ?_
                      refine O_calls en13 rfl (c_bend (ds := ds) (by omega) (fun z hz => by have := core_bound hcore hl z hz; omega) (hA.mown (A := [_, _]) (R := road b sv ds))) (fun v24 w24 hC => ?_)
                      obtain ⟨e, ds3, rfl, hbend, hC⟩ := bend_cases rfl hy hC
                      have hA := hA.mid (A := [_, _]) (R := road b sv ds) hC
                      have hxm : x.m = x.l.length := rd_len (rd_in (A := [_, _]) hxr hA)
                      refine o_assign (v := .int _ _) rfl ?_
                      refine O_end ?_
                      refine W_seq ?_
                      refine W_reg ?_ -- 30 law.go:68
                      refine o_assign (v := .int _ _) rfl ?_
                      refine O_end ?_
                      refine W_seq ?_
                      refine W_block ?_ -- 3
                      refine W_seq ?_
                      refine W_reg ?_ -- 34 law.go:70
                      refine o_move (v := .bool _) rfl ?_
                      refine o_not rfl ?_
                      refine o_assign (v := .bool _) rfl ?_
                      refine O_end ?_
                      refine W_else rfl ?_
                      refine W_seq ?_
                      refine W_reg ?_ -- 36 law.go:72
                      refine o_move (by conv => lhs; whnf) ?_
                      refine o_fieldAddr fo31_1 rfl rfl ?_
                      refine o_load1 ag3 rfl (hA.c 0 rfl rfl) ?_
                      refine o_index Try.underlying26 ti29 rfl rfl (by omega) (by omega) ?_
                      refine o_fieldAddr fo29_2 rfl rfl ?_
                      refine o_load1b ag4 rfl (letter_cells (hA.rd 1 rfl) hx 2 (.bool x.t) rfl) (fun h => ?_) (fun h => ?_)
                      · -- True
                        obtain ⟨he, h3⟩ : e = 17 ∧ ds3 = ds := by
                          rcases hbend with ⟨_, h1⟩ | ⟨h1, _⟩ | ⟨h1, _⟩
                          · exact h1
                          · cases h.symm.trans h1
                          · cases h.symm.trans h1
                        subst he
                        rw [h3] at hA
                        refine o_assign (v := .bool _) rfl ?_
                        refine O_end ?_
                        refine W_then rfl ?_
                        refine W_reg ?_ -- 37 law.go:73
                        refine o_assign (v := .int _ _) rfl ?_
                        refine O_end ?_
                        refine W_seq ?_
                        refine W_reg ?_ -- 40 law.go:81
                        refine o_move (v := .int _ _) rfl ?_
                        refine o_move (v := .int _ _) rfl ?_
                        refine o_cmp2 rfl rfl rfl (fun h => (by cases h)) (fun h => ?_)
                        refine O_end ?_
                        refine W_else rfl ?_
                        refine W_skip ?_
                        exact ⟨ls, _, _, Lc, rfl, rfl, rfl, rfl, _, _, ks, by omega, hcore, hl, hrd, hA.drop⟩
                      · -- False
                        have ht : x.t = false := h
                        refine o_assign (v := .bool _) rfl ?_
                        refine O_end ?_
                        refine W_else rfl ?_
                        refine W_seq ?_
                        refine W_drawA hA [1, 5, 8, 11] mix rfl rfl (fun w0_38 hA => ?_) -- 38 law.go:74
                        refine D_take 0 rfl (by kernel_rfl) (by rintro _ _ _ ⟨h, _⟩; cases h) rfl (fun h => by cases h) (fun w hA => r_fieldAddr fo31_2 rfl rfl) ?_
                        refine D_take 1 rfl (by kernel_rfl) (by rintro _ _ _ ⟨h, _⟩; cases h) rfl (fun _ => hA) (fun w hA => r_load1 ag3 rfl ((hA rfl).c 0 rfl rfl)) ?_
                        refine D_takeb 2 rfl (by kernel_rfl) (by rintro _ _ _ ⟨h, _⟩; cases h) rfl (fun h => by cases h) (fun w hA => r_cmp rfl rfl rfl) (fun h => ?_) (fun h => ?_)
                        · -- True
                          obtain ⟨he, h3⟩ : e = 4 ∧ ds3 = ds := by
                            rcases hbend with ⟨h1, _⟩ | ⟨_, _, h1⟩ | ⟨_, p, hp, hp2, _⟩
                            · cases ht.symm.trans h1
                            · exact h1
                            · replace hp2 : p < 8 * x.l.length := hp2
                              replace hp : bit = (p : Int) := hp
                              simp at h
                              omega
                          subst he
                          refine D_take 3 rfl (by kernel_rfl) (by rintro _ _ _ ⟨h, _⟩; cases h) rfl (fun h => by cases h) (fun w hA => r_move (v := .bool _) rfl) ?_
                          refine D_take_no 4 rfl (by kernel_rfl) (by rintro _ _ _ ⟨h, _⟩; cases h) rfl (fun h => by cases h) rfl rfl rfl rfl ?_
                          refine D_take_no 5 rfl (by kernel_rfl) (by rintro _ _ _ ⟨h, _⟩; cases h) rfl (fun _ => hA) rfl rfl rfl rfl ?_
                          refine D_take_no 6 rfl (by kernel_rfl) (by rintro _ _ _ ⟨h, _⟩; cases h) rfl (fun h => by cases h) rfl rfl rfl rfl ?_
                          refine D_take_no 7 rfl (by kernel_rfl) (by rintro _ _ _ ⟨h, _⟩; cases h) rfl (fun h => by cases h) rfl rfl rfl rfl ?_
                          refine D_take_no 8 rfl (by kernel_rfl) (by rintro _ _ _ ⟨h, _⟩; cases h) rfl (fun _ => hA) rfl rfl rfl rfl ?_
                          refine D_take_no 9 rfl (by kernel_rfl) (by rintro _ _ _ ⟨h, _⟩; cases h) rfl (fun h => by cases h) rfl rfl rfl rfl ?_
                          refine D_take_no 10 rfl (by kernel_rfl) (by rintro _ _ _ ⟨h, _⟩; cases h) rfl (fun h => by cases h) rfl rfl rfl rfl ?_
                          refine D_take_no 11 rfl (by kernel_rfl) (by rintro _ _ _ ⟨h, _⟩; cases h) rfl (fun _ => hA) rfl rfl rfl rfl ?_
                          refine D_take_no 12 rfl (by kernel_rfl) (by rintro _ _ _ ⟨h, _⟩; cases h) rfl (fun h => by cases h) rfl rfl rfl rfl ?_
                          refine D_take_no 13 rfl (by kernel_rfl) (by rintro _ _ _ ⟨h, _⟩; cases h) rfl (fun h => by cases h) rfl rfl rfl rfl ?_
                          refine D_take_no 14 rfl (by kernel_rfl) (by rintro _ _ _ ⟨h, _⟩; cases h) rfl (fun h => by cases h) rfl rfl rfl rfl ?_
                          refine D_take 15 rfl (by kernel_rfl) (by rintro _ _ _ ⟨h, _⟩; cases h) rfl (fun h => by cases h) (fun w hA => r_pick_t rfl (v := .bool _) rfl) ?_
                          refine D_take 16 rfl (by kernel_rfl) (by rintro _ _ _ ⟨h, _⟩; cases h) rfl (fun h => by cases h) (fun w hA => r_assign (v := .bool _) rfl) ?_
                          refine D_done (by kernel_rfl) ?_
                          refine W_then rfl ?_
                          refine W_reg ?_ -- 39 law.go:75
                          refine o_assign (v := .int _ _) rfl ?_
                          refine O_end ?_
                          refine W_seq ?_
                          refine W_reg ?_ -- 40 law.go:81
                          refine o_move (v := .int _ _) rfl ?_
                          refine o_move (v := .int _ _) rfl ?_
                          refine o_cmp2 rfl rfl rfl (fun h => (by cases h)) (fun h => ?_)
                          refine O_end ?_
                          refine W_else rfl ?_
                          refine W_skip ?_
                          rw [h3] at hA
                          exact ⟨ls, _, _, Lc, rfl, rfl, rfl, rfl, _, _, ks, by omega, hcore, hl, hrd, hA.drop⟩
                        · -- False
                          have hb0 : 0 ≤ bit := by simpa using h
                          refine D_take 3 rfl (by kernel_rfl) (by rintro _ _ _ ⟨h, _⟩; cases h) rfl (fun h => by cases h) (fun w hA => r_move (v := .bool _) rfl) ?_
                          refine D_take_yes 4 rfl (by kernel_rfl) (by rintro _ _ _ ⟨h, _⟩; cases h) rfl (fun h => by cases h) rfl rfl rfl (fun w hA => r_fieldAddr fo31_2 rfl rfl) ?_
                          refine D_take_yes 5 rfl (by kernel_rfl) (by rintro _ _ _ ⟨h, _⟩; cases h) rfl (fun _ => hA) rfl rfl rfl (fun w hA => r_load1 ag3 rfl ((hA rfl).c 0 rfl rfl)) ?_
                          refine D_take_yes 6 rfl (by kernel_rfl) (by rintro _ _ _ ⟨h, _⟩; cases h) rfl (fun h => by cases h) rfl rfl rfl (fun w hA => r_move (by conv => lhs; whnf)) ?_
                          refine D_take_yes 7 rfl (by kernel_rfl) (by rintro _ _ _ ⟨h, _⟩; cases h) rfl (fun h => by cases h) rfl rfl rfl (fun w hA => r_fieldAddr fo31_1 rfl rfl) ?_
                          refine D_take_yes 8 rfl (by kernel_rfl) (by rintro _ _ _ ⟨h, _⟩; cases h) rfl (fun _ => hA) rfl rfl rfl (fun w hA => r_load1 ag3 rfl ((hA rfl).c 0 rfl rfl)) ?_
                          refine D_take_yes 9 rfl (by kernel_rfl) (by rintro _ _ _ ⟨h, _⟩; cases h) rfl (fun h => by cases h) rfl rfl rfl (fun w hA => r_index Try.underlying26 ti29 rfl rfl (by omega) (by omega)) ?_
                          refine D_take_yes 10 rfl (by kernel_rfl) (by rintro _ _ _ ⟨h, _⟩; cases h) rfl (fun h => by cases h) rfl rfl rfl (fun w hA => r_fieldAddr fo29_3 rfl rfl) ?_
                          refine D_take_yes 11 rfl (by kernel_rfl) (by rintro _ _ _ ⟨h, _⟩; cases h) rfl (fun _ => hA) rfl rfl rfl (fun w hA => r_load1 ag27 rfl (letter_cells ((hA rfl).rd 1 rfl) hx 3 x.D rfl)) ?_
                          refine D_take_yes 12 rfl (by kernel_rfl) (by rintro _ _ _ ⟨h, _⟩; cases h) rfl (fun h => by cases h) rfl rfl rfl (fun w hA => r_len Try.underlying27 rfl) ?_
                          refine D_take_yes 13 rfl (by kernel_rfl) (by rintro _ _ _ ⟨h, _⟩; cases h) rfl (fun h => by cases h) rfl rfl rfl (fun w hA => r_mul rfl rfl (w64 (r := ((8 * x.m : Nat) : Int)) (by omega) (by omega) (by omega))) ?_
                          refine D_takeb_yes 14 rfl (by kernel_rfl) (by rintro _ _ _ ⟨h, _⟩; cases h) rfl (fun h => by cases h) rfl rfl rfl (fun w hA => r_cmp rfl rfl rfl) (fun h => ?_) (fun h => ?_)
                          · -- True
                            obtain ⟨he, h3⟩ : e = 4 ∧ ds3 = ds := by
                              rcases hbend with ⟨h1, _⟩ | ⟨_, _, h1⟩ | ⟨_, p, hp, hp2, _⟩
                              · cases ht.symm.trans h1
                              · exact h1
                              · replace hp2 : p < 8 * x.l.length := hp2
                                replace hp : bit = (p : Int) := hp
                                simp at h
                                omega
                            subst he
                            refine D_take 15 rfl (by kernel_rfl) (by rintro _ _ _ ⟨h, _⟩; cases h) rfl (fun h => by cases h) (fun w hA => r_pick_f rfl (v := .bool _) rfl) ?_
                            refine D_take 16 rfl (by kernel_rfl) (by rintro _ _ _ ⟨h, _⟩; cases h) rfl (fun h => by cases h) (fun w hA => r_assign (v := .bool _) rfl) ?_
                            refine D_done (by kernel_rfl) ?_
                            refine W_then rfl ?_
                            refine W_reg ?_ -- 39 law.go:75
                            refine o_assign (v := .int _ _) rfl ?_
                            refine O_end ?_
                            refine W_seq ?_
                            refine W_reg ?_ -- 40 law.go:81
                            refine o_move (v := .int _ _) rfl ?_
                            refine o_move (v := .int _ _) rfl ?_
                            refine o_cmp2 rfl rfl rfl (fun h => (by cases h)) (fun h => ?_)
                            refine O_end ?_
                            refine W_else rfl ?_
                            refine W_skip ?_
                            rw [h3] at hA
                            exact ⟨ls, _, _, Lc, rfl, rfl, rfl, rfl, _, _, ks, by omega, hcore, hl, hrd, hA.drop⟩
                          · -- False
                            obtain ⟨p, rfl, hp, he, h3⟩ : ∃ p : Nat, bit = p ∧ p < 8 * x.l.length ∧ e = 0 ∧ ds3 = ds.set q ⟨x.d, x.k, true, yA, ym, yc, flipB x.l p⟩ := by
                              rcases hbend with ⟨h1, _⟩ | ⟨_, h1, _⟩ | ⟨_, h1⟩
                              · cases ht.symm.trans h1
                              · simp at h
                                exact absurd ⟨hb0, by show bit < 8 * (x.l.length : Int); omega⟩ h1
                              · exact h1
                            subst he
                            rw [h3] at hA
                            have hp8 : p / 8 < x.l.length := by omega
                            refine D_take 15 rfl (by kernel_rfl) (by rintro _ _ _ ⟨h, _⟩; cases h) rfl (fun h => by cases h) (fun w hA => r_pick_f rfl (v := .bool _) rfl) ?_
                            refine D_take 16 rfl (by kernel_rfl) (by rintro _ _ _ ⟨h, _⟩; cases h) rfl (fun h => by cases h) (fun w hA => r_assign (v := .bool _) rfl) ?_
                            refine D_done (by kernel_rfl) ?_
                            refine W_else rfl ?_
                            refine W_seq ?_
                            refine W_reg ?_ -- 31 law.go:77
                            refine o_buildSlice (cs := []) hA Try.underlying27 ti5 rfl rfl rfl rfl rfl (fun a25 w25 hA => ?_)
                            refine o_move (by conv => lhs; whnf) ?_
                            refine o_fieldAddr fo31_1 rfl rfl ?_
                            refine o_load1 ag3 rfl (hA.c 1 rfl rfl) ?_
                            refine o_index Try.underlying26 ti29 rfl rfl (by omega) (by omega) ?_
                            refine o_fieldAddr fo29_3 rfl rfl ?_
                            refine o_load1 ag27 rfl (letter_cells (hA.rd 2 rfl) hx 3 x.D rfl) ?_
                            refine o_append (i := 0) hA rfl rfl rfl Try.underlying27 ti5 rfl (by decide) (rd_in (A := [_, _, _]) hxr hA) (fun u hu => by simp only [u8s, List.mem_map] at hu; obtain ⟨z, _, rfl⟩ := hu; rfl) (fun a k h1 h2 => by rw [u8s_len] at h2; simp only [List.length_nil] at h1; omega) (fun a k h1 h2 => by rw [u8s_len] at h2; simp only [List.length_nil] at h1; omega) (fun v26 w26 hA => ?_)
                            obtain ⟨bA, bm, bc, rfl⟩ := (hA.row 0 rfl).slice
                            obtain rfl : bm = x.l.length := byte_len (l := x.l) (hA.row 0 rfl)
                            obtain ⟨gb, rfl⟩ := row_some (hA.row 0 rfl) (by omega)
                            have hA : At _ _ (Row 5 1 (.slice (some ⟨gb, 0, none⟩) x.l.length bc) (u8s x.l) :: _) _ := hA
                            refine o_assign (by conv => lhs; whnf) ?_
                            refine O_end ?_
                            refine W_seq ?_
                            refine W_drawA hA [2, 5, 7] mix rfl rfl (fun w0_32 hA => ?_) -- 32 law.go:78
                            refine D_take 0 rfl (by kernel_rfl) (by rintro _ _ _ ⟨h, _⟩; cases h) rfl (fun h => by cases h) (fun w hA => r_move (by conv => lhs; whnf)) ?_
                            refine D_take 1 rfl (by kernel_rfl) (by rintro _ _ _ ⟨h, _⟩; cases h) rfl (fun h => by cases h) (fun w hA => r_fieldAddr fo31_2 rfl rfl) ?_
                            refine D_take 2 rfl (by kernel_rfl) (by rintro _ _ _ ⟨h, _⟩; cases h) rfl (fun _ => hA) (fun w hA => r_load1 ag3 rfl ((hA rfl).c 1 rfl rfl)) ?_
                            refine D_take 3 rfl (by kernel_rfl) (by rintro _ _ _ ⟨h, _⟩; cases h) rfl (fun h => by cases h) (fun w hA => r_quo rfl rfl (by decide) (w64r (show Int.tdiv (p : Int) 8 = ((p / 8 : Nat) : Int) from rfl) (by omega) (by omega))) ?_
                            refine D_take 4 rfl (by kernel_rfl) (by rintro _ _ _ ⟨h, _⟩; cases h) rfl (fun h => by cases h) (fun w hA => r_index Try.underlying27 ti5 rfl rfl (by omega) (by omega)) ?_
                            refine D_take 5 rfl (by kernel_rfl) (by rintro _ _ _ ⟨h, _⟩; cases h) rfl (fun _ => hA) (fun w hA => r_load1 ag5 rfl (((hA rfl).rd 0 rfl).cells (j := ((p / 8 : Nat) : Int).toNat * 1) (by rw [Nat.mul_one]; exact u8s_get hp8))) ?_
                            refine D_take 6 rfl (by kernel_rfl) (by rintro _ _ _ ⟨h, _⟩; cases h) rfl (fun h => by cases h) (fun w hA => r_fieldAddr fo31_2 rfl rfl) ?_
                            refine D_take 7 rfl (by kernel_rfl) (by rintro _ _ _ ⟨h, _⟩; cases h) rfl (fun _ => hA) (fun w hA => r_load1 ag3 rfl ((hA rfl).c 1 rfl rfl)) ?_
                            refine D_take 8 rfl (by kernel_rfl) (by rintro _ _ _ ⟨h, _⟩; cases h) rfl (fun h => by cases h) (fun w hA => r_rem rfl rfl (by decide) (show Int.tmod (p : Int) 8 = ((p % 8 : Nat) : Int) from rfl)) ?_
                            refine D_take 9 rfl (by kernel_rfl) (by rintro _ _ _ ⟨h, _⟩; cases h) rfl (fun h => by cases h) (fun w hA => r_conv Try.underlying3 Try.underlying39 rfl (show IntKind.u64.wrap ((p % 8 : Nat) : Int) = ((p % 8 : Nat) : Int) from by rw [IntKind.wrap_u64]; omega)) ?_
                            refine D_take 10 rfl (by kernel_rfl) (by rintro _ _ _ ⟨h, _⟩; cases h) rfl (fun h => by cases h) (fun w hA => r_shl rfl rfl (by omega) rfl) ?_
                            refine D_take 11 rfl (by kernel_rfl) (by rintro _ _ _ ⟨h, _⟩; cases h) rfl (fun h => by cases h) (fun w hA => r_bits (by simp) rfl rfl rfl) ?_
                            refine D_take 12 rfl (by kernel_rfl) (by rintro _ _ _ ⟨h, _⟩; cases h) rfl (fun h => by cases h) (fun w hA => r_index Try.underlying27 ti5 rfl rfl (by omega) (by omega)) ?_
                            refine D_run 13 (by kernel_rfl) rfl rfl ?_
                            refine o_storeRow (i := 0) (xs' := u8s (flipB x.l p)) hA rfl (by conv => lhs; whnf) rfl ti5 rfl rfl (by rw [u8s_len]; show 0 + p / 8 * 1 + 1 ≤ x.l.length; omega) rfl (by rw [show 0 + ((p / 8 : Nat) : Int).toNat * 1 = p / 8 from (by rw [Nat.zero_add, Nat.mul_one]; rfl)]; exact (set_parts _ _ _ (by rw [u8s_len]; exact hp8)).trans (flip_cells hp8)) (fun w2 hA => ?_)
                            refine O_end ⟨(fun h _ => noNeed (by kernel_rfl) h), ?_⟩
                            refine D_done (by kernel_rfl) ?_
                            refine W_drawB (fun u => u.cell? ⟨b4, 1, none⟩ = some (.int .i64 (q : Int))) hA [2, 5] mix rfl rfl (fun w0_33 hA => ?_) -- 33 law.go:79
                            refine D_take 0 rfl (by kernel_rfl) (by rintro _ _ _ ⟨h, _⟩; cases h) rfl (fun h => by cases h) (fun w hA => r_move (by conv => lhs; whnf)) ?_
                            refine D_take 1 rfl (by kernel_rfl) (by rintro _ _ _ ⟨h, _⟩; cases h) rfl (fun h => by cases h) (fun w hA => r_fieldAddr fo31_1 rfl rfl) ?_
                            refine D_take 2 rfl (by kernel_rfl) (by rintro _ _ _ ⟨h, _⟩; cases h) rfl (fun _ => hA.c 1 rfl rfl) (fun w hA => r_load1 ag3 rfl (hA rfl)) ?_
                            refine D_take 3 rfl (by kernel_rfl) (by rintro _ _ _ ⟨h, _⟩; cases h) rfl (fun h => by cases h) (fun w hA => r_move (by conv => lhs; whnf)) ?_
                            refine D_take 4 rfl (by kernel_rfl) (by rintro _ _ _ ⟨h, _⟩; cases h) rfl (fun h => by cases h) (fun w hA => r_fieldAddr fo31_1 rfl rfl) ?_
                            refine D_take 5 rfl (by kernel_rfl) (by rintro _ _ _ ⟨h, _⟩; cases h) rfl (fun _ => hA.c 1 rfl rfl) (fun w hA => r_load1 ag3 rfl (hA rfl)) ?_
                            refine D_take 6 rfl (by kernel_rfl) (by rintro _ _ _ ⟨h, _⟩; cases h) rfl (fun h => by cases h) (fun w hA => r_move (by conv => lhs; whnf)) ?_
                            refine D_take 7 rfl (by kernel_rfl) (by rintro _ _ _ ⟨h, _⟩; cases h) rfl (fun h => by cases h) (fun w hA => r_index Try.underlying26 ti29 rfl rfl (by omega) (by omega)) ?_
                            refine D_take 8 rfl (by kernel_rfl) (by rintro _ _ _ ⟨h, _⟩; cases h) rfl (fun h => by cases h) (fun w hA => r_fieldAddr fo29_3 rfl rfl) ?_
                            refine D_run 9 (by kernel_rfl) rfl rfl ?_
                            refine o_storeRow (i := 2) (xs' := flat (ls.set q ⟨x.d, x.k, x.t, some ⟨gb, 0, none⟩, x.l.length, bc, flipB x.l p⟩)) hA rfl (by conv => lhs; whnf) rfl ti27 rfl rfl (by rw [flat_len]; simp; omega) rfl (by rw [show 0 + (q : Int).toNat * 4 + 3 = q * 4 + 3 from by simp]; exact (set_parts _ _ _ (by rw [flat_len]; omega)).trans (flat_set ls q 3 _ _ _ hx (by omega) rfl)) (fun w3 hA => ?_)
                            refine O_end ⟨fun _ _ => hA.c 1 rfl rfl, ?_⟩
                            refine D_take 10 rfl (by kernel_rfl) (by rintro _ _ _ ⟨h, _⟩; cases h) rfl (fun h => by cases h) (fun w hA => r_index Try.underlying26 ti29 rfl rfl (by omega) (by omega)) ?_
                            refine D_take 11 rfl (by kernel_rfl) (by rintro _ _ _ ⟨h, _⟩; cases h) rfl (fun h => by cases h) (fun w hA => r_fieldAddr fo29_2 rfl rfl) ?_
                            refine D_run 12 (by kernel_rfl) rfl rfl ?_
                            refine o_storeRow (i := 2) (xs' := flat (ls.set q ⟨x.d, x.k, true, some ⟨gb, 0, none⟩, x.l.length, bc, flipB x.l p⟩)) hA rfl (by conv => lhs; whnf) rfl ti4 rfl rfl (by rw [flat_len]; simp; omega) rfl (by rw [show 0 + (q : Int).toNat * 4 + 2 = q * 4 + 2 from by simp]; exact ((set_parts _ _ _ (by rw [flat_len, List.length_set]; omega)).trans (flat_set (ls.set q ⟨x.d, x.k, x.t, some ⟨gb, 0, none⟩, x.l.length, bc, flipB x.l p⟩) q 2 _ ⟨x.d, x.k, true, some ⟨gb, 0, none⟩, x.l.length, bc, flipB x.l p⟩ _ (List.getElem?_set_self hq) (by omega) rfl)).trans (by rw [List.set_set])) (fun w3 hA => ?_)
                            refine O_end ⟨fun _ _ => hA.c 1 rfl rfl, ?_⟩
                            refine D_done (by kernel_rfl) ?_
                            refine W_seq ?_
                            refine W_reg ?_ -- 40 law.go:81
                            refine o_move (v := .int _ _) rfl ?_
                            refine o_move (v := .int _ _) rfl ?_
                            refine o_cmp2 rfl rfl rfl (fun h => (by cases h)) (fun h => ?_)
                            refine O_end ?_
                            refine W_else rfl ?_
                            refine W_skip ?_
                            exact ⟨ls.set q ⟨x.d, x.k, true, some ⟨gb, 0, none⟩, x.l.length, bc, flipB x.l p⟩, _, _, Lc, rfl, rfl, rfl, rfl, ds.set q ⟨x.d, x.k, true, yA, ym, yc, flipB x.l p⟩, sv, (.slice (some ⟨gb, 0, none⟩) x.l.length bc, flipB x.l p) :: ks, by rw [List.length_set]; omega, core_set hcore rfl, forall_set hl (by show (flipB x.l p).length ≤ 2000; rw [flipB_len]; exact hx2), forall_set (fun z hz => (hrd z hz).imp_right (List.mem_cons_of_mem _)) (.inr (List.mem_cons_self ..)), At.plperm (R := road b sv _) (K := kr ks) hA⟩
                    · -- False
                      refine W_reg ?_ -- 29 law.go:67
                      refine o_move (v := .pointer _) rfl ?_
                      refine o_fieldAddr fo31_1 rfl rfl ?_
                      refine o_load1 ag3 rfl (hA.c 0 rfl rfl) ?_
                      refine o_fieldAddr fo31_2 rfl rfl ?_
                      refine o_load1 ag3 rfl (hA.c 0 rfl rfl) ?_
                      refine O_calls en13 rfl (c_bend (ds := ds) (by omega) (fun z hz => by have := core_bound hcore hl z hz; omega) (hA.mown (A := [_, _]) (R := road b sv ds))) (fun v30 w30 hC => ?_)
                      rcases hC with ⟨_, rfl, hC⟩ | ⟨q', y', hq', hy', _⟩
                      rotate_left
                      · replace hq' : n = (q' : Int) := hq'
                        exact absurd ⟨by omega, by have := (List.getElem?_eq_some_iff.1 hy').1; omega⟩ hn
                      have hA := hA.mid (A := [_, _]) (R := road b sv ds) hC
                      refine o_assign (v := .int _ _) rfl ?_
                      refine O_end ?_
                      refine W_seq ?_
                      refine W_reg ?_ -- 30 law.go:68
                      refine o_assign (v := .int _ _) rfl ?_
                      refine O_end ?_
                      refine W_seq ?_
                      refine W_block ?_ -- 3
                      refine W_seq ?_
                      refine W_reg ?_ -- 34 law.go:70
                      refine o_move (v := .bool _) rfl ?_
                      refine o_not rfl ?_
                      refine o_assign (v := .bool _) rfl ?_
                      refine O_end ?_
                      refine W_then rfl ?_
                      refine W_reg ?_ -- 35 law.go:71
                      refine o_assign (v := .int _ _) rfl ?_
                      refine O_end ?_
                      refine W_seq ?_
                      refine W_reg ?_ -- 40 law.go:81
                      refine o_move (v := .int _ _) rfl ?_
                      refine o_move (v := .int _ _) rfl ?_
                      refine o_cmp2 rfl rfl rfl (fun h => (by cases h)) (fun h => ?_)
                      refine O_end ?_
                      refine W_else rfl ?_
                      refine W_skip ?_
                      exact ⟨ls, _, _, Lc, rfl, rfl, rfl, rfl, _, _, ks, by omega, hcore, hl, hrd, hA.drop⟩
                  · -- False
                    refine o_assign (v := .bool _) rfl ?_
                    refine O_end ?_
                    refine W_else rfl ?_
                    refine W_skip ?_
                    exact ⟨ls, _, _, Lc, rfl, rfl, rfl, rfl, _, _, ks, by omega, hcore, hl, hrd, hA.drop⟩
          · -- behind it
            rintro ρ w6 ⟨ls, LA, Lm, Lc, h5, h3, h4, h0, ds, sv, ks, hn2, hcore, hl, hrd, hA⟩
            obtain rfl : Lm = ls.length := row_len (hA.row 0 rfl)
            have hdl : ds.length = ls.length := core_len hcore
            refine W_known (t := 5) h5 ?_
            refine W_known (t := 3) h3 ?_
            refine W_known (t := 4) h4 ?_
            refine W_known (t := 0) h0 ?_
            refine W_seq ?_
            refine W_reg ?_ -- 42 law.go:85
            refine o_move (v := .pointer _) rfl ?_
            refine O_calls en14 rfl (c_letters (ds := ds) (by omega) (fun z hz => by have := core_bound hcore hl z hz; omega) (hA.mown (A := [_]) (R := road b sv ds))) (fun v31 w31 hC => ?_)
            obtain ⟨ds', v', rfl, hc', hC⟩ := hC
            obtain ⟨KA, Km, Kc, rfl⟩ := (hC.row 0 rfl).slice
            obtain rfl : Km = ds'.length := row_len (hC.row 0 rfl)
            have hKr := hC.row 0 rfl
            have hK := hKr.rd
            have hD : ∀ z ∈ ds', Rd w31 1 z.D (u8s z.l) := fun z hz => IsRow.rd (hC.holds (Row 5 1 z.D (u8s z.l)) (List.mem_cons_of_mem _ (List.mem_map.2 ⟨z, hz, rfl⟩)))
            have hX : ∀ z ∈ ls, Rd w31 1 z.D (u8s z.l) := fun z hz => (rd_in (A := [_]) (hrd z hz) hA).old hC
            have hA31 := hA.after hC
            have hLrow := hA31.row 0 rfl
            have hLr := hLrow.rd
            have hcc := hc'.trans hcore
            have hkl : ds'.length = ls.length := core_len hcc
            refine o_assign (by conv => lhs; whnf) ?_
            refine O_end ?_
            refine W_seq ?_
            refine W_seq ?_
            refine W_reg ?_ -- 43 law.go:86
            refine o_move (by conv => lhs; whnf) ?_
            refine o_len Try.underlying26 rfl ?_
            refine o_move (by conv => lhs; whnf) ?_
            refine o_len Try.underlying26 rfl ?_
            refine o_cmp2 rfl rfl rfl (fun h => (by simp [hkl] at h)) (fun h => ?_)
            refine O_end ?_
            refine W_else rfl ?_
            refine W_skip ?_
            refine W_seq ?_
            refine W_reg ?_ -- 45 law.go:89
            refine o_assign (v := .int _ _) rfl ?_
            refine O_end ?_
            refine W_block ?_ -- 4
            refine W_loop (fun kk ρ' w' => ∃ k : Nat, k ≤ ls.length ∧ kk = ls.length - k ∧ ρ' 15 = .int .i64 (k : Int) ∧ ρ' 14 = .slice KA ds'.length Kc ∧ ρ' 5 = .int .i64 (i : Int) ∧ ρ' 3 = .pointer (some ⟨b, 0, none⟩) ∧ ρ' 4 = .slice LA ls.length Lc ∧ ρ' 0 = .slice (some ⟨gS, oS, none⟩) m c ∧ At w31 No [] w') ls.length ⟨0, Nat.zero_le _, by simp, rfl, rfl, rfl, rfl, rfl, rfl, At.refl _⟩ ?_
            rintro kk2 ρ w7 ⟨k, hk, rfl, h15, h14, h5, h3, h4, h0, hB⟩
            refine W_known (t := 15) h15 ?_
            refine W_known (t := 14) h14 ?_
            refine W_known (t := 5) h5 ?_
            refine W_known (t := 3) h3 ?_
            refine W_known (t := 4) h4 ?_
            refine W_known (t := 0) h0 ?_
            refine W_seq ?_
            refine W_seq ?_
            refine W_reg ?_ -- 46 law.go:89
            refine o_move (v := .int _ _) rfl ?_
            refine o_move (by conv => lhs; whnf) ?_
            refine o_len Try.underlying26 rfl ?_
            refine o_cmp2 rfl rfl rfl (fun h => ?_) (fun h => ?_)
            · -- True
              have hlk : k < ls.length := by simp at h; omega
              obtain ⟨x, hx⟩ : ∃ x, ls[k]? = some x := ⟨_, List.getElem?_eq_getElem hlk⟩
              obtain ⟨yA, ym, yc, hy⟩ := core_get hcc hx
              obtain ⟨gK, rfl⟩ := row_some hKr (by omega)
              obtain ⟨gL, rfl⟩ := row_some hLrow (by omega)
              refine O_end ?_
              refine W_then rfl ?_
              refine W_skip ?_
              refine W_seq ?_
              refine W_block ?_ -- 5
              refine W_seq ?_
              refine W_drawA hB [3, 7] mix rfl rfl (fun w0_48 hA => ?_) -- 48 law.go:90
              refine D_take 0 rfl (by kernel_rfl) (by rintro _ _ _ ⟨h, _⟩; cases h) rfl (fun h => by cases h) (fun w hA => r_move (by conv => lhs; whnf)) ?_
              refine D_take 1 rfl (by kernel_rfl) (by rintro _ _ _ ⟨h, _⟩; cases h) rfl (fun h => by cases h) (fun w hA => r_move (v := .int _ _) rfl) ?_
              refine D_take 2 rfl (by kernel_rfl) (by rintro _ _ _ ⟨h, _⟩; cases h) rfl (fun h => by cases h) (fun w hA => r_index Try.underlying26 ti29 rfl rfl (by omega) (by omega)) ?_
              refine D_take 3 rfl (by kernel_rfl) (by rintro _ _ _ ⟨h, _⟩; cases h) rfl (fun _ => hA) (fun w hA => r_loadN ag29 ti29 rfl (cs := rlc ⟨x.d, x.k, x.t, yA, ym, yc, x.l⟩) rfl (letter_cells (hK.old (hA rfl)) hy)) ?_
              refine D_take 4 rfl (by kernel_rfl) (by rintro _ _ _ ⟨h, _⟩; cases h) rfl (fun h => by cases h) (fun w hA => r_move (by conv => lhs; whnf)) ?_
              refine D_take 5 rfl (by kernel_rfl) (by rintro _ _ _ ⟨h, _⟩; cases h) rfl (fun h => by cases h) (fun w hA => r_move (v := .int _ _) rfl) ?_
              refine D_take 6 rfl (by kernel_rfl) (by rintro _ _ _ ⟨h, _⟩; cases h) rfl (fun h => by cases h) (fun w hA => r_index Try.underlying26 ti29 rfl rfl (by omega) (by omega)) ?_
              refine D_take 7 rfl (by kernel_rfl) (by rintro _ _ _ ⟨h, _⟩; cases h) rfl (fun _ => hA) (fun w hA => r_loadN ag29 ti29 rfl (cs := rlc x) rfl (letter_cells (hLr.old (hA rfl)) hx)) ?_
              refine D_run 8 (by kernel_rfl) rfl rfl ?_
              refine O_calls en11 rfl (c_same (l1 := x.l) (l2 := x.l) ((hD _ (List.mem_of_getElem? hy)).old hA) ((hX x (List.mem_of_getElem? hx)).old hA)) (fun v32 w32 hC => ?_)
              obtain ⟨hv, hC⟩ := hC
              have hv : v32 = .bool true := hv.trans (congrArg Value.bool (same_true (x := x) (y := x) rfl))
              subst hv
              have hA := (hA.after hC).take
              refine O_end ⟨fun _ _ => hA, ?_⟩
              refine D_take 9 rfl (by kernel_rfl) (by rintro _ _ _ ⟨h, _⟩; cases h) rfl (fun h => by cases h) (fun w hA => r_not rfl) ?_
              refine D_done (by kernel_rfl) ?_
              refine W_else rfl ?_
              refine W_skip ?_
              refine W_reg ?_ -- 47 law.go:89
              refine o_move (v := .int _ _) rfl ?_
              refine o_add rfl rfl (w64 (r := ((k + 1 : Nat) : Int)) (by omega) (by omega) (by omega)) ?_
              refine o_assign (v := .int _ _) rfl ?_
              refine O_end ?_
              exact ⟨ls.length - (k + 1), by omega, k + 1, by omega, rfl, rfl, rfl, rfl, rfl, rfl, rfl, hA⟩
            · -- False
              refine O_end ?_
              refine W_else rfl ?_
              refine W_exit ?_
              refine xb_hit ?_
              refine W_reg ?_ -- 7 law.go:38
              refine o_move (v := .int _ _) rfl ?_
              refine o_add rfl rfl (w64 (r := ((i + 1 : Nat) : Int)) (by omega) (by omega) (by omega)) ?_
              refine o_assign (v := .int _ _) rfl ?_
              refine O_end ?_
              exact ⟨60 - (i + 1), by omega, i + 1, ls, LA, _, Lc, by omega, rfl, rfl, rfl, rfl, rfl, ds, sv, ks, hn2, hcore, hl, hrd, ((hA31.after hB).take).take⟩
    · -- False
      refine o_pick_t rfl (v := .bool _) rfl ?_
      refine O_end ?_
      refine W_else rfl ?_
      refine W_exit ?_
      refine xb_hit ?_
      refine W_seq ?_
      refine W_reg ?_ -- 50 law.go:95
      refine o_assign (v := .bool _) rfl ?_
      refine O_end ?_
      refine W_ret ?_
      refine ⟨rfl, ?_⟩
      refine ret1 Try.results3 (v := .bool _) rfl ?_
      exact ⟨rfl, hA.clear⟩
  · -- False
    refine o_move (v := .bool _) rfl ?_
    refine O_no rfl rfl rfl rfl ?_
    refine O_no rfl rfl rfl rfl ?_
    refine o_pick_f rfl (v := .bool _) rfl ?_
    refine O_end ?_
    refine W_else rfl ?_
    refine W_exit ?_
    refine xb_hit ?_
    refine W_seq ?_
    refine W_reg ?_ -- 50 law.go:95
    refine o_assign (v := .bool _) rfl ?_
    refine O_end ?_
    refine W_ret ?_
    refine ⟨rfl, ?_⟩
    refine ret1 Try.results3 (v := .bool _) rfl ?_
    exact ⟨rfl, hA.clear⟩
end Go.Proofs.Ytpgjmbppbckojaa
