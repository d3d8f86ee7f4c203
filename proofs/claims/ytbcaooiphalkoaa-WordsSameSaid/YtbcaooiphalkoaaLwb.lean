/-
  Words: what is good, what is written.
-/
import Derived.Test.YtbcaooiphalkoaaLwa
set_option linter.unusedVariables false
set_option linter.unusedSimpArgs false
namespace Go.Proofs.Ytbcaooiphalkoaa
open Go Go.RowKit

def zeroH : WH := ⟨0, 0, 0, [], [], [], [], [], ⟨none, 0, 0⟩, ⟨none, 0, 0⟩, ⟨none, 0, 0⟩, ⟨none, 0, 0⟩, ⟨none, 0, 0⟩⟩
def encB (x : Wd) : List UInt8 := if goodP x = true then encP x else []
def encE (x : Wd) : Int := if goodP x = true then 0 else 2
def decB (l : List UInt8) : Wd := if decOk l = true then decW l else zeroH.x
def decE (l : List UInt8) : Int := if decOk l = true then 0 else 2
theorem zero_rd (w : World) : RdW w zeroH := ⟨IsRow.rd (IsRow.nil _ 0 _ none), IsRow.rd (IsRow.nil _ 0 _ none), fun x hx => (by cases hx), IsRow.rd (IsRow.nil _ 0 _ none), IsRow.rd (IsRow.nil _ 0 _ none), IsRow.rd (IsRow.nil _ 0 _ none), fun x hx => (by cases hx)⟩
theorem w_EncodeU {w : World} {H : WH} (hR : RdW w H) (hK : Kinds H.x) : Calls Try.prog 12 #[.agg (wdc H).toArray] w fun e w' => ∃ v, e = .returned v ∧ ∃ (A : Option Addr) (m c : Nat), v = .tuple #[.slice A m c, .int .i64 (encE H.x)] ∧ At w No [Row 5 1 (.slice A m c) (u8l (encB H.x))] w' := by
  refine (w_Encode hR hK hR.small.five).mono fun e w' hh => ?_
  obtain ⟨v, he, h1, h2⟩ := hh
  refine ⟨v, he, ?_⟩
  by_cases hg : goodP H.x = true
  · obtain ⟨s, rfl, hA⟩ := h1 hg
    obtain ⟨A, m, c, rfl⟩ := (hA.row 0 rfl).slice
    refine ⟨A, m, c, ?_, ?_⟩
    · unfold encE; rw [if_pos hg]
    · unfold encB; rw [if_pos hg]; exact hA
  · obtain ⟨rfl, hA⟩ := h2 (by simpa using hg)
    refine ⟨none, 0, 0, ?_, ?_⟩
    · unfold encE; rw [if_neg hg]
    · unfold encB; rw [if_neg hg]; exact hA.nilRow 5 1 none
theorem w_DecodeU {w : World} {D : Value} {l : List UInt8} (hR : Rd w 1 D (u8l l)) : Calls Try.prog 13 #[D] w fun e w' => ∃ v, e = .returned v ∧ ∃ h : WH, v = .tuple #[.agg (wdc h).toArray, .int .i64 (decE l)] ∧ h.x = decB l ∧ At w No (whF h) w' := by
  refine (w_Decode hR).mono fun e w' hh => ?_
  obtain ⟨v, he, h1, h2⟩ := hh
  refine ⟨v, he, ?_⟩
  by_cases hg : decOk l = true
  · obtain ⟨h, rfl, hx, hA⟩ := h1 hg
    refine ⟨h, ?_, ?_, hA⟩
    · unfold decE; rw [if_pos hg]
    · unfold decB; rw [if_pos hg, hx]
  · obtain ⟨rfl, hA⟩ := h2 (by simpa using hg)
    refine ⟨zeroH, ?_, ?_, ?_⟩
    · unfold decE; rw [if_neg hg]; rfl
    · unfold decB; rw [if_neg hg]
    · exact ((((hA.nilRow 55 3 none).nilRow 3 1 none).nilRow 63 1 none).nilRow 52 3 none).nilRow 50 3 none
theorem q_GoodP {w : World} {H : WH} (hR : RdW w H) (hl : H.cs.length ≤ 1000000 ∧ H.ps.length ≤ 1000000 ∧ H.vs.length ≤ 1000000 ∧ H.ws.length ≤ 1000000 ∧ H.os.length ≤ 1000000) : Calls Try.prog 11 #[.agg (wdc H).toArray] w fun e w' => ∃ v, e = .returned v ∧ (v = .bool (goodP H.x) ∧ At w No [] w') := by
  have := q_Good hR hl
  rw [refG_eq] at this
  exact this
theorem large_small {H : WH} (h : largeB H = false) : H.cs.length ≤ 1000000 ∧ H.ps.length ≤ 1000000 ∧ H.vs.length ≤ 1000000 ∧ H.ws.length ≤ 1000000 ∧ H.os.length ≤ 1000000 := by
  unfold largeB at h
  simp only [Bool.or_eq_false_iff, decide_eq_false_iff_not] at h
  omega
theorem sealed_eq (x : Wd) : textP x ++ leN (refC (textP x)) 4 = encP x := by unfold encP; rw [refC_eq]
theorem fit_five {H : WH} (h : Fit H.x) : H.cs.length ≤ 1000000 ∧ H.ps.length ≤ 1000000 ∧ H.vs.length ≤ 1000000 ∧ H.ws.length ≤ 1000000 ∧ H.os.length ≤ 1000000 := by
  have h1 : H.cs.length ≤ 64 := h.csl
  have h2 : (H.ps.map (·.1)).length ≤ 64 := h.psl
  have h3 : H.vs.length ≤ 256 := h.vsl
  have h4 : H.ws.length ≤ 64 := h.wsl
  have h5 : (H.os.map (·.1)).length ≤ 64 := h.osl
  rw [List.length_map] at h2 h5
  omega

theorem l_good {w : World} {H : WH} (hR : RdW w H) : Calls Try.prog 3 #[.agg (wdc H).toArray] w fun e w' => ∃ v, e = .returned v ∧ (v = .bool true ∧ At w No [] w') := by
  refine body_in (n := 15) (l := [.agg (wdc H).toArray]) en3 rfl Try.ntmps3 rfl ?_
  have hA := At.refl w
  refine W_seq ?_
  refine W_reg ?_ -- 0 law.go:25
  refine o_box hA (by conv => lhs; whnf) rfl (fun b1 w1 hA => ?_)
  refine o_assign (v := .bool _) rfl ?_
  refine O_end ?_
  refine W_seq ?_
  refine W_drawA hA [2, 5, 7] mix rfl rfl (fun w0_1 hA => ?_) -- 1 law.go:26
  refine D_run 0 (by kernel_rfl) rfl rfl ?_
  refine O_calls en8 rfl c_awake (fun v2 w2 hC => ?_)
  obtain ⟨rfl, hC⟩ := hC
  have hA := (hA.after hC).take
  refine O_end ⟨fun _ _ => hA, ?_⟩
  refine D_take 1 rfl (by kernel_rfl) (by rintro _ _ _ ⟨h, _⟩; cases h) rfl (fun h => by cases h) (fun w hA => r_move (v := .bool _) rfl) ?_
  refine D_take_yes 2 rfl (by kernel_rfl) (by rintro _ _ _ ⟨h, _⟩; cases h) rfl (fun _ => hA) rfl rfl rfl (fun w hA => r_loadN ag29 ti29 rfl rfl ((hA rfl).cs (i := 0) (o := 0) (s := 8) (ds := [_, _, _, _, _, _, _, _]) rfl rfl)) ?_
  refine D_run 3 (by kernel_rfl) rfl rfl ?_
  refine O_yes rfl rfl rfl ?_
  refine O_callb en9 rfl (c_large (H := H) (hR.old hA)) (fun w3 hC h => ?_) (fun w3 hC h => ?_)
  · -- True
    have hA := (hA.after hC).take
    have q6 := h
    refine O_end ⟨fun _ _ => hA, ?_⟩
    refine D_take_yes 4 rfl (by kernel_rfl) (by rintro _ _ _ ⟨h, _⟩; cases h) rfl (fun h => by cases h) rfl rfl rfl (fun w hA => r_move (v := .bool _) rfl) ?_
    refine D_take_no 5 rfl (by kernel_rfl) (by rintro _ _ _ ⟨h, _⟩; cases h) rfl (fun _ => hA) rfl rfl rfl rfl ?_
    refine D_take_no 6 rfl (by kernel_rfl) (by rintro _ _ _ ⟨h, _⟩; cases h) rfl (fun h => by cases h) rfl rfl rfl rfl ?_
    refine D_take_no 7 rfl (by kernel_rfl) (by rintro _ _ _ ⟨h, _⟩; cases h) rfl (fun _ => hA) rfl rfl rfl rfl ?_
    refine D_take_no 8 rfl (by kernel_rfl) (by rintro _ _ _ ⟨h, _⟩; cases h) rfl (fun h => by cases h) rfl rfl rfl rfl ?_
    refine D_take_no 9 rfl (by kernel_rfl) (by rintro _ _ _ ⟨h, _⟩; cases h) rfl (fun h => by cases h) rfl rfl rfl rfl ?_
    refine D_take_yes 10 rfl (by kernel_rfl) (by rintro _ _ _ ⟨h, _⟩; cases h) rfl (fun h => by cases h) rfl rfl rfl (fun w hA => r_pick_t rfl (v := .bool _) rfl) ?_
    refine D_take 11 rfl (by kernel_rfl) (by rintro _ _ _ ⟨h, _⟩; cases h) rfl (fun h => by cases h) (fun w hA => r_pick_t rfl (v := .bool _) rfl) ?_
    refine D_take 12 rfl (by kernel_rfl) (by rintro _ _ _ ⟨h, _⟩; cases h) rfl (fun h => by cases h) (fun w hA => r_assign (v := .bool _) rfl) ?_
    refine D_done (by kernel_rfl) ?_
    refine W_ret ?_
    refine ⟨rfl, ?_⟩
    refine ret1 Try.results3 (v := .bool _) rfl ?_
    exact ⟨rfl, hA.clear⟩
  · -- False
    have hA := (hA.after hC).take
    have hlen := large_small h
    have q6 := h
    refine O_end ⟨fun _ _ => hA, ?_⟩
    refine D_take_yes 4 rfl (by kernel_rfl) (by rintro _ _ _ ⟨h, _⟩; cases h) rfl (fun h => by cases h) rfl rfl rfl (fun w hA => r_move (v := .bool _) rfl) ?_
    refine D_take_yes 5 rfl (by kernel_rfl) (by rintro _ _ _ ⟨h, _⟩; cases h) rfl (fun _ => hA) rfl rfl rfl (fun w hA => r_loadN ag29 ti29 rfl rfl ((hA rfl).cs (i := 0) (o := 0) (s := 8) (ds := [_, _, _, _, _, _, _, _]) rfl rfl)) ?_
    refine D_take_yes 7 rfl (by kernel_rfl) (by rintro _ _ _ ⟨h, _⟩; cases h) rfl (fun _ => hA) rfl rfl rfl (fun w hA => r_loadN ag29 ti29 rfl rfl ((hA rfl).cs (i := 0) (o := 0) (s := 8) (ds := [_, _, _, _, _, _, _, _]) rfl rfl)) ?_
    refine D_run 6 (by kernel_rfl) rfl rfl ?_
    refine O_yes rfl rfl rfl ?_
    refine O_calls en10 rfl (w_Good (H := H) (hR.old hA) hR.small.five) (fun v4 w4 hC => ?_)
    obtain ⟨rfl, hC⟩ := hC
    have hA := (hA.after hC).take
    refine O_end ⟨fun _ _ => hA, ?_⟩
    refine D_run 8 (by kernel_rfl) rfl rfl ?_
    refine O_yes rfl rfl rfl ?_
    refine O_calls en11 rfl (q_GoodP (H := H) (hR.old hA) hlen) (fun v5 w5 hC => ?_)
    obtain ⟨rfl, hC⟩ := hC
    have hA := (hA.after hC).take
    refine O_end ⟨fun _ _ => hA, ?_⟩
    refine D_take_yes 9 rfl (by kernel_rfl) (by rintro _ _ _ ⟨h, _⟩; cases h) rfl (fun h => by cases h) rfl rfl rfl (fun w hA => r_eqb Try.underlying4 rfl rfl (.inl ⟨rfl, rfl⟩)) ?_
    refine D_take_yes 10 rfl (by kernel_rfl) (by rintro _ _ _ ⟨h, _⟩; cases h) rfl (fun h => by cases h) rfl rfl rfl (fun w hA => r_pick_f rfl (v := .bool _) rfl) ?_
    refine D_take 11 rfl (by kernel_rfl) (by rintro _ _ _ ⟨h, _⟩; cases h) rfl (fun h => by cases h) (fun w hA => r_pick_t rfl (v := .bool _) rfl) ?_
    refine D_take 12 rfl (by kernel_rfl) (by rintro _ _ _ ⟨h, _⟩; cases h) rfl (fun h => by cases h) (fun w hA => r_assign (v := .bool _) rfl) ?_
    refine D_done (by kernel_rfl) ?_
    refine W_ret ?_
    refine ⟨rfl, ?_⟩
    refine ret1 Try.results3 (v := .bool _) rfl ?_
    exact ⟨by rw [beq_self_eq_true], hA.clear⟩

theorem l_writes {w : World} {H : WH} (hR : RdW w H) (hK : Kinds H.x) : Calls Try.prog 4 #[.agg (wdc H).toArray] w fun e w' => ∃ v, e = .returned v ∧ (v = .bool true ∧ At w No [] w') := by
  refine body_in (n := 60) (l := [.agg (wdc H).toArray]) en4 rfl Try.ntmps4 rfl ?_
  have hA := At.refl w
  refine W_seq ?_
  refine W_reg ?_ -- 0 law.go:30
  refine o_box hA (by conv => lhs; whnf) rfl (fun b1 w1 hA => ?_)
  refine o_assign (v := .bool _) rfl ?_
  refine O_end ?_
  refine W_seq ?_
  refine W_seq ?_
  refine W_reg ?_ -- 1 law.go:31
  refine o_loadN ag29 ti29 rfl rfl (hA.cs (i := 0) (o := 0) (s := 8) (ds := [_, _, _, _, _, _, _, _]) rfl rfl) ?_
  refine O_callb en9 rfl (c_large (H := H) (hR.old hA)) (fun w2 hC h => ?_) (fun w2 hC h => ?_)
  · -- True
    have hA := (hA.after hC).take
    have q8 := h
    refine O_end ?_
    refine W_then rfl ?_
    refine W_seq ?_
    refine W_reg ?_ -- 2 law.go:32
    refine O_calls en8 rfl c_awake (fun v3 w3 hC => ?_)
    obtain ⟨rfl, hC⟩ := hC
    have hA := (hA.after hC).take
    refine o_assign (v := .bool _) rfl ?_
    refine O_end ?_
    refine W_ret ?_
    refine ⟨rfl, ?_⟩
    refine ret1 Try.results4 (v := .bool _) rfl ?_
    exact ⟨rfl, hA.clear⟩
  · -- False
    have hA := (hA.after hC).take
    have hlen := large_small h
    have q8 := h
    refine O_end ?_
    refine W_else rfl ?_
    refine W_skip ?_
    refine W_seq ?_
    refine W_reg ?_ -- 3 law.go:34
    refine o_loadN ag29 ti29 rfl rfl (hA.cs (i := 0) (o := 0) (s := 8) (ds := [_, _, _, _, _, _, _, _]) rfl rfl) ?_
    refine O_calls en12 rfl (w_EncodeU (H := H) (hR.old hA) hK) (fun v4 w4 hC => ?_)
    obtain ⟨sA, sm, sc, rfl, hE⟩ := hC
    have hA := hA.after hE
    clear hE
    refine o_move (by conv => lhs; whnf) ?_
    refine o_extract rfl rfl ?_
    refine o_extract rfl rfl ?_
    refine o_assign (by conv => lhs; whnf) ?_
    refine o_assign (v := .int _ _) rfl ?_
    refine O_end ?_
    refine W_seq ?_
    refine W_seq ?_
    refine W_reg ?_ -- 4 law.go:35
    refine o_loadN ag29 ti29 rfl rfl (hA.cs (i := 0) (o := 0) (s := 8) (ds := [_, _, _, _, _, _, _, _]) rfl rfl) ?_
    refine O_callb en11 rfl (q_GoodP (H := H) (hR.old hA) hlen) (fun w5 hC h => ?_) (fun w5 hC h => ?_)
    · -- True
      have hA := (hA.after hC).take
      have hgd : goodP H.x = true := h
      have heb : encB H.x = encP H.x := by unfold encB; rw [if_pos hgd]
      have hee : encE H.x = 0 := by unfold encE; rw [if_pos hgd]
      have hstr : (⟨(encB H.x).toArray⟩ : ByteArray) = ⟨(textP H.x ++ leN (refC (textP H.x)) 4).toArray⟩ := by rw [heb, sealed_eq]
      have q16 := h
      refine o_not rfl ?_
      refine O_end ?_
      refine W_else rfl ?_
      refine W_skip ?_
      refine W_seq ?_
      refine W_reg ?_ -- 6 law.go:38
      refine o_move (by conv => lhs; whnf) ?_
      refine O_calls en13 rfl (w_DecodeU (l := encB H.x) (hA.rd 1 rfl)) (fun v6 w6 hC => ?_)
      obtain ⟨B, rfl, hBx, hE⟩ := hC
      have hA := hA.after hE
      clear hE
      have hBH : B.x = H.x := by rw [hBx]; unfold decB; rw [heb, if_pos (dec_enc hgd hK.ink).1]; exact (dec_enc hgd hK.ink).2
      have hdE : decE (encB H.x) = 0 := by unfold decE; rw [heb, if_pos (dec_enc hgd hK.ink).1]
      refine o_move (by conv => lhs; whnf) ?_
      refine o_extract rfl rfl ?_
      refine o_extract rfl rfl ?_
      refine o_alloc hA ti29 rfl (fun b7 w7 hA => ?_)
      refine o_store (cs' := [_, _, _, _, _, _, _, _]) (i := 0) hA rfl (by conv => lhs; whnf) rfl ti29 rfl rfl rfl rfl (fun w8 hA => ?_)
      refine o_assign (v := .int _ _) rfl ?_
      refine O_end ?_
      refine W_seq ?_
      refine W_drawA hA [7, 8, 18, 19, 23, 24] mix rfl rfl (fun w0_7 hA => ?_) -- 7 law.go:39
      refine D_run 0 (by kernel_rfl) rfl rfl ?_
      refine O_calls en8 rfl c_awake (fun v9 w9 hC => ?_)
      obtain ⟨rfl, hC⟩ := hC
      have hA := (hA.after hC).take
      refine O_end ⟨fun _ _ => hA, ?_⟩
      refine D_take 1 rfl (by kernel_rfl) (by rintro _ _ _ ⟨h, _⟩; cases h) rfl (fun h => by cases h) (fun w hA => r_move (v := .bool _) rfl) ?_
      refine D_take_yes 2 rfl (by kernel_rfl) (by rintro _ _ _ ⟨h, _⟩; cases h) rfl (fun h => by cases h) rfl rfl rfl (fun w hA => r_move (v := .int _ _) rfl) ?_
      refine D_takeb_yes 3 rfl (by kernel_rfl) (by rintro _ _ _ ⟨h, _⟩; cases h) rfl (fun h => by cases h) rfl rfl rfl (fun w hA => r_cmp rfl rfl rfl) (fun h => ?_) (fun h => (by first | exact absurd h (by decide) | (exfalso; simp at h; omega) | (exfalso; simp at h)))
      have q36 := beq_iff_eq.1 h
      refine D_take 4 rfl (by kernel_rfl) (by rintro _ _ _ ⟨h, _⟩; cases h) rfl (fun h => by cases h) (fun w hA => r_pick_t rfl (v := .bool _) rfl) ?_
      refine D_take 5 rfl (by kernel_rfl) (by rintro _ _ _ ⟨h, _⟩; cases h) rfl (fun h => by cases h) (fun w hA => r_move (v := .bool _) rfl) ?_
      refine D_take_yes 6 rfl (by kernel_rfl) (by rintro _ _ _ ⟨h, _⟩; cases h) rfl (fun h => by cases h) rfl rfl rfl (fun w hA => r_move (by conv => lhs; whnf)) ?_
      refine D_take_yes 7 rfl (by kernel_rfl) (by rintro _ _ _ ⟨h, _⟩; cases h) rfl (fun _ => hA) rfl rfl rfl (fun w hA => r_toString Try.underlying32 Try.underlying5 Try.underlying9 rfl ((hA rfl).rd 2 rfl)) ?_
      refine D_take_yes 8 rfl (by kernel_rfl) (by rintro _ _ _ ⟨h, _⟩; cases h) rfl (fun _ => hA) rfl rfl rfl (fun w hA => r_loadN ag29 ti29 rfl rfl ((hA rfl).cs (i := 1) (o := 0) (s := 8) (ds := [_, _, _, _, _, _, _, _]) rfl rfl)) ?_
      refine D_run 9 (by kernel_rfl) rfl rfl ?_
      refine O_yes rfl rfl rfl ?_
      refine O_calls en15 rfl (q_text (H := H) (hR.old hA) hK (good_fit hgd) hlen) (fun v10 w10 hC => ?_)
      obtain ⟨rfl, hC⟩ := hC
      have hA := (hA.after hC).take
      refine O_end ⟨fun _ _ => hA, ?_⟩
      refine D_run 10 (by kernel_rfl) rfl rfl ?_
      refine O_yes rfl rfl rfl ?_
      refine O_calls en14 rfl (q_sealed (l := textP H.x) (Nat.le_trans (text_len (good_fit hgd)) (by decide))) (fun v11 w11 hC => ?_)
      obtain ⟨rfl, hC⟩ := hC
      have hA := (hA.after hC).take
      refine O_end ⟨fun _ _ => hA, ?_⟩
      refine D_takeb_yes 11 rfl (by kernel_rfl) (by rintro _ _ _ ⟨h, _⟩; cases h) rfl (fun h => by cases h) rfl rfl rfl (fun w hA => r_eqs rfl rfl (.inl ⟨rfl, rfl⟩)) (fun h => ?_) (fun h => (by rw [decide_eq_false_iff_not] at h; exact absurd hstr h))
      have q44 := h
      refine D_take 12 rfl (by kernel_rfl) (by rintro _ _ _ ⟨h, _⟩; cases h) rfl (fun h => by cases h) (fun w hA => r_pick_t rfl (v := .bool _) rfl) ?_
      refine D_take 13 rfl (by kernel_rfl) (by rintro _ _ _ ⟨h, _⟩; cases h) rfl (fun h => by cases h) (fun w hA => r_move (v := .bool _) rfl) ?_
      refine D_take_yes 14 rfl (by kernel_rfl) (by rintro _ _ _ ⟨h, _⟩; cases h) rfl (fun h => by cases h) rfl rfl rfl (fun w hA => r_move (v := .int _ _) rfl) ?_
      refine D_takeb_yes 15 rfl (by kernel_rfl) (by rintro _ _ _ ⟨h, _⟩; cases h) rfl (fun h => by cases h) rfl rfl rfl (fun w hA => r_cmp rfl rfl rfl) (fun h => ?_) (fun h => (by first | exact absurd h (by decide) | (exfalso; simp at h; omega) | (exfalso; simp at h)))
      have q48 := beq_iff_eq.1 h
      refine D_take 16 rfl (by kernel_rfl) (by rintro _ _ _ ⟨h, _⟩; cases h) rfl (fun h => by cases h) (fun w hA => r_pick_t rfl (v := .bool _) rfl) ?_
      refine D_take 17 rfl (by kernel_rfl) (by rintro _ _ _ ⟨h, _⟩; cases h) rfl (fun h => by cases h) (fun w hA => r_move (v := .bool _) rfl) ?_
      refine D_take_yes 18 rfl (by kernel_rfl) (by rintro _ _ _ ⟨h, _⟩; cases h) rfl (fun _ => hA) rfl rfl rfl (fun w hA => r_loadN ag29 ti29 rfl rfl ((hA rfl).cs (i := 0) (o := 0) (s := 8) (ds := [_, _, _, _, _, _, _, _]) rfl rfl)) ?_
      refine D_take_yes 19 rfl (by kernel_rfl) (by rintro _ _ _ ⟨h, _⟩; cases h) rfl (fun _ => hA) rfl rfl rfl (fun w hA => r_loadN ag29 ti29 rfl rfl ((hA rfl).cs (i := 1) (o := 0) (s := 8) (ds := [_, _, _, _, _, _, _, _]) rfl rfl)) ?_
      refine D_run 20 (by kernel_rfl) rfl rfl ?_
      refine O_yes rfl rfl rfl ?_
      refine O_calls en16 rfl (q_Same (H := B) (K := H) (RdW.of_mem hA (h := B) (fun c hc => List.mem_cons_of_mem _ (List.mem_cons_of_mem _ (List.mem_cons_of_mem _ (hc))))) (hR.old hA) (RdW.small (RdW.of_mem hA (h := B) (fun c hc => List.mem_cons_of_mem _ (List.mem_cons_of_mem _ (List.mem_cons_of_mem _ (hc)))))) (RdW.small (hR.old hA))) (fun v12 w12 hC => ?_)
      obtain ⟨tb, rfl, hq, hE⟩ := hC
      obtain rfl : tb = true := hq.2 (hBH)
      have hA := (hA.after hE).take
      refine O_end ⟨fun _ _ => hA, ?_⟩
      refine D_take 21 rfl (by kernel_rfl) (by rintro _ _ _ ⟨h, _⟩; cases h) rfl (fun h => by cases h) (fun w hA => r_pick_t rfl (v := .bool _) rfl) ?_
      refine D_take 22 rfl (by kernel_rfl) (by rintro _ _ _ ⟨h, _⟩; cases h) rfl (fun h => by cases h) (fun w hA => r_move (v := .bool _) rfl) ?_
      refine D_take_yes 23 rfl (by kernel_rfl) (by rintro _ _ _ ⟨h, _⟩; cases h) rfl (fun _ => hA) rfl rfl rfl (fun w hA => r_loadN ag29 ti29 rfl rfl ((hA rfl).cs (i := 0) (o := 0) (s := 8) (ds := [_, _, _, _, _, _, _, _]) rfl rfl)) ?_
      refine D_take_yes 24 rfl (by kernel_rfl) (by rintro _ _ _ ⟨h, _⟩; cases h) rfl (fun _ => hA) rfl rfl rfl (fun w hA => r_loadN ag29 ti29 rfl rfl ((hA rfl).cs (i := 1) (o := 0) (s := 8) (ds := [_, _, _, _, _, _, _, _]) rfl rfl)) ?_
      refine D_run 25 (by kernel_rfl) rfl rfl ?_
      refine O_yes rfl rfl rfl ?_
      refine O_calls en17 rfl (w_Same (H := B) (K := H) (RdW.of_mem hA (h := B) (fun c hc => List.mem_cons_of_mem _ (List.mem_cons_of_mem _ (List.mem_cons_of_mem _ (hc))))) (hR.old hA) (RdW.small (RdW.of_mem hA (h := B) (fun c hc => List.mem_cons_of_mem _ (List.mem_cons_of_mem _ (List.mem_cons_of_mem _ (hc)))))) (RdW.small (hR.old hA))) (fun v13 w13 hC => ?_)
      obtain ⟨tb, rfl, hq, hE⟩ := hC
      obtain rfl : tb = true := hq.2 (hBH)
      have hA := (hA.after hE).take
      refine O_end ⟨fun _ _ => hA, ?_⟩
      refine D_take 26 rfl (by kernel_rfl) (by rintro _ _ _ ⟨h, _⟩; cases h) rfl (fun h => by cases h) (fun w hA => r_pick_t rfl (v := .bool _) rfl) ?_
      refine D_take 27 rfl (by kernel_rfl) (by rintro _ _ _ ⟨h, _⟩; cases h) rfl (fun h => by cases h) (fun w hA => r_assign (v := .bool _) rfl) ?_
      refine D_done (by kernel_rfl) ?_
      refine W_ret ?_
      refine ⟨rfl, ?_⟩
      refine ret1 Try.results4 (v := .bool _) rfl ?_
      exact ⟨rfl, hA.clear⟩
    · -- False
      have hA := (hA.after hC).take
      have heb : encB H.x = [] := by unfold encB; rw [h]; rfl
      have hee : encE H.x = 2 := by unfold encE; rw [h]; rfl
      rw [heb] at hA
      have hsm : sm = 0 := u8l_rd (hA.rd 1 rfl)
      have q16 := h
      refine o_not rfl ?_
      refine O_end ?_
      refine W_then rfl ?_
      refine W_seq ?_
      refine W_reg ?_ -- 5 law.go:36
      refine O_calls en8 rfl c_awake (fun v14 w14 hC => ?_)
      obtain ⟨rfl, hC⟩ := hC
      have hA := (hA.after hC).take
      refine o_move (v := .bool _) rfl ?_
      refine O_yes rfl rfl rfl ?_
      refine o_move (v := .int _ _) rfl ?_
      refine O_yes rfl rfl rfl ?_
      refine o_cmp2 rfl rfl rfl (fun h => ?_) (fun h => (by first | exact absurd h (by decide) | (exfalso; simp at h; omega) | (exfalso; simp at h)))
      have q21 := beq_iff_eq.1 h
      refine o_pick_t rfl (v := .bool _) rfl ?_
      refine o_move (v := .bool _) rfl ?_
      refine O_yes rfl rfl rfl ?_
      refine o_move (by conv => lhs; whnf) ?_
      refine O_yes rfl rfl rfl ?_
      refine o_len Try.underlying32 rfl ?_
      refine O_yes rfl rfl rfl ?_
      refine o_cmp rfl rfl rfl ?_
      refine o_pick_t rfl (v := .bool _) rfl ?_
      refine o_assign (v := .bool _) rfl ?_
      refine O_end ?_
      refine W_ret ?_
      refine ⟨rfl, ?_⟩
      refine ret1 Try.results4 (v := .bool _) rfl ?_
      exact ⟨by rw [hsm]; rfl, hA.clear⟩

end Go.Proofs.Ytbcaooiphalkoaa
