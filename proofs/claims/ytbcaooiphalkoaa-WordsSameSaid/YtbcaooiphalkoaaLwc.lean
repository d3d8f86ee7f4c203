/-
  Words: what is read.
-/
import Derived.Test.YtbcaooiphalkoaaLwb
set_option linter.unusedVariables false
set_option linter.unusedSimpArgs false
namespace Go.Proofs.Ytbcaooiphalkoaa
open Go Go.RowKit

theorem Ps.num_lt8 (p : Ps) : p.num 8 < 18446744073709551616 := Nat.lt_of_lt_of_le (leV_lt _) (show 2 ^ (8 * (p.t.tk 8).length) ≤ 2 ^ 64 from Nat.pow_le_pow_right (by decide) (by have := Es.tk_len p.t 8; omega))
theorem rep_all {α : Type} {stp : Ps → α × Ps} {V : α → Prop} (h : ∀ p, V (stp p).1) (p : Ps) : ∀ k, ∀ x ∈ (pRep stp p k).1, V x
  | 0, x, hx => by cases hx
  | k + 1, x, hx => by
    have hx' : x ∈ (pRep stp p k).1 ++ [(stp (pRep stp p k).2).1] := hx
    rcases List.mem_append.1 hx' with h1 | h1
    · exact rep_all h p k x h1
    · rw [List.mem_singleton.1 h1]; exact h _
theorem list_all {α : Type} {stp : Ps → α × Ps} {V : α → Prop} (h : ∀ p, V (stp p).1) (p : Ps) : ∀ x ∈ (pList stp p).1, V x := rep_all h _ _
theorem dC_all (l : List UInt8) : ∀ y ∈ (dC l).1, -9223372036854775808 ≤ y.w ∧ y.w ≤ 9223372036854775807 ∧ y.l < 18446744073709551616 ∧ y.k < 18446744073709551616 := by
  unfold dC
  refine list_all (V := fun y : Cd => -9223372036854775808 ≤ y.w ∧ y.w ≤ 9223372036854775807 ∧ y.l < 18446744073709551616 ∧ y.k < 18446744073709551616) (fun p => ?_) _
  have h1 := p.num_lt
  have h2 := (p.nx 4).num_lt8
  have h3 := ((p.nx 4).nx 8).num_lt8
  unfold pCard
  dsimp only
  omega
theorem dP_all (l : List UInt8) : ∀ y ∈ (dP l).1, -9223372036854775808 ≤ y.f ∧ y.f ≤ 9223372036854775807 ∧ -9223372036854775808 ≤ y.t ∧ y.t ≤ 9223372036854775807 := by
  unfold dP
  refine list_all (V := fun y : Pp => -9223372036854775808 ≤ y.f ∧ y.f ≤ 9223372036854775807 ∧ -9223372036854775808 ≤ y.t ∧ y.t ≤ 9223372036854775807) (fun p => ?_) _
  have h1 := p.num_lt
  have h2 := (p.nx 4).num_lt
  unfold pParcel
  dsimp only
  omega
theorem dV_all (l : List UInt8) : ∀ n ∈ (dV l).1, n < 4294967296 := by
  unfold dV
  exact list_all (V := fun n : Nat => n < 4294967296) (fun p => p.num_lt) _
theorem dN_all (l : List UInt8) : ∀ y ∈ (dN l).1, -9223372036854775808 ≤ y ∧ y ≤ 9223372036854775807 := by
  unfold dN
  refine list_all (V := fun y : Int => -9223372036854775808 ≤ y ∧ y ≤ 9223372036854775807) (fun p => ?_) _
  have h1 := p.num_lt
  unfold pSmall
  dsimp only
  omega
theorem greats_all (p : Ps) : ∀ n ∈ (pList pGreat p).1, n < 18446744073709551616 := list_all (V := fun n : Nat => n < 18446744073709551616) (fun q => q.num_lt8) p
theorem dO_all (l : List UInt8) : ∀ y ∈ (dO l).1, -9223372036854775808 ≤ y.w ∧ y.w ≤ 9223372036854775807 ∧ ∀ n ∈ y.v, n < 18446744073709551616 := by
  unfold dO
  refine list_all (V := fun y : Oo => -9223372036854775808 ≤ y.w ∧ y.w ≤ 9223372036854775807 ∧ ∀ n ∈ y.v, n < 18446744073709551616) (fun p => ?_) _
  have h1 := p.num_lt
  have h2 := greats_all (pOpen0 p)
  unfold pOpen
  dsimp only
  exact ⟨by omega, by omega, h2⟩
theorem decW_kinds (l : List UInt8) : Kinds (decW l) := by
  have h1 := (dS0 l).num_lt
  have h2 := ((dS0 l).nx 4).num_lt
  have h3 := (((dS0 l).nx 4).nx 4).num_lt
  have hc := dC_all l; have hp := dP_all l; have hv := dV_all l; have hn := dN_all l; have ho := dO_all l
  have k1 : ∀ n : Nat, n < 4294967296 → -9223372036854775808 ≤ (n : Int) ∧ (n : Int) ≤ 9223372036854775807 := fun n h => by clear h1 h2 h3 hc hp hv hn ho; omega
  have kk := k1 _ h1
  have kf := k1 _ h2
  have ky := k1 _ h3
  clear h1 h2 h3
  unfold decW
  refine ⟨?_, ?_, ?_, ?_, ?_, ?_, ?_, ?_⟩
  · dsimp only; exact kk
  · dsimp only; exact kf
  · dsimp only; exact ky
  · dsimp only; exact hc
  · dsimp only; exact hp
  · dsimp only; exact hv
  · dsimp only; exact hn
  · dsimp only; exact ho
theorem zero_small : Small zeroH := ⟨by decide, by decide, by decide, by decide, by decide, fun x hx => (by cases hx), fun x hx => (by cases hx)⟩
theorem decE_zero {l : List UInt8} (h : decE l = 0) : decOk l = true := by
  by_cases hd : decOk l = true
  · exact hd
  · unfold decE at h
    rw [if_neg hd] at h
    exact absurd h (by decide)
theorem decE_two {l : List UInt8} (h : decE l ≠ 0) : decE l = 2 ∧ decB l = zeroH.x := by
  by_cases hd : decOk l = true
  · unfold decE at h
    rw [if_pos hd] at h
    exact absurd rfl h
  · unfold decE decB
    rw [if_neg hd, if_neg hd]; exact ⟨rfl, rfl⟩
theorem encE_zero {x : Wd} (h : encE x = 0) : goodP x = true := by
  unfold encE at h
  split at h
  · assumption
  · cases h

theorem l_reads {w : World} {A : Option Addr} {m c : Nat} {l : List UInt8} (hR : Rd w 1 (.slice A m c) (u8l l)) : Calls Try.prog 5 #[.slice A m c] w fun e w' => ∃ v, e = .returned v ∧ (v = .bool true ∧ At w No [] w') := by
  refine body_in (n := 35) (l := [.slice A m c]) en5 rfl Try.ntmps5 rfl ?_
  have hA := At.refl w
  refine W_seq ?_
  refine W_reg ?_ -- 0 law.go:43
  refine o_assign (v := .bool _) rfl ?_
  refine O_end ?_
  refine W_seq ?_
  refine W_reg ?_ -- 1 law.go:44
  refine o_move (by conv => lhs; whnf) ?_
  refine O_calls en13 rfl (w_DecodeU (l := l) (hR.old hA)) (fun v1 w1 hC => ?_)
  obtain ⟨B, rfl, hBx, hE⟩ := hC
  have hA := hA.after hE
  clear hE
  refine o_move (by conv => lhs; whnf) ?_
  refine o_extract rfl rfl ?_
  refine o_extract rfl rfl ?_
  refine o_alloc hA ti29 rfl (fun b2 w2 hA => ?_)
  refine o_store (cs' := [_, _, _, _, _, _, _, _]) (i := 0) hA rfl (by conv => lhs; whnf) rfl ti29 rfl rfl rfl rfl (fun w3 hA => ?_)
  refine o_assign (v := .int _ _) rfl ?_
  refine O_end ?_
  refine W_seq ?_
  refine W_seq ?_
  refine W_reg ?_ -- 2 law.go:45
  refine o_move (v := .int _ _) rfl ?_
  refine o_cmp2 rfl rfl rfl (fun h => ?_) (fun h => ?_)
  · -- True
    have q11 := bne_iff_ne.1 h
    have hdz := decE_two (l := l) q11
    have hd2 := hdz.1
    refine O_end ?_
    refine W_then rfl ?_
    refine W_seq ?_
    refine W_reg ?_ -- 3 law.go:46
    refine O_calls en8 rfl c_awake (fun v4 w4 hC => ?_)
    obtain ⟨rfl, hC⟩ := hC
    have hA := (hA.after hC).take
    refine o_move (v := .bool _) rfl ?_
    refine O_yes rfl rfl rfl ?_
    refine o_move (v := .int _ _) rfl ?_
    refine O_yes rfl rfl rfl ?_
    refine o_cmp2 rfl rfl rfl (fun h => ?_) (fun h => (by first | exact absurd h (by decide) | (exfalso; simp at h; omega) | (exfalso; simp at h)))
    have q15 := beq_iff_eq.1 h
    refine o_pick_t rfl (v := .bool _) rfl ?_
    refine o_move (v := .bool _) rfl ?_
    refine O_yes rfl rfl rfl ?_
    refine o_loadN ag29 ti29 rfl rfl (hA.cs (i := 0) (o := 0) (s := 8) (ds := [_, _, _, _, _, _, _, _]) rfl rfl) ?_
    refine O_yes rfl rfl rfl ?_
    refine o_build la29 rfl rfl ?_
    refine O_yes rfl rfl rfl ?_
    refine O_calls en16 rfl (q_Same (H := B) (K := zeroH) (RdW.of_mem hA (h := B) (fun c hc => List.mem_cons_of_mem _ (hc))) (zero_rd _) (RdW.small (RdW.of_mem hA (h := B) (fun c hc => List.mem_cons_of_mem _ (hc)))) zero_small) (fun v5 w5 hC => ?_)
    obtain ⟨tb, rfl, hq, hE⟩ := hC
    obtain rfl : tb = true := hq.2 (hBx.trans hdz.2)
    have hA := (hA.after hE).take
    refine o_pick_t rfl (v := .bool _) rfl ?_
    refine o_assign (v := .bool _) rfl ?_
    refine O_end ?_
    refine W_ret ?_
    refine ⟨rfl, ?_⟩
    refine ret1 Try.results5 (v := .bool _) rfl ?_
    exact ⟨rfl, hA.clear⟩
  · -- False
    have q11 := bne_eq_false_iff_eq.1 h
    have hok := decE_zero (l := l) q11
    have hBd : B.x = decW l := by rw [hBx]; unfold decB; rw [if_pos hok]
    have hbg : goodP B.x = true := by rw [hBd]; exact ((decOk_iff l).1 hok).2.2
    have hbk : Kinds B.x := by rw [hBd]; exact decW_kinds l
    have hstr : (⟨(textP B.x ++ leN (refC (textP B.x)) 4).toArray⟩ : ByteArray) = ⟨l.toArray⟩ := by rw [sealed_eq, hBd, ← enc_dec hok]
    refine O_end ?_
    refine W_else rfl ?_
    refine W_skip ?_
    refine W_seq ?_
    refine W_drawA hA [2, 6, 10] mix rfl rfl (fun w0_4 hA => ?_) -- 4 law.go:48
    refine D_run 0 (by kernel_rfl) rfl rfl ?_
    refine O_calls en8 rfl c_awake (fun v6 w6 hC => ?_)
    obtain ⟨rfl, hC⟩ := hC
    have hA := (hA.after hC).take
    refine O_end ⟨fun _ _ => hA, ?_⟩
    refine D_take 1 rfl (by kernel_rfl) (by rintro _ _ _ ⟨h, _⟩; cases h) rfl (fun h => by cases h) (fun w hA => r_move (v := .bool _) rfl) ?_
    refine D_take_yes 2 rfl (by kernel_rfl) (by rintro _ _ _ ⟨h, _⟩; cases h) rfl (fun _ => hA) rfl rfl rfl (fun w hA => r_loadN ag29 ti29 rfl rfl ((hA rfl).cs (i := 0) (o := 0) (s := 8) (ds := [_, _, _, _, _, _, _, _]) rfl rfl)) ?_
    refine D_run 3 (by kernel_rfl) rfl rfl ?_
    refine O_yes rfl rfl rfl ?_
    refine O_calls en11 rfl (q_GoodP (H := B) (RdW.of_mem hA (h := B) (fun c hc => List.mem_cons_of_mem _ (hc))) (fit_five (good_fit hbg))) (fun v7 w7 hC => ?_)
    obtain ⟨rfl, hC⟩ := hC
    rw [hbg]
    have hA := (hA.after hC).take
    refine O_end ⟨fun _ _ => hA, ?_⟩
    refine D_take 4 rfl (by kernel_rfl) (by rintro _ _ _ ⟨h, _⟩; cases h) rfl (fun h => by cases h) (fun w hA => r_pick_t rfl (v := .bool _) rfl) ?_
    refine D_take 5 rfl (by kernel_rfl) (by rintro _ _ _ ⟨h, _⟩; cases h) rfl (fun h => by cases h) (fun w hA => r_move (v := .bool _) rfl) ?_
    refine D_take_yes 6 rfl (by kernel_rfl) (by rintro _ _ _ ⟨h, _⟩; cases h) rfl (fun _ => hA) rfl rfl rfl (fun w hA => r_loadN ag29 ti29 rfl rfl ((hA rfl).cs (i := 0) (o := 0) (s := 8) (ds := [_, _, _, _, _, _, _, _]) rfl rfl)) ?_
    refine D_take_yes 9 rfl (by kernel_rfl) (by rintro _ _ _ ⟨h, _⟩; cases h) rfl (fun h => by cases h) rfl rfl rfl (fun w hA => r_move (by conv => lhs; whnf)) ?_
    refine D_take_yes 10 rfl (by kernel_rfl) (by rintro _ _ _ ⟨h, _⟩; cases h) rfl (fun _ => hA) rfl rfl rfl (fun w hA => r_toString Try.underlying32 Try.underlying5 Try.underlying9 rfl (hR.old (hA rfl))) ?_
    refine D_run 7 (by kernel_rfl) rfl rfl ?_
    refine O_yes rfl rfl rfl ?_
    refine O_calls en15 rfl (q_text (H := B) (RdW.of_mem hA (h := B) (fun c hc => List.mem_cons_of_mem _ (hc))) hbk (good_fit hbg) (fit_five (good_fit hbg))) (fun v8 w8 hC => ?_)
    obtain ⟨rfl, hC⟩ := hC
    have hA := (hA.after hC).take
    refine O_end ⟨fun _ _ => hA, ?_⟩
    refine D_run 8 (by kernel_rfl) rfl rfl ?_
    refine O_yes rfl rfl rfl ?_
    refine O_calls en14 rfl (q_sealed (l := textP B.x) (Nat.le_trans (text_len (good_fit hbg)) (by decide))) (fun v9 w9 hC => ?_)
    obtain ⟨rfl, hC⟩ := hC
    have hA := (hA.after hC).take
    refine O_end ⟨fun _ _ => hA, ?_⟩
    refine D_take_yes 11 rfl (by kernel_rfl) (by rintro _ _ _ ⟨h, _⟩; cases h) rfl (fun h => by cases h) rfl rfl rfl (fun w hA => r_eqs rfl rfl (.inl ⟨rfl, rfl⟩)) ?_
    refine D_take 12 rfl (by kernel_rfl) (by rintro _ _ _ ⟨h, _⟩; cases h) rfl (fun h => by cases h) (fun w hA => r_pick_t rfl (v := .bool _) rfl) ?_
    refine D_take 13 rfl (by kernel_rfl) (by rintro _ _ _ ⟨h, _⟩; cases h) rfl (fun h => by cases h) (fun w hA => r_assign (v := .bool _) rfl) ?_
    refine D_done (by kernel_rfl) ?_
    refine W_ret ?_
    refine ⟨rfl, ?_⟩
    refine ret1 Try.results5 (v := .bool _) rfl ?_
    exact ⟨by rw [decide_eq_true hstr], hA.clear⟩

theorem l_same {w : World} {H K : WH} (hR1 : RdW w H) (hR2 : RdW w K) (hK1 : Kinds H.x) (hK2 : Kinds K.x) : Calls Try.prog 7 #[.agg (wdc H).toArray, .agg (wdc K).toArray] w fun e w' => ∃ v, e = .returned v ∧ (v = .bool true ∧ At w No [] w') := by
  refine body_in (n := 55) (l := [.agg (wdc H).toArray, .agg (wdc K).toArray]) en7 rfl Try.ntmps7 rfl ?_
  have hA := At.refl w
  refine W_seq ?_
  refine W_reg ?_ -- 0 law.go:64
  refine o_box hA (by conv => lhs; whnf) rfl (fun b1 w1 hA => ?_)
  refine o_box hA (by conv => lhs; whnf) rfl (fun b2 w2 hA => ?_)
  refine o_assign (v := .bool _) rfl ?_
  refine O_end ?_
  refine W_seq ?_
  refine W_seq ?_
  refine W_reg ?_ -- 1 law.go:65
  refine o_loadN ag29 ti29 rfl rfl (hA.cs (i := 1) (o := 0) (s := 8) (ds := [_, _, _, _, _, _, _, _]) rfl rfl) ?_
  refine O_callb en9 rfl (c_large (H := H) (hR1.old hA)) (fun w3 hC h => ?_) (fun w3 hC h => ?_)
  · -- True
    have hA := (hA.after hC).take
    have q11 := h
    refine o_move (v := .bool _) rfl ?_
    refine O_no rfl rfl rfl rfl ?_
    refine O_no rfl rfl rfl rfl ?_
    refine o_pick_t rfl (v := .bool _) rfl ?_
    refine O_end ?_
    refine W_then rfl ?_
    refine W_seq ?_
    refine W_reg ?_ -- 2 law.go:66
    refine O_calls en8 rfl c_awake (fun v4 w4 hC => ?_)
    obtain ⟨rfl, hC⟩ := hC
    have hA := (hA.after hC).take
    refine o_assign (v := .bool _) rfl ?_
    refine O_end ?_
    refine W_ret ?_
    refine ⟨rfl, ?_⟩
    refine ret1 Try.results7 (v := .bool _) rfl ?_
    exact ⟨rfl, hA.clear⟩
  · -- False
    have hA := (hA.after hC).take
    have q11 := h
    refine o_move (v := .bool _) rfl ?_
    refine O_yes rfl rfl rfl ?_
    refine o_loadN ag29 ti29 rfl rfl (hA.cs (i := 0) (o := 0) (s := 8) (ds := [_, _, _, _, _, _, _, _]) rfl rfl) ?_
    refine O_yes rfl rfl rfl ?_
    refine O_callb en9 rfl (c_large (H := K) (hR2.old hA)) (fun w5 hC h => ?_) (fun w5 hC h => ?_)
    · -- True
      have hA := (hA.after hC).take
      have q14 := h
      refine o_pick_f rfl (v := .bool _) rfl ?_
      refine O_end ?_
      refine W_then rfl ?_
      refine W_seq ?_
      refine W_reg ?_ -- 2 law.go:66
      refine O_calls en8 rfl c_awake (fun v6 w6 hC => ?_)
      obtain ⟨rfl, hC⟩ := hC
      have hA := (hA.after hC).take
      refine o_assign (v := .bool _) rfl ?_
      refine O_end ?_
      refine W_ret ?_
      refine ⟨rfl, ?_⟩
      refine ret1 Try.results7 (v := .bool _) rfl ?_
      exact ⟨rfl, hA.clear⟩
    · -- False
      have hA := (hA.after hC).take
      have q14 := h
      refine o_pick_f rfl (v := .bool _) rfl ?_
      refine O_end ?_
      refine W_else rfl ?_
      refine W_skip ?_
      refine W_seq ?_
      refine W_reg ?_ -- 3 law.go:68
      refine o_loadN ag29 ti29 rfl rfl (hA.cs (i := 1) (o := 0) (s := 8) (ds := [_, _, _, _, _, _, _, _]) rfl rfl) ?_
      refine o_loadN ag29 ti29 rfl rfl (hA.cs (i := 0) (o := 0) (s := 8) (ds := [_, _, _, _, _, _, _, _]) rfl rfl) ?_
      refine O_calls en16 rfl (q_Same (H := H) (K := K) (hR1.old hA) (hR2.old hA) hR1.small hR2.small) (fun v7 w7 hC => ?_)
      obtain ⟨tb, rfl, hqtb, hE⟩ := hC
      have hA := (hA.after hE).take
      refine o_assign (v := .bool _) rfl ?_
      refine O_end ?_
      refine W_seq ?_
      refine W_reg ?_ -- 4 law.go:69
      refine o_loadN ag29 ti29 rfl rfl (hA.cs (i := 1) (o := 0) (s := 8) (ds := [_, _, _, _, _, _, _, _]) rfl rfl) ?_
      refine O_calls en12 rfl (w_EncodeU (H := H) (hR1.old hA) hK1) (fun v8 w8 hC => ?_)
      obtain ⟨sA1, sm1, sc1, rfl, hE⟩ := hC
      have hA := hA.after hE
      clear hE
      refine o_move (by conv => lhs; whnf) ?_
      refine o_extract rfl rfl ?_
      refine o_extract rfl rfl ?_
      refine o_assign (by conv => lhs; whnf) ?_
      refine o_assign (v := .int _ _) rfl ?_
      refine O_end ?_
      refine W_seq ?_
      refine W_reg ?_ -- 5 law.go:70
      refine o_loadN ag29 ti29 rfl rfl (hA.cs (i := 0) (o := 0) (s := 8) (ds := [_, _, _, _, _, _, _, _]) rfl rfl) ?_
      refine O_calls en12 rfl (w_EncodeU (H := K) (hR2.old hA) hK2) (fun v9 w9 hC => ?_)
      obtain ⟨sA2, sm2, sc2, rfl, hE⟩ := hC
      have hA := hA.after hE
      clear hE
      refine o_move (by conv => lhs; whnf) ?_
      refine o_extract rfl rfl ?_
      refine o_extract rfl rfl ?_
      refine o_assign (by conv => lhs; whnf) ?_
      refine o_assign (v := .int _ _) rfl ?_
      refine O_end ?_
      refine W_seq ?_
      refine W_reg ?_ -- 6 law.go:71
      refine O_calls en8 rfl c_awake (fun v10 w10 hC => ?_)
      obtain ⟨rfl, hC⟩ := hC
      have hA := (hA.after hC).take
      refine o_move (v := .bool _) rfl ?_
      refine O_yes rfl rfl rfl ?_
      refine o_loadN ag29 ti29 rfl rfl (hA.cs (i := 1) (o := 0) (s := 8) (ds := [_, _, _, _, _, _, _, _]) rfl rfl) ?_
      refine O_yes rfl rfl rfl ?_
      refine o_loadN ag29 ti29 rfl rfl (hA.cs (i := 0) (o := 0) (s := 8) (ds := [_, _, _, _, _, _, _, _]) rfl rfl) ?_
      refine O_yes rfl rfl rfl ?_
      refine O_calls en17 rfl (w_Same (H := H) (K := K) (hR1.old hA) (hR2.old hA) hR1.small hR2.small) (fun v11 w11 hC => ?_)
      obtain ⟨tc, rfl, hqtc, hE⟩ := hC
      have hA := (hA.after hE).take
      obtain rfl : tc = tb := by
        cases tc with
        | true => exact (hqtb.2 (hqtc.1 rfl)).symm
        | false => cases tb with
          | true => exact hqtc.2 (hqtb.1 rfl)
          | false => rfl
      refine O_yes rfl rfl rfl ?_
      refine o_move (v := .bool _) rfl ?_
      refine O_yes rfl rfl rfl ?_
      refine o_eqb2 Try.underlying4 rfl rfl (.inl ⟨rfl, rfl⟩) (fun h => ?_) (fun h => (by first | exact absurd h (by decide) | (exfalso; simp at h; omega) | (exfalso; simp at h)))
      have q36 := h
      refine o_pick_t rfl (v := .bool _) rfl ?_
      refine o_move (v := .bool _) rfl ?_
      refine O_yes rfl rfl rfl ?_
      refine o_move (v := .int _ _) rfl ?_
      refine O_yes rfl rfl rfl ?_
      refine o_cmp2 rfl rfl rfl (fun h => ?_) (fun h => ?_)
      · -- True
        have q40 := bne_iff_ne.1 h
        refine O_yes rfl rfl rfl ?_
        refine o_move (v := .bool _) rfl ?_
        refine O_no rfl rfl rfl rfl ?_
        refine O_no rfl rfl rfl rfl ?_
        refine O_yes rfl rfl rfl ?_
        refine o_pick_t rfl (v := .bool _) rfl ?_
        refine O_yes rfl rfl rfl ?_
        refine o_move (v := .bool _) rfl ?_
        refine O_no rfl rfl rfl rfl ?_
        refine O_no rfl rfl rfl rfl ?_
        refine O_no rfl rfl rfl rfl ?_
        refine O_no rfl rfl rfl rfl ?_
        refine O_no rfl rfl rfl rfl ?_
        refine O_no rfl rfl rfl rfl ?_
        refine O_no rfl rfl rfl rfl ?_
        refine O_yes rfl rfl rfl ?_
        refine o_pick_t rfl (v := .bool _) rfl ?_
        refine o_pick_t rfl (v := .bool _) rfl ?_
        refine o_assign (v := .bool _) rfl ?_
        refine O_end ?_
        refine W_ret ?_
        refine ⟨rfl, ?_⟩
        refine ret1 Try.results7 (v := .bool _) rfl ?_
        exact ⟨rfl, hA.clear⟩
      · -- False
        have q40 := bne_eq_false_iff_eq.1 h
        refine O_yes rfl rfl rfl ?_
        refine o_move (v := .bool _) rfl ?_
        refine O_yes rfl rfl rfl ?_
        refine o_move (v := .int _ _) rfl ?_
        refine O_yes rfl rfl rfl ?_
        refine o_cmp2 rfl rfl rfl (fun h => ?_) (fun h => ?_)
        · -- True
          have q43 := bne_iff_ne.1 h
          refine O_yes rfl rfl rfl ?_
          refine o_pick_f rfl (v := .bool _) rfl ?_
          refine O_yes rfl rfl rfl ?_
          refine o_move (v := .bool _) rfl ?_
          refine O_no rfl rfl rfl rfl ?_
          refine O_no rfl rfl rfl rfl ?_
          refine O_no rfl rfl rfl rfl ?_
          refine O_no rfl rfl rfl rfl ?_
          refine O_no rfl rfl rfl rfl ?_
          refine O_no rfl rfl rfl rfl ?_
          refine O_no rfl rfl rfl rfl ?_
          refine O_yes rfl rfl rfl ?_
          refine o_pick_t rfl (v := .bool _) rfl ?_
          refine o_pick_t rfl (v := .bool _) rfl ?_
          refine o_assign (v := .bool _) rfl ?_
          refine O_end ?_
          refine W_ret ?_
          refine ⟨rfl, ?_⟩
          refine ret1 Try.results7 (v := .bool _) rfl ?_
          exact ⟨rfl, hA.clear⟩
        · -- False
          have q43 := bne_eq_false_iff_eq.1 h
          refine O_yes rfl rfl rfl ?_
          refine o_pick_f rfl (v := .bool _) rfl ?_
          refine O_yes rfl rfl rfl ?_
          refine o_move (v := .bool _) rfl ?_
          refine O_yes rfl rfl rfl ?_
          refine o_move (by conv => lhs; whnf) ?_
          refine O_yes rfl rfl rfl ?_
          refine o_toString Try.underlying32 Try.underlying5 Try.underlying9 rfl (hA.rd 2 rfl) ?_
          refine O_yes rfl rfl rfl ?_
          refine o_move (by conv => lhs; whnf) ?_
          refine O_yes rfl rfl rfl ?_
          refine o_toString Try.underlying32 Try.underlying5 Try.underlying9 rfl (hA.rd 3 rfl) ?_
          refine O_yes rfl rfl rfl ?_
          refine o_eqs rfl rfl (.inl ⟨rfl, rfl⟩) ?_
          refine O_yes rfl rfl rfl ?_
          refine o_move (v := .bool _) rfl ?_
          refine O_yes rfl rfl rfl ?_
          refine o_eqb Try.underlying4 rfl rfl (.inl ⟨rfl, rfl⟩) ?_
          refine O_yes rfl rfl rfl ?_
          refine o_pick_f rfl (v := .bool _) rfl ?_
          refine o_pick_t rfl (v := .bool _) rfl ?_
          refine o_assign (v := .bool _) rfl ?_
          refine O_end ?_
          refine W_ret ?_
          refine ⟨rfl, ?_⟩
          refine ret1 Try.results7 (v := .bool _) rfl ?_
          by_cases hs : H.x = K.x
          · have ht : tc = true := hqtb.2 hs
            subst ht
            refine ⟨?_, hA.clear⟩
            rw [decide_eq_true (show (⟨(encB H.x).toArray⟩ : ByteArray) = ⟨(encB K.x).toArray⟩ by rw [hs])]; rfl
          · have ht : tc = false := by
              cases tc with
              | true => exact absurd (hqtb.1 rfl) hs
              | false => rfl
            subst ht
            refine ⟨?_, hA.clear⟩
            have hn : ¬ (⟨(encB H.x).toArray⟩ : ByteArray) = ⟨(encB K.x).toArray⟩ := fun e => hs (by
              have g1 := encE_zero q40
              have g2 := encE_zero q43
              have e1 := ba_inj e
              unfold encB at e1
              rw [if_pos g1, if_pos g2] at e1
              rw [← (dec_enc g1 hK1.ink).2, e1, (dec_enc g2 hK2.ink).2])
            rw [decide_eq_false hn]; rfl

end Go.Proofs.Ytbcaooiphalkoaa
