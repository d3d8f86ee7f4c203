/-
  Words: large, awake.
-/
import Derived.Test.YtbcaooiphalkoaaPq
import Derived.Test.YtbcaooiphalkoaaEqc
set_option linter.unusedVariables false
set_option linter.unusedSimpArgs false
namespace Go.Proofs.Ytbcaooiphalkoaa
open Go Go.RowKit

theorem RdW.small {w : World} {H : WH} (h : RdW w H) : Small H where
  cs := by have a := h.c.lenf (fun _ => rfl) (by decide); have b := h.c.capm; have e : maxLen = 9223372036854775807 := rfl; omega
  ps := by have a := h.p.lenf (fun _ => rfl) (by decide); have b := h.p.capm; have e : maxLen = 9223372036854775807 := rfl; omega
  vs := by have a := h.v.lenp; have b := h.v.capm; have e : maxLen = 9223372036854775807 := rfl; omega
  ws := by have a := h.n.lenp; have b := h.n.capm; have e : maxLen = 9223372036854775807 := rfl; omega
  os := by have a := h.o.lenf (fun _ => rfl) (by decide); have b := h.o.capm; have e : maxLen = 9223372036854775807 := rfl; omega
  pd := fun x hx => by have q := h.pd x hx; obtain ⟨x1, A, m, c⟩ := x; have a := q.lenp; have b := q.capm; have e : maxLen = 9223372036854775807 := rfl; dsimp only at *; omega
  od := fun x hx => by have q := h.od x hx; obtain ⟨x1, A, m, c⟩ := x; have a := q.lenp; have b := q.capm; have e : maxLen = 9223372036854775807 := rfl; dsimp only at *; omega
def largeB (H : WH) : Bool := decide (2000 < H.cs.length) || (decide (2000 < H.ps.length) || (decide (2000 < H.vs.length) || (decide (2000 < H.ws.length) || decide (2000 < H.os.length))))
theorem rows_some {w : World} {e : TypeId} {s m c : Nat} {A : Option Addr} {xs : List Value} (h : IsRow w e s (.slice A m c) xs) (hm : 0 < m) : ∃ g, A = some ⟨g, 0, none⟩ := by
  obtain ⟨A', m', c', he, hl, hc, hx, hr⟩ := h
  injection he with h1 h2 h3
  subst h1; subst h2; subst h3
  rcases hr with h0 | ⟨g, cur, h0, _⟩
  · omega
  · exact ⟨g, h0⟩

theorem c_large {w : World} {H : WH} (hR : RdW w H) : Calls Try.prog 9 #[.agg (wdc H).toArray] w fun e w' => ∃ v, e = .returned v ∧ (v = .bool (largeB H) ∧ At w No [] w') := by
  have hl := hR.small.five
  obtain ⟨kind, frm, why, cs, ps, vs, ws, os, ⟨CA, Cm, Cc⟩, ⟨PA, Pm, Pc⟩, ⟨VA, Vm, Vc⟩, ⟨NA, Nm, Nc⟩, ⟨OA, Om, Oc⟩⟩ := H
  obtain ⟨hc, hp, hpd, hv, hn, ho, hod⟩ := hR
  dsimp only at hc hp hpd hv hn ho hod hl ⊢
  obtain rfl := hc.lenf (fun _ => rfl) (by decide)
  obtain rfl := hp.lenf (fun _ => rfl) (by decide)
  obtain rfl := hv.lenp
  obtain rfl := hn.lenp
  obtain rfl := ho.lenf (fun _ => rfl) (by decide)
  refine body_in (n := 31) (l := [.agg #[.int .i64 kind, .int .i64 frm, .int .i64 why, .slice CA cs.length Cc, .slice PA ps.length Pc, .slice VA vs.length Vc, .slice NA ws.length Nc, .slice OA os.length Oc]]) en9 rfl Try.ntmps9 rfl ?_
  have hA := At.refl w
  refine W_seq ?_
  refine W_reg ?_ -- 0 law.go:20
  refine o_box hA (by conv => lhs; whnf) rfl (fun b1 w1 hA => ?_)
  refine o_assign (v := .bool _) rfl ?_
  refine O_end ?_
  refine W_seq ?_
  refine W_reg ?_ -- 1 law.go:21
  refine o_fieldAddr fo29_3 rfl rfl ?_
  refine o_load1 ag23 rfl (hA.c 0 rfl rfl) ?_
  refine o_len Try.underlying23 rfl ?_
  refine o_cmp2 rfl rfl rfl (fun h => ?_) (fun h => ?_)
  · -- True
    have q6 := of_decide_eq_true h
    refine o_move (v := .bool _) rfl ?_
    refine O_no rfl rfl rfl rfl ?_
    refine O_no rfl rfl rfl rfl ?_
    refine O_no rfl rfl rfl rfl ?_
    refine O_no rfl rfl rfl rfl ?_
    refine o_pick_t rfl (v := .bool _) rfl ?_
    refine o_move (v := .bool _) rfl ?_
    refine O_no rfl rfl rfl rfl ?_
    refine O_no rfl rfl rfl rfl ?_
    refine O_no rfl rfl rfl rfl ?_
    refine O_no rfl rfl rfl rfl ?_
    refine o_pick_t rfl (v := .bool _) rfl ?_
    refine o_move (v := .bool _) rfl ?_
    refine O_no rfl rfl rfl rfl ?_
    refine O_no rfl rfl rfl rfl ?_
    refine O_no rfl rfl rfl rfl ?_
    refine O_no rfl rfl rfl rfl ?_
    refine o_pick_t rfl (v := .bool _) rfl ?_
    refine o_move (v := .bool _) rfl ?_
    refine O_no rfl rfl rfl rfl ?_
    refine O_no rfl rfl rfl rfl ?_
    refine O_no rfl rfl rfl rfl ?_
    refine O_no rfl rfl rfl rfl ?_
    refine o_pick_t rfl (v := .bool _) rfl ?_
    refine o_assign (v := .bool _) rfl ?_
    refine O_end ?_
    refine W_ret ?_
    refine ⟨rfl, ?_⟩
    refine ret1 Try.results9 (v := .bool _) rfl ?_
    refine ⟨?_, hA.clear⟩
    unfold largeB
    dsimp only
    rw [decide_eq_true (show 2000 < cs.length by omega)]; rfl
  · -- False
    have q6 := of_decide_eq_false h
    refine o_move (v := .bool _) rfl ?_
    refine O_yes rfl rfl rfl ?_
    refine o_fieldAddr fo29_4 rfl rfl ?_
    refine O_yes rfl rfl rfl ?_
    refine o_load1 ag24 rfl (hA.c 0 rfl rfl) ?_
    refine O_yes rfl rfl rfl ?_
    refine o_len Try.underlying24 rfl ?_
    refine O_yes rfl rfl rfl ?_
    refine o_cmp2 rfl rfl rfl (fun h => ?_) (fun h => ?_)
    · -- True
      have q11 := of_decide_eq_true h
      refine o_pick_f rfl (v := .bool _) rfl ?_
      refine o_move (v := .bool _) rfl ?_
      refine O_no rfl rfl rfl rfl ?_
      refine O_no rfl rfl rfl rfl ?_
      refine O_no rfl rfl rfl rfl ?_
      refine O_no rfl rfl rfl rfl ?_
      refine o_pick_t rfl (v := .bool _) rfl ?_
      refine o_move (v := .bool _) rfl ?_
      refine O_no rfl rfl rfl rfl ?_
      refine O_no rfl rfl rfl rfl ?_
      refine O_no rfl rfl rfl rfl ?_
      refine O_no rfl rfl rfl rfl ?_
      refine o_pick_t rfl (v := .bool _) rfl ?_
      refine o_move (v := .bool _) rfl ?_
      refine O_no rfl rfl rfl rfl ?_
      refine O_no rfl rfl rfl rfl ?_
      refine O_no rfl rfl rfl rfl ?_
      refine O_no rfl rfl rfl rfl ?_
      refine o_pick_t rfl (v := .bool _) rfl ?_
      refine o_assign (v := .bool _) rfl ?_
      refine O_end ?_
      refine W_ret ?_
      refine ⟨rfl, ?_⟩
      refine ret1 Try.results9 (v := .bool _) rfl ?_
      refine ⟨?_, hA.clear⟩
      unfold largeB
      dsimp only
      rw [decide_eq_false (show ¬ 2000 < cs.length by omega), decide_eq_true (show 2000 < ps.length by omega)]; rfl
    · -- False
      have q11 := of_decide_eq_false h
      refine o_pick_f rfl (v := .bool _) rfl ?_
      refine o_move (v := .bool _) rfl ?_
      refine O_yes rfl rfl rfl ?_
      refine o_fieldAddr fo29_5 rfl rfl ?_
      refine O_yes rfl rfl rfl ?_
      refine o_load1 ag25 rfl (hA.c 0 rfl rfl) ?_
      refine O_yes rfl rfl rfl ?_
      refine o_len Try.underlying25 rfl ?_
      refine O_yes rfl rfl rfl ?_
      refine o_cmp2 rfl rfl rfl (fun h => ?_) (fun h => ?_)
      · -- True
        have q17 := of_decide_eq_true h
        refine o_pick_f rfl (v := .bool _) rfl ?_
        refine o_move (v := .bool _) rfl ?_
        refine O_no rfl rfl rfl rfl ?_
        refine O_no rfl rfl rfl rfl ?_
        refine O_no rfl rfl rfl rfl ?_
        refine O_no rfl rfl rfl rfl ?_
        refine o_pick_t rfl (v := .bool _) rfl ?_
        refine o_move (v := .bool _) rfl ?_
        refine O_no rfl rfl rfl rfl ?_
        refine O_no rfl rfl rfl rfl ?_
        refine O_no rfl rfl rfl rfl ?_
        refine O_no rfl rfl rfl rfl ?_
        refine o_pick_t rfl (v := .bool _) rfl ?_
        refine o_assign (v := .bool _) rfl ?_
        refine O_end ?_
        refine W_ret ?_
        refine ⟨rfl, ?_⟩
        refine ret1 Try.results9 (v := .bool _) rfl ?_
        refine ⟨?_, hA.clear⟩
        unfold largeB
        dsimp only
        rw [decide_eq_false (show ¬ 2000 < cs.length by omega), decide_eq_false (show ¬ 2000 < ps.length by omega), decide_eq_true (show 2000 < vs.length by omega)]; rfl
      · -- False
        have q17 := of_decide_eq_false h
        refine o_pick_f rfl (v := .bool _) rfl ?_
        refine o_move (v := .bool _) rfl ?_
        refine O_yes rfl rfl rfl ?_
        refine o_fieldAddr fo29_6 rfl rfl ?_
        refine O_yes rfl rfl rfl ?_
        refine o_load1 ag26 rfl (hA.c 0 rfl rfl) ?_
        refine O_yes rfl rfl rfl ?_
        refine o_len Try.underlying26 rfl ?_
        refine O_yes rfl rfl rfl ?_
        refine o_cmp2 rfl rfl rfl (fun h => ?_) (fun h => ?_)
        · -- True
          have q23 := of_decide_eq_true h
          refine o_pick_f rfl (v := .bool _) rfl ?_
          refine o_move (v := .bool _) rfl ?_
          refine O_no rfl rfl rfl rfl ?_
          refine O_no rfl rfl rfl rfl ?_
          refine O_no rfl rfl rfl rfl ?_
          refine O_no rfl rfl rfl rfl ?_
          refine o_pick_t rfl (v := .bool _) rfl ?_
          refine o_assign (v := .bool _) rfl ?_
          refine O_end ?_
          refine W_ret ?_
          refine ⟨rfl, ?_⟩
          refine ret1 Try.results9 (v := .bool _) rfl ?_
          refine ⟨?_, hA.clear⟩
          unfold largeB
          dsimp only
          rw [decide_eq_false (show ¬ 2000 < cs.length by omega), decide_eq_false (show ¬ 2000 < ps.length by omega), decide_eq_false (show ¬ 2000 < vs.length by omega), decide_eq_true (show 2000 < ws.length by omega)]; rfl
        · -- False
          have q23 := of_decide_eq_false h
          refine o_pick_f rfl (v := .bool _) rfl ?_
          refine o_move (v := .bool _) rfl ?_
          refine O_yes rfl rfl rfl ?_
          refine o_fieldAddr fo29_7 rfl rfl ?_
          refine O_yes rfl rfl rfl ?_
          refine o_load1 ag27 rfl (hA.c 0 rfl rfl) ?_
          refine O_yes rfl rfl rfl ?_
          refine o_len Try.underlying27 rfl ?_
          refine O_yes rfl rfl rfl ?_
          refine o_cmp rfl rfl rfl ?_
          refine o_pick_f rfl (v := .bool _) rfl ?_
          refine o_assign (v := .bool _) rfl ?_
          refine O_end ?_
          refine W_ret ?_
          refine ⟨rfl, ?_⟩
          refine ret1 Try.results9 (v := .bool _) rfl ?_
          refine ⟨?_, hA.clear⟩
          unfold largeB
          dsimp only
          rw [decide_eq_false (show ¬ 2000 < cs.length by omega), decide_eq_false (show ¬ 2000 < ps.length by omega), decide_eq_false (show ¬ 2000 < vs.length by omega), decide_eq_false (show ¬ 2000 < ws.length by omega), Bool.false_or, Bool.false_or, Bool.false_or, Bool.false_or]
          show Value.bool (decide _) = _
          congr 1
          rw [decide_eq_decide]; omega

theorem x0_kinds : Kinds (⟨6, 0, 0, [], [], [], [2, 5], []⟩ : Wd) := ⟨by decide, by decide, by decide, fun y hy => (by cases hy), fun y hy => (by cases hy), fun y hy => (by cases hy), fun y hy => (by
  simp only [List.mem_cons, List.not_mem_nil, or_false] at hy
  rcases hy with rfl | rfl <;> decide), fun y hy => (by cases hy)⟩
theorem x0_good : goodP (⟨6, 0, 0, [], [], [], [2, 5], []⟩ : Wd) = true := by decide
theorem x1_good : goodP ⟨6, 0, 0, [], [], [], [2, 2], []⟩ = false := by decide
theorem x2_good : goodP ⟨8, 1, 12, [], [], [], [], []⟩ = true := by decide

theorem c_awake {w : World} : Calls Try.prog 8 #[] w fun e w' => ∃ v, e = .returned v ∧ (v = .bool true ∧ At w No [] w') := by
  refine body_in (n := 54) (l := []) en8 rfl Try.ntmps8 rfl ?_
  have hA := At.refl w
  refine W_seq ?_
  refine W_reg ?_ -- 0 law.go:11
  refine o_assign (v := .bool _) rfl ?_
  refine O_end ?_
  refine W_seq ?_
  refine W_reg ?_ -- 1 law.go:12
  refine o_buildSlice (cs := [_, _]) hA Try.underlying26 ti3 rfl rfl rfl rfl rfl (fun a1 w1 hA => ?_)
  refine o_build la29 rfl rfl ?_
  refine o_alloc hA ti29 rfl (fun b2 w2 hA => ?_)
  refine o_store (cs' := [_, _, _, _, _, _, _, _]) (i := 0) hA rfl (by conv => lhs; whnf) rfl ti29 rfl rfl rfl rfl (fun w3 hA => ?_)
  refine O_end ?_
  refine W_seq ?_
  refine W_reg ?_ -- 2 law.go:13
  refine o_loadN ag29 ti29 rfl rfl (hA.cs (i := 0) (o := 0) (s := 8) (ds := [_, _, _, _, _, _, _, _]) rfl rfl) ?_
  refine O_calls en12 rfl (w_Encode (H := ⟨6, 0, 0, [], [], [], [2, 5], [], ⟨none, 0, 0⟩, ⟨none, 0, 0⟩, ⟨none, 0, 0⟩, ⟨some a1, 2, 2⟩, ⟨none, 0, 0⟩⟩) ⟨IsRow.rd (IsRow.nil _ 0 _ none), IsRow.rd (IsRow.nil _ 0 _ none), fun x hx => (by cases hx), IsRow.rd (IsRow.nil _ 0 _ none), hA.rd 1 rfl, IsRow.rd (IsRow.nil _ 0 _ none), fun x hx => (by cases hx)⟩ x0_kinds (by refine ⟨?_, ?_, ?_, ?_, ?_⟩ <;> simp)) (fun v4 w4 hC => ?_)
  obtain ⟨s, rfl, hE⟩ := hC.1 x0_good
  obtain ⟨sA, sm, sc, rfl⟩ := (hE.row 0 rfl).slice
  have hA := hA.after hE
  clear hC
  obtain ⟨gW, hgW⟩ := rows_some (hA.row 1 rfl) (by decide)
  injection hgW with hgW
  subst hgW
  refine o_move (by conv => lhs; whnf) ?_
  refine o_extract rfl rfl ?_
  refine o_extract rfl rfl ?_
  refine o_assign (by conv => lhs; whnf) ?_
  refine o_assign (v := .int _ _) rfl ?_
  refine O_end ?_
  refine W_seq ?_
  refine W_reg ?_ -- 3 law.go:14
  refine o_move (by conv => lhs; whnf) ?_
  refine O_calls en13 rfl (w_Decode (l := encP (⟨6, 0, 0, [], [], [], [2, 5], []⟩ : Wd)) (hA.rd 2 rfl)) (fun v5 w5 hC => ?_)
  obtain ⟨⟨bk, bf, bw, bcs, bps, bvs, bws, bos, ⟨A1, m1, c1⟩, ⟨A2, m2, c2⟩, ⟨A3, m3, c3⟩, ⟨A4, m4, c4⟩, ⟨A5, m5, c5⟩⟩, rfl, hBx, hE⟩ := hC.1 (dec_enc x0_good x0_kinds.ink).1
  have hBx' := hBx.trans (dec_enc x0_good x0_kinds.ink).2
  have hRB := RdW.of_mem hE fun c hc => hc
  have hbn := hRB.n
  injection hBx' with e1 e2 e3 e4 e5 e6 e7 e8
  dsimp only at e1 e2 e3 e4 e5 e6 e7 e8 hbn
  subst e1; subst e2; subst e3; subst e4; subst e6; subst e7
  obtain rfl := hbn.lenp
  obtain ⟨g9, o9, rfl⟩ := hbn.addr (by decide) (show _ = 2 * 1 from rfl) (by decide)
  have hA := hA.after hE
  clear hC
  refine o_move (by conv => lhs; whnf) ?_
  refine o_extract rfl rfl ?_
  refine o_extract rfl rfl ?_
  refine o_alloc hA ti29 rfl (fun b6 w6 hA => ?_)
  refine o_store (cs' := [_, _, _, _, _, _, _, _]) (i := 0) hA rfl (by conv => lhs; whnf) rfl ti29 rfl rfl rfl rfl (fun w7 hA => ?_)
  refine o_assign (v := .int _ _) rfl ?_
  refine O_end ?_
  refine W_seq ?_
  refine W_reg ?_ -- 4 law.go:15
  refine o_fieldAddr fo29_6 rfl rfl ?_
  refine o_load1 ag26 rfl (hA.c 1 rfl rfl) ?_
  refine o_index Try.underlying26 ti3 rfl rfl (by omega) (by omega) ?_
  refine o_storeRow (i := 2) (xs' := [.int .i64 2, .int .i64 2]) hA rfl (v := .int _ _) rfl rfl ti3 rfl rfl (by decide) rfl rfl (fun w8 hA => ?_)
  have hbn' := (RdW.of_mem hA (h := ⟨6, 0, 0, [], bps, [], [2, 5], bos, ⟨A1, m1, c1⟩, ⟨A2, m2, c2⟩, ⟨A3, m3, c3⟩, ⟨some ⟨g9, o9, none⟩, 2, c4⟩, ⟨A5, m5, c5⟩⟩) fun c hc => List.mem_cons_of_mem _ (List.mem_cons_of_mem _ (List.mem_cons_of_mem _ (List.mem_cons_of_mem _ hc))))
  refine O_end ?_
  refine W_seq ?_
  refine W_reg ?_ -- 5 law.go:16
  refine o_move (v := .int _ _) rfl ?_
  refine o_cmp2 rfl rfl rfl (fun h => ?_) (fun h => (by first | exact absurd h (by decide) | (exfalso; simp at h; omega) | (exfalso; simp at h)))
  have q22 := beq_iff_eq.1 h
  refine o_move (v := .bool _) rfl ?_
  refine O_yes rfl rfl rfl ?_
  refine o_move (v := .int _ _) rfl ?_
  refine O_yes rfl rfl rfl ?_
  refine o_cmp2 rfl rfl rfl (fun h => ?_) (fun h => (by first | exact absurd h (by decide) | (exfalso; simp at h; omega) | (exfalso; simp at h)))
  have q25 := beq_iff_eq.1 h
  refine o_pick_t rfl (v := .bool _) rfl ?_
  refine o_move (v := .bool _) rfl ?_
  refine O_yes rfl rfl rfl ?_
  refine o_fieldAddr fo29_6 rfl rfl ?_
  refine O_yes rfl rfl rfl ?_
  refine o_load1 ag26 rfl (hA.c 0 rfl rfl) ?_
  refine O_yes rfl rfl rfl ?_
  refine o_len Try.underlying26 rfl ?_
  refine O_yes rfl rfl rfl ?_
  refine o_cmp2 rfl rfl rfl (fun h => ?_) (fun h => (by first | exact absurd h (by decide) | (exfalso; simp at h; omega) | (exfalso; simp at h)))
  have q31 := beq_iff_eq.1 h
  refine o_pick_t rfl (v := .bool _) rfl ?_
  refine o_move (v := .bool _) rfl ?_
  refine O_yes rfl rfl rfl ?_
  refine o_fieldAddr fo29_6 rfl rfl ?_
  refine O_yes rfl rfl rfl ?_
  refine o_load1 ag26 rfl (hA.c 0 rfl rfl) ?_
  refine O_yes rfl rfl rfl ?_
  refine o_index Try.underlying26 ti3 rfl rfl (by omega) (by omega) ?_
  refine O_yes rfl rfl rfl ?_
  refine o_load1 ag3 rfl ((hbn'.n).cells (j := 1) rfl) ?_
  refine O_yes rfl rfl rfl ?_
  refine o_cmp2 rfl rfl rfl (fun h => ?_) (fun h => (by first | exact absurd h (by decide) | (exfalso; simp at h; omega) | (exfalso; simp at h)))
  have q38 := beq_iff_eq.1 h
  refine o_pick_t rfl (v := .bool _) rfl ?_
  refine o_move (v := .bool _) rfl ?_
  refine O_yes rfl rfl rfl ?_
  refine o_loadN ag29 ti29 rfl rfl (hA.cs (i := 1) (o := 0) (s := 8) (ds := [_, _, _, _, _, _, _, _]) rfl rfl) ?_
  refine O_yes rfl rfl rfl ?_
  refine O_calls en10 rfl (w_Good (H := ⟨6, 0, 0, [], [], [], [2, 2], [], ⟨none, 0, 0⟩, ⟨none, 0, 0⟩, ⟨none, 0, 0⟩, ⟨some ⟨gW, 0, none⟩, 2, 2⟩, ⟨none, 0, 0⟩⟩) ⟨IsRow.rd (IsRow.nil _ 0 _ none), IsRow.rd (IsRow.nil _ 0 _ none), fun x hx => (by cases hx), IsRow.rd (IsRow.nil _ 0 _ none), hA.rd 2 rfl, IsRow.rd (IsRow.nil _ 0 _ none), fun x hx => (by cases hx)⟩ (by refine ⟨?_, ?_, ?_, ?_, ?_⟩ <;> simp)) (fun v9 w9 hC => ?_)
  obtain ⟨rfl, hC⟩ := hC
  rw [show goodP (WH.x ⟨6, 0, 0, [], [], [], [2, 2], [], ⟨none, 0, 0⟩, ⟨none, 0, 0⟩, ⟨none, 0, 0⟩, ⟨some ⟨gW, 0, none⟩, 2, 2⟩, ⟨none, 0, 0⟩⟩) = false from x1_good]
  have hA := (hA.after hC).take
  refine O_yes rfl rfl rfl ?_
  refine o_not rfl ?_
  refine o_pick_t rfl (v := .bool _) rfl ?_
  refine o_move (v := .bool _) rfl ?_
  refine O_yes rfl rfl rfl ?_
  refine o_build la29 rfl rfl ?_
  refine O_yes rfl rfl rfl ?_
  refine O_calls en10 rfl (w_Good (H := ⟨8, 1, 12, [], [], [], [], [], ⟨none, 0, 0⟩, ⟨none, 0, 0⟩, ⟨none, 0, 0⟩, ⟨none, 0, 0⟩, ⟨none, 0, 0⟩⟩) ⟨IsRow.rd (IsRow.nil _ 0 _ none), IsRow.rd (IsRow.nil _ 0 _ none), fun x hx => (by cases hx), IsRow.rd (IsRow.nil _ 0 _ none), IsRow.rd (IsRow.nil _ 0 _ none), IsRow.rd (IsRow.nil _ 0 _ none), fun x hx => (by cases hx)⟩ (by refine ⟨?_, ?_, ?_, ?_, ?_⟩ <;> simp)) (fun v10 w10 hC => ?_)
  obtain ⟨rfl, hC⟩ := hC
  rw [show goodP (WH.x ⟨8, 1, 12, [], [], [], [], [], ⟨none, 0, 0⟩, ⟨none, 0, 0⟩, ⟨none, 0, 0⟩, ⟨none, 0, 0⟩, ⟨none, 0, 0⟩⟩) = true from x2_good]
  have hA := (hA.after hC).take
  refine o_pick_t rfl (v := .bool _) rfl ?_
  refine o_move (v := .bool _) rfl ?_
  refine O_yes rfl rfl rfl ?_
  refine o_loadN ag29 ti29 rfl rfl (hA.cs (i := 0) (o := 0) (s := 8) (ds := [_, _, _, _, _, _, _, _]) rfl rfl) ?_
  refine O_yes rfl rfl rfl ?_
  refine o_loadN ag29 ti29 rfl rfl (hA.cs (i := 0) (o := 0) (s := 8) (ds := [_, _, _, _, _, _, _, _]) rfl rfl) ?_
  refine O_yes rfl rfl rfl ?_
  refine O_calls en17 rfl (w_Same (H := ⟨6, 0, 0, [], bps, [], [2, 5], bos, ⟨A1, m1, c1⟩, ⟨A2, m2, c2⟩, ⟨A3, m3, c3⟩, ⟨some ⟨g9, o9, none⟩, 2, c4⟩, ⟨A5, m5, c5⟩⟩) (K := ⟨6, 0, 0, [], bps, [], [2, 5], bos, ⟨A1, m1, c1⟩, ⟨A2, m2, c2⟩, ⟨A3, m3, c3⟩, ⟨some ⟨g9, o9, none⟩, 2, c4⟩, ⟨A5, m5, c5⟩⟩) (RdW.of_mem hA fun c hc => List.mem_cons_of_mem _ (List.mem_cons_of_mem _ (List.mem_cons_of_mem _ (List.mem_cons_of_mem _ hc)))) (RdW.of_mem hA fun c hc => List.mem_cons_of_mem _ (List.mem_cons_of_mem _ (List.mem_cons_of_mem _ (List.mem_cons_of_mem _ hc)))) hbn'.small hbn'.small) (fun v11 w11 hC => ?_)
  obtain ⟨tb, rfl, hq, hC⟩ := hC
  have hA := (hA.after hC).take
  refine o_pick_t rfl (v := .bool _) rfl ?_
  refine o_assign (v := .bool _) rfl ?_
  refine O_end ?_
  refine W_ret ?_
  refine ⟨rfl, ?_⟩
  refine ret1 Try.results8 (v := .bool _) rfl ?_
  exact ⟨by rw [hq.2 rfl], hA.clear⟩

end Go.Proofs.Ytbcaooiphalkoaa
