/-
  Words in plain Lean: a whole word as bytes, read again; bytes that are a word; a byte that is another one.
-/
import Derived.Test.YtbcaooiphalkoaaPp
set_option linter.unusedVariables false
set_option linter.unusedSimpArgs false
namespace Go.Proofs.Ytbcaooiphalkoaa
open Go Go.RowKit

/-- A word as bytes. -/
def encP (x : Wd) : List UInt8 := textP x ++ leN (crcP (textP x)) 4
theorem crc_leV (l : List UInt8) : leV (leN (crcP l) 4) = crcP l := by
  rw [leV_leN]; exact Nat.mod_eq_of_lt (crcP_lt l)
theorem look_enc {T : List UInt8} (h : T.length ≤ 65536) : lookP (T ++ leN (crcP T) 4) = ⟨T, 0⟩ := by
  have hl : (T ++ leN (crcP T) 4).length = T.length + 4 := by rw [List.length_append, leN_len]
  unfold lookP
  rw [hl, if_neg (by omega), if_neg (by omega), show T.length + 4 - 4 = T.length by omega, List.take_left, List.drop_left, crc_leV, if_pos rfl]
theorem look_ok {l : List UInt8} (h : (lookP l).e = 0) : l = (lookP l).s ++ leN (crcP (lookP l).s) 4 ∧ (lookP l).s.length + 4 = l.length := by
  unfold lookP at h ⊢
  by_cases h1 : l.length < 4
  · rw [if_pos h1] at h; cases h
  · rw [if_neg h1] at h ⊢
    by_cases h2 : 65540 < l.length
    · rw [if_pos h2] at h; cases h
    · rw [if_neg h2] at h ⊢
      by_cases h3 : crcP (l.take (l.length - 4)) = leV (l.drop (l.length - 4))
      · rw [if_pos h3]
        dsimp only
        have h4 := leN_leV (l.drop (l.length - 4))
        rw [List.length_drop, show l.length - (l.length - 4) = 4 by omega] at h4
        rw [h3, h4, List.take_append_drop]
        exact ⟨rfl, by rw [List.length_take]; omega⟩
      · rw [if_neg h3] at h; cases h
structure InKind (x : Wd) : Prop where
  cs : ∀ y ∈ x.cs, y.l < 18446744073709551616 ∧ y.k < 18446744073709551616
  vs : ∀ y ∈ x.vs, y < 4294967296
  os : ∀ y ∈ x.os, ∀ n ∈ y.v, n < 18446744073709551616
theorem Kinds.ink {x : Wd} (h : Kinds x) : InKind x := ⟨fun y hy => (h.cs y hy).2.2, h.vs, fun y hy => (h.os y hy).2.2⟩
theorem text_len {x : Wd} (hF : Fit x) : (textP x).length ≤ 65536 := by
  have h0 := fm_le (f := cdT) (k := 20) (l := x.cs) fun y _ => by rw [cdT_len]; exact Nat.le_refl _
  have h1 := fm_le (f := ppT) (k := 76) (l := x.ps) fun y hy => by have := hF.ps y hy; rw [ppT_len]; omega
  have h2 := fm_le (f := fun n => leN n 4) (k := 4) (l := x.vs) fun y _ => by rw [leN_len]; exact Nat.le_refl _
  have h3 := fm_le (f := iB) (k := 4) (l := x.ws) fun y _ => by rw [iB_len]; exact Nat.le_refl _
  have h4 := fm_le (f := ooT) (k := 52) (l := x.os) fun y hy => by have := hF.os y hy; have h2 := ooT_len y; omega
  have l0 := hF.csl; have l1 := hF.psl; have l2 := hF.vsl; have l3 := hF.wsl; have l4 := hF.osl
  simp only [textP, headT, List.length_append, iB_len, leN_len]
  omega
def tail4 (x : Wd) : List UInt8 := (leN x.os.length 4 ++ x.os.flatMap ooT) ++ []
def tail3 (x : Wd) : List UInt8 := (leN x.ws.length 4 ++ x.ws.flatMap iB) ++ tail4 x
def tail2 (x : Wd) : List UInt8 := (leN x.vs.length 4 ++ x.vs.flatMap fun n => leN n 4) ++ tail3 x
def tail1 (x : Wd) : List UInt8 := (leN x.ps.length 4 ++ x.ps.flatMap ppT) ++ tail2 x
def tail0 (x : Wd) : List UInt8 := (leN x.cs.length 4 ++ x.cs.flatMap cdT) ++ tail1 x
theorem text_tail (x : Wd) : textP x = iB x.kind ++ (iB x.frm ++ (iB x.why ++ tail0 x)) := by
  simp [textP, headT, tail0, tail1, tail2, tail3, tail4]
theorem read_back {x : Wd} (hF : Fit x) (hK : InKind x) {l : List UInt8} (hl : lookP l = ⟨textP x, 0⟩) : decW l = x ∧ (dO l).2 = ⟨⟨[], 0⟩, false⟩ := by
  obtain ⟨kind, frm, why, cs, ps, vs, ws, os⟩ := x
  obtain ⟨fk, ff, fy, fcl, fc, fpl, fp, fvl, fnl, fn, fol, fo⟩ := hF
  obtain ⟨kc, kv, ko⟩ := hK
  dsimp only at fk ff fy fcl fc fpl fp fvl fnl fn fol fo kc kv ko
  obtain ⟨a, rfl⟩ := Int.eq_ofNat_of_zero_le fk.1
  obtain ⟨b, rfl⟩ := Int.eq_ofNat_of_zero_le ff.1
  obtain ⟨c, rfl⟩ := Int.eq_ofNat_of_zero_le fy.1
  obtain ⟨X, hX⟩ : ∃ X : Wd, X = ⟨(a : Int), (b : Int), (c : Int), cs, ps, vs, ws, os⟩ := ⟨_, rfl⟩
  rw [← hX] at hl
  have e0 : dS0 l = ⟨⟨leN a 4 ++ (leN b 4 ++ (leN c 4 ++ tail0 X)), 0⟩, false⟩ := by
    unfold dS0
    rw [hl, text_tail, hX]
    dsimp only
    rw [iB_nat, iB_nat, iB_nat]
  have n1 := num_app (k := 4) (n := a) (s := leN b 4 ++ (leN c 4 ++ tail0 X)) (o := false) (by show a < 2 ^ 32; omega)
  have n2 := num_app (k := 4) (n := b) (s := leN c 4 ++ tail0 X) (o := false) (by show b < 2 ^ 32; omega)
  have n3 := num_app (k := 4) (n := c) (s := tail0 X) (o := false) (by show c < 2 ^ 32; omega)
  have e3 : dS3 l = ⟨⟨tail0 X, 0⟩, false⟩ := by unfold dS3; rw [e0, n1.2, n2.2, n3.2]
  have ec : dC l = (cs, ⟨⟨tail1 X, 0⟩, false⟩) := by
    unfold dC
    rw [e3, ← pp_card.list.go cs (tail1 X) false ⟨by omega, fun y hy => ⟨fc y hy, kc y hy⟩⟩]
    rw [hX]; rfl
  have ep : dP l = (ps, ⟨⟨tail2 X, 0⟩, false⟩) := by
    unfold dP
    rw [ec, ← pp_parcel.list.go ps (tail2 X) false ⟨by omega, fun y hy => by have := fp y hy; exact ⟨⟨this.1, this.2.1⟩, ⟨this.2.2.1, this.2.2.2.1⟩, by omega⟩⟩]
    rw [hX]; rfl
  have ev : dV l = (vs, ⟨⟨tail3 X, 0⟩, false⟩) := by
    unfold dV
    rw [ep, ← pp_cell.list.go vs (tail3 X) false ⟨by omega, kv⟩]
    rw [hX]; rfl
  have en : dN l = (ws, ⟨⟨tail4 X, 0⟩, false⟩) := by
    unfold dN
    rw [ev, ← pp_small.list.go ws (tail4 X) false ⟨by omega, fn⟩]
    rw [hX]; rfl
  have eo : dO l = (os, ⟨⟨[], 0⟩, false⟩) := by
    unfold dO
    rw [en, ← pp_open.list.go os [] false ⟨by omega, fun y hy => by have := fo y hy; exact ⟨⟨this.1, this.2.1⟩, by omega, ko y hy⟩⟩]
    rw [hX]; rfl
  refine ⟨?_, by rw [eo]⟩
  unfold decW
  rw [ec, ep, ev, en, eo, e0, n1.1, n1.2, n2.1, n2.2, n3.1]
/-- What is written is read again. -/
theorem dec_enc {x : Wd} (hg : goodP x = true) (hK : InKind x) : decOk (encP x) = true ∧ decW (encP x) = x := by
  have hF := good_fit hg
  have h := read_back hF hK (look_enc (text_len hF))
  refine ⟨(decOk_iff _).2 ⟨⟨by rw [show (dO (encP x)).2 = _ from h.2], by rw [show (dO (encP x)).2 = _ from h.2]⟩, by rw [show (dO (encP x)).2 = _ from h.2], by rw [show decW (encP x) = x from h.1]; exact hg⟩, h.1⟩
theorem dec_back {l : List UInt8} (h : decOk l = true) : (lookP l).e = 0 ∧ (lookP l).s = textP (decW l) := by
  obtain ⟨⟨h1, h2⟩, h3, _⟩ := (decOk_iff l).1 h
  have bo := pp_open.list.back (dN l).2 h1 h3
  have bn := pp_small.list.back (dV l).2 bo.1 bo.2.1
  have bv := pp_cell.list.back (dP l).2 bn.1 bn.2.1
  have bp := pp_parcel.list.back (dC l).2 bv.1 bv.2.1
  have bc := pp_card.list.back (dS3 l) bp.1 bp.2.1
  have n3 := num_ok (p := ((dS0 l).nx 4).nx 4) (k := 4) bc.1
  have n2 := num_ok (p := (dS0 l).nx 4) (k := 4) n3.1
  have n1 := num_ok (p := dS0 l) (k := 4) n2.1
  refine ⟨n1.1, ?_⟩
  have s0 : (lookP l).s = (dS0 l).t.s := rfl
  have s3 : (((dS0 l).nx 4).nx 4).nx 4 = dS3 l := rfl
  have c0 : (pList pCard (dS3 l)) = dC l := rfl
  have p0 : (pList pParcel (dC l).2) = dP l := rfl
  have v0 : (pList pCell (dP l).2) = dV l := rfl
  have w0 : (pList pSmall (dV l).2) = dN l := rfl
  have o0 : (pList pOpen (dN l).2) = dO l := rfl
  rw [c0] at bc; rw [p0] at bp; rw [v0] at bv; rw [w0] at bn; rw [o0] at bo
  rw [s0, n1.2, n2.2, n3.2, s3, bc.2.2, bp.2.2, bv.2.2, bn.2.2, bo.2.2, h2, text_tail]
  unfold tail0 tail1 tail2 tail3 tail4 decW
  dsimp only
  rw [iB_nat, iB_nat, iB_nat]
/-- Bytes that are read as a word are that word's bytes. -/
theorem enc_dec {l : List UInt8} (h : decOk l = true) : l = encP (decW l) := by
  obtain ⟨h1, h2⟩ := dec_back h
  have := (look_ok h1).1
  rw [h2] at this
  exact this
/-- Bytes of which one is another one are no word. -/
theorem dec_bent {x : Wd} (hg : goodP x = true) {a b : List UInt8} {u v : UInt8} (hl : encP x = a ++ u :: b) (huv : u ≠ v) : decOk (a ++ v :: b) = false := by
  rw [Bool.eq_false_iff]
  intro h
  obtain ⟨h1, _⟩ := dec_back h
  obtain ⟨h3, h4⟩ := look_ok h1
  obtain ⟨T', hT'⟩ : ∃ T', T' = (lookP (a ++ v :: b)).s := ⟨_, rfl⟩
  rw [← hT'] at h3 h4
  obtain ⟨T, hT⟩ : ∃ T, T = textP x := ⟨_, rfl⟩
  have hl' : T ++ leN (crcP T) 4 = a ++ u :: b := by rw [hT]; exact hl
  have len1 : T.length + 4 = a.length + 1 + b.length := by
    have := congrArg List.length hl'
    rw [List.length_append, List.length_append, leN_len, List.length_cons] at this; omega
  have len2 : T'.length + 4 = a.length + 1 + b.length := by
    rw [h4, List.length_append, List.length_cons]; omega
  have tT : T = (a ++ u :: b).take T.length := by rw [← hl', List.take_left]
  have tT' : T' = (a ++ v :: b).take T.length := by rw [h3, show T.length = T'.length by omega, List.take_left]
  have dT : leN (crcP T) 4 = (a ++ u :: b).drop T.length := by rw [← hl', List.drop_left]
  have dT' : leN (crcP T') 4 = (a ++ v :: b).drop T.length := by rw [h3, show T.length = T'.length by omega, List.drop_left]
  by_cases ha : a.length < T.length
  · obtain ⟨k, hk⟩ : ∃ k, T.length = a.length + (k + 1) := ⟨T.length - a.length - 1, by omega⟩
    rw [hk, List.take_length_add_append, List.take_succ_cons] at tT tT'
    rw [hk, List.drop_length_add_append, List.drop_succ_cons] at dT dT'
    have hc : crcP T = crcP T' := by rw [← crc_leV T, ← crc_leV T', dT, dT']
    rw [tT, tT'] at hc
    exact huv (crc_other hc)
  · rw [List.take_append_of_le_length (by omega)] at tT tT'
    have hTT : T = T' := tT.trans tT'.symm
    rw [← hTT, hl'] at h3
    have h5 := List.append_cancel_left h3
    injection h5 with h6
    exact huv h6.symm
end Go.Proofs.Ytbcaooiphalkoaa
