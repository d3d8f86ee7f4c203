/-
  Words: of which one bit is turned.
-/
import Derived.Test.YtbcaooiphalkoaaLwc
set_option linter.unusedVariables false
set_option linter.unusedSimpArgs false
namespace Go.Proofs.Ytbcaooiphalkoaa
open Go Go.RowKit

theorem shl_one {k : Nat} (hk : k < 8) : IntKind.u8.wrap ((1 : Int) * 2 ^ min ((k : Nat) : Int).toNat IntKind.u8.bits) = ((2 ^ k : Nat) : Int) := by
  have h2 : min ((k : Nat) : Int).toNat IntKind.u8.bits = k := by rw [Int.toNat_natCast]; exact Nat.min_eq_left (by show k ≤ 8; omega)
  rw [h2]
  refine u8w (by simp) ?_
  exact Nat.lt_of_lt_of_le (Nat.pow_lt_pow_right (by decide) hk) (by decide)
theorem b_xor8 {a b r : Nat} (ha : a < 256) (hb : b < 256) (h : a ^^^ b = r) : bits .xor .u8 (a : Int) (b : Int) = (r : Int) := by
  unfold bits
  rw [bv8, bv8]
  subst h
  refine u8w ?_ (Nat.xor_lt_two_pow (n := 8) ha hb)
  show (((BitVec.ofNat 8 a) ^^^ (BitVec.ofNat 8 b)).toNat : Int) = _
  rw [BitVec.toNat_xor, BitVec.toNat_ofNat, BitVec.toNat_ofNat, Nat.mod_eq_of_lt ha, Nat.mod_eq_of_lt hb]
theorem split_at {l : List UInt8} {p : Nat} {x : UInt8} (hx : l[p]? = some x) : l = l.take p ++ x :: l.drop (p + 1) := by
  have hp := (List.getElem?_eq_some_iff.1 hx).1
  have h1 := (List.getElem?_eq_some_iff.1 hx).2
  conv => lhs; rw [← List.take_append_drop p l, List.drop_eq_getElem_cons hp, h1]
theorem set_at {l : List UInt8} {p : Nat} {x : UInt8} (y : UInt8) (hx : l[p]? = some x) : l.set p y = l.take p ++ y :: l.drop (p + 1) := by
  have hp := (List.getElem?_eq_some_iff.1 hx).1
  rw [List.set_eq_take_append_cons_drop, if_pos hp]
theorem u8l_put {l : List UInt8} {p : Nat} {x y : UInt8} {r : Nat} (hx : l[p]? = some x) (hy : y.toNat = r) : (u8l l).take (0 + ((p : Nat) : Int).toNat * 1) ++ (Value.int .u8 (r : Int)).cells.toList ++ (u8l l).drop (0 + ((p : Nat) : Int).toNat * 1 + 1) = u8l (l.set p y) := by
  rw [set_at y hx, Int.toNat_natCast, Nat.zero_add, Nat.mul_one]
  show _ ++ [Value.int .u8 (r : Int)] ++ _ = _
  simp [u8l, u8v, hy, List.map_take, List.map_drop]
theorem xor_ne {x k : Nat} (hk : k < 8) : x ^^^ 2 ^ k ≠ x := fun h => by
  have h1 : x ^^^ 2 ^ k = x ^^^ 0 := by rw [Nat.xor_zero]; exact h
  have h2 := xor_cancel' h1
  have : 0 < 2 ^ k := Nat.pow_pos (by decide)
  omega
theorem enc_len {x : Wd} (h : goodP x = true) : 4 ≤ (encP x).length ∧ (encP x).length ≤ 65540 := by
  have := text_len (good_fit h)
  unfold encP
  rw [List.length_append, leN_len]
  omega
theorem decB_bad {l : List UInt8} (h : decOk l = false) : decE l = 2 ∧ decB l = zeroH.x := by
  unfold decE decB
  rw [if_neg (by rw [h]; decide), if_neg (by rw [h]; decide)]
  exact ⟨rfl, rfl⟩

theorem l_bent {w : World} {H : WH} {n : Nat} (hR : RdW w H) (hK : Kinds H.x) (hn : n < 65536) : Calls Try.prog 6 #[.agg (wdc H).toArray, .int .u16 (n : Int)] w fun e w' => ∃ v, e = .returned v ∧ (v = .bool true ∧ At w No [] w') := by
  refine body_in (n := 51) (l := [.agg (wdc H).toArray, .int .u16 (n : Int)]) en6 rfl Try.ntmps6 rfl ?_
  have hA := At.refl w
  refine W_seq ?_
  refine W_reg ?_ -- 0 law.go:52
  refine o_box hA (by conv => lhs; whnf) rfl (fun b1 w1 hA => ?_)
  refine o_assign (v := .bool _) rfl ?_
  refine O_end ?_
  refine W_seq ?_
  refine W_reg ?_ -- 1 law.go:53
  refine o_loadN ag29 ti29 rfl rfl (hA.cs (i := 0) (o := 0) (s := 8) (ds := [_, _, _, _, _, _, _, _]) rfl rfl) ?_
  refine O_calls en12 rfl (w_EncodeU (H := H) (hR.old hA) hK) (fun v2 w2 hC => ?_)
  obtain ⟨sA, sm, sc, rfl, hE⟩ := hC
  have hA := hA.after hE
  clear hE
  refine o_move (by conv => lhs; whnf) ?_
  refine o_extract rfl rfl ?_
  refine o_extract rfl rfl ?_
  refine o_assign (by conv => lhs; whnf) ?_
  refine o_assign (v := .int _ _) rfl ?_
  refine O_end ?_
  refine W_seq ?_
  refine W_seq ?_
  refine W_reg ?_ -- 2 law.go:54
  refine O_calls en8 rfl c_awake (fun v3 w3 hC => ?_)
  obtain ⟨rfl, hC⟩ := hC
  have hA := (hA.after hC).take
  refine o_not rfl ?_
  refine o_move (v := .bool _) rfl ?_
  refine O_yes rfl rfl rfl ?_
  refine o_move (v := .int _ _) rfl ?_
  refine O_yes rfl rfl rfl ?_
  refine o_cmp2 rfl rfl rfl (fun h => ?_) (fun h => ?_)
  · -- True
    have q19 := bne_iff_ne.1 h
    refine o_pick_f rfl (v := .bool _) rfl ?_
    refine O_end ?_
    refine W_then rfl ?_
    refine W_seq ?_
    refine W_reg ?_ -- 3 law.go:55
    refine O_calls en8 rfl c_awake (fun v4 w4 hC => ?_)
    obtain ⟨rfl, hC⟩ := hC
    have hA := (hA.after hC).take
    refine o_assign (v := .bool _) rfl ?_
    refine O_end ?_
    refine W_ret ?_
    refine ⟨rfl, ?_⟩
    refine ret1 Try.results6 (v := .bool _) rfl ?_
    exact ⟨rfl, hA.clear⟩
  · -- False
    have q19 := bne_eq_false_iff_eq.1 h
    have hgd := encE_zero q19
    have hlb := enc_len hgd
    have heb : encB H.x = encP H.x := by unfold encB; rw [if_pos hgd]
    rw [heb] at hA
    have hnl := fun a b u v => dec_bent (a := a) (b := b) (u := u) (v := v) hgd
    generalize encP H.x = l at hA hlb hnl
    obtain rfl : sm = l.length := u8l_rd (hA.rd 1 rfl)
    obtain ⟨gW, hgW⟩ := rows_some (hA.row 1 rfl) (by omega)
    subst hgW
    obtain ⟨kb, hkb⟩ : ∃ kb, kb = n % (8 * l.length) := ⟨_, rfl⟩
    have hkl : kb < 8 * l.length := by rw [hkb]; exact Nat.mod_lt _ (by omega)
    have hk8 : kb / 8 < l.length := by omega
    obtain ⟨x, hx⟩ : ∃ x, l[kb / 8]? = some x := ⟨_, List.getElem?_eq_getElem hk8⟩
    have hx8 : x.toNat < 256 := x.toNat_lt
    have hp8 : 2 ^ (kb % 8) < 256 := Nat.lt_of_lt_of_le (Nat.pow_lt_pow_right (by decide) (show kb % 8 < 8 by omega)) (by decide)
    have hxr : x.toNat ^^^ 2 ^ (kb % 8) < 256 := Nat.xor_lt_two_pow (n := 8) hx8 hp8
    obtain ⟨y, hy⟩ : ∃ y : UInt8, y.toNat = x.toNat ^^^ 2 ^ (kb % 8) := ⟨UInt8.ofNat (x.toNat ^^^ 2 ^ (kb % 8)), by rw [UInt8.toNat_ofNat']; exact Nat.mod_eq_of_lt hxr⟩
    have hxy : x ≠ y := fun e => xor_ne (x := x.toNat) (show kb % 8 < 8 by omega) (by rw [← hy, e])
    have hbad : decOk (l.set (kb / 8) y) = false := by
      rw [set_at y hx]
      exact hnl _ _ _ _ (split_at hx) hxy
    refine o_pick_f rfl (v := .bool _) rfl ?_
    refine O_end ?_
    refine W_else rfl ?_
    refine W_skip ?_
    refine W_seq ?_
    refine W_reg ?_ -- 4 law.go:57
    refine o_move (v := .int _ _) rfl ?_
    refine o_conv Try.underlying41 Try.underlying3 rfl (w64r' (r := (n : Int)) rfl (by omega) (by omega)) ?_
    refine o_move (by conv => lhs; whnf) ?_
    refine o_len Try.underlying32 rfl ?_
    refine o_mul rfl rfl (w64r' (r := ((8 * l.length : Nat) : Int)) (by simp) (by omega) (by omega)) ?_
    refine o_rem rfl rfl (by first | decide | omega) (show Int.tmod (n : Int) ((8 * l.length : Nat) : Int) = (kb : Int) by rw [hkb]; rfl) ?_
    refine o_assign (v := .int _ _) rfl ?_
    refine O_end ?_
    refine W_seq ?_
    refine W_reg ?_ -- 5 law.go:58
    refine o_move (by conv => lhs; whnf) ?_
    refine o_move (v := .int _ _) rfl ?_
    refine o_quo rfl rfl (by first | decide | omega) (w64r' (show Int.tdiv (kb : Int) 8 = ((kb / 8 : Nat) : Int) from rfl) (by omega) (by omega)) ?_
    refine o_index Try.underlying32 ti5 rfl rfl (by omega) (by omega) ?_
    refine o_load1 ag5 rfl (u8l_elt (hA.rd 1 rfl) hx) ?_
    refine o_move (v := .int _ _) rfl ?_
    refine o_rem rfl rfl (by first | decide | omega) (show Int.tmod (kb : Int) 8 = ((kb % 8 : Nat) : Int) from rfl) ?_
    refine o_conv Try.underlying3 Try.underlying42 rfl (u64w (r := kb % 8) rfl (by omega)) ?_
    refine o_shl rfl rfl (by omega) (shl_one (k := kb % 8) (by omega)) ?_
    refine o_bits (by simp) rfl rfl (b_xor8 hx8 hp8 rfl) ?_
    refine o_index Try.underlying32 ti5 rfl rfl (by omega) (by omega) ?_
    refine o_storeRow (i := 1) (xs' := u8l (l.set (kb / 8) y)) hA rfl (v := .int _ _) rfl rfl ti5 rfl rfl (by rw [u8l_len, Int.toNat_natCast]; omega) rfl (u8l_put hx hy) (fun w5 hA => ?_)
    refine O_end ?_
    refine W_seq ?_
    refine W_reg ?_ -- 6 law.go:59
    refine o_move (by conv => lhs; whnf) ?_
    refine O_calls en13 rfl (w_DecodeU (l := l.set (kb / 8) y) (hA.rd 1 rfl)) (fun v6 w6 hC => ?_)
    obtain ⟨B, rfl, hBx, hE⟩ := hC
    have hA := hA.after hE
    clear hE
    have hdz := decB_bad hbad
    have hd2 := hdz.1
    refine o_move (by conv => lhs; whnf) ?_
    refine o_extract rfl rfl ?_
    refine o_extract rfl rfl ?_
    refine o_alloc hA ti29 rfl (fun b7 w7 hA => ?_)
    refine o_store (cs' := [_, _, _, _, _, _, _, _]) (i := 0) hA rfl (by conv => lhs; whnf) rfl ti29 rfl rfl rfl rfl (fun w8 hA => ?_)
    refine o_assign (v := .int _ _) rfl ?_
    refine O_end ?_
    refine W_seq ?_
    refine W_reg ?_ -- 7 law.go:60
    refine o_move (v := .int _ _) rfl ?_
    refine o_cmp2 rfl rfl rfl (fun h => ?_) (fun h => (by first | exact absurd h (by decide) | (exfalso; simp at h; omega) | (exfalso; simp at h)))
    have q45 := beq_iff_eq.1 h
    refine o_move (v := .bool _) rfl ?_
    refine O_yes rfl rfl rfl ?_
    refine o_loadN ag29 ti29 rfl rfl (hA.cs (i := 0) (o := 0) (s := 8) (ds := [_, _, _, _, _, _, _, _]) rfl rfl) ?_
    refine O_yes rfl rfl rfl ?_
    refine o_build la29 rfl rfl ?_
    refine O_yes rfl rfl rfl ?_
    refine O_calls en16 rfl (q_Same (H := B) (K := zeroH) (RdW.of_mem hA (h := B) (fun c hc => List.mem_cons_of_mem _ (List.mem_cons_of_mem _ (List.mem_cons_of_mem _ (hc))))) (zero_rd _) (RdW.small (RdW.of_mem hA (h := B) (fun c hc => List.mem_cons_of_mem _ (List.mem_cons_of_mem _ (List.mem_cons_of_mem _ (hc)))))) zero_small) (fun v9 w9 hC => ?_)
    obtain ⟨tb, rfl, hq, hE⟩ := hC
    obtain rfl : tb = true := hq.2 (hBx.trans hdz.2)
    have hA := (hA.after hE).take
    refine o_pick_t rfl (v := .bool _) rfl ?_
    refine o_assign (v := .bool _) rfl ?_
    refine O_end ?_
    refine W_ret ?_
    refine ⟨rfl, ?_⟩
    refine ret1 Try.results6 (v := .bool _) rfl ?_
    exact ⟨rfl, hA.clear⟩

end Go.Proofs.Ytbcaooiphalkoaa
