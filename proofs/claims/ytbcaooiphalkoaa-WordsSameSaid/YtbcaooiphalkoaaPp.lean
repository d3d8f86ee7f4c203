/-
  Words in plain Lean: what is written is read again; what is read is what was written.
-/
import Derived.Test.YtbcaooiphalkoaaEnc
import Derived.Test.YtbcaooiphalkoaaCrc
set_option linter.unusedVariables false
set_option linter.unusedSimpArgs false
namespace Go.Proofs.Ytbcaooiphalkoaa
open Go Go.RowKit

theorem leB_ofNat (n i : Nat) : leB n i = UInt8.ofNat (n / 2 ^ (8 * i)) := rfl
theorem leN_cons (n k : Nat) : leN n (k + 1) = UInt8.ofNat n :: leN (n / 256) k := by
  unfold leN
  rw [List.range_succ_eq_map, List.map_cons, List.map_map]
  have h0 : leB n 0 = UInt8.ofNat n := by simp [leB]
  rw [h0]
  congr 1
  apply List.map_congr_left
  intro i _
  apply UInt8.toNat_inj.1
  show (leB n (i + 1)).toNat = (leB (n / 256) i).toNat
  rw [leB_val, leB_val, Nat.div_div_eq_div_mul, show 256 * 2 ^ (8 * i) = 2 ^ (8 * (i + 1)) by rw [show 8 * (i + 1) = 8 + 8 * i by omega, Nat.pow_add]]
theorem leV_leN : ∀ (k n : Nat), leV (leN n k) = n % 2 ^ (8 * k)
  | 0, n => by simp [leN, leV, Nat.mod_one]
  | k + 1, n => by
    rw [leN_cons]
    show (UInt8.ofNat n).toNat + 256 * leV (leN (n / 256) k) = _
    rw [leV_leN k, UInt8.toNat_ofNat', show 2 ^ (8 * (k + 1)) = 256 * 2 ^ (8 * k) by rw [show 8 * (k + 1) = 8 + 8 * k by omega, Nat.pow_add], Nat.mod_mul]
theorem leN_leV : ∀ (l : List UInt8), leN (leV l) l.length = l
  | [] => rfl
  | c :: l => by
    show leN (c.toNat + 256 * leV l) (l.length + 1) = c :: l
    have hc : c.toNat < 256 := c.toNat_lt
    rw [leN_cons, show (c.toNat + 256 * leV l) / 256 = leV l by omega, leN_leV l]
    congr 1
    apply UInt8.toNat_inj.1
    rw [UInt8.toNat_ofNat']; omega
theorem leV_inj {a b : List UInt8} (hl : a.length = b.length) (h : leV a = leV b) : a = b := by rw [← leN_leV a, ← leN_leV b, hl, h]
theorem tk_app {a s : List UInt8} {k : Nat} (h : a.length = k) : (Es.mk (a ++ s) 0).tk k = a ∧ (Es.mk (a ++ s) 0).nx k = ⟨s, 0⟩ := by
  subst h
  unfold Es.tk Es.nx
  simp
theorem num_app {n k : Nat} {s : List UInt8} {o : Bool} (hn : n < 2 ^ (8 * k)) : (Ps.mk ⟨leN n k ++ s, 0⟩ o).num k = n ∧ (Ps.mk ⟨leN n k ++ s, 0⟩ o).nx k = ⟨⟨s, 0⟩, o⟩ := by
  have h := tk_app (a := leN n k) (s := s) (leN_len n k)
  unfold Ps.num Ps.nx
  rw [h.1, h.2, leV_leN, Nat.mod_eq_of_lt hn]
  exact ⟨rfl, rfl⟩
theorem nx_ok {t : Es} {k : Nat} (h : (t.nx k).e = 0) : t.e = 0 ∧ t.s = t.tk k ++ (t.nx k).s ∧ (t.tk k).length = k := by
  unfold Es.nx Es.tk at *
  by_cases h0 : t.e = 0
  · rw [if_pos h0] at h ⊢
    by_cases h1 : k ≤ t.s.length
    · rw [if_pos h1, if_pos ⟨h0, h1⟩]
      exact ⟨h0, by simp, by simp; omega⟩
    · rw [if_neg h1] at h
      cases h
  · rw [if_neg h0] at h
    exact absurd h h0
theorem num_ok {p : Ps} {k : Nat} (h : (p.nx k).t.e = 0) : p.t.e = 0 ∧ p.t.s = leN (p.num k) k ++ (p.nx k).t.s := by
  obtain ⟨h1, h2, h3⟩ := nx_ok (t := p.t) h
  refine ⟨h1, ?_⟩
  have h4 := leN_leV (p.t.tk k)
  rw [h3] at h4
  show p.t.s = leN (leV (p.t.tk k)) k ++ (p.t.nx k).s
  rw [h4]; exact h2
theorem iB_nat (n : Nat) : iB (n : Int) = leN n 4 := by unfold iB; rw [Int.toNat_natCast]
/-- A reader's step is a writing turned round. -/
structure PP {α : Type} (stp : Ps → α × Ps) (pr : α → List UInt8) (V : α → Prop) : Prop where
  go : ∀ x s o, V x → stp ⟨⟨pr x ++ s, 0⟩, o⟩ = (x, ⟨⟨s, 0⟩, o⟩)
  back : ∀ p, (stp p).2.t.e = 0 → (stp p).2.odd = false → p.t.e = 0 ∧ p.odd = false ∧ p.t.s = pr (stp p).1 ++ (stp p).2.t.s
theorem pp_cell : PP pCell (fun n => leN n 4) (fun n => n < 4294967296) where
  go x s o h := by
    have := num_app (k := 4) (s := s) (o := o) (n := x) h
    unfold pCell; rw [this.1, this.2]
  back p h ho := ⟨(num_ok h).1, ho, (num_ok h).2⟩
theorem pp_great : PP pGreat (fun n => leN n 8) (fun n => n < 18446744073709551616) where
  go x s o h := by
    have := num_app (k := 8) (s := s) (o := o) (n := x) h
    unfold pGreat; rw [this.1, this.2]
  back p h ho := ⟨(num_ok h).1, ho, (num_ok h).2⟩
theorem pp_small : PP pSmall iB (fun n => 0 ≤ n ∧ n < 4294967296) where
  go x s o h := by
    obtain ⟨k, rfl⟩ := Int.eq_ofNat_of_zero_le h.1
    have := num_app (k := 4) (s := s) (o := o) (n := k) (by show k < 2 ^ 32; omega)
    unfold pSmall iB
    rw [show ((k : Nat) : Int).toNat = k from Int.toNat_natCast k, this.1, this.2]
  back p h ho := ⟨(num_ok h).1, ho, by show p.t.s = leN (((p.num 4 : Nat) : Int)).toNat 4 ++ _; rw [Int.toNat_natCast]; exact (num_ok h).2⟩
theorem pp_card : PP pCard cdT (fun y => (0 ≤ y.w ∧ y.w < 4294967296) ∧ y.l < 18446744073709551616 ∧ y.k < 18446744073709551616) where
  go x s o h := by
    obtain ⟨w, l, k⟩ := x
    obtain ⟨⟨h0, h1⟩, h2, h3⟩ := h
    obtain ⟨n, rfl⟩ := Int.eq_ofNat_of_zero_le h0
    have e : cdT ⟨(n : Int), l, k⟩ ++ s = leN n 4 ++ (leN l 8 ++ (leN k 8 ++ s)) := by simp [cdT, iB]
    have a1 := num_app (k := 4) (s := leN l 8 ++ (leN k 8 ++ s)) (o := o) (n := n) (by show n < 2 ^ 32; dsimp only at h1; omega)
    have a2 := num_app (k := 8) (s := leN k 8 ++ s) (o := o) (n := l) h2
    have a3 := num_app (k := 8) (s := s) (o := o) (n := k) h3
    rw [e]; unfold pCard
    rw [a1.1, a1.2, a2.1, a2.2, a3.1, a3.2]
  back p h ho := by
    have a3 := num_ok (p := (p.nx 4).nx 8) (k := 8) h
    have a2 := num_ok (p := p.nx 4) (k := 8) a3.1
    have a1 := num_ok (p := p) (k := 4) a2.1
    refine ⟨a1.1, ho, ?_⟩
    show p.t.s = iB ((p.num 4 : Nat) : Int) ++ leN ((p.nx 4).num 8) 8 ++ leN (((p.nx 4).nx 8).num 8) 8 ++ (((p.nx 4).nx 8).nx 8).t.s
    rw [iB_nat]
    conv => lhs; rw [a1.2, a2.2, a3.2]
    simp only [List.append_assoc]
theorem pp_parcel : PP pParcel ppT (fun y => (0 ≤ y.f ∧ y.f < 4294967296) ∧ (0 ≤ y.t ∧ y.t < 4294967296) ∧ y.d.length < 4294967296) where
  go x s o h := by
    obtain ⟨f, t, d⟩ := x
    obtain ⟨⟨h0, h1⟩, ⟨h2, h3⟩, h4⟩ := h
    obtain ⟨n, rfl⟩ := Int.eq_ofNat_of_zero_le h0
    obtain ⟨m, rfl⟩ := Int.eq_ofNat_of_zero_le h2
    have e : ppT ⟨(n : Int), (m : Int), d⟩ ++ s = leN n 4 ++ (leN m 4 ++ (leN d.length 4 ++ (d ++ s))) := by simp [ppT, iB]
    have a1 := num_app (k := 4) (s := leN m 4 ++ (leN d.length 4 ++ (d ++ s))) (o := o) (n := n) (by show n < 2 ^ 32; dsimp only at h1; omega)
    have a2 := num_app (k := 4) (s := leN d.length 4 ++ (d ++ s)) (o := o) (n := m) (by show m < 2 ^ 32; dsimp only at h3; omega)
    have a3 := num_app (k := 4) (s := d ++ s) (o := o) (n := d.length) h4
    have a4 := tk_app (a := d) (s := s) rfl
    rw [e]; unfold pParcel
    rw [a1.1, a1.2, a2.1, a2.2, a3.1, a3.2]
    dsimp only
    rw [a4.1]
    show (_, Ps.mk ((Es.mk (d ++ s) 0).nx d.length) o) = _
    rw [a4.2]
  back p h ho := by
    have a4 := nx_ok (t := (((p.nx 4).nx 4).nx 4).t) (k := ((p.nx 4).nx 4).num 4) h
    have a3 := num_ok (p := (p.nx 4).nx 4) (k := 4) a4.1
    have a2 := num_ok (p := p.nx 4) (k := 4) a3.1
    have a1 := num_ok (p := p) (k := 4) a2.1
    refine ⟨a1.1, ho, ?_⟩
    show p.t.s = iB ((p.num 4 : Nat) : Int) ++ iB (((p.nx 4).num 4 : Nat) : Int) ++ (leN ((((p.nx 4).nx 4).nx 4).t.tk (((p.nx 4).nx 4).num 4)).length 4 ++ ((((p.nx 4).nx 4).nx 4).t.tk (((p.nx 4).nx 4).num 4))) ++ ((((p.nx 4).nx 4).nx 4).t.nx (((p.nx 4).nx 4).num 4)).s
    rw [iB_nat, iB_nat, a4.2.2]
    conv => lhs; rw [a1.2, a2.2, a3.2, a4.2.1]
    simp only [List.append_assoc]
theorem rep_go {α : Type} {stp : Ps → α × Ps} {pr : α → List UInt8} {V : α → Prop} (h : PP stp pr V) (l : List α) (hv : ∀ x ∈ l, V x) (s : List UInt8) (o : Bool) : ∀ k, k ≤ l.length → pRep stp ⟨⟨l.flatMap pr ++ s, 0⟩, o⟩ k = (l.take k, ⟨⟨(l.drop k).flatMap pr ++ s, 0⟩, o⟩)
  | 0, _ => rfl
  | k + 1, hk => by
    have ih := rep_go h l hv s o k (by omega)
    obtain ⟨x, hx⟩ : ∃ x, l[k]? = some x := ⟨_, List.getElem?_eq_getElem (by omega)⟩
    have hd : l.drop k = x :: l.drop (k + 1) := by
      rw [List.drop_eq_getElem_cons (by omega)]
      congr 1
      have := List.getElem?_eq_getElem (show k < l.length by omega)
      rw [hx] at this; exact (Option.some.inj this).symm
    have hg := h.go x ((l.drop (k + 1)).flatMap pr ++ s) o (hv x (List.mem_of_getElem? hx))
    show ((pRep stp _ k).1 ++ [(stp (pRep stp _ k).2).1], (stp (pRep stp _ k).2).2) = _
    rw [ih, hd, List.flatMap_cons, List.append_assoc]
    dsimp only
    rw [hg, List.take_add_one, hx]
    rfl
theorem rep_back {α : Type} {stp : Ps → α × Ps} {pr : α → List UInt8} {V : α → Prop} (h : PP stp pr V) (p : Ps) : ∀ k, (pRep stp p k).2.t.e = 0 → (pRep stp p k).2.odd = false → p.t.e = 0 ∧ p.odd = false ∧ p.t.s = (pRep stp p k).1.flatMap pr ++ (pRep stp p k).2.t.s
  | 0, h0, h1 => ⟨h0, h1, rfl⟩
  | k + 1, h0, h1 => by
    have b := h.back (pRep stp p k).2 h0 h1
    have ih := rep_back h p k b.1 b.2.1
    refine ⟨ih.1, ih.2.1, ?_⟩
    show p.t.s = ((pRep stp p k).1 ++ [(stp (pRep stp p k).2).1]).flatMap pr ++ (stp (pRep stp p k).2).2.t.s
    rw [List.flatMap_append, ih.2.2, b.2.2]
    simp
theorem PP.list {α : Type} {stp : Ps → α × Ps} {pr : α → List UInt8} {V : α → Prop} (h : PP stp pr V) : PP (pList stp) (fun l => leN l.length 4 ++ l.flatMap pr) (fun l => l.length ≤ 256 ∧ ∀ x ∈ l, V x) where
  go l s o hv := by
    have a1 := num_app (k := 4) (s := l.flatMap pr ++ s) (o := o) (n := l.length) (Nat.lt_of_le_of_lt hv.1 (by decide))
    rw [List.append_assoc]
    unfold pList
    rw [a1.1, a1.2, show min l.length 257 = l.length by have := hv.1; omega, rep_go h l hv.2 s o l.length (Nat.le_refl _), List.take_length, List.drop_length, decide_eq_false (show ¬ 256 < l.length by have := hv.1; omega)]
    simp
  back p h0 h1 := by
    have e1 : (pRep stp (p.nx 4) (min (p.num 4) 257)).2.t.e = 0 := h0
    have e2 : ((pRep stp (p.nx 4) (min (p.num 4) 257)).2.odd || decide (256 < p.num 4)) = false := h1
    rw [Bool.or_eq_false_iff] at e2
    have hn : p.num 4 ≤ 256 := by have := of_decide_eq_false e2.2; omega
    have b := rep_back h (p.nx 4) _ e1 e2.1
    have a := num_ok (p := p) (k := 4) b.1
    have hlen : (pList stp p).1.length = p.num 4 := by
      show (pRep stp _ _).1.length = _
      rw [pRep_len]; omega
    refine ⟨a.1, b.2.1, ?_⟩
    rw [hlen, List.append_assoc, a.2, b.2.2]
    rfl
theorem own_one {n : Nat} (h : n ≤ 1) : (if (((n : Nat) : Int) == 1) = true then 1 else 0) = n := by
  have : n = 0 ∨ n = 1 := by omega
  rcases this with rfl | rfl <;> rfl
theorem pp_open : PP pOpen ooT (fun y => (0 ≤ y.w ∧ y.w < 4294967296) ∧ y.v.length ≤ 256 ∧ ∀ n ∈ y.v, n < 18446744073709551616) where
  go x s o h := by
    obtain ⟨w, b, v⟩ := x
    obtain ⟨⟨h0, h1⟩, h2, h3⟩ := h
    obtain ⟨n, rfl⟩ := Int.eq_ofNat_of_zero_le h0
    obtain ⟨q, hq⟩ : ∃ q, q = if b = true then 1 else 0 := ⟨_, rfl⟩
    have hq1 : q ≤ 1 := by rw [hq]; split <;> omega
    have e : ooT ⟨(n : Int), b, v⟩ ++ s = leN n 4 ++ (leN q 4 ++ ((leN v.length 4 ++ v.flatMap fun n => leN n 8) ++ s)) := by
      rw [hq]; simp [ooT, iB]
    have a1 := num_app (k := 4) (s := leN q 4 ++ ((leN v.length 4 ++ v.flatMap fun n => leN n 8) ++ s)) (o := o) (n := n) (by show n < 2 ^ 32; dsimp only at h1; omega)
    have a2 := num_app (k := 4) (s := (leN v.length 4 ++ v.flatMap fun n => leN n 8) ++ s) (o := o) (n := q) (by show q < 2 ^ 32; omega)
    have a3 := pp_great.list.go v s o ⟨h2, h3⟩
    have em : pOpen0 ⟨⟨ooT ⟨(n : Int), b, v⟩ ++ s, 0⟩, o⟩ = ⟨⟨(leN v.length 4 ++ v.flatMap fun n => leN n 8) ++ s, 0⟩, o⟩ := by
      unfold pOpen0 Ps.mark
      rw [e, a1.2, a2.2, a2.1, decide_eq_false (show ¬ 1 < q by omega), Bool.or_false]
    unfold pOpen
    rw [em, a3, e, a1.1, a1.2, a2.1]
    have hb : (((q : Nat) : Int) == 1) = b := by rw [hq]; cases b <;> rfl
    rw [hb]
  back p h0 h1 := by
    have b := pp_great.list.back (pOpen0 p) h0 h1
    have ho : (p.odd || decide (1 < (p.nx 4).num 4)) = false := b.2.1
    rw [Bool.or_eq_false_iff] at ho
    have hn : (p.nx 4).num 4 ≤ 1 := by have := of_decide_eq_false ho.2; omega
    have a2 := num_ok (p := p.nx 4) (k := 4) b.1
    have a1 := num_ok (p := p) (k := 4) a2.1
    refine ⟨a1.1, ho.1, ?_⟩
    have hs : ((p.nx 4).nx 4).t.s = (pOpen0 p).t.s := rfl
    show p.t.s = iB ((p.num 4 : Nat) : Int) ++ leN (if (((((p.nx 4).num 4 : Nat) : Int)) == 1) = true then 1 else 0) 4 ++ leN (pList pGreat (pOpen0 p)).1.length 4 ++ ((pList pGreat (pOpen0 p)).1.flatMap fun n => leN n 8) ++ (pList pGreat (pOpen0 p)).2.t.s
    rw [own_one hn, iB_nat]
    conv => lhs; rw [a1.2, a2.2, hs, b.2.2]
    simp only [List.append_assoc]
end Go.Proofs.Ytbcaooiphalkoaa
