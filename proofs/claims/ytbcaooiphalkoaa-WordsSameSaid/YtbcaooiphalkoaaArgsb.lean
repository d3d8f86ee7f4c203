/-
  What comes in: numbers, lists of numbers, lists of structs, opened.
-/
import Derived.Test.YtbcaooiphalkoaaArgs
set_option linter.unusedVariables false
namespace Go.Proofs.Ytbcaooiphalkoaa
open Go Go.ChangeShapes Go.WideShapes Go.ChangeAt Go.RowKit

section
variable {H : Type} {enc : TypeId × Value → H} {P : Program} {w : World} {base : Nat} {spare : Nat → Bool} {held : Bool}
theorem u64_range {n : Int} (h : (Lit.int .u64 n).wf = true) : ∃ k : Nat, n = k ∧ k < 18446744073709551616 := by
  simp only [Lit.wf, Bool.and_eq_true, decide_eq_true_eq] at h
  have h1 : IntKind.u64.min = 0 := rfl
  have h2 : IntKind.u64.max = 18446744073709551615 := rfl
  rw [h1, h2] at h
  exact ⟨n.toNat, by omega, by omega⟩
theorem u32_range {n : Int} (h : (Lit.int .u32 n).wf = true) : ∃ k : Nat, n = k ∧ k < 4294967296 := by
  simp only [Lit.wf, Bool.and_eq_true, decide_eq_true_eq] at h
  have h1 : IntKind.u32.min = 0 := rfl
  have h2 : IntKind.u32.max = 4294967295 := rfl
  rw [h1, h2] at h
  exact ⟨n.toNat, by omega, by omega⟩
theorem u8_nat {n : Int} (h : (Lit.int .u8 n).wf = true) : ∃ k : Nat, n = k ∧ k < 256 := by
  have := u8_range h
  exact ⟨n.toNat, by omega, by omega⟩
theorem open_nums {t e : TypeId} {k : IntKind} {fuel : Nat} {cs : List Value} {x : DataW H × List MemPlace} (ht : P.underlying t = some (.slice e)) (he : P.underlying e = some (.int k)) (hc : P.cellsOf e = 1)
    (h : DataW.trod enc P w base spare held fuel t cs = some x) : ∃ (v : Value) (zs : List Int), cs = [v] ∧ Rd w 1 v (zs.map (Value.int k)) ∧ ∀ z ∈ zs, (Lit.int k z).wf = true := by
  rcases open_ints ht he hc h with ⟨rfl, _⟩ | ⟨a, len, cap, zs, rfl, hb, hlc, hcap, hzl, _, hcell, hwf⟩
  · exact ⟨_, [], rfl, ⟨none, 0, 0, rfl, rfl, Nat.le_refl _, by simp [maxLen], .inl rfl⟩, by simp⟩
  · have hlen : len ≤ zs.length := by rw [hzl]; split <;> omega
    refine ⟨_, zs.take len, rfl, ⟨some a, len, cap, rfl, by simp; omega, hlc, hcap, ?_⟩, fun z hz => hwf z (List.mem_of_mem_take hz)⟩
    rcases Nat.eq_zero_or_pos len with h0 | h0
    · left; subst h0; simp
    · right
      have hs := World.cell?_spot (hcell 0 (by omega))
      obtain ⟨b, o, sp⟩ := a
      obtain rfl : sp = none := hs
      refine ⟨b, o, rfl, fun j u hu => ?_⟩
      have hj : j < len := by
        have := (List.getElem?_eq_some_iff.1 hu).1
        simp at this; omega
      have hz := hcell j (by omega)
      have ha : (⟨b, o, none⟩ : Addr).add j = ⟨b, o + j, none⟩ := by simp [Addr.add]
      rw [ha] at hz
      rw [hz]
      have hg : zs[j]? = some zs[j] := List.getElem?_eq_getElem (by omega)
      have e1 : zs.getD j 0 = zs[j] := by rw [List.getD_eq_getElem?_getD, hg]; rfl
      rw [e1, ← hu]
      simp only [List.getElem?_map, List.getElem?_take, if_pos hj, hg, Option.map_some]
theorem nats_of {k : IntKind} {bound : Nat} (hr : ∀ n : Int, (Lit.int k n).wf = true → ∃ m : Nat, n = m ∧ m < bound) : ∀ (zs : List Int), (∀ z ∈ zs, (Lit.int k z).wf = true) → ∃ l : List Nat, zs.map (Value.int k) = l.map (fun (n : Nat) => Value.int k (n : Int)) ∧ ∀ n ∈ l, n < bound
  | [], _ => ⟨[], rfl, by simp⟩
  | z :: zs, h => by
    obtain ⟨l, hl, hb⟩ := nats_of hr zs fun z hz => h z (List.mem_cons_of_mem _ hz)
    obtain ⟨m, rfl, hm⟩ := hr z (h z List.mem_cons_self)
    exact ⟨m :: l, by simp [hl], fun n hn => by rcases List.mem_cons.1 hn with rfl | hn; exact hm; exact hb n hn⟩
theorem list_of {α : Type} {p : Nat → α → Prop} : ∀ n, (∀ i, i < n → ∃ s, p i s) → ∃ ss : List α, ss.length = n ∧ ∀ i s, ss[i]? = some s → p i s
  | 0, _ => ⟨[], rfl, fun i s h => by simp at h⟩
  | n + 1, h => by
    obtain ⟨ss, hl, hp⟩ := list_of n fun i hi => h i (by omega)
    obtain ⟨s, hs⟩ := h n (by omega)
    refine ⟨ss ++ [s], by simp [hl], fun i u hu => ?_⟩
    rw [List.getElem?_append] at hu
    split at hu
    · exact hp i u hu
    · rename_i hi
      have hlt := (List.getElem?_eq_some_iff.1 hu).1
      simp at hlt
      obtain rfl : i = n := by omega
      rw [hl, Nat.sub_self] at hu
      obtain rfl := Option.some.inj hu
      exact hs
theorem flatMap_len {α : Type} {encC : α → List Value} {sz : Nat} (hlen : ∀ s, (encC s).length = sz) : ∀ ss : List α, (ss.flatMap encC).length = ss.length * sz
  | [] => by simp
  | s :: ss => by rw [List.flatMap_cons, List.length_append, flatMap_len hlen ss, hlen, List.length_cons, Nat.add_mul, Nat.one_mul, Nat.add_comm]
theorem flatMap_cell {α : Type} {encC : α → List Value} {sz : Nat} (hlen : ∀ s, (encC s).length = sz) : ∀ {ss : List α} {i j : Nat} {s : α} {v : Value}, ss[i]? = some s → (encC s)[j]? = some v → (ss.flatMap encC)[i * sz + j]? = some v
  | [], i, j, s, v, h, _ => by simp at h
  | q :: r, 0, j, s, v, h, hj => by
    simp at h; subst h
    have : j < (encC q).length := (List.getElem?_eq_some_iff.1 hj).1
    rw [List.flatMap_cons, Nat.zero_mul, Nat.zero_add, List.getElem?_append_left this]; exact hj
  | q :: r, i + 1, j, s, v, h, hj => by
    simp at h
    have e : (i + 1) * sz + j = (encC q).length + (i * sz + j) := by rw [hlen, Nat.add_mul]; omega
    rw [List.flatMap_cons, e, List.getElem?_append_right (by omega), Nat.add_sub_cancel_left]
    exact flatMap_cell hlen h hj
theorem addr_add (b o j : Nat) : (⟨b, o, none⟩ : Addr).add j = ⟨b, o + j, none⟩ := by simp [Addr.add]
theorem open_list {α : Type} (encC : α → List Value) (Q : α → Prop) {t e : TypeId} {sz fuel : Nat} {A : Option Addr} {m c : Nat} {x : DataW H × List MemPlace} (hsz : 0 < sz) (ht : P.underlying t = some (.slice e)) (hc : P.cellsOf e = sz) (hlen : ∀ s, (encC s).length = sz)
    (hopen : ∀ {fuel : Nat} {cs : List Value} {x : DataW H × List MemPlace}, DataW.trod enc P w base spare held fuel e cs = some x → ∃ s, cs = encC s ∧ Q s)
    (h : DataW.trod enc P w base spare held fuel t (Value.slice A m c).cells.toList = some x) : ∃ ss : List α, Rd w sz (.slice A m c) (ss.flatMap encC) ∧ ∀ s ∈ ss, Q s := by
  rcases DataW.trod_slice ht h with ⟨h0, _⟩ | ⟨a, len, cap, elems, rest, n, _, h0, _, hb, hlc, hcap, hlen2, hel, _, _⟩
  · have h0 : [Value.slice A m c] = [.slice none 0 0] := h0
    injection h0 with h0
    injection h0 with h1 h2 h3
    subst h1; subst h2; subst h3
    exact ⟨[], ⟨none, 0, 0, rfl, by simp, Nat.le_refl _, by simp [maxLen], .inl rfl⟩, by simp⟩
  · have h0 : [Value.slice A m c] = [.slice (some a) len cap] := h0
    injection h0 with h0
    injection h0 with h1 h2 h3
    subst h1; subst h2; subst h3
    rw [hc] at hel
    obtain ⟨ss, hl, hp⟩ := list_of (p := fun i (s : α) => (∀ j, j < sz → w.cell? ((a.add (i * sz)).add j) = (encC s)[j]?) ∧ Q s) m (fun i hi => by
      have h1 := hel i hi
      rw [List.getElem?_eq_getElem (by omega), Option.bind_eq_some_iff] at h1
      obtain ⟨cs, hcs, hx⟩ := h1
      obtain ⟨s, rfl, hr⟩ := hopen hx
      exact ⟨s, (World.cells?_some hcs).2.2, hr⟩)
    refine ⟨ss, ⟨some a, m, c, rfl, by rw [flatMap_len hlen, hl], hlc, hcap, ?_⟩, fun s hs => ?_⟩
    · rcases Nat.eq_zero_or_pos m with hm | hm
      · left
        rw [hm] at hl
        rw [List.eq_nil_of_length_eq_zero hl]; rfl
      · right
        obtain ⟨s0, hs0⟩ : ∃ s0, ss[0]? = some s0 := ⟨_, List.getElem?_eq_getElem (by omega)⟩
        have hc0 := (hp 0 s0 hs0).1 0 hsz
        have h00 : 0 < (encC s0).length := by rw [hlen]; exact hsz
        rw [List.getElem?_eq_getElem h00] at hc0
        have hsp := World.cell?_spot hc0
        obtain ⟨b, o, sp⟩ := a
        have hsp2 : sp = none := by simpa [Addr.add] using hsp
        subst hsp2
        refine ⟨b, o, rfl, fun j u hu => ?_⟩
        have hj := (List.getElem?_eq_some_iff.1 hu).1
        rw [flatMap_len hlen, hl] at hj
        have hdm := Nat.div_add_mod j sz
        rw [Nat.mul_comm] at hdm
        have hd : j / sz < m := (Nat.div_lt_iff_lt_mul hsz).2 hj
        have hr := Nat.mod_lt j hsz
        obtain ⟨s, hs⟩ : ∃ s, ss[j / sz]? = some s := ⟨_, List.getElem?_eq_getElem (by omega)⟩
        have h7 : j % sz < (encC s).length := by rw [hlen]; exact hr
        have h1 := flatMap_cell hlen hs (List.getElem?_eq_getElem h7)
        rw [hdm, hu] at h1
        have h2 := (hp (j / sz) s hs).1 (j % sz) hr
        rw [List.getElem?_eq_getElem h7, ← h1] at h2
        have ha : ((⟨b, o, none⟩ : Addr).add (j / sz * sz)).add (j % sz) = ⟨b, o + j, none⟩ := by
          rw [addr_add, addr_add, Nat.add_assoc, hdm]
        rw [ha] at h2
        exact h2
    · obtain ⟨i, hi⟩ := List.getElem?_of_mem hs
      exact (hp i s hi).2
end
end Go.Proofs.Ytbcaooiphalkoaa
