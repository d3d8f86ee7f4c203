/-
  What comes in: values of plain types, opened.
-/
import Derived.Test.YtbcaooiphalkoaaRow
import Derived.Test.YtbcaooiphalkoaaDraw
set_option linter.unusedVariables false
namespace Go.Proofs.Ytbcaooiphalkoaa
open Go Go.ChangeShapes Go.WideShapes Go.ChangeAt Go.RowKit

section
variable {H : Type} {enc : TypeId × Value → H} {P : Program} {w : World} {base : Nat} {spare : Nat → Bool} {held : Bool}
theorem i64_range {n : Int} (h : (Lit.int .i64 n).wf = true) : -9223372036854775808 ≤ n ∧ n ≤ 9223372036854775807 := by
  simp only [Lit.wf, Bool.and_eq_true, decide_eq_true_eq] at h
  have h1 : IntKind.i64.min = -9223372036854775808 := rfl
  have h2 : IntKind.i64.max = 9223372036854775807 := rfl
  rw [h1, h2] at h
  exact h
theorem u8_range {n : Int} (h : (Lit.int .u8 n).wf = true) : 0 ≤ n ∧ n ≤ 255 := by
  simp only [Lit.wf, Bool.and_eq_true, decide_eq_true_eq] at h
  have h1 : IntKind.u8.min = 0 := rfl
  have h2 : IntKind.u8.max = 255 := rfl
  rw [h1, h2] at h
  exact h
theorem okWide_slice {r : Reach} {b0 : Nat} {t e : TypeId} {v : Value} (ht : P.underlying t = some (.slice e)) (h : Value.okWide P w r b0 t v) : ∃ A m c, v = .slice A m c := by
  simp only [Value.okWide, ht, Cell.okWide] at h
  cases v <;> simp_all [Cell.ok]
theorem open_bytes {t e : TypeId} {fuel : Nat} {cs : List Value} {x : DataW H × List MemPlace} (ht : P.underlying t = some (.slice e)) (he : P.underlying e = some (.int .u8)) (hc : P.cellsOf e = 1)
    (h : DataW.trod enc P w base spare held fuel t cs = some x) : ∃ v l, cs = [v] ∧ Rd w 1 v (u8s l) := by
  rcases open_ints ht he hc h with ⟨rfl, _⟩ | ⟨a, len, cap, zs, rfl, hb, hlc, hcap, hzl, _, hcell, hwf⟩
  · exact ⟨_, [], rfl, none, 0, 0, rfl, rfl, Nat.le_refl _, by simp [maxLen], .inl rfl⟩
  · have hlen : len ≤ zs.length := by rw [hzl]; split <;> omega
    refine ⟨_, (zs.take len).map fun z => UInt8.ofNat z.toNat, rfl, some a, len, cap, rfl, by simp [u8s]; omega, hlc, hcap, ?_⟩
    rcases Nat.eq_zero_or_pos len with h0 | h0
    · left; subst h0; simp [u8s]
    · right
      have hs := World.cell?_spot (hcell 0 (by omega))
      obtain ⟨b, o, sp⟩ := a
      obtain rfl : sp = none := hs
      refine ⟨b, o, rfl, fun j u hu => ?_⟩
      have hj : j < len := by
        have := (List.getElem?_eq_some_iff.1 hu).1
        simp [u8s] at this; omega
      have hz := hcell j (by omega)
      have ha : (⟨b, o, none⟩ : Addr).add j = ⟨b, o + j, none⟩ := by simp [Addr.add]
      rw [ha] at hz
      rw [hz]
      have hg : zs[j]? = some zs[j] := List.getElem?_eq_getElem (by omega)
      have hr := u8_range (hwf zs[j] (List.getElem_mem _))
      have e1 : zs.getD j 0 = zs[j] := by rw [List.getD_eq_getElem?_getD, hg]; rfl
      rw [e1, ← hu]
      simp only [u8s, List.getElem?_map, List.getElem?_take, if_pos hj, hg, Option.map_some]
      rw [UInt8.toNat_ofNat']
      have : zs[j].toNat % 2 ^ 8 = zs[j].toNat := Nat.mod_eq_of_lt (by omega)
      rw [this]
      congr 2
      omega
end
end Go.Proofs.Ytbcaooiphalkoaa
