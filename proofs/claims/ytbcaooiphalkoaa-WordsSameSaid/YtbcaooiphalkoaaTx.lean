/-
  Words: the bytes of a word, in plain Lean; a good word's numbers are small.
-/
import Derived.Test.YtbcaooiphalkoaaWq
import Derived.Test.YtbcaooiphalkoaaDec
set_option linter.unusedVariables false
set_option linter.unusedSimpArgs false
namespace Go.Proofs.Ytbcaooiphalkoaa
open Go Go.RowKit

def iB (n : Int) : List UInt8 := leN n.toNat 4
def cdT (y : Cd) : List UInt8 := iB y.w ++ leN y.l 8 ++ leN y.k 8
def ppT (y : Pp) : List UInt8 := iB y.f ++ iB y.t ++ (leN y.d.length 4 ++ y.d)
def ooT (y : Oo) : List UInt8 := iB y.w ++ leN (if y.o = true then 1 else 0) 4 ++ leN y.v.length 4 ++ y.v.flatMap fun n => leN n 8
/-- The fields of a word. -/
def headT (x : Wd) : List UInt8 := iB x.kind ++ iB x.frm ++ iB x.why ++ leN x.cs.length 4
def textP (x : Wd) : List UInt8 := headT x ++ x.cs.flatMap cdT ++ leN x.ps.length 4 ++ x.ps.flatMap ppT ++ leN x.vs.length 4 ++ (x.vs.flatMap fun n => leN n 4) ++ leN x.ws.length 4 ++ x.ws.flatMap iB ++ leN x.os.length 4 ++ x.os.flatMap ooT
theorem iB_len (n : Int) : (iB n).length = 4 := leN_len _ _
theorem cdT_len (y : Cd) : (cdT y).length = 20 := by simp [cdT, iB_len, leN_len]
theorem ppT_len (y : Pp) : (ppT y).length = 12 + y.d.length := by simp [ppT, iB_len, leN_len]; omega
theorem fm_le {α : Type} {f : α → List UInt8} {k : Nat} : ∀ {l : List α}, (∀ y ∈ l, (f y).length ≤ k) → (l.flatMap f).length ≤ l.length * k
  | [], _ => by simp
  | y :: l, h => by
    rw [List.flatMap_cons, List.length_append, List.length_cons, Nat.add_mul]
    have h1 := h y (by simp)
    have h2 := fm_le (l := l) fun z hz => h z (by simp [hz])
    omega
theorem fm_take {α : Type} {f : α → List UInt8} {k : Nat} {l : List α} (j : Nat) (h : ∀ y ∈ l, (f y).length ≤ k) : ((l.take j).flatMap f).length ≤ l.length * k :=
  Nat.le_trans (fm_le fun y hy => h y (List.mem_of_mem_take hy)) (Nat.mul_le_mul_right _ (by rw [List.length_take]; omega))
theorem ooT_len (y : Oo) : (ooT y).length ≤ 12 + y.v.length * 8 := by
  have := fm_le (f := fun n => leN n 8) (k := 8) (l := y.v) fun n _ => by rw [leN_len]; exact Nat.le_refl _
  simp only [ooT, List.length_append, iB_len, leN_len]; omega
structure Fit (x : Wd) : Prop where
  kind : 0 ≤ x.kind ∧ x.kind < 4294967296
  frm : 0 ≤ x.frm ∧ x.frm < 4294967296
  why : 0 ≤ x.why ∧ x.why < 4294967296
  csl : x.cs.length ≤ 64
  cs : ∀ y ∈ x.cs, 0 ≤ y.w ∧ y.w < 4294967296
  psl : x.ps.length ≤ 64
  ps : ∀ y ∈ x.ps, 0 ≤ y.f ∧ y.f < 4294967296 ∧ 0 ≤ y.t ∧ y.t < 4294967296 ∧ y.d.length ≤ 64
  vsl : x.vs.length ≤ 256
  wsl : x.ws.length ≤ 64
  ws : ∀ y ∈ x.ws, 0 ≤ y ∧ y < 4294967296
  osl : x.os.length ≤ 64
  os : ∀ y ∈ x.os, 0 ≤ y.w ∧ y.w < 4294967296 ∧ y.v.length ≤ 5
theorem whoP_rg {n : Int} (h : whoP n = true) : 1 ≤ n ∧ n ≤ 64 := by
  unfold whoP at h
  rw [Bool.and_eq_true] at h
  exact ⟨of_decide_eq_true h.1, of_decide_eq_true h.2⟩
theorem risP_ge {l : List Int} (h : risP l = true) : ∀ (i : Nat) (n : Int), l[i]? = some n → (i : Int) + 1 ≤ n := by
  intro i
  have hr : ∀ i, i < l.length → risAt l i = true := fun i hi => List.all_eq_true.1 h i (List.mem_range.2 hi)
  induction i with
  | zero =>
    intro n hn
    have h0 := hr 0 (List.getElem?_eq_some_iff.1 hn).1
    unfold risAt at h0
    rw [Bool.and_eq_true, hn] at h0
    have := whoP_rg h0.1
    simp at this ⊢; omega
  | succ i ih =>
    intro n hn
    have hlt := (List.getElem?_eq_some_iff.1 hn).1
    obtain ⟨m, hm⟩ : ∃ m, l[i]? = some m := ⟨_, List.getElem?_eq_getElem (by omega)⟩
    have h1 := ih m hm
    have h0 := hr (i + 1) hlt
    unfold risAt at h0
    rw [Bool.and_eq_true, hn, Nat.add_sub_cancel, hm] at h0
    have h2 := h0.2
    simp at h2
    omega
theorem risP_len {l : List Int} (h : risP l = true) : l.length ≤ 64 := by
  rcases Nat.eq_zero_or_pos l.length with h0 | h0
  · omega
  · obtain ⟨n, hn⟩ : ∃ n, l[l.length - 1]? = some n := ⟨_, List.getElem?_eq_getElem (by omega)⟩
    have h1 := risP_ge h _ n hn
    have h2 := whoP_rg (risP_who h n (List.mem_of_getElem? hn))
    omega
theorem good_only {x : Wd} (h : onlyP x = true) : (x.cs = [] ∨ x.kind = 1 ∨ x.kind = 2) ∧ (x.ps = [] ∨ x.kind = 3 ∨ x.kind = 4) ∧ (x.vs = [] ∨ x.kind = 5) ∧ (x.ws = [] ∨ x.kind = 6) ∧ (x.os = [] ∨ x.kind = 7) ∧ (x.why = 0 ∨ x.kind = 8) := by
  unfold onlyP at h
  simp only [Bool.and_eq_true, Bool.or_eq_true, beq_iff_eq, List.length_eq_zero_iff] at h
  obtain ⟨⟨⟨⟨⟨h1, h2⟩, h3⟩, h4⟩, h5⟩, h6⟩ := h
  exact ⟨by rcases h1 with (h | h) | h <;> simp [h], by rcases h2 with (h | h) | h <;> simp [h], h3, h4, h5, h6⟩
theorem parcelsP_fit {ps : List Pp} {f g : Pp → Int} (h : parcelsP ps f g = true) : ps.length ≤ 64 ∧ ∀ y ∈ ps, (1 ≤ f y ∧ f y ≤ 64) ∧ (1 ≤ g y ∧ g y ≤ 64) ∧ y.d.length ≤ 64 := by
  unfold parcelsP at h
  rw [Bool.and_eq_true, List.all_eq_true] at h
  have h1 := risP_len h.2
  rw [List.length_map] at h1
  refine ⟨h1, fun y hy => ?_⟩
  have h2 := h.1 y hy
  rw [Bool.and_eq_true] at h2
  exact ⟨whoP_rg (risP_who h.2 _ (List.mem_map.2 ⟨y, hy, rfl⟩)), whoP_rg h2.1, of_decide_eq_true h2.2⟩
theorem good_fit {x : Wd} (h : goodP x = true) : Fit x := by
  unfold goodP at h
  simp only [Bool.and_eq_true, decide_eq_true_eq] at h
  obtain ⟨⟨⟨⟨⟨⟨k1, k8⟩, f0⟩, f64⟩, hw⟩, ho⟩, hb⟩ := h
  obtain ⟨oc, op, ov, on, oo, oy⟩ := good_only ho
  have hk : x.kind = 1 ∨ x.kind = 2 ∨ x.kind = 3 ∨ x.kind = 4 ∨ x.kind = 5 ∨ x.kind = 6 ∨ x.kind = 7 ∨ x.kind = 8 := by omega
  have bk : (0 ≤ x.kind ∧ x.kind < 4294967296) ∧ (0 ≤ x.frm ∧ x.frm < 4294967296) := by omega
  have hc : x.cs.length ≤ 64 ∧ ∀ y ∈ x.cs, 0 ≤ y.w ∧ y.w < 4294967296 := by
    rcases oc with e | e | e
    · rw [e]; simp
    · unfold bodyP at hb
      rw [if_pos e, Bool.and_eq_true] at hb
      have h1 := of_decide_eq_true hb.1
      have h2 := hb.2
      obtain ⟨y, hy⟩ := List.length_eq_one_iff.1 h1
      rw [hy] at h2 ⊢
      simp at h2
      refine ⟨by simp, fun z hz => ?_⟩
      rw [List.mem_singleton] at hz
      subst hz; omega
    · unfold bodyP at hb
      rw [if_neg (by omega), if_pos e] at hb
      have h1 := risP_len hb
      rw [List.length_map] at h1
      refine ⟨h1, fun y hy => ?_⟩
      have := whoP_rg (risP_who hb y.w (List.mem_map.2 ⟨y, hy, rfl⟩))
      omega
  have hp : x.ps.length ≤ 64 ∧ ∀ y ∈ x.ps, 0 ≤ y.f ∧ y.f < 4294967296 ∧ 0 ≤ y.t ∧ y.t < 4294967296 ∧ y.d.length ≤ 64 := by
    rcases op with e | e | e
    · rw [e]; simp
    · unfold bodyP at hb
      rw [if_neg (by omega), if_neg (by omega), if_pos e] at hb
      have h1 := parcelsP_fit hb
      exact ⟨h1.1, fun y hy => by have := h1.2 y hy; omega⟩
    · unfold bodyP at hb
      rw [if_neg (by omega), if_neg (by omega), if_neg (by omega), if_pos e] at hb
      have h1 := parcelsP_fit hb
      exact ⟨h1.1, fun y hy => by have := h1.2 y hy; omega⟩
  have hv : x.vs.length ≤ 256 := by
    rcases ov with e | e
    · rw [e]; simp
    · unfold bodyP at hb
      rw [if_neg (by omega), if_neg (by omega), if_neg (by omega), if_neg (by omega), if_pos e] at hb
      exact of_decide_eq_true hb
  have hn : x.ws.length ≤ 64 ∧ ∀ y ∈ x.ws, 0 ≤ y ∧ y < 4294967296 := by
    rcases on with e | e
    · rw [e]; simp
    · unfold bodyP at hb
      rw [if_neg (by omega), if_neg (by omega), if_neg (by omega), if_neg (by omega), if_neg (by omega), if_pos e] at hb
      refine ⟨risP_len hb, fun y hy => ?_⟩
      have := whoP_rg (risP_who hb y hy)
      omega
  have hq : x.os.length ≤ 64 ∧ ∀ y ∈ x.os, 0 ≤ y.w ∧ y.w < 4294967296 ∧ y.v.length ≤ 5 := by
    rcases oo with e | e
    · rw [e]; simp
    · unfold bodyP at hb
      rw [if_neg (by omega), if_neg (by omega), if_neg (by omega), if_neg (by omega), if_neg (by omega), if_neg (by omega), if_pos e, Bool.and_eq_true] at hb
      have h1 := risP_len hb.1
      rw [List.length_map] at h1
      refine ⟨h1, fun y hy => ?_⟩
      have h2 := whoP_rg (risP_who hb.1 y.w (List.mem_map.2 ⟨y, hy, rfl⟩))
      have h3 := hb.2
      simp only [Bool.not_eq_true', List.any_eq_false, decide_eq_true_eq] at h3
      have h4 := h3 y hy
      omega
  have hy : 0 ≤ x.why ∧ x.why < 4294967296 := by
    rcases oy with e | e
    · omega
    · unfold bodyP at hb
      rw [if_neg (by omega), if_neg (by omega), if_neg (by omega), if_neg (by omega), if_neg (by omega), if_neg (by omega), if_neg (by omega)] at hb
      simp only [Bool.and_eq_true, decide_eq_true_eq] at hb
      omega
  exact ⟨bk.1, bk.2, hy, hc.1, hc.2, hp.1, hp.2, hv, hn.1, hn.2, hq.1, hq.2⟩
end Go.Proofs.Ytbcaooiphalkoaa
