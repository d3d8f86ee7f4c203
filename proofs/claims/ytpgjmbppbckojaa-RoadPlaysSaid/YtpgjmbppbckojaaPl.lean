/-
  The law RoadPlays: what is held between its calls.
-/
import Derived.Test.YtpgjmbppbckojaaRoad4
set_option linter.unusedVariables false
namespace Go.Proofs.Ytpgjmbppbckojaa
open Go Go.RowKit

theorem At.mid {w0 w w' : World} {M : Nat → Prop} {A R R' G : List Ch} (h : At w0 M (A ++ (R ++ G)) w) (k : At w (SS R) R' w') : At w0 M (A ++ (R' ++ G)) w' :=
  ((h.perm (List.perm_append_comm_assoc A R G)).trans k).perm (List.perm_append_comm_assoc R' A G)
theorem At.mown {w0 w : World} {M : Nat → Prop} {A R G : List Ch} (h : At w0 M (A ++ (R ++ G)) w) : At w (SS R) R w := (h.perm (List.perm_append_comm_assoc A R G)).own
def kr (ks : List (Value × List UInt8)) : List Ch := ks.map fun k => Row 5 1 k.1 (u8s k.2)
theorem At.plperm {w0 w : World} {M : Nat → Prop} {B C L : Ch} {R K : List Ch} (h : At w0 M (B :: C :: L :: (R ++ K)) w) : At w0 M ([L] ++ (R ++ (B :: K))) w := by
  have h1 : At w0 M (B :: L :: (R ++ K)) w := h.sub (.cons_cons _ (.cons _ (List.Sublist.refl _)))
  exact h1.perm ((List.Perm.swap L B _).trans (List.Perm.cons _ List.perm_middle.symm))
theorem rd_in {w0 w : World} {A R : List Ch} {ks : List (Value × List UInt8)} {x : RL} (h : Rd w0 1 x.D (u8s x.l) ∨ (x.D, x.l) ∈ ks) (hA : At w0 No (A ++ (R ++ kr ks)) w) : Rd w 1 x.D (u8s x.l) := by
  rcases h with h | h
  · exact h.old hA
  · have := hA.holds (Row 5 1 x.D (u8s x.l)) (List.mem_append_right _ (List.mem_append_right _ (List.mem_map.2 ⟨_, h, rfl⟩)))
    exact IsRow.rd this
structure St where
  what : Int
  n : Int
  bit : Int
  x : RL
def stc (s : St) : List Value := [.int .i64 s.what, .int .i64 s.n, .int .i64 s.bit, .int .i64 s.x.d, .bool s.x.k, .bool s.x.t, s.x.D]
def flatS : List St → List Value
  | [] => []
  | s :: r => stc s ++ flatS r
theorem flatS_len : ∀ ss : List St, (flatS ss).length = ss.length * 7
  | [] => rfl
  | s :: r => by simp [flatS, stc, flatS_len r]; omega
theorem flatS_cell : ∀ {ss : List St} {i j : Nat} {s : St} {v : Value}, ss[i]? = some s → (stc s)[j]? = some v → (flatS ss)[i * 7 + j]? = some v
  | [], i, j, s, v, h, _ => by simp at h
  | s' :: r, 0, j, s, v, h, hj => by
    simp at h; subst h
    have : j < (stc s').length := (List.getElem?_eq_some_iff.1 hj).1
    rw [flatS, Nat.zero_mul, Nat.zero_add, List.getElem?_append_left this]; exact hj
  | s' :: r, i + 1, j, s, v, h, hj => by
    simp at h
    have e : (i + 1) * 7 + j = (stc s').length + (i * 7 + j) := by simp [stc]; omega
    rw [flatS, e, List.getElem?_append_right (by omega), Nat.add_sub_cancel_left]
    exact flatS_cell h hj
theorem step_cells {w : World} {g o m c i : Nat} {ss : List St} {s : St} (h : Rd w 7 (.slice (some ⟨g, o, none⟩) m c) (flatS ss)) (hx : ss[i]? = some s) : ∀ j v, (stc s)[j]? = some v → w.cell? ⟨g, o + (i : Int).toNat * 7 + j, none⟩ = some v := by
  intro j v hj
  have := h.cells (flatS_cell hx hj)
  simpa [Nat.add_assoc] using this
theorem core_get {ds ls : List RL} {q : Nat} {x : RL} (h : ds.map RL.core = ls.map RL.core) (hx : ls[q]? = some x) : ∃ A m c, ds[q]? = some ⟨x.d, x.k, x.t, A, m, c, x.l⟩ := by
  have h1 := congrArg (fun l => l[q]?) h
  simp only [List.getElem?_map, hx, Option.map_some] at h1
  cases hy : ds[q]? with
  | none => rw [hy] at h1; cases h1
  | some y =>
    rw [hy] at h1
    have h2 : y.core = x.core := Option.some.inj h1
    obtain ⟨d, k, t, A, m, c, l⟩ := y
    simp only [RL.core, Prod.mk.injEq] at h2
    obtain ⟨rfl, rfl, rfl, rfl⟩ := h2
    exact ⟨A, m, c, rfl⟩
theorem rd_len {w : World} {x : RL} (h : Rd w 1 x.D (u8s x.l)) : x.m = x.l.length := by
  obtain ⟨_, _, _, he, h, _⟩ := h
  injection he with _ h1 h2
  rw [u8s_len] at h
  omega
theorem rd_some {w : World} {s m c : Nat} {A : Option Addr} {xs : List Value} (h : Rd w s (.slice A m c) xs) (hne : 0 < xs.length) : ∃ g o, A = some ⟨g, o, none⟩ := by
  obtain ⟨_, _, _, he, _, _, _, h | ⟨b, o, h, _⟩⟩ := h
  · subst h; cases hne
  · injection he with h1 h2
    exact ⟨b, o, h1.trans h⟩
theorem forall_snoc {p : RL → Prop} {ls : List RL} {x : RL} (h : ∀ z ∈ ls, p z) (hx : p x) : ∀ z ∈ ls ++ [x], p z := by
  intro z hz
  rcases List.mem_append.1 hz with hz | hz
  · exact h z hz
  · obtain rfl := List.mem_singleton.1 hz; exact hx
theorem forall_set {p : RL → Prop} {ls : List RL} {q : Nat} {x : RL} (h : ∀ z ∈ ls, p z) (hx : p x) : ∀ z ∈ ls.set q x, p z := by
  intro z hz
  rcases List.mem_or_eq_of_mem_set hz with hz | rfl
  · exact h z hz
  · exact hx
theorem bend_cases {w w' : World} {b q : Nat} {sv v : Value} {ds : List RL} {n bit : Int} {y : RL} (hn : n = q) (hy : ds[q]? = some y)
    (hC : (¬ (0 ≤ n ∧ n < (ds.length : Int)) ∧ v = .int .i64 7 ∧ At w (SS (road b sv ds)) (road b sv ds) w') ∨
      ∃ (i : Nat) (x : RL), n = i ∧ ds[i]? = some x ∧ ((x.t = true ∧ v = .int .i64 17 ∧ At w (SS (road b sv ds)) (road b sv ds) w') ∨ (x.t = false ∧ ¬ (0 ≤ bit ∧ bit < 8 * (x.l.length : Int)) ∧ v = .int .i64 4 ∧ At w (SS (road b sv ds)) (road b sv ds) w') ∨
        (x.t = false ∧ ∃ q : Nat, bit = q ∧ q < 8 * x.l.length ∧ v = .int .i64 0 ∧ At w (SS (road b sv ds)) (road b sv (ds.set i { x with t := true, l := flipB x.l q })) w'))) :
    ∃ (e : Int) (ds3 : List RL), v = .int .i64 e ∧ ((y.t = true ∧ e = 17 ∧ ds3 = ds) ∨ (y.t = false ∧ ¬ (0 ≤ bit ∧ bit < 8 * (y.l.length : Int)) ∧ e = 4 ∧ ds3 = ds) ∨
      (y.t = false ∧ ∃ p : Nat, bit = p ∧ p < 8 * y.l.length ∧ e = 0 ∧ ds3 = ds.set q { y with t := true, l := flipB y.l p })) ∧ At w (SS (road b sv ds)) (road b sv ds3) w' := by
  subst hn
  have hq := (List.getElem?_eq_some_iff.1 hy).1
  rcases hC with ⟨h1, _⟩ | ⟨i, x, hi, hx, hC⟩
  · exact absurd ⟨by omega, by omega⟩ h1
  · obtain rfl : q = i := by omega
    obtain rfl := Option.some.inj (hy.symm.trans hx)
    rcases hC with ⟨h1, rfl, hC⟩ | ⟨h1, h2, rfl, hC⟩ | ⟨h1, p, h2, h3, rfl, hC⟩
    · exact ⟨_, _, rfl, .inl ⟨h1, rfl, rfl⟩, hC⟩
    · exact ⟨_, _, rfl, .inr (.inl ⟨h1, h2, rfl, rfl⟩), hC⟩
    · exact ⟨_, _, rfl, .inr (.inr ⟨h1, p, h2, h3, rfl, rfl⟩), hC⟩
theorem erase_cells (ls : List RL) (q : Nat) : (([] : List Value) ++ ((flat ls).drop (0 * 4)).take ((q - 0) * 4)) ++ ((flat ls).drop ((q + 1) * 4)).take ((ls.length - (q + 1)) * 4) = flat (ls.eraseIdx q) := by
  rw [← flat_erase' ls q ls.length rfl]
  simp
theorem same_true {x y : RL} (h : y.core = x.core) : (y.d == x.d && y.k == x.k && y.t == x.t && decide (y.l = x.l)) = true := by
  simp only [RL.core, Prod.mk.injEq] at h
  obtain ⟨h1, h2, h3, h4⟩ := h
  simp [h1, h2, h3, h4]
theorem core_erase {ds ls : List RL} (q : Nat) (h : ds.map RL.core = ls.map RL.core) : (ds.eraseIdx q).map RL.core = (ls.eraseIdx q).map RL.core := by
  simp only [List.eraseIdx_eq_take_drop_succ, List.map_append, List.map_take, List.map_drop, h]
theorem core_snoc {ds ls : List RL} {y x : RL} (h : ds.map RL.core = ls.map RL.core) (hc : y.core = x.core) : (ds ++ [y]).map RL.core = (ls ++ [x]).map RL.core := by
  simp [h, hc]
theorem core_set {ds ls : List RL} {q : Nat} {y x : RL} (h : ds.map RL.core = ls.map RL.core) (hc : y.core = x.core) : (ds.set q y).map RL.core = (ls.set q x).map RL.core := by
  rw [List.map_set, List.map_set, h, hc]
/-- Between two calls: the road, and the law's own list. -/
def PL (w0 : World) (b i : Nat) (lv : Value) (ls : List RL) (w' : World) : Prop :=
  ∃ ds sv ks, ls.length ≤ i ∧ ds.map RL.core = ls.map RL.core ∧ (∀ x ∈ ls, x.l.length ≤ 2000) ∧ (∀ x ∈ ls, Rd w0 1 x.D (u8s x.l) ∨ (x.D, x.l) ∈ ks) ∧
    At w0 No ([Row 29 4 lv (flat ls)] ++ (road b sv ds ++ kr ks)) w'
theorem core_bound {ds ls : List RL} (h : ds.map RL.core = ls.map RL.core) (hl : ∀ x ∈ ls, x.l.length ≤ 2000) : ∀ x ∈ ds, x.l.length ≤ 2000 := by
  intro y hy
  have h1 : y.core ∈ ls.map RL.core := h ▸ List.mem_map_of_mem hy
  obtain ⟨x, hx, he⟩ := List.mem_map.1 h1
  have h2 : y.l = x.l := by
    simp only [RL.core, Prod.mk.injEq] at he
    exact he.2.2.2.symm
  rw [h2]
  exact hl x hx
theorem datas_mem {w0 w : World} {M : Nat → Prop} {A B ds : List RL} {F G : List Ch} {x : RL} (hx : x ∈ ds) (hA : At w0 M (F ++ (datas ds ++ G)) w) : Rd w 1 x.D (u8s x.l) :=
  IsRow.rd (hA.holds (Row 5 1 x.D (u8s x.l)) (List.mem_append_right _ (List.mem_append_left _ (List.mem_map.2 ⟨x, hx, rfl⟩))))
end Go.Proofs.Ytpgjmbppbckojaa
