/-
  Words: what a value of the type Word reads as; when it is good (the program's way). Nothing here is claimed.
-/
import Derived.Test.YtbcaooiphalkoaaTy
import Derived.Test.YtbcaooiphalkoaaZeros
import Derived.Test.YtbcaooiphalkoaaEqs
set_option linter.unusedVariables false
set_option linter.unusedSimpArgs false
namespace Go.Proofs.Ytbcaooiphalkoaa
open Go Go.RowKit

/-! ### Lists in memory -/
theorem fm_len {α : Type} {f : α → List Value} {s : Nat} (hf : ∀ x, (f x).length = s) : ∀ l : List α, (l.flatMap f).length = l.length * s
  | [] => by simp
  | x :: l => by rw [List.flatMap_cons, List.length_append, fm_len hf l, hf, List.length_cons, Nat.add_mul, Nat.one_mul, Nat.add_comm]
theorem fm_cell {α : Type} {f : α → List Value} {s : Nat} (hf : ∀ x, (f x).length = s) : ∀ {l : List α} {i j : Nat} {x : α} {v : Value}, l[i]? = some x → (f x)[j]? = some v → (l.flatMap f)[i * s + j]? = some v
  | [], i, j, x, v, h, _ => by simp at h
  | q :: r, 0, j, x, v, h, hj => by
    simp at h; subst h
    have : j < (f q).length := (List.getElem?_eq_some_iff.1 hj).1
    rw [List.flatMap_cons, Nat.zero_mul, Nat.zero_add, List.getElem?_append_left this]; exact hj
  | q :: r, i + 1, j, x, v, h, hj => by
    simp at h
    have e : (i + 1) * s + j = (f q).length + (i * s + j) := by rw [hf, Nat.add_mul]; omega
    rw [List.flatMap_cons, e, List.getElem?_append_right (by omega), Nat.add_sub_cancel_left]
    exact fm_cell hf h hj
theorem Rd.lenm {w : World} {s m c : Nat} {A : Option Addr} {xs : List Value} {k : Nat} (h : Rd w s (.slice A m c) xs) (hs : 0 < s) (hk : xs.length = k * s) : m = k := by
  obtain ⟨_, _, _, he, h, _⟩ := h
  injection he with _ h1 h2
  subst h1
  exact Nat.eq_of_mul_eq_mul_right hs (by omega)
theorem Rd.capm {w : World} {s m c : Nat} {A : Option Addr} {xs : List Value} (h : Rd w s (.slice A m c) xs) : m ≤ c ∧ c ≤ maxLen := by
  obtain ⟨_, _, _, he, _, h1, h2, _⟩ := h
  injection he with _ e1 e2
  subst e1; subst e2
  exact ⟨h1, h2⟩
theorem Rd.lenf {w : World} {α : Type} {f : α → List Value} {s m c : Nat} {A : Option Addr} {l : List α} (h : Rd w s (.slice A m c) (l.flatMap f)) (hf : ∀ x, (f x).length = s) (hs : 0 < s) : m = l.length := h.lenm hs (fm_len hf l)
theorem Rd.lenp {w : World} {α : Type} {f : α → Value} {m c : Nat} {A : Option Addr} {l : List α} (h : Rd w 1 (.slice A m c) (l.map f)) : m = l.length := h.lenm (by decide) (by simp)
/-- An element's cells, where the program reads them. -/
theorem Rd.fld {w : World} {α : Type} {f : α → List Value} {s m c g o i j : Nat} {l : List α} {x : α} {v : Value} (h : Rd w s (.slice (some ⟨g, o, none⟩) m c) (l.flatMap f)) (hf : ∀ x, (f x).length = s) (hx : l[i]? = some x) (hj : (f x)[j]? = some v) : w.cell? ⟨g, o + (i : Int).toNat * s + j, none⟩ = some v := by
  have := h.cells (fm_cell hf hx hj)
  rwa [← Nat.add_assoc] at this
theorem Rd.elt {w : World} {α : Type} {f : α → Value} {m c g o i : Nat} {l : List α} {x : α} (h : Rd w 1 (.slice (some ⟨g, o, none⟩) m c) (l.map f)) (hx : l[i]? = some x) : w.cell? ⟨g, o + (i : Int).toNat * 1, none⟩ = some (f x) := by
  have := h.cells (j := i) (u := f x) (by simp [hx])
  rw [Int.toNat_natCast, Nat.mul_one]; exact this
theorem Rd.addr {w : World} {s m c k : Nat} {A : Option Addr} {xs : List Value} (h : Rd w s (.slice A m c) xs) (hs : 0 < s) (hk : xs.length = k * s) (hpos : 0 < k) : ∃ g o, A = some ⟨g, o, none⟩ := by
  obtain ⟨A', m', c', he, hl, hc, hm, hr⟩ := h
  rcases hr with hr | ⟨b, o, ho, hr⟩
  · subst hr
    have := Nat.mul_pos hpos hs
    simp at hk; omega
  · injection he with e1
    exact ⟨b, o, e1.trans ho⟩

/-! ### Words -/
structure Sl where
  A : Option Addr
  m : Nat
  c : Nat
abbrev Sl.v (s : Sl) : Value := .slice s.A s.m s.c
structure Cd where
  w : Int
  l : Nat
  k : Nat
structure Pp where
  f : Int
  t : Int
  d : List UInt8
structure Oo where
  w : Int
  o : Bool
  v : List Nat
structure Wd where
  kind : Int
  frm : Int
  why : Int
  cs : List Cd
  ps : List Pp
  vs : List Nat
  ws : List Int
  os : List Oo
def cdc (x : Cd) : List Value := [.int .i64 x.w, .int .u64 (x.l : Int), .int .u64 (x.k : Int)]
def ppc (x : Pp × Sl) : List Value := [.int .i64 x.1.f, .int .i64 x.1.t, x.2.v]
def ooc (x : Oo × Sl) : List Value := [.int .i64 x.1.w, .bool x.1.o, x.2.v]
def u8v (c : UInt8) : Value := .int .u8 c.toNat
def u64v (n : Nat) : Value := .int .u64 (n : Int)
def u32v (n : Nat) : Value := .int .u32 (n : Int)
def i64v (n : Int) : Value := .int .i64 n
/-- A word with the slices that it is made of. -/
structure WH where
  kind : Int
  frm : Int
  why : Int
  cs : List Cd
  ps : List (Pp × Sl)
  vs : List Nat
  ws : List Int
  os : List (Oo × Sl)
  c : Sl
  p : Sl
  v : Sl
  n : Sl
  o : Sl
def WH.x (h : WH) : Wd := ⟨h.kind, h.frm, h.why, h.cs, h.ps.map (·.1), h.vs, h.ws, h.os.map (·.1)⟩
def wdc (h : WH) : List Value := [.int .i64 h.kind, .int .i64 h.frm, .int .i64 h.why, .slice h.c.A h.c.m h.c.c, .slice h.p.A h.p.m h.p.c, .slice h.v.A h.v.m h.v.c, .slice h.n.A h.n.m h.n.c, .slice h.o.A h.o.m h.o.c]
structure RdW (w : World) (h : WH) : Prop where
  c : Rd w 3 (.slice h.c.A h.c.m h.c.c) (h.cs.flatMap cdc)
  p : Rd w 3 (.slice h.p.A h.p.m h.p.c) (h.ps.flatMap ppc)
  pd : ∀ x ∈ h.ps, Rd w 1 x.2.v (x.1.d.map u8v)
  v : Rd w 1 (.slice h.v.A h.v.m h.v.c) (h.vs.map u32v)
  n : Rd w 1 (.slice h.n.A h.n.m h.n.c) (h.ws.map i64v)
  o : Rd w 3 (.slice h.o.A h.o.m h.o.c) (h.os.flatMap ooc)
  od : ∀ x ∈ h.os, Rd w 1 x.2.v (x.1.v.map u64v)
theorem RdW.old {w0 w : World} {F : List Ch} {h : WH} (r : RdW w0 h) (k : At w0 No F w) : RdW w h :=
  ⟨r.c.old k, r.p.old k, fun x hx => (r.pd x hx).old k, r.v.old k, r.n.old k, r.o.old k, fun x hx => (r.od x hx).old k⟩
/-- The numbers stand in range of their kinds. -/
structure Kinds (x : Wd) : Prop where
  kind : -9223372036854775808 ≤ x.kind ∧ x.kind ≤ 9223372036854775807
  frm : -9223372036854775808 ≤ x.frm ∧ x.frm ≤ 9223372036854775807
  why : -9223372036854775808 ≤ x.why ∧ x.why ≤ 9223372036854775807
  cs : ∀ y ∈ x.cs, -9223372036854775808 ≤ y.w ∧ y.w ≤ 9223372036854775807 ∧ y.l < 18446744073709551616 ∧ y.k < 18446744073709551616
  ps : ∀ y ∈ x.ps, -9223372036854775808 ≤ y.f ∧ y.f ≤ 9223372036854775807 ∧ -9223372036854775808 ≤ y.t ∧ y.t ≤ 9223372036854775807
  vs : ∀ y ∈ x.vs, y < 4294967296
  ws : ∀ y ∈ x.ws, -9223372036854775808 ≤ y ∧ y ≤ 9223372036854775807
  os : ∀ y ∈ x.os, -9223372036854775808 ≤ y.w ∧ y.w ≤ 9223372036854775807 ∧ ∀ n ∈ y.v, n < 18446744073709551616
def whoP (n : Int) : Bool := decide (1 ≤ n) && decide (n ≤ 64)
def risAt (l : List Int) (i : Nat) : Bool := whoP ((l[i]?).getD 0) && (i == 0 || decide ((l[i - 1]?).getD 0 < (l[i]?).getD 0))
def risP (l : List Int) : Bool := (List.range l.length).all (risAt l)
theorem risP_no {l : List Int} {i : Nat} (hi : i < l.length) (h : risAt l i = false) : risP l = false := by
  unfold risP
  rw [Bool.eq_false_iff]
  intro hc
  have := List.all_eq_true.1 hc i (List.mem_range.2 hi)
  rw [h] at this; cases this
theorem risP_yes {l : List Int} (h : ∀ i, i < l.length → risAt l i = true) : risP l = true := List.all_eq_true.2 fun i hi => h i (List.mem_range.1 hi)
def wardenP (x : Wd) : Bool := x.kind == 2 || x.kind == 4 || x.kind == 6
def onlyP (x : Wd) : Bool := (x.cs.length == 0 || x.kind == 1 || x.kind == 2) && (x.ps.length == 0 || x.kind == 3 || x.kind == 4) && (x.vs.length == 0 || x.kind == 5) && (x.ws.length == 0 || x.kind == 6) && (x.os.length == 0 || x.kind == 7) && (x.why == 0 || x.kind == 8)
def parcelsP (ps : List Pp) (by_ other : Pp → Int) : Bool := ps.all (fun p => whoP (other p) && decide (p.d.length ≤ 64)) && risP (ps.map by_)
def bodyP (x : Wd) : Bool :=
  if x.kind = 1 then decide (x.cs.length = 1) && ((x.cs[0]?).map (·.w)).getD 0 == x.frm
  else if x.kind = 2 then risP (x.cs.map (·.w))
  else if x.kind = 3 then parcelsP x.ps (·.t) (·.f)
  else if x.kind = 4 then parcelsP x.ps (·.f) (·.t)
  else if x.kind = 5 then decide (x.vs.length ≤ 256)
  else if x.kind = 6 then risP x.ws
  else if x.kind = 7 then risP (x.os.map (·.w)) && !(x.os.any fun o => decide (5 < o.v.length))
  else decide (x.kind = 8) && decide (1 ≤ x.why) && decide (x.why ≤ 17)
def goodP (x : Wd) : Bool := decide (1 ≤ x.kind) && decide (x.kind ≤ 8) && decide (0 ≤ x.frm) && decide (x.frm ≤ 64) && (wardenP x == (x.frm == 0)) && onlyP x && bodyP x
/-- What stands in a *word. -/
def WordAt (w : World) (b : Nat) (h : WH) : Prop := ∀ j v, (wdc h)[j]? = some v → w.cell? ⟨b, j, none⟩ = some v
theorem WordAt.old {w0 w : World} {F : List Ch} {b : Nat} {h : WH} (r : WordAt w0 b h) (k : At w0 No F w) : WordAt w b h := fun j v hj => k.cell (r j v hj) id
end Go.Proofs.Ytbcaooiphalkoaa
