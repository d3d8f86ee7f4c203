/-
  Arrays: built, indexed, in memory. Strings: indexed, cut, joined. No program in sight; nothing here is claimed.
-/
import Derived.Test.YtbcaooiphalkoaaDraw
set_option linter.unusedVariables false
set_option linter.unusedSimpArgs false
namespace Go.Proofs.Ytbcaooiphalkoaa
open Go Go.RowKit

variable {P : Program} {n : Nat} {N : Env → World → Prop} {X : Exit → Env → World → Prop} {ρ : Env} {w w' w0 : World} {M : Nat → Prop} {F : List Ch}
variable {ops : List Oper} {rest : List Oper} {d : Nat} {ty t tn : TypeId} {pos : String} {af : Array Edge} {v u : Value} {x y z : Operand} {k : IntKind} {a b : Int}

theorem fillS_eqG (place : Nat → Option (Nat × Nat)) (pl : List (Nat × Nat)) (hpl : ∀ i p, pl[i]? = some p → place i = some p) : ∀ (ps : List (Nat × Value)) (ls : List (Nat × List Value)) (cs out : List Value), ps.map (fun p => (p.1, p.2.cells.toList)) = ls → fillS cs pl ls = some out → Instr.fill place cs.toArray ps = some out.toArray
  | [], ls, cs, out, h, hf => by subst h; simp only [List.map_nil, fillS, Option.some.injEq] at hf; subst hf; rfl
  | (i, v) :: ps, ls, cs, out, h, hf => by
    subst h
    simp only [List.map_cons, fillS] at hf
    split at hf
    · rename_i off s hpl'
      split at hf
      · rename_i hc
        rw [fill_put (l := v.cells.toList) (off := off) (s := s) (hpl _ _ hpl') (by simp) hc.1 hc.2]
        exact fillS_eqG place pl hpl ps _ _ out rfl hf
      · cases hf
    · cases hf
/-- How an array of type t is put together. -/
def layOfA (P : Program) (t : TypeId) : Option (Option (Array Value) × Nat × Option Nat) :=
  match P.info? t, P.underlying t with
  | some it, some (.array m e) => some (it.zero.map (·.cells), m, (P.info? e).map (·.size))
  | _, _ => none
def LayA (P : Program) (t : TypeId) (z : List Value) (m s : Nat) : Prop := layOfA P t = some (some z.toArray, m, some s)
def arrPl (m s : Nat) : List (Nat × Nat) := (List.range m).map fun i => (i * s, s)
theorem run_buildA {zs : List Value} {m s : Nat} {parts : Array (Nat × Value)} {cs : Array Value} (h : LayA P t zs m s) (hf : Instr.fill (fun i => some (i * s, s)) zs.toArray parts.toList = some cs) : (Instr.build t parts).run P w = .ok (.agg cs) w := by
  refine run_build w t parts cs ?_
  unfold LayA layOfA at h
  unfold Program.built
  cases h1 : P.info? t with
  | none => rw [h1] at h; cases h
  | some it =>
    rw [h1] at h
    cases h2 : P.underlying t with
    | none => rw [h2] at h; cases h
    | some ds =>
      rw [h2] at h
      cases ds <;> simp only [Option.some.injEq, Prod.mk.injEq, reduceCtorEq] at h
      obtain ⟨h3, rfl, h4⟩ := h
      obtain ⟨zv, hz, hzc⟩ := Option.map_eq_some_iff.1 h3
      obtain ⟨ie, hie, rfl⟩ := Option.map_eq_some_iff.1 h4
      simp only [hz, hie, hzc, hf]
theorem r_buildA {zs : List Value} {m s : Nat} {parts : List (Nat × Operand)} {ls : List (Nat × List Value)} {cs : List Value} (hl : LayA P t zs m s) (hp : parts.map (fun p => (p.1, (evn n ρ p.2).cells.toList)) = ls) (hf : fillS zs (arrPl m s) ls = some cs) : Rn P n ρ w (.build t parts.toArray) ty (.agg cs.toArray) := by
  intro dd pos af
  have hf' := fillS_eqG (fun i => some (i * s, s)) (arrPl m s) (fun i p h => by
    unfold arrPl at h
    rw [List.getElem?_map] at h
    obtain ⟨j, hj, rfl⟩ := Option.map_eq_some_iff.1 h
    obtain ⟨hlt, rfl⟩ := List.getElem?_eq_some_iff.1 hj
    simp) (parts.map fun p => (p.1, evn n ρ p.2)) ls zs cs (by rw [← hp, List.map_map]; rfl) hf
  simp only [execOp, List.map_toArray, Sem.run_bind, run_buildA hl (show Instr.fill (fun i => some (i * s, s)) zs.toArray (parts.map fun p => (p.1, evn n ρ p.2)).toArray.toList = some cs.toArray from hf'), Result.andThen_ok, Sem.run_pure]
theorem o_buildA {zs : List Value} {m s : Nat} {parts : List (Nat × Operand)} {ls : List (Nat × List Value)} {cs : List Value} (hl : LayA P t zs m s) (hp : parts.map (fun p => (p.1, (evn n ρ p.2).cells.toList)) = ls) (hf : fillS zs (arrPl m s) ls = some cs)
    (h : O P n ops rest N X (upd ρ d (.agg cs.toArray)) w) : O P n ops (⟨some d, .build t parts.toArray, ty, pos, af, none⟩ :: rest) N X ρ w := O_rn (r_buildA hl hp hf) h
theorem r_indexA {e : TypeId} {m o s bb b : Nat} {zz : Value} {i : Int} (ht : P.underlying t = some (.array m e)) (he : TI P e zz s bb) (hx : evn n ρ x = .pointer (some ⟨b, o, none⟩)) (hy : evn n ρ y = .int k i) (h0 : 0 ≤ i) (hlt : i < m) : Rn P n ρ w (.indexAddr t x y) ty ((.pointer (some ⟨b, o + i.toNat * s, none⟩))) := by
  intro dd pos af
  have hadd : (⟨b, o, none⟩ : Addr).add (i.toNat * s) = ⟨b, o + i.toNat * s, none⟩ := by unfold Addr.add; split <;> simp_all
  simp [execOp, hx, hy, Instr.indexAt, asIntOf, run_underlying ht, Instr.sureAddr, h0, hlt, he.size, hadd]
theorem o_indexA {e : TypeId} {m o s bb b : Nat} {zz : Value} {i : Int} (ht : P.underlying t = some (.array m e)) (he : TI P e zz s bb) (hx : evn n ρ x = .pointer (some ⟨b, o, none⟩)) (hy : evn n ρ y = .int k i) (h0 : 0 ≤ i) (hlt : i < m) (h : O P n ops rest N X (upd ρ d ((.pointer (some ⟨b, o + i.toNat * s, none⟩)))) w) : O P n ops (⟨some d, .indexAddr t x y, ty, pos, af, none⟩ :: rest) N X ρ w := O_rn (r_indexA ht he hx hy h0 hlt) h
/-- An element of an array value: of one cell, of more. -/
theorem r_idx1 {e : TypeId} {m s bb : Nat} {zz : Value} {cs : List Value} {i : Int} (ht : P.underlying t = some (.array m e)) (ha : (P.underlying e).map aggD = some false) (he : TI P e zz s bb) (hx : evn n ρ x = .agg cs.toArray) (hy : evn n ρ y = .int k i) (h0 : 0 ≤ i) (hlt : i < m) (hc : cs[i.toNat * s]? = some v) : Rn P n ρ w (.index t x y) ty v := by
  intro dd pos af
  simp [execOp, hx, hy, Instr.index, asIntOf, run_underlying ht, h0, hlt, he.size, part, run_isAgg ha, hc]
theorem o_idx1 {e : TypeId} {m s bb : Nat} {zz : Value} {cs : List Value} {i : Int} (ht : P.underlying t = some (.array m e)) (ha : (P.underlying e).map aggD = some false) (he : TI P e zz s bb) (hx : evn n ρ x = .agg cs.toArray) (hy : evn n ρ y = .int k i) (h0 : 0 ≤ i) (hlt : i < m) (hc : cs[i.toNat * s]? = some v) (h : O P n ops rest N X (upd ρ d v) w) : O P n ops (⟨some d, .index t x y, ty, pos, af, none⟩ :: rest) N X ρ w := O_rn (r_idx1 ht ha he hx hy h0 hlt hc) h
theorem r_idxN {e : TypeId} {m s bb : Nat} {zz : Value} {cs ds : List Value} {i : Int} (ht : P.underlying t = some (.array m e)) (ha : (P.underlying e).map aggD = some true) (he : TI P e zz s bb) (hx : evn n ρ x = .agg cs.toArray) (hy : evn n ρ y = .int k i) (h0 : 0 ≤ i) (hlt : i < m) (hc : (cs.drop (i.toNat * s)).take s = ds) : Rn P n ρ w (.index t x y) ty (.agg ds.toArray) := by
  intro dd pos af
  have hex : cs.toArray.extract (i.toNat * s) (i.toNat * s + s) = ds.toArray := by
    rw [← hc]
    simp [List.extract_eq_take_drop, Nat.add_sub_cancel_left]
  simp [execOp, hx, hy, Instr.index, asIntOf, run_underlying ht, h0, hlt, he.size, part, run_isAgg ha, hex] <;> simpa using hex
theorem o_idxN {e : TypeId} {m s bb : Nat} {zz : Value} {cs ds : List Value} {i : Int} (ht : P.underlying t = some (.array m e)) (ha : (P.underlying e).map aggD = some true) (he : TI P e zz s bb) (hx : evn n ρ x = .agg cs.toArray) (hy : evn n ρ y = .int k i) (h0 : 0 ≤ i) (hlt : i < m) (hc : (cs.drop (i.toNat * s)).take s = ds) (h : O P n ops rest N X (upd ρ d (.agg ds.toArray)) w) : O P n ops (⟨some d, .index t x y, ty, pos, af, none⟩ :: rest) N X ρ w := O_rn (r_idxN ht ha he hx hy h0 hlt hc) h

/-! ### Strings -/
def bstr (l : List UInt8) : Value := .string ⟨l.toArray⟩
theorem bstr_size (l : List UInt8) : (⟨l.toArray⟩ : ByteArray).size = l.length := rfl
theorem r_idxS {l : List UInt8} {c : UInt8} {i : Int} (ht : P.underlying t = some .string) (hx : evn n ρ x = .string ⟨l.toArray⟩) (hy : evn n ρ y = .int k i) (h0 : 0 ≤ i) (hc : l[i.toNat]? = some c) : Rn P n ρ w (.index t x y) ty (.int .u8 c.toNat) := by
  intro dd pos af
  have hlt := (List.getElem?_eq_some_iff.1 hc).1
  have h1 : (⟨l.toArray⟩ : ByteArray)[i.toNat]? = some c := by
    rw [getElem?_pos (⟨l.toArray⟩ : ByteArray) i.toNat hlt]
    have : l[i.toNat] = c := (List.getElem?_eq_some_iff.1 hc).2
    rw [← this]; rfl
  simp [execOp, hx, hy, Instr.index, asIntOf, run_underlying ht, h0, h1]
theorem o_idxS {l : List UInt8} {c : UInt8} {i : Int} (ht : P.underlying t = some .string) (hx : evn n ρ x = .string ⟨l.toArray⟩) (hy : evn n ρ y = .int k i) (h0 : 0 ≤ i) (hc : l[i.toNat]? = some c) (h : O P n ops rest N X (upd ρ d (.int .u8 c.toNat)) w) : O P n ops (⟨some d, .index t x y, ty, pos, af, none⟩ :: rest) N X ρ w := O_rn (r_idxS ht hx hy h0 hc) h
theorem bytes_append (l m : List UInt8) : (⟨l.toArray⟩ : ByteArray) ++ ⟨m.toArray⟩ = ⟨(l ++ m).toArray⟩ := by
  apply ByteArray.ext
  simp
theorem r_adds {t' : TypeId} {l m : List UInt8} (hx : evn n ρ x = .string ⟨l.toArray⟩) (hy : evn n ρ y = .string ⟨m.toArray⟩) (hb : l.length + m.length ≤ 9223372036854775807) : Rn P n ρ w (.binOp .add t x y t') ty (.string ⟨(l ++ m).toArray⟩) := by
  intro dd pos af
  have h1 : ¬ (((⟨l.toArray⟩ : ByteArray).size + (⟨m.toArray⟩ : ByteArray).size : Nat) : Int) > IntKind.i64.max := by
    show ¬ ((l.length + m.length : Nat) : Int) > 9223372036854775807
    omega
  have h2 : (Op.stringOp .add ⟨l.toArray⟩ ⟨m.toArray⟩).run P w = .ok (.string ⟨(l ++ m).toArray⟩) w := by
    unfold Op.stringOp
    simp only
    rw [if_neg h1, bytes_append]; rfl
  simp [execOp, hx, hy, eqGuard, binOp, h2]
theorem o_adds {t' : TypeId} {l m : List UInt8} (hx : evn n ρ x = .string ⟨l.toArray⟩) (hy : evn n ρ y = .string ⟨m.toArray⟩) (hb : l.length + m.length ≤ 9223372036854775807) (h : O P n ops rest N X (upd ρ d (.string ⟨(l ++ m).toArray⟩)) w) : O P n ops (⟨some d, .binOp .add t x y t', ty, pos, af, none⟩ :: rest) N X ρ w := O_rn (r_adds hx hy hb) h
theorem r_unxor {r : Int} (hx : evn n ρ x = .int k a) (hr : bits .xor k (if k.signed = true then -1 else k.max) a = r) : Rn P n ρ w (.unOp .xor t x) ty (.int k r) := fun dd pos af => by
  subst hr
  simp [execOp, hx, Op.unary, Op.intBits, bits]
theorem o_unxor {r : Int} (hx : evn n ρ x = .int k a) (hr : bits .xor k (if k.signed = true then -1 else k.max) a = r) (h : O P n ops rest N X (upd ρ d (.int k r)) w) : O P n ops (⟨some d, .unOp .xor t x, ty, pos, af, none⟩ :: rest) N X ρ w := O_rn (r_unxor hx hr) h
end Go.Proofs.Ytbcaooiphalkoaa
