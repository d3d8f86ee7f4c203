/-
  One rule for each kind of operation. No program in sight; nothing here is claimed.
-/
import Derived.Test.YtbcaooiphalkoaaMem
import Derived.Laws.BytesArg
import Derived.Deep.OwnRows
import Derived.IntWalk
set_option linter.unusedVariables false
set_option linter.unusedSimpArgs false
namespace Go.Proofs.Ytbcaooiphalkoaa
open Go Go.RowKit

variable {P : Program} {n : Nat} {N : Env → World → Prop} {X : Exit → Env → World → Prop} {ρ : Env} {w w' w0 : World} {M : Nat → Prop} {F : List Ch}
variable {ops : List Oper} {rest : List Oper} {d : Nat} {ty t : TypeId} {pos : String} {af : Array Edge} {v u : Value} {x y z : Operand} {k : IntKind} {a b : Int}

/-- An operation that only looks: what it yields. -/
def Rn (P : Program) (n : Nat) (ρ : Env) (w : World) (op : Op) (ty : TypeId) (v : Value) : Prop := ∀ (d : Option Nat) (pos : String) (af : Array Edge), (execOp (evn n ρ) ⟨d, op, ty, pos, af, none⟩).run P w = .ok (.value v) w
theorem O_rn {op : Op} (h : Rn P n ρ w op ty v) (hk : O P n ops rest N X (upd ρ d v) w) : O P n ops (⟨some d, op, ty, pos, af, none⟩ :: rest) N X ρ w := O_val (h _ _ _) hk

/-! ### Without memory -/
theorem r_move (hx : evn n ρ x = v) : Rn P n ρ w (.move x) ty (v) := fun dd pos af =>
  by simp [execOp, hx]
theorem o_move (hx : evn n ρ x = v) (h : O P n ops rest N X (upd ρ d (v)) w) : O P n ops (⟨some d, .move x, ty, pos, af, none⟩ :: rest) N X ρ w := O_rn (r_move hx) h
theorem r_assign (hx : evn n ρ x = v) : Rn P n ρ w (.assign x) ty (v) := fun dd pos af =>
  by simp [execOp, hx]
theorem o_assign (hx : evn n ρ x = v) (h : O P n ops rest N X (upd ρ d (v)) w) : O P n ops (⟨some d, .assign x, ty, pos, af, none⟩ :: rest) N X ρ w := O_rn (r_assign hx) h
theorem r_pick {c : Bool} (hc : evn n ρ z = .bool c) : Rn P n ρ w (.pick z x y) ty ((if c then evn n ρ x else evn n ρ y)) := fun dd pos af =>
  by simp [execOp, hc, asBool]
theorem o_pick {c : Bool} (hc : evn n ρ z = .bool c) (h : O P n ops rest N X (upd ρ d ((if c then evn n ρ x else evn n ρ y))) w) : O P n ops (⟨some d, .pick z x y, ty, pos, af, none⟩ :: rest) N X ρ w := O_rn (r_pick hc) h
theorem r_pick_t (hc : evn n ρ z = .bool true) (hx : evn n ρ x = v) : Rn P n ρ w (.pick z x y) ty (v) := fun dd pos af =>
  by simp [execOp, hc, asBool, hx]
theorem o_pick_t (hc : evn n ρ z = .bool true) (hx : evn n ρ x = v) (h : O P n ops rest N X (upd ρ d (v)) w) : O P n ops (⟨some d, .pick z x y, ty, pos, af, none⟩ :: rest) N X ρ w := O_rn (r_pick_t hc hx) h
theorem r_pick_f (hc : evn n ρ z = .bool false) (hy : evn n ρ y = v) : Rn P n ρ w (.pick z x y) ty (v) := fun dd pos af =>
  by simp [execOp, hc, asBool, hy]
theorem o_pick_f (hc : evn n ρ z = .bool false) (hy : evn n ρ y = v) (h : O P n ops rest N X (upd ρ d (v)) w) : O P n ops (⟨some d, .pick z x y, ty, pos, af, none⟩ :: rest) N X ρ w := O_rn (r_pick_f hc hy) h
theorem r_not {c : Bool} (hx : evn n ρ x = .bool c) : Rn P n ρ w (.unOp .not t x) ty ((.bool (!c))) := fun dd pos af =>
  by simp [execOp, hx, Op.unary]
theorem o_not {c : Bool} (hx : evn n ρ x = .bool c) (h : O P n ops rest N X (upd ρ d ((.bool (!c)))) w) : O P n ops (⟨some d, .unOp .not t x, ty, pos, af, none⟩ :: rest) N X ρ w := O_rn (r_not hx) h
theorem r_extract {vs : Array Value} {j : Nat} (hx : evn n ρ x = .tuple vs) (hj : vs[j]? = some v) : Rn P n ρ w (.extract x j) ty (v) := fun dd pos af =>
  by simp [execOp, hx, Instr.extract, hj]
theorem o_extract {vs : Array Value} {j : Nat} (hx : evn n ρ x = .tuple vs) (hj : vs[j]? = some v) (h : O P n ops rest N X (upd ρ d (v)) w) : O P n ops (⟨some d, .extract x j, ty, pos, af, none⟩ :: rest) N X ρ w := O_rn (r_extract hx hj) h
theorem r_nilCheck {p : Addr} (hx : evn n ρ x = .pointer (some p)) : Rn P n ρ w (.nilCheck x) ty ((.pointer (some p))) := fun dd pos af =>
  by simp [execOp, hx]
theorem o_nilCheck {p : Addr} (hx : evn n ρ x = .pointer (some p)) (h : O P n ops rest N X (upd ρ d ((.pointer (some p)))) w) : O P n ops (⟨some d, .nilCheck x, ty, pos, af, none⟩ :: rest) N X ρ w := O_rn (r_nilCheck hx) h
theorem r_nilCheck_fn {f : FuncId} {fi ca : Array Value} (hx : evn n ρ x = .func (.func f) fi ca) : Rn P n ρ w (.nilCheck x) ty ((.func (.func f) fi ca)) := fun dd pos af =>
  by simp [execOp, hx]
theorem o_nilCheck_fn {f : FuncId} {fi ca : Array Value} (hx : evn n ρ x = .func (.func f) fi ca) (h : O P n ops rest N X (upd ρ d ((.func (.func f) fi ca))) w) : O P n ops (⟨some d, .nilCheck x, ty, pos, af, none⟩ :: rest) N X ρ w := O_rn (r_nilCheck_fn hx) h
theorem r_makeFunc {f : Fn} {fi ca : List Operand} {fi' ca' : List Value} (h1 : fi.map (evn n ρ) = fi') (h2 : ca.map (evn n ρ) = ca') : Rn P n ρ w (.makeFunc f fi.toArray ca.toArray) ty (.func f fi'.toArray ca'.toArray) := fun dd pos af =>
  by simp [execOp, h1, h2, Instr.makeFunc]
theorem o_makeFunc {f : Fn} {fi ca : List Operand} {fi' ca' : List Value} (h1 : fi.map (evn n ρ) = fi') (h2 : ca.map (evn n ρ) = ca') (h : O P n ops rest N X (upd ρ d (.func f fi'.toArray ca'.toArray)) w) : O P n ops (⟨some d, .makeFunc f fi.toArray ca.toArray, ty, pos, af, none⟩ :: rest) N X ρ w := O_rn (r_makeFunc h1 h2) h

theorem run_guard_int (op : BinOp) (x y : Operand) : (eqGuard op t x y (.int k a) (.int k b)).run P w = .ok () w := by
  cases op <;> simp [eqGuard]
theorem r_arith {op : BinOp} {t' : TypeId} {r : Int} (hop : op = .add ∧ k.wrap (a + b) = r ∨ op = .sub ∧ k.wrap (a - b) = r ∨ op = .mul ∧ k.wrap (a * b) = r) (hx : evn n ρ x = .int k a) (hy : evn n ρ y = .int k b) : Rn P n ρ w (.binOp op t x y t') ty ((.int k r)) := by
  intro dd pos af
  rcases hop with ⟨rfl, rfl⟩ | ⟨rfl, rfl⟩ | ⟨rfl, rfl⟩ <;> simp [execOp, hx, hy, run_guard_int, binOp, Op.intArith]
theorem o_arith {op : BinOp} {t' : TypeId} {r : Int} (hop : op = .add ∧ k.wrap (a + b) = r ∨ op = .sub ∧ k.wrap (a - b) = r ∨ op = .mul ∧ k.wrap (a * b) = r) (hx : evn n ρ x = .int k a) (hy : evn n ρ y = .int k b) (h : O P n ops rest N X (upd ρ d ((.int k r))) w) : O P n ops (⟨some d, .binOp op t x y t', ty, pos, af, none⟩ :: rest) N X ρ w := O_rn (r_arith hop hx hy) h
theorem r_add {t' : TypeId} {r : Int} (hx : evn n ρ x = .int k a) (hy : evn n ρ y = .int k b) (hr : k.wrap (a + b) = r) : Rn P n ρ w (.binOp .add t x y t') ty ((.int k r)) := r_arith (.inl ⟨rfl, hr⟩) hx hy
theorem o_add {t' : TypeId} {r : Int} (hx : evn n ρ x = .int k a) (hy : evn n ρ y = .int k b) (hr : k.wrap (a + b) = r) (h : O P n ops rest N X (upd ρ d ((.int k r))) w) : O P n ops (⟨some d, .binOp .add t x y t', ty, pos, af, none⟩ :: rest) N X ρ w := O_rn (r_add hx hy hr) h
theorem r_sub {t' : TypeId} {r : Int} (hx : evn n ρ x = .int k a) (hy : evn n ρ y = .int k b) (hr : k.wrap (a - b) = r) : Rn P n ρ w (.binOp .sub t x y t') ty ((.int k r)) := r_arith (.inr (.inl ⟨rfl, hr⟩)) hx hy
theorem o_sub {t' : TypeId} {r : Int} (hx : evn n ρ x = .int k a) (hy : evn n ρ y = .int k b) (hr : k.wrap (a - b) = r) (h : O P n ops rest N X (upd ρ d ((.int k r))) w) : O P n ops (⟨some d, .binOp .sub t x y t', ty, pos, af, none⟩ :: rest) N X ρ w := O_rn (r_sub hx hy hr) h
theorem r_mul {t' : TypeId} {r : Int} (hx : evn n ρ x = .int k a) (hy : evn n ρ y = .int k b) (hr : k.wrap (a * b) = r) : Rn P n ρ w (.binOp .mul t x y t') ty ((.int k r)) := r_arith (.inr (.inr ⟨rfl, hr⟩)) hx hy
theorem o_mul {t' : TypeId} {r : Int} (hx : evn n ρ x = .int k a) (hy : evn n ρ y = .int k b) (hr : k.wrap (a * b) = r) (h : O P n ops rest N X (upd ρ d ((.int k r))) w) : O P n ops (⟨some d, .binOp .mul t x y t', ty, pos, af, none⟩ :: rest) N X ρ w := O_rn (r_mul hx hy hr) h
/-- A comparison of two integers: c its answer. -/
def cmpI : BinOp → Int → Int → Option Bool
  | .eql, a, b => some (a == b) | .neq, a, b => some (a != b) | .lss, a, b => some (decide (a < b)) | .leq, a, b => some (decide (a ≤ b)) | .gtr, a, b => some (decide (a > b)) | .geq, a, b => some (decide (a ≥ b)) | _, _, _ => none
theorem r_cmp {op : BinOp} {t' : TypeId} {c : Bool} (hx : evn n ρ x = .int k a) (hy : evn n ρ y = .int k b) (hc : cmpI op a b = some c) : Rn P n ρ w (.binOp op t x y t') ty ((.bool c)) := by
  intro dd pos af
  cases op <;> simp only [cmpI, Option.some.injEq, reduceCtorEq] at hc <;> subst hc <;> simp [execOp, hx, hy, run_guard_int, binOp, Op.intCmp]
theorem o_cmp {op : BinOp} {t' : TypeId} {c : Bool} (hx : evn n ρ x = .int k a) (hy : evn n ρ y = .int k b) (hc : cmpI op a b = some c) (h : O P n ops rest N X (upd ρ d ((.bool c))) w) : O P n ops (⟨some d, .binOp op t x y t', ty, pos, af, none⟩ :: rest) N X ρ w := O_rn (r_cmp hx hy hc) h
theorem o_cmp2 {op : BinOp} {t' : TypeId} {c : Bool} (hx : evn n ρ x = .int k a) (hy : evn n ρ y = .int k b) (hc : cmpI op a b = some c) (h : c = true → O P n ops rest N X (upd ρ d (.bool true)) w) (h' : c = false → O P n ops rest N X (upd ρ d (.bool false)) w) : O P n ops (⟨some d, .binOp op t x y t', ty, pos, af, none⟩ :: rest) N X ρ w :=
  o_cmp hx hy hc (by cases c; exact h' rfl; exact h rfl)
theorem r_bits {op : BinOp} {t' : TypeId} {r : Int} (hop : op = .and ∨ op = .or ∨ op = .xor ∨ op = .andNot) (hx : evn n ρ x = .int k a) (hy : evn n ρ y = .int k b) (hr : bits op k a b = r) : Rn P n ρ w (.binOp op t x y t') ty ((.int k r)) := by
  intro dd pos af
  subst hr
  rcases hop with rfl | rfl | rfl | rfl <;> simp [execOp, hx, hy, run_guard_int, binOp, Op.intBits, bits]
theorem o_bits {op : BinOp} {t' : TypeId} {r : Int} (hop : op = .and ∨ op = .or ∨ op = .xor ∨ op = .andNot) (hx : evn n ρ x = .int k a) (hy : evn n ρ y = .int k b) (hr : bits op k a b = r) (h : O P n ops rest N X (upd ρ d ((.int k r))) w) : O P n ops (⟨some d, .binOp op t x y t', ty, pos, af, none⟩ :: rest) N X ρ w := O_rn (r_bits hop hx hy hr) h
theorem r_quo {t' : TypeId} {r : Int} (hx : evn n ρ x = .int k a) (hy : evn n ρ y = .int k b) (h0 : b ≠ 0) (hr : k.wrap (a.tdiv b) = r) : Rn P n ρ w (.binOp .quo t x y t') ty ((.int k r)) := fun dd pos af =>
  by subst hr; simp [execOp, hx, hy, run_guard_int, binOp, Op.intDiv, h0]
theorem o_quo {t' : TypeId} {r : Int} (hx : evn n ρ x = .int k a) (hy : evn n ρ y = .int k b) (h0 : b ≠ 0) (hr : k.wrap (a.tdiv b) = r) (h : O P n ops rest N X (upd ρ d ((.int k r))) w) : O P n ops (⟨some d, .binOp .quo t x y t', ty, pos, af, none⟩ :: rest) N X ρ w := O_rn (r_quo hx hy h0 hr) h
theorem r_rem {t' : TypeId} {r : Int} (hx : evn n ρ x = .int k a) (hy : evn n ρ y = .int k b) (h0 : b ≠ 0) (hr : a.tmod b = r) : Rn P n ρ w (.binOp .rem t x y t') ty ((.int k r)) := fun dd pos af =>
  by subst hr; simp [execOp, hx, hy, run_guard_int, binOp, Op.intDiv, h0]
theorem o_rem {t' : TypeId} {r : Int} (hx : evn n ρ x = .int k a) (hy : evn n ρ y = .int k b) (h0 : b ≠ 0) (hr : a.tmod b = r) (h : O P n ops rest N X (upd ρ d ((.int k r))) w) : O P n ops (⟨some d, .binOp .rem t x y t', ty, pos, af, none⟩ :: rest) N X ρ w := O_rn (r_rem hx hy h0 hr) h
theorem run_guard_shift (op : BinOp) (hop : op = .shl ∨ op = .shr) (x y : Operand) (u v : Value) : (eqGuard op t x y u v).run P w = .ok () w := by
  rcases hop with rfl | rfl <;> simp [eqGuard]
theorem r_shl {t' : TypeId} {k' : IntKind} {r : Int} (hx : evn n ρ x = .int k a) (hy : evn n ρ y = .int k' b) (h0 : 0 ≤ b) (hr : k.wrap (a * 2 ^ min b.toNat k.bits) = r) : Rn P n ρ w (.binOp .shl t x y t') ty ((.int k r)) := fun dd pos af =>
  by subst hr; simp [execOp, hx, hy, run_guard_shift, binOp, Op.shift, Int.not_lt.2 h0]
theorem o_shl {t' : TypeId} {k' : IntKind} {r : Int} (hx : evn n ρ x = .int k a) (hy : evn n ρ y = .int k' b) (h0 : 0 ≤ b) (hr : k.wrap (a * 2 ^ min b.toNat k.bits) = r) (h : O P n ops rest N X (upd ρ d ((.int k r))) w) : O P n ops (⟨some d, .binOp .shl t x y t', ty, pos, af, none⟩ :: rest) N X ρ w := O_rn (r_shl hx hy h0 hr) h
theorem r_shr {t' : TypeId} {k' : IntKind} {r : Int} (hx : evn n ρ x = .int k a) (hy : evn n ρ y = .int k' b) (h0 : 0 ≤ b) (hr : a.fdiv (2 ^ min b.toNat k.bits) = r) : Rn P n ρ w (.binOp .shr t x y t') ty ((.int k r)) := fun dd pos af =>
  by subst hr; simp [execOp, hx, hy, run_guard_shift, binOp, Op.shift, Int.not_lt.2 h0]
theorem o_shr {t' : TypeId} {k' : IntKind} {r : Int} (hx : evn n ρ x = .int k a) (hy : evn n ρ y = .int k' b) (h0 : 0 ≤ b) (hr : a.fdiv (2 ^ min b.toNat k.bits) = r) (h : O P n ops rest N X (upd ρ d ((.int k r))) w) : O P n ops (⟨some d, .binOp .shr t x y t', ty, pos, af, none⟩ :: rest) N X ρ w := O_rn (r_shr hx hy h0 hr) h
theorem equal_bool {p q : Bool} (ht : P.underlying t = some .bool) : (Op.equal t (.bool p) (.bool q)).run P w = .ok (p == q) w := by
  show (Op.equalIn (9999 + 1) t _ _).run P w = _
  unfold Op.equalIn
  simp [run_underlying ht]
theorem equal_nil {p : Option Addr} {e : TypeId} (ht : P.underlying t = some (.pointer e)) : (Op.equal t (.pointer p) (.pointer none)).run P w = .ok p.isNone w := by
  show (Op.equalIn (9999 + 1) t _ _).run P w = _
  unfold Op.equalIn
  cases p <;> simp [run_underlying ht]
/-- '==' and '!=' of bools, of strings, of pointers of which one is nil. -/
theorem r_eq {op : BinOp} {t' : TypeId} {c e : Bool} (hop : op = .eql ∧ c = e ∨ op = .neq ∧ c = !e) (hx : evn n ρ x = u) (hy : evn n ρ y = v) (hg : (eqGuard op t x y u v).run P w = .ok () w) (hb : ∀ op', op' = .eql ∨ op' = .neq → binOp op' t u v = (do let r ← Op.equal t u v; pure (.bool (if op' = .eql then r else !r))))
    (he : (Op.equal t u v).run P w = .ok e w) : Rn P n ρ w (.binOp op t x y t') ty (.bool c) := by
  intro dd pos af
  rcases hop with ⟨rfl, rfl⟩ | ⟨rfl, rfl⟩
  · simp [execOp, hx, hy, hg, hb .eql (.inl rfl), he]
  · simp [execOp, hx, hy, hg, hb .neq (.inr rfl), he]
theorem r_eqb {op : BinOp} {t' : TypeId} {c p q : Bool} (ht : P.underlying t = some .bool) (hx : evn n ρ x = .bool p) (hy : evn n ρ y = .bool q) (hop : op = .eql ∧ c = (p == q) ∨ op = .neq ∧ c = !(p == q)) : Rn P n ρ w (.binOp op t x y t') ty (.bool c) :=
  r_eq hop hx hy (by rcases hop with ⟨rfl, _⟩ | ⟨rfl, _⟩ <;> simp [eqGuard]) (by rintro op' (rfl | rfl) <;> simp [binOp] <;> rfl) (equal_bool ht)
theorem o_eqb {op : BinOp} {t' : TypeId} {c p q : Bool} (ht : P.underlying t = some .bool) (hx : evn n ρ x = .bool p) (hy : evn n ρ y = .bool q) (hop : op = .eql ∧ c = (p == q) ∨ op = .neq ∧ c = !(p == q)) (h : O P n ops rest N X (upd ρ d (.bool c)) w) : O P n ops (⟨some d, .binOp op t x y t', ty, pos, af, none⟩ :: rest) N X ρ w := O_rn (r_eqb ht hx hy hop) h
theorem r_eqs {op : BinOp} {t' : TypeId} {c : Bool} {p q : ByteArray} (hx : evn n ρ x = .string p) (hy : evn n ρ y = .string q) (hop : op = .eql ∧ c = decide (p = q) ∨ op = .neq ∧ c = !decide (p = q)) : Rn P n ρ w (.binOp op t x y t') ty ((.bool c)) := by
  intro dd pos af
  have e : (p.toList == q.toList) = decide (p = q) := by
    rw [Bool.eq_iff_iff, beq_iff_eq, decide_eq_true_eq, ByteArray.toList_eq, ByteArray.toList_eq]
    exact ⟨fun h => ByteArray.ext (Array.toList_inj.mp h), fun h => by rw [h]⟩
  rcases hop with ⟨rfl, rfl⟩ | ⟨rfl, rfl⟩ <;> simp [execOp, hx, hy, eqGuard, binOp, Op.stringOp, e]
theorem o_eqs {op : BinOp} {t' : TypeId} {c : Bool} {p q : ByteArray} (hx : evn n ρ x = .string p) (hy : evn n ρ y = .string q) (hop : op = .eql ∧ c = decide (p = q) ∨ op = .neq ∧ c = !decide (p = q)) (h : O P n ops rest N X (upd ρ d ((.bool c))) w) : O P n ops (⟨some d, .binOp op t x y t', ty, pos, af, none⟩ :: rest) N X ρ w := O_rn (r_eqs hx hy hop) h
theorem o_eqb2 {op : BinOp} {t' : TypeId} {c p q : Bool} (ht : P.underlying t = some .bool) (hx : evn n ρ x = .bool p) (hy : evn n ρ y = .bool q) (hop : op = .eql ∧ c = (p == q) ∨ op = .neq ∧ c = !(p == q)) (h : c = true → O P n ops rest N X (upd ρ d (.bool true)) w) (h' : c = false → O P n ops rest N X (upd ρ d (.bool false)) w) : O P n ops (⟨some d, .binOp op t x y t', ty, pos, af, none⟩ :: rest) N X ρ w :=
  o_eqb ht hx hy hop (by cases c; exact h' rfl; exact h rfl)
theorem o_eqs2 {op : BinOp} {t' : TypeId} {c : Bool} {p q : ByteArray} (hx : evn n ρ x = .string p) (hy : evn n ρ y = .string q) (hop : op = .eql ∧ c = decide (p = q) ∨ op = .neq ∧ c = !decide (p = q)) (h : c = true → O P n ops rest N X (upd ρ d (.bool true)) w) (h' : c = false → O P n ops rest N X (upd ρ d (.bool false)) w) : O P n ops (⟨some d, .binOp op t x y t', ty, pos, af, none⟩ :: rest) N X ρ w :=
  o_eqs hx hy hop (by cases c; exact h' rfl; exact h rfl)
/-- A pointer held against nil. -/
theorem r_eqnil {op : BinOp} {t' e : TypeId} {c : Bool} {p : Option Addr} (ht : P.underlying t = some (.pointer e)) (hx : evn n ρ x = .pointer p) (hy : evn n ρ y = .pointer none) (hop : op = .eql ∧ c = p.isNone ∨ op = .neq ∧ c = !p.isNone) : Rn P n ρ w (.binOp op t x y t') ty (.bool c) :=
  r_eq hop hx hy (by rcases hop with ⟨rfl, _⟩ | ⟨rfl, _⟩ <;> simp [eqGuard]) (by rintro op' (rfl | rfl) <;> simp [binOp] <;> rfl) (equal_nil ht)
theorem o_eqnil {op : BinOp} {t' e : TypeId} {c : Bool} {p : Option Addr} (ht : P.underlying t = some (.pointer e)) (hx : evn n ρ x = .pointer p) (hy : evn n ρ y = .pointer none) (hop : op = .eql ∧ c = p.isNone ∨ op = .neq ∧ c = !p.isNone) (h : O P n ops rest N X (upd ρ d (.bool c)) w) : O P n ops (⟨some d, .binOp op t x y t', ty, pos, af, none⟩ :: rest) N X ρ w := O_rn (r_eqnil ht hx hy hop) h
theorem o_eqnil2 {op : BinOp} {t' e : TypeId} {c : Bool} {p : Option Addr} (ht : P.underlying t = some (.pointer e)) (hx : evn n ρ x = .pointer p) (hy : evn n ρ y = .pointer none) (hop : op = .eql ∧ c = p.isNone ∨ op = .neq ∧ c = !p.isNone) (h : c = true → O P n ops rest N X (upd ρ d (.bool true)) w) (h' : c = false → O P n ops rest N X (upd ρ d (.bool false)) w) : O P n ops (⟨some d, .binOp op t x y t', ty, pos, af, none⟩ :: rest) N X ρ w :=
  o_eqnil ht hx hy hop (by cases c; exact h' rfl; exact h rfl)
theorem equal_nils {A : Option Addr} {m c l' c' : Nat} {e : TypeId} (ht : P.underlying t = some (.slice e)) : (Op.equal t (.slice A m c) (.slice none l' c')).run P w = .ok A.isNone w := by
  show (Op.equalIn (9999 + 1) t _ _).run P w = _
  unfold Op.equalIn
  cases A <;> simp [run_underlying ht]
/-- A slice held against nil. -/
theorem r_eqnils {op : BinOp} {t' e : TypeId} {c : Bool} {A : Option Addr} {m cc l' c' : Nat} (ht : P.underlying t = some (.slice e)) (hx : evn n ρ x = .slice A m cc) (hy : evn n ρ y = .slice none l' c') (hop : op = .eql ∧ c = A.isNone ∨ op = .neq ∧ c = !A.isNone) : Rn P n ρ w (.binOp op t x y t') ty (.bool c) :=
  r_eq hop hx hy (by rcases hop with ⟨rfl, _⟩ | ⟨rfl, _⟩ <;> simp [eqGuard]) (by rintro op' (rfl | rfl) <;> simp [binOp] <;> rfl) (equal_nils ht)
theorem o_eqnils {op : BinOp} {t' e : TypeId} {c : Bool} {A : Option Addr} {m cc l' c' : Nat} (ht : P.underlying t = some (.slice e)) (hx : evn n ρ x = .slice A m cc) (hy : evn n ρ y = .slice none l' c') (hop : op = .eql ∧ c = A.isNone ∨ op = .neq ∧ c = !A.isNone) (h : O P n ops rest N X (upd ρ d (.bool c)) w) : O P n ops (⟨some d, .binOp op t x y t', ty, pos, af, none⟩ :: rest) N X ρ w := O_rn (r_eqnils ht hx hy hop) h
theorem o_eqnils2 {op : BinOp} {t' e : TypeId} {c : Bool} {A : Option Addr} {m cc l' c' : Nat} (ht : P.underlying t = some (.slice e)) (hx : evn n ρ x = .slice A m cc) (hy : evn n ρ y = .slice none l' c') (hop : op = .eql ∧ c = A.isNone ∨ op = .neq ∧ c = !A.isNone) (h : c = true → O P n ops rest N X (upd ρ d (.bool true)) w) (h' : c = false → O P n ops rest N X (upd ρ d (.bool false)) w) : O P n ops (⟨some d, .binOp op t x y t', ty, pos, af, none⟩ :: rest) N X ρ w :=
  o_eqnils ht hx hy hop (by cases c; exact h' rfl; exact h rfl)
theorem r_conv {s t : TypeId} {k' : IntKind} {ds : TypeDesc} {r : Int} (hs : P.underlying s = some ds) (ht : P.underlying t = some (.int k')) (hx : evn n ρ x = .int k a) (hr : k'.wrap a = r) : Rn P n ρ w (.convert s t x) ty ((.int k' r)) := fun dd pos af =>
  by subst hr; simp [execOp, hx, convert, run_underlying hs, run_underlying ht, Conv.intToInt]
theorem o_conv {s t : TypeId} {k' : IntKind} {ds : TypeDesc} {r : Int} (hs : P.underlying s = some ds) (ht : P.underlying t = some (.int k')) (hx : evn n ρ x = .int k a) (hr : k'.wrap a = r) (h : O P n ops rest N X (upd ρ d ((.int k' r))) w) : O P n ops (⟨some d, .convert s t x, ty, pos, af, none⟩ :: rest) N X ρ w := O_rn (r_conv hs ht hx hr) h
theorem r_min {xs : List Operand} {ts : Array TypeId} {r : Int} (hx : xs.map (evn n ρ) = [.int k a, .int k b]) (hr : (if b < a then b else a) = r) : Rn P n ρ w (.call ⟨.builtin .min, xs.toArray, ts⟩) ty ((.int k r)) := fun dd pos af =>
  by subst hr; simp [execOp, resolve, invoke, builtin, Builtin.min_, Builtin.min2, hx]
theorem o_min {xs : List Operand} {ts : Array TypeId} {r : Int} (hx : xs.map (evn n ρ) = [.int k a, .int k b]) (hr : (if b < a then b else a) = r) (h : O P n ops rest N X (upd ρ d ((.int k r))) w) : O P n ops (⟨some d, .call ⟨.builtin .min, xs.toArray, ts⟩, ty, pos, af, none⟩ :: rest) N X ρ w := O_rn (r_min hx hr) h
theorem r_max {xs : List Operand} {ts : Array TypeId} {r : Int} (hx : xs.map (evn n ρ) = [.int k a, .int k b]) (hr : (if b > a then b else a) = r) : Rn P n ρ w (.call ⟨.builtin .max, xs.toArray, ts⟩) ty ((.int k r)) := fun dd pos af =>
  by subst hr; simp [execOp, resolve, invoke, builtin, Builtin.max_, Builtin.max2, hx]
theorem o_max {xs : List Operand} {ts : Array TypeId} {r : Int} (hx : xs.map (evn n ρ) = [.int k a, .int k b]) (hr : (if b > a then b else a) = r) (h : O P n ops rest N X (upd ρ d ((.int k r))) w) : O P n ops (⟨some d, .call ⟨.builtin .max, xs.toArray, ts⟩, ty, pos, af, none⟩ :: rest) N X ρ w := O_rn (r_max hx hr) h
theorem r_len {m c : Nat} {A : Option Addr} {t e : TypeId} (ht : P.underlying t = some (.slice e)) (hx : evn n ρ x = .slice A m c) : Rn P n ρ w (.call ⟨.builtin .len, #[x], #[t]⟩) ty ((.int .i64 m)) := fun dd pos af =>
  by simp [execOp, resolve, invoke, builtin, Builtin.len_, hx, run_underlying ht, goInt]
theorem o_len {m c : Nat} {A : Option Addr} {t e : TypeId} (ht : P.underlying t = some (.slice e)) (hx : evn n ρ x = .slice A m c) (h : O P n ops rest N X (upd ρ d ((.int .i64 m))) w) : O P n ops (⟨some d, .call ⟨.builtin .len, #[x], #[t]⟩, ty, pos, af, none⟩ :: rest) N X ρ w := O_rn (r_len ht hx) h
theorem r_lens {s : ByteArray} {t : TypeId} (ht : P.underlying t = some .string) (hx : evn n ρ x = .string s) : Rn P n ρ w (.call ⟨.builtin .len, #[x], #[t]⟩) ty ((.int .i64 s.size)) := fun dd pos af =>
  by simp [execOp, resolve, invoke, builtin, Builtin.len_, hx, run_underlying ht, goInt]
theorem o_lens {s : ByteArray} {t : TypeId} (ht : P.underlying t = some .string) (hx : evn n ρ x = .string s) (h : O P n ops rest N X (upd ρ d ((.int .i64 s.size))) w) : O P n ops (⟨some d, .call ⟨.builtin .len, #[x], #[t]⟩, ty, pos, af, none⟩ :: rest) N X ρ w := O_rn (r_lens ht hx) h
/-- A call of a function value. -/
theorem O_callv {g : Nat} {fn : Func} {xs : List Operand} {ts : Array TypeId} {f : Operand} {fi ca as : List Value} {R : Value → World → Prop} (hf : Ent P g fn) (hv : evn n ρ f = .func (.func g) fi.toArray ca.toArray) (ha : fi ++ xs.map (evn n ρ) ++ ca = as)
    (h : Calls P g as.toArray w fun e w' => ∃ v, e = .returned v ∧ R v w') (hk : ∀ v w', R v w' → O P n ops rest N X (upd ρ d v) w') :
    O P n ops (⟨some d, .call ⟨.value f, xs.toArray, ts⟩, ty, pos, af, none⟩ :: rest) N X ρ w := by
  refine ⟨wpList_plain rfl fun K hK => ?_⟩
  have h1 : ¬ fn.name = "runtime.NumGoroutine" := by simpa using hf.name
  have h2 : ¬ fn.body = none := by
    intro h
    have := hf.body
    rw [h] at this
    cases this
  have hrun : (execOp (evn n ρ) ⟨some d, .call ⟨.value f, xs.toArray, ts⟩, ty, pos, af, none⟩).run P w = .ok (.enter g as.toArray) w := by
    subst ha
    simp [execOp, resolve, hv, Deferred.ofValue, invoke, callFunc, hf.at_, h1, h2]
  unfold Oper.wp
  rw [act_eval, hrun, Oper.upon_enter]
  refine Calls.mono h fun e w' he => ?_
  obtain ⟨v, rfl, hv⟩ := he
  refine hK _ _ ?_
  show wpList _ _ _ _ ((act n ρ).put (some d) v) _
  rw [act_put]; exact (hk v w' hv).out

/-! ### Types -/
def aggD : TypeDesc → Bool
  | .struct _ | .array _ _ => true
  | _ => false
def TI (P : Program) (t : TypeId) (z : Value) (s b : Nat) : Prop := (P.info? t).map (fun i => (i.zero, i.size, i.bytes)) = some (some z, s, b)
/-- Where field f of struct t begins, and how many cells it has. -/
def fof (P : Program) (t f : Nat) : Option (Nat × Nat) :=
  match P.underlying t with
  | some (.struct fs) => match fs[f]? with
    | some fd => (P.info? fd.type).map fun i => (fd.offset, i.size)
    | none => none
  | _ => none
theorem TI.size {z : Value} {s b : Nat} (h : TI P t z s b) : (sizeOf t).run P w = .ok s w := by
  obtain ⟨i, hi, hz⟩ := Option.map_eq_some_iff.1 h
  simp only [Prod.mk.injEq] at hz
  simp [sizeOf, typeInfo, hi, hz.2.1]
theorem TI.zero {z : Value} {s b : Nat} (h : TI P t z s b) : (zeroValue t).run P w = .ok z w := by
  obtain ⟨i, hi, hz⟩ := Option.map_eq_some_iff.1 h
  simp only [Prod.mk.injEq] at hz
  simp [zeroValue, typeInfo, hi, hz.1]
theorem run_isAgg {c : Bool} (h : (P.underlying t).map aggD = some c) : (isAgg t).run P w = .ok c w := by
  obtain ⟨ds, hd, hc⟩ := Option.map_eq_some_iff.1 h
  subst hc
  cases ds <;> simp [isAgg, run_underlying hd, aggD]

/-! ### Places -/
theorem r_fieldAddr {f off s b o : Nat} (hf : fof P t f = some (off, s)) (hs : Nat.blt 0 s = true) (hx : evn n ρ x = .pointer (some ⟨b, o, none⟩)) : Rn P n ρ w (.fieldAddr t x f) ty ((.pointer (some ⟨b, o + off, none⟩))) := by
  intro dd pos af
  unfold fof at hf
  split at hf
  · rename_i fs hu
    split at hf
    · rename_i fd hfd
      obtain ⟨i, hi, hz⟩ := Option.map_eq_some_iff.1 hf
      simp only [Prod.mk.injEq] at hz
      have h0 : ¬ i.size = 0 := by rw [hz.2]; rw [Nat.blt_eq] at hs; omega
      have hadd : (⟨b, o, none⟩ : Addr).add fd.offset = ⟨b, o + off, none⟩ := by rw [hz.1]; unfold Addr.add; split <;> simp_all
      simp [execOp, hx, Instr.fieldAt, run_underlying hu, hfd, Instr.sureAddr, fieldPlace, sizeOf, typeInfo, hi, h0, hadd]
    · cases hf
  · cases hf
theorem o_fieldAddr {f off s b o : Nat} (hf : fof P t f = some (off, s)) (hs : Nat.blt 0 s = true) (hx : evn n ρ x = .pointer (some ⟨b, o, none⟩)) (h : O P n ops rest N X (upd ρ d ((.pointer (some ⟨b, o + off, none⟩)))) w) : O P n ops (⟨some d, .fieldAddr t x f, ty, pos, af, none⟩ :: rest) N X ρ w := O_rn (r_fieldAddr hf hs hx) h
theorem r_index {e : TypeId} {m c b o s bb : Nat} {zz : Value} {i : Int} (ht : P.underlying t = some (.slice e)) (he : TI P e zz s bb) (hx : evn n ρ x = .slice (some ⟨b, o, none⟩) m c) (hy : evn n ρ y = .int k i) (h0 : 0 ≤ i) (hlt : i < m) : Rn P n ρ w (.indexAddr t x y) ty ((.pointer (some ⟨b, o + i.toNat * s, none⟩))) := by
  intro dd pos af
  have hadd : (⟨b, o, none⟩ : Addr).add (i.toNat * s) = ⟨b, o + i.toNat * s, none⟩ := by unfold Addr.add; split <;> simp_all
  simp [execOp, hx, hy, Instr.indexAt, asIntOf, run_underlying ht, h0, hlt, he.size, hadd]
theorem o_index {e : TypeId} {m c b o s bb : Nat} {zz : Value} {i : Int} (ht : P.underlying t = some (.slice e)) (he : TI P e zz s bb) (hx : evn n ρ x = .slice (some ⟨b, o, none⟩) m c) (hy : evn n ρ y = .int k i) (h0 : 0 ≤ i) (hlt : i < m) (h : O P n ops rest N X (upd ρ d ((.pointer (some ⟨b, o + i.toNat * s, none⟩)))) w) : O P n ops (⟨some d, .indexAddr t x y, ty, pos, af, none⟩ :: rest) N X ρ w := O_rn (r_index ht he hx hy h0 hlt) h
/-! ### Loads -/
theorem r_load1 {p : Addr} (ht : (P.underlying t).map aggD = some false) (hx : evn n ρ x = .pointer (some p)) (hc : w.cell? p = some v) : Rn P n ρ w (.load t x) ty (v) := fun dd pos af =>
  by simp [execOp, hx, Instr.loadAt, Instr.sureAddr, loadVar, run_isAgg ht, hc]
theorem o_load1 {p : Addr} (ht : (P.underlying t).map aggD = some false) (hx : evn n ρ x = .pointer (some p)) (hc : w.cell? p = some v) (h : O P n ops rest N X (upd ρ d (v)) w) : O P n ops (⟨some d, .load t x, ty, pos, af, none⟩ :: rest) N X ρ w := O_rn (r_load1 ht hx hc) h
theorem o_load1b {p : Addr} {c : Bool} (ht : (P.underlying t).map aggD = some false) (hx : evn n ρ x = .pointer (some p)) (hc : w.cell? p = some (.bool c)) (h : c = true → O P n ops rest N X (upd ρ d (.bool true)) w) (h' : c = false → O P n ops rest N X (upd ρ d (.bool false)) w) : O P n ops (⟨some d, .load t x, ty, pos, af, none⟩ :: rest) N X ρ w :=
  o_load1 ht hx hc (by cases c; exact h' rfl; exact h rfl)
theorem r_loadN {b o s bb : Nat} {zz : Value} {cs : List Value} (ht : (P.underlying t).map aggD = some true) (he : TI P t zz s bb) (hx : evn n ρ x = .pointer (some ⟨b, o, none⟩)) (hl : cs.length = s) (hc : ∀ j v, cs[j]? = some v → w.cell? ⟨b, o + j, none⟩ = some v) : Rn P n ρ w (.load t x) ty ((.agg cs.toArray)) := by
  intro dd pos af
  have hl' : (loadCells ⟨b, o, none⟩ cs.length).run P w = .ok cs.toArray w := run_loadCells_list w _ cs fun j v hj => by
    have : (⟨b, o, none⟩ : Addr).add j = ⟨b, o + j, none⟩ := by unfold Addr.add; split <;> simp_all
    rw [this]; exact hc j v hj
  subst hl
  simp [execOp, hx, Instr.loadAt, Instr.sureAddr, loadVar, run_isAgg ht, he.size, hl']
theorem o_loadN {b o s bb : Nat} {zz : Value} {cs : List Value} (ht : (P.underlying t).map aggD = some true) (he : TI P t zz s bb) (hx : evn n ρ x = .pointer (some ⟨b, o, none⟩)) (hl : cs.length = s) (hc : ∀ j v, cs[j]? = some v → w.cell? ⟨b, o + j, none⟩ = some v) (h : O P n ops rest N X (upd ρ d ((.agg cs.toArray))) w) : O P n ops (⟨some d, .load t x, ty, pos, af, none⟩ :: rest) N X ρ w := O_rn (r_loadN ht he hx hl hc) h
/-! ### New blocks -/
theorem fresh_cell {T : TypeId} {cs : List Value} (hA : At w0 M F w) : At w0 M (Cell w.heap.size T cs :: F) (w.alloc (.cells cs.toArray T)) :=
  hA.alloc _ _ (fun b hb => hb) (heap_alloc_new w _)
theorem o_box {cs : List Value} (hA : At w0 M F w) (hx : evn n ρ x = v) (hcs : v.cells = cs.toArray) (h : ∀ b w', At w0 M (Cell b t cs :: F) w' → O P n ops rest N X (upd ρ d (.pointer (some ⟨b, 0, none⟩))) w') : O P n ops (⟨some d, .box t x, ty, pos, af, none⟩ :: rest) N X ρ w :=
  O_val (w' := w.alloc (.cells cs.toArray t)) (by simp [execOp, hx, Instr.box, newVar, newRow, hcs]) (h _ _ (fresh_cell hA))
theorem o_alloc {zz : Value} {s bb : Nat} {cs : List Value} (hA : At w0 M F w) (he : TI P t zz s bb) (hcs : zz.cells = cs.toArray) (h : ∀ b w', At w0 M (Cell b t cs :: F) w' → O P n ops rest N X (upd ρ d (.pointer (some ⟨b, 0, none⟩))) w') : O P n ops (⟨some d, .alloc t, ty, pos, af, none⟩ :: rest) N X ρ w :=
  O_val (w' := w.alloc (.cells cs.toArray t)) (by simp [execOp, Instr.alloc, he.zero, newVar, newRow, hcs]) (h _ _ (fresh_cell hA))

/-! ### Stores into a variable -/
theorem perm_set {F : List Ch} {c' : Ch} : ∀ (i : Nat) (c : Ch), F[i]? = some c → (c' :: F.eraseIdx i).Perm (F.set i c') := by
  induction F with
  | nil => intro i c h; simp at h
  | cons d F ih =>
    intro i c h
    cases i with
    | zero => exact List.Perm.refl _
    | succ i => simp at h; exact (List.Perm.swap d c' _).trans ((ih i c h).cons d)
theorem At.setRow {i b : Nat} {T : TypeId} {cs cs' : List Value} (hA : At w0 M F w) (hi : F[i]? = some (Cell b T cs)) : At w0 M (F.set i (Cell b T cs')) (w.setRow b cs'.toArray) :=
  ((hA.pull i hi).putRow).perm (perm_set i _ hi)
def oneAll : List Value → Bool
  | [] => true
  | v :: l => v.oneCell' && oneAll l
theorem oneAll_mem : ∀ (l : List Value), oneAll l = true → ∀ u ∈ l, u.oneCell' = true
  | [], _, u, hu => by cases hu
  | v :: l, h, u, hu => by
    simp only [oneAll, Bool.and_eq_true] at h
    rcases List.mem_cons.1 hu with rfl | hu
    · exact h.1
    · exact oneAll_mem l h.2 u hu
theorem run_storeVar {i b off s bb : Nat} {zz : Value} {T : TypeId} {cs : List Value} (hA : At w0 M F w) (hi : F[i]? = some (Cell b T cs)) (he : TI P t zz s bb) (hs : v.cells.size = s) (hoff : off + s ≤ cs.length) (h1 : oneAll v.cells.toList = true) :
    (storeVar t ⟨b, off, none⟩ v).run P w = .ok () (w.setRow b (cs.take off ++ v.cells.toList ++ cs.drop (off + s)).toArray) := by
  have hb : w.heap[b]? = some (.cells cs.toArray T (0, 0)) := hA.get i hi
  have hl : v.cells.toList.length = s := by simpa using hs
  have h := run_storeCells_at P b off T v.cells.toList 0 cs.toArray w hb (by simp [hs]; omega) (oneAll_mem _ h1)
  simp only [Nat.add_zero, hl] at h
  simp [storeVar, he.size, hs, h]
theorem o_store {i b off s bb : Nat} {zz : Value} {T : TypeId} {cs cs' : List Value} (hA : At w0 M F w) (hx : evn n ρ x = .pointer (some ⟨b, off, none⟩)) (hy : evn n ρ y = v) (hi : F[i]? = some (Cell b T cs)) (he : TI P t zz s bb) (hs : v.cells.size = s) (hoff : Nat.ble (off + s) cs.length = true) (h1 : oneAll v.cells.toList = true)
    (hcs : cs.take off ++ v.cells.toList ++ cs.drop (off + s) = cs') (h : ∀ w', At w0 M (F.set i (Cell b T cs')) w' → O P n ops rest N X ρ w') : O P n ops (⟨none, .store t x y, ty, pos, af, none⟩ :: rest) N X ρ w := by
  subst hcs
  exact O_unit (by simp [execOp, hx, hy, Instr.storeAt, Instr.sureAddr, run_storeVar hA hi he hs (Nat.le_of_ble_eq_true hoff) h1]) (h _ (hA.setRow hi))

theorem o_storeRow {i g off s m c e sz bb : Nat} {zz : Value} {xs xs' : List Value} (hA : At w0 M F w) (hx : evn n ρ x = .pointer (some ⟨g, off, none⟩)) (hy : evn n ρ y = v) (hi : F[i]? = some (Row e s (.slice (some ⟨g, 0, none⟩) m c) xs)) (he : TI P t zz sz bb) (hs : v.cells.size = sz) (hsz : Nat.blt 0 sz = true) (hoff : off + sz ≤ xs.length) (h1 : oneAll v.cells.toList = true)
    (hcs : xs.take off ++ v.cells.toList ++ xs.drop (off + sz) = xs') (h : ∀ w', At w0 M (F.set i (Row e s (.slice (some ⟨g, 0, none⟩) m c) xs')) w' → O P n ops rest N X ρ w') : O P n ops (⟨none, .store t x y, ty, pos, af, none⟩ :: rest) N X ρ w := by
  subst hcs
  obtain ⟨A', m', c'', he', hl, hmc, hcm, hr⟩ := hA.row i hi
  injection he' with e1 e2 e3
  subst e1; subst e2; subst e3
  have hsz' : 0 < sz := by rw [Nat.blt_eq] at hsz; exact hsz
  have hm0 : 0 < m := by
    rcases Nat.eq_zero_or_pos m with h0 | h0
    · subst h0; rw [Nat.zero_mul] at hl; omega
    · exact h0
  obtain ⟨g', cur, hg', hgh, hcs, htk⟩ := hr.resolve_left (by omega)
  injection hg' with hg'
  injection hg' with hg'
  subst hg'
  have hms : m * s ≤ cur.size := Nat.le_trans (Nat.mul_le_mul_right _ hmc) hcs
  have hvl : v.cells.toList.length = sz := by simpa using hs
  have hst := run_storeCells_at P g off e v.cells.toList 0 cur w hgh (by rw [hvl]; omega) (oneAll_mem _ h1)
  simp only [Nat.add_zero, hvl] at hst
  have hA' : At w0 M (F.set i (Row e s (.slice (some ⟨g, 0, none⟩) m c) (xs.take off ++ v.cells.toList ++ xs.drop (off + sz)))) (w.setRow g (cur.toList.take off ++ v.cells.toList ++ cur.toList.drop (off + sz)).toArray) := by
    refine ((hA.pull i hi).wrote (w' := w.setRow g (cur.toList.take off ++ v.cells.toList ++ cur.toList.drop (off + sz)).toArray) (c' := Row e s (.slice (some ⟨g, 0, none⟩) m c) (xs.take off ++ v.cells.toList ++ xs.drop (off + sz))) rfl rfl rfl (by simp) (fun x hx => setRow_other w g x _ fun e => hx ⟨_, m, c, rfl, by omega, e.symm⟩) ?_ (fun b hb => hb)).perm (perm_set i _ hi)
    refine ⟨_, m, c, rfl, ?_, hmc, hcm, .inr ⟨g, _, rfl, setRow_heap w g cur _ e _ hgh, ?_, ?_⟩⟩
    · simp only [List.length_append, List.length_take, List.length_drop, hvl]; omega
    · simp only [List.size_toArray, List.length_append, List.length_take, List.length_drop, Array.length_toList, hvl]; omega
    · have e1 : xs.take off = cur.toList.take off := by rw [← htk, List.take_take, Nat.min_eq_left (by omega)]
      have e2 : xs.drop (off + sz) = (cur.toList.drop (off + sz)).take (m * s - (off + sz)) := by rw [← htk, List.drop_take]
      rw [e1, e2]
      simp only [List.append_assoc]
      have hlen : (cur.toList.take off).length = off := by simp only [List.length_take, Array.length_toList]; omega
      rw [show m * s = (cur.toList.take off).length + (v.cells.toList.length + (m * s - (off + sz))) from by rw [hlen, hvl]; omega, List.take_length_add_append, List.take_length_add_append]
      rw [hlen, hvl]
      congr 3
      omega
  exact O_unit (by simp [execOp, hx, hy, Instr.storeAt, Instr.sureAddr, storeVar, he.size, hs, hst]) (h _ hA')

/-! ### Structs and literals -/
/-- How a struct of type t is put together: its zero cells, its fields' places. -/
def layOf (P : Program) (t : TypeId) : Option (Option (Array Value) × Option (List (Nat × Nat))) :=
  match P.info? t, P.underlying t with
  | some it, some (.struct fs) => some (it.zero.map (·.cells), fs.toList.mapM (fun f => (P.info? f.type).map fun i => (f.offset, i.size)))
  | _, _ => none
def Lay (P : Program) (t : TypeId) (z : List Value) (pl : List (Nat × Nat)) : Prop := layOf P t = some (some z.toArray, some pl)
/-- Cells put at a place. -/
def putL (cs : List Value) (off : Nat) (l : List Value) : List Value := cs.take off ++ (l ++ cs.drop (off + l.length))
theorem foldl_put : ∀ (l : List Value) (off k : Nat) (cs : List Value), off + k + l.length ≤ cs.length →
    (l.zipIdx k).foldl (fun (c : Array Value) (p : Value × Nat) => c.setIfInBounds (off + p.2) p.1) cs.toArray = (putL cs (off + k) l).toArray
  | [], off, k, cs, _ => by simp [putL]
  | v :: l, off, k, cs, h => by
    simp only [List.zipIdx_cons, List.foldl_cons]
    have hs : cs.toArray.setIfInBounds (off + k) v = (cs.set (off + k) v).toArray := by simp
    rw [hs, foldl_put l off (k + 1) (cs.set (off + k) v) (by simp at h ⊢; omega)]
    congr 1
    unfold putL
    have hk : off + k < cs.length := by simp at h; omega
    rw [show off + (k + 1) = (off + k) + 1 from by omega]
    rw [List.take_add_one, List.getElem?_set_self (by simpa using hk), List.take_set_of_le (Nat.le_refl _)]
    rw [List.drop_set_of_lt (by omega)]
    simp only [Option.toList_some, List.append_assoc, List.cons_append, List.nil_append, List.length_cons]
    rw [show off + k + 1 + l.length = off + k + (l.length + 1) from by omega]
theorem fill_put {place : Nat → Option (Nat × Nat)} {i off s : Nat} {v : Value} {l cs : List Value} {r : List (Nat × Value)} (hp : place i = some (off, s)) (hv : v.cells = l.toArray) (hl : l.length = s) (hf : off + s ≤ cs.length) :
    Instr.fill place cs.toArray ((i, v) :: r) = Instr.fill place (putL cs off l).toArray r := by
  have h := foldl_put l off 0 cs (by omega)
  simp only [Nat.add_zero] at h
  have hfold : v.cells.zipIdx.foldl (fun (cs : Array Value) (p : Value × Nat) => cs.setIfInBounds (off + p.2) p.1) cs.toArray = (putL cs off l).toArray := by
    rw [hv, ← h, ← Array.foldl_toList]
    simp
  simp only [Instr.fill, hp]
  rw [if_neg]
  · exact congrArg (fun c => Instr.fill place c r) hfold
  · simp [hv, hl]; omega
/-- What a struct's parts come to: zero cells, places, parts (each by its cells). -/
def fillS : List Value → List (Nat × Nat) → List (Nat × List Value) → Option (List Value)
  | cs, _, [] => some cs
  | cs, pl, (i, l) :: r => match pl[i]? with
    | some (off, s) => if l.length = s ∧ off + s ≤ cs.length then fillS (putL cs off l) pl r else none
    | none => none
theorem fillS_eq (pl : List (Nat × Nat)) : ∀ (ps : List (Nat × Value)) (ls : List (Nat × List Value)) (cs out : List Value), ps.map (fun p => (p.1, p.2.cells.toList)) = ls → fillS cs pl ls = some out → Instr.fill (pl.toArray[·]?) cs.toArray ps = some out.toArray
  | [], ls, cs, out, h, hf => by subst h; simp only [List.map_nil, fillS, Option.some.injEq] at hf; subst hf; rfl
  | (i, v) :: ps, ls, cs, out, h, hf => by
    subst h
    simp only [List.map_cons, fillS] at hf
    split at hf
    · rename_i off s hpl
      split at hf
      · rename_i hc
        rw [fill_put (l := v.cells.toList) (off := off) (s := s) (by simpa using hpl) (by simp) hc.1 hc.2]
        exact fillS_eq pl ps _ _ out rfl hf
      · cases hf
    · cases hf
theorem run_buildS {zs : List Value} {pl : List (Nat × Nat)} {parts : Array (Nat × Value)} {cs : Array Value} (h : Lay P t zs pl) (hf : Instr.fill (pl.toArray[·]?) zs.toArray parts.toList = some cs) : (Instr.build t parts).run P w = .ok (.agg cs) w := by
  refine run_build w t parts cs ?_
  unfold Lay layOf at h
  unfold Program.built
  cases h1 : P.info? t with
  | none => rw [h1] at h; cases h
  | some it =>
    rw [h1] at h
    cases h2 : P.underlying t with
    | none => rw [h2] at h; cases h
    | some ds =>
      rw [h2] at h
      cases ds <;> simp only [Option.some.injEq, Prod.mk.injEq, reduceCtorEq] at h
      obtain ⟨h3, h4⟩ := h
      obtain ⟨zv, hz, hzc⟩ := Option.map_eq_some_iff.1 h3
      simp only [hz, h4, hzc, hf]
theorem r_build {zs : List Value} {pl : List (Nat × Nat)} {parts : List (Nat × Operand)} {ls : List (Nat × List Value)} {cs : List Value} (hl : Lay P t zs pl) (hp : parts.map (fun p => (p.1, (evn n ρ p.2).cells.toList)) = ls) (hf : fillS zs pl ls = some cs) : Rn P n ρ w (.build t parts.toArray) ty (.agg cs.toArray) := by
  intro dd pos af
  have hf' := fillS_eq pl (parts.map fun p => (p.1, evn n ρ p.2)) ls zs cs (by rw [← hp, List.map_map]; rfl) hf
  simp only [execOp, List.map_toArray, Sem.run_bind, run_buildS hl (show Instr.fill (pl.toArray[·]?) zs.toArray (parts.map fun p => (p.1, evn n ρ p.2)).toArray.toList = some cs.toArray from hf'), Result.andThen_ok, Sem.run_pure]
theorem o_build {zs : List Value} {pl : List (Nat × Nat)} {parts : List (Nat × Operand)} {ls : List (Nat × List Value)} {cs : List Value} (hl : Lay P t zs pl) (hp : parts.map (fun p => (p.1, (evn n ρ p.2).cells.toList)) = ls) (hf : fillS zs pl ls = some cs)
    (h : O P n ops rest N X (upd ρ d (.agg cs.toArray)) w) : O P n ops (⟨some d, .build t parts.toArray, ty, pos, af, none⟩ :: rest) N X ρ w := O_rn (r_build hl hp hf) h
/-- A literal's parts, one behind the other. -/
def litL (s : Nat) : Nat → List (Nat × List Value) → Option (List Value)
  | _, [] => some []
  | k, (i, l) :: r => if i = k ∧ l.length = s then (litL s (k + 1) r).map (l ++ ·) else none
theorem litL_fill (s : Nat) : ∀ (ps : List (Nat × Value)) (ls : List (Nat × List Value)) (k : Nat) (cs out : List Value), ps.map (fun p => (p.1, p.2.cells.toList)) = ls → litL s k ls = some out → (k + ls.length) * s ≤ cs.length →
    out.length = ls.length * s ∧ Instr.fill (fun i => some (i * s, s)) cs.toArray ps = some (cs.take (k * s) ++ (out ++ cs.drop ((k + ls.length) * s))).toArray
  | [], ls, k, cs, out, h, hf, hl => by
    subst h
    simp only [List.map_nil, litL, Option.some.injEq] at hf
    subst hf
    simp [Instr.fill]
  | (i, v) :: ps, ls, k, cs, out, h, hf, hl => by
    subst h
    simp only [List.map_cons, litL] at hf
    split at hf
    · rename_i hc
      obtain ⟨rfl, hvs⟩ := hc
      obtain ⟨out', ho, rfl⟩ := Option.map_eq_some_iff.1 hf
      have hlen : (i + 1 + ps.length) * s ≤ cs.length := by
        simp only [List.map_cons, List.length_cons, List.length_map] at hl
        rw [show i + 1 + ps.length = i + (ps.length + 1) from by omega]; exact hl
      have hs1 : i * s + s ≤ (i + 1 + ps.length) * s := by
        rw [Nat.add_mul, Nat.add_mul, Nat.one_mul]; omega
      have hput : (putL cs (i * s) v.cells.toList).length = cs.length := by
        simp only [putL, List.length_append, List.length_take, List.length_drop, hvs]; omega
      obtain ⟨h1, h2⟩ := litL_fill s ps _ (i + 1) (putL cs (i * s) v.cells.toList) out' rfl ho (by simp only [List.length_map, hput]; exact hlen)
      refine ⟨by simp only [List.length_append, List.length_cons, List.length_map] at h1 ⊢; rw [h1, hvs, Nat.add_mul, Nat.one_mul]; omega, ?_⟩
      rw [fill_put (l := v.cells.toList) (off := i * s) (s := s) rfl (by simp) hvs (by omega), h2]
      congr 2
      have e1 : (putL cs (i * s) v.cells.toList).take ((i + 1) * s) = cs.take (i * s) ++ v.cells.toList := by
        unfold putL
        rw [← List.append_assoc]
        have : (cs.take (i * s) ++ v.cells.toList).length = (i + 1) * s := by
          simp only [List.length_append, List.length_take, hvs, Nat.add_mul, Nat.one_mul]; omega
        rw [← this]; exact List.take_left
      have e2 : (putL cs (i * s) v.cells.toList).drop ((i + 1 + ps.length) * s) = cs.drop ((i + (ps.length + 1)) * s) := by
        unfold putL
        rw [← List.append_assoc]
        have : (cs.take (i * s) ++ v.cells.toList).length = (i + 1) * s := by
          simp only [List.length_append, List.length_take, hvs, Nat.add_mul, Nat.one_mul]; omega
        rw [List.drop_append, this]
        have hge : (i + 1) * s ≤ (i + 1 + ps.length) * s := Nat.mul_le_mul_right _ (by omega)
        rw [List.drop_eq_nil_of_le (by omega), List.nil_append, List.drop_drop, hvs]
        congr 1
        rw [show i + (ps.length + 1) = i + 1 + ps.length from by omega]
        rw [Nat.add_mul i 1 s, Nat.one_mul] at hge ⊢
        omega
      simp only [List.length_map, List.length_cons] at e2 ⊢
      rw [e1, e2]
      simp
    · cases hf
theorem o_buildSlice {e : TypeId} {m s bb : Nat} {zz : Value} {parts : List (Nat × Operand)} {ls : List (Nat × List Value)} {cs : List Value} (hA : At w0 M F w) (ht : P.underlying t = some (.slice e)) (he : TI P e zz s bb) (hsm : Nat.ble (m * s) 16777216 = true) (hs : Nat.blt 0 s = true)
    (hp : parts.map (fun p => (p.1, (evn n ρ p.2).cells.toList)) = ls) (hm : ls.length = m) (hf : litL s 0 ls = some cs)
    (h : ∀ A w', At w0 M (Row e s (.slice (some A) m m) cs :: F) w' → O P n ops rest N X (upd ρ d (.slice (some A) m m)) w') : O P n ops (⟨some d, .buildSlice t m parts.toArray, ty, pos, af, none⟩ :: rest) N X ρ w := by
  have hsm' := Nat.le_of_ble_eq_true hsm
  have hs' : 0 < s := by rw [Nat.blt_eq] at hs; exact hs
  have hmm : m ≤ maxLen := by
    have : m ≤ m * s := Nat.le_mul_of_pos_right _ hs'
    simp only [maxLen]; omega
  have hfill : ∀ c0 : Array Value, c0.size = m * s → cs.length = m * s ∧ Instr.fill (fun i => some (i * s, s)) c0 (parts.map fun p => (p.1, evn n ρ p.2)) = some cs.toArray := by
    intro c0 hc0
    obtain ⟨h1, h2⟩ := litL_fill s (parts.map fun p => (p.1, evn n ρ p.2)) ls 0 c0.toList cs (by rw [← hp, List.map_map]; rfl) hf (by rw [hm]; simp [hc0])
    refine ⟨by rw [h1, hm], ?_⟩
    have : c0.toList.drop ((0 + ls.length) * s) = [] := List.drop_eq_nil_of_le (by rw [hm]; simp [hc0])
    rw [this] at h2
    simpa using h2
  have hl := (hfill (Array.replicate (m * s) undef) (by simp)).1
  refine O_val (w' := w.alloc (.cells cs.toArray e)) ?_ (h _ _ (hA.newRow e s m cs hl hmm))
  by_cases h0 : m * s = 0
  · have hf' := (hfill #[] (by simp [h0])).2
    simp only [execOp, Instr.buildSlice, run_underlying ht, Sem.run_bind, Result.andThen_ok, he.size, List.map_toArray]
    simp [h0, hf', newRow, Sem.run_bind, show Array.range 0 = #[] from rfl]
  · have hf' := (hfill ((Array.range (m * s)).map (zz.cells[· % zz.cells.size]!)) (by simp)).2
    have : ¬ m * s > 2 ^ 24 := by omega
    simp only [execOp, Instr.buildSlice, run_underlying ht, Sem.run_bind, Result.andThen_ok, he.size, List.map_toArray]
    simp [h0, this, he.zero, hf', newRow, Sem.run_bind]

/-! ### append -/
theorem At.appended {e : TypeId} {s i bytes : Nat} {zz : Value} {v x : Value} {xs ys : List Value} (hA : At w0 M F w) (hi : F[i]? = some (Row e s v xs)) (ht : P.underlying t = some (.slice e)) (he : TI P e zz s bytes) (hzs : zz.cells.size = s) (hs : 0 < s) (hx : Rd w s x ys) (h1 : ∀ u ∈ ys, u.oneCell' = true)
    (hbytes : ∀ m k, xs.length = m * s → ys.length = k * s → (m + k) * bytes ≤ 140737488355328) (hmax : ∀ m k, xs.length = m * s → ys.length = k * s → m + k ≤ 140737488355328) :
    ∃ v' w', (Builtin.append_ #[t, t] ty #[v, x]).run P w = .ok v' w' ∧ At w0 M (F.set i (Row e s v' (xs ++ ys))) w' ∧ ∀ A m c k, v = .slice A m c → ys.length = k * s → m + k ≤ c → v' = .slice A (m + k) c := by
  obtain ⟨v', w', hr, h, hv⟩ := append_row t ty e zz s bytes ht he hzs hs (hA.pull i hi) hx h1 hbytes hmax
  exact ⟨v', w', hr, h.perm (perm_set i _ hi), hv⟩
theorem o_append {e : TypeId} {s i bytes : Nat} {zz : Value} {u v : Value} {xs ys : List Value} (hA : At w0 M F w) (hx : evn n ρ x = v) (hy : evn n ρ y = u) (hi : F[i]? = some (Row e s v xs)) (ht : P.underlying t = some (.slice e)) (he : TI P e zz s bytes) (hzs : zz.cells.size = s) (hs : 0 < s) (hu : Rd w s u ys) (h1 : ∀ u ∈ ys, u.oneCell' = true)
    (hbytes : ∀ m k, xs.length = m * s → ys.length = k * s → (m + k) * bytes ≤ 140737488355328) (hmax : ∀ m k, xs.length = m * s → ys.length = k * s → m + k ≤ 140737488355328)
    (h : ∀ v' w', At w0 M (F.set i (Row e s v' (xs ++ ys))) w' → O P n ops rest N X (upd ρ d v') w') : O P n ops (⟨some d, .call ⟨.builtin .append, #[x, y], #[t, t]⟩, ty, pos, af, none⟩ :: rest) N X ρ w := by
  obtain ⟨v', w', hr, hA', _⟩ := hA.appended (ty := ty) hi ht he hzs hs hu h1 hbytes hmax
  exact O_val (by simp [execOp, resolve, invoke, builtin, hx, hy, hr]) (h v' w' hA')
/-- append where there is room. -/
theorem o_appendin {e : TypeId} {s i bytes m c k : Nat} {A : Option Addr} {zz : Value} {u : Value} {xs ys : List Value} (hA : At w0 M F w) (hx : evn n ρ x = .slice A m c) (hy : evn n ρ y = u) (hi : F[i]? = some (Row e s (.slice A m c) xs)) (ht : P.underlying t = some (.slice e)) (he : TI P e zz s bytes) (hzs : zz.cells.size = s) (hs : 0 < s) (hu : Rd w s u ys) (h1 : ∀ u ∈ ys, u.oneCell' = true)
    (hbytes : ∀ m k, xs.length = m * s → ys.length = k * s → (m + k) * bytes ≤ 140737488355328) (hmax : ∀ m k, xs.length = m * s → ys.length = k * s → m + k ≤ 140737488355328) (hk : ys.length = k * s) (hroom : m + k ≤ c)
    (h : ∀ w', At w0 M (F.set i (Row e s (.slice A (m + k) c) (xs ++ ys))) w' → O P n ops rest N X (upd ρ d (.slice A (m + k) c)) w') : O P n ops (⟨some d, .call ⟨.builtin .append, #[x, y], #[t, t]⟩, ty, pos, af, none⟩ :: rest) N X ρ w := by
  obtain ⟨v', w', hr, hA', hv⟩ := hA.appended (ty := ty) hi ht he hzs hs hu h1 hbytes hmax
  obtain rfl := hv A m c k rfl hk hroom
  exact O_val (by simp [execOp, resolve, invoke, builtin, hx, hy, hr]) (h w' hA')
/-- clear of what lies behind a row, in its room. -/
theorem o_clear_tail {e : TypeId} {s i bb g m c q c' o : Nat} {zz : Value} {xs : List Value} (hA : At w0 M F w) (ht : P.underlying t = some (.slice e)) (he : TI P e zz s bb) (hzs : zz.cells.size = s) (hz1 : oneAll zz.cells.toList = true) (hx : evn n ρ x = .slice (some ⟨g, o, none⟩) q c') (hi : F[i]? = some (Row e s (.slice (some ⟨g, 0, none⟩) m c) xs)) (ho : o = m * s) (hq : m + q ≤ c) (hc0 : 0 < c)
    (h : ∀ w', At w0 M F w' → O P n ops rest N X ρ w') : O P n ops (⟨none, .call ⟨.builtin .clear, #[x], #[t]⟩, ty, pos, af, none⟩ :: rest) N X ρ w := by
  subst ho
  obtain ⟨A', m', c'', he', hl, hmc, hcm, hr⟩ := hA.row i hi
  injection he' with e1 e2 e3
  subst e1; subst e2; subst e3
  obtain ⟨g', cur, hg', hgh, hcs, htk⟩ := hr.resolve_left (by omega)
  injection hg' with hg'
  injection hg' with hg'
  subst hg'
  have hzl : (Builtin.zeroCells zz.cells q).toList.length = q * s := by simp [size_zeroCells, hzs]
  have h1 : ∀ u ∈ (Builtin.zeroCells zz.cells q).toList, u.oneCell' = true := by
    intro u hu
    simp only [Builtin.zeroCells, Array.toList_map, List.mem_map] at hu
    obtain ⟨j, hj, rfl⟩ := hu
    have hj' : j < q * zz.cells.size := by simpa using hj
    have hpos : 0 < zz.cells.size := by
      rcases Nat.eq_zero_or_pos zz.cells.size with h0 | h0
      · rw [h0] at hj'; omega
      · exact h0
    have hlt : j % zz.cells.size < zz.cells.size := Nat.mod_lt _ hpos
    rw [getElem!_pos zz.cells _ hlt]
    exact oneAll_mem _ hz1 _ (by simp)
  have hqs : (m + q) * s ≤ cur.size := Nat.le_trans (Nat.mul_le_mul_right _ hq) hcs
  have hfit : m * s + 0 + (Builtin.zeroCells zz.cells q).toList.length ≤ cur.size := by rw [hzl]; rw [Nat.add_mul] at hqs; omega
  have hst := run_storeCells_at P g (m * s) e (Builtin.zeroCells zz.cells q).toList 0 cur w hgh hfit h1
  have hrun : (Builtin.clear_ #[t] ty #[.slice (some ⟨g, m * s, none⟩) q c']).run P w = .ok (.tuple #[]) (if q = 0 then w else w.setRow g (cur.toList.take (m * s + 0) ++ (Builtin.zeroCells zz.cells q).toList ++ cur.toList.drop (m * s + 0 + (Builtin.zeroCells zz.cells q).toList.length)).toArray) := by
    rcases q with _ | q
    · simp [Builtin.clear_, run_underlying ht]
    · simp [Builtin.clear_, run_underlying ht, he.zero, hst]
  have hA' : At w0 M F (if q = 0 then w else w.setRow g (cur.toList.take (m * s + 0) ++ (Builtin.zeroCells zz.cells q).toList ++ cur.toList.drop (m * s + 0 + (Builtin.zeroCells zz.cells q).toList.length)).toArray) := by
    split
    · exact hA
    · have hp := hA.pull i hi
      have h2 : At w0 M (Row e s (.slice (some ⟨g, 0, none⟩) m c) xs :: F.eraseIdx i) (w.setRow g (cur.toList.take (m * s + 0) ++ (Builtin.zeroCells zz.cells q).toList ++ cur.toList.drop (m * s + 0 + (Builtin.zeroCells zz.cells q).toList.length)).toArray) := by
        refine hp.wrote rfl rfl rfl (by simp) (fun x hx => setRow_other w g x _ fun e => hx ⟨_, m, c, rfl, hc0, e.symm⟩) ?_ (fun b hb => hb)
        refine ⟨_, m, c, rfl, hl, hmc, hcm, .inr ⟨g, _, rfl, setRow_heap w g cur _ e _ hgh, ?_, ?_⟩⟩
        · simp only [List.size_toArray, List.length_append, List.length_take, List.length_drop, Array.length_toList]
          rw [hzl] at hfit
          have hzz : (Builtin.zeroCells zz.cells q).size = q * s := by simp [size_zeroCells, hzs]
          omega
        · have hlen : (cur.toList.take (m * s + 0)).length = m * s := by
            simp only [List.length_take, Array.length_toList]; omega
          simp only [List.append_assoc]
          rw [List.take_append_of_le_length (by omega), List.take_of_length_le (by omega), Nat.add_zero, htk]
      have := h2.perm (perm_set i (Row e s (.slice (some ⟨g, 0, none⟩) m c) xs) hi)
      have hset : F.set i (Row e s (.slice (some ⟨g, 0, none⟩) m c) xs) = F := by
        apply List.ext_getElem?
        intro j
        by_cases hj : i = j
        · subst hj
          have hlt : i < F.length := (List.getElem?_eq_some_iff.1 hi).1
          rw [List.getElem?_set_self hlt, hi]
        · rw [List.getElem?_set_ne hj]
      rwa [hset] at this
  refine ⟨wpList_plain rfl fun K hK => ?_⟩
  unfold Oper.wp
  rw [act_eval]
  generalize (if q = 0 then w else w.setRow g (cur.toList.take (m * s + 0) ++ (Builtin.zeroCells zz.cells q).toList ++ cur.toList.drop (m * s + 0 + (Builtin.zeroCells zz.cells q).toList.length)).toArray) = W' at hrun hA'
  have hex : (execOp (evn n ρ) ⟨none, .call ⟨.builtin .clear, #[x], #[t]⟩, ty, pos, af, none⟩).run P w = .ok (.value (.tuple #[])) W' := by
    simp only [execOp, resolve, invoke, builtin, List.map_toArray, List.map_cons, List.map_nil, hx, Sem.run_bind, Sem.run_pure, Result.andThen_ok, hrun]
  rw [hex]
  exact hK _ _ (h _ hA').out
end Go.Proofs.Ytbcaooiphalkoaa
