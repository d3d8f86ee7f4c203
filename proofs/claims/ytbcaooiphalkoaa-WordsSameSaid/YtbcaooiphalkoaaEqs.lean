/-
  Equality of structs. No program in sight; nothing here is claimed.
-/
import Derived.Laws.StructEq
import Derived.Test.YtbcaooiphalkoaaDraw
set_option linter.unusedVariables false
set_option linter.unusedSimpArgs false
namespace Go.Proofs.Ytbcaooiphalkoaa
open Go Go.RowKit

variable {P : Program} {n : Nat} {N : Env → World → Prop} {X : Exit → Env → World → Prop} {ρ : Env} {w w' w0 : World} {M : Nat → Prop} {F : List Ch}
variable {ops : List Oper} {rest : List Oper} {d : Nat} {ty t tn : TypeId} {pos : String} {af : Array Edge} {v u : Value} {x y z : Operand} {k : IntKind} {a b : Int}

theorem r_eqagg {op : BinOp} {t' : TypeId} {c e : Bool} {xs ys : Array Value} (hx : evn n ρ x = .agg xs) (hy : evn n ρ y = .agg ys) (hg : P.eqGuardType P.depth t = false) (he : ∀ w, (Op.equalIn 10000 t (.agg xs) (.agg ys)).run P w = .ok e w) (hop : op = .eql ∧ c = e ∨ op = .neq ∧ c = !e) : Rn P n ρ w (.binOp op t x y t') ty (.bool c) := by
  intro dd pos af
  have h1 := run_eqGuard_agg w op t x y xs ys hg
  rcases hop with ⟨rfl, rfl⟩ | ⟨rfl, rfl⟩
  · simp [execOp, hx, hy, h1, run_eql_struct, he]
  · simp [execOp, hx, hy, h1, run_neq_struct, he]
theorem o_eqagg {op : BinOp} {t' : TypeId} {c e : Bool} {xs ys : Array Value} (hx : evn n ρ x = .agg xs) (hy : evn n ρ y = .agg ys) (hg : P.eqGuardType P.depth t = false) (he : ∀ w, (Op.equalIn 10000 t (.agg xs) (.agg ys)).run P w = .ok e w) (hop : op = .eql ∧ c = e ∨ op = .neq ∧ c = !e) (h : O P n ops rest N X (upd ρ d (.bool c)) w) : O P n ops (⟨some d, .binOp op t x y t', ty, pos, af, none⟩ :: rest) N X ρ w := O_rn (r_eqagg hx hy hg he hop) h
theorem o_eqagg2 {op : BinOp} {t' : TypeId} {c e : Bool} {xs ys : Array Value} (hx : evn n ρ x = .agg xs) (hy : evn n ρ y = .agg ys) (hg : P.eqGuardType P.depth t = false) (he : ∀ w, (Op.equalIn 10000 t (.agg xs) (.agg ys)).run P w = .ok e w) (hop : op = .eql ∧ c = e ∨ op = .neq ∧ c = !e) (h : c = true → O P n ops rest N X (upd ρ d (.bool true)) w) (h' : c = false → O P n ops rest N X (upd ρ d (.bool false)) w) : O P n ops (⟨some d, .binOp op t x y t', ty, pos, af, none⟩ :: rest) N X ρ w :=
  o_eqagg hx hy hg he hop (by cases c; exact h' rfl; exact h rfl)
end Go.Proofs.Ytbcaooiphalkoaa
