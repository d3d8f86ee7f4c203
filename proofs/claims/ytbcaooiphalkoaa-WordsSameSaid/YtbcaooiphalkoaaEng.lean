/-
  The engine: rules that step through the program's operations, one lemma a kind of operation, over an environment (a function from slots to values). No program in sight; nothing here is claimed.
-/
import Derived.WalkKit
import Derived.OrdersHeld
import Derived.KernelRfl
set_option linter.unusedVariables false
set_option linter.unusedSimpArgs false
namespace Go.Proofs.Ytbcaooiphalkoaa
open Go Go.RowKit

abbrev Env := Nat → Value
noncomputable def upd (ρ : Env) (d : Nat) (v : Value) : Env := fun t => Bool.rec (ρ t) v (Nat.beq t d)
noncomputable def tm (n : Nat) (ρ : Env) : Array Value := Array.ofFn (n := n) fun i => ρ i.val
noncomputable def act (n : Nat) (ρ : Env) : Act := ⟨tm n ρ, []⟩
/-- What an operand is in an environment of n slots. -/
noncomputable def evn (n : Nat) (ρ : Env) : Operand → Value
  | .tmp t => Bool.rec undef (ρ t) (Nat.blt t n)
  | .const v => v
  | .global g => .pointer (some ⟨g, 0, none⟩)
  | .func f => .func (.func f) #[] #[]

theorem upd_same (ρ : Env) (d : Nat) (v : Value) : upd ρ d v d = v := by unfold upd; rw [Nat.beq_refl]
theorem upd_ne (ρ : Env) {d t : Nat} (v : Value) (h : t ≠ d) : upd ρ d v t = ρ t := by
  unfold upd
  have : Nat.beq t d = false := by
    cases hb : Nat.beq t d
    · rfl
    · exact absurd (Nat.eq_of_beq_eq_true hb) h
  rw [this]
theorem upd_eta {ρ : Env} {t : Nat} {v : Value} (h : ρ t = v) : upd ρ t v = ρ := by
  funext x
  by_cases hx : x = t
  · subst hx; rw [upd_same, h]
  · rw [upd_ne _ _ hx]
theorem tm_size (n : Nat) (ρ : Env) : (tm n ρ).size = n := by simp [tm]
theorem tm_get (n : Nat) (ρ : Env) (t : Nat) : (tm n ρ)[t]? = if t < n then some (ρ t) else none := by
  unfold tm; rw [Array.getElem?_ofFn]; split <;> rfl
theorem tm_getD (n : Nat) (ρ : Env) (t : Nat) : (tm n ρ).getD t undef = evn n ρ (.tmp t) := by
  rw [Array.getD_eq_getD_getElem?, tm_get]
  show _ = (Bool.rec undef (ρ t) (Nat.blt t n) : Value)
  by_cases h : t < n
  · rw [if_pos h]; have : Nat.blt t n = true := by rw [Nat.blt_eq]; exact h
    rw [this]; rfl
  · rw [if_neg h]; have : Nat.blt t n = false := by
      cases hb : Nat.blt t n
      · rfl
      · rw [Nat.blt_eq] at hb; exact absurd hb h
    rw [this]; rfl
theorem act_eval (n : Nat) (ρ : Env) : (act n ρ).eval = evn n ρ := by
  funext x
  cases x with
  | tmp t => exact tm_getD n ρ t
  | const v => rfl
  | global g => rfl
  | func f => rfl
theorem act_put (n : Nat) (ρ : Env) (d : Nat) (v : Value) : (act n ρ).put (some d) v = act n (upd ρ d v) := by
  unfold act Act.put
  simp only [Act.mk.injEq, and_true]
  apply Array.ext_getElem?
  intro i
  rw [Array.getElem?_setIfInBounds, tm_get, tm_get, tm_size]
  by_cases hi : d = i
  · subst hi
    by_cases hn : d < n
    · simp [hn, upd_same]
    · simp [hn]
  · rw [if_neg hi]
    by_cases hn : i < n
    · rw [if_pos hn, if_pos hn, upd_ne _ _ (Ne.symm hi)]
    · rw [if_neg hn, if_neg hn]

/-! ### Code -/
variable {P : Program} {n : Nat} {N : Env → World → Prop} {X : Exit → Env → World → Prop} {ρ : Env} {w : World}

def lift (n : Nat) (N : Env → World → Prop) (X : Exit → Env → World → Prop) : Exit → Act → World → Prop
  | .normal, a, w => ∃ ρ, a = act n ρ ∧ N ρ w
  | e, a, w => ∃ ρ, a = act n ρ ∧ X e ρ w
/-- From ρ and w on, code c comes to N, or leaves by X. -/
structure W (P : Program) (n : Nat) (c : Code) (N : Env → World → Prop) (X : Exit → Env → World → Prop) (ρ : Env) (w : World) : Prop where
  out : c.wp P (lift n N X) (act n ρ) w

theorem W_mono {c : Code} {N' : Env → World → Prop} {X' : Exit → Env → World → Prop} (h : W P n c N X ρ w) (hN : ∀ ρ w, N ρ w → N' ρ w) (hX : ∀ e ρ w, X e ρ w → X' e ρ w) : W P n c N' X' ρ w := by
  refine ⟨wp_mono h.out fun e a w q => ?_⟩
  cases e <;> (obtain ⟨ρ', ha, hq⟩ := q; first | exact ⟨ρ', ha, hN _ _ hq⟩ | exact ⟨ρ', ha, hX _ _ _ hq⟩)
/-- Ways meet again: what holds behind c is told by R. -/
theorem W_cut {c : Code} (R : Env → World → Prop) (h : W P n c R X ρ w) (hR : ∀ ρ w, R ρ w → N ρ w) : W P n c N X ρ w := W_mono h hR fun _ _ _ q => q
theorem W_known {c : Code} {t : Nat} {v : Value} (ht : ρ t = v) (h : W P n c N X (upd ρ t v) w) : W P n c N X ρ w := by rw [upd_eta ht] at h; exact h
theorem W_skip (h : N ρ w) : W P n .skip N X ρ w := ⟨wp_skip ⟨ρ, rfl, h⟩⟩
theorem W_ret (h : X .ret ρ w) : W P n .ret N X ρ w := ⟨wp_ret ⟨ρ, rfl, h⟩⟩
theorem W_exit {id : Nat} (h : X (.exit id) ρ w) : W P n (.exit id) N X ρ w := ⟨wp_exit ⟨ρ, rfl, h⟩⟩
theorem W_seq {x y : Code} (h : W P n x (fun ρ w => W P n y N X ρ w) X ρ w) : W P n (.seq x y) N X ρ w := by
  refine ⟨wp_seq (wp_mono h.out fun e a w q => ?_)⟩
  cases e with
  | normal => obtain ⟨ρ', rfl, hq⟩ := q; exact hq.out
  | exit id => exact q
  | goto l => exact q
  | ret => exact q
  | panic ch => exact q
  | outgrown => exact q
theorem W_if {c : Operand} {x y : Code} {b : Bool} (hc : evn n ρ c = .bool b) (ht : b = true → W P n x N X ρ w) (hf : b = false → W P n y N X ρ w) : W P n (.cond c x y) N X ρ w :=
  ⟨wp_cond_split (by rw [act_eval]; exact hc) (fun h => (ht h).out) (fun h => (hf h).out)⟩
theorem W_then {c : Operand} {x y : Code} (hc : evn n ρ c = .bool true) (h : W P n x N X ρ w) : W P n (.cond c x y) N X ρ w := ⟨wp_cond_true (by rw [act_eval]; exact hc) h.out⟩
theorem W_else {c : Operand} {x y : Code} (hc : evn n ρ c = .bool false) (h : W P n y N X ρ w) : W P n (.cond c x y) N X ρ w := ⟨wp_cond_false (by rw [act_eval]; exact hc) h.out⟩
/-- What leaves a block. -/
def xb (id : Nat) (N : Env → World → Prop) (X : Exit → Env → World → Prop) : Exit → Env → World → Prop
  | .exit j, ρ, w => if j = id then N ρ w else X (.exit j) ρ w
  | e, ρ, w => X e ρ w
theorem xb_hit {id : Nat} (h : N ρ w) : xb id N X (.exit id) ρ w := by show ite _ _ _; rw [if_pos rfl]; exact h
theorem xb_miss {id j : Nat} (hj : Nat.beq j id = false) (h : X (.exit j) ρ w) : xb id N X (.exit j) ρ w := by
  show ite _ _ _
  rw [if_neg (Nat.ne_of_beq_eq_false hj)]; exact h
theorem xb_ret {id : Nat} (h : X .ret ρ w) : xb id N X .ret ρ w := h
theorem W_block {id : Nat} {c : Code} (h : W P n c N (xb id N X) ρ w) : W P n (.block id c) N X ρ w := by
  refine ⟨wp_block (wp_mono h.out fun e a w q => ?_)⟩
  cases e with
  | exit j =>
    obtain ⟨ρ', rfl, hq⟩ := q
    unfold Exit.inBlock
    by_cases hj : j = id
    · subst hj; simp only [xb, if_true] at hq ⊢; exact ⟨ρ', rfl, hq⟩
    · simp only [xb, hj, if_false] at hq ⊢; exact ⟨ρ', rfl, hq⟩
  | normal => exact q
  | goto l => exact q
  | ret => exact q
  | panic ch => exact q
  | outgrown => exact q
/-- A loop: R at each round's head, μ goes down. -/
theorem W_loop {c : Code} (R : Nat → Env → World → Prop) (k : Nat) (h0 : R k ρ w)
    (round : ∀ k ρ w, R k ρ w → W P n c (fun ρ' w' => ∃ j, j < k ∧ R j ρ' w') X ρ w) : W P n (.loop c) N X ρ w := by
  refine ⟨fun b kk cs => ?_⟩
  have key : ∀ k ρ w, R k ρ w → ∃ e a' w', lift n N X e a' w' ∧ Arrives P (lone (b.at (act n ρ) (.code c :: .inLoop c :: kk)) cs w) b kk cs e a' w' := by
    intro k
    induction k using Nat.strongRecOn with
    | _ k ih =>
      intro ρ w hR
      obtain ⟨e, a₁, w₁, hq, harr⟩ := (round k ρ w hR).out b (.inLoop c :: kk) cs
      cases e with
      | normal =>
        obtain ⟨ρ₁, rfl, j, hj, hR₁⟩ := hq
        obtain ⟨e₂, a₂, w₂, hq₂, harr₂⟩ := ih j hj ρ₁ w₁ hR₁
        exact ⟨e₂, a₂, w₂, hq₂, .of_steps (Steps.trans harr (.one step_inLoop)) harr₂⟩
      | exit id => obtain ⟨ρ', ha, hq⟩ := hq; exact ⟨.exit id, a₁, w₁, ⟨ρ', ha, hq⟩, .pass (x := .inLoop c) rfl (fun _ _ => .inl (by simp)) harr⟩
      | goto l => obtain ⟨ρ', ha, hq⟩ := hq; exact ⟨.goto l, a₁, w₁, ⟨ρ', ha, hq⟩, .pass (x := .inLoop c) rfl (fun _ _ => .inl (by simp)) harr⟩
      | ret => obtain ⟨ρ', ha, hq⟩ := hq; exact ⟨.ret, a₁, w₁, ⟨ρ', ha, hq⟩, .pass (x := .inLoop c) rfl (fun _ _ => .inl (by simp)) harr⟩
      | panic ch => obtain ⟨ρ', ha, hq⟩ := hq; exact ⟨.panic ch, a₁, w₁, ⟨ρ', ha, hq⟩, .pass (x := .inLoop c) rfl (fun _ _ => .inl (by simp)) harr⟩
      | outgrown => obtain ⟨ρ', ha, hq⟩ := hq; exact ⟨.outgrown, a₁, w₁, ⟨ρ', ha, hq⟩, .pass (x := .inLoop c) rfl (fun _ _ => .inl (by simp)) harr⟩
  obtain ⟨e, a', w', hq, harr⟩ := key k ρ w h0
  exact ⟨e, a', w', hq, .of_steps (.one step_loop) harr⟩

/-! ### Regions -/
/-- The operations that are left of a region. -/
structure O (P : Program) (n : Nat) (ops : List Oper) (l : List Oper) (N : Env → World → Prop) (X : Exit → Env → World → Prop) (ρ : Env) (w : World) : Prop where
  out : wpList P ops.toArray (lift n N X) l (act n ρ) w
theorem W_reg {id : Nat} {l : List Oper} (h : O P n l l N X ρ w) : W P n (.region id l.toArray false) N X ρ w := ⟨wp_region_lit h.out⟩
variable {ops : List Oper} {rest : List Oper}
theorem O_end (h : N ρ w) : O P n ops [] N X ρ w := ⟨⟨ρ, rfl, h⟩⟩
theorem O_cut {l : List Oper} (R : Env → World → Prop) (h : O P n ops l R X ρ w) (hR : ∀ ρ w, R ρ w → N ρ w) : O P n ops l N X ρ w := by
  have key : ∀ (l : List Oper) (a : Act) (w : World), wpList P ops.toArray (lift n R X) l a w → wpList P ops.toArray (lift n N X) l a w := by
    have hm : ∀ e a w, lift n R X e a w → lift n N X e a w := fun e a w q => by cases e <;> (obtain ⟨ρ', ha, hq⟩ := q; first | exact ⟨ρ', ha, hR _ _ hq⟩ | exact ⟨ρ', ha, hq⟩)
    intro l
    induction l with
    | nil => intro a w h; exact hm _ _ _ h
    | cons o l ih =>
      intro a w h
      unfold wpList at h ⊢
      split
      · rename_i hw
        rw [if_pos hw] at h
        rcases h with h | ⟨hk, a0, w0, hq⟩
        · left
          unfold Oper.wp at h ⊢
          generalize (execOp a.eval o).run P w = r at h ⊢
          cases r with
          | ok x w' =>
            cases x <;> simp only [Oper.upon] at h ⊢
            case value v => exact ih _ _ h
            case skip => exact ih _ _ h
            case defer d => exact ih _ _ h
            case enter f args =>
              refine Calls.mono h fun e w'' he => ?_
              cases e with
              | returned u => exact ih _ _ he
              | panicked c => exact hm _ _ _ he
              | outgrown => obtain ⟨a0, w0, hq⟩ := he; exact ⟨a0, w0, hm _ _ _ hq⟩
            case row row args => exact Rows.mono h fun u w'' he => ih _ _ he
          | halt x w' =>
            cases x <;> simp only [Oper.upon] at h ⊢
            case panic u => exact hm _ _ _ h
        · exact .inr ⟨hk, a0, w0, hm _ _ _ hq⟩
      · rename_i hw
        rw [if_neg hw] at h
        exact ih _ _ h
  exact ⟨key l _ _ h.out⟩

variable {d : Nat} {op : Op} {ty : TypeId} {pos : String} {af : Array Edge} {v : Value} {w' : World}
theorem O_plain {o : Oper} (hg : o.guard = none) (h : (execOp (evn n ρ) o).run P w = .ok (.value v) w') (hk : wpList P ops.toArray (lift n N X) rest ((act n ρ).put o.dst v) w') : O P n ops (o :: rest) N X ρ w := by
  refine ⟨wpList_plain hg fun K hK => ?_⟩
  unfold Oper.wp
  rw [act_eval, h]
  exact hK _ _ hk
/-- An operation that leaves a value in slot d. -/
theorem O_val (h : (execOp (evn n ρ) ⟨some d, op, ty, pos, af, none⟩).run P w = .ok (.value v) w') (hk : O P n ops rest N X (upd ρ d v) w') : O P n ops (⟨some d, op, ty, pos, af, none⟩ :: rest) N X ρ w :=
  O_plain rfl h (by show wpList _ _ _ _ ((act n ρ).put (some d) v) _; rw [act_put]; exact hk.out)
/-- One that leaves no value. -/
theorem O_unit (h : (execOp (evn n ρ) ⟨none, op, ty, pos, af, none⟩).run P w = .ok .skip w') (hk : O P n ops rest N X ρ w') : O P n ops (⟨none, op, ty, pos, af, none⟩ :: rest) N X ρ w := by
  refine ⟨wpList_plain rfl fun K hK => ?_⟩
  unfold Oper.wp
  rw [act_eval, h]
  exact hK _ _ hk.out
/-- Where operation number j of a region leaves its value. -/
noncomputable def dstAt (l : List Oper) : Nat → Option Nat := List.rec (fun _ => none) (fun o _ ih j => Nat.rec o.dst (fun m _ => ih m) j) l
theorem dstAt_eq : ∀ (l : List Oper) (j : Nat), dstAt l j = (l[j]?).bind (·.dst)
  | [], j => by simp [dstAt]
  | o :: l, 0 => rfl
  | o :: l, j + 1 => by
    have := dstAt_eq l j
    simp only [List.getElem?_cons_succ]
    rw [← this]; rfl
theorem yielded_act {j t : Nat} {b : Bool} (hj : dstAt ops j = some t) (hv : evn n ρ (.tmp t) = .bool b) (hlt : Nat.blt t n = true) : yielded ops.toArray (act n ρ).tmps j = some b := by
  unfold yielded act
  rw [dstAt_eq] at hj
  rw [List.getElem?_toArray, hj]
  have hl : t < n := by rw [Nat.blt_eq] at hlt; exact hlt
  have h2 : ρ t = .bool b := by
    have hv' : (Bool.rec undef (ρ t) (Nat.blt t n) : Value) = .bool b := hv
    rw [hlt] at hv'; exact hv'
  simp only [Option.bind_some, tm_get, if_pos hl, h2]
theorem O_no {j t : Nat} {want b : Bool} (hj : dstAt ops j = some t) (hv : evn n ρ (.tmp t) = .bool b) (hlt : Nat.blt t n = true) (hne : b = !want) (hk : O P n ops rest N X (upd ρ d undef) w) :
    O P n ops (⟨some d, op, ty, pos, af, some (j, want)⟩ :: rest) N X ρ w := by
  refine ⟨?_⟩
  unfold wpList
  rw [if_neg (by simp only [Region.wanted, yielded_act hj hv hlt, hne]; cases want <;> simp)]
  show wpList _ _ _ _ ((act n ρ).put (some d) undef) _
  rw [act_put]; exact hk.out
theorem O_no0 {j t : Nat} {want b : Bool} (hj : dstAt ops j = some t) (hv : evn n ρ (.tmp t) = .bool b) (hlt : Nat.blt t n = true) (hne : b = !want) (hk : O P n ops rest N X ρ w) :
    O P n ops (⟨none, op, ty, pos, af, some (j, want)⟩ :: rest) N X ρ w := by
  refine ⟨?_⟩
  unfold wpList
  rw [if_neg (by simp only [Region.wanted, yielded_act hj hv hlt, hne]; cases want <;> simp)]
  exact hk.out
theorem O_yes {dst : Option Nat} {j t : Nat} {want : Bool} (hj : dstAt ops j = some t) (hv : evn n ρ (.tmp t) = .bool want) (hlt : Nat.blt t n = true) (hk : O P n ops (⟨dst, op, ty, pos, af, none⟩ :: rest) N X ρ w) :
    O P n ops (⟨dst, op, ty, pos, af, some (j, want)⟩ :: rest) N X ρ w := by
  have hk := hk.out
  refine ⟨?_⟩
  unfold wpList at hk ⊢
  rw [if_pos (by simp [Region.wanted, yielded_act hj hv hlt])]
  rw [if_pos (by simp [Region.wanted])] at hk
  exact hk
theorem yielded_undef {j t : Nat} (hj : dstAt ops j = some t) (hv : evn n ρ (.tmp t) = undef) (hlt : Nat.blt t n = true) : yielded ops.toArray (act n ρ).tmps j = none := by
  unfold yielded act
  rw [dstAt_eq] at hj
  rw [List.getElem?_toArray, hj]
  have hl : t < n := by rw [Nat.blt_eq] at hlt; exact hlt
  have h2 : ρ t = undef := by
    have hv' : (Bool.rec undef (ρ t) (Nat.blt t n) : Value) = undef := hv
    rw [hlt] at hv'; exact hv'
  simp only [Option.bind_some, tm_get, if_pos hl, h2]
  rfl
/-- A guard that was not reached itself. -/
theorem O_nu {j t : Nat} {want : Bool} (hj : dstAt ops j = some t) (hv : evn n ρ (.tmp t) = undef) (hlt : Nat.blt t n = true) (hk : O P n ops rest N X (upd ρ d undef) w) :
    O P n ops (⟨some d, op, ty, pos, af, some (j, want)⟩ :: rest) N X ρ w := by
  refine ⟨?_⟩
  unfold wpList
  rw [if_neg (by simp only [Region.wanted, yielded_undef hj hv hlt]; cases want <;> simp)]
  show wpList _ _ _ _ ((act n ρ).put (some d) undef) _
  rw [act_put]; exact hk.out
theorem O_nu0 {j t : Nat} {want : Bool} (hj : dstAt ops j = some t) (hv : evn n ρ (.tmp t) = undef) (hlt : Nat.blt t n = true) (hk : O P n ops rest N X ρ w) :
    O P n ops (⟨none, op, ty, pos, af, some (j, want)⟩ :: rest) N X ρ w := by
  refine ⟨?_⟩
  unfold wpList
  rw [if_neg (by simp only [Region.wanted, yielded_undef hj hv hlt]; cases want <;> simp)]
  exact hk.out
theorem O_known {l : List Oper} {t : Nat} (ht : ρ t = v) (h : O P n ops l N X (upd ρ t v) w) : O P n ops l N X ρ w := by rw [upd_eta ht] at h; exact h

/-! ### Calls -/
/-- Function g has a body. -/
structure Ent (P : Program) (g : Nat) (fn : Func) : Prop where
  at_ : P.funcs[g]? = some fn
  body : fn.body.isNone = false
  name : (fn.name == "runtime.NumGoroutine") = false
theorem call_run {g : Nat} {fn : Func} {xs : Array Operand} {ts : Array TypeId} (hf : Ent P g fn) :
    (execOp (evn n ρ) ⟨some d, .call ⟨.value (.func g), xs, ts⟩, ty, pos, af, none⟩).run P w = .ok (.enter g (xs.map (evn n ρ))) w := by
  have h1 : ¬ fn.name = "runtime.NumGoroutine" := by simpa using hf.name
  have h2 : ¬ fn.body = none := by
    intro h
    have := hf.body
    rw [h] at this
    cases this
  simp [execOp, resolve, evn, Deferred.ofValue, invoke, callFunc, hf.at_, h1, h2]
theorem O_call {g : Nat} {fn : Func} {xs : List Operand} {ts : Array TypeId} {as : List Value} (hf : Ent P g fn) (ha : xs.map (evn n ρ) = as)
    (h : Calls P g as.toArray w fun e w' => ∃ v, e = .returned v ∧ O P n ops rest N X (upd ρ d v) w') :
    O P n ops (⟨some d, .call ⟨.value (.func g), xs.toArray, ts⟩, ty, pos, af, none⟩ :: rest) N X ρ w := by
  refine ⟨wpList_plain rfl fun K hK => ?_⟩
  unfold Oper.wp
  rw [act_eval, call_run hf, List.map_toArray, ha, Oper.upon_enter]
  refine Calls.mono h fun e w' he => ?_
  obtain ⟨v, rfl, hv⟩ := he
  refine hK _ _ ?_
  show wpList _ _ _ _ ((act n ρ).put (some d) v) _
  rw [act_put]; exact hv.out
/-- The call by a contract that says what is handed back. -/
theorem O_calls {g : Nat} {fn : Func} {xs : List Operand} {ts : Array TypeId} {as : List Value} {R : Value → World → Prop} (hf : Ent P g fn) (ha : xs.map (evn n ρ) = as)
    (h : Calls P g as.toArray w fun e w' => ∃ v, e = .returned v ∧ R v w') (hk : ∀ v w', R v w' → O P n ops rest N X (upd ρ d v) w') :
    O P n ops (⟨some d, .call ⟨.value (.func g), xs.toArray, ts⟩, ty, pos, af, none⟩ :: rest) N X ρ w :=
  O_call hf ha (h.mono fun e w' ⟨v, he, hR⟩ => ⟨v, he, hk v w' hR⟩)

/-! ### A body -/
/-- What is handed back here meets R. -/
structure Ret (P : Program) (fn : Func) (n : Nat) (R : Value → World → Prop) (ρ : Env) (w : World) : Prop where
  out : ∃ v, (results fn (tm n ρ)).run P w = .ok v w ∧ R v w
theorem body_of {f : FuncId} {fn : Func} {c : Code} {R : Value → World → Prop} {args : Array Value} {ρ : Env} (hf : Ent P f fn) (hb : fn.body = some c) (hn : fn.ntmps = n)
    (he : args ++ Array.replicate (fn.ntmps - args.size) undef = tm n ρ)
    (h : W P n c (Ret P fn n R) (fun e ρ w => e = .ret ∧ Ret P fn n R ρ w) ρ w) :
    Calls P f args w fun e w' => ∃ v, e = .returned v ∧ R v w' := by
  refine calls_of_wp hf.at_ hb ?_
  rw [he]
  refine wp_mono h.out fun e a w q => ?_
  cases e with
  | normal => obtain ⟨ρ', rfl, v, hv, hR⟩ := q; exact ⟨rfl, v, hv, v, rfl, hR⟩
  | ret => obtain ⟨ρ', rfl, _, v, hv, hR⟩ := q; exact ⟨rfl, v, hv, v, rfl, hR⟩
  | exit id => obtain ⟨ρ', _, he, _⟩ := q; cases he
  | goto l => obtain ⟨ρ', _, he, _⟩ := q; cases he
  | panic ch => obtain ⟨ρ', _, he, _⟩ := q; cases he
  | outgrown => obtain ⟨ρ', _, he, _⟩ := q; cases he
noncomputable def argEnv : List Value → Env
  | [] => fun _ => undef
  | v :: l => fun t => Nat.rec v (fun m _ => argEnv l m) t
theorem argEnv_get : ∀ (l : List Value) (t : Nat), argEnv l t = (l[t]?).getD undef
  | [], t => by simp [argEnv]
  | v :: l, 0 => rfl
  | v :: l, t + 1 => by
    have := argEnv_get l t
    simpa [argEnv] using this
theorem args_tm (l : List Value) (n : Nat) (h : l.length ≤ n) : l.toArray ++ Array.replicate (n - l.toArray.size) undef = tm n (argEnv l) := by
  apply Array.ext_getElem?
  intro i
  rw [tm_get, argEnv_get, Array.getElem?_append]
  simp only [List.size_toArray, List.getElem?_toArray, Array.getElem?_replicate]
  by_cases h1 : i < l.length
  · rw [if_pos h1, if_pos (by omega)]; simp [h1]
  · rw [if_neg h1]
    by_cases h2 : i < n
    · rw [if_pos (by omega), if_pos h2]; simp [h1]
    · rw [if_neg (by omega), if_neg h2]
theorem body_in {f : FuncId} {fn : Func} {c : Code} {R : Value → World → Prop} {l : List Value} (hf : Ent P f fn) (hb : fn.body = some c) (hn : fn.ntmps = n) (hl : Nat.ble l.length n = true)
    (h : W P n c (Ret P fn n R) (fun e ρ w => e = .ret ∧ Ret P fn n R ρ w) (argEnv l) w) :
    Calls P f l.toArray w fun e w' => ∃ v, e = .returned v ∧ R v w' :=
  body_of hf hb hn (by rw [hn]; exact args_tm l n (Nat.le_of_ble_eq_true hl)) h
end Go.Proofs.Ytbcaooiphalkoaa
