/-
  A region that draws its order, walked in one order: what only looks (and sees the same in whatever order) is taken first. After the library's own law on held orders. No program in sight; nothing here is claimed.
-/
import Derived.Test.YtbcaooiphalkoaaMore
set_option linter.unusedVariables false
set_option linter.unusedSimpArgs false
namespace Go.Proofs.Ytbcaooiphalkoaa
open Go Go.RowKit

section
variable {P : Program} {ops : Array Oper} {Q : Exit → Act → World → Prop} {S : World → Prop} {I : List Nat}
/-- May operation j come up while one of I has not? -/
def needS (ops : Array Oper) (I : List Nat) (j : Nat) : Bool := I.any fun i => ((ops[j]?).map (·.after.all fun e => !Region.binds .any e || e.on != i)).getD true
def wpD (P : Program) (ops : Array Oper) (Q : Exit → Act → World → Prop) (S : World → Prop) (I : List Nat) : Nat → Array Bool → Act → World → Prop
  | 0, listed, a, w => Region.ready .any ops listed = [] ∧ Q .normal a w
  | fuel + 1, listed, a, w =>
    (Region.ready .any ops listed = [] → Q .normal a w) ∧
    ∀ i ∈ Region.ready .any ops listed, wpOp P ops Q i (fun a' w' => (needS ops I i = true → S w → S w') ∧ wpD P ops Q S I fuel (listed.setIfInBounds i true) a' w') a w
theorem wpAny_of_D : ∀ (fuel : Nat) (listed : Array Bool) (a : Act) (w : World), wpD P ops Q S I fuel listed a w → wpAny P .any ops Q fuel listed a w
  | 0, _, _, _, h => h
  | fuel + 1, _, _, _, h => ⟨h.1, fun i hi => wpOp_mono (fun a' w' h' => wpAny_of_D fuel _ a' w' h'.2) (h.2 i hi)⟩
theorem wpD_first {i : Nat} {oi : Oper} {v : Value} (hi : ops[i]? = some oi) (hsel : ∀ (j : Nat) (o : Oper) cs b, ops[j]? = some o → o.op ≠ .select cs b)
    (hQ : ∀ c a w, Q (.panic c) (a.put oi.dst v) w → Q (.panic c) a w) :
    ∀ (fuel : Nat) (listed : Array Bool) (a : Act) (w : World),
      (∀ j oj, ops[j]? = some oj → j ≠ i → listed.getD j true = false → (∀ e ∈ oj.after, Region.binds .any e = true → e.on ≠ i) → oi.apart ops oj = true) →
      i ∈ Region.ready .any ops listed → YieldsIf P ops (fun w => I.contains i = true → S w) oi v a → (I.contains i = true → S w) →
      wpD P ops Q S I fuel (listed.setIfInBounds i true) (a.put oi.dst v) w → wpD P ops Q S I (fuel + 1) listed a w := by
  intro fuel
  induction fuel with
  | zero =>
    intro listed a w _ hr hy hS H
    refine ⟨fun h => (by rw [h] at hr; cases hr), fun j hj => ?_⟩
    by_cases hji : j = i
    · subst hji; exact hy.wpOp hi hS ⟨fun _ h => h, H⟩
    · have := ready_mono hj hji
      rw [H.1] at this
      cases this
  | succ fuel ih =>
    intro listed a w hfree hr hy hS H
    refine ⟨fun h => (by rw [h] at hr; cases hr), fun j hj => ?_⟩
    by_cases hji : j = i
    · subst hji; exact hy.wpOp hi hS ⟨fun _ h => h, H⟩
    · have h1 := H.2 j (ready_mono hj hji)
      obtain ⟨hjun, oj, hoj, hall⟩ := mem_ready.1 hj
      have hnot : ∀ e ∈ oj.after, Region.binds .any e = true → e.on ≠ i := fun e he hb heq => by
        have h1 := hall e he hb
        have h0 := (mem_ready.1 hr).1
        rw [heq] at h1
        rcases Nat.lt_or_ge i listed.size with h' | h'
        · simp [h'] at h0 h1; rw [h0] at h1; cases h1
        · simp [Array.getElem?_eq_none h'] at h1
      have hneed : I.contains i = true → needS ops I j = true := fun hI => by
        refine List.any_eq_true.2 ⟨i, by simpa using hI, ?_⟩
        rw [hoj]
        simp only [Option.map_some, Option.getD_some, Array.all_eq_true_iff_forall_mem]
        intro e he
        by_cases hb : Region.binds .any e = true
        · simp [hb, hnot e he hb]
        · simp [Bool.eq_false_iff.2 hb]
      have h2 := wpOp_putIf hoj (hfree j oj hoj hji hjun hnot) (fun cs b => hsel i oi cs b hi) (fun cs b => hsel j oj cs b hoj) hQ hy h1
      have hfree' : ∀ k ok, ops[k]? = some ok → k ≠ i → (listed.setIfInBounds j true).getD k true = false →
          (∀ e ∈ ok.after, Region.binds .any e = true → e.on ≠ i) → oi.apart ops ok = true := fun k ok hk hki hun hno => by
        refine hfree k ok hk hki ?_ hno
        by_cases hjk : j = k
        · subst hjk; exact hjun
        · rw [getD_set_ne true hjk] at hun; exact hun
      refine wpOp_mono (fun a' w' h3 => ⟨h3.2.1, ih (listed.setIfInBounds j true) a' w' hfree' (ready_mono hr (Ne.symm hji)) h3.1 (fun hI => h3.2.1 (hneed hI) (hS hI)) ?_⟩) h2
      rw [Array.setIfInBounds_comm _ _ hji]
      exact h3.2.2
end

variable {P : Program} {n : Nat} {N : Env → World → Prop} {X : Exit → Env → World → Prop} {ρ : Env} {w w' w0 : World} {M : Nat → Prop} {F : List Ch}
variable {ops : List Oper} {rest : List Oper} {d : Nat} {op : Op} {ty t : TypeId} {pos : String} {af : Array Edge} {v u : Value} {S : World → Prop} {I : List Nat} {L : List Bool} {f i : Nat}
/-- A drawn region of which what L marks has come up; I: what looks at memory of which S tells. -/
structure D (P : Program) (n : Nat) (ops : List Oper) (S : World → Prop) (I : List Nat) (f : Nat) (L : List Bool) (N : Env → World → Prop) (X : Exit → Env → World → Prop) (ρ : Env) (w : World) : Prop where
  out : wpD P ops.toArray (lift n N X) S I f L.toArray (act n ρ) w
theorem W_draw {id f : Nat} {L : List Bool} (S : World → Prop) (I : List Nat) (hm : P.follows .mixedOrders = true) (hf : ops.length = f) (hL : List.replicate f false = L) (h : ∀ w', w'.heap = w.heap → w'.tape = w.tape → w'.os = w.os → w'.output = w.output → D P n ops S I f L N X ρ w') :
    W P n (.region id ops.toArray true) N X ρ w := by
  subst hf; subst hL
  refine ⟨wp_region_any hm (wpAny_of_D (S := S) (I := I) _ _ _ _ ?_)⟩
  have := (h { w with drawn := w.drawn + 1 } rfl rfl rfl rfl).out
  simpa using this
theorem At.heap {w1 : World} (h : At w0 M F w) (h1 : w1.heap = w.heap) (h2 : w1.tape = w.tape) (h3 : w1.os = w.os) (h4 : w1.output = w.output) : At w0 M F w1 :=
  ⟨h3.trans h.os, h2.trans h.tape, h4.trans h.output, by rw [h1]; exact h.size, fun b hb hM => by rw [h1]; exact h.old b hb hM, fun c hc => c.loc (w := w) (fun b _ => by rw [h1]) (h.holds c hc), fun c hc b hb => by rw [h1]; exact h.room c hc b hb, h.apart⟩
theorem W_drawA {id f : Nat} {L : List Bool} (hA : At w0 M F w) (I : List Nat) (hm : P.follows .mixedOrders = true) (hf : ops.length = f) (hL : List.replicate f false = L) (h : ∀ w', At w0 M F w' → D P n ops (At w0 M F) I f L N X ρ w') :
    W P n (.region id ops.toArray true) N X ρ w := W_draw (At w0 M F) I hm hf hL fun w' h1 h2 h3 h4 => h w' (hA.heap h1 h2 h3 h4)
theorem W_drawB {id f : Nat} {L : List Bool} (S : World → Prop) (hA : At w0 M F w) (I : List Nat) (hm : P.follows .mixedOrders = true) (hf : ops.length = f) (hL : List.replicate f false = L) (h : ∀ w', At w0 M F w' → D P n ops S I f L N X ρ w') :
    W P n (.region id ops.toArray true) N X ρ w := W_draw S I hm hf hL fun w' h1 h2 h3 h4 => h w' (hA.heap h1 h2 h3 h4)
theorem noNeed {b : Bool} {p : Prop} (h : b = false) (h' : b = true) : p := by rw [h] at h'; cases h'
/-- May number i be taken first now? -/
def takes (ops : List Oper) (L : List Bool) (i : Nat) : Bool := Region.noSelect ops.toArray && (Region.free .any ops.toArray L.toArray i && (Region.ready .any ops.toArray L.toArray).contains i)
theorem D_take (i : Nat) {L' : List Bool} (hi : ops[i]? = some ⟨some d, op, ty, pos, af, none⟩) (hc : takes ops L i = true) (hX : ∀ c ρ w, ¬ X (.panic c) ρ w) (hL : L.set i true = L') (hS : I.contains i = true → S w) (hy : ∀ w, (I.contains i = true → S w) → Rn P n ρ w op ty v)
    (h : D P n ops S I f L' N X (upd ρ d v) w) : D P n ops S I (f + 1) L N X ρ w := by
  subst hL
  simp only [takes, Bool.and_eq_true] at hc
  obtain ⟨h1, h2, h3⟩ := hc
  have hi' : ops.toArray[i]? = some ⟨some d, op, ty, pos, af, none⟩ := by simpa using hi
  refine ⟨wpD_first hi' (Region.noSelect_spec h1) ?_ f L.toArray (act n ρ) w (Region.free_spec hi' h2) (by simpa using h3) (.inl ⟨by simp [Region.wanted], fun w hw => by rw [act_eval]; exact hy w hw _ _ _⟩) hS ?_⟩
  · rintro c a w ⟨ρ', _, hx⟩
    exact absurd hx (hX c ρ' w)
  · have := h.out
    show wpD P ops.toArray (lift n N X) S I f (L.toArray.setIfInBounds i true) ((act n ρ).put (some d) v) w
    rw [act_put]
    simpa using this
/-- One whose guard says no. -/
theorem D_take_no (i : Nat) {L' : List Bool} {j t : Nat} {want b : Bool} (hi : ops[i]? = some ⟨some d, op, ty, pos, af, some (j, want)⟩) (hc : takes ops L i = true) (hX : ∀ c ρ w, ¬ X (.panic c) ρ w) (hL : L.set i true = L') (hS : I.contains i = true → S w)
    (hj : dstAt ops j = some t) (hv : evn n ρ (.tmp t) = .bool b) (hlt : Nat.blt t n = true) (hne : b = !want)
    (h : D P n ops S I f L' N X (upd ρ d undef) w) : D P n ops S I (f + 1) L N X ρ w := by
  subst hL
  simp only [takes, Bool.and_eq_true] at hc
  obtain ⟨h1, h2, h3⟩ := hc
  have hi' : ops.toArray[i]? = some ⟨some d, op, ty, pos, af, some (j, want)⟩ := by simpa using hi
  refine ⟨wpD_first (v := undef) hi' (Region.noSelect_spec h1) ?_ f L.toArray (act n ρ) w (Region.free_spec hi' h2) (by simpa using h3) (.inr ⟨?_, rfl⟩) hS ?_⟩
  · rintro c a w ⟨ρ', _, hx⟩
    exact absurd hx (hX c ρ' w)
  · simp only [Region.wanted, yielded_act hj hv hlt, hne]; cases want <;> simp
  · have := h.out
    show wpD P ops.toArray (lift n N X) S I f (L.toArray.setIfInBounds i true) ((act n ρ).put (some d) undef) w
    rw [act_put]
    simpa using this
theorem D_take_nu (i : Nat) {L' : List Bool} {j t : Nat} {want : Bool} (hi : ops[i]? = some ⟨some d, op, ty, pos, af, some (j, want)⟩) (hc : takes ops L i = true) (hX : ∀ c ρ w, ¬ X (.panic c) ρ w) (hL : L.set i true = L') (hS : I.contains i = true → S w)
    (hj : dstAt ops j = some t) (hv : evn n ρ (.tmp t) = undef) (hlt : Nat.blt t n = true)
    (h : D P n ops S I f L' N X (upd ρ d undef) w) : D P n ops S I (f + 1) L N X ρ w := by
  subst hL
  simp only [takes, Bool.and_eq_true] at hc
  obtain ⟨h1, h2, h3⟩ := hc
  have hi' : ops.toArray[i]? = some ⟨some d, op, ty, pos, af, some (j, want)⟩ := by simpa using hi
  refine ⟨wpD_first (v := undef) hi' (Region.noSelect_spec h1) ?_ f L.toArray (act n ρ) w (Region.free_spec hi' h2) (by simpa using h3) (.inr ⟨?_, rfl⟩) hS ?_⟩
  · rintro c a w ⟨ρ', _, hx⟩
    exact absurd hx (hX c ρ' w)
  · simp only [Region.wanted, yielded_undef hj hv hlt]; cases want <;> simp
  · have := h.out
    show wpD P ops.toArray (lift n N X) S I f (L.toArray.setIfInBounds i true) ((act n ρ).put (some d) undef) w
    rw [act_put]
    simpa using this
theorem D_takeb (i : Nat) {L' : List Bool} {c : Bool} (hi : ops[i]? = some ⟨some d, op, ty, pos, af, none⟩) (hc : takes ops L i = true) (hX : ∀ c ρ w, ¬ X (.panic c) ρ w) (hL : L.set i true = L') (hS : I.contains i = true → S w) (hy : ∀ w, (I.contains i = true → S w) → Rn P n ρ w op ty (.bool c))
    (h : c = true → D P n ops S I f L' N X (upd ρ d (.bool true)) w) (h' : c = false → D P n ops S I f L' N X (upd ρ d (.bool false)) w) : D P n ops S I (f + 1) L N X ρ w :=
  D_take i hi hc hX hL hS hy (by cases c; exact h' rfl; exact h rfl)
theorem D_take_yes (i : Nat) {L' : List Bool} {j t : Nat} {want : Bool} (hi : ops[i]? = some ⟨some d, op, ty, pos, af, some (j, want)⟩) (hc : takes ops L i = true) (hX : ∀ c ρ w, ¬ X (.panic c) ρ w) (hL : L.set i true = L') (hS : I.contains i = true → S w)
    (hj : dstAt ops j = some t) (hv : evn n ρ (.tmp t) = .bool want) (hlt : Nat.blt t n = true) (hy : ∀ w, (I.contains i = true → S w) → Rn P n ρ w op ty v)
    (h : D P n ops S I f L' N X (upd ρ d v) w) : D P n ops S I (f + 1) L N X ρ w := by
  subst hL
  simp only [takes, Bool.and_eq_true] at hc
  obtain ⟨h1, h2, h3⟩ := hc
  have hi' : ops.toArray[i]? = some ⟨some d, op, ty, pos, af, some (j, want)⟩ := by simpa using hi
  have hguard : ∀ w : World, execOp (act n ρ).eval ⟨some d, op, ty, pos, af, some (j, want)⟩ = execOp (act n ρ).eval ⟨some d, op, ty, pos, af, none⟩ := fun _ => rfl
  refine ⟨wpD_first hi' (Region.noSelect_spec h1) ?_ f L.toArray (act n ρ) w (Region.free_spec hi' h2) (by simpa using h3) (.inl ⟨by simp [Region.wanted, yielded_act hj hv hlt], fun w hw => by rw [hguard w, act_eval]; exact hy w hw _ _ _⟩) hS ?_⟩
  · rintro c a w ⟨ρ', _, hx⟩
    exact absurd hx (hX c ρ' w)
  · have := h.out
    show wpD P ops.toArray (lift n N X) S I f (L.toArray.setIfInBounds i true) ((act n ρ).put (some d) v) w
    rw [act_put]
    simpa using this
theorem D_takeb_yes (i : Nat) {L' : List Bool} {j t : Nat} {want c : Bool} (hi : ops[i]? = some ⟨some d, op, ty, pos, af, some (j, want)⟩) (hc : takes ops L i = true) (hX : ∀ c ρ w, ¬ X (.panic c) ρ w) (hL : L.set i true = L') (hS : I.contains i = true → S w)
    (hj : dstAt ops j = some t) (hv : evn n ρ (.tmp t) = .bool want) (hlt : Nat.blt t n = true) (hy : ∀ w, (I.contains i = true → S w) → Rn P n ρ w op ty (.bool c))
    (h : c = true → D P n ops S I f L' N X (upd ρ d (.bool true)) w) (h' : c = false → D P n ops S I f L' N X (upd ρ d (.bool false)) w) : D P n ops S I (f + 1) L N X ρ w :=
  D_take_yes i hi hc hX hL hS hj hv hlt hy (by cases c; exact h' rfl; exact h rfl)
/-- The only one that may come up. -/
theorem D_run (i : Nat) {o : Oper} {L' : List Bool} (hr : Region.ready .any ops.toArray L.toArray = [i]) (ho : ops[i]? = some o) (hL : L.set i true = L')
    (h : O P n ops [o] (fun ρ' w' => (needS ops.toArray I i = true → S w → S w') ∧ D P n ops S I f L' N X ρ' w') X ρ w) : D P n ops S I (f + 1) L N X ρ w := by
  subst hL
  refine ⟨And.intro (fun h0 => by rw [hr] at h0; cases h0) (fun j hj => ?_)⟩
  rw [hr] at hj
  obtain rfl : j = i := by simpa using hj
  have ho' : ops.toArray[j]? = some o := by simpa using ho
  have hK : ∀ a w', lift n (fun ρ' w' => (needS ops.toArray I j = true → S w → S w') ∧ D P n ops S I f (L.set j true) N X ρ' w') X .normal a w' → (needS ops.toArray I j = true → S w → S w') ∧ wpD P ops.toArray (lift n N X) S I f (L.toArray.setIfInBounds j true) a w' := by
    rintro a w' ⟨ρ', rfl, h1, h2⟩
    exact ⟨h1, by have := h2.out; simpa using this⟩
  have hE : ∀ e a w', e ≠ .normal → lift n (fun ρ' w' => (needS ops.toArray I j = true → S w → S w') ∧ D P n ops S I f (L.set j true) N X ρ' w') X e a w' → lift n N X e a w' := by
    intro e a w' he hl
    cases e <;> first | exact absurd rfl he | exact hl
  have h := h.out
  unfold wpList at h
  unfold wpOp
  rw [ho']
  simp only
  split
  · rename_i hw
    rw [if_pos hw] at h
    rcases h with h | ⟨hk, a0, w0, hq⟩
    · left
      unfold Oper.wp at h ⊢
      generalize (execOp (act n ρ).eval o).run P w = r at h ⊢
      cases r with
      | ok x w' =>
        cases x <;> simp only [Oper.upon] at h ⊢
        case value v => exact hK _ _ h
        case skip => exact hK _ _ h
        case defer d => exact hK _ _ h
        case enter f args =>
          refine Calls.mono h fun e w'' he => ?_
          cases e with
          | returned u => exact hK _ _ he
          | panicked c => exact hE _ _ _ (by simp) he
          | outgrown => obtain ⟨a0, w0, hq⟩ := he; exact ⟨a0, w0, hE _ _ _ (by simp) hq⟩
        case row row args => exact Rows.mono h fun u w'' he => hK _ _ he
      | halt x w' =>
        cases x <;> simp only [Oper.upon] at h ⊢
        case panic u => exact hE _ _ _ (by simp) h
    · exact .inr ⟨hk, a0, w0, hE _ _ _ (by simp) hq⟩
  · rename_i hw
    rw [if_neg hw] at h
    exact hK _ _ h
/-- Two that may come up, in either order. -/
theorem D_run2 (i j : Nat) {oi oj : Oper} {Li Lj : List Bool} (hr : Region.ready .any ops.toArray L.toArray = [i, j]) (hoi : ops[i]? = some oi) (hoj : ops[j]? = some oj) (hLi : L.set i true = Li) (hLj : L.set j true = Lj)
    (h1 : O P n ops [oi] (fun ρ' w' => (needS ops.toArray I i = true → S w → S w') ∧ D P n ops S I f Li N X ρ' w') X ρ w)
    (h2 : O P n ops [oj] (fun ρ' w' => (needS ops.toArray I j = true → S w → S w') ∧ D P n ops S I f Lj N X ρ' w') X ρ w) : D P n ops S I (f + 1) L N X ρ w := by
  subst hLi; subst hLj
  refine ⟨And.intro (fun h0 => by rw [hr] at h0; cases h0) (fun k hk => ?_)⟩
  rw [hr] at hk
  have hk' : k = i ∨ k = j := by simpa using hk
  rcases hk' with rfl | rfl
  · have ho' : ops.toArray[k]? = some oi := by simpa using hoi
    have hK : ∀ a w', lift n (fun ρ' w' => (needS ops.toArray I k = true → S w → S w') ∧ D P n ops S I f (L.set k true) N X ρ' w') X .normal a w' → (needS ops.toArray I k = true → S w → S w') ∧ wpD P ops.toArray (lift n N X) S I f (L.toArray.setIfInBounds k true) a w' := by
      rintro a w' ⟨ρ', rfl, h1, h2⟩
      exact ⟨h1, by have := h2.out; simpa using this⟩
    have hE : ∀ e a w', e ≠ .normal → lift n (fun ρ' w' => (needS ops.toArray I k = true → S w → S w') ∧ D P n ops S I f (L.set k true) N X ρ' w') X e a w' → lift n N X e a w' := by
      intro e a w' he hl
      cases e <;> first | exact absurd rfl he | exact hl
    have h := h1.out
    unfold wpList at h
    unfold wpOp
    rw [ho']
    simp only
    split
    · rename_i hw
      rw [if_pos hw] at h
      rcases h with h | ⟨hk, a0, w0, hq⟩
      · left
        unfold Oper.wp at h ⊢
        generalize (execOp (act n ρ).eval oi).run P w = r at h ⊢
        cases r with
        | ok x w' =>
          cases x <;> simp only [Oper.upon] at h ⊢
          case value v => exact hK _ _ h
          case skip => exact hK _ _ h
          case defer d => exact hK _ _ h
          case enter f args =>
            refine Calls.mono h fun e w'' he => ?_
            cases e with
            | returned u => exact hK _ _ he
            | panicked c => exact hE _ _ _ (by simp) he
            | outgrown => obtain ⟨a0, w0, hq⟩ := he; exact ⟨a0, w0, hE _ _ _ (by simp) hq⟩
          case row row args => exact Rows.mono h fun u w'' he => hK _ _ he
        | halt x w' =>
          cases x <;> simp only [Oper.upon] at h ⊢
          case panic u => exact hE _ _ _ (by simp) h
      · exact .inr ⟨hk, a0, w0, hE _ _ _ (by simp) hq⟩
    · rename_i hw
      rw [if_neg hw] at h
      exact hK _ _ h
  · have ho' : ops.toArray[k]? = some oj := by simpa using hoj
    have hK : ∀ a w', lift n (fun ρ' w' => (needS ops.toArray I k = true → S w → S w') ∧ D P n ops S I f (L.set k true) N X ρ' w') X .normal a w' → (needS ops.toArray I k = true → S w → S w') ∧ wpD P ops.toArray (lift n N X) S I f (L.toArray.setIfInBounds k true) a w' := by
      rintro a w' ⟨ρ', rfl, h1, h2⟩
      exact ⟨h1, by have := h2.out; simpa using this⟩
    have hE : ∀ e a w', e ≠ .normal → lift n (fun ρ' w' => (needS ops.toArray I k = true → S w → S w') ∧ D P n ops S I f (L.set k true) N X ρ' w') X e a w' → lift n N X e a w' := by
      intro e a w' he hl
      cases e <;> first | exact absurd rfl he | exact hl
    have h := h2.out
    unfold wpList at h
    unfold wpOp
    rw [ho']
    simp only
    split
    · rename_i hw
      rw [if_pos hw] at h
      rcases h with h | ⟨hk, a0, w0, hq⟩
      · left
        unfold Oper.wp at h ⊢
        generalize (execOp (act n ρ).eval oj).run P w = r at h ⊢
        cases r with
        | ok x w' =>
          cases x <;> simp only [Oper.upon] at h ⊢
          case value v => exact hK _ _ h
          case skip => exact hK _ _ h
          case defer d => exact hK _ _ h
          case enter f args =>
            refine Calls.mono h fun e w'' he => ?_
            cases e with
            | returned u => exact hK _ _ he
            | panicked c => exact hE _ _ _ (by simp) he
            | outgrown => obtain ⟨a0, w0, hq⟩ := he; exact ⟨a0, w0, hE _ _ _ (by simp) hq⟩
          case row row args => exact Rows.mono h fun u w'' he => hK _ _ he
        | halt x w' =>
          cases x <;> simp only [Oper.upon] at h ⊢
          case panic u => exact hE _ _ _ (by simp) h
      · exact .inr ⟨hk, a0, w0, hE _ _ _ (by simp) hq⟩
    · rename_i hw
      rw [if_neg hw] at h
      exact hK _ _ h
theorem D_done (hr : Region.ready .any ops.toArray L.toArray = []) (h : N ρ w) : D P n ops S I f L N X ρ w := by
  have hq : lift n N X .normal (act n ρ) w := ⟨ρ, rfl, h⟩
  cases f with
  | zero => exact ⟨hr, hq⟩
  | succ f => exact ⟨And.intro (fun _ => hq) (by rw [hr]; simp)⟩
theorem At.cellT {w w' : World} {F : List Ch} (h : At w No F w') {a : Addr} {v : Value} (hc : w.cell? a = some v) : w'.cell? a = some v := h.cell hc id
end Go.Proofs.Ytbcaooiphalkoaa
