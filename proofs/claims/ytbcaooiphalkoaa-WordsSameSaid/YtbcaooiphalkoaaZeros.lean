/-
  append of make: zeros behind a row. No program in sight; nothing here is claimed.
-/
import Derived.Lib.AppendZerosOnto
import Derived.Test.YtbcaooiphalkoaaDraw
set_option linter.unusedVariables false
set_option linter.unusedSimpArgs false
namespace Go.Proofs.Ytbcaooiphalkoaa
open Go Go.RowKit

variable {P : Program} {n : Nat} {N : Env → World → Prop} {X : Exit → Env → World → Prop} {ρ : Env} {w w' w0 : World} {M : Nat → Prop} {F : List Ch}
variable {ops : List Oper} {rest : List Oper} {d : Nat} {ty t tn : TypeId} {pos : String} {af : Array Edge} {v u : Value} {x y z : Operand} {k : IntKind} {a b : Int}

theorem r_cap {m c : Nat} {A : Option Addr} {t e : TypeId} (ht : P.underlying t = some (.slice e)) (hx : evn n ρ x = .slice A m c) : Rn P n ρ w (.call ⟨.builtin .cap, #[x], #[t]⟩) ty ((.int .i64 c)) := fun dd pos af =>
  by simp [execOp, resolve, invoke, builtin, Builtin.cap_, hx, run_underlying ht, goInt]
theorem o_cap {m c : Nat} {A : Option Addr} {t e : TypeId} (ht : P.underlying t = some (.slice e)) (hx : evn n ρ x = .slice A m c) (h : O P n ops rest N X (upd ρ d ((.int .i64 c))) w) : O P n ops (⟨some d, .call ⟨.builtin .cap, #[x], #[t]⟩, ty, pos, af, none⟩ :: rest) N X ρ w := O_rn (r_cap ht hx) h

theorem zero_one (cs : Array Value) (h : oneAll cs.toList = true) (q : Nat) : ∀ u ∈ (Builtin.zeroCells cs q).toList, u.oneCell' = true := by
  intro u hu
  simp only [Builtin.zeroCells, Array.toList_map, List.mem_map] at hu
  obtain ⟨j, hj, rfl⟩ := hu
  have hj' : j < q * cs.size := by simpa using hj
  have hpos : 0 < cs.size := by
    rcases Nat.eq_zero_or_pos cs.size with h0 | h0
    · rw [h0] at hj'; omega
    · exact h0
  have hlt : j % cs.size < cs.size := Nat.mod_lt _ hpos
  rw [getElem!_pos cs _ hlt]
  exact oneAll_mem _ h _ (by simp)
theorem zero_single (z : Value) (q : Nat) : (Builtin.zeroCells #[z] q).toList = List.replicate q z := by
  refine List.ext_getElem? fun i => ?_
  simp only [Builtin.zeroCells, Array.toList_map, List.getElem?_map, Array.toList_range, List.getElem?_range', List.getElem?_replicate]
  by_cases h : i < q
  · simp [h, Nat.mod_one]
  · simp [h]
theorem At.appendedZ {e : TypeId} {s i bytes m c q : Nat} {A : Option Addr} {zz : Value} {kq kn : IntKind} {xs : List Value} (hA : At w0 M F w) (hi : F[i]? = some (Row e s (.slice A m c) xs)) (ht : P.underlying t = some (.slice e)) (htn : P.underlying tn = some (.int kn)) (he : TI P e zz s bytes) (hzs : zz.cells.size = s) (hs : 0 < s) (hz1 : oneAll zz.cells.toList = true)
    (hb : (m + q) * bytes ≤ 140737488355328) (hmax : m + q ≤ 140737488355328) :
    ∃ v' w', (Builtin.append_ #[t, tn] ty #[.slice A m c, .int kq (q : Int)]).run P w = .ok v' w' ∧ At w0 M (F.set i (Row e s v' (xs ++ (Builtin.zeroCells zz.cells q).toList))) w' ∧ (m + q ≤ c → v' = .slice A (m + q) c) ∧ (∃ A' c', v' = .slice A' (m + q) c') := by
  obtain ⟨I, hI, hzz⟩ := Option.map_eq_some_iff.1 he
  simp only [Prod.mk.injEq] at hzz
  obtain ⟨hz0, rfl, rfl⟩ := hzz
  obtain ⟨A', m', c'', he', hl, hmc, hcm, hr⟩ := hA.row i hi
  injection he' with e1 e2 e3
  subst e1; subst e2; subst e3
  have hw : IntKind.i64.wrap (q : Int) = q := by rw [IntKind.wrap_i64]; omega
  have hneg : ¬ ((q : Int) < 0) := by omega
  have hqb : q * I.bytes ≤ 140737488355328 := Nat.le_trans (Nat.mul_le_mul_right _ (by omega)) hb
  have h48i : ¬ (281474976710656 < (q : Int) * (I.bytes : Int)) := by rw [← Int.natCast_mul]; omega
  have hzl : (Builtin.zeroCells zz.cells q).toList.length = q * I.size := by simp [size_zeroCells, hzs]
  have hzs' : (Builtin.zeroCells zz.cells q).size = q * I.size := by simp [size_zeroCells, hzs]
  have hset : F.set i (Row e I.size (.slice A m c) xs) = F := by
    apply List.ext_getElem?
    intro j
    by_cases hj : i = j
    · subst hj
      have hlt : i < F.length := (List.getElem?_eq_some_iff.1 hi).1
      rw [List.getElem?_set_self hlt, hi]
    · rw [List.getElem?_set_ne hj]
  rcases Nat.eq_zero_or_pos q with hq | hq
  · subst hq
    have hw0 : IntKind.i64.wrap 0 = 0 := by rw [IntKind.wrap_i64]; rfl
    refine ⟨.slice A m c, w, ?_, ?_, fun _ => rfl, A, c, rfl⟩
    · have hm0 : m + 0 ≤ c := hmc
      cases A with
      | none => simp [Builtin.append_, run_underlying ht, run_underlying htn, sizeOf, typeInfo, hI, asInt, asIntOf, hw0, hmc]
      | some ad => simp [Builtin.append_, run_underlying ht, run_underlying htn, sizeOf, typeInfo, hI, asInt, asIntOf, hw0, hmc, storeCells]
    · have : (Builtin.zeroCells zz.cells 0).toList = [] := by simp [Builtin.zeroCells]
      rw [this, List.append_nil, hset]; exact hA
  · have hns : ¬ (q * I.size = 0) := Nat.mul_ne_zero (by omega) (by omega)
    by_cases hroom : m + q ≤ c
    · obtain ⟨g, cur, rfl, hgh, hcs, htk⟩ := hr.resolve_left (by omega)
      have hqs : (m + q) * I.size ≤ cur.size := Nat.le_trans (Nat.mul_le_mul_right _ hroom) hcs
      have hfit : m * I.size + 0 + (Builtin.zeroCells zz.cells q).toList.length ≤ cur.size := by rw [hzl]; rw [Nat.add_mul] at hqs; omega
      have hst := run_storeCells_at P g (m * I.size) e (Builtin.zeroCells zz.cells q).toList 0 cur w hgh hfit (zero_one _ hz1 q)
      have hadd : (⟨g, 0, none⟩ : Addr).add (m * I.size) = ⟨g, m * I.size, none⟩ := by unfold Addr.add; split <;> simp_all
      refine ⟨.slice (some ⟨g, 0, none⟩) (m + q) c, w.setRow g (cur.toList.take (m * I.size + 0) ++ (Builtin.zeroCells zz.cells q).toList ++ cur.toList.drop (m * I.size + 0 + (Builtin.zeroCells zz.cells q).toList.length)).toArray, ?_, ?_, fun _ => rfl, _, _, rfl⟩
      · simp [Builtin.append_, run_underlying ht, run_underlying htn, sizeOf, typeInfo, zeroValue, hI, hz0, asInt, asIntOf, hw, hneg, hns, h48i, hroom, hadd, hst]
      · refine ((hA.pull i hi).wrote (w' := w.setRow g (cur.toList.take (m * I.size + 0) ++ (Builtin.zeroCells zz.cells q).toList ++ cur.toList.drop (m * I.size + 0 + (Builtin.zeroCells zz.cells q).toList.length)).toArray) (c' := Row e I.size (.slice (some ⟨g, 0, none⟩) (m + q) c) (xs ++ (Builtin.zeroCells zz.cells q).toList)) rfl rfl rfl (by simp) (fun x hx => setRow_other w g x _ fun e => hx ⟨_, m, c, rfl, by omega, e.symm⟩) ?_ ?_).perm (perm_set i _ hi)
        · refine ⟨_, _, c, rfl, by rw [List.length_append, hl, hzl, Nat.add_mul], hroom, hcm, .inr ⟨g, _, rfl, setRow_heap w g cur _ e _ hgh, ?_, ?_⟩⟩
          · simp only [List.size_toArray, List.length_append, List.length_take, List.length_drop, Array.length_toList]
            rw [Array.length_toList] at hfit
            omega
          · have hlen : (m + q) * I.size = (xs ++ (Builtin.zeroCells zz.cells q).toList).length := by rw [List.length_append, hl, hzl, Nat.add_mul]
            rw [Nat.add_zero, htk, hlen]
            exact List.take_left
        · rintro b ⟨a, m', c'', he, h0, rfl⟩
          injection he with he
          injection he with he
          subst he
          exact ⟨_, m, c, rfl, by omega, rfl⟩
    · have h63 : ((m + q : Nat) : Int) ≤ 9223372036854775807 := by omega
      have hold : (Builtin.firstCells I.size m (.slice A m c)).run P w.drew = .ok xs.toArray w.drew := by
        rcases hr with h0 | ⟨g, cur, rfl, hg, hcs, htk⟩
        · subst h0
          obtain rfl : m = 0 := by omega
          obtain rfl : xs = [] := List.eq_nil_of_length_eq_zero (by simpa using hl)
          cases A <;> simp [Builtin.firstCells, loadCells, loadCellsFrom]
        · refine run_firstCells_some (w := w.drew) I.size m _ m c xs hl fun j u hu => ?_
          rw [← htk, List.getElem?_take] at hu
          split at hu
          · have : (⟨g, 0, none⟩ : Addr).add j = ⟨g, j, none⟩ := by unfold Addr.add; split <;> simp_all
            rw [this]
            show w.cell? _ = _
            simp only [World.cell?, hg]
            simpa using hu
          · cases hu
      have hrun := Go.Lib.run_append_grow_zeros (P := P) w t tn ty e I zz kq kn ht htn hI hz0 A m c xs hold q hq hs (by omega) h63 (by omega) (growslice_fits (by omega) hb)
      refine ⟨_, _, hrun, ?_, fun h => absurd h hroom, _, _, rfl⟩
      have hge := grownCap_ge w (m + q) c e
      have hcm2 : grownCap w (m + q) c e ≤ maxLen := grownCap_le_maxLen w (m + q) c e (by simp only [maxLen]; omega)
      have hgr : w.grownBy (w.drew.alloc (.cells (xs.toArray ++ Builtin.zeroCells zz.cells q ++ Builtin.zeroCells zz.cells (grownCap w (m + q) c e - (m + q))) e)) none := ⟨rfl, rfl, rfl, by simp, fun k hk _ => Below.heap_alloc w.drew _ k hk⟩
      refine ((hA.pull i hi).drop.fresh hgr (Row e I.size (.slice (some ⟨w.heap.size, 0, none⟩) (m + q) (grownCap w (m + q) c e)) (xs ++ (Builtin.zeroCells zz.cells q).toList)) ?_ ?_).perm (perm_set i _ hi)
      · have hlen : (xs ++ (Builtin.zeroCells zz.cells q).toList).length = (m + q) * I.size := by rw [List.length_append, hl, hzl, Nat.add_mul]
        refine ⟨_, _, _, rfl, hlen, hge, hcm2, .inr ⟨w.heap.size, _, rfl, heap_alloc_new w.drew _, ?_, ?_⟩⟩
        · simp only [Array.size_append, List.size_toArray, size_zeroCells, hzs, hl, ← Nat.add_mul]
          rw [show m + q + (grownCap w (m + q) c e - (m + q)) = grownCap w (m + q) c e from by omega]
          exact Nat.le_refl _
        · simp only [Array.toList_append, List.append_assoc]
          rw [← List.append_assoc, ← hlen]
          exact List.take_left
      · rintro b ⟨a, m', c'', he, h0, rfl⟩
        injection he with he
        injection he with he
        subst he
        simp
theorem o_appendz {e : TypeId} {s i bytes m c q : Nat} {A : Option Addr} {zz : Value} {kq kn : IntKind} {xs : List Value} (hA : At w0 M F w) (hx : evn n ρ x = .slice A m c) (hy : evn n ρ y = .int kq (q : Int)) (hi : F[i]? = some (Row e s (.slice A m c) xs)) (ht : P.underlying t = some (.slice e)) (htn : P.underlying tn = some (.int kn)) (he : TI P e zz s bytes) (hzs : zz.cells.size = s) (hs : 0 < s) (hz1 : oneAll zz.cells.toList = true)
    (hb : (m + q) * bytes ≤ 140737488355328) (hmax : m + q ≤ 140737488355328)
    (h : ∀ A' c' w', At w0 M (F.set i (Row e s (.slice A' (m + q) c') (xs ++ (Builtin.zeroCells zz.cells q).toList))) w' → O P n ops rest N X (upd ρ d (.slice A' (m + q) c')) w') : O P n ops (⟨some d, .call ⟨.builtin .append, #[x, y], #[t, tn]⟩, ty, pos, af, none⟩ :: rest) N X ρ w := by
  obtain ⟨v', w', hr, hA', _, A', c', rfl⟩ := hA.appendedZ (ty := ty) (kq := kq) hi ht htn he hzs hs hz1 hb hmax
  exact O_val (by simp [execOp, resolve, invoke, builtin, hx, hy, hr]) (h A' c' w' hA')
end Go.Proofs.Ytbcaooiphalkoaa
