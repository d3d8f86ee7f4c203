/-
  More rules: slicing, results, conversions. No program in sight; nothing here is claimed.
-/
import Derived.Test.YtbcaooiphalkoaaOps
set_option linter.unusedVariables false
set_option linter.unusedSimpArgs false
namespace Go.Proofs.Ytbcaooiphalkoaa
open Go Go.RowKit

variable {P : Program} {n : Nat} {N : Env → World → Prop} {X : Exit → Env → World → Prop} {ρ : Env} {w w' w0 : World} {M : Nat → Prop} {F : List Ch}
variable {ops : List Oper} {rest : List Oper} {d : Nat} {ty t : TypeId} {pos : String} {af : Array Edge} {v u : Value} {x y z : Operand} {k : IntKind} {a b : Int}

/-! ### Slicing -/
def sb (dflt : Nat) (ov : Option Value) (r : Nat) : Prop := ov = none ∧ r = dflt ∨ ∃ k, ov = some (.int k (r : Int))
theorem run_sliceBound {r y : Nat} {c : BoundsCode} (h : r ≤ y) : (Instr.sliceBound (.int k (r : Int)) y c).run P w = .ok r w := by
  have h1 : (0 : Int) ≤ (r : Int) ∧ (r : Int) ≤ (y : Int) := by omega
  simp [Instr.sliceBound, asIntOf, h1]
theorem r_slice {e : TypeId} {A : Option Addr} {m c l h mm s bb : Nat} {zz : Value} {lo hi mx : Option Operand} (ht : P.underlying t = some (.slice e)) (he : TI P e zz s bb) (hx : evn n ρ x = .slice A m c)
    (hmx : sb c (mx.map (evn n ρ)) mm) (hhi : sb m (hi.map (evn n ρ)) h) (hlo : sb 0 (lo.map (evn n ρ)) l) (hnm : mx.isSome = true → hi.isSome = true) (h1 : mm ≤ c) (h2 : h ≤ mm) (h3 : l ≤ h) :
    Rn P n ρ w (.slice t x lo hi mx) ty (.slice (if mm = l then A else A.map (·.add (l * s))) (h - l) (mm - l)) := by
  intro dd pos af
  have hb : (Instr.sliceBounds true m c (lo.map (evn n ρ)) (hi.map (evn n ρ)) (mx.map (evn n ρ))).run P w = .ok (l, h, mm) w := by
    unfold Instr.sliceBounds
    rcases hmx with ⟨e1, rfl⟩ | ⟨k1, e1⟩ <;> rcases hhi with ⟨e2, rfl⟩ | ⟨k2, e2⟩ <;> rcases hlo with ⟨e3, rfl⟩ | ⟨k3, e3⟩ <;> rw [e1, e2, e3]
    all_goals first
      | (simp [run_sliceBound, h1, h2, h3]; done)
      | (exfalso
         have q1 : mx.isSome = true := by cases mx with | none => cases e1 | some _ => rfl
         have q2 := hnm q1
         cases hi with | none => cases q2 | some _ => cases e2)
  have hs : (Instr.sliceAt t (.slice A m c) (lo.map (evn n ρ)) (hi.map (evn n ρ)) (mx.map (evn n ρ))).run P w = .ok (.slice (if mm = l then A else A.map (·.add (l * s))) (h - l) (mm - l)) w := by
    simp only [Instr.sliceAt, Instr.slice, run_underlying ht, Sem.run_bind, Result.andThen_ok, hb, he.size, Sem.run_pure]
  simp only [execOp, hx, hs, Sem.run_bind, Result.andThen_ok, Sem.run_pure]
theorem o_slice {e : TypeId} {A : Option Addr} {m c l h mm s bb : Nat} {zz : Value} {lo hi mx : Option Operand} (ht : P.underlying t = some (.slice e)) (he : TI P e zz s bb) (hx : evn n ρ x = .slice A m c)
    (hmx : sb c (mx.map (evn n ρ)) mm) (hhi : sb m (hi.map (evn n ρ)) h) (hlo : sb 0 (lo.map (evn n ρ)) l) (hnm : mx.isSome = true → hi.isSome = true) (h1 : mm ≤ c) (h2 : h ≤ mm) (h3 : l ≤ h)
    (hk : O P n ops rest N X (upd ρ d (.slice (if mm = l then A else A.map (·.add (l * s))) (h - l) (mm - l))) w) : O P n ops (⟨some d, .slice t x lo hi mx, ty, pos, af, none⟩ :: rest) N X ρ w := O_rn (r_slice ht he hx hmx hhi hlo hnm h1 h2 h3) hk
theorem r_sliceg {e : TypeId} {m c l h mm s bb g o : Nat} {zz : Value} {lo hi mx : Option Operand} (ht : P.underlying t = some (.slice e)) (he : TI P e zz s bb) (hx : evn n ρ x = .slice (some ⟨g, o, none⟩) m c)
    (hmx : sb c (mx.map (evn n ρ)) mm) (hhi : sb m (hi.map (evn n ρ)) h) (hlo : sb 0 (lo.map (evn n ρ)) l) (hnm : mx.isSome = true → hi.isSome = true) (h1 : mm ≤ c) (h2 : h ≤ mm) (h3 : l ≤ h) (h4 : l < mm) :
    Rn P n ρ w (.slice t x lo hi mx) ty (.slice (some ⟨g, o + l * s, none⟩) (h - l) (mm - l)) := by
  have := r_slice (w := w) (ty := ty) ht he hx hmx hhi hlo hnm h1 h2 h3
  rw [if_neg (by omega)] at this
  have hadd : (⟨g, o, none⟩ : Addr).add (l * s) = ⟨g, o + l * s, none⟩ := by unfold Addr.add; split <;> simp_all
  simpa [hadd] using this
theorem o_sliceg {e : TypeId} {m c l h mm s bb g o : Nat} {zz : Value} {lo hi mx : Option Operand} (ht : P.underlying t = some (.slice e)) (he : TI P e zz s bb) (hx : evn n ρ x = .slice (some ⟨g, o, none⟩) m c)
    (hmx : sb c (mx.map (evn n ρ)) mm) (hhi : sb m (hi.map (evn n ρ)) h) (hlo : sb 0 (lo.map (evn n ρ)) l) (hnm : mx.isSome = true → hi.isSome = true) (h1 : mm ≤ c) (h2 : h ≤ mm) (h3 : l ≤ h) (h4 : l < mm)
    (hk : O P n ops rest N X (upd ρ d (.slice (some ⟨g, o + l * s, none⟩) (h - l) (mm - l))) w) : O P n ops (⟨some d, .slice t x lo hi mx, ty, pos, af, none⟩ :: rest) N X ρ w := O_rn (r_sliceg ht he hx hmx hhi hlo hnm h1 h2 h3 h4) hk
theorem Rd.cutg {s m c l h mm g o : Nat} {xs : List Value} (hv : Rd w s (.slice (some ⟨g, o, none⟩) m c) xs) (h1 : mm ≤ c) (h2 : h ≤ mm) (h3 : l ≤ h) (h4 : h ≤ m) :
    Rd w s (.slice (some ⟨g, o + l * s, none⟩) (h - l) (mm - l)) ((xs.drop (l * s)).take ((h - l) * s)) := by
  obtain ⟨A', m', c', he, hl, hc, hm, hr⟩ := hv
  injection he with e1 e2 e3
  subst e1; subst e2; subst e3
  have hlen : ((xs.drop (l * s)).take ((h - l) * s)).length = (h - l) * s := by
    rw [List.length_take, List.length_drop, hl, ← Nat.sub_mul]
    exact Nat.min_eq_left (Nat.mul_le_mul_right _ (by omega))
  refine ⟨_, _, _, rfl, hlen, by omega, by omega, ?_⟩
  rcases hr with rfl | ⟨b, o', he, hr⟩
  · left; simp
  · injection he with he
    injection he with he1 he2
    subst he1; subst he2
    refine .inr ⟨g, o + l * s, rfl, fun j u hu => ?_⟩
    rw [List.getElem?_take] at hu
    split at hu
    · rw [List.getElem?_drop] at hu
      rw [Nat.add_assoc]; exact hr _ u hu
    · cases hu
theorem IsRow.headg {e : TypeId} {s m c h g : Nat} {xs : List Value} (hv : IsRow w e s (.slice (some ⟨g, 0, none⟩) m c) xs) (h4 : h ≤ m) :
    IsRow w e s (.slice (some ⟨g, 0, none⟩) h c) (xs.take (h * s)) := by
  obtain ⟨A', m', c', he, hl, hc, hm, hr⟩ := hv
  injection he with e1 e2 e3
  subst e1; subst e2; subst e3
  have hle : h * s ≤ m * s := Nat.mul_le_mul_right _ h4
  refine ⟨_, _, _, rfl, by rw [List.length_take, hl]; omega, by omega, hm, ?_⟩
  rcases hr with h0 | ⟨g', cur, hg', hg, hcs, htk⟩
  · exact .inl h0
  · refine .inr ⟨g', cur, hg', hg, hcs, ?_⟩
    rw [← htk, List.take_take, Nat.min_eq_left hle]
theorem Rd.cut {s m c l h mm : Nat} {A : Option Addr} {xs : List Value} (hv : Rd w s (.slice A m c) xs) (h1 : mm ≤ c) (h2 : h ≤ mm) (h3 : l ≤ h) (h4 : h ≤ m) :
    Rd w s (.slice (if mm = l then A else A.map (·.add (l * s))) (h - l) (mm - l)) ((xs.drop (l * s)).take ((h - l) * s)) := by
  obtain ⟨A', m', c', he, hl, hc, hm, hr⟩ := hv
  injection he with e1 e2 e3
  subst e1; subst e2; subst e3
  have hlen : ((xs.drop (l * s)).take ((h - l) * s)).length = (h - l) * s := by
    rw [List.length_take, List.length_drop, hl, ← Nat.sub_mul]
    exact Nat.min_eq_left (Nat.mul_le_mul_right _ (by omega))
  refine ⟨_, _, _, rfl, hlen, by omega, by omega, ?_⟩
  rcases hr with rfl | ⟨b, o, rfl, hr⟩
  · left; simp
  · by_cases hm : mm = l
    · left
      apply List.eq_nil_of_length_eq_zero
      rw [hlen]
      have : h - l = 0 := by omega
      rw [this, Nat.zero_mul]
    · right
      refine ⟨b, o + l * s, ?_, fun j u hu => ?_⟩
      · rw [if_neg hm]
        simp only [Option.map_some, Option.some.injEq]
        unfold Addr.add; split <;> simp_all
      · rw [List.getElem?_take] at hu
        split at hu
        · rw [List.getElem?_drop] at hu
          rw [Nat.add_assoc]; exact hr _ u hu
        · cases hu
theorem cut_blk {s m c l h mm : Nat} {A : Option Addr} (h1 : mm ≤ c) (hlm : l ≤ mm) {b : Nat} (hb : InBlk (.slice (if mm = l then A else A.map (·.add (l * s))) (h - l) (mm - l)) b) : InBlk (.slice A m c) b := by
  obtain ⟨a, m', c', he, h0, rfl⟩ := hb
  injection he with e1 e2 e3
  rw [if_neg (by omega)] at e1
  cases A with
  | none => cases e1
  | some a0 =>
    simp only [Option.map_some, Option.some.injEq] at e1
    refine ⟨a0, m, c, rfl, by omega, ?_⟩
    rw [← e1]; unfold Addr.add; split <;> rfl
/-- A row from its head on, with less room. -/
theorem IsRow.head {e : TypeId} {s m c h mm : Nat} {A : Option Addr} {xs : List Value} (hv : IsRow w e s (.slice A m c) xs) (h1 : mm ≤ c) (h2 : h ≤ mm) (h4 : h ≤ m) :
    IsRow w e s (.slice (if mm = 0 then A else A.map (·.add (0 * s))) (h - 0) (mm - 0)) (xs.take (h * s)) := by
  obtain ⟨A', m', c', he, hl, hc, hm, hr⟩ := hv
  injection he with e1 e2 e3
  subst e1; subst e2; subst e3
  have hA : (if mm = 0 then A else A.map (·.add (0 * s))) = A := by
    split
    · rfl
    · cases A with
      | none => rfl
      | some a => simp [Addr.add]
  rw [hA, Nat.sub_zero, Nat.sub_zero]
  have hle : h * s ≤ m * s := Nat.mul_le_mul_right _ h4
  refine ⟨_, _, _, rfl, by rw [List.length_take, hl]; omega, h2, by omega, ?_⟩
  rcases hr with h0 | ⟨g, cur, rfl, hg, hcs, htk⟩
  · exact .inl (by omega)
  · refine .inr ⟨g, cur, rfl, hg, Nat.le_trans (Nat.mul_le_mul_right _ h1) hcs, ?_⟩
    rw [← htk, List.take_take, Nat.min_eq_left hle]

/-- A call that answers a bool that decides. -/
theorem O_callb {g : Nat} {fn : Func} {xs : List Operand} {ts : Array TypeId} {as : List Value} {c : Bool} {R : World → Prop} (hf : Ent P g fn) (ha : xs.map (evn n ρ) = as)
    (h : Calls P g as.toArray w fun e w' => ∃ v, e = .returned v ∧ (v = .bool c ∧ R w')) (hk : ∀ w', R w' → c = true → O P n ops rest N X (upd ρ d (.bool true)) w') (hk' : ∀ w', R w' → c = false → O P n ops rest N X (upd ρ d (.bool false)) w') :
    O P n ops (⟨some d, .call ⟨.value (.func g), xs.toArray, ts⟩, ty, pos, af, none⟩ :: rest) N X ρ w :=
  O_calls hf ha h fun v w' hR => by
    obtain ⟨rfl, hR⟩ := hR
    cases c
    · exact hk' w' hR rfl
    · exact hk w' hR rfl

theorem w64 {a r : Int} (h : a = r) (h1 : -9223372036854775808 ≤ a) (h2 : a ≤ 9223372036854775807) : IntKind.i64.wrap a = r := by rw [IntWalk.i64_in _ ⟨h1, h2⟩, h]
theorem w64r {a r : Int} (h : a = r) (h1 : -9223372036854775808 ≤ r) (h2 : r ≤ 9223372036854775807) : IntKind.i64.wrap a = r := by subst h; exact IntWalk.i64_in _ ⟨h1, h2⟩
theorem Rd.cells {s m c g o j : Nat} {xs : List Value} {u : Value} (h : Rd w s (.slice (some ⟨g, o, none⟩) m c) xs) (hj : xs[j]? = some u) : w.cell? ⟨g, o + j, none⟩ = some u := by
  obtain ⟨A', m', c', he, hl, hc, hm, hr⟩ := h
  rcases hr with rfl | ⟨b, o', ho, hr⟩
  · cases hj
  · injection he with e1
    rw [ho] at e1
    injection e1 with e1
    injection e1 with e1 e2
    subst e1; subst e2
    exact hr j u hj

/-! ### Results -/
theorem ret1 {fn : Func} {r : Nat} {R : Value → World → Prop} (hr : fn.results = #[.tmp r]) (hv : evn n ρ (.tmp r) = v) (h : R v w) : Ret P fn n R ρ w :=
  ⟨v, by rw [results_tmp hr, tm_getD, hv], h⟩
theorem ret0 {fn : Func} {R : Value → World → Prop} (hr : fn.results = #[]) (h : R (.tuple #[]) w) : Ret P fn n R ρ w :=
  ⟨_, results_none hr _ _ _, h⟩
theorem ret2 {fn : Func} {r s : Nat} {R : Value → World → Prop} (hr : fn.results = #[.tmp r, .tmp s]) (hv : evn n ρ (.tmp r) = v) (hu : evn n ρ (.tmp s) = u) (h : R (.tuple #[v, u]) w) : Ret P fn n R ρ w :=
  ⟨_, results_tmp2 hr _ _ _, by rw [tm_getD, tm_getD, hv, hu]; exact h⟩
theorem run_loadN {b o s bb : Nat} {zz : Value} {cs : List Value} (ht : (P.underlying t).map aggD = some true) (he : TI P t zz s bb) (hl : cs.length = s) (hc : ∀ j v, cs[j]? = some v → w.cell? ⟨b, o + j, none⟩ = some v) :
    (loadVar t ⟨b, o, none⟩).run P w = .ok (.agg cs.toArray) w := by
  have hl' : (loadCells ⟨b, o, none⟩ cs.length).run P w = .ok cs.toArray w := run_loadCells_list w _ cs fun j v hj => by
    have : (⟨b, o, none⟩ : Addr).add j = ⟨b, o + j, none⟩ := by unfold Addr.add; split <;> simp_all
    rw [this]; exact hc j v hj
  subst hl
  simp [loadVar, run_isAgg ht, he.size, hl']
/-- All of a variable, or a part of it. -/
theorem At.cs {i b o s : Nat} {T : TypeId} {cs ds : List Value} (h : At w0 M F w) (hi : F[i]? = some (Cell b T cs)) (hd : (cs.drop o).take s = ds) : ∀ j v, ds[j]? = some v → w.cell? ⟨b, o + j, none⟩ = some v := by
  intro j v hj
  refine h.c i hi ?_
  rw [← hd, List.getElem?_take] at hj
  split at hj
  · rwa [List.getElem?_drop] at hj
  · cases hj
theorem retc {fn : Func} {r b s bb i : Nat} {T : TypeId} {zz : Value} {cs : List Value} {R : Value → World → Prop} (hA : At w0 M F w) (hr : fn.results = #[.cell r t]) (hv : evn n ρ (.tmp r) = .pointer (some ⟨b, 0, none⟩)) (ht : (P.underlying t).map aggD = some true) (he : TI P t zz s bb) (hi : F[i]? = some (Cell b T cs)) (hl : cs.length = s) (h : R (.agg cs.toArray) w) :
    Ret P fn n R ρ w := by
  refine ⟨.agg cs.toArray, ?_, h⟩
  have := run_loadN (w := w) ht he hl (hA.cs (o := 0) (s := cs.length) (ds := cs) hi (by simp))
  have e1 : (tm n ρ)[r]?.getD undef = .pointer (some ⟨b, 0, none⟩) := by rw [← Array.getD_eq_getD_getElem?, tm_getD, hv]
  simp [results, hr, e1, asAddr, this]
theorem retct {fn : Func} {r q b s bb i : Nat} {T : TypeId} {zz : Value} {cs : List Value} {R : Value → World → Prop} (hA : At w0 M F w) (hr : fn.results = #[.cell r t, .tmp q]) (hv : evn n ρ (.tmp r) = .pointer (some ⟨b, 0, none⟩)) (hu : evn n ρ (.tmp q) = u) (ht : (P.underlying t).map aggD = some true) (he : TI P t zz s bb) (hi : F[i]? = some (Cell b T cs)) (hl : cs.length = s) (h : R (.tuple #[.agg cs.toArray, u]) w) :
    Ret P fn n R ρ w := by
  refine ⟨.tuple #[.agg cs.toArray, u], ?_, h⟩
  have := run_loadN (w := w) ht he hl (hA.cs (o := 0) (s := cs.length) (ds := cs) hi (by simp))
  have e1 : (tm n ρ)[r]?.getD undef = .pointer (some ⟨b, 0, none⟩) := by rw [← Array.getD_eq_getD_getElem?, tm_getD, hv]
  have e2 : (tm n ρ)[q]?.getD undef = u := by rw [← Array.getD_eq_getD_getElem?, tm_getD, hu]
  simp [results, hr, e1, e2, asAddr, this]

/-! ### Bytes and strings -/
def u8s (l : List UInt8) : List Value := l.map fun c => .int .u8 c.toNat
theorem u8s_len (l : List UInt8) : (u8s l).length = l.length := by simp [u8s]
theorem o_toString {s' e : TypeId} {l : List UInt8} (hs : P.underlying s' = some (.slice e)) (he : P.underlying e = some (.int .u8)) (ht : P.underlying t = some .string) (hx : evn n ρ x = v) (hv : Rd w 1 v (u8s l)) (h : O P n ops rest N X (upd ρ d (.string ⟨l.toArray⟩)) w) :
    O P n ops (⟨some d, .convert s' t x, ty, pos, af, none⟩ :: rest) N X ρ w := by
  refine O_val ?_ h
  obtain ⟨A, m, c, rfl, hl, hc, hm, hr⟩ := hv
  have hm' : l.length = m := by rw [u8s_len] at hl; omega
  have hrun : (convert s' t (.slice A m c)).run P w = .ok (.string ⟨l.toArray⟩) w := by
    rcases hr with h0 | ⟨b, o, rfl, hr⟩
    · have h1 : l = [] := by cases l with | nil => rfl | cons _ _ => simp [u8s] at h0
      subst h1
      have : m = 0 := by simpa using hm'.symm
      subst this
      cases A with
      | none => exact run_convert_bytes_nil w s' e hs he 0 c t ht
      | some a => simp [convert, run_underlying hs, run_underlying ht, run_underlying he, Conv.bytesToString, loadCells, loadCellsFrom]; rfl
    · have := run_convert_bytes_arg w s' e hs he b o m c (l.map fun c => (c.toNat : Int)) (by simpa using hm') (fun i hi => by
        have hi' : i < l.length := by omega
        have := hr i (.int .u8 l[i].toNat) (by simp [u8s, hi'])
        rw [this]
        simp [List.getD_eq_getElem?_getD, hi']) t ht
      rw [this]
      have e1 : (l.map fun c => (c.toNat : Int)).map (fun n => UInt8.ofNat n.toNat) = l := by
        rw [List.map_map]
        conv => rhs; rw [← List.map_id l]
        exact List.map_congr_left fun c _ => by simp
      simp only [strOfNums, e1]
  simp [execOp, hx, hrun]
/-! ### make -/
theorem o_make {e : TypeId} {m s bb : Nat} {zz : Value} (hA : At w0 M F w) (ht : P.underlying t = some (.slice e)) (he : TI P e zz s bb) (hx : evn n ρ x = .int k (m : Int)) (hb : bb * m ≤ 281474976710656) (hm : m ≤ maxLen)
    (h : ∀ a w', At w0 M (Row e s (.slice (some ⟨a, 0, none⟩) m m) (madeCells zz.cells (m * s)).toList :: F) w' → O P n ops rest N X (upd ρ d (.slice (some ⟨a, 0, none⟩) m m)) w') :
    O P n ops (⟨some d, .makeSlice t x x, ty, pos, af, none⟩ :: rest) N X ρ w := by
  unfold TI at he
  obtain ⟨i, hi, hi2⟩ := Option.map_eq_some_iff.1 he
  simp only [Prod.mk.injEq] at hi2
  obtain ⟨h1, rfl, rfl⟩ := hi2
  have hm2 : (m : Int) ≤ 9223372036854775807 := by
    have h := hm
    simp [maxLen] at h
    omega
  have hb2 : (i.bytes : Int) * (m : Int) ≤ 281474976710656 := by
    have h : ((i.bytes * m : Nat) : Int) ≤ 281474976710656 := by omega
    rwa [Int.natCast_mul] at h
  have hr := run_make (P := P) w t e i zz ht hi h1 k k m m (by omega) (Int.le_refl _) hb2 hm2
  simp only [Int.toNat_natCast] at hr
  have hA' := hA.newRow e i.size m (madeCells zz.cells (m * i.size)).toList (by simp [size_madeCells]) hm
  rw [Array.toArray_toList] at hA'
  exact O_val (by simp [execOp, hx, hr]) (h _ _ hA')
theorem made_one (z : Value) (m : Nat) : (madeCells #[z] m).toList = List.replicate m z := by
  refine List.ext_getElem? fun i => ?_
  simp only [madeCells, Array.toList_map, List.getElem?_map, Array.toList_range, List.getElem?_range', List.getElem?_replicate]
  by_cases h : i < m
  · simp [h, Nat.mod_one]
  · simp [h]
end Go.Proofs.Ytbcaooiphalkoaa
