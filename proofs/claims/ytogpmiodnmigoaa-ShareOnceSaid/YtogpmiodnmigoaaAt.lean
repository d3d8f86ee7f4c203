/-
  poly.At: a range over slices.Backward, after the library's laws on ranges over functions.
-/
import Derived.RangeFuncBox
import Derived.RangeFuncFrom
import Derived.RangeFuncNested
import Derived.RangeFuncLeaves
import Derived.Shelf.Abstract
import Derived.WalkKit
import Derived.OwnWalkIn
import Derived.TacticsInMore
import Derived.LoopNIn
import Derived.LoopIn
import Derived.Test.YtogpmiodnmigoaaPrime
import Derived.Test.YtogpmiodnmigoaaRefs
set_option linter.unusedVariables false
set_option linter.unusedSimpArgs false
namespace Go.Proofs.Ytogpmiodnmigoaa
open Go Go.RowKit Go.Shelf

attribute [local go_sem] Oper.semAt_some

/-- What has come when k rounds are over: the last one, the one ahead of it, .. -/
def downto (l : List Nat) (k : Nat) : List (Nat × Nat) := (List.range k).map fun j => (l.length - 1 - j, (l[l.length - 1 - j]?).getD 0)
theorem downto_succ (l : List Nat) (k : Nat) : downto l (k + 1) = downto l k ++ [(l.length - 1 - k, (l[l.length - 1 - k]?).getD 0)] := by simp [downto, List.range_succ]
theorem downto_len (l : List Nat) (k : Nat) : (downto l k).length = k := by simp [downto]

/-- Whatever lay below n₀ lies as it lay; so does block B. -/
def KpB (n₀ B : Nat) (W W' : World) : Prop := Below n₀ W W' ∧ W'.heap[B]? = W.heap[B]?
theorem KpB.refl (n₀ B : Nat) (W : World) : KpB n₀ B W W := ⟨Below.refl _ _, rfl⟩
theorem KpB.trans {n₀ B : Nat} {X Y Z : World} (h : KpB n₀ B X Y) (k : KpB n₀ B Y Z) : KpB n₀ B X Z := ⟨h.1.trans k.1, k.2.trans h.2⟩
theorem KpB.box {n₀ B j : Nat} {X Y : World} (h : KpB n₀ B X Y) : Y.cell? ⟨B, j, none⟩ = X.cell? ⟨B, j, none⟩ := World.cell?_of_block h.2
theorem KpB.put {n₀ B : Nat} {w : World} (hn : n₀ ≤ w.heap.size) (hB : B < w.heap.size) (W : World) (l : Nat) (o o' : Obj) (hl : w.heap.size ≤ l) (h : W.heap[l]? = some o) (h1 : o.isCells = false) (h2 : o.isWalk = false) : KpB n₀ B W (W.putObj l o') :=
  ⟨belowK_b hn W l o o' hl h h1 h2, World.putObj_heap_other (by omega)⟩

set_option maxRecDepth 100000 in
set_option maxHeartbeats 2000000 in
theorem back1_in (F : Fence) (n : Nat) (hf : F.fn 55) (hro : F.round = none) (hn : 1 ≤ n) (r Bs n₀ b off cap : Nat) (l : List Nat) (hl : l.length ≤ 1000000) (hb : b < n₀) (J Jx : List (Nat × Nat) → World → Prop)
    (hY : ∀ pre (x : Nat × Nat) W, J pre W → pre.length < l.length → YieldAt F (n - 1) Try.prog r #[.int .i64 (x.1 : Int), .int .u64 (x.2 : Int)] W fun e W' =>
      (e = .returned (.bool true) ∧ J (pre ++ [x]) W' ∧ KpB n₀ Bs W W') ∨ (e = .returned (.bool false) ∧ Jx (pre ++ [x]) W'))
    (W : World) (hBs : W.cell? ⟨Bs, 0, none⟩ = some (.slice (some ⟨b, off, none⟩) l.length cap)) (hc : ∀ j, j < l.length → W.cell? ⟨b, off + j, none⟩ = some (.int .u64 (((l[j]?).getD 0 : Nat) : Int))) (h0 : J [] W) :
    CallsIn F n Try.prog 55 #[.func (.yield r) #[] #[], .pointer (some ⟨Bs, 0, none⟩)] W fun e W' => (∃ v, e = .returned v) ∧
      ((∃ ys, ys = downto l l.length ∧ J ys W') ∨ (∃ pre, (∃ k, k ≤ l.length ∧ pre = downto l k) ∧ Jx pre W')) := by
  refine callsIn_of_wp Try.func55 rfl hf ?_ hro
  simp only [Try.ntmps55, List.size_toArray, List.length_cons, List.length_nil, Nat.reduceAdd, Nat.reduceSub, Array.replicate_succ, Array.replicate_zero, List.push_toArray, List.append_toArray, List.nil_append, List.cons_append]
  gi_wp2
  gi_loopw [3] (fun i wr => ∃ k : Nat, k ≤ l.length ∧ i = .int .i64 ((l.length : Int) - 1 - k) ∧ J (downto l k) wr ∧ KpB n₀ Bs W wr)
    (fun i _ => (intOf i + 1).toNat)
  case atStart => exact ⟨0, Nat.zero_le _, by simp, h0, KpB.refl _ _ _⟩
  case round =>
    obtain ⟨k, hk, rfl, hJs, hnx⟩ := hrel
    have hBx : wr.cell? ⟨Bs, 0, none⟩ = some (.slice (some ⟨b, off, none⟩) l.length cap) := hnx.box.trans hBs
    by_cases hlt : k < l.length
    · obtain ⟨q, hq⟩ : ∃ q, l.length - 1 - k = q := ⟨_, rfl⟩
      have hql : q < l.length := by omega
      have hcx : wr.cell? ⟨b, off + q, none⟩ = some (.int .u64 (((l[q]?).getD 0 : Nat) : Int)) := (hnx.1.cell (p := ⟨b, off + q, none⟩) hb).trans (hc _ (by omega))
      obtain ⟨fn, tmps, assign, body, hy, hR⟩ := hY _ (q, (l[q]?).getD 0) wr hJs (by rw [downto_len]; exact hlt)
      dsimp only at hy
      have e1 : ((l.length : Int) - 1 - k) = (q : Int) := by omega
      have hds : downto l (k + 1) = downto l k ++ [(q, (l[q]?).getD 0)] := by rw [downto_succ, hq]
      rw [e1]
      generalize (l[q]?).getD 0 = z at *
      gi_wp2
      refine hR.mono ?_
      rintro e W3 (⟨rfl, hJ3, hk3⟩ | ⟨rfl, hJx3⟩)
      · gi_wp2
        go_roundw
        case rel => exact ⟨k + 1, by omega, by simp; omega, by rw [hds]; exact hJ3, hnx.trans hk3⟩
        case measure => simp [intOf]
      · gi_wp2
        refine bodyPost_ret (results_none rfl _ _ _) rfl ?_
        exact ⟨⟨_, rfl⟩, .inr ⟨_, ⟨k + 1, by omega, hds.symm⟩, hJx3⟩⟩
    · obtain rfl : k = l.length := by omega
      have e1 : ((l.length : Int) - 1 - (l.length : Int)) = -1 := by omega
      rw [e1]
      gi_wp2
      go_end0
      exact ⟨⟨_, rfl⟩, .inl ⟨_, rfl, hJs⟩⟩

set_option maxRecDepth 100000 in
set_option maxHeartbeats 1000000 in
theorem back1_nil_in (F : Fence) (n : Nat) (hf : F.fn 55) (hro : F.round = none) (r Bs c : Nat) (A : Option Addr) (J : List (Nat × Nat) → World → Prop) (W : World) (hBs : W.cell? ⟨Bs, 0, none⟩ = some (.slice A 0 c)) (h0 : J [] W) :
    CallsIn F n Try.prog 55 #[.func (.yield r) #[] #[], .pointer (some ⟨Bs, 0, none⟩)] W fun e W' => (∃ v, e = .returned v) ∧ J [] W' := by
  refine callsIn_of_wp Try.func55 rfl hf ?_ hro
  simp only [Try.ntmps55, List.size_toArray, List.length_cons, List.length_nil, Nat.reduceAdd, Nat.reduceSub, Array.replicate_succ, Array.replicate_zero, List.push_toArray, List.append_toArray, List.nil_append, List.cons_append]
  gi_wp2
  gi_loopw [3] (fun i wr => i = .int .i64 (-1) ∧ J [] wr) (fun _ _ => 0)
  case atStart => exact ⟨by simp, h0⟩
  case round =>
    obtain ⟨rfl, hJs⟩ := hrel
    gi_wp2
    go_end0
    exact ⟨⟨_, rfl⟩, hJs⟩

set_option maxHeartbeats 1000000 in
theorem back_in (F : Fence) (n : Nat) (hf : F.fn 52) (hro : F.round = none) (a : Option Addr) (len cap : Nat) (w : World) :
    CallsIn F n Try.prog 52 #[.slice a len cap] w fun e w' => e = .returned (.func (.func 55) #[] #[.pointer (some ⟨w.heap.size, 0, none⟩)]) ∧ w' = w.alloc (.cells #[.slice a len cap] 25) := by
  refine callsIn_of_wp Try.func52 rfl hf ?_ hro
  simp only [Try.ntmps52, List.size_toArray, List.length_cons, List.length_nil, Nat.reduceAdd, Nat.reduceSub, Array.replicate_succ, Array.replicate_zero, List.push_toArray, List.append_toArray, List.nil_append, List.cons_append]
  gi_wp2
  go_ret
  exact ⟨rfl, rfl⟩

theorem rd_grow {X Y : World} {s : Nat} {v : Value} {xs : List Value} (h : Rd X s v xs) (k : Below X.heap.size X Y) : Rd Y s v xs := by
  obtain ⟨A, m, c, rfl, hl, hc, hm, hr⟩ := h
  refine ⟨A, m, c, rfl, hl, hc, hm, ?_⟩
  rcases hr with hr | ⟨b, o, rfl, hr⟩
  · exact .inl hr
  · exact .inr ⟨b, o, rfl, fun j u hu => (k.cell (p := ⟨b, o + j, none⟩) (World.block_lt_of_cell? X _ (hr j u hu))).trans (hr j u hu)⟩
theorem rd_lt {w : World} {v : Value} {l : List Nat} (h : Rd w 1 v (u64s l)) (hne : 0 < l.length) : ∀ A m c, v = .slice A m c → ∃ g o, A = some ⟨g, o, none⟩ ∧ g < w.heap.size := by
  rintro A m c rfl
  obtain ⟨g, o, rfl⟩ := h.some (by rw [u64s_len]; exact hne)
  refine ⟨g, o, rfl, ?_⟩
  have := h.cells (u64s_get (List.getElem?_eq_getElem hne))
  exact World.block_lt_of_cell? w _ this

theorem back_stops (F : Fence) (n : Nat) (hf : F.fn 55) (hro : F.round = none) (hn : 1 ≤ n) (Bs n₀ : Nat) (A : Option Addr) (m c : Nat) (l : List Nat) (hl : l.length ≤ 1000000) (w : World) (hBs : Bs < w.heap.size) (hn₀ : n₀ ≤ w.heap.size)
    (hc : w.cell? ⟨Bs, 0, none⟩ = some (.slice A m c)) (hR : Rd w 1 (.slice A m c) (u64s l)) (hlow : ∀ g o, A = some ⟨g, o, none⟩ → 0 < l.length → g < n₀) :
    SeqStopsK F n Try.prog 55 #[.pointer (some ⟨Bs, 0, none⟩)] (fun x : Nat × Nat => #[Value.int .i64 (x.1 : Int), Value.int .u64 (x.2 : Int)]) (KpB n₀ Bs) (fun ys => ys = downto l l.length) (fun _ => True) l.length w := fun r J Jx W hW _ _ hY h0 => by
  have hc' := (hW.cell (p := ⟨Bs, 0, none⟩) hBs).trans hc
  obtain rfl := u64_len hR
  rcases Nat.eq_zero_or_pos l.length with hz | hz
  · rw [hz] at hc'
    refine (back1_nil_in F n hf hro r Bs c A J W hc' h0).mono fun e W' ⟨he, hj⟩ => ⟨he, .inl ⟨_, ?_, hj⟩⟩
    rw [hz]; rfl
  · obtain ⟨g, o, rfl⟩ := hR.some (by rw [u64s_len]; exact hz)
    have hg := hlow g o rfl hz
    refine (back1_in F n hf hro hn r Bs n₀ g o c l hl hg J Jx hY W hc' (fun j hj => ?_) h0).mono ?_
    · have := hR.cells (j := j) (u := .int .u64 (((l[j]?).getD 0 : Nat) : Int)) (by rw [u64s_get (List.getElem?_eq_getElem hj), List.getElem?_eq_getElem hj]; rfl)
      exact ((hW.mono hn₀).cell (p := ⟨g, o + j, none⟩) hg).trans this
    · rintro e W' ⟨he, ⟨ys, rfl, hj⟩ | ⟨pre, _, hj⟩⟩
      · exact ⟨he, .inl ⟨_, rfl, hj⟩⟩
      · exact ⟨he, .inr ⟨_, trivial, hj⟩⟩

theorem At.keepO {w w' : World} (h : At w No [] w') : KeepsOthers w w' := ⟨h.size, fun k o hk _ => (h.old k (Array.getElem?_eq_some_iff.1 hk).1 id).trans hk⟩
theorem At.cellT {w w' : World} {F : List Ch} (h : At w No F w') {a : Addr} {v : Value} (hc : w.cell? a = some v) : w'.cell? a = some v := h.cell hc id
theorem At.frozenT {w w' : World} {F : List Ch} (h : At w No F w') {a : Addr} {b : Bool} (hlt : a.block < w.heap.size) (hf : w.frozen? a = b) : w'.frozen? a = b := (World.frozen?_of_block (h.old _ hlt id)).trans hf
/-- The value so far: from the highest number down. -/
def hornerN (x : Nat) : List (Nat × Nat) → Nat := List.foldl (fun s (p : Nat × Nat) => (s * x + p.2) % 2305843009213693951) 0
theorem horner_snoc (x : Nat) (pre : List (Nat × Nat)) (p : Nat × Nat) : hornerN x (pre ++ [p]) = (hornerN x pre * x + p.2) % 2305843009213693951 := by simp [hornerN]

set_option maxRecDepth 100000 in
set_option maxHeartbeats 4000000 in
theorem l_at_in (F : Fence) (n : Nat) (hF : ∀ f, F.fn f) (hC : ∀ (n : Nat) (P : Program) (f : FuncId) (args : Array Value) (w : World) (R : Ending → World → Prop), Calls P f args w R → CallsIn F n P f args w R) (hro : F.round = none) (hn : 3 ≤ n) (A : Option Addr) (m c x : Nat) (l : List Nat) (hl : l.length ≤ 1000000) (w : World) (hR : Rd w 1 (.slice A m c) (u64s l)) :
    CallsIn F n Try.prog 40 #[.slice A m c, .int .u64 (x : Int)] w fun e W' => e = .returned (.int .u64 ((hornerN x (downto l l.length) : Nat) : Int)) ∧ Below w.heap.size w W' := by
  have h1 : 1 ≤ n := by omega
  have mixed := mix
  refine callsIn_of_wp_marks Try.func40 rfl (hF _) ?_ hro
  simp only [Try.ntmps40, List.size_toArray, List.length_cons, List.length_nil, Nat.reduceAdd, Nat.reduceSub, Array.replicate_succ, Array.replicate_zero, List.push_toArray, List.append_toArray, List.nil_append, List.cons_append]
  gi_wp2_with (gi_at_call 52; refine (back_in F (n - 1) (hF _) hro _ _ _ _).mono ?_; rintro e w' ⟨rfl, rfl⟩)
  have bX := Boxed.new w 22 (.int .u64 (x : Int))
  have bS := Boxed.new (w.alloc (.cells #[.int .u64 (x : Int)] 22)) 22 (.int .u64 0)
  have bN := Boxed.new ((w.alloc (.cells #[.int .u64 (x : Int)] 22)).alloc (.cells #[.int .u64 0] 22)) 25 (.slice A m c)
  simp only [World.size_alloc] at bS bN
  have hB0 : Below w.heap.size w (((w.alloc (.cells #[.int .u64 (x : Int)] 22)).alloc (.cells #[.int .u64 0] 22)).alloc (.cells #[.slice A m c] 25)) := (((Below.refl _ w).alloc (Nat.le_refl _) _).alloc (by simp) _).alloc (by simp; omega) _
  refine wpIn_rangeFunc_ownF hro h1 (gf := 55) (lb := #[.pointer (some ⟨w.heap.size + 1 + 1, 0, none⟩)]) rfl (hF _) (enters_of Try.func55 (by kernel_rfl) rfl)
    (back_stops F (n - 1) (hF _) hro (by omega) (w.heap.size + 1 + 1) w.heap.size A m c l hl _ (by simp) (by simp; omega) bN.cell (rd_grow hR hB0) ?low2) KpB.trans (KpB.put (by simp; omega) (by simp)) (Below.refl _ _) (fun _ => rfl)
    (fun pre W => ((W.cell? ⟨w.heap.size + 1, 0, none⟩ = some (.int .u64 (hornerN x pre : Int)) ∧ W.frozen? ⟨w.heap.size + 1, 0, none⟩ = false) ∧ W.cell? ⟨w.heap.size, 0, none⟩ = some (.int .u64 (x : Int)) ∧ W.cell? ⟨w.heap.size + 1 + 1, 0, none⟩ = some (.slice A m c)) ∧ Below w.heap.size w W)
    (fun _ _ _ => False)
    (OwnFrom.and (Own.from (fun s A B row hs hg hr => ⟨⟨cell_kept hs.1.1 hg hr, (frozen_kept hs.1.1 hg hr).trans hs.1.2⟩, cell_kept hs.2.1 hg hr, cell_kept hs.2.2 hg hr⟩) _) (ownFrom_below (Nat.le_refl _) (by simp; omega)))
    (fun _ _ _ _ _ hs _ _ => hs)
    ⟨⟨⟨(bS.alloc _).cell, (bS.alloc _).frozen⟩, ((bX.alloc _).alloc _).cell, bN.cell⟩, hB0⟩
    (fun x' => { tmps := #[.slice A m c, .int .u64 (x : Int), undef, .pointer (some ⟨w.heap.size, 0, none⟩), .int .u64 0, .pointer (some ⟨w.heap.size + 1, 0, none⟩), undef, .int .u64 (x'.2 : Int), .slice A m c, .func (.func 55) #[] #[.pointer (some ⟨w.heap.size + 1 + 1, 0, none⟩)], .int .i64 (x'.1 : Int), .int .u64 (x'.2 : Int), undef, undef, undef, undef, undef, undef], defers := [] }) ?assign ?body ?done ?stop
  case low2 => exact fun g o he hz => by obtain ⟨g', o', he', h⟩ := rd_lt hR hz _ _ _ rfl; rw [he] at he'; cases he'; exact h
  case assign =>
    intro l x W K hK
    gi_wp2
    exact hK
  case body =>
    rintro r pre x' W ⟨⟨⟨hc, hf⟩, hx, hs⟩, hB⟩ _
    have hWs : w.heap.size + 1 + 1 < W.heap.size := World.block_lt_of_cell? W _ hs
    obtain ⟨z1, hz1⟩ : ∃ z, hornerN x pre % 2305843009213693951 * (x % 2305843009213693951) % 2305843009213693951 = z := ⟨_, rfl⟩
    obtain ⟨z2, hz2⟩ : ∃ z, (z1 % 2305843009213693951 + x'.2 % 2305843009213693951) % 2305843009213693951 = z := ⟨_, rfl⟩
    have hev : z2 = hornerN x (pre ++ [x']) := by
      rw [horner_snoc, ← hz2, ← hz1, ← Nat.mul_mod, Nat.mod_mod, ← Nat.add_mod]
    have c1 : ∀ w, _ := fun w => p_Mul (w := w) (a := hornerN x pre) (b := x)
    have c2 : ∀ w, _ := fun w => p_Add (w := w) (a := z1) (b := x'.2)
    rw [hz1] at c1
    rw [hz2] at c2
    clear hz1 hz2
    generalize hornerN x pre = z0 at *
    gi_wp2
    refine ⟨fun _ => by omega, (CallsIn.inRound r (hC _ _ _ _ _ _ (c1 _))).mono ?_⟩
    rintro e W1 ⟨v, rfl, rfl, k1⟩
    have hc := (k1.cellT hc)
    have hf := (k1.frozenT (by show w.heap.size + 1 < _; omega) hf)
    gi_wp2
    refine ⟨fun _ => by omega, (CallsIn.inRound r (hC _ _ _ _ _ _ (c2 _))).mono ?_⟩
    rintro e W2 ⟨v, rfl, rfl, k2⟩
    have hc := (k2.cellT hc)
    have hf := (k2.frozenT (by show w.heap.size + 1 < _; have := k1.size; omega) hf)
    have k := k1.more k2
    gi_wp2
    have hx2 := k.cellT hx
    have hs2 := k.cellT hs
    have ho := (KeepsOthers.trans k.keepO (KeepsOthers.setCell W2 ⟨w.heap.size + 1, 0, none⟩ (.int .u64 (z2 : Int))))
    have hkb : Below w.heap.size W W2 := k.below.mono (by omega)
    subst hev
    have hx3 : (W2.setCell ⟨w.heap.size + 1, 0, none⟩ (.int .u64 ((hornerN x (pre ++ [x']) : Nat) : Int))).cell? ⟨w.heap.size, 0, none⟩ = some (.int .u64 (x : Int)) := (World.cell?_of_block (Below.heap_setCell W2 _ _ _ (by show _ ≠ w.heap.size + 1; simp))).trans hx2
    have hs3 : (W2.setCell ⟨w.heap.size + 1, 0, none⟩ (.int .u64 ((hornerN x (pre ++ [x']) : Nat) : Int))).cell? ⟨w.heap.size + 1 + 1, 0, none⟩ = some (.slice A m c) := (World.cell?_of_block (Below.heap_setCell W2 _ _ _ (by show _ ≠ w.heap.size + 1; simp))).trans hs2
    refine ⟨ho, ⟨hkb.setCell (p := ⟨w.heap.size + 1, 0, none⟩) (by simp) _, (Below.heap_setCell W2 _ _ _ (by show _ ≠ w.heap.size + 1; simp)).trans (k.old _ hWs id)⟩, ⟨⟨World.cell?_setCell_same' _ _ _ (by rw [hc]; rfl), by rw [World.frozen?_setCell]; exact hf⟩, hx3, hs3⟩, (hB.trans hkb).setCell (p := ⟨w.heap.size + 1, 0, none⟩) (by simp) _⟩
  case done =>
    rintro D ys W hD rfl ⟨⟨⟨hc, _⟩, _⟩, hB⟩ hK
    gi_wp2
    refine ⟨by simp, .inl ⟨_, _, rfl, run_takeDeferred hK, ?_⟩⟩
    exact ⟨_, results_tmp rfl _ _ _, rfl, hB.trans (belowK_b (w := w) (Nat.le_refl _) W D _ _ (by simp at hD; omega) hK rfl rfl)⟩
  case stop =>
    rintro D c pre W _ _ h _
    exact h.elim

theorem horner_down (x : Nat) (l : List Nat) : ∀ k, k ≤ l.length → hornerN x (downto l k) = evN (l.drop (l.length - k)) x % 2305843009213693951
  | 0, _ => by rw [Nat.sub_zero, List.drop_length]; rfl
  | k + 1, hk => by
    have hq : l.length - 1 - k < l.length := by omega
    rw [downto_succ, horner_snoc, horner_down x l k (by omega), show l.length - (k + 1) = l.length - 1 - k from by omega, List.drop_eq_getElem_cons hq, evN, show l.length - 1 - k + 1 = l.length - k from by omega,
      List.getElem?_eq_getElem hq, Option.getD_some, Nat.add_comm, Nat.add_mod, Nat.mul_mod, Nat.mod_mod, ← Nat.mul_mod, ← Nat.add_mod, Nat.mul_comm]
theorem horner_all (x : Nat) (l : List Nat) : hornerN x (downto l l.length) = evN l x % 2305843009213693951 := by
  rw [horner_down x l l.length (Nat.le_refl _), Nat.sub_self, List.drop_zero]
theorem at_no {w w' : World} (h : Below w.heap.size w w') : At w No [] w' := ⟨h.os, h.tape, h.output, h.size, fun b hb _ => h.block b hb, by simp, by simp, .nil⟩
theorem l_at {w : World} {A : Option Addr} {m c x : Nat} {l : List Nat} (hR : Rd w 1 (.slice A m c) (u64s l)) (hl : l.length ≤ 1000000) : Calls Try.prog 40 #[.slice A m c, .int .u64 (x : Int)] w fun e w' => ∃ v, e = .returned v ∧ (v = .int .u64 ((evN l x % 2305843009213693951 : Nat) : Int) ∧ At w No [] w') := by
  have h := callsIn_wide.1 (l_at_in Fence.wide 3 (fun _ => trivial) (fun n P f args w R h => callsIn_wide.2 h) rfl (by omega) A m c x l hl w hR)
  refine h.mono fun e w' hh => ?_
  obtain ⟨rfl, hb⟩ := hh
  exact ⟨_, rfl, by rw [horner_all], at_no hb⟩
end Go.Proofs.Ytogpmiodnmigoaa
