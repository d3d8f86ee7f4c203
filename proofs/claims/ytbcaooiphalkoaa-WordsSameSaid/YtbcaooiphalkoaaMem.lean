/-
  Memory: what a call owns (chunks, each with the blocks that it lives in), what stays as it was. No program in sight; nothing here is claimed.
-/
import Derived.Test.YtbcaooiphalkoaaEng
set_option linter.unusedVariables false
set_option linter.unusedSimpArgs false
namespace Go.Proofs.Ytbcaooiphalkoaa
open Go Go.RowKit

/-- A piece of memory: the blocks that it lives in, and what is known of them. -/
structure Ch where
  S : Nat → Prop
  A : World → Prop
  loc : ∀ {w w' : World}, (∀ b, S b → w'.heap[b]? = w.heap[b]?) → A w → A w'
def SS (L : List Ch) (b : Nat) : Prop := ∃ c ∈ L, c.S b
def Apart (c d : Ch) : Prop := ∀ b, c.S b → ¬ d.S b
/-- Since w0: outside of M all blocks are as they were; the chunks F are there, each apart from all others, within M and what is new. -/
structure At (w0 : World) (M : Nat → Prop) (F : List Ch) (w : World) : Prop where
  os : w.os = w0.os
  tape : w.tape = w0.tape
  output : w.output = w0.output
  size : w0.heap.size ≤ w.heap.size
  old : ∀ b, b < w0.heap.size → ¬ M b → w.heap[b]? = w0.heap[b]?
  holds : ∀ c ∈ F, c.A w
  room : ∀ c ∈ F, ∀ b, c.S b → b < w.heap.size ∧ (M b ∨ w0.heap.size ≤ b)
  apart : F.Pairwise Apart
def No : Nat → Prop := fun _ => False

theorem Apart.symm {c d : Ch} (h : Apart c d) : Apart d c := fun b hd hc => h b hc hd
theorem At.refl (w : World) : At w No [] w := ⟨rfl, rfl, rfl, Nat.le_refl _, fun _ _ _ => rfl, by simp, by simp, .nil⟩
/-- From a chunk that is handed in. -/
theorem At.start {w : World} {L : List Ch} (hA : ∀ c ∈ L, c.A w) (hlt : ∀ c ∈ L, ∀ b, c.S b → b < w.heap.size) (hp : L.Pairwise Apart) : At w (SS L) L w :=
  ⟨rfl, rfl, rfl, Nat.le_refl _, fun _ _ _ => rfl, hA, fun c hc b hb => ⟨hlt c hc b hb, .inl ⟨c, hc, hb⟩⟩, hp⟩
theorem At.below {w0 w : World} {F : List Ch} (h : At w0 No F w) : Below w0.heap.size w0 w := ⟨h.os, h.tape, h.output, h.size, fun b hb => h.old b hb id⟩
theorem At.cell {w0 w : World} {M : Nat → Prop} {F : List Ch} (h : At w0 M F w) {a : Addr} {v : Value} (hc : w0.cell? a = some v) (hM : ¬ M a.block) : w.cell? a = some v := by
  have hb : a.block < w0.heap.size := World.block_lt_of_cell? w0 a hc
  rw [World.cell?_of_block (h.old a.block hb hM)]; exact hc
theorem At.drew {w0 w : World} {M : Nat → Prop} {F : List Ch} (h : At w0 M F w) (k : Nat) : At w0 M F { w with drawn := k } :=
  ⟨h.os, h.tape, h.output, h.size, h.old, fun c hc => c.loc (w := w) (fun _ _ => rfl) (h.holds c hc), h.room, h.apart⟩
theorem pairwise_perm {F G : List Ch} (hp : F.Perm G) (h : F.Pairwise Apart) : G.Pairwise Apart := by
  exact (hp.pairwise_iff (fun {a b} h => Apart.symm h)).1 h
theorem At.perm {w0 w : World} {M : Nat → Prop} {F G : List Ch} (h : At w0 M F w) (hp : F.Perm G) : At w0 M G w :=
  ⟨h.os, h.tape, h.output, h.size, h.old, fun c hc => h.holds c (hp.mem_iff.2 hc), fun c hc => h.room c (hp.mem_iff.2 hc), pairwise_perm hp h.apart⟩
theorem perm_pull {F : List Ch} : ∀ (i : Nat) (c : Ch), F[i]? = some c → F.Perm (c :: F.eraseIdx i) := by
  induction F with
  | nil => intro i c h; simp at h
  | cons d F ih =>
    intro i c h
    cases i with
    | zero => simp at h; subst h; exact List.Perm.refl _
    | succ i => simp at h; exact ((ih i c h).cons d).trans (List.Perm.swap c d _)
theorem At.pull {w0 w : World} {M : Nat → Prop} {F : List Ch} (h : At w0 M F w) (i : Nat) {c : Ch} (hi : F[i]? = some c) : At w0 M (c :: F.eraseIdx i) w := h.perm (perm_pull i c hi)
theorem At.rot {w0 w : World} {M : Nat → Prop} {c : Ch} {F : List Ch} (h : At w0 M (c :: F) w) : At w0 M (F ++ [c]) w := h.perm (List.perm_append_singleton c F).symm
theorem At.get {w0 w : World} {M : Nat → Prop} {F : List Ch} (h : At w0 M F w) (i : Nat) {c : Ch} (hi : F[i]? = some c) : c.A w := h.holds c (List.mem_of_getElem? hi)
theorem At.drop {w0 w : World} {M : Nat → Prop} {c : Ch} {F : List Ch} (h : At w0 M (c :: F) w) : At w0 M F w :=
  ⟨h.os, h.tape, h.output, h.size, h.old, fun d hd => h.holds d (List.mem_cons_of_mem _ hd), fun d hd => h.room d (List.mem_cons_of_mem _ hd), (List.pairwise_cons.1 h.apart).2⟩
theorem At.take {w0 w : World} {M : Nat → Prop} {F G : List Ch} (h : At w0 M (F ++ G) w) : At w0 M F w :=
  ⟨h.os, h.tape, h.output, h.size, h.old, fun d hd => h.holds d (List.mem_append_left _ hd), fun d hd => h.room d (List.mem_append_left _ hd), (List.pairwise_append.1 h.apart).1⟩
theorem At.clear {w0 w : World} {M : Nat → Prop} {F : List Ch} (h : At w0 M F w) : At w0 M [] w := At.take (F := []) (G := F) (by simpa using h)
/-- The first chunk is another one in the same world. -/
theorem At.turn {w0 w : World} {M : Nat → Prop} {c c' : Ch} {F : List Ch} (h : At w0 M (c :: F) w) (hA : c'.A w) (hS : ∀ b, c'.S b → c.S b) : At w0 M (c' :: F) w := by
  refine ⟨h.os, h.tape, h.output, h.size, h.old, ?_, ?_, ?_⟩
  · intro d hd
    rcases List.mem_cons.1 hd with rfl | hd
    · exact hA
    · exact h.holds d (List.mem_cons_of_mem _ hd)
  · intro d hd b hb
    rcases List.mem_cons.1 hd with rfl | hd
    · exact h.room c (by simp) b (hS b hb)
    · exact h.room d (List.mem_cons_of_mem _ hd) b hb
  · have := List.pairwise_cons.1 h.apart
    exact List.pairwise_cons.2 ⟨fun d hd b hb hdb => this.1 d hd b (hS b hb) hdb, this.2⟩
/-- Two chunks as one. -/
def Ch.and (c d : Ch) : Ch := ⟨fun b => c.S b ∨ d.S b, fun w => c.A w ∧ d.A w, fun h ⟨a, b⟩ => ⟨c.loc (fun x hx => h x (.inl hx)) a, d.loc (fun x hx => h x (.inr hx)) b⟩⟩
/-- A callee has done its work on the chunks F1 and left F'. -/
theorem At.trans {w0 w w' : World} {M : Nat → Prop} {F1 F2 F' : List Ch} (h : At w0 M (F1 ++ F2) w) (k : At w (SS F1) F' w') : At w0 M (F' ++ F2) w' := by
  have hsub : ∀ b, SS F1 b → b < w.heap.size ∧ (M b ∨ w0.heap.size ≤ b) := fun b ⟨c, hc, hb⟩ => h.room c (List.mem_append_left _ hc) b hb
  have hap := List.pairwise_append.1 h.apart
  have hno : ∀ d ∈ F2, ∀ b, d.S b → ¬ SS F1 b := fun d hd b hb ⟨c, hc, hcb⟩ => hap.2.2 c hc d hd b hcb hb
  refine ⟨k.os.trans h.os, k.tape.trans h.tape, k.output.trans h.output, Nat.le_trans h.size k.size, ?_, ?_, ?_, ?_⟩
  · intro b hb hM
    rw [k.old b (Nat.lt_of_lt_of_le hb h.size) (fun hs => ?_), h.old b hb hM]
    rcases (hsub b hs).2 with h1 | h1
    · exact hM h1
    · omega
  · intro d hd
    rcases List.mem_append.1 hd with hd | hd
    · exact k.holds d hd
    · exact d.loc (fun b hb => k.old b (h.room d (List.mem_append_right _ hd) b hb).1 (hno d hd b hb)) (h.holds d (List.mem_append_right _ hd))
  · intro d hd b hb
    rcases List.mem_append.1 hd with hd | hd
    · obtain ⟨h1, h2⟩ := k.room d hd b hb
      refine ⟨h1, ?_⟩
      rcases h2 with h2 | h2
      · exact (hsub b h2).2
      · exact .inr (Nat.le_trans h.size h2)
    · obtain ⟨h1, h2⟩ := h.room d (List.mem_append_right _ hd) b hb
      exact ⟨Nat.lt_of_lt_of_le h1 k.size, h2⟩
  · refine List.pairwise_append.2 ⟨k.apart, hap.2.1, ?_⟩
    intro c hc d hd b hcb hdb
    rcases (k.room c hc b hcb).2 with h1 | h1
    · exact hno d hd b hdb h1
    · have := (h.room d (List.mem_append_right _ hd) b hdb).1
      omega
theorem SS_nil : SS [] = No := by funext b; simp [SS, No]
/-- A callee that was handed no chunk. -/
theorem At.more {w0 w w' : World} {M : Nat → Prop} {F F' : List Ch} (h : At w0 M F w) (k : At w No F' w') : At w0 M (F' ++ F) w' := by
  refine At.trans (F1 := []) (by simpa using h) ?_
  rw [SS_nil]; exact k
/-- What is handed to a callee. -/
theorem At.own {w0 w : World} {M : Nat → Prop} {R F : List Ch} (h : At w0 M (R ++ F) w) : At w (SS R) R w :=
  At.start (fun c hc => h.holds c (List.mem_append_left _ hc)) (fun c hc b hb => (h.room c (List.mem_append_left _ hc) b hb).1) (List.pairwise_append.1 h.apart).1
theorem At.own1 {w0 w : World} {M : Nat → Prop} {R : List Ch} (h : At w0 M R w) : At w (SS R) R w := At.own (F := []) (by simpa using h)
theorem At.trans1 {w0 w w' : World} {M : Nat → Prop} {F F' : List Ch} (h : At w0 M F w) (k : At w (SS F) F' w') : At w0 M F' w' := by
  have := At.trans (F1 := F) (F2 := []) (by simpa using h) k
  simpa using this
theorem At.weaken {w0 w : World} {F : List Ch} (h : At w0 No F w) (M : Nat → Prop) : At w0 M F w :=
  ⟨h.os, h.tape, h.output, h.size, fun b hb _ => h.old b hb id, h.holds, fun c hc b hb => ⟨(h.room c hc b hb).1, .inr ((h.room c hc b hb).2.resolve_left id)⟩, h.apart⟩
theorem At.after {w0 w w' : World} {M : Nat → Prop} {F F' : List Ch} (h : At w0 M F w) (k : At w No F' w') : At w0 M (F ++ F') w' := (h.more k).perm List.perm_append_comm
theorem At.mid {w0 w w' : World} {M : Nat → Prop} {A R R' G : List Ch} (h : At w0 M (A ++ (R ++ G)) w) (k : At w (SS R) R' w') : At w0 M (A ++ (R' ++ G)) w' :=
  ((h.perm (List.perm_append_comm_assoc A R G)).trans k).perm (List.perm_append_comm_assoc R' A G)
theorem At.mown {w0 w : World} {M : Nat → Prop} {A R G : List Ch} (h : At w0 M (A ++ (R ++ G)) w) : At w (SS R) R w := (h.perm (List.perm_append_comm_assoc A R G)).own
theorem At.tail {w0 w : World} {M : Nat → Prop} {F : List Ch} (h : At w0 M F w) (k : Nat) : At w0 M (F.drop k) w :=
  ⟨h.os, h.tape, h.output, h.size, h.old, fun d hd => h.holds d (List.mem_of_mem_drop hd), fun d hd => h.room d (List.mem_of_mem_drop hd), h.apart.sublist (List.drop_sublist _ _)⟩
theorem At.keep {w0 w : World} {M : Nat → Prop} {F : List Ch} (h : At w0 M F w) (k : Nat) : At w0 M (F.take k) w :=
  ⟨h.os, h.tape, h.output, h.size, h.old, fun d hd => h.holds d (List.mem_of_mem_take hd), fun d hd => h.room d (List.mem_of_mem_take hd), h.apart.sublist (List.take_sublist _ _)⟩
theorem At.sub {w0 w : World} {M : Nat → Prop} {F G : List Ch} (h : At w0 M F w) (hs : G.Sublist F) : At w0 M G w :=
  ⟨h.os, h.tape, h.output, h.size, h.old, fun d hd => h.holds d (hs.subset hd), fun d hd => h.room d (hs.subset hd), h.apart.sublist hs⟩
/-- A new block. -/
theorem At.alloc {w0 w : World} {M : Nat → Prop} {F : List Ch} (h : At w0 M F w) (o : Obj) (c : Ch) (hS : ∀ b, c.S b → b = w.heap.size) (hA : c.A (w.alloc o)) : At w0 M (c :: F) (w.alloc o) := by
  have : At w No [c] (w.alloc o) := by
    have hsz : (w.alloc o).heap.size = w.heap.size + 1 := by show (w.heap.push o).size = _; simp
    refine ⟨rfl, rfl, rfl, by omega, fun b hb _ => Below.heap_alloc w o b hb, by simpa using hA, ?_, List.pairwise_singleton _ _⟩
    intro d hd b hb
    obtain rfl : d = c := by simpa using hd
    have := hS b hb
    subst this
    exact ⟨by omega, .inr (Nat.le_refl _)⟩
  exact h.more this
/-- The first chunk's blocks are written. -/
theorem At.wrote {w0 w w' : World} {M : Nat → Prop} {c c' : Ch} {F : List Ch} (h : At w0 M (c :: F) w) (hos : w'.os = w.os) (htape : w'.tape = w.tape) (hout : w'.output = w.output) (hsz : w'.heap.size = w.heap.size)
    (hold : ∀ b, ¬ c.S b → w'.heap[b]? = w.heap[b]?) (hA : c'.A w') (hS : ∀ b, c'.S b → c.S b) : At w0 M (c' :: F) w' := by
  have : At w (SS [c]) [c'] w' := by
    refine ⟨hos, htape, hout, by omega, fun b _ hb => hold b fun hc => hb ⟨c, by simp, hc⟩, by simpa using hA, ?_, List.pairwise_singleton _ _⟩
    intro d hd b hb
    obtain rfl : d = c' := by simpa using hd
    have := hS b hb
    exact ⟨by have := (h.room c (by simp) b this).1; omega, .inl ⟨c, by simp, this⟩⟩
  exact At.trans (F1 := [c]) (F2 := F) h this

/-! ### A variable in memory -/
/-- Block b holds just the cells cs. -/
def Cell (b : Nat) (T : TypeId) (cs : List Value) : Ch := ⟨fun x => x = b, fun w => w.heap[b]? = some (.cells cs.toArray T (0, 0)), fun h hw => by rw [h b rfl]; exact hw⟩
theorem Cell.cell {b : Nat} {T : TypeId} {cs : List Value} {w : World} (h : (Cell b T cs).A w) (j : Nat) : w.cell? ⟨b, j, none⟩ = cs[j]? := by
  have : w.heap[b]? = some (.cells cs.toArray T (0, 0)) := h
  simp [World.cell?, this]
theorem At.c {w0 w : World} {M : Nat → Prop} {F : List Ch} (h : At w0 M F w) (i : Nat) {b j : Nat} {T : TypeId} {cs : List Value} {v : Value} (hi : F[i]? = some (Cell b T cs)) (hj : cs[j]? = some v) : w.cell? ⟨b, j, none⟩ = some v := by
  rw [Cell.cell (h.get i hi), hj]
theorem setRow_self_heap {w : World} {b : Nat} {cs : List Value} {cs' : Array Value} {T : TypeId} (h : w.heap[b]? = some (.cells cs.toArray T (0, 0))) : (w.setRow b cs').heap[b]? = some (.cells cs' T (0, 0)) := setRow_heap w b _ _ T _ h
theorem At.putRow {w0 w : World} {M : Nat → Prop} {F : List Ch} {b : Nat} {T : TypeId} {cs cs' : List Value} (h : At w0 M (Cell b T cs :: F) w) : At w0 M (Cell b T cs' :: F) (w.setRow b cs'.toArray) := by
  have hb : w.heap[b]? = some (.cells cs.toArray T (0, 0)) := h.get 0 rfl
  exact h.wrote rfl rfl rfl (by simp [World.setRow]) (fun x hx => setRow_other w b x _ hx) (setRow_self_heap hb) fun _ h => h

/-! ### Reading -/
/-- The slice v reads as the cells xs, s of them an element. -/
def Rd (w : World) (s : Nat) (v : Value) (xs : List Value) : Prop :=
  ∃ A m c, v = .slice A m c ∧ xs.length = m * s ∧ m ≤ c ∧ c ≤ maxLen ∧ (xs = [] ∨ ∃ b o, A = some ⟨b, o, none⟩ ∧ ∀ j u, xs[j]? = some u → w.cell? ⟨b, o + j, none⟩ = some u)
/-- The block that a slice's cells lie in. -/
def InBlk (v : Value) (b : Nat) : Prop := ∃ a m c, v = .slice (some a) m c ∧ 0 < c ∧ a.block = b
theorem Rd.kept {w w' : World} {s : Nat} {v : Value} {xs : List Value} (h : Rd w s v xs) (hb : ∀ b, InBlk v b → w'.heap[b]? = w.heap[b]?) : Rd w' s v xs := by
  obtain ⟨A, m, c, rfl, hl, hc, hm, hr⟩ := h
  refine ⟨A, m, c, rfl, hl, hc, hm, ?_⟩
  rcases hr with hr | ⟨b, o, rfl, hr⟩
  · exact .inl hr
  · rcases Nat.eq_zero_or_pos c with h0 | h0
    · left
      have : m = 0 := by omega
      subst this
      exact List.eq_nil_of_length_eq_zero (by simpa using hl)
    · refine .inr ⟨b, o, rfl, fun j u hu => ?_⟩
      rw [World.cell?_of_block (hb b ⟨_, m, c, rfl, h0, rfl⟩)]
      exact hr j u hu
theorem Rd.at_ {w0 w : World} {M : Nat → Prop} {F : List Ch} {s : Nat} {v : Value} {xs : List Value} (h : Rd w0 s v xs) (k : At w0 M F w) (hM : ∀ b, InBlk v b → ¬ M b) : Rd w s v xs := by
  obtain ⟨A, m, c, rfl, hl, hc, hm, hr⟩ := h
  refine ⟨A, m, c, rfl, hl, hc, hm, ?_⟩
  rcases hr with hr | ⟨b, o, rfl, hr⟩
  · exact .inl hr
  · rcases Nat.eq_zero_or_pos c with h0 | h0
    · left
      have : m = 0 := by omega
      subst this
      exact List.eq_nil_of_length_eq_zero (by simpa using hl)
    · exact .inr ⟨b, o, rfl, fun j u hu => k.cell (hr j u hu) (hM b ⟨_, m, c, rfl, h0, rfl⟩)⟩
theorem Rd.old {w0 w : World} {F : List Ch} {s : Nat} {v : Value} {xs : List Value} (h : Rd w0 s v xs) (k : At w0 No F w) : Rd w s v xs := h.at_ k fun _ _ => id

/-! ### A row of the call's own -/
def IsRow (w : World) (e : TypeId) (s : Nat) (v : Value) (xs : List Value) : Prop :=
  ∃ A m c, v = .slice A m c ∧ xs.length = m * s ∧ m ≤ c ∧ c ≤ maxLen ∧
    (c = 0 ∨ ∃ g cur, A = some ⟨g, 0, none⟩ ∧ w.heap[g]? = some (.cells cur e (0, 0)) ∧ c * s ≤ cur.size ∧ cur.toList.take (m * s) = xs)
def Row (e : TypeId) (s : Nat) (v : Value) (xs : List Value) : Ch := ⟨InBlk v, fun w => IsRow w e s v xs, by
  rintro w w' h ⟨A, m, c, rfl, hl, hc, hm, hr⟩
  refine ⟨A, m, c, rfl, hl, hc, hm, ?_⟩
  rcases hr with hr | ⟨g, cur, rfl, hg, hr⟩
  · exact .inl hr
  · rcases Nat.eq_zero_or_pos c with h0 | h0
    · exact .inl h0
    · exact .inr ⟨g, cur, rfl, by rw [h g ⟨_, m, c, rfl, h0, rfl⟩]; exact hg, hr⟩⟩
theorem IsRow.rd {w : World} {e : TypeId} {s : Nat} {v : Value} {xs : List Value} (h : IsRow w e s v xs) : Rd w s v xs := by
  obtain ⟨A, m, c, rfl, hl, hc, hm, hr⟩ := h
  refine ⟨A, m, c, rfl, hl, hc, hm, ?_⟩
  rcases hr with rfl | ⟨g, cur, rfl, hg, hs, ht⟩
  · left
    have : m = 0 := by omega
    subst this
    exact List.eq_nil_of_length_eq_zero (by simpa using hl)
  · refine .inr ⟨g, 0, rfl, fun j u hu => ?_⟩
    rw [← ht, List.getElem?_take] at hu
    split at hu
    · simp only [World.cell?, hg, Nat.zero_add]
      simpa using hu
    · cases hu
theorem IsRow.nil (w : World) (e : TypeId) (s : Nat) (A : Option Addr) : IsRow w e s (.slice A 0 0) [] := ⟨A, 0, 0, rfl, by simp, Nat.le_refl _, by simp [maxLen], .inl rfl⟩
/-- A row that a literal or a make has laid. -/
theorem IsRow.new (w : World) (e : TypeId) (s m : Nat) (cs : List Value) (hl : cs.length = m * s) (hm : m ≤ maxLen) : IsRow (w.alloc (.cells cs.toArray e)) e s (.slice (some ⟨w.heap.size, 0, none⟩) m m) cs :=
  ⟨_, m, m, rfl, hl, Nat.le_refl _, hm, .inr ⟨w.heap.size, cs.toArray, rfl, heap_alloc_new w _, by simp [hl], by rw [← hl]; simp⟩⟩
theorem At.newRow {w0 w : World} {M : Nat → Prop} {F : List Ch} (h : At w0 M F w) (e : TypeId) (s m : Nat) (cs : List Value) (hl : cs.length = m * s) (hm : m ≤ maxLen) :
    At w0 M (Row e s (.slice (some ⟨w.heap.size, 0, none⟩) m m) cs :: F) (w.alloc (.cells cs.toArray e)) :=
  h.alloc _ _ (fun b hb => by obtain ⟨a, m', c', he, _, hb⟩ := hb; injection he with he; injection he with he; rw [← hb, ← he]) (IsRow.new w e s m cs hl hm)
theorem IsRow.slice {w : World} {e : TypeId} {s : Nat} {v : Value} {xs : List Value} (h : IsRow w e s v xs) : ∃ A m c, v = .slice A m c := by obtain ⟨A, m, c, rfl, _⟩ := h; exact ⟨A, m, c, rfl⟩
theorem At.rd {w0 w : World} {M : Nat → Prop} {F : List Ch} (h : At w0 M F w) (i : Nat) {e : TypeId} {s : Nat} {v : Value} {xs : List Value} (hi : F[i]? = some (Row e s v xs)) : Rd w s v xs := IsRow.rd (h.get i hi)
theorem At.row {w0 w : World} {M : Nat → Prop} {F : List Ch} (h : At w0 M F w) (i : Nat) {e : TypeId} {s : Nat} {v : Value} {xs : List Value} (hi : F[i]? = some (Row e s v xs)) : IsRow w e s v xs := h.get i hi
/-- A row of nothing is put beside. -/
theorem At.nilRow {w0 w : World} {M : Nat → Prop} {F : List Ch} (h : At w0 M F w) (e : TypeId) (s : Nat) (A : Option Addr) : At w0 M (Row e s (.slice A 0 0) [] :: F) w := by
  have hno : ∀ b, ¬ InBlk (.slice A 0 0) b := fun b ⟨a, m, c, he, hc, _⟩ => by injection he with _ _ h3; omega
  refine ⟨h.os, h.tape, h.output, h.size, h.old, ?_, ?_, List.pairwise_cons.2 ⟨fun d hd b hb => absurd hb (hno b), h.apart⟩⟩
  · intro d hd
    rcases List.mem_cons.1 hd with rfl | hd
    · exact IsRow.nil w e s A
    · exact h.holds d hd
  · intro d hd b hb
    rcases List.mem_cons.1 hd with rfl | hd
    · exact absurd hb (hno b)
    · exact h.room d hd b hb

/-! ### append -/
section
variable {P : Program} {w : World}
theorem Rd.news {s m c : Nat} {A : Option Addr} {xs : List Value} (h : Rd w s (.slice A m c) xs) : xs.length = m * s ∧ (xs = [] ∨ ∃ a, A = some a ∧ ∀ j u, xs[j]? = some u → w.cell? (a.add j) = some u) := by
  obtain ⟨A', m', c', he, hl, hc, hm, hr⟩ := h
  injection he with h1 h2 h3
  subst h1; subst h2; subst h3
  refine ⟨hl, ?_⟩
  rcases hr with hr | ⟨b, o, rfl, hr⟩
  · exact .inl hr
  · refine .inr ⟨_, rfl, fun j u hu => ?_⟩
    have := hr j u hu
    unfold Addr.add
    split
    · rename_i h0; subst h0; exact this
    · exact this
theorem append_none (t ty e : TypeId) (i : TypeInfo) (ht : P.underlying t = some (.slice e)) (hi : P.info? e = some i) {A B : Option Addr} {m c c' : Nat} (hmc : m ≤ c) :
    (Builtin.append_ #[t, t] ty #[.slice A m c, .slice B 0 c']).run P w = .ok (.slice A m c) w := by
  have hfc : ∀ q : Option Addr, (Builtin.firstCells i.size 0 (.slice q 0 c')).run P w = .ok #[] w := by
    intro q; cases q <;> simp [Builtin.firstCells, loadCells, loadCellsFrom]
  cases A with
  | none => simp [Builtin.append_, run_underlying ht, sizeOf, typeInfo, hi, Builtin.lenOf, hmc, hfc]
  | some a => simp [Builtin.append_, run_underlying ht, sizeOf, typeInfo, hi, Builtin.lenOf, hmc, hfc, storeCells]
theorem owns_isRow {w : World} {base : Nat} {e : TypeId} {s n : Nat} {v : Value} {xs : List Value} (h : w.ownsRow base e s v n xs) : IsRow w e s v xs ∧ ∀ b, InBlk v b → base ≤ b ∧ b < w.heap.size := by
  obtain ⟨hl, h⟩ := h
  rcases h with ⟨rfl, rfl⟩ | ⟨g, cap, cur, rfl, hb, hg, hnc, hcm, hcs, htk⟩
  · obtain rfl : xs = [] := List.eq_nil_of_length_eq_zero (by simpa using hl)
    exact ⟨IsRow.nil w e s none, fun b ⟨a, m, c, he, _⟩ => by injection he with he; cases he⟩
  · refine ⟨⟨_, n, cap, rfl, hl, hnc, hcm, .inr ⟨g, cur, rfl, hg, by omega, htk⟩⟩, ?_⟩
    rintro b ⟨a, m, c, he, _, rfl⟩
    injection he with he
    injection he with he
    subst he
    exact ⟨hb, (Array.getElem?_eq_some_iff.1 hg).1⟩
/-- A new chunk out of a step that only grew memory, in the place of the first one. -/
theorem At.fresh {w0 w w' : World} {M : Nat → Prop} {F : List Ch} (h : At w0 M F w) (hg : w.grownBy w' none) (c : Ch) (hA : c.A w') (hS : ∀ b, c.S b → w.heap.size ≤ b ∧ b < w'.heap.size) : At w0 M (c :: F) w' := by
  have : At w No [c] w' := by
    refine ⟨hg.os, hg.tape, hg.output, hg.size, fun b hb _ => hg.block b hb (by simp), by simpa using hA, ?_, List.pairwise_singleton _ _⟩
    intro d hd b hb
    obtain rfl : d = c := by simpa using hd
    exact ⟨(hS b hb).2, .inr (hS b hb).1⟩
  exact h.more this
/-- What append leaves of a row and of what is appended. -/
theorem append_row {w0 : World} {M : Nat → Prop} {F : List Ch} (t ty e : TypeId) (z : Value) (s bytes : Nat) (ht : P.underlying t = some (.slice e)) (hinfo : (P.info? e).map (fun i => (i.zero, i.size, i.bytes)) = some (some z, s, bytes))
    (hzs : z.cells.size = s) (hs : 0 < s) {v x : Value} {xs ys : List Value} (h : At w0 M (Row e s v xs :: F) w) (hx : Rd w s x ys) (h1 : ∀ u ∈ ys, u.oneCell' = true)
    (hbytes : ∀ m k, xs.length = m * s → ys.length = k * s → (m + k) * bytes ≤ 140737488355328) (hmax : ∀ m k, xs.length = m * s → ys.length = k * s → m + k ≤ 140737488355328) :
    ∃ v' w', (Builtin.append_ #[t, t] ty #[v, x]).run P w = .ok v' w' ∧ At w0 M (Row e s v' (xs ++ ys) :: F) w' ∧ ∀ A m c k, v = .slice A m c → ys.length = k * s → m + k ≤ c → v' = .slice A (m + k) c := by
  obtain ⟨i, hi, hzz⟩ := Option.map_eq_some_iff.1 hinfo
  simp only [Prod.mk.injEq] at hzz
  obtain ⟨hz0, hz1, hz2⟩ := hzz
  have hrow := h.row 0 rfl
  obtain ⟨A, m, c, rfl, hl, hmc, hcm, hr⟩ := hrow
  obtain ⟨B, k, c', rfl, _⟩ := id hx
  obtain ⟨hyl, hy⟩ := hx.news
  have hb := hbytes m k hl hyl
  have hmk := hmax m k hl hyl
  have h63 : m + k ≤ maxLen := by simp only [maxLen]; omega
  rcases Nat.eq_zero_or_pos k with hk | hk
  · subst hk
    obtain rfl : ys = [] := List.eq_nil_of_length_eq_zero (by simpa using hyl)
    refine ⟨_, w, append_none t ty e i ht hi hmc, by simpa using h, ?_⟩
    intro A' m' c'' k' he hk' _
    injection he with h1 h2 h3
    subst h1; subst h2; subst h3
    have : k' = 0 := by
      rcases Nat.eq_zero_or_pos k' with h0 | h0
      · exact h0
      · have := Nat.mul_pos h0 hs
        simp at hk'; omega
    subst this; rfl
  · have hne : ys ≠ [] := by
      intro h0; subst h0
      have := Nat.mul_pos hk hs
      simp at hyl; omega
    obtain ⟨b, rfl, hb'⟩ := hy.resolve_left hne
    by_cases hroom : m + k ≤ c
    · rcases hr with h0 | ⟨g, cur, rfl, hg, hcs, htk⟩
      · omega
      · have hfit : m * s + ys.length ≤ cur.size := by rw [hyl, ← Nat.add_mul]; exact Nat.le_trans (Nat.mul_le_mul_right _ hroom) hcs
        subst hz1
        refine ⟨_, _, run_append_room w t ty e i ht hi g m c cur hg b k c' ys hyl hb' h1 hroom hfit, ?_, ?_⟩
        rotate_left
        · intro A' m' c'' k' he hk' _
          injection he with h1 h2 h3
          subst h1; subst h2; subst h3
          have : k' = k := Nat.eq_of_mul_eq_mul_right hs (by omega)
          subst this; rfl
        refine h.wrote rfl rfl rfl (by simp) (fun x hx => setRow_other w g x _ fun e => hx ⟨_, m, c, rfl, by omega, e.symm⟩) ?_ ?_
        · refine ⟨_, _, c, rfl, by rw [List.length_append, hl, hyl, Nat.add_mul], hroom, hcm, .inr ⟨g, _, rfl, setRow_heap w g cur _ e _ hg, ?_, ?_⟩⟩
          · simp only [List.size_toArray, List.length_append, List.length_take, List.length_drop, Array.length_toList]
            omega
          · have hlen : (m + k) * i.size = (xs ++ ys).length := by rw [List.length_append, hl, hyl, Nat.add_mul]
            rw [htk, hlen]
            exact List.take_left
        · rintro b ⟨a, m', c'', he, h0, rfl⟩
          injection he with he
          injection he with he
          subst he
          exact ⟨_, m, c, rfl, by omega, rfl⟩
    · have key : ∀ a : Addr, (∀ j u, xs[j]? = some u → w.cell? (a.add j) = some u) → ∃ v' w', (Builtin.append_ #[t, t] ty #[.slice (some a) m c, .slice (some b) k c']).run P w = .ok v' w' ∧ At w0 M (Row e s v' (xs ++ ys) :: F) w' ∧ ∀ A' m' c'' k', Value.slice (some a) m c = .slice A' m' c'' → ys.length = k' * s → m' + k' ≤ c'' → v' = .slice A' (m' + k') c'' := by
        intro a ha
        obtain ⟨v', w', hrun, hown, hgr⟩ := run_append_arg_grows (P := P) w t ty e i z s bytes ht hi hz0 hz1 hz2 hzs hs a m c xs hl ha b k c' ys hyl hb' (by omega) h63 hb
        obtain ⟨hi1, hi2⟩ := owns_isRow hown
        refine ⟨v', w', hrun, h.drop.fresh hgr (Row e s v' (xs ++ ys)) hi1 hi2, ?_⟩
        intro A' m' c'' k' he hk' hle
        injection he with h1 h2 h3
        subst h2; subst h3
        have : k' = k := Nat.eq_of_mul_eq_mul_right hs (by omega)
        omega
      rcases hr with h0 | ⟨g, cur, rfl, hg, hcs, htk⟩
      · subst h0
        obtain rfl : m = 0 := by omega
        obtain rfl : xs = [] := List.eq_nil_of_length_eq_zero (by simpa using hl)
        cases A with
        | some a => exact key a (by simp)
        | none =>
          obtain ⟨v', w', hrun, hown, hgr, _⟩ := run_append_own (P := P) w w.heap.size t ty e i z s bytes ht hi hz0 hz1 hz2 hzs hs (.slice none 0 0) 0 [] (World.ownsRow_nil w _ e s) b k c' ys hyl hb' h1 h63 hb (Nat.le_refl _)
          obtain ⟨hi1, hi2⟩ := owns_isRow hown
          refine ⟨v', w', hrun, h.drop.fresh hgr (Row e s v' _) hi1 hi2, ?_⟩
          intro A' m' c'' k' he hk' hle
          injection he with h1 h2 h3
          subst h2; subst h3
          have : k' = k := Nat.eq_of_mul_eq_mul_right hs (by omega)
          omega
      · refine key _ fun j u hu => ?_
        rw [← htk, List.getElem?_take] at hu
        split at hu
        · have : (⟨g, 0, none⟩ : Addr).add j = ⟨g, j, none⟩ := by unfold Addr.add; split <;> simp_all
          rw [this]
          simp only [World.cell?, hg]
          simpa using hu
        · cases hu
end

end Go.Proofs.Ytbcaooiphalkoaa
