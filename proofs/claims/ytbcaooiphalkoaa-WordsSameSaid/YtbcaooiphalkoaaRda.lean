/-
  Words: the reader's things.
-/
import Derived.Test.YtbcaooiphalkoaaLook
set_option linter.unusedVariables false
set_option linter.unusedSimpArgs false
namespace Go.Proofs.Ytbcaooiphalkoaa
open Go Go.RowKit

/-- What a reader sees. -/
structure Ps where
  t : Es
  odd : Bool
def Ps.nx (p : Ps) (n : Nat) : Ps := ⟨p.t.nx n, p.odd⟩
def Ps.num (p : Ps) (n : Nat) : Nat := leV (p.t.tk n)
def pRep {α : Type} (stp : Ps → α × Ps) (p : Ps) : Nat → List α × Ps
  | 0 => ([], p)
  | k + 1 => ((pRep stp p k).1 ++ [(stp (pRep stp p k).2).1], (stp (pRep stp p k).2).2)
def pList {α : Type} (stp : Ps → α × Ps) (p : Ps) : List α × Ps :=
  ((pRep stp (p.nx 4) (min (p.num 4) 257)).1, ⟨(pRep stp (p.nx 4) (min (p.num 4) 257)).2.t, (pRep stp (p.nx 4) (min (p.num 4) 257)).2.odd || decide (256 < p.num 4)⟩)
def pSmall (p : Ps) : Int × Ps := (((p.num 4 : Nat) : Int), p.nx 4)
def pCell (p : Ps) : Nat × Ps := (p.num 4, p.nx 4)
def pGreat (p : Ps) : Nat × Ps := (p.num 8, p.nx 8)
def pCard (p : Ps) : Cd × Ps := (⟨((p.num 4 : Nat) : Int), (p.nx 4).num 8, ((p.nx 4).nx 8).num 8⟩, ((p.nx 4).nx 8).nx 8)
def pParcel (p : Ps) : Pp × Ps := (⟨((p.num 4 : Nat) : Int), (((p.nx 4).num 4 : Nat) : Int), (((p.nx 4).nx 4).nx 4).t.tk (((p.nx 4).nx 4).num 4)⟩, (((p.nx 4).nx 4).nx 4).nx (((p.nx 4).nx 4).num 4))
/-- A flag more. -/
def Ps.mark (p : Ps) (b : Bool) : Ps := ⟨p.t, p.odd || b⟩
def pOpen0 (p : Ps) : Ps := ((p.nx 4).nx 4).mark (decide (1 < (p.nx 4).num 4))
def pOpen (p : Ps) : Oo × Ps := (⟨((p.num 4 : Nat) : Int), ((((p.nx 4).num 4 : Nat) : Int) == 1), (pList pGreat (pOpen0 p)).1⟩, (pList pGreat (pOpen0 p)).2)
theorem pRep_len {α : Type} (stp : Ps → α × Ps) (p : Ps) : ∀ k, (pRep stp p k).1.length = k
  | 0 => rfl
  | k + 1 => by simp [pRep, pRep_len stp p k]
theorem Ps.num_lt (p : Ps) : p.num 4 < 4294967296 := Nat.lt_of_lt_of_le (leV_lt _) (show 2 ^ (8 * (p.t.tk 4).length) ≤ 2 ^ 32 from Nat.pow_le_pow_right (by decide) (by have := Es.tk_len p.t 4; omega))
theorem Ps.nx_len (p : Ps) (n : Nat) : (p.nx n).t.s.length ≤ p.t.s.length := Es.nx_len _ _
theorem pRep_s {α : Type} {stp : Ps → α × Ps} (h : ∀ p, (stp p).2.t.s.length ≤ p.t.s.length) (p : Ps) : ∀ k, (pRep stp p k).2.t.s.length ≤ p.t.s.length
  | 0 => Nat.le_refl _
  | k + 1 => Nat.le_trans (h _) (pRep_s h p k)
theorem pList_s {α : Type} {stp : Ps → α × Ps} (h : ∀ p, (stp p).2.t.s.length ≤ p.t.s.length) (p : Ps) : (pList stp p).2.t.s.length ≤ p.t.s.length := Nat.le_trans (pRep_s h _ _) (Es.nx_len _ _)
theorem pParcel_s (p : Ps) : (pParcel p).2.t.s.length ≤ p.t.s.length := Nat.le_trans (Es.nx_len _ _) (Nat.le_trans (Es.nx_len _ _) (Nat.le_trans (Es.nx_len _ _) (Es.nx_len _ _)))
theorem pGreat_s (p : Ps) : (pGreat p).2.t.s.length ≤ p.t.s.length := Es.nx_len _ _
theorem pOpen_s (p : Ps) : (pOpen p).2.t.s.length ≤ p.t.s.length := Nat.le_trans (pList_s pGreat_s _) (Nat.le_trans (Es.nx_len _ _) (Es.nx_len _ _))
/-- A reader and its Eye. -/
def RdC (br be : Nat) (v : Value) (p : Ps) : List Ch := [Cell br 69 [.pointer (some ⟨be, 0, none⟩), .bool p.odd], EyeC be v p.t.e]
theorem RdC_S {br be g : Nat} {v : Value} {p : Ps} (h : g ≠ be) (h' : g ≠ br) : ¬ SS (RdC br be v p) g := by
  rintro ⟨c, hc, hs⟩
  simp only [RdC, List.mem_cons, List.not_mem_nil, or_false] at hc
  rcases hc with rfl | rfl
  · exact h' hs
  · exact h hs
theorem At.lastly {w0 w : World} {M : Nat → Prop} {a b x l : Ch} {R : List Ch} (h : At w0 M (x :: a :: b :: l :: R) w) : At w0 M (a :: b :: l :: (R ++ [x])) w := by
  have := h.rot
  simpa using this

theorem r_card {w : World} {A : Option Addr} {br be m c g : Nat} {p : Ps} (hP : At w (SS (RdC br be (.slice A m c) p)) (RdC br be (.slice A m c) p) w) (hS : Src w g (.slice A m c) p.t.s) (hg : g ≠ be) (hr : g ≠ br) : Calls Try.prog 29 #[.pointer (some ⟨br, 0, none⟩)] w fun e w' => ∃ v, e = .returned v ∧ (v = .agg (cdc (pCard p).1).toArray ∧ ∃ (A' : Option Addr) (m' c' : Nat), At w (SS (RdC br be (.slice A m c) p)) (RdC br be (.slice A' m' c') ((pCard p).2)) w' ∧ Der g (.slice A m c) p.t.s (.slice A' m' c') ((pCard p).2).t.s) := by
  refine body_in (n := 19) (l := [.pointer (some ⟨br, 0, none⟩)]) en29 rfl Try.ntmps29 rfl ?_
  have hA := hP
  have hM : ¬ SS (RdC br be (.slice A m c) p) g := RdC_S hg hr
  refine W_seq ?_
  refine W_reg ?_ -- 0 words.go:149
  refine o_alloc hA ti50 rfl (fun b1 w1 hA => ?_)
  refine O_end ?_
  refine W_seq ?_
  refine W_drawB (fun u => u.cell? ⟨br, 0, none⟩ = some (.pointer (some ⟨be, 0, none⟩))) hA [3, 8, 13] mix rfl rfl (fun w0_1 hA => ?_) -- 1 words.go:149
  refine D_take 0 rfl (by kernel_rfl) (by rintro _ _ _ ⟨h, _⟩; cases h) rfl (fun h => by cases h) (fun w hA => r_move (v := .pointer _) rfl) ?_
  refine D_take 1 rfl (by kernel_rfl) (by rintro _ _ _ ⟨h, _⟩; cases h) rfl (fun h => by cases h) (fun w hA => r_nilCheck rfl) ?_
  refine D_take 2 rfl (by kernel_rfl) (by rintro _ _ _ ⟨h, _⟩; cases h) rfl (fun h => by cases h) (fun w hA => r_fieldAddr fo69_0 rfl rfl) ?_
  refine D_take 3 rfl (by kernel_rfl) (by rintro _ _ _ ⟨h, _⟩; cases h) rfl (fun _ => hA.c 1 rfl rfl) (fun w hA => r_load1 ag66 rfl (hA rfl)) ?_
  refine D_take 5 rfl (by kernel_rfl) (by rintro _ _ _ ⟨h, _⟩; cases h) rfl (fun h => by cases h) (fun w hA => r_move (v := .pointer _) rfl) ?_
  refine D_take 6 rfl (by kernel_rfl) (by rintro _ _ _ ⟨h, _⟩; cases h) rfl (fun h => by cases h) (fun w hA => r_nilCheck rfl) ?_
  refine D_take 7 rfl (by kernel_rfl) (by rintro _ _ _ ⟨h, _⟩; cases h) rfl (fun h => by cases h) (fun w hA => r_fieldAddr fo69_0 rfl rfl) ?_
  refine D_take 8 rfl (by kernel_rfl) (by rintro _ _ _ ⟨h, _⟩; cases h) rfl (fun _ => hA.c 1 rfl rfl) (fun w hA => r_load1 ag66 rfl (hA rfl)) ?_
  refine D_take 10 rfl (by kernel_rfl) (by rintro _ _ _ ⟨h, _⟩; cases h) rfl (fun h => by cases h) (fun w hA => r_move (v := .pointer _) rfl) ?_
  refine D_take 11 rfl (by kernel_rfl) (by rintro _ _ _ ⟨h, _⟩; cases h) rfl (fun h => by cases h) (fun w hA => r_nilCheck rfl) ?_
  refine D_take 12 rfl (by kernel_rfl) (by rintro _ _ _ ⟨h, _⟩; cases h) rfl (fun h => by cases h) (fun w hA => r_fieldAddr fo69_0 rfl rfl) ?_
  refine D_take 13 rfl (by kernel_rfl) (by rintro _ _ _ ⟨h, _⟩; cases h) rfl (fun _ => hA.c 1 rfl rfl) (fun w hA => r_load1 ag66 rfl (hA rfl)) ?_
  refine D_run 4 (by kernel_rfl) rfl rfl ?_
  refine O_calls en27 rfl (e_small (t := p.t) (hA.mown (A := [_, _]) (R := [EyeC be (.slice A m c) p.t.e]) (G := [])) (hS.at_ hA hM) hg) (fun v2 w2 hC => ?_)
  obtain ⟨rfl, A1, m1, c1, hT1, hD1⟩ := hC
  have hA := hA.mid (A := [_, _]) (G := []) hT1
  have D1 := hD1
  refine O_end ⟨fun _ _ => hA.c 1 rfl rfl, ?_⟩
  refine D_run 9 (by kernel_rfl) rfl rfl ?_
  refine O_calls en62 rfl (e_great (t := (p.nx 4).t) (hA.mown (A := [_, _]) (R := [EyeC be (.slice A1 m1 c1) (p.nx 4).t.e]) (G := [])) (D1 _ (hS.at_ hA hM)) hg) (fun v3 w3 hC => ?_)
  obtain ⟨rfl, A2, m2, c2, hT2, hD2⟩ := hC
  have hA := hA.mid (A := [_, _]) (G := []) hT2
  have D2 := D1.trans hD2
  refine O_end ⟨fun _ _ => hA.c 1 rfl rfl, ?_⟩
  refine D_run 14 (by kernel_rfl) rfl rfl ?_
  refine O_calls en62 rfl (e_great (t := ((p.nx 4).nx 8).t) (hA.mown (A := [_, _]) (R := [EyeC be (.slice A2 m2 c2) ((p.nx 4).nx 8).t.e]) (G := [])) (D2 _ (hS.at_ hA hM)) hg) (fun v4 w4 hC => ?_)
  obtain ⟨rfl, A3, m3, c3, hT3, hD3⟩ := hC
  have hA := hA.mid (A := [_, _]) (G := []) hT3
  have D3 := D2.trans hD3
  refine O_end ⟨fun _ _ => hA.c 1 rfl rfl, ?_⟩
  refine D_take 15 rfl (by kernel_rfl) (by rintro _ _ _ ⟨h, _⟩; cases h) rfl (fun h => by cases h) (fun w hA => r_build la50 rfl rfl) ?_
  refine D_run 16 (by kernel_rfl) rfl rfl ?_
  refine o_store (cs' := [_, _, _]) (i := 0) hA rfl (by conv => lhs; whnf) rfl ti50 rfl rfl rfl rfl (fun w5 hA => ?_)
  refine O_end ⟨fun _ _ => hA.c 1 rfl rfl, ?_⟩
  refine D_done (by kernel_rfl) ?_
  refine W_ret ?_
  refine ⟨rfl, ?_⟩
  refine retc (i := 0) hA Try.results29 rfl ag50 ti50 rfl rfl ?_
  exact ⟨rfl, A3, m3, c3, hA.drop, D3⟩

theorem r_cell {w : World} {A : Option Addr} {br be m c g : Nat} {p : Ps} (hP : At w (SS (RdC br be (.slice A m c) p)) (RdC br be (.slice A m c) p) w) (hS : Src w g (.slice A m c) p.t.s) (hg : g ≠ be) (hr : g ≠ br) : Calls Try.prog 33 #[.pointer (some ⟨br, 0, none⟩)] w fun e w' => ∃ v, e = .returned v ∧ (v = .int .u32 (((pCell p).1 : Nat) : Int) ∧ ∃ (A' : Option Addr) (m' c' : Nat), At w (SS (RdC br be (.slice A m c) p)) (RdC br be (.slice A' m' c') ((pCell p).2)) w' ∧ Der g (.slice A m c) p.t.s (.slice A' m' c') ((pCell p).2).t.s) := by
  refine body_in (n := 9) (l := [.pointer (some ⟨br, 0, none⟩)]) en33 rfl Try.ntmps33 rfl ?_
  have hA := hP
  have hM : ¬ SS (RdC br be (.slice A m c) p) g := RdC_S hg hr
  refine W_seq ?_
  refine W_reg ?_ -- 0 words.go:157
  refine o_assign (v := .int _ _) rfl ?_
  refine O_end ?_
  refine W_seq ?_
  refine W_reg ?_ -- 1 words.go:157
  refine o_move (v := .pointer _) rfl ?_
  refine o_nilCheck rfl ?_
  refine o_fieldAddr fo69_0 rfl rfl ?_
  refine o_load1 ag66 rfl (hA.c 0 rfl rfl) ?_
  refine O_calls en27 rfl (e_small (t := p.t) (hA.mown (A := [_]) (R := [EyeC be (.slice A m c) p.t.e]) (G := [])) (hS.at_ hA hM) hg) (fun v1 w1 hC => ?_)
  obtain ⟨rfl, A1, m1, c1, hT1, hD1⟩ := hC
  have hA := hA.mid (A := [_]) (G := []) hT1
  have D1 := hD1
  refine o_conv Try.underlying3 Try.underlying63 rfl (u32w rfl p.num_lt) ?_
  refine o_assign (v := .int _ _) rfl ?_
  refine O_end ?_
  refine W_ret ?_
  refine ⟨rfl, ?_⟩
  refine ret1 Try.results33 (v := .int _ _) rfl ?_
  exact ⟨rfl, A1, m1, c1, hA, D1⟩

theorem At.swap {w0 w : World} {M : Nat → Prop} {a x : Ch} {R : List Ch} (h : At w0 M (a :: x :: R) w) : At w0 M (x :: a :: R) w := h.perm (List.Perm.swap x a R)

theorem r_parcel {w : World} {A : Option Addr} {br be m c g : Nat} {p : Ps} (hP : At w (SS (RdC br be (.slice A m c) p)) (RdC br be (.slice A m c) p) w) (hS : Src w g (.slice A m c) p.t.s) (hg : g ≠ be) (hr : g ≠ br) (hl : p.t.s.length ≤ 1000000) : Calls Try.prog 31 #[.pointer (some ⟨br, 0, none⟩)] w fun e w' => ∃ v, e = .returned v ∧ ∃ (B : Option Addr) (k d : Nat), v = .agg (ppc ((pParcel p).1, ⟨B, k, d⟩)).toArray ∧ ∃ (A' : Option Addr) (m' c' : Nat), At w (SS (RdC br be (.slice A m c) p)) (Row 5 1 (.slice B k d) (u8l (pParcel p).1.d) :: RdC br be (.slice A' m' c') ((pParcel p).2)) w' ∧ Der g (.slice A m c) p.t.s (.slice A' m' c') ((pParcel p).2).t.s := by
  refine body_in (n := 19) (l := [.pointer (some ⟨br, 0, none⟩)]) en31 rfl Try.ntmps31 rfl ?_
  have hA := hP
  have hM : ¬ SS (RdC br be (.slice A m c) p) g := RdC_S hg hr
  refine W_seq ?_
  refine W_reg ?_ -- 0 words.go:152
  refine o_alloc hA ti52 rfl (fun b1 w1 hA => ?_)
  refine O_end ?_
  refine W_seq ?_
  refine W_drawB (fun u => u.cell? ⟨br, 0, none⟩ = some (.pointer (some ⟨be, 0, none⟩))) hA [3, 8, 13] mix rfl rfl (fun w0_1 hA => ?_) -- 1 words.go:153
  refine D_take 0 rfl (by kernel_rfl) (by rintro _ _ _ ⟨h, _⟩; cases h) rfl (fun h => by cases h) (fun w hA => r_move (v := .pointer _) rfl) ?_
  refine D_take 1 rfl (by kernel_rfl) (by rintro _ _ _ ⟨h, _⟩; cases h) rfl (fun h => by cases h) (fun w hA => r_nilCheck rfl) ?_
  refine D_take 2 rfl (by kernel_rfl) (by rintro _ _ _ ⟨h, _⟩; cases h) rfl (fun h => by cases h) (fun w hA => r_fieldAddr fo69_0 rfl rfl) ?_
  refine D_take 3 rfl (by kernel_rfl) (by rintro _ _ _ ⟨h, _⟩; cases h) rfl (fun _ => hA.c 1 rfl rfl) (fun w hA => r_load1 ag66 rfl (hA rfl)) ?_
  refine D_take 5 rfl (by kernel_rfl) (by rintro _ _ _ ⟨h, _⟩; cases h) rfl (fun h => by cases h) (fun w hA => r_move (v := .pointer _) rfl) ?_
  refine D_take 6 rfl (by kernel_rfl) (by rintro _ _ _ ⟨h, _⟩; cases h) rfl (fun h => by cases h) (fun w hA => r_nilCheck rfl) ?_
  refine D_take 7 rfl (by kernel_rfl) (by rintro _ _ _ ⟨h, _⟩; cases h) rfl (fun h => by cases h) (fun w hA => r_fieldAddr fo69_0 rfl rfl) ?_
  refine D_take 8 rfl (by kernel_rfl) (by rintro _ _ _ ⟨h, _⟩; cases h) rfl (fun _ => hA.c 1 rfl rfl) (fun w hA => r_load1 ag66 rfl (hA rfl)) ?_
  refine D_take 10 rfl (by kernel_rfl) (by rintro _ _ _ ⟨h, _⟩; cases h) rfl (fun h => by cases h) (fun w hA => r_move (v := .pointer _) rfl) ?_
  refine D_take 11 rfl (by kernel_rfl) (by rintro _ _ _ ⟨h, _⟩; cases h) rfl (fun h => by cases h) (fun w hA => r_nilCheck rfl) ?_
  refine D_take 12 rfl (by kernel_rfl) (by rintro _ _ _ ⟨h, _⟩; cases h) rfl (fun h => by cases h) (fun w hA => r_fieldAddr fo69_0 rfl rfl) ?_
  refine D_take 13 rfl (by kernel_rfl) (by rintro _ _ _ ⟨h, _⟩; cases h) rfl (fun _ => hA.c 1 rfl rfl) (fun w hA => r_load1 ag66 rfl (hA rfl)) ?_
  refine D_run 4 (by kernel_rfl) rfl rfl ?_
  refine O_calls en27 rfl (e_small (t := p.t) (hA.mown (A := [_, _]) (R := [EyeC be (.slice A m c) p.t.e]) (G := [])) (hS.at_ hA hM) hg) (fun v2 w2 hC => ?_)
  obtain ⟨rfl, A1, m1, c1, hT1, hD1⟩ := hC
  have hA := hA.mid (A := [_, _]) (G := []) hT1
  have D1 := hD1
  refine O_end ⟨fun _ _ => hA.c 1 rfl rfl, ?_⟩
  refine D_run 9 (by kernel_rfl) rfl rfl ?_
  refine O_calls en27 rfl (e_small (t := (p.nx 4).t) (hA.mown (A := [_, _]) (R := [EyeC be (.slice A1 m1 c1) (p.nx 4).t.e]) (G := [])) (D1 _ (hS.at_ hA hM)) hg) (fun v3 w3 hC => ?_)
  obtain ⟨rfl, A2, m2, c2, hT2, hD2⟩ := hC
  have hA := hA.mid (A := [_, _]) (G := []) hT2
  have D2 := D1.trans hD2
  refine O_end ⟨fun _ _ => hA.c 1 rfl rfl, ?_⟩
  refine D_run 14 (by kernel_rfl) rfl rfl ?_
  refine O_calls en63 rfl (e_bytes (t := ((p.nx 4).nx 4).t) (hA.mown (A := [_, _]) (R := [EyeC be (.slice A2 m2 c2) ((p.nx 4).nx 4).t.e]) (G := [])) (D2 _ (hS.at_ hA hM)) hg (Nat.le_trans (Nat.le_trans (Es.nx_len _ _) (Es.nx_len _ _)) hl)) (fun v4 w4 hC => ?_)
  obtain ⟨B, k, d, rfl, A3, m3, c3, hT3, hD3⟩ := hC
  have hA := hA.mid (A := [_, _]) (G := []) hT3
  have D3 := D2.trans hD3
  refine O_end ⟨fun _ _ => hA.c 1 rfl rfl, ?_⟩
  refine D_take 15 rfl (by kernel_rfl) (by rintro _ _ _ ⟨h, _⟩; cases h) rfl (fun h => by cases h) (fun w hA => r_build la52 rfl rfl) ?_
  refine D_run 16 (by kernel_rfl) rfl rfl ?_
  refine o_store (cs' := [_, _, _]) (i := 0) hA rfl (by conv => lhs; whnf) rfl ti52 rfl rfl rfl rfl (fun w5 hA => ?_)
  refine O_end ⟨fun _ _ => hA.c 1 rfl rfl, ?_⟩
  refine D_done (by kernel_rfl) ?_
  refine W_ret ?_
  refine ⟨rfl, ?_⟩
  refine retc (i := 0) hA Try.results31 rfl ag52 ti52 rfl rfl ?_
  exact ⟨B, k, d, rfl, A3, m3, c3, hA.drop.swap, D3⟩

end Go.Proofs.Ytbcaooiphalkoaa
