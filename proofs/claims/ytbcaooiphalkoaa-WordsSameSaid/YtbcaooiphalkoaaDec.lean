/-
  Words: Decode.
-/
import Derived.Test.YtbcaooiphalkoaaRdc
import Derived.Test.YtbcaooiphalkoaaWgc
set_option linter.unusedVariables false
set_option linter.unusedSimpArgs false
namespace Go.Proofs.Ytbcaooiphalkoaa
open Go Go.RowKit

/-- The reader ahead of the fields, behind the three numbers, and what each list reads as. -/
def dS0 (l : List UInt8) : Ps := ⟨lookP l, false⟩
def dS3 (l : List UInt8) : Ps := (((dS0 l).nx 4).nx 4).nx 4
def dC (l : List UInt8) : List Cd × Ps := pList pCard (dS3 l)
def dP (l : List UInt8) : List Pp × Ps := pList pParcel (dC l).2
def dV (l : List UInt8) : List Nat × Ps := pList pCell (dP l).2
def dN (l : List UInt8) : List Int × Ps := pList pSmall (dV l).2
def dO (l : List UInt8) : List Oo × Ps := pList pOpen (dN l).2
/-- The word that bytes are read as, if they are one. -/
def decW (l : List UInt8) : Wd := ⟨((dS0 l).num 4 : Nat), (((dS0 l).nx 4).num 4 : Nat), ((((dS0 l).nx 4).nx 4).num 4 : Nat), (dC l).1, (dP l).1, (dV l).1, (dN l).1, (dO l).1⟩
def decOk (l : List UInt8) : Bool := (decide ((dO l).2.t.e = 0 ∧ (dO l).2.t.s = []) && !(dO l).2.odd) && goodP (decW l)
def zeroW : List Value := [.int .i64 0, .int .i64 0, .int .i64 0, .slice none 0 0, .slice none 0 0, .slice none 0 0, .slice none 0 0, .slice none 0 0]
/-- The rows of a word. -/
def whF (h : WH) : List Ch := ((((([] ++ [Row 50 3 h.c.v (h.cs.flatMap cdc)]) ++ Row 52 3 h.p.v (h.ps.flatMap ppc) :: h.ps.map fun (y : Pp × Sl) => Row 5 1 y.2.v (u8l y.1.d)) ++ [Row 63 1 h.v.v (h.vs.map u32v)]) ++ [Row 3 1 h.n.v (h.ws.map i64v)]) ++ Row 55 3 h.o.v (h.os.flatMap ooc) :: h.os.map fun (y : Oo × Sl) => Row 48 1 y.2.v (y.1.v.map u64v))
theorem RdW.of_mem {w0 w : World} {M : Nat → Prop} {F : List Ch} {h : WH} (k : At w0 M F w) (hs : ∀ c ∈ whF h, c ∈ F) : RdW w h :=
  ⟨IsRow.rd (k.holds _ (hs (Row 50 3 h.c.v (h.cs.flatMap cdc)) (by simp [whF]))),
   IsRow.rd (k.holds _ (hs (Row 52 3 h.p.v (h.ps.flatMap ppc)) (by simp [whF]))),
   fun x hx => IsRow.rd (k.holds _ (hs (Row 5 1 x.2.v (u8l x.1.d)) (by simp only [whF, List.mem_append, List.mem_cons, List.mem_map]; exact .inl (.inl (.inl (.inr (.inr ⟨x, hx, rfl⟩))))))),
   IsRow.rd (k.holds _ (hs (Row 63 1 h.v.v (h.vs.map u32v)) (by simp [whF]))),
   IsRow.rd (k.holds _ (hs (Row 3 1 h.n.v (h.ws.map i64v)) (by simp [whF]))),
   IsRow.rd (k.holds _ (hs (Row 55 3 h.o.v (h.os.flatMap ooc)) (by simp [whF]))),
   fun x hx => IsRow.rd (k.holds _ (hs (Row 48 1 x.2.v (x.1.v.map u64v)) (by simp only [whF, List.mem_append, List.mem_cons, List.mem_map]; exact .inr (.inr ⟨x, hx, rfl⟩))))⟩
theorem At.third {w0 w : World} {M : Nat → Prop} {x a b : Ch} {R : List Ch} (h : At w0 M (x :: a :: b :: R) w) : At w0 M (a :: b :: x :: R) w := h.perm ((List.Perm.swap a x _).trans (List.Perm.cons a (List.Perm.swap b x R)))
theorem At.front2 {w0 w : World} {M : Nat → Prop} {a b x y : Ch} {N R : List Ch} (h : At w0 M (a :: b :: (N ++ x :: y :: R)) w) : At w0 M (a :: b :: x :: y :: (R ++ N)) w :=
  h.perm (List.Perm.cons a (List.Perm.cons b (by have := List.perm_append_comm (l₁ := N) (l₂ := x :: y :: R); simpa using this)))
theorem lookP_len (l : List UInt8) : (lookP l).s.length ≤ 65536 := by
  unfold lookP
  split
  · simp
  · split
    · simp
    · split
      · simp; omega
      · simp
theorem pCard_s (p : Ps) : (pCard p).2.t.s.length ≤ p.t.s.length := Nat.le_trans (Es.nx_len _ _) (Nat.le_trans (Es.nx_len _ _) (Es.nx_len _ _))
theorem pList_n {α : Type} (stp : Ps → α × Ps) (p : Ps) : (pList stp p).1.length ≤ 257 := by
  show (pRep stp _ _).1.length ≤ 257
  rw [pRep_len]; omega
theorem dC_n (l : List UInt8) : (dC l).1.length ≤ 257 := by unfold dC; exact pList_n _ _
theorem dP_n (l : List UInt8) : (dP l).1.length ≤ 257 := by unfold dP; exact pList_n _ _
theorem dV_n (l : List UInt8) : (dV l).1.length ≤ 257 := by unfold dV; exact pList_n _ _
theorem dN_n (l : List UInt8) : (dN l).1.length ≤ 257 := by unfold dN; exact pList_n _ _
theorem dO_n (l : List UInt8) : (dO l).1.length ≤ 257 := by unfold dO; exact pList_n _ _
theorem dC_s (l : List UInt8) : (dC l).2.t.s.length ≤ 1000000 :=
  Nat.le_trans (pList_s pCard_s _) (Nat.le_trans (Es.nx_len _ _) (Nat.le_trans (Es.nx_len _ _) (Nat.le_trans (Es.nx_len _ _) (Nat.le_trans (lookP_len l) (by decide)))))

theorem decOk_iff (l : List UInt8) : decOk l = true ↔ ((dO l).2.t.e = 0 ∧ (dO l).2.t.s = []) ∧ (dO l).2.odd = false ∧ goodP (decW l) = true := by
  simp [decOk, and_assoc]

theorem w_Decode {w : World} {D : Value} {l : List UInt8} (hR : Rd w 1 D (u8l l)) : Calls Try.prog 13 #[D] w fun e w' => ∃ v, e = .returned v ∧ ((decOk l = true → ∃ h : WH, v = .tuple #[.agg (wdc h).toArray, .int .i64 0] ∧ h.x = decW l ∧ At w No (whF h) w') ∧ (decOk l = false → v = .tuple #[.agg zeroW.toArray, .int .i64 2] ∧ At w No [] w')) := by
  refine body_in (n := 73) (l := [D]) en13 rfl Try.ntmps13 rfl ?_
  have hA := At.refl w
  refine W_seq ?_
  refine W_reg ?_ -- 0 words.go:170
  refine o_alloc hA ti29 rfl (fun b1 w1 hA => ?_)
  refine o_assign (v := .int _ _) rfl ?_
  refine O_end ?_
  refine W_seq ?_
  refine W_reg ?_ -- 1 words.go:171
  refine o_move (by conv => lhs; whnf) ?_
  refine O_calls en26 rfl (e_look (hR.old hA)) (fun v2 w2 hC => ?_)
  obtain ⟨be, rfl, A, m, c, hC⟩ := hC
  have hA := hA.more hC
  refine o_build la69 rfl rfl ?_
  refine o_box hA (by conv => lhs; whnf) rfl (fun b3 w3 hA => ?_)
  refine o_assign (v := .pointer _) rfl ?_
  refine O_end ?_
  refine W_seq ?_
  have hA0 : At w No ([Cell b3 69 [.pointer (some ⟨be, 0, none⟩), .bool false], EyeC be (.slice A m c) (lookP l).e, Cell b1 29 zeroW] ++ [Row 5 1 (.slice A m c) (u8l (lookP l).s)]) w3 := hA.perm (List.Perm.cons _ (List.Perm.cons _ (List.Perm.swap _ _ [])))
  obtain ⟨g, hS, hM3⟩ := hA0.src
  have hA0 := hA0.keep 3
  have hA : At w3 (SS [Cell b3 69 [.pointer (some ⟨be, 0, none⟩), .bool false], EyeC be (.slice A m c) (lookP l).e, Cell b1 29 zeroW]) [Cell b3 69 [.pointer (some ⟨be, 0, none⟩), .bool false], EyeC be (.slice A m c) (lookP l).e, Cell b1 29 zeroW] w3 := hA0.own1
  have hg : g ≠ be := fun e => hM3 ⟨_, by simp, (show (EyeC be (.slice A m c) (lookP l).e).S g from e)⟩
  have hr : g ≠ b3 := fun e => hM3 ⟨_, List.mem_cons_self .., e⟩
  refine W_cut (fun ρ w' => ∃ (bw : Nat) (A3 : Option Addr) (m3 c3 : Nat), ρ 4 = .pointer (some ⟨b3, 0, none⟩) ∧ ρ 5 = .pointer (some ⟨bw, 0, none⟩) ∧ ρ 2 = .pointer (some ⟨b1, 0, none⟩) ∧ At w3 (SS [Cell b3 69 [.pointer (some ⟨be, 0, none⟩), .bool false], EyeC be (.slice A m c) (lookP l).e, Cell b1 29 zeroW]) (RdC b3 be (.slice A3 m3 c3) (dS3 l) ++ [Cell bw 29 [.int .i64 (((dS0 l).num 4 : Nat) : Int), .int .i64 ((((dS0 l).nx 4).num 4 : Nat) : Int), .int .i64 (((((dS0 l).nx 4).nx 4).num 4 : Nat) : Int), .slice none 0 0, .slice none 0 0, .slice none 0 0, .slice none 0 0, .slice none 0 0], Cell b1 29 zeroW]) w' ∧ Der g (.slice A m c) (lookP l).s (.slice A3 m3 c3) (dS3 l).t.s) ?_ ?_
  · -- up to the cut
    refine W_drawB (fun u => u.cell? ⟨b3, 0, none⟩ = some (.pointer (some ⟨be, 0, none⟩))) hA [3, 8, 13] mix rfl rfl (fun w0_2 hA => ?_) -- 2 words.go:172
    refine D_take 0 rfl (by kernel_rfl) (by rintro _ _ _ ⟨h, _⟩; cases h) rfl (fun h => by cases h) (fun w hA => r_move (v := .pointer _) rfl) ?_
    refine D_take 1 rfl (by kernel_rfl) (by rintro _ _ _ ⟨h, _⟩; cases h) rfl (fun h => by cases h) (fun w hA => r_nilCheck rfl) ?_
    refine D_take 2 rfl (by kernel_rfl) (by rintro _ _ _ ⟨h, _⟩; cases h) rfl (fun h => by cases h) (fun w hA => r_fieldAddr fo69_0 rfl rfl) ?_
    refine D_take 3 rfl (by kernel_rfl) (by rintro _ _ _ ⟨h, _⟩; cases h) rfl (fun _ => hA.c 0 rfl rfl) (fun w hA => r_load1 ag66 rfl (hA rfl)) ?_
    refine D_take 5 rfl (by kernel_rfl) (by rintro _ _ _ ⟨h, _⟩; cases h) rfl (fun h => by cases h) (fun w hA => r_move (v := .pointer _) rfl) ?_
    refine D_take 6 rfl (by kernel_rfl) (by rintro _ _ _ ⟨h, _⟩; cases h) rfl (fun h => by cases h) (fun w hA => r_nilCheck rfl) ?_
    refine D_take 7 rfl (by kernel_rfl) (by rintro _ _ _ ⟨h, _⟩; cases h) rfl (fun h => by cases h) (fun w hA => r_fieldAddr fo69_0 rfl rfl) ?_
    refine D_take 8 rfl (by kernel_rfl) (by rintro _ _ _ ⟨h, _⟩; cases h) rfl (fun _ => hA.c 0 rfl rfl) (fun w hA => r_load1 ag66 rfl (hA rfl)) ?_
    refine D_take 10 rfl (by kernel_rfl) (by rintro _ _ _ ⟨h, _⟩; cases h) rfl (fun h => by cases h) (fun w hA => r_move (v := .pointer _) rfl) ?_
    refine D_take 11 rfl (by kernel_rfl) (by rintro _ _ _ ⟨h, _⟩; cases h) rfl (fun h => by cases h) (fun w hA => r_nilCheck rfl) ?_
    refine D_take 12 rfl (by kernel_rfl) (by rintro _ _ _ ⟨h, _⟩; cases h) rfl (fun h => by cases h) (fun w hA => r_fieldAddr fo69_0 rfl rfl) ?_
    refine D_take 13 rfl (by kernel_rfl) (by rintro _ _ _ ⟨h, _⟩; cases h) rfl (fun _ => hA.c 0 rfl rfl) (fun w hA => r_load1 ag66 rfl (hA rfl)) ?_
    refine D_run2 4 16 (by kernel_rfl) rfl rfl rfl rfl ?_ ?_
    · -- 4 first
      refine O_calls en27 rfl (e_small (t := (dS0 l).t) (hA.mown (A := [_]) (R := [EyeC be (.slice A m c) (dS0 l).t.e]) (G := [_])) (hS.at_ hA hM3) hg) (fun v4 w4 hC => ?_)
      obtain ⟨rfl, A1, m1, c1, hT1, hD1⟩ := hC
      have hA := hA.mid (A := [_]) (G := [_]) hT1
      have D1 : Der g (.slice A m c) (lookP l).s (.slice A1 m1 c1) ((dS0 l).nx 4).t.s := hD1
      refine O_end ⟨fun _ _ => hA.c 0 rfl rfl, ?_⟩
      refine D_run2 9 16 (by kernel_rfl) rfl rfl rfl rfl ?_ ?_
      · -- 9 first
        refine O_calls en27 rfl (e_small (t := ((dS0 l).nx 4).t) (hA.mown (A := [_]) (R := [EyeC be (.slice A1 m1 c1) ((dS0 l).nx 4).t.e]) (G := [_])) (D1 _ (hS.at_ hA hM3)) hg) (fun v5 w5 hC => ?_)
        obtain ⟨rfl, A2, m2, c2, hT2, hD2⟩ := hC
        have hA := hA.mid (A := [_]) (G := [_]) hT2
        have D2 : Der g (.slice A m c) (lookP l).s (.slice A2 m2 c2) (((dS0 l).nx 4).nx 4).t.s := D1.trans hD2
        refine O_end ⟨fun _ _ => hA.c 0 rfl rfl, ?_⟩
        refine D_run2 14 16 (by kernel_rfl) rfl rfl rfl rfl ?_ ?_
        · -- 14 first
          refine O_calls en27 rfl (e_small (t := (((dS0 l).nx 4).nx 4).t) (hA.mown (A := [_]) (R := [EyeC be (.slice A2 m2 c2) (((dS0 l).nx 4).nx 4).t.e]) (G := [_])) (D2 _ (hS.at_ hA hM3)) hg) (fun v6 w6 hC => ?_)
          obtain ⟨rfl, A3, m3, c3, hT3, hD3⟩ := hC
          have hA := hA.mid (A := [_]) (G := [_]) hT3
          have D3 : Der g (.slice A m c) (lookP l).s (.slice A3 m3 c3) (dS3 l).t.s := D2.trans hD3
          refine O_end ⟨fun _ _ => hA.c 0 rfl rfl, ?_⟩
          refine D_take 15 rfl (by kernel_rfl) (by rintro _ _ _ ⟨h, _⟩; cases h) rfl (fun h => by cases h) (fun w hA => r_build la29 rfl rfl) ?_
          refine D_run 16 (by kernel_rfl) rfl rfl ?_
          refine o_alloc hA ti29 rfl (fun b7 w7 hA => ?_)
          refine O_end ⟨fun _ _ => hA.c 1 rfl rfl, ?_⟩
          refine D_run 17 (by kernel_rfl) rfl rfl ?_
          refine o_store (cs' := [_, _, _, _, _, _, _, _]) (i := 0) hA rfl (by conv => lhs; whnf) rfl ti29 rfl rfl rfl rfl (fun w8 hA => ?_)
          refine O_end ⟨fun _ _ => hA.c 1 rfl rfl, ?_⟩
          refine D_done (by kernel_rfl) ?_
          exact ⟨b7, A3, m3, c3, rfl, rfl, rfl, hA.third, D3⟩
        · -- 16 first
          refine o_alloc hA ti29 rfl (fun b9 w9 hA => ?_)
          refine O_end ⟨fun _ _ => hA.c 1 rfl rfl, ?_⟩
          refine D_run 14 (by kernel_rfl) rfl rfl ?_
          refine O_calls en27 rfl (e_small (t := (((dS0 l).nx 4).nx 4).t) (hA.mown (A := [_, _]) (R := [EyeC be (.slice A2 m2 c2) (((dS0 l).nx 4).nx 4).t.e]) (G := [_])) (D2 _ (hS.at_ hA hM3)) hg) (fun v10 w10 hC => ?_)
          obtain ⟨rfl, A3, m3, c3, hT3, hD3⟩ := hC
          have hA := hA.mid (A := [_, _]) (G := [_]) hT3
          have D3 : Der g (.slice A m c) (lookP l).s (.slice A3 m3 c3) (dS3 l).t.s := D2.trans hD3
          refine O_end ⟨fun _ _ => hA.c 1 rfl rfl, ?_⟩
          refine D_take 15 rfl (by kernel_rfl) (by rintro _ _ _ ⟨h, _⟩; cases h) rfl (fun h => by cases h) (fun w hA => r_build la29 rfl rfl) ?_
          refine D_run 17 (by kernel_rfl) rfl rfl ?_
          refine o_store (cs' := [_, _, _, _, _, _, _, _]) (i := 0) hA rfl (by conv => lhs; whnf) rfl ti29 rfl rfl rfl rfl (fun w11 hA => ?_)
          refine O_end ⟨fun _ _ => hA.c 1 rfl rfl, ?_⟩
          refine D_done (by kernel_rfl) ?_
          exact ⟨b9, A3, m3, c3, rfl, rfl, rfl, hA.third, D3⟩
      · -- 16 first
        refine o_alloc hA ti29 rfl (fun b12 w12 hA => ?_)
        refine O_end ⟨fun _ _ => hA.c 1 rfl rfl, ?_⟩
        refine D_run 9 (by kernel_rfl) rfl rfl ?_
        refine O_calls en27 rfl (e_small (t := ((dS0 l).nx 4).t) (hA.mown (A := [_, _]) (R := [EyeC be (.slice A1 m1 c1) ((dS0 l).nx 4).t.e]) (G := [_])) (D1 _ (hS.at_ hA hM3)) hg) (fun v13 w13 hC => ?_)
        obtain ⟨rfl, A2, m2, c2, hT2, hD2⟩ := hC
        have hA := hA.mid (A := [_, _]) (G := [_]) hT2
        have D2 : Der g (.slice A m c) (lookP l).s (.slice A2 m2 c2) (((dS0 l).nx 4).nx 4).t.s := D1.trans hD2
        refine O_end ⟨fun _ _ => hA.c 1 rfl rfl, ?_⟩
        refine D_run 14 (by kernel_rfl) rfl rfl ?_
        refine O_calls en27 rfl (e_small (t := (((dS0 l).nx 4).nx 4).t) (hA.mown (A := [_, _]) (R := [EyeC be (.slice A2 m2 c2) (((dS0 l).nx 4).nx 4).t.e]) (G := [_])) (D2 _ (hS.at_ hA hM3)) hg) (fun v14 w14 hC => ?_)
        obtain ⟨rfl, A3, m3, c3, hT3, hD3⟩ := hC
        have hA := hA.mid (A := [_, _]) (G := [_]) hT3
        have D3 : Der g (.slice A m c) (lookP l).s (.slice A3 m3 c3) (dS3 l).t.s := D2.trans hD3
        refine O_end ⟨fun _ _ => hA.c 1 rfl rfl, ?_⟩
        refine D_take 15 rfl (by kernel_rfl) (by rintro _ _ _ ⟨h, _⟩; cases h) rfl (fun h => by cases h) (fun w hA => r_build la29 rfl rfl) ?_
        refine D_run 17 (by kernel_rfl) rfl rfl ?_
        refine o_store (cs' := [_, _, _, _, _, _, _, _]) (i := 0) hA rfl (by conv => lhs; whnf) rfl ti29 rfl rfl rfl rfl (fun w15 hA => ?_)
        refine O_end ⟨fun _ _ => hA.c 1 rfl rfl, ?_⟩
        refine D_done (by kernel_rfl) ?_
        exact ⟨b12, A3, m3, c3, rfl, rfl, rfl, hA.third, D3⟩
    · -- 16 first
      refine o_alloc hA ti29 rfl (fun b16 w16 hA => ?_)
      refine O_end ⟨fun _ _ => hA.c 1 rfl rfl, ?_⟩
      refine D_run 4 (by kernel_rfl) rfl rfl ?_
      refine O_calls en27 rfl (e_small (t := (dS0 l).t) (hA.mown (A := [_, _]) (R := [EyeC be (.slice A m c) (dS0 l).t.e]) (G := [_])) (hS.at_ hA hM3) hg) (fun v17 w17 hC => ?_)
      obtain ⟨rfl, A1, m1, c1, hT1, hD1⟩ := hC
      have hA := hA.mid (A := [_, _]) (G := [_]) hT1
      have D1 : Der g (.slice A m c) (lookP l).s (.slice A1 m1 c1) ((dS0 l).nx 4).t.s := hD1
      refine O_end ⟨fun _ _ => hA.c 1 rfl rfl, ?_⟩
      refine D_run 9 (by kernel_rfl) rfl rfl ?_
      refine O_calls en27 rfl (e_small (t := ((dS0 l).nx 4).t) (hA.mown (A := [_, _]) (R := [EyeC be (.slice A1 m1 c1) ((dS0 l).nx 4).t.e]) (G := [_])) (D1 _ (hS.at_ hA hM3)) hg) (fun v18 w18 hC => ?_)
      obtain ⟨rfl, A2, m2, c2, hT2, hD2⟩ := hC
      have hA := hA.mid (A := [_, _]) (G := [_]) hT2
      have D2 : Der g (.slice A m c) (lookP l).s (.slice A2 m2 c2) (((dS0 l).nx 4).nx 4).t.s := D1.trans hD2
      refine O_end ⟨fun _ _ => hA.c 1 rfl rfl, ?_⟩
      refine D_run 14 (by kernel_rfl) rfl rfl ?_
      refine O_calls en27 rfl (e_small (t := (((dS0 l).nx 4).nx 4).t) (hA.mown (A := [_, _]) (R := [EyeC be (.slice A2 m2 c2) (((dS0 l).nx 4).nx 4).t.e]) (G := [_])) (D2 _ (hS.at_ hA hM3)) hg) (fun v19 w19 hC => ?_)
      obtain ⟨rfl, A3, m3, c3, hT3, hD3⟩ := hC
      have hA := hA.mid (A := [_, _]) (G := [_]) hT3
      have D3 : Der g (.slice A m c) (lookP l).s (.slice A3 m3 c3) (dS3 l).t.s := D2.trans hD3
      refine O_end ⟨fun _ _ => hA.c 1 rfl rfl, ?_⟩
      refine D_take 15 rfl (by kernel_rfl) (by rintro _ _ _ ⟨h, _⟩; cases h) rfl (fun h => by cases h) (fun w hA => r_build la29 rfl rfl) ?_
      refine D_run 17 (by kernel_rfl) rfl rfl ?_
      refine o_store (cs' := [_, _, _, _, _, _, _, _]) (i := 0) hA rfl (by conv => lhs; whnf) rfl ti29 rfl rfl rfl rfl (fun w20 hA => ?_)
      refine O_end ⟨fun _ _ => hA.c 1 rfl rfl, ?_⟩
      refine D_done (by kernel_rfl) ?_
      exact ⟨b16, A3, m3, c3, rfl, rfl, rfl, hA.third, D3⟩
  · -- behind it
    clear hA
    rintro ρ w1 ⟨bw, A3, m3, c3, h4, h5, h2, hA, D3⟩
    refine W_known (t := 4) h4 ?_
    refine W_known (t := 5) h5 ?_
    refine W_known (t := 2) h2 ?_
    have hM : ∀ F w', At w3 (SS [Cell b3 69 [.pointer (some ⟨be, 0, none⟩), .bool false], EyeC be (.slice A m c) (lookP l).e, Cell b1 29 zeroW]) F w' → Src w' g (.slice A m c) (lookP l).s := fun F w' k => hS.at_ k hM3
    refine W_seq ?_
    refine W_reg ?_ -- 3 words.go:173
    refine o_move (v := .pointer _) rfl ?_
    refine o_move (v := .pointer _) rfl ?_
    refine o_makeFunc rfl rfl ?_ -- Go.Fn.func 29
    refine O_calls en28 rfl (r_cards (p := (dS3 l)) (hA.own (R := RdC b3 be (.slice A3 m3 c3) (dS3 l))) (D3 _ (hM _ _ hA)) hg hr) (fun v21 w21 hC => ?_)
    obtain ⟨L0, lm0, lc0, rfl, A4, m4, c4, hT4, hD4⟩ := hC
    have hA := At.front2 (a := Cell b3 69 [.pointer (some ⟨be, 0, none⟩), .bool (dC l).2.odd]) (b := EyeC be (.slice A4 m4 c4) (dC l).2.t.e) (N := [Row 50 3 (.slice L0 lm0 lc0) ((dC l).1.flatMap cdc)]) (x := Cell bw 29 [.int .i64 (((dS0 l).num 4 : Nat) : Int), .int .i64 ((((dS0 l).nx 4).num 4 : Nat) : Int), .int .i64 (((((dS0 l).nx 4).nx 4).num 4 : Nat) : Int), .slice none 0 0, .slice none 0 0, .slice none 0 0, .slice none 0 0, .slice none 0 0]) (y := Cell b1 29 zeroW) (R := []) (hA.trans hT4)
    have D4 : Der g (.slice A m c) (lookP l).s (.slice A4 m4 c4) (dC l).2.t.s := D3.trans hD4
    refine o_fieldAddr fo29_3 rfl rfl ?_
    refine o_store (cs' := [_, _, _, _, _, _, _, _]) (i := 2) hA rfl (by conv => lhs; whnf) rfl ti23 rfl rfl rfl rfl (fun w22 hA => ?_)
    refine O_end ?_
    refine W_seq ?_
    refine W_reg ?_ -- 4 words.go:174
    refine o_move (v := .pointer _) rfl ?_
    refine o_move (v := .pointer _) rfl ?_
    refine o_makeFunc rfl rfl ?_ -- Go.Fn.func 31
    refine O_calls en30 rfl (r_parcels (p := (dC l).2) (hA.own (R := RdC b3 be (.slice A4 m4 c4) (dC l).2)) (D4 _ (hM _ _ hA)) hg hr (dC_s l)) (fun v23 w23 hC => ?_)
    obtain ⟨L1, lm1, lc1, rfl, ps, hps, A5, m5, c5, hT5, hD5⟩ := hC
    have hA := At.front2 (a := Cell b3 69 [.pointer (some ⟨be, 0, none⟩), .bool (dP l).2.odd]) (b := EyeC be (.slice A5 m5 c5) (dP l).2.t.e) (N := (Row 52 3 (.slice L1 lm1 lc1) (ps.flatMap ppc) :: ps.map (fun (y : Pp × Sl) => Row 5 1 y.2.v (u8l y.1.d)))) (x := Cell bw 29 [.int .i64 (((dS0 l).num 4 : Nat) : Int), .int .i64 ((((dS0 l).nx 4).num 4 : Nat) : Int), .int .i64 (((((dS0 l).nx 4).nx 4).num 4 : Nat) : Int), .slice L0 lm0 lc0, .slice none 0 0, .slice none 0 0, .slice none 0 0, .slice none 0 0]) (y := Cell b1 29 zeroW) (R := ([] ++ [Row 50 3 (.slice L0 lm0 lc0) ((dC l).1.flatMap cdc)])) (hA.trans hT5)
    have D5 : Der g (.slice A m c) (lookP l).s (.slice A5 m5 c5) (dP l).2.t.s := D4.trans hD5
    refine o_fieldAddr fo29_4 rfl rfl ?_
    refine o_store (cs' := [_, _, _, _, _, _, _, _]) (i := 2) hA rfl (by conv => lhs; whnf) rfl ti24 rfl rfl rfl rfl (fun w24 hA => ?_)
    refine O_end ?_
    refine W_seq ?_
    refine W_reg ?_ -- 5 words.go:175
    refine o_move (v := .pointer _) rfl ?_
    refine o_move (v := .pointer _) rfl ?_
    refine o_makeFunc rfl rfl ?_ -- Go.Fn.func 33
    refine O_calls en32 rfl (r_cells (p := (dP l).2) (hA.own (R := RdC b3 be (.slice A5 m5 c5) (dP l).2)) (D5 _ (hM _ _ hA)) hg hr) (fun v25 w25 hC => ?_)
    obtain ⟨L2, lm2, lc2, rfl, A6, m6, c6, hT6, hD6⟩ := hC
    have hA := At.front2 (a := Cell b3 69 [.pointer (some ⟨be, 0, none⟩), .bool (dV l).2.odd]) (b := EyeC be (.slice A6 m6 c6) (dV l).2.t.e) (N := [Row 63 1 (.slice L2 lm2 lc2) ((dV l).1.map u32v)]) (x := Cell bw 29 [.int .i64 (((dS0 l).num 4 : Nat) : Int), .int .i64 ((((dS0 l).nx 4).num 4 : Nat) : Int), .int .i64 (((((dS0 l).nx 4).nx 4).num 4 : Nat) : Int), .slice L0 lm0 lc0, .slice L1 lm1 lc1, .slice none 0 0, .slice none 0 0, .slice none 0 0]) (y := Cell b1 29 zeroW) (R := (([] ++ [Row 50 3 (.slice L0 lm0 lc0) ((dC l).1.flatMap cdc)]) ++ (Row 52 3 (.slice L1 lm1 lc1) (ps.flatMap ppc) :: ps.map (fun (y : Pp × Sl) => Row 5 1 y.2.v (u8l y.1.d))))) (hA.trans hT6)
    have D6 : Der g (.slice A m c) (lookP l).s (.slice A6 m6 c6) (dV l).2.t.s := D5.trans hD6
    refine o_fieldAddr fo29_5 rfl rfl ?_
    refine o_store (cs' := [_, _, _, _, _, _, _, _]) (i := 2) hA rfl (by conv => lhs; whnf) rfl ti25 rfl rfl rfl rfl (fun w26 hA => ?_)
    refine O_end ?_
    refine W_seq ?_
    refine W_reg ?_ -- 6 words.go:176
    refine o_move (v := .pointer _) rfl ?_
    refine o_move (v := .pointer _) rfl ?_
    refine o_nilCheck rfl ?_
    refine o_fieldAddr fo69_0 rfl rfl ?_
    refine o_load1 ag66 rfl (hA.c 0 rfl rfl) ?_
    refine o_makeFunc rfl rfl ?_ -- Go.Fn.func 27
    refine O_calls en34 rfl (r_ints (p := (dV l).2) (hA.own (R := RdC b3 be (.slice A6 m6 c6) (dV l).2)) (D6 _ (hM _ _ hA)) hg hr) (fun v27 w27 hC => ?_)
    obtain ⟨L3, lm3, lc3, rfl, A7, m7, c7, hT7, hD7⟩ := hC
    have hA := At.front2 (a := Cell b3 69 [.pointer (some ⟨be, 0, none⟩), .bool (dN l).2.odd]) (b := EyeC be (.slice A7 m7 c7) (dN l).2.t.e) (N := [Row 3 1 (.slice L3 lm3 lc3) ((dN l).1.map i64v)]) (x := Cell bw 29 [.int .i64 (((dS0 l).num 4 : Nat) : Int), .int .i64 ((((dS0 l).nx 4).num 4 : Nat) : Int), .int .i64 (((((dS0 l).nx 4).nx 4).num 4 : Nat) : Int), .slice L0 lm0 lc0, .slice L1 lm1 lc1, .slice L2 lm2 lc2, .slice none 0 0, .slice none 0 0]) (y := Cell b1 29 zeroW) (R := ((([] ++ [Row 50 3 (.slice L0 lm0 lc0) ((dC l).1.flatMap cdc)]) ++ (Row 52 3 (.slice L1 lm1 lc1) (ps.flatMap ppc) :: ps.map (fun (y : Pp × Sl) => Row 5 1 y.2.v (u8l y.1.d)))) ++ [Row 63 1 (.slice L2 lm2 lc2) ((dV l).1.map u32v)])) (hA.trans hT7)
    have D7 : Der g (.slice A m c) (lookP l).s (.slice A7 m7 c7) (dN l).2.t.s := D6.trans hD7
    refine o_fieldAddr fo29_6 rfl rfl ?_
    refine o_store (cs' := [_, _, _, _, _, _, _, _]) (i := 2) hA rfl (by conv => lhs; whnf) rfl ti26 rfl rfl rfl rfl (fun w28 hA => ?_)
    refine O_end ?_
    refine W_seq ?_
    refine W_reg ?_ -- 7 words.go:177
    refine o_move (v := .pointer _) rfl ?_
    refine o_move (v := .pointer _) rfl ?_
    refine o_makeFunc rfl rfl ?_ -- Go.Fn.func 36
    refine O_calls en35 rfl (r_openings (p := (dN l).2) (hA.own (R := RdC b3 be (.slice A7 m7 c7) (dN l).2)) (D7 _ (hM _ _ hA)) hg hr) (fun v29 w29 hC => ?_)
    obtain ⟨L4, lm4, lc4, rfl, os, hos, A8, m8, c8, hT8, hD8⟩ := hC
    have hA := At.front2 (a := Cell b3 69 [.pointer (some ⟨be, 0, none⟩), .bool (dO l).2.odd]) (b := EyeC be (.slice A8 m8 c8) (dO l).2.t.e) (N := (Row 55 3 (.slice L4 lm4 lc4) (os.flatMap ooc) :: os.map (fun (y : Oo × Sl) => Row 48 1 y.2.v (y.1.v.map u64v)))) (x := Cell bw 29 [.int .i64 (((dS0 l).num 4 : Nat) : Int), .int .i64 ((((dS0 l).nx 4).num 4 : Nat) : Int), .int .i64 (((((dS0 l).nx 4).nx 4).num 4 : Nat) : Int), .slice L0 lm0 lc0, .slice L1 lm1 lc1, .slice L2 lm2 lc2, .slice L3 lm3 lc3, .slice none 0 0]) (y := Cell b1 29 zeroW) (R := (((([] ++ [Row 50 3 (.slice L0 lm0 lc0) ((dC l).1.flatMap cdc)]) ++ (Row 52 3 (.slice L1 lm1 lc1) (ps.flatMap ppc) :: ps.map (fun (y : Pp × Sl) => Row 5 1 y.2.v (u8l y.1.d)))) ++ [Row 63 1 (.slice L2 lm2 lc2) ((dV l).1.map u32v)]) ++ [Row 3 1 (.slice L3 lm3 lc3) ((dN l).1.map i64v)])) (hA.trans hT8)
    have D8 : Der g (.slice A m c) (lookP l).s (.slice A8 m8 c8) (dO l).2.t.s := D7.trans hD8
    refine o_fieldAddr fo29_7 rfl rfl ?_
    refine o_store (cs' := [_, _, _, _, _, _, _, _]) (i := 2) hA rfl (by conv => lhs; whnf) rfl ti27 rfl rfl rfl rfl (fun w30 hA => ?_)
    have hA : At w3 (SS [Cell b3 69 [.pointer (some ⟨be, 0, none⟩), .bool false], EyeC be (.slice A m c) (lookP l).e, Cell b1 29 zeroW]) ([Cell b3 69 [.pointer (some ⟨be, 0, none⟩), .bool (dO l).2.odd]] ++ ([EyeC be (.slice A8 m8 c8) (dO l).2.t.e] ++ (Cell bw 29 [.int .i64 (((dS0 l).num 4 : Nat) : Int), .int .i64 ((((dS0 l).nx 4).num 4 : Nat) : Int), .int .i64 (((((dS0 l).nx 4).nx 4).num 4 : Nat) : Int), .slice L0 lm0 lc0, .slice L1 lm1 lc1, .slice L2 lm2 lc2, .slice L3 lm3 lc3, .slice L4 lm4 lc4] :: Cell b1 29 zeroW :: ((((([] ++ [Row 50 3 (.slice L0 lm0 lc0) ((dC l).1.flatMap cdc)]) ++ (Row 52 3 (.slice L1 lm1 lc1) (ps.flatMap ppc) :: ps.map (fun (y : Pp × Sl) => Row 5 1 y.2.v (u8l y.1.d)))) ++ [Row 63 1 (.slice L2 lm2 lc2) ((dV l).1.map u32v)]) ++ [Row 3 1 (.slice L3 lm3 lc3) ((dN l).1.map i64v)]) ++ (Row 55 3 (.slice L4 lm4 lc4) (os.flatMap ooc) :: os.map (fun (y : Oo × Sl) => Row 48 1 y.2.v (y.1.v.map u64v))))))) w30 := hA
    obtain ⟨RR, hRR⟩ : ∃ RR, RR = ((((([] ++ [Row 50 3 (.slice L0 lm0 lc0) ((dC l).1.flatMap cdc)]) ++ (Row 52 3 (.slice L1 lm1 lc1) (ps.flatMap ppc) :: ps.map (fun (y : Pp × Sl) => Row 5 1 y.2.v (u8l y.1.d)))) ++ [Row 63 1 (.slice L2 lm2 lc2) ((dV l).1.map u32v)]) ++ [Row 3 1 (.slice L3 lm3 lc3) ((dN l).1.map i64v)]) ++ (Row 55 3 (.slice L4 lm4 lc4) (os.flatMap ooc) :: os.map (fun (y : Oo × Sl) => Row 48 1 y.2.v (y.1.v.map u64v)))) := ⟨_, rfl⟩
    rw [← hRR] at hA
    refine O_end ?_
    refine W_seq ?_
    refine W_seq ?_
    refine W_reg ?_ -- 8 words.go:178
    refine o_move (v := .pointer _) rfl ?_
    refine o_nilCheck rfl ?_
    refine o_fieldAddr fo69_0 rfl rfl ?_
    refine o_load1 ag66 rfl (hA.c 0 rfl rfl) ?_
    refine O_calls en37 rfl (e_end (t := (dO l).2.t) (hA.mown (A := [Cell b3 69 [.pointer (some ⟨be, 0, none⟩), .bool (dO l).2.odd]]) (R := [EyeC be (.slice A8 m8 c8) (dO l).2.t.e]) (G := Cell bw 29 [.int .i64 (((dS0 l).num 4 : Nat) : Int), .int .i64 ((((dS0 l).nx 4).num 4 : Nat) : Int), .int .i64 (((((dS0 l).nx 4).nx 4).num 4 : Nat) : Int), .slice L0 lm0 lc0, .slice L1 lm1 lc1, .slice L2 lm2 lc2, .slice L3 lm3 lc3, .slice L4 lm4 lc4] :: Cell b1 29 zeroW :: RR)) (D8 _ (hM _ _ hA))) (fun v31 w31 hC => ?_)
    obtain ⟨ek, rfl, hek, e', hT9⟩ := hC
    have hA := hA.mid (A := [Cell b3 69 [.pointer (some ⟨be, 0, none⟩), .bool (dO l).2.odd]]) (G := Cell bw 29 [.int .i64 (((dS0 l).num 4 : Nat) : Int), .int .i64 ((((dS0 l).nx 4).num 4 : Nat) : Int), .int .i64 (((((dS0 l).nx 4).nx 4).num 4 : Nat) : Int), .slice L0 lm0 lc0, .slice L1 lm1 lc1, .slice L2 lm2 lc2, .slice L3 lm3 lc3, .slice L4 lm4 lc4] :: Cell b1 29 zeroW :: RR) hT9
    obtain ⟨H, hH⟩ : ∃ H : WH, H = ⟨((dS0 l).num 4 : Nat), (((dS0 l).nx 4).num 4 : Nat), ((((dS0 l).nx 4).nx 4).num 4 : Nat), (dC l).1, ps, (dV l).1, (dN l).1, os, ⟨L0, lm0, lc0⟩, ⟨L1, lm1, lc1⟩, ⟨L2, lm2, lc2⟩, ⟨L3, lm3, lc3⟩, ⟨L4, lm4, lc4⟩⟩ := ⟨_, rfl⟩
    have hps' : ps.map (·.1) = (dP l).1 := hps
    have hos' : os.map (·.1) = (dO l).1 := hos
    have hHx : H.x = decW l := by rw [hH]; unfold WH.x decW; rw [← hps', ← hos']
    have hHF : whF H = RR := by rw [hRR, hH]; unfold whF; dsimp only
    have hlen : H.cs.length ≤ 9223372036854775807 ∧ H.ps.length ≤ 9223372036854775807 ∧ H.vs.length ≤ 9223372036854775807 ∧ H.ws.length ≤ 9223372036854775807 ∧ H.os.length ≤ 9223372036854775807 := by
      have a1 := dC_n l
      have a2 := dP_n l
      have a3 := dV_n l
      have a4 := dN_n l
      have a5 := dO_n l
      have e2 : ps.length = (dP l).1.length := by rw [← hps', List.length_map]
      have e5 : os.length = (dO l).1.length := by rw [← hos', List.length_map]
      rw [hH]
      refine ⟨?_, ?_, ?_, ?_, ?_⟩ <;> dsimp only <;> omega
    have hRW : RdW _ H := RdW.of_mem hA (by rw [hHF]; intro c hc; exact List.mem_cons_of_mem _ (List.mem_cons_of_mem _ (List.mem_cons_of_mem _ (List.mem_cons_of_mem _ hc))))
    have hA : At w3 (SS [Cell b3 69 [.pointer (some ⟨be, 0, none⟩), .bool false], EyeC be (.slice A m c) (lookP l).e, Cell b1 29 zeroW]) (Cell b3 69 [.pointer (some ⟨be, 0, none⟩), .bool (dO l).2.odd] :: EyeC be (.slice A8 m8 c8) e' :: Cell bw 29 (wdc H) :: Cell b1 29 zeroW :: RR) w31 := by rw [hH]; exact hA
    refine o_cmp2 rfl rfl rfl (fun h => ?_) (fun h => ?_)
    · -- True
      have q59 := bne_iff_ne.1 h
      refine o_move (v := .bool _) rfl ?_
      refine O_no rfl rfl rfl rfl ?_
      refine O_no rfl rfl rfl rfl ?_
      refine O_no rfl rfl rfl rfl ?_
      refine O_no rfl rfl rfl rfl ?_
      refine o_pick_t rfl (v := .bool _) rfl ?_
      refine o_move (v := .bool _) rfl ?_
      refine O_no rfl rfl rfl rfl ?_
      refine O_no rfl rfl rfl rfl ?_
      refine O_no rfl rfl rfl rfl ?_
      refine o_pick_t rfl (v := .bool _) rfl ?_
      refine O_end ?_
      refine W_then rfl ?_
      refine W_seq ?_
      refine W_reg ?_ -- 9 words.go:179
      refine o_build la29 rfl rfl ?_
      refine o_store (cs' := [_, _, _, _, _, _, _, _]) (i := 3) hA rfl (by conv => lhs; whnf) rfl ti29 rfl rfl rfl rfl (fun w32 hA => ?_)
      refine o_assign (v := .int _ _) rfl ?_
      refine O_end ?_
      refine W_ret ?_
      refine ⟨rfl, ?_⟩
      refine retct (i := 3) hA Try.results13 rfl (u := .int _ _) rfl ag29 ti29 rfl rfl ?_
      exact ⟨fun hok => absurd (hek.2 ((decOk_iff l).1 hok).1) (by omega), fun _ => ⟨rfl, hA0.trans1 hA.clear⟩⟩
    · -- False
      have q59 := bne_eq_false_iff_eq.1 h
      refine o_move (v := .bool _) rfl ?_
      refine O_yes rfl rfl rfl ?_
      refine o_move (v := .pointer _) rfl ?_
      refine O_yes rfl rfl rfl ?_
      refine o_nilCheck rfl ?_
      refine O_yes rfl rfl rfl ?_
      refine o_fieldAddr fo69_1 rfl rfl ?_
      refine O_yes rfl rfl rfl ?_
      refine o_load1b ag4 rfl (hA.c 0 rfl rfl) (fun h => ?_) (fun h => ?_)
      · -- True
        have q64 := h
        refine o_pick_f rfl (v := .bool _) rfl ?_
        refine o_move (v := .bool _) rfl ?_
        refine O_no rfl rfl rfl rfl ?_
        refine O_no rfl rfl rfl rfl ?_
        refine O_no rfl rfl rfl rfl ?_
        refine o_pick_t rfl (v := .bool _) rfl ?_
        refine O_end ?_
        refine W_then rfl ?_
        refine W_seq ?_
        refine W_reg ?_ -- 9 words.go:179
        refine o_build la29 rfl rfl ?_
        refine o_store (cs' := [_, _, _, _, _, _, _, _]) (i := 3) hA rfl (by conv => lhs; whnf) rfl ti29 rfl rfl rfl rfl (fun w33 hA => ?_)
        refine o_assign (v := .int _ _) rfl ?_
        refine O_end ?_
        refine W_ret ?_
        refine ⟨rfl, ?_⟩
        refine retct (i := 3) hA Try.results13 rfl (u := .int _ _) rfl ag29 ti29 rfl rfl ?_
        exact ⟨fun hok => absurd ((decOk_iff l).1 hok).2.1 (by rw [q64]; decide), fun _ => ⟨rfl, hA0.trans1 hA.clear⟩⟩
      · -- False
        have q64 := h
        refine o_pick_f rfl (v := .bool _) rfl ?_
        refine o_move (v := .bool _) rfl ?_
        refine O_yes rfl rfl rfl ?_
        refine o_loadN ag29 ti29 rfl rfl (hA.cs (i := 2) (o := 0) (s := 8) (ds := [_, _, _, _, _, _, _, _]) rfl rfl) ?_
        refine O_yes rfl rfl rfl ?_
        refine O_callb en10 rfl (w_Good hRW hlen) (fun w34 hC h => ?_) (fun w34 hC h => ?_)
        · -- True
          have hA := (hA.after hC).take
          have q68 := h
          refine O_yes rfl rfl rfl ?_
          refine o_not rfl ?_
          refine o_pick_f rfl (v := .bool _) rfl ?_
          refine O_end ?_
          refine W_else rfl ?_
          refine W_skip ?_
          refine W_seq ?_
          refine W_reg ?_ -- 10 words.go:181
          refine o_loadN ag29 ti29 rfl rfl (hA.cs (i := 2) (o := 0) (s := 8) (ds := [_, _, _, _, _, _, _, _]) rfl rfl) ?_
          refine o_store (cs' := [_, _, _, _, _, _, _, _]) (i := 3) hA rfl (by conv => lhs; whnf) rfl ti29 rfl rfl rfl rfl (fun w35 hA => ?_)
          refine o_assign (v := .int _ _) rfl ?_
          refine O_end ?_
          refine W_ret ?_
          refine ⟨rfl, ?_⟩
          refine retct (i := 3) hA Try.results13 rfl (u := .int _ _) rfl ag29 ti29 rfl rfl ?_
          exact ⟨fun _ => ⟨H, rfl, hHx, hA0.trans1 (by rw [hHF]; exact hA.tail 4)⟩, fun hno => absurd ((decOk_iff l).2 ⟨hek.1 (by omega), q64, by rw [← hHx]; exact q68⟩) (by rw [hno]; decide)⟩
        · -- False
          have hA := (hA.after hC).take
          have q68 := h
          refine O_yes rfl rfl rfl ?_
          refine o_not rfl ?_
          refine o_pick_f rfl (v := .bool _) rfl ?_
          refine O_end ?_
          refine W_then rfl ?_
          refine W_seq ?_
          refine W_reg ?_ -- 9 words.go:179
          refine o_build la29 rfl rfl ?_
          refine o_store (cs' := [_, _, _, _, _, _, _, _]) (i := 3) hA rfl (by conv => lhs; whnf) rfl ti29 rfl rfl rfl rfl (fun w36 hA => ?_)
          refine o_assign (v := .int _ _) rfl ?_
          refine O_end ?_
          refine W_ret ?_
          refine ⟨rfl, ?_⟩
          refine retct (i := 3) hA Try.results13 rfl (u := .int _ _) rfl ag29 ti29 rfl rfl ?_
          exact ⟨fun hok => absurd ((decOk_iff l).1 hok).2.2 (by rw [← hHx, q68]; decide), fun _ => ⟨rfl, hA0.trans1 hA.clear⟩⟩

end Go.Proofs.Ytbcaooiphalkoaa
