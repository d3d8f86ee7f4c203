/-
  Package poly: base.
-/
import Derived.Test.YtogpmiodnmigoaaPolyc
import Derived.Test.YtogpmiodnmigoaaSound
set_option linter.unusedVariables false
set_option linter.unusedSimpArgs false
namespace Go.Proofs.Ytogpmiodnmigoaa
open Go Go.RowKit

theorem mulP_len (a b : List Nat) : (mulP a b).length ≤ a.length + b.length - 1 := by
  unfold mulP
  have h1 := trimN_len (a.map (· % 2305843009213693951))
  have h2 := trimN_len (b.map (· % 2305843009213693951))
  rw [List.length_map] at h1 h2
  split
  · simp
  · refine Nat.le_trans (trimN_len _) ?_
    rw [List.length_map, mulO_len]
    omega
def placeAt (l : List Pt) (j : Nat) : Nat := ((l[j]?).map (·.a.toNat)).getD 0
def subP (a b : Nat) : Nat := (a % 2305843009213693951 + 2305843009213693951 - b % 2305843009213693951) % 2305843009213693951
def baseF (l : List Pt) (n : Nat) : Nat → List Nat × Nat
  | 0 => ([1], 1)
  | j + 1 => if j = n then baseF l n j else (mulP (baseF l n j).1 [subP 0 (placeAt l j), 1], ((baseF l n j).2 % 2305843009213693951) * (subP (placeAt l n) (placeAt l j) % 2305843009213693951) % 2305843009213693951)
theorem baseF_len (l : List Pt) (n : Nat) : ∀ j, (baseF l n j).1.length ≤ j + 1
  | 0 => by simp [baseF]
  | j + 1 => by
    have := baseF_len l n j
    unfold baseF
    split
    · omega
    · have h := mulP_len (baseF l n j).1 [subP 0 (placeAt l j), 1]
      simp only [List.length_cons, List.length_nil] at h
      show (mulP _ _).length ≤ _
      omega
theorem place_at {l : List Pt} {j : Nat} {x : Pt} (h : l[j]? = some x) : placeAt l j = x.a.toNat := by simp [placeAt, h]
theorem conv_place {a : Int} (h0 : 1 ≤ a) (h1 : a ≤ 64) : IntKind.u64.wrap a = ((a.toNat : Nat) : Int) := u64w (by omega) (by omega)

theorem l_base {w : World} {A : Option Addr} {m c n : Nat} {l : List Pt} {y : Pt} (hR : Rd w 2 (.slice A m c) (flatP l)) (hl : l.length ≤ 64) (hpl : ∀ x ∈ l, 1 ≤ x.a ∧ x.a ≤ 64) (hy : l[n]? = some y) : Calls Try.prog 39 #[.slice A m c, .int .i64 (n : Int)] w fun e w' => ∃ v, e = .returned v ∧ ∃ z, z = (if (baseF l n l.length).2 % 2305843009213693951 = 0 then 0 else (baseF l n l.length).2 ^ 2305843009213693949 % 2305843009213693951) ∧ At w No [Row 22 1 v (u64s (mulP (baseF l n l.length).1 [z]))] w' := by
  obtain rfl := pt_len hR
  have hya := hpl y (List.mem_of_getElem? hy)
  have hn := (List.getElem?_eq_some_iff.1 hy).1
  refine body_in (n := 51) (l := [.slice A l.length c, .int .i64 (n : Int)]) en39 rfl Try.ntmps39 rfl ?_
  have hA := At.refl w
  refine W_seq ?_
  refine W_reg ?_ -- 0 poly.go:83
  refine o_assign (by conv => lhs; whnf) ?_
  refine O_end ?_
  refine W_seq ?_
  refine W_reg ?_ -- 1 poly.go:84
  refine o_buildSlice (cs := [_]) hA Try.underlying25 ti22 rfl rfl rfl rfl rfl (fun a1 w1 hA => ?_)
  refine o_assign (by conv => lhs; whnf) ?_
  refine o_assign (v := .int _ _) rfl ?_
  refine O_end ?_
  refine W_seq ?_
  refine W_seq ?_
  refine W_reg ?_ -- 2 poly.go:85
  refine o_move (by conv => lhs; whnf) ?_
  refine o_len Try.underlying23 rfl ?_
  refine o_move (v := .int _ _) rfl ?_
  refine O_end ?_
  refine W_block ?_ -- 0
  refine W_loop (fun kk ρ w' => ∃ (j : Nat) (OA : Option Addr) (Om Oc : Nat), kk = l.length - j ∧ j ≤ l.length ∧ ρ 14 = .int .i64 (j : Int) ∧ ρ 13 = .int .i64 (l.length : Int) ∧ ρ 12 = .slice A l.length c ∧ ρ 0 = .slice A l.length c ∧ ρ 1 = .int .i64 (n : Int) ∧ ρ 5 = .slice OA Om Oc ∧ ρ 6 = .int .u64 (((baseF l n j).2 : Nat) : Int) ∧ At w No [Row 22 1 (.slice OA Om Oc) (u64s (baseF l n j).1)] w') l.length
    ⟨0, _, _, _, by simp, Nat.zero_le _, rfl, rfl, rfl, rfl, rfl, rfl, rfl, hA⟩ ?_
  clear hA
  rintro kk ρ w1 ⟨j, OA, Om, Oc, rfl, hj, h14, h13, h12, h0, h1, h5, h6, hA⟩
  have hbl := baseF_len l n j
  refine W_known (t := 14) h14 ?_
  refine W_known (t := 13) h13 ?_
  refine W_known (t := 12) h12 ?_
  refine W_known (t := 0) h0 ?_
  refine W_known (t := 1) h1 ?_
  refine W_known (t := 5) h5 ?_
  refine W_known (t := 6) h6 ?_
  refine W_seq ?_
  refine W_reg ?_ -- 3 poly.go:85
  refine o_cmp2 rfl rfl rfl (fun h => ?_) (fun h => ?_)
  · -- True
    have hlt : j < l.length := by have := of_decide_eq_true h; omega
    obtain ⟨x, hx⟩ : ∃ x, l[j]? = some x := ⟨_, List.getElem?_eq_getElem hlt⟩
    have hxa := hpl x (List.mem_of_getElem? hx)
    obtain ⟨g0, o0, rfl⟩ := Rd.some hR (by rw [flatP_len]; omega)
    refine O_end ?_
    refine W_seq ?_
    refine W_then rfl ?_
    refine W_skip ?_
    refine W_seq ?_
    refine W_block ?_ -- 1
    refine W_seq ?_
    refine W_reg ?_ -- 4 poly.go:85
    refine o_move (v := .int _ _) rfl ?_
    refine o_index Try.underlying23 ti33 rfl rfl (by omega) (by omega) ?_
    refine o_loadN ag33 ti33 rfl (cs := ptc x) rfl (pt_cells (hR.old hA) hx) ?_
    refine o_alloc hA ti33 rfl (fun b2 w2 hA => ?_)
    refine o_assign (v := .int _ _) rfl ?_
    refine o_store (cs' := [_, _]) (i := 0) hA rfl (by conv => lhs; whnf) rfl ti33 rfl rfl rfl rfl (fun w3 hA => ?_)
    refine O_end ?_
    refine W_seq ?_
    refine W_reg ?_ -- 5 poly.go:86
    refine o_move (v := .int _ _) rfl ?_
    refine o_move (v := .int _ _) rfl ?_
    refine o_cmp2 rfl rfl rfl (fun h => ?_) (fun h => ?_)
    · -- True
      have hjn : ¬ j = n := by simp at h; omega
      refine O_end ?_
      refine W_then rfl ?_
      refine W_seq ?_
      refine W_reg ?_ -- 6 poly.go:87
      refine o_move (by conv => lhs; whnf) ?_
      refine o_fieldAddr fo33_0 rfl rfl ?_
      refine o_load1 ag3 rfl (hA.c 0 rfl rfl) ?_
      refine o_conv Try.underlying3 Try.underlying22 rfl (conv_place hxa.1 hxa.2) ?_
      refine O_calls en19 rfl (p_Sub (a := 0)) (fun v4 w4 hC => ?_)
      obtain ⟨rfl, hC⟩ := hC
      have hA := (hA.after hC).take
      refine o_buildSlice (cs := [_, _]) hA Try.underlying25 ti22 rfl rfl rfl rfl rfl (fun a5 w5 hA => ?_)
      refine O_calls en38 rfl (l_mul (b := [subP 0 (placeAt l j), 1]) (hA.rd 2 rfl) (by rw [place_at hx]; exact hA.rd 0 rfl) (by omega) (by simp)) (fun v6 w6 hC => ?_)
      obtain ⟨B1, m1, c1, rfl⟩ := (hC.row 0 rfl).slice
      have hA := hA.more hC
      refine o_assign (by conv => lhs; whnf) ?_
      refine O_end ?_
      refine W_drawA hA [5, 8] mix rfl rfl (fun w0_7 hA => ?_) -- 7 poly.go:88
      refine D_take 0 rfl (by kernel_rfl) (by rintro _ _ _ ⟨h, _⟩; cases h) rfl (fun h => by cases h) (fun w hA => r_move (v := .int _ _) rfl) ?_
      refine D_take 1 rfl (by kernel_rfl) (by rintro _ _ _ ⟨h, _⟩; cases h) rfl (fun h => by cases h) (fun w hA => r_move (by conv => lhs; whnf)) ?_
      refine D_take 2 rfl (by kernel_rfl) (by rintro _ _ _ ⟨h, _⟩; cases h) rfl (fun h => by cases h) (fun w hA => r_move (v := .int _ _) rfl) ?_
      refine D_take 3 rfl (by kernel_rfl) (by rintro _ _ _ ⟨h, _⟩; cases h) rfl (fun h => by cases h) (fun w hA => r_index Try.underlying23 ti33 rfl rfl (by omega) (by omega)) ?_
      refine D_take 4 rfl (by kernel_rfl) (by rintro _ _ _ ⟨h, _⟩; cases h) rfl (fun h => by cases h) (fun w hA => r_fieldAddr fo33_0 rfl rfl) ?_
      refine D_take 5 rfl (by kernel_rfl) (by rintro _ _ _ ⟨h, _⟩; cases h) rfl (fun _ => hA) (fun w hA => r_load1 ag3 rfl (pt_cells (hR.old (hA rfl)) hy 0 (.int .i64 y.a) rfl)) ?_
      refine D_take 6 rfl (by kernel_rfl) (by rintro _ _ _ ⟨h, _⟩; cases h) rfl (fun h => by cases h) (fun w hA => r_conv Try.underlying3 Try.underlying22 rfl (conv_place hya.1 hya.2)) ?_
      refine D_take 7 rfl (by kernel_rfl) (by rintro _ _ _ ⟨h, _⟩; cases h) rfl (fun h => by cases h) (fun w hA => r_fieldAddr fo33_0 rfl rfl) ?_
      refine D_take 8 rfl (by kernel_rfl) (by rintro _ _ _ ⟨h, _⟩; cases h) rfl (fun _ => hA) (fun w hA => r_load1 ag3 rfl ((hA rfl).c 2 rfl rfl)) ?_
      refine D_take 9 rfl (by kernel_rfl) (by rintro _ _ _ ⟨h, _⟩; cases h) rfl (fun h => by cases h) (fun w hA => r_conv Try.underlying3 Try.underlying22 rfl (conv_place hxa.1 hxa.2)) ?_
      refine D_run 10 (by kernel_rfl) rfl rfl ?_
      refine O_calls en19 rfl p_Sub (fun v7 w7 hC => ?_)
      obtain ⟨rfl, hC⟩ := hC
      have hA := (hA.after hC).take
      refine O_end ⟨fun _ _ => hA, ?_⟩
      refine D_run 11 (by kernel_rfl) rfl rfl ?_
      refine O_calls en18 rfl p_Mul (fun v8 w8 hC => ?_)
      obtain ⟨rfl, hC⟩ := hC
      have hA := (hA.after hC).take
      refine O_end ⟨fun _ _ => hA, ?_⟩
      refine D_take 12 rfl (by kernel_rfl) (by rintro _ _ _ ⟨h, _⟩; cases h) rfl (fun h => by cases h) (fun w hA => r_assign (v := .int _ _) rfl) ?_
      refine D_done (by kernel_rfl) ?_
      refine W_reg ?_ -- 8 poly.go:85
      refine o_add rfl rfl (w64 (r := ((j + 1 : Nat) : Int)) (by omega) (by omega) (by omega)) ?_
      refine o_move (v := .int _ _) rfl ?_
      refine O_end ?_
      refine ⟨l.length - (j + 1), by omega, j + 1, B1, m1, c1, rfl, by omega, rfl, rfl, rfl, rfl, rfl, rfl, ?_, ?_⟩
      · show _ = Value.int .u64 _
        rw [baseF, if_neg hjn, place_at hx, place_at hy]
        rfl
      · rw [baseF, if_neg hjn]
        exact hA.keep 1
    · -- False
      refine O_end ?_
      refine W_else rfl ?_
      refine W_skip ?_
      refine W_reg ?_ -- 8 poly.go:85
      refine o_add rfl rfl (w64 (r := ((j + 1 : Nat) : Int)) (by omega) (by omega) (by omega)) ?_
      refine o_move (v := .int _ _) rfl ?_
      refine O_end ?_
      have hjn : j = n := by simp at h; omega
      refine ⟨l.length - (j + 1), by omega, j + 1, OA, Om, Oc, rfl, by omega, rfl, rfl, rfl, rfl, rfl, rfl, ?_, ?_⟩
      · rw [baseF, if_pos hjn]
        rfl
      · rw [baseF, if_pos hjn]
        exact hA.drop
  · -- False
    refine O_end ?_
    refine W_seq ?_
    refine W_else rfl ?_
    refine W_exit ?_
    refine xb_hit ?_
    refine W_seq ?_
    refine W_reg ?_ -- 9 poly.go:91
    refine o_move (v := .int _ _) rfl ?_
    refine O_calls en17 rfl p_Inv (fun v9 w9 hC => ?_)
    obtain ⟨hv, hC⟩ := hC
    have hA := (hA.after hC).take
    have hjl : j = l.length := by have := of_decide_eq_false h; omega
    obtain ⟨z, e, rfl, hz⟩ : ∃ (z : Nat) (e : Int), v9 = .tuple #[.int .u64 (z : Int), .int .i64 e] ∧ z = (if (baseF l n j).2 % 2305843009213693951 = 0 then 0 else (baseF l n j).2 ^ 2305843009213693949 % 2305843009213693951) := by
      rw [hv]
      by_cases h0 : (baseF l n j).2 % 2305843009213693951 = 0
      · rw [if_pos h0, if_pos h0]; exact ⟨0, 1, rfl, rfl⟩
      · rw [if_neg h0, if_neg h0]; exact ⟨_, 0, rfl, rfl⟩
    refine o_move (by conv => lhs; whnf) ?_
    refine o_extract rfl rfl ?_
    refine o_extract rfl rfl ?_
    refine o_assign (v := .int _ _) rfl ?_
    refine o_assign (v := .int _ _) rfl ?_
    refine O_end ?_
    refine W_seq ?_
    refine W_reg ?_ -- 10 poly.go:92
    refine o_move (by conv => lhs; whnf) ?_
    refine o_move (v := .int _ _) rfl ?_
    refine o_buildSlice (cs := [_]) hA Try.underlying25 ti22 rfl rfl rfl rfl rfl (fun a10 w10 hA => ?_)
    refine O_calls en38 rfl (l_mul (b := [z]) (hA.rd 1 rfl) (hA.rd 0 rfl) (by omega) (by simp)) (fun v11 w11 hC => ?_)
    obtain ⟨B1, m1, c1, rfl⟩ := (hC.row 0 rfl).slice
    refine o_assign (by conv => lhs; whnf) ?_
    refine O_end ?_
    refine W_ret ?_
    refine ⟨rfl, ?_⟩
    refine ret1 Try.results39 (by conv => lhs; whnf) ?_
    subst hjl
    exact ⟨z, hz, hA.clear.more hC⟩

end Go.Proofs.Ytogpmiodnmigoaa
