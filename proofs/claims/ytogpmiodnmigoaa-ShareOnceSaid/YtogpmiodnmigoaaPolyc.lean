/-
  Package poly: Mul.
-/
import Derived.Test.YtogpmiodnmigoaaPolyb
set_option linter.unusedVariables false
set_option linter.unusedSimpArgs false
namespace Go.Proofs.Ytogpmiodnmigoaa
open Go Go.RowKit

def mulI (out : List Nat) (i x : Nat) (b : List Nat) : Nat → List Nat
  | 0 => out
  | k + 1 => (mulI out i x b k).set (i + k) ((((mulI out i x b k)[i + k]?).getD 0 % 2305843009213693951 + (x % 2305843009213693951) * (((b[k]?).getD 0) % 2305843009213693951) % 2305843009213693951 % 2305843009213693951) % 2305843009213693951)
def mulO (a b : List Nat) : Nat → List Nat
  | 0 => List.replicate (a.length + b.length - 1) 0
  | i + 1 => mulI (mulO a b i) i ((a[i]?).getD 0) b b.length
def mulP (a b : List Nat) : List Nat :=
  if (trimN (a.map (· % 2305843009213693951))).length = 0 ∨ (trimN (b.map (· % 2305843009213693951))).length = 0 then [] else
    trimN ((mulO (trimN (a.map (· % 2305843009213693951))) (trimN (b.map (· % 2305843009213693951))) (trimN (a.map (· % 2305843009213693951))).length).map (· % 2305843009213693951))
theorem mulI_len (out : List Nat) (i x : Nat) (b : List Nat) : ∀ k, (mulI out i x b k).length = out.length
  | 0 => rfl
  | k + 1 => by rw [mulI, List.length_set, mulI_len out i x b k]
theorem mulO_len (a b : List Nat) : ∀ i, (mulO a b i).length = a.length + b.length - 1
  | 0 => by simp [mulO]
  | i + 1 => by rw [mulO, mulI_len, mulO_len a b i]
theorem trimN_len (m : List Nat) : (trimN m).length ≤ m.length := by
  unfold trimN
  rw [List.length_reverse]
  exact Nat.le_trans (List.dropWhile_sublist _).length_le (by simp)
theorem len0 {n : Nat} (h : ((n : Int) == 0) = true) : n = 0 := by have := beq_iff_eq.1 h; omega
theorem len1 {n : Nat} (h : ((n : Int) == 0) = false) : 0 < n := by have := beq_eq_false_iff_ne.1 h; omega
theorem u64s_zero (m : Nat) : List.replicate m (Value.int .u64 0) = u64s (List.replicate m 0) := by simp [u64s]

theorem l_mul {w : World} {D D' : Value} {a b : List Nat} (ha : Rd w 1 D (u64s a)) (hb : Rd w 1 D' (u64s b)) (hla : a.length ≤ 1000) (hlb : b.length ≤ 1000) : Calls Try.prog 38 #[D, D'] w fun e w' => ∃ v, e = .returned v ∧ (At w No [Row 22 1 v (u64s (mulP a b))] w') := by
  obtain ⟨A, m, c, rfl, _⟩ := id ha
  obtain rfl := u64_len ha
  obtain ⟨A', m', c', rfl, _⟩ := id hb
  obtain rfl := u64_len hb
  refine body_in (n := 62) (l := [.slice A a.length c, .slice A' b.length c']) en38 rfl Try.ntmps38 rfl ?_
  have hA := At.refl w
  refine W_seq ?_
  refine W_reg ?_ -- 0 poly.go:45
  refine o_assign (by conv => lhs; whnf) ?_
  refine O_end ?_
  refine W_seq ?_
  refine W_reg ?_ -- 1 poly.go:46
  refine o_move (by conv => lhs; whnf) ?_
  refine O_calls en51 rfl (l_trim ha (by omega)) (fun v1 w1 hC => ?_)
  obtain ⟨AA, Am, Ac, rfl⟩ := (hC.row 0 rfl).slice
  have hA := hC
  refine o_move (by conv => lhs; whnf) ?_
  refine O_calls en51 rfl (l_trim (hb.old hA) (by omega)) (fun v2 w2 hC => ?_)
  obtain ⟨BA, Bm, Bc, rfl⟩ := (hC.row 0 rfl).slice
  have hA := hA.more hC
  have l1 := trimN_len (a.map (· % 2305843009213693951))
  have l2 := trimN_len (b.map (· % 2305843009213693951))
  rw [List.length_map] at l1 l2
  generalize ea : trimN (a.map (· % 2305843009213693951)) = a0 at *
  generalize eb : trimN (b.map (· % 2305843009213693951)) = b0 at *
  obtain rfl := urow_len (hA.row 0 rfl)
  obtain rfl := urow_len (hA.row 1 rfl)
  refine o_assign (by conv => lhs; whnf) ?_
  refine o_assign (by conv => lhs; whnf) ?_
  refine O_end ?_
  refine W_seq ?_
  refine W_seq ?_
  refine W_reg ?_ -- 2 poly.go:47
  refine o_move (by conv => lhs; whnf) ?_
  refine o_len Try.underlying25 rfl ?_
  refine o_cmp2 rfl rfl rfl (fun h => ?_) (fun h => ?_)
  · -- True
    refine o_move (v := .bool _) rfl ?_
    refine O_no rfl rfl rfl rfl ?_
    refine O_no rfl rfl rfl rfl ?_
    refine O_no rfl rfl rfl rfl ?_
    refine o_pick_t rfl (v := .bool _) rfl ?_
    refine O_end ?_
    refine W_then rfl ?_
    refine W_seq ?_
    refine W_reg ?_ -- 3 poly.go:48
    refine o_assign (by conv => lhs; whnf) ?_
    refine O_end ?_
    refine W_ret ?_
    refine ⟨rfl, ?_⟩
    refine ret1 Try.results38 (by conv => lhs; whnf) ?_
    rw [show mulP a b = [] from if_pos (.inl (by rw [ea]; exact len0 h))]
    exact hA.clear.nilRow 22 1 none
  · -- False
    have ha1 : 0 < a0.length := len1 h
    refine o_move (v := .bool _) rfl ?_
    refine O_yes rfl rfl rfl ?_
    refine o_move (by conv => lhs; whnf) ?_
    refine O_yes rfl rfl rfl ?_
    refine o_len Try.underlying25 rfl ?_
    refine O_yes rfl rfl rfl ?_
    refine o_cmp2 rfl rfl rfl (fun h => ?_) (fun h => ?_)
    · -- True
      refine o_pick_f rfl (v := .bool _) rfl ?_
      refine O_end ?_
      refine W_then rfl ?_
      refine W_seq ?_
      refine W_reg ?_ -- 3 poly.go:48
      refine o_assign (by conv => lhs; whnf) ?_
      refine O_end ?_
      refine W_ret ?_
      refine ⟨rfl, ?_⟩
      refine ret1 Try.results38 (by conv => lhs; whnf) ?_
      rw [show mulP a b = [] from if_pos (.inr (by rw [eb]; exact len0 h))]
      exact hA.clear.nilRow 22 1 none
    · -- False
      have hb1 : 0 < b0.length := len1 h
      refine o_pick_f rfl (v := .bool _) rfl ?_
      refine O_end ?_
      refine W_else rfl ?_
      refine W_skip ?_
      refine W_seq ?_
      refine W_reg ?_ -- 4 poly.go:50
      refine o_move (by conv => lhs; whnf) ?_
      refine o_len Try.underlying25 rfl ?_
      refine o_move (by conv => lhs; whnf) ?_
      refine o_len Try.underlying25 rfl ?_
      refine o_add rfl rfl (w64 (r := ((a0.length + b0.length : Nat) : Int)) (by omega) (by omega) (by omega)) ?_
      refine o_sub rfl rfl (w64 (r := ((a0.length + b0.length - 1 : Nat) : Int)) (by omega) (by omega) (by omega)) ?_
      refine o_make hA Try.underlying25 ti22 rfl (by omega) (by simp [maxLen]; omega) (fun a3 w3 hA => ?_)
      rw [show (madeCells (Value.cells (.int .u64 0)) ((a0.length + b0.length - 1) * 1)).toList = u64s (mulO a0 b0 0) from by rw [Nat.mul_one]; exact (made_one _ _).trans (u64s_zero _)] at hA
      refine o_assign (by conv => lhs; whnf) ?_
      refine O_end ?_
      refine W_seq ?_
      refine W_seq ?_
      refine W_reg ?_ -- 5 poly.go:51
      refine o_move (by conv => lhs; whnf) ?_
      refine o_len Try.underlying25 rfl ?_
      refine o_move (v := .int _ _) rfl ?_
      refine O_end ?_
      refine W_block ?_ -- 0
      refine W_loop (fun kk ρ w' => ∃ (i : Nat), kk = a0.length - i ∧ i ≤ a0.length ∧ ρ 31 = .int .i64 (i : Int) ∧ ρ 30 = .int .i64 (a0.length : Int) ∧ ρ 29 = .slice AA a0.length Ac ∧ ρ 1 = .slice BA b0.length Bc ∧ ρ 5 = .slice (some ⟨a3, 0, none⟩) (a0.length + b0.length - 1) (a0.length + b0.length - 1) ∧ At w No [Row 22 1 (.slice (some ⟨a3, 0, none⟩) (a0.length + b0.length - 1) (a0.length + b0.length - 1)) (u64s (mulO a0 b0 i)), Row 22 1 (.slice BA b0.length Bc) (u64s b0), Row 22 1 (.slice AA a0.length Ac) (u64s a0)] w') a0.length
        ⟨0, by simp, Nat.zero_le _, rfl, rfl, rfl, rfl, rfl, hA⟩ ?_
      clear hA h
      rintro kk ρ w1 ⟨i, rfl, hi, h31, h30, h29, h1, h5, hA⟩
      refine W_known (t := 31) h31 ?_
      refine W_known (t := 30) h30 ?_
      refine W_known (t := 29) h29 ?_
      refine W_known (t := 1) h1 ?_
      refine W_known (t := 5) h5 ?_
      refine W_seq ?_
      refine W_reg ?_ -- 6 poly.go:51
      refine o_cmp2 rfl rfl rfl (fun h => ?_) (fun h => ?_)
      · -- True
        have hlt : i < a0.length := by simp at h; omega
        obtain ⟨x, hx⟩ : ∃ x, a0[i]? = some x := ⟨_, List.getElem?_eq_getElem hlt⟩
        obtain ⟨gA, rfl⟩ := row_some (hA.row 2 rfl) (by omega)
        obtain ⟨gB, rfl⟩ := row_some (hA.row 1 rfl) (by omega)
        refine O_end ?_
        refine W_seq ?_
        refine W_then rfl ?_
        refine W_skip ?_
        refine W_seq ?_
        refine W_block ?_ -- 1
        refine W_seq ?_
        refine W_reg ?_ -- 7 poly.go:51
        refine o_move (v := .int _ _) rfl ?_
        refine o_index Try.underlying25 ti22 rfl rfl (by omega) (by omega) ?_
        refine o_load1 ag22 rfl ((hA.rd 2 rfl).cells (j := (i : Int).toNat * 1) (by rw [Nat.mul_one]; exact u64s_get hx)) ?_
        refine o_assign (v := .int _ _) rfl ?_
        refine o_assign (v := .int _ _) rfl ?_
        refine O_end ?_
        refine W_seq ?_
        refine W_reg ?_ -- 8 poly.go:52
        refine o_move (by conv => lhs; whnf) ?_
        refine o_len Try.underlying25 rfl ?_
        refine o_move (v := .int _ _) rfl ?_
        refine O_end ?_
        refine W_block ?_ -- 2
        refine W_loop (fun kk ρ w' => ∃ (k : Nat), kk = b0.length - k ∧ k ≤ b0.length ∧ ρ 38 = .int .i64 (k : Int) ∧ ρ 37 = .int .i64 (b0.length : Int) ∧ ρ 36 = .slice (some ⟨gB, 0, none⟩) b0.length Bc ∧ ρ 6 = .int .i64 (i : Int) ∧ ρ 7 = .int .u64 (x : Int) ∧ ρ 31 = .int .i64 (i : Int) ∧ ρ 30 = .int .i64 (a0.length : Int) ∧ ρ 29 = .slice (some ⟨gA, 0, none⟩) a0.length Ac ∧ ρ 1 = .slice (some ⟨gB, 0, none⟩) b0.length Bc ∧ ρ 5 = .slice (some ⟨a3, 0, none⟩) (a0.length + b0.length - 1) (a0.length + b0.length - 1) ∧ At w No [Row 22 1 (.slice (some ⟨a3, 0, none⟩) (a0.length + b0.length - 1) (a0.length + b0.length - 1)) (u64s (mulI (mulO a0 b0 i) i x b0 k)), Row 22 1 (.slice (some ⟨gB, 0, none⟩) b0.length Bc) (u64s b0), Row 22 1 (.slice (some ⟨gA, 0, none⟩) a0.length Ac) (u64s a0)] w') b0.length
          ⟨0, by simp, Nat.zero_le _, rfl, rfl, rfl, rfl, rfl, rfl, rfl, rfl, rfl, rfl, hA⟩ ?_
        clear hA
        rintro kk ρ w1 ⟨k, rfl, hk, h38, h37, h36, h6, h7, h31, h30, h29, h1, h5, hA⟩
        refine W_known (t := 38) h38 ?_
        refine W_known (t := 37) h37 ?_
        refine W_known (t := 36) h36 ?_
        refine W_known (t := 6) h6 ?_
        refine W_known (t := 7) h7 ?_
        refine W_known (t := 31) h31 ?_
        refine W_known (t := 30) h30 ?_
        refine W_known (t := 29) h29 ?_
        refine W_known (t := 1) h1 ?_
        refine W_known (t := 5) h5 ?_
        refine W_seq ?_
        refine W_reg ?_ -- 9 poly.go:52
        refine o_cmp2 rfl rfl rfl (fun h => ?_) (fun h => ?_)
        · -- True
          have hlk : k < b0.length := by simp at h; omega
          obtain ⟨y, hy⟩ : ∃ y, b0[k]? = some y := ⟨_, List.getElem?_eq_getElem hlk⟩
          have hlen : (mulI (mulO a0 b0 i) i x b0 k).length = a0.length + b0.length - 1 := by rw [mulI_len, mulO_len]
          obtain ⟨z, hz⟩ : ∃ z, (mulI (mulO a0 b0 i) i x b0 k)[i + k]? = some z := ⟨_, List.getElem?_eq_getElem (by omega)⟩
          refine O_end ?_
          refine W_seq ?_
          refine W_then rfl ?_
          refine W_skip ?_
          refine W_seq ?_
          refine W_block ?_ -- 3
          refine W_seq ?_
          refine W_reg ?_ -- 10 poly.go:52
          refine o_move (v := .int _ _) rfl ?_
          refine o_index Try.underlying25 ti22 rfl rfl (by omega) (by omega) ?_
          refine o_load1 ag22 rfl ((hA.rd 1 rfl).cells (j := (k : Int).toNat * 1) (by rw [Nat.mul_one]; exact u64s_get hy)) ?_
          refine o_assign (v := .int _ _) rfl ?_
          refine o_assign (v := .int _ _) rfl ?_
          refine O_end ?_
          refine W_drawA hA [9] mix rfl rfl (fun w0_11 hA => ?_) -- 11 poly.go:53
          refine D_take 0 rfl (by kernel_rfl) (by rintro _ _ _ ⟨h, _⟩; cases h) rfl (fun h => by cases h) (fun w hA => r_move (by conv => lhs; whnf)) ?_
          refine D_take 1 rfl (by kernel_rfl) (by rintro _ _ _ ⟨h, _⟩; cases h) rfl (fun h => by cases h) (fun w hA => r_move (v := .int _ _) rfl) ?_
          refine D_take 2 rfl (by kernel_rfl) (by rintro _ _ _ ⟨h, _⟩; cases h) rfl (fun h => by cases h) (fun w hA => r_move (v := .int _ _) rfl) ?_
          refine D_take 3 rfl (by kernel_rfl) (by rintro _ _ _ ⟨h, _⟩; cases h) rfl (fun h => by cases h) (fun w hA => r_add rfl rfl (w64 (r := ((i + k : Nat) : Int)) (by omega) (by omega) (by omega))) ?_
          refine D_take 4 rfl (by kernel_rfl) (by rintro _ _ _ ⟨h, _⟩; cases h) rfl (fun h => by cases h) (fun w hA => r_move (by conv => lhs; whnf)) ?_
          refine D_take 5 rfl (by kernel_rfl) (by rintro _ _ _ ⟨h, _⟩; cases h) rfl (fun h => by cases h) (fun w hA => r_move (v := .int _ _) rfl) ?_
          refine D_take 6 rfl (by kernel_rfl) (by rintro _ _ _ ⟨h, _⟩; cases h) rfl (fun h => by cases h) (fun w hA => r_move (v := .int _ _) rfl) ?_
          refine D_take 7 rfl (by kernel_rfl) (by rintro _ _ _ ⟨h, _⟩; cases h) rfl (fun h => by cases h) (fun w hA => r_add rfl rfl (w64 (r := ((i + k : Nat) : Int)) (by omega) (by omega) (by omega))) ?_
          refine D_take 8 rfl (by kernel_rfl) (by rintro _ _ _ ⟨h, _⟩; cases h) rfl (fun h => by cases h) (fun w hA => r_index Try.underlying25 ti22 rfl rfl (by omega) (by omega)) ?_
          refine D_take 9 rfl (by kernel_rfl) (by rintro _ _ _ ⟨h, _⟩; cases h) rfl (fun _ => hA) (fun w hA => r_load1 ag22 rfl (((hA rfl).rd 0 rfl).cells (j := ((i + k : Nat) : Int).toNat * 1) (by rw [Nat.mul_one]; exact u64s_get hz))) ?_
          refine D_take 10 rfl (by kernel_rfl) (by rintro _ _ _ ⟨h, _⟩; cases h) rfl (fun h => by cases h) (fun w hA => r_move (v := .int _ _) rfl) ?_
          refine D_take 11 rfl (by kernel_rfl) (by rintro _ _ _ ⟨h, _⟩; cases h) rfl (fun h => by cases h) (fun w hA => r_move (v := .int _ _) rfl) ?_
          refine D_run 12 (by kernel_rfl) rfl rfl ?_
          refine O_calls en18 rfl p_Mul (fun v4 w4 hC => ?_)
          obtain ⟨rfl, hC⟩ := hC
          have hA := (hA.after hC).take
          refine O_end ⟨fun _ _ => hA, ?_⟩
          refine D_run 13 (by kernel_rfl) rfl rfl ?_
          refine O_calls en31 rfl p_Add (fun v5 w5 hC => ?_)
          obtain ⟨rfl, hC⟩ := hC
          have hA := (hA.after hC).take
          refine O_end ⟨fun _ _ => hA, ?_⟩
          refine D_take 14 rfl (by kernel_rfl) (by rintro _ _ _ ⟨h, _⟩; cases h) rfl (fun h => by cases h) (fun w hA => r_index Try.underlying25 ti22 rfl rfl (by omega) (by omega)) ?_
          refine D_run 15 (by kernel_rfl) rfl rfl ?_
          refine o_storeRow (i := 0) (xs' := u64s (mulI (mulO a0 b0 i) i x b0 (k + 1))) hA rfl (by conv => lhs; whnf) rfl ti22 rfl rfl (by rw [u64s_len, hlen]; show 0 + (i + k) * 1 + 1 ≤ _; omega) rfl (by rw [show 0 + ((i + k : Nat) : Int).toNat * 1 = i + k from (by rw [Nat.zero_add, Nat.mul_one]; rfl)]; refine (u64s_put (by rw [hlen]; omega)).trans ?_; rw [mulI, hz, hy]; rfl) (fun w5 hA => ?_)
          refine O_end ⟨(fun h _ => noNeed (by kernel_rfl) h), ?_⟩
          refine D_done (by kernel_rfl) ?_
          refine W_reg ?_ -- 12 poly.go:52
          refine o_add rfl rfl (w64 (r := ((k + 1 : Nat) : Int)) (by omega) (by omega) (by omega)) ?_
          refine o_move (v := .int _ _) rfl ?_
          refine O_end ?_
          exact ⟨b0.length - (k + 1), by omega, k + 1, rfl, by omega, rfl, rfl, rfl, rfl, rfl, rfl, rfl, rfl, rfl, rfl, hA⟩
        · -- False
          refine O_end ?_
          refine W_seq ?_
          refine W_else rfl ?_
          refine W_exit ?_
          refine xb_hit ?_
          refine W_reg ?_ -- 13 poly.go:51
          refine o_add rfl rfl (w64 (r := ((i + 1 : Nat) : Int)) (by omega) (by omega) (by omega)) ?_
          refine o_move (v := .int _ _) rfl ?_
          refine O_end ?_
          have hkb : k = b0.length := by simp at h; omega
          subst hkb
          exact ⟨a0.length - (i + 1), by omega, i + 1, rfl, by omega, rfl, rfl, rfl, rfl, rfl, by rw [mulO, hx]; exact hA⟩
      · -- False
        refine O_end ?_
        refine W_seq ?_
        refine W_else rfl ?_
        refine W_exit ?_
        refine xb_hit ?_
        refine W_seq ?_
        refine W_reg ?_ -- 14 poly.go:56
        refine o_move (by conv => lhs; whnf) ?_
        refine O_calls en51 rfl (l_trim (hA.rd 0 rfl) (by rw [mulO_len]; omega)) (fun v7 w7 hC => ?_)
        obtain ⟨A4, m4, c4, rfl⟩ := (hC.row 0 rfl).slice
        refine o_assign (by conv => lhs; whnf) ?_
        refine O_end ?_
        refine W_ret ?_
        refine ⟨rfl, ?_⟩
        refine ret1 Try.results38 (by conv => lhs; whnf) ?_
        have hia : i = a0.length := by simp at h; omega
        subst hia
        rw [show mulP a b = _ from if_neg (by rw [ea, eb]; omega), ea, eb]
        exact hA.clear.more hC

end Go.Proofs.Ytogpmiodnmigoaa
