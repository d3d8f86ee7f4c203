/-
  Package poly: Add.
-/
import Derived.Test.YtogpmiodnmigoaaPoly
set_option linter.unusedVariables false
set_option linter.unusedSimpArgs false
namespace Go.Proofs.Ytogpmiodnmigoaa
open Go Go.RowKit

/-- The longer one, with the other added in front. -/
def addN (a b : List Nat) : List Nat := List.zipWith (fun x y => (x % 2305843009213693951 + y % 2305843009213693951) % 2305843009213693951) a b ++ a.drop b.length
def addP (a b : List Nat) : List Nat := trimN ((if a.length < b.length then addN b a else addN a b).map (· % 2305843009213693951))
theorem addN_step {a b : List Nat} {j x y : Nat} (hx : a[j]? = some x) (hy : b[j]? = some y) : (addN a (b.take j)).set j ((x % 2305843009213693951 + y % 2305843009213693951) % 2305843009213693951) = addN a (b.take (j + 1)) := by
  have hj := (List.getElem?_eq_some_iff.1 hx).1
  have hj2 := (List.getElem?_eq_some_iff.1 hy).1
  refine List.ext_getElem? fun i => ?_
  unfold addN
  have l1 : (b.take j).length = j := by rw [List.length_take]; omega
  have l2 : (b.take (j + 1)).length = j + 1 := by rw [List.length_take]; omega
  rw [l1, l2, List.getElem?_set, List.getElem?_append, List.getElem?_append]
  simp only [List.length_zipWith, List.length_append, List.length_drop, l1, l2]
  have m1 : min a.length j = j := by omega
  have m2 : min a.length (j + 1) = j + 1 := by omega
  rw [m1, m2]
  by_cases h1 : j = i
  · subst h1
    rw [if_pos rfl, if_pos (by omega), if_pos (by omega)]
    rw [List.getElem?_zipWith, hx, List.getElem?_take, if_pos (by omega), hy]
  · rw [if_neg h1]
    by_cases h2 : i < j
    · rw [if_pos h2, if_pos (by omega)]
      simp only [List.getElem?_zipWith, List.getElem?_take]
      rw [if_pos h2, if_pos (by omega)]
    · rw [if_neg h2, if_neg (by omega)]
      rw [List.getElem?_drop, List.getElem?_drop]
      congr 1
      omega
theorem addN_zero (a : List Nat) : addN a [] = a := by simp [addN]
theorem addN_len {a b : List Nat} (h : b.length ≤ a.length) : (addN a b).length = a.length := by simp [addN]; omega
theorem addN_at {a b : List Nat} {j x : Nat} (hj : j ≤ b.length) (hx : a[j]? = some x) : (addN a (b.take j))[j]? = some x := by
  have h := (List.getElem?_eq_some_iff.1 hx).1
  unfold addN
  have l1 : (b.take j).length = j := by rw [List.length_take]; omega
  rw [List.getElem?_append, l1]
  simp only [List.length_zipWith, l1]
  rw [if_neg (by omega), List.getElem?_drop, ← hx]
  congr 1
  omega
theorem u64s_put {l : List Nat} {i r : Nat} (hi : i < l.length) : (u64s l).take i ++ [.int .u64 (r : Int)] ++ (u64s l).drop (i + 1) = u64s (l.set i r) := by
  have h : i < (u64s l).length := by rw [u64s_len]; exact hi
  have : (u64s l).take i ++ [Value.int .u64 (r : Int)] ++ (u64s l).drop (i + 1) = (u64s l).set i (.int .u64 (r : Int)) := by
    rw [List.set_eq_take_append_cons_drop, if_pos h]; simp
  rw [this]
  unfold u64s
  rw [List.map_set]

theorem l_add {w : World} {D D' : Value} {a b : List Nat} (ha : Rd w 1 D (u64s a)) (hb : Rd w 1 D' (u64s b)) (hla : a.length ≤ 1000000) (hlb : b.length ≤ 1000000) : Calls Try.prog 37 #[D, D'] w fun e w' => ∃ v, e = .returned v ∧ (At w No [Row 22 1 v (u64s (addP a b))] w') := by
  obtain ⟨A, m, c, rfl, _⟩ := id ha
  obtain rfl := u64_len ha
  obtain ⟨A', m', c', rfl, _⟩ := id hb
  obtain rfl := u64_len hb
  refine body_in (n := 36) (l := [.slice A a.length c, .slice A' b.length c']) en37 rfl Try.ntmps37 rfl ?_
  have hA := At.refl w
  refine W_seq ?_
  refine W_reg ?_ -- 0 poly.go:33
  refine o_assign (by conv => lhs; whnf) ?_
  refine O_end ?_
  refine W_seq ?_
  refine W_seq ?_
  refine W_reg ?_ -- 1 poly.go:34
  refine o_move (by conv => lhs; whnf) ?_
  refine o_len Try.underlying25 rfl ?_
  refine o_move (by conv => lhs; whnf) ?_
  refine o_len Try.underlying25 rfl ?_
  refine o_cmp rfl rfl rfl ?_
  refine O_end ?_
  refine W_cut (fun ρ' w' => ∃ (a' b' : List Nat) (A1 A2 : Option Addr) (c1 c2 : Nat), ρ' 0 = .slice A1 a'.length c1 ∧ ρ' 1 = .slice A2 b'.length c2 ∧ Rd w 1 (.slice A1 a'.length c1) (u64s a') ∧ Rd w 1 (.slice A2 b'.length c2) (u64s b') ∧ b'.length ≤ a'.length ∧ a'.length ≤ 1000000 ∧
    addP a b = trimN ((addN a' b').map (· % 2305843009213693951)) ∧ w = w') ?_ ?_
  · -- up to the cut
    refine W_if rfl (fun hc => ?_) (fun hc => ?_)
    ·
      refine W_reg ?_ -- 2 poly.go:35
      refine o_move (by conv => lhs; whnf) ?_
      refine o_move (by conv => lhs; whnf) ?_
      refine o_assign (by conv => lhs; whnf) ?_
      refine o_assign (by conv => lhs; whnf) ?_
      refine O_end ?_
      exact ⟨b, a, _, _, _, _, rfl, rfl, hb, ha, by simp at hc; omega, by omega, by rw [addP, if_pos (by simp at hc; omega)], rfl⟩
    ·
      refine W_skip ?_
      exact ⟨a, b, _, _, _, _, rfl, rfl, ha, hb, by simp at hc; omega, by omega, by rw [addP, if_neg (by simp at hc; omega)], rfl⟩
  · -- behind it
    rintro ρ _ ⟨a', b', A1, A2, c1, c2, h0, h1, ha', hb', hle, hla', hadd, rfl⟩
    refine W_known (t := 0) h0 ?_
    refine W_known (t := 1) h1 ?_
    refine W_seq ?_
    refine W_reg ?_ -- 3 poly.go:37
    refine o_move (by conv => lhs; whnf) ?_
    refine O_calls en50 rfl (s_clone ha' hla') (fun v1 w1 hC => ?_)
    obtain ⟨A3, m3, c3, rfl⟩ := (hC.row 0 rfl).slice
    obtain rfl := urow_len (hC.row 0 rfl)
    have hA := hC
    refine o_assign (by conv => lhs; whnf) ?_
    refine O_end ?_
    refine W_seq ?_
    refine W_seq ?_
    refine W_reg ?_ -- 4 poly.go:38
    refine o_move (by conv => lhs; whnf) ?_
    refine o_len Try.underlying25 rfl ?_
    refine o_move (v := .int _ _) rfl ?_
    refine O_end ?_
    refine W_block ?_ -- 0
    refine W_loop (fun kk ρ w' => ∃ (j : Nat), kk = b'.length - j ∧ j ≤ b'.length ∧ ρ 19 = .int .i64 (j : Int) ∧ ρ 18 = .int .i64 (b'.length : Int) ∧ ρ 17 = .slice A2 b'.length c2 ∧ ρ 5 = .slice A3 a'.length c3 ∧ At w No [Row 22 1 (.slice A3 a'.length c3) (u64s (addN a' (b'.take j)))] w') b'.length
      ⟨0, by simp, Nat.zero_le _, rfl, rfl, rfl, rfl, by rw [List.take_zero, addN_zero]; exact hA⟩ ?_
    clear hA
    rintro kk ρ w1 ⟨j, rfl, hj, h19, h18, h17, h5, hA⟩
    refine W_known (t := 19) h19 ?_
    refine W_known (t := 18) h18 ?_
    refine W_known (t := 17) h17 ?_
    refine W_known (t := 5) h5 ?_
    refine W_seq ?_
    refine W_reg ?_ -- 5 poly.go:38
    refine o_cmp2 rfl rfl rfl (fun h => ?_) (fun h => ?_)
    · -- True
      have hlt : j < b'.length := by simp at h; omega
      have hlen : (addN a' (b'.take j)).length = a'.length := addN_len (by rw [List.length_take]; omega)
      obtain ⟨y, hy⟩ : ∃ y, b'[j]? = some y := ⟨_, List.getElem?_eq_getElem hlt⟩
      obtain ⟨x, hx⟩ : ∃ x, a'[j]? = some x := ⟨_, List.getElem?_eq_getElem (by omega)⟩
      obtain ⟨g2, o2, rfl⟩ := Rd.some hb' (by rw [u64s_len]; omega)
      obtain ⟨g3, rfl⟩ := row_some (hA.row 0 rfl) (by omega)
      refine O_end ?_
      refine W_seq ?_
      refine W_then rfl ?_
      refine W_skip ?_
      refine W_seq ?_
      refine W_block ?_ -- 1
      refine W_seq ?_
      refine W_reg ?_ -- 6 poly.go:38
      refine o_move (v := .int _ _) rfl ?_
      refine o_index Try.underlying25 ti22 rfl rfl (by omega) (by omega) ?_
      refine o_load1 ag22 rfl ((hb'.old hA).cells (j := (j : Int).toNat * 1) (by rw [Nat.mul_one]; exact u64s_get hy)) ?_
      refine o_assign (v := .int _ _) rfl ?_
      refine o_assign (v := .int _ _) rfl ?_
      refine O_end ?_
      refine W_reg ?_ -- 7 poly.go:39
      refine o_move (by conv => lhs; whnf) ?_
      refine o_move (v := .int _ _) rfl ?_
      refine o_move (by conv => lhs; whnf) ?_
      refine o_move (v := .int _ _) rfl ?_
      refine o_index Try.underlying25 ti22 rfl rfl (by omega) (by omega) ?_
      refine o_load1 ag22 rfl ((hA.rd 0 rfl).cells (j := (j : Int).toNat * 1) (by rw [Nat.mul_one]; exact u64s_get (addN_at hj hx))) ?_
      refine o_move (v := .int _ _) rfl ?_
      refine O_calls en31 rfl p_Add (fun v2 w2 hC => ?_)
      obtain ⟨rfl, hC⟩ := hC
      have hA := (hA.after hC).take
      refine o_index Try.underlying25 ti22 rfl rfl (by omega) (by omega) ?_
      refine o_storeRow (i := 0) (xs' := u64s (addN a' (b'.take (j + 1)))) hA rfl (by conv => lhs; whnf) rfl ti22 rfl rfl (by rw [u64s_len, hlen]; show 0 + j * 1 + 1 ≤ a'.length; omega) rfl (by rw [show 0 + (j : Int).toNat * 1 = j from (by rw [Nat.zero_add, Nat.mul_one]; rfl)]; exact (u64s_put (by rw [hlen]; omega)).trans (congrArg u64s (addN_step hx hy))) (fun w2 hA => ?_)
      refine O_end ?_
      refine W_reg ?_ -- 8 poly.go:38
      refine o_add rfl rfl (w64 (r := ((j + 1 : Nat) : Int)) (by omega) (by omega) (by omega)) ?_
      refine o_move (v := .int _ _) rfl ?_
      refine O_end ?_
      exact ⟨b'.length - (j + 1), by omega, j + 1, rfl, by omega, rfl, rfl, rfl, rfl, hA⟩
    · -- False
      have hlen : (addN a' (b'.take j)).length = a'.length := addN_len (by rw [List.length_take]; omega)
      refine O_end ?_
      refine W_seq ?_
      refine W_else rfl ?_
      refine W_exit ?_
      refine xb_hit ?_
      refine W_seq ?_
      refine W_reg ?_ -- 9 poly.go:41
      refine o_move (by conv => lhs; whnf) ?_
      refine O_calls en51 rfl (l_trim (hA.rd 0 rfl) (by rw [hlen]; exact hla')) (fun v4 w4 hC => ?_)
      obtain ⟨A4, m4, c4, rfl⟩ := (hC.row 0 rfl).slice
      refine o_assign (by conv => lhs; whnf) ?_
      refine O_end ?_
      refine W_ret ?_
      refine ⟨rfl, ?_⟩
      refine ret1 Try.results37 (by conv => lhs; whnf) ?_
      have hjb : j = b'.length := by simp at h; omega
      rw [hjb, List.take_of_length_le (Nat.le_refl _), ← hadd] at hC
      exact (hA.clear).more hC

end Go.Proofs.Ytogpmiodnmigoaa
