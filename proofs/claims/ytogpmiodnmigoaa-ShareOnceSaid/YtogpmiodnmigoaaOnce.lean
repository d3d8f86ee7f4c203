/-
  ShareOnce answers true.
-/
import Derived.Test.YtogpmiodnmigoaaSharelaw
set_option linter.unusedVariables false
set_option linter.unusedSimpArgs false
namespace Go.Proofs.Ytogpmiodnmigoaa
open Go Go.RowKit

theorem splitE_ok {s : Nat} {e k : Int} {cf : List Nat} (h : splitE s e k cf = 0) : ¬ 2305843009213693951 ≤ s ∧ ∀ y ∈ cf, y < 2305843009213693951 := by
  unfold splitE at h
  split at h
  · cases h
  · split at h
    · cases h
    · rename_i h1 h2
      refine ⟨fun h3 => h2 (.inl h3), fun y hy => ?_⟩
      rcases Nat.lt_or_ge y 2305843009213693951 with h4 | h4
      · exact h4
      · exact absurd (.inr (List.any_eq_true.2 ⟨y, hy, decide_eq_true h4⟩)) h2

theorem l_once {w : World} {A : Option Addr} {m c s wh ot : Nat} {cf0 : List Nat} (hR : Rd w 1 (.slice A m c) (u64s cf0)) (hwh : wh < 256) (hcb : ∀ y ∈ cf0, y < 18446744073709551616) : Calls Try.prog 4 #[.int .u64 (s : Int), .slice A m c, .int .u8 (wh : Int), .int .u64 (ot : Int)] w fun e w' => ∃ v, e = .returned v ∧ (v = .bool true ∧ At w No [] w') := by
  obtain rfl := u64_len hR
  have hlc : cf0.length ≤ c := by obtain ⟨_, _, _, he, _, h, _⟩ := id hR; injection he with _ h1 h2; omega
  refine body_in (n := 93) (l := [.int .u64 (s : Int), .slice A cf0.length c, .int .u8 (wh : Int), .int .u64 (ot : Int)]) en4 rfl Try.ntmps4 rfl ?_
  have hA := At.refl w
  refine W_seq ?_
  refine W_reg ?_ -- 0 law.go:136
  refine o_assign (v := .bool _) rfl ?_
  refine O_end ?_
  refine W_seq ?_
  refine W_seq ?_
  refine W_reg ?_ -- 1 law.go:137
  refine o_move (by conv => lhs; whnf) ?_
  refine o_len Try.underlying25 rfl ?_
  refine o_cmp rfl rfl rfl ?_
  refine O_end ?_
  refine W_cut (fun ρ w' => ∃ (A' : Option Addr) (c' : Nat) (cf : List Nat), cf.length ≤ 6 ∧ ρ 1 = .slice A' cf.length c' ∧ Rd w 1 (.slice A' cf.length c') (u64s cf) ∧ ρ 0 = .int .u64 (s : Int) ∧ ρ 2 = .int .u8 (wh : Int) ∧ ρ 3 = .int .u64 (ot : Int) ∧ At w No [] w') ?_ ?_
  · -- up to the cut
    refine W_if rfl (fun hc => ?_) (fun hc => ?_)
    · -- True
      have q20 := of_decide_eq_true hc
      refine W_reg ?_ -- 2 law.go:138
      refine o_move (by conv => lhs; whnf) ?_
      refine o_slice (h := 6) Try.underlying25 ti22 rfl (.inl ⟨rfl, rfl⟩) (.inr ⟨_, rfl⟩) (.inl ⟨rfl, rfl⟩) (by simp) (Nat.le_refl _) (by omega) (Nat.zero_le _) ?_
      refine o_assign (by conv => lhs; whnf) ?_
      refine O_end ?_
      have h66 : (cf0.take 6).length = 6 := by rw [List.length_take]; omega
      have hcut := hR.cut (l := 0) (h := 6) (mm := c) (Nat.le_refl _) (by omega) (Nat.zero_le _) (by omega)
      rw [Nat.zero_mul, List.drop_zero, Nat.mul_one, Nat.sub_zero, u64s_take] at hcut
      refine ⟨if c = 0 then A else A.map (·.add (0 * 1)), c - 0, cf0.take 6, Nat.le_of_eq h66, ?_, ?_, rfl, rfl, rfl, hA⟩
      · rw [h66]; rfl
      · rw [h66]; exact hcut
    · -- False
      have q20 := of_decide_eq_false hc
      refine W_skip ?_
      exact ⟨_, _, cf0, by omega, rfl, hR, rfl, rfl, rfl, hA⟩
  · -- behind it
    clear hA hR
    rintro ρ w1 ⟨A', c', cf, h6, h1, hR, h0, h2, h3, hA⟩
    refine W_known (t := 1) h1 ?_
    refine W_known (t := 0) h0 ?_
    refine W_known (t := 2) h2 ?_
    refine W_known (t := 3) h3 ?_
    refine W_seq ?_
    refine W_reg ?_ -- 3 law.go:140
    refine o_move (by conv => lhs; whnf) ?_
    refine o_len Try.underlying25 rfl ?_
    refine o_add rfl rfl (w64 (r := ((cf.length + 1 : Nat) : Int)) (by omega) (by omega) (by omega)) ?_
    refine o_assign (v := .int _ _) rfl ?_
    refine O_end ?_
    refine W_seq ?_
    refine W_reg ?_ -- 4 law.go:141
    refine o_move (v := .int _ _) rfl ?_
    refine o_move (v := .int _ _) rfl ?_
    refine o_move (v := .int _ _) rfl ?_
    refine o_add rfl rfl (w64 (r := ((cf.length + 1 + 1 : Nat) : Int)) (by omega) (by omega) (by omega)) ?_
    refine o_move (by conv => lhs; whnf) ?_
    refine O_calls en10 rfl (l_split (hR.old hA) (by omega) (by omega)) (fun v1 w1 hC => ?_)
    obtain ⟨u, rfl, hC⟩ := hC
    obtain ⟨UA, Um, Uc, rfl⟩ := (hC.row 0 rfl).slice
    have hA := hA.more hC
    refine o_move (by conv => lhs; whnf) ?_
    refine o_extract rfl rfl ?_
    refine o_extract rfl rfl ?_
    refine o_assign (by conv => lhs; whnf) ?_
    refine o_assign (v := .int _ _) rfl ?_
    refine O_end ?_
    refine W_seq ?_
    refine W_seq ?_
    refine W_reg ?_ -- 5 law.go:142
    refine O_calls en8 rfl c_awake (fun v2 w2 hC => ?_)
    obtain ⟨rfl, hC⟩ := hC
    have hA := (hA.after hC).tail 0
    refine o_not rfl ?_
    refine o_move (v := .bool _) rfl ?_
    refine O_yes rfl rfl rfl ?_
    refine o_move (v := .int _ _) rfl ?_
    refine O_yes rfl rfl rfl ?_
    refine o_cmp2 rfl rfl rfl (fun h => ?_) (fun h => ?_)
    · -- True
      have q39 := bne_iff_ne.1 h
      refine o_pick_f rfl (v := .bool _) rfl ?_
      refine O_end ?_
      refine W_then rfl ?_
      refine W_seq ?_
      refine W_reg ?_ -- 6 law.go:143
      refine O_calls en8 rfl c_awake (fun v3 w3 hC => ?_)
      obtain ⟨rfl, hC⟩ := hC
      have hA := (hA.after hC).tail 0
      refine o_assign (v := .bool _) rfl ?_
      refine O_end ?_
      refine W_ret ?_
      refine ⟨rfl, ?_⟩
      refine ret1 Try.results4 (v := .bool _) rfl ?_
      exact ⟨rfl, hA.clear⟩
    · -- False
      have q39 := bne_eq_false_iff_eq.1 h
      obtain ⟨hsP, hcP⟩ := splitE_ok q39
      rw [if_pos q39, Int.toNat_natCast] at hA
      obtain rfl := pt_len (hA.rd 0 rfl)
      obtain ⟨ug, rfl⟩ := row_some (hA.row 0 rfl) (by rw [split_len]; omega)
      have hUc := urow_cap' (hA.row 0 rfl)
      rw [split_len] at hUc
      have hsl := split_len s cf (cf.length + 1 + 1)
      refine o_pick_f rfl (v := .bool _) rfl ?_
      refine O_end ?_
      refine W_else rfl ?_
      refine W_skip ?_
      refine W_seq ?_
      refine W_reg ?_ -- 7 law.go:145
      refine o_move (v := .int _ _) rfl ?_
      refine o_move (v := .int _ _) rfl ?_
      refine o_move (by conv => lhs; whnf) ?_
      refine o_move (v := .int _ _) rfl ?_
      refine o_sub rfl rfl (w64 (r := ((cf.length : Nat) : Int)) (by omega) (by omega) (by omega)) ?_
      refine o_slice Try.underlying23 ti33 rfl (.inl ⟨rfl, rfl⟩) (.inr ⟨_, rfl⟩) (.inl ⟨rfl, rfl⟩) (by simp) (Nat.le_refl _) (by omega) (Nat.zero_le _) ?_
      refine O_calls en6 rfl (l_other (s := s) (e := ((cf.length + 1 : Nat) : Int)) (l := splitL s cf cf.length) (by have := (hA.rd 0 rfl).cut (l := 0) (h := cf.length) (mm := Uc) (Nat.le_refl _) (by omega) (Nat.zero_le _) (by omega); rw [flatP_take _ cf.length (by rw [split_len]; omega), split_take s cf (by omega)] at this; exact this) (by omega) (by omega)) (fun v4 w4 hC => ?_)
      obtain ⟨u, rfl, hC⟩ := hC
      have hEo : otherE s ((cf.length + 1 : Nat) : Int) (splitL s cf cf.length) = 0 := by
        unfold otherE
        rw [split_len, if_neg (by omega), if_neg hsP]
        split
        · rfl
        · exact rising_sound (rising_split s cf _) (by rw [split_len]; assumption) (by rw [split_len]; omega)
      rw [once_coeffs hcP hEo (by omega)] at hC
      obtain ⟨VA, Vm, Vc, rfl⟩ := (hC.row 0 rfl).slice
      obtain rfl := u64_len (hC.rd 0 rfl)
      have hA := hA.more hC
      obtain ⟨k, hk⟩ : ∃ k, k = wh % (cf.length + 1 + 1) := ⟨_, rfl⟩
      have hkl : k < cf.length + 1 + 1 := by rw [hk]; exact Nat.mod_lt _ (by omega)
      refine o_move (by conv => lhs; whnf) ?_
      refine o_extract rfl rfl ?_
      refine o_extract rfl rfl ?_
      refine o_assign (by conv => lhs; whnf) ?_
      refine o_assign (v := .int _ _) rfl ?_
      refine O_end ?_
      refine W_seq ?_
      refine W_reg ?_ -- 8 law.go:146
      refine o_move (v := .int _ _) rfl ?_
      refine o_conv Try.underlying5 Try.underlying3 rfl (w64 (r := ((wh : Nat) : Int)) (by omega) (by omega) (by omega)) ?_
      refine o_move (v := .int _ _) rfl ?_
      refine o_add rfl rfl (w64 (r := ((cf.length + 1 + 1 : Nat) : Int)) (by omega) (by omega) (by omega)) ?_
      refine o_rem rfl rfl (by first | decide | omega) (r := (k : Int)) (by rw [hk]; rfl) ?_
      refine o_assign (v := .int _ _) rfl ?_
      refine O_end ?_
      refine W_seq ?_
      refine W_reg ?_ -- 9 law.go:147
      refine o_move (by conv => lhs; whnf) ?_
      refine o_move (v := .int _ _) rfl ?_
      refine o_index Try.underlying23 ti33 rfl rfl (by omega) (by omega) ?_
      refine o_fieldAddr fo33_1 rfl rfl ?_
      refine o_load1 ag22 rfl ((hA.rd 1 rfl).cells (j := (k : Int).toNat * 2 + 1) (flatP_cell (j := 1) (split_at s cf hkl) rfl)) ?_
      refine o_assign (v := .int _ _) rfl ?_
      refine O_end ?_
      refine W_seq ?_
      refine W_reg ?_ -- 10 law.go:148
      refine o_move (by conv => lhs; whnf) ?_
      refine o_move (v := .int _ _) rfl ?_
      refine o_move (v := .int _ _) rfl ?_
      refine O_calls en11 rfl q_mod (fun v5 w5 hC => ?_)
      obtain ⟨rfl, hC⟩ := hC
      have hA := (hA.after hC).tail 0
      refine o_index Try.underlying23 ti33 rfl rfl (by omega) (by omega) ?_
      refine o_fieldAddr fo33_1 rfl rfl ?_
      have hst : (flatP (splitL s cf (cf.length + 1 + 1))).take (k * 2 + 1) ++ [Value.int .u64 ((ot % 2305843009213693951 : Nat) : Int)] ++ (flatP (splitL s cf (cf.length + 1 + 1))).drop (k * 2 + 1 + 1) = flatP ((splitL s cf (cf.length + 1 + 1)).set k ⟨((k + 1 : Nat) : Int), ot % 2305843009213693951⟩) := by
        rw [← flatP_put (by rw [split_len]; omega)]
        exact flatP_val (split_at s cf (by omega)) _
      refine o_storeRow (i := 1) (xs' := flatP ((splitL s cf (cf.length + 1 + 1)).set k ⟨((k + 1 : Nat) : Int), ot % 2305843009213693951⟩)) hA rfl rfl rfl ti22 rfl rfl (by rw [flatP_len, split_len]; simp only [Int.toNat_natCast]; omega) rfl (by rw [Nat.zero_add, Int.toNat_natCast]; exact hst) (fun w9 hA => ?_)
      refine O_end ?_
      refine W_seq ?_
      refine W_reg ?_ -- 11 law.go:149
      refine o_move (v := .int _ _) rfl ?_
      refine o_move (by conv => lhs; whnf) ?_
      refine O_calls en12 rfl (l_fits (e := ((cf.length + 1 : Nat) : Int)) (l := (splitL s cf (cf.length + 1 + 1)).set k ⟨((k + 1 : Nat) : Int), ot % 2305843009213693951⟩) (hA.rd 1 rfl) (by rw [List.length_set, split_len]; omega)) (fun v7 w7 hC => ?_)
      rw [once_fits (by omega) (by omega) (Nat.mod_lt _ (by decide))] at hC
      obtain ⟨rfl, hC⟩ := hC
      have hA := (hA.after hC).tail 0
      refine o_move (by conv => lhs; whnf) ?_
      refine o_extract rfl rfl ?_
      refine o_extract rfl rfl ?_
      refine o_assign (v := .bool _) rfl ?_
      refine o_assign (v := .int _ _) rfl ?_
      refine O_end ?_
      refine W_seq ?_
      refine W_reg ?_ -- 12 law.go:150
      refine o_move (v := .int _ _) rfl ?_
      refine o_cmp2 rfl rfl rfl (fun h => ?_) (fun h => (absurd hEo (beq_eq_false_iff_ne.1 h)))
      have q75 := beq_iff_eq.1 h
      refine o_move (v := .bool _) rfl ?_
      refine O_yes rfl rfl rfl ?_
      refine o_move (by conv => lhs; whnf) ?_
      refine O_yes rfl rfl rfl ?_
      refine o_move (by conv => lhs; whnf) ?_
      refine O_yes rfl rfl rfl ?_
      refine O_calls en13 rfl (q_same (hA.rd 0 rfl) (hR.old hA) (by omega)) (fun v8 w8 hC => ?_)
      rw [decide_eq_true rfl] at hC
      obtain ⟨rfl, hC⟩ := hC
      have hA := (hA.after hC).tail 0
      refine o_pick_t rfl (v := .bool _) rfl ?_
      refine o_move (v := .bool _) rfl ?_
      refine O_yes rfl rfl rfl ?_
      refine o_move (v := .int _ _) rfl ?_
      refine O_yes rfl rfl rfl ?_
      refine o_cmp2 rfl rfl rfl (fun h => ?_) (fun h => (by first | exact absurd h (by decide) | (exfalso; simp at h; omega) | (exfalso; simp at h)))
      have q83 := beq_iff_eq.1 h
      refine o_pick_t rfl (v := .bool _) rfl ?_
      refine o_move (v := .bool _) rfl ?_
      refine O_yes rfl rfl rfl ?_
      refine o_move (v := .bool _) rfl ?_
      refine O_yes rfl rfl rfl ?_
      refine o_move (v := .int _ _) rfl ?_
      refine O_yes rfl rfl rfl ?_
      refine o_move (v := .int _ _) rfl ?_
      refine O_yes rfl rfl rfl ?_
      refine O_calls en11 rfl q_mod (fun v9 w9 hC => ?_)
      obtain ⟨rfl, hC⟩ := hC
      have hA := (hA.after hC).tail 0
      refine O_yes rfl rfl rfl ?_
      refine o_cmp rfl rfl rfl ?_
      refine O_yes rfl rfl rfl ?_
      refine o_eqb Try.underlying4 rfl rfl (.inl ⟨rfl, rfl⟩) ?_
      refine o_pick_t rfl (v := .bool _) rfl ?_
      refine o_assign (v := .bool _) rfl ?_
      refine O_end ?_
      refine W_ret ?_
      refine ⟨rfl, ?_⟩
      refine ret1 Try.results4 (v := .bool _) rfl ?_
      refine ⟨?_, hA.clear⟩
      show Value.bool _ = _
      rw [Int.toNat_natCast]
      congr 1
      rw [beq_iff_eq, Bool.eq_iff_iff, beq_iff_eq, beq_iff_eq]
      omega

end Go.Proofs.Ytogpmiodnmigoaa
