/-
  Package offertoryref06: At, Share.
-/
import Derived.Test.YtogpmiodnmigoaaSound
set_option linter.unusedVariables false
set_option linter.unusedSimpArgs false
namespace Go.Proofs.Ytogpmiodnmigoaa
open Go Go.RowKit

/-- A polynomial's value, no remainder taken. -/
def evN : List Nat → Nat → Nat
  | [], _ => 0
  | c :: r, x => c + x * evN r x
theorem evN_snoc (a : List Nat) (c x : Nat) : evN (a ++ [c]) x = evN a x + c * x ^ a.length := by
  induction a with
  | nil => simp [evN]
  | cons d a ih =>
    simp only [List.cons_append, evN, ih, List.length_cons, Nat.mul_add, Nat.pow_succ]
    rw [Nat.mul_left_comm x c, Nat.mul_comm x (x ^ a.length)]
    omega
theorem at_step {E y pw X : Nat} (hp : pw % 2305843009213693951 = X % 2305843009213693951) : ((E % 2305843009213693951) % 2305843009213693951 + ((y % 2305843009213693951) * (pw % 2305843009213693951) % 2305843009213693951) % 2305843009213693951) % 2305843009213693951 = (E + y * X) % 2305843009213693951 := by
  rw [hp, ← Nat.mul_mod, Nat.mod_mod, Nat.mod_mod, ← Nat.add_mod]
theorem pw_step {pw x X : Nat} (hp : pw % 2305843009213693951 = X % 2305843009213693951) : (pw % 2305843009213693951) * (x % 2305843009213693951) % 2305843009213693951 % 2305843009213693951 = X * x % 2305843009213693951 := by
  rw [hp, ← Nat.mul_mod, Nat.mod_mod]

theorem q_at {w : World} {A : Option Addr} {m c x : Nat} {l : List Nat} (hR : Rd w 1 (.slice A m c) (u64s l)) (hl : l.length ≤ 1000000) : Calls Try.prog 22 #[.slice A m c, .int .u64 (x : Int)] w fun e w' => ∃ v, e = .returned v ∧ (v = .int .u64 ((evN l x % 2305843009213693951 : Nat) : Int) ∧ At w No [] w') := by
  obtain rfl := u64_len hR
  refine body_in (n := 26) (l := [.slice A l.length c, .int .u64 (x : Int)]) en22 rfl Try.ntmps22 rfl ?_
  have hA := At.refl w
  refine W_seq ?_
  refine W_reg ?_ -- 0 ref.go:10
  refine o_assign (v := .int _ _) rfl ?_
  refine O_end ?_
  refine W_seq ?_
  refine W_reg ?_ -- 1 ref.go:11
  refine o_assign (v := .int _ _) rfl ?_
  refine o_assign (v := .int _ _) rfl ?_
  refine O_end ?_
  refine W_seq ?_
  refine W_seq ?_
  refine W_reg ?_ -- 2 ref.go:12
  refine o_assign (v := .int _ _) rfl ?_
  refine O_end ?_
  refine W_block ?_ -- 0
  refine W_loop (fun kk ρ w' => ∃ (j pw : Nat), kk = l.length - j ∧ j ≤ l.length ∧ ρ 7 = .int .i64 (j : Int) ∧ ρ 5 = .int .u64 ((evN (l.take j) x % 2305843009213693951 : Nat) : Int) ∧ ρ 6 = .int .u64 (pw : Int) ∧ ρ 0 = .slice A l.length c ∧ ρ 1 = .int .u64 (x : Int) ∧ pw % 2305843009213693951 = x ^ j % 2305843009213693951 ∧ At w No [] w') l.length
    ⟨0, 1, by simp, Nat.zero_le _, rfl, rfl, rfl, rfl, rfl, rfl, hA⟩ ?_
  clear hA
  rintro kk ρ w1 ⟨j, pw, rfl, hj, h7, h5, h6, h0, h1, hp, hA⟩
  refine W_known (t := 7) h7 ?_
  refine W_known (t := 5) h5 ?_
  refine W_known (t := 6) h6 ?_
  refine W_known (t := 0) h0 ?_
  refine W_known (t := 1) h1 ?_
  refine W_seq ?_
  refine W_seq ?_
  refine W_reg ?_ -- 3 ref.go:12
  refine o_move (v := .int _ _) rfl ?_
  refine o_move (by conv => lhs; whnf) ?_
  refine o_len Try.underlying25 rfl ?_
  refine o_cmp2 rfl rfl rfl (fun h => ?_) (fun h => ?_)
  · -- True
    have hlt : j < l.length := by have := of_decide_eq_true h; omega
    obtain ⟨y, hy⟩ : ∃ y, l[j]? = some y := ⟨_, List.getElem?_eq_getElem hlt⟩
    obtain ⟨g0, o0, rfl⟩ := Rd.some hR (by rw [u64s_len]; omega)
    refine O_end ?_
    refine W_then rfl ?_
    refine W_skip ?_
    refine W_seq ?_
    refine W_block ?_ -- 1
    refine W_seq ?_
    refine W_reg ?_ -- 5 ref.go:13
    refine o_move (v := .int _ _) rfl ?_
    refine o_move (by conv => lhs; whnf) ?_
    refine o_move (v := .int _ _) rfl ?_
    refine o_index Try.underlying25 ti22 rfl rfl (by omega) (by omega) ?_
    refine o_load1 ag22 rfl ((hR.old hA).cells (j := (j : Int).toNat * 1) (by rw [Nat.mul_one]; exact u64s_get hy)) ?_
    refine o_move (v := .int _ _) rfl ?_
    refine O_calls en42 rfl q_mul (fun v1 w1 hC => ?_)
    obtain ⟨rfl, hC⟩ := hC
    have hA := (hA.after hC).clear
    refine O_calls en41 rfl q_add (fun v2 w2 hC => ?_)
    obtain ⟨rfl, hC⟩ := hC
    have hA := (hA.after hC).clear
    refine o_assign (v := .int _ _) rfl ?_
    refine O_end ?_
    refine W_reg ?_ -- 6 ref.go:14
    refine o_move (v := .int _ _) rfl ?_
    refine o_move (v := .int _ _) rfl ?_
    refine O_calls en42 rfl q_mul (fun v3 w3 hC => ?_)
    obtain ⟨rfl, hC⟩ := hC
    have hA := (hA.after hC).clear
    refine o_assign (v := .int _ _) rfl ?_
    refine O_end ?_
    refine W_reg ?_ -- 4 ref.go:12
    refine o_move (v := .int _ _) rfl ?_
    refine o_add rfl rfl (w64 (r := ((j + 1 : Nat) : Int)) (by omega) (by omega) (by omega)) ?_
    refine o_assign (v := .int _ _) rfl ?_
    refine O_end ?_
    refine ⟨l.length - (j + 1), by omega, j + 1, _, rfl, by omega, rfl, ?_, rfl, rfl, rfl, by rw [pw_step hp, Nat.pow_succ], hA⟩
    rw [at_step hp, List.take_add_one, hy, Option.toList_some, evN_snoc, List.length_take, Nat.min_eq_left (by omega)]
    rfl
  · -- False
    refine O_end ?_
    refine W_else rfl ?_
    refine W_exit ?_
    refine xb_hit ?_
    refine W_seq ?_
    refine W_reg ?_ -- 7 ref.go:16
    refine o_move (v := .int _ _) rfl ?_
    refine o_assign (v := .int _ _) rfl ?_
    refine O_end ?_
    refine W_ret ?_
    refine ⟨rfl, ?_⟩
    refine ret1 Try.results22 (v := .int _ _) rfl ?_
    have hjl : j = l.length := by have := of_decide_eq_false h; omega
    exact ⟨by rw [hjl, List.take_of_length_le (Nat.le_refl _)], hA⟩

theorem q_share {w : World} {A : Option Addr} {m c s x : Nat} {l : List Nat} (hR : Rd w 1 (.slice A m c) (u64s l)) (hl : l.length ≤ 1000) (hx : x ≤ 1000) : Calls Try.prog 9 #[.int .u64 (s : Int), .slice A m c, .int .i64 ((x : Nat) : Int)] w fun e w' => ∃ v, e = .returned v ∧ (v = .int .u64 ((evN (s :: l) x % 2305843009213693951 : Nat) : Int) ∧ At w No [] w') := by
  refine body_in (n := 14) (l := [.int .u64 (s : Int), .slice A m c, .int .i64 ((x : Nat) : Int)]) en9 rfl Try.ntmps9 rfl ?_
  have hA := At.refl w
  refine W_seq ?_
  refine W_reg ?_ -- 0 ref.go:85
  refine o_assign (v := .int _ _) rfl ?_
  refine O_end ?_
  refine W_seq ?_
  refine W_reg ?_ -- 1 ref.go:86
  refine o_move (v := .int _ _) rfl ?_
  refine o_buildSlice (cs := [_]) hA Try.underlying25 ti22 rfl rfl rfl rfl rfl (fun a1 w1 hA => ?_)
  refine o_move (by conv => lhs; whnf) ?_
  refine o_append (i := 0) hA rfl rfl rfl Try.underlying25 ti22 rfl (by decide) (hR.old hA) (u64s_one l) (fun a k h1 h2 => by rw [u64s_len] at h2; simp only [List.length_cons, List.length_nil] at h1; omega) (fun a k h1 h2 => by rw [u64s_len] at h2; simp only [List.length_cons, List.length_nil] at h1; omega) (fun v2 w2 hA => ?_)
  obtain ⟨A2, m2, c2, rfl⟩ := (hA.row 0 rfl).slice
  refine o_move (v := .int _ _) rfl ?_
  refine o_conv Try.underlying3 Try.underlying22 rfl (u64w (r := x) rfl (by omega)) ?_
  refine O_calls en22 rfl (q_at (l := s :: l) (hA.rd 0 rfl) (by simp; omega)) (fun v3 w3 hC => ?_)
  obtain ⟨rfl, hC⟩ := hC
  have hA := (hA.after hC).clear
  refine o_assign (v := .int _ _) rfl ?_
  refine O_end ?_
  refine W_ret ?_
  refine ⟨rfl, ?_⟩
  refine ret1 Try.results9 (v := .int _ _) rfl ?_
  exact ⟨rfl, hA⟩

end Go.Proofs.Ytogpmiodnmigoaa
