/-
  Package letter: an Eye's bytes.
-/
import Derived.Test.YtbcaooiphalkoaaSeal
set_option linter.unusedVariables false
set_option linter.unusedSimpArgs false
namespace Go.Proofs.Ytbcaooiphalkoaa
open Go Go.RowKit

/-- What is left of some fields, and what was wrong. -/
structure Es where
  s : List UInt8
  e : Nat
def Es.tk (t : Es) (n : Nat) : List UInt8 := if t.e = 0 ∧ n ≤ t.s.length then t.s.take n else []
def Es.nx (t : Es) (n : Nat) : Es := if t.e = 0 then (if n ≤ t.s.length then ⟨t.s.drop n, 0⟩ else ⟨t.s, 3⟩) else t
/-- Bytes as a number, the lowest first. -/
def leV : List UInt8 → Nat
  | [] => 0
  | c :: l => c.toNat + 256 * leV l
theorem leV_snoc (l : List UInt8) (c : UInt8) : leV (l ++ [c]) = leV l + 2 ^ (8 * l.length) * c.toNat := by
  induction l with
  | nil => simp [leV]
  | cons d l ih =>
    simp only [List.cons_append, leV, ih, List.length_cons]
    rw [show 8 * (l.length + 1) = 8 * l.length + 8 by omega, Nat.pow_add, Nat.mul_add, ← Nat.mul_assoc, Nat.mul_comm 256 (2 ^ (8 * l.length)), Nat.add_assoc]
theorem leV_lt (l : List UInt8) : leV l < 2 ^ (8 * l.length) := by
  induction l with
  | nil => simp [leV]
  | cons d l ih =>
    have := d.toNat_lt
    simp only [leV, List.length_cons]
    rw [show 8 * (l.length + 1) = 8 * l.length + 8 by omega, Nat.pow_add]
    omega
theorem Es.tk_len (t : Es) (n : Nat) : (t.tk n).length ≤ n := by unfold Es.tk; split <;> simp; omega
theorem Es.tk_len' (t : Es) (n : Nat) : (t.tk n).length ≤ t.s.length := by unfold Es.tk; split <;> simp; omega
theorem Es.nx_len (t : Es) (n : Nat) : (t.nx n).s.length ≤ t.s.length := by
  unfold Es.nx; split
  · split
    · simp
    · exact Nat.le_refl _
  · exact Nat.le_refl _
/-- The slice v reads as the bytes s, and lies in the block g. -/
structure Src (w : World) (g : Nat) (v : Value) (s : List UInt8) : Prop where
  rd : Rd w 1 v (u8l s)
  blk : ∀ x, InBlk v x → x = g
theorem Src.at_ {w0 w : World} {M : Nat → Prop} {F : List Ch} {g : Nat} {v : Value} {s : List UInt8} (h : Src w0 g v s) (k : At w0 M F w) (hM : ¬ M g) : Src w g v s := ⟨h.rd.at_ k fun b hb => by rw [h.blk b hb]; exact hM, h.blk⟩
theorem Src.nil (w : World) (g : Nat) : Src w g (.slice none 0 0) [] := ⟨IsRow.rd (IsRow.nil w 0 1 none), fun x ⟨_, _, _, h, _⟩ => by cases h⟩
theorem Src.head {w : World} {g m c n : Nat} {A : Option Addr} {s : List UInt8} (h : Src w g (.slice A m c) s) (hn : n ≤ m) : Src w g (.slice (if n = 0 then A else A.map (·.add (0 * 1))) (n - 0) (n - 0)) (s.take n) := by
  have hc := h.rd.capm.1
  have hr := h.rd.cut (l := 0) (h := n) (mm := n) (by omega) (Nat.le_refl _) (Nat.zero_le _) hn
  refine ⟨?_, fun x hx => h.blk x (cut_blk (s := 1) (by omega) (Nat.zero_le _) hx)⟩
  have : List.take ((n - 0) * 1) (List.drop (0 * 1) (u8l s)) = u8l (s.take n) := by simp [u8l, List.map_take]
  rw [← this]; exact hr
theorem Src.tail {w : World} {g m c n : Nat} {A : Option Addr} {s : List UInt8} (h : Src w g (.slice A m c) s) (hn : n ≤ m) : Src w g (.slice (if c = n then A else A.map (·.add (n * 1))) (m - n) (c - n)) (s.drop n) := by
  have hc := h.rd.capm.1
  have hm := u8l_rd h.rd
  have hr := h.rd.cut (l := n) (h := m) (mm := c) (Nat.le_refl _) hc hn (Nat.le_refl _)
  refine ⟨?_, fun x hx => h.blk x (cut_blk (s := 1) (Nat.le_refl _) (by omega) hx)⟩
  have : List.take ((m - n) * 1) (List.drop (n * 1) (u8l s)) = u8l (s.drop n) := by
    rw [Nat.mul_one, Nat.mul_one, List.take_of_length_le (by rw [List.length_drop, u8l_len]; omega)]; simp [u8l, List.map_drop]
  rw [← this]; exact hr
/-- Wherever v reads as s, v' reads as s'. -/
def Der (g : Nat) (v : Value) (s : List UInt8) (v' : Value) (s' : List UInt8) : Prop := ∀ u, Src u g v s → Src u g v' s'
theorem Der.refl (g : Nat) (v : Value) (s : List UInt8) : Der g v s v s := fun _ h => h
theorem Der.trans {g : Nat} {v v' v'' : Value} {s s' s'' : List UInt8} (h : Der g v s v' s') (k : Der g v' s' v'' s'') : Der g v s v'' s'' := fun u q => k u (h u q)
/-- An Eye. -/
def EyeC (be : Nat) (v : Value) (e : Nat) : Ch := Cell be 100 [v, .int .i64 (e : Int)]
theorem EyeC_S {be : Nat} {v : Value} {e g : Nat} (h : g ≠ be) : ¬ SS [EyeC be v e] g := by
  rintro ⟨c, hc, hs⟩
  rw [List.mem_singleton] at hc; subst hc
  exact h hs

theorem e_take {w : World} {A : Option Addr} {be m c g : Nat} {t : Es} (hP : At w (SS [EyeC be (.slice A m c) t.e]) [EyeC be (.slice A m c) t.e] w) (hS : Src w g (.slice A m c) t.s) (hg : g ≠ be) (n : Nat) : Calls Try.prog 72 #[.pointer (some ⟨be, 0, none⟩), .int .i64 (n : Int)] w fun e w' => ∃ v, e = .returned v ∧ ∃ (B : Option Addr) (k d : Nat), v = .slice B k d ∧ ∃ (A' : Option Addr) (m' c' : Nat), At w (SS [EyeC be (.slice A m c) t.e]) [EyeC be (.slice A' m' c') (t.nx n).e] w' ∧ Der g (.slice A m c) t.s (.slice A' m' c') (t.nx n).s ∧ Src w' g (.slice B k d) (t.tk n) := by
  refine body_in (n := 42) (l := [.pointer (some ⟨be, 0, none⟩), .int .i64 (n : Int)]) en72 rfl Try.ntmps72 rfl ?_
  have hA := hP
  obtain rfl : m = t.s.length := u8l_rd hS.rd
  have hcap := hS.rd.capm.1
  refine W_seq ?_
  refine W_reg ?_ -- 0 letter.go:114
  refine o_assign (by conv => lhs; whnf) ?_
  refine O_end ?_
  refine W_seq ?_
  refine W_seq ?_
  refine W_reg ?_ -- 1 letter.go:115
  refine o_move (v := .pointer _) rfl ?_
  refine o_eqnil2 Try.underlying66 rfl rfl (.inl ⟨rfl, rfl⟩) (fun h => (by first | exact absurd h (by decide) | (exfalso; simp at h; omega) | (exfalso; simp at h))) (fun h => ?_)
  have q7 := h
  refine o_move (v := .bool _) rfl ?_
  refine O_yes rfl rfl rfl ?_
  refine o_move (v := .pointer _) rfl ?_
  refine O_yes rfl rfl rfl ?_
  refine o_nilCheck rfl ?_
  refine O_yes rfl rfl rfl ?_
  refine o_fieldAddr fo100_1 rfl rfl ?_
  refine O_yes rfl rfl rfl ?_
  refine o_load1 ag22 rfl (hA.c 0 rfl rfl) ?_
  refine O_yes rfl rfl rfl ?_
  refine o_cmp2 rfl rfl rfl (fun h => ?_) (fun h => ?_)
  · -- True
    have q13 := bne_iff_ne.1 h
    refine o_pick_f rfl (v := .bool _) rfl ?_
    refine O_end ?_
    refine W_then rfl ?_
    refine W_seq ?_
    refine W_reg ?_ -- 2 letter.go:116
    refine o_assign (by conv => lhs; whnf) ?_
    refine O_end ?_
    refine W_ret ?_
    refine ⟨rfl, ?_⟩
    refine ret1 Try.results72 (by conv => lhs; whnf) ?_
    refine ⟨none, 0, 0, rfl, A, t.s.length, c, ?_, ?_, ?_⟩
    · rw [show (t.nx n).e = t.e by unfold Es.nx; rw [if_neg (by omega)]]; exact hA
    · rw [show (t.nx n).s = t.s by unfold Es.nx; rw [if_neg (by omega)]]; exact Der.refl _ _ _
    · rw [show t.tk n = [] by unfold Es.tk; rw [if_neg (by omega)]]; exact Src.nil _ _
  · -- False
    have q13 := bne_eq_false_iff_eq.1 h
    refine o_pick_f rfl (v := .bool _) rfl ?_
    refine O_end ?_
    refine W_else rfl ?_
    refine W_skip ?_
    refine W_seq ?_
    refine W_seq ?_
    refine W_reg ?_ -- 3 letter.go:118
    refine o_move (v := .int _ _) rfl ?_
    refine o_move (v := .pointer _) rfl ?_
    refine o_nilCheck rfl ?_
    refine o_fieldAddr fo100_0 rfl rfl ?_
    refine o_load1 ag32 rfl (hA.c 0 rfl rfl) ?_
    refine o_len Try.underlying32 rfl ?_
    refine o_cmp2 rfl rfl rfl (fun h => ?_) (fun h => ?_)
    · -- True
      have q21 := of_decide_eq_true h
      refine O_end ?_
      refine W_then rfl ?_
      refine W_seq ?_
      refine W_reg ?_ -- 4 letter.go:119
      refine o_move (v := .pointer _) rfl ?_
      refine o_nilCheck rfl ?_
      refine o_fieldAddr fo100_1 rfl rfl ?_
      refine o_store (cs' := [_, _]) (i := 0) hA rfl (v := .int _ _) rfl rfl ti22 rfl rfl rfl rfl (fun w1 hA => ?_)
      refine O_end ?_
      refine W_seq ?_
      refine W_reg ?_ -- 5 letter.go:120
      refine o_assign (by conv => lhs; whnf) ?_
      refine O_end ?_
      refine W_ret ?_
      refine ⟨rfl, ?_⟩
      refine ret1 Try.results72 (by conv => lhs; whnf) ?_
      refine ⟨none, 0, 0, rfl, A, t.s.length, c, ?_, ?_, ?_⟩
      · rw [show (t.nx n).e = 3 by unfold Es.nx; rw [if_pos (by omega), if_neg (by omega)]]; exact hA
      · rw [show (t.nx n).s = t.s by unfold Es.nx; rw [if_pos (by omega), if_neg (by omega)]]; exact Der.refl _ _ _
      · rw [show t.tk n = [] by unfold Es.tk; rw [if_neg (by omega)]]; exact Src.nil _ _
    · -- False
      have q21 := of_decide_eq_false h
      refine O_end ?_
      refine W_else rfl ?_
      refine W_skip ?_
      refine W_seq ?_
      refine W_reg ?_ -- 6 letter.go:122
      refine o_move (v := .pointer _) rfl ?_
      refine o_nilCheck rfl ?_
      refine o_fieldAddr fo100_0 rfl rfl ?_
      refine o_load1 ag32 rfl (hA.c 0 rfl rfl) ?_
      refine o_move (v := .int _ _) rfl ?_
      refine o_move (v := .int _ _) rfl ?_
      refine o_slice Try.underlying32 ti5 rfl (.inr ⟨_, rfl⟩) (.inr ⟨_, rfl⟩) (.inl ⟨rfl, rfl⟩) (by simp) (show n ≤ c by omega) (Nat.le_refl _) (Nat.zero_le _) ?_
      refine o_assign (by conv => lhs; whnf) ?_
      refine O_end ?_
      refine W_seq ?_
      refine W_reg ?_ -- 7 letter.go:123
      refine o_move (v := .pointer _) rfl ?_
      refine o_move (v := .pointer _) rfl ?_
      refine o_nilCheck rfl ?_
      refine o_fieldAddr fo100_0 rfl rfl ?_
      refine o_load1 ag32 rfl (hA.c 0 rfl rfl) ?_
      refine o_move (v := .int _ _) rfl ?_
      refine o_slice Try.underlying32 ti5 rfl (.inl ⟨rfl, rfl⟩) (.inl ⟨rfl, rfl⟩) (.inr ⟨_, rfl⟩) (by simp) (Nat.le_refl _) (by omega) (by omega) ?_
      refine o_nilCheck rfl ?_
      refine o_fieldAddr fo100_0 rfl rfl ?_
      refine o_store (cs' := [_, _]) (i := 0) hA rfl (by conv => lhs; whnf) rfl ti32 rfl rfl rfl rfl (fun w2 hA => ?_)
      refine O_end ?_
      refine W_seq ?_
      refine W_reg ?_ -- 8 letter.go:124
      refine o_move (by conv => lhs; whnf) ?_
      refine o_assign (by conv => lhs; whnf) ?_
      refine O_end ?_
      refine W_ret ?_
      refine ⟨rfl, ?_⟩
      refine ret1 Try.results72 (by conv => lhs; whnf) ?_
      refine ⟨if n = 0 then A else A.map (·.add (0 * 1)), n - 0, n - 0, rfl, if c = n then A else A.map (·.add (n * 1)), t.s.length - n, c - n, ?_, ?_, ?_⟩
      · rw [show (t.nx n).e = 0 by unfold Es.nx; rw [if_pos (by omega), if_pos (by omega)]]; have := hA; rw [show (t.e : Int) = ((0 : Nat) : Int) by omega] at this; exact this
      · rw [show (t.nx n).s = t.s.drop n by unfold Es.nx; rw [if_pos (by omega), if_pos (by omega)]]; exact fun u hu => hu.tail (by omega)
      · rw [show t.tk n = t.s.take n by unfold Es.tk; rw [if_pos (by omega)]]; exact (hS.at_ hA (EyeC_S hg)).head (by omega)

theorem shl_nat {a k r : Nat} (hk : k ≤ 64) (h : a * 2 ^ k = r) (hr : r < 18446744073709551616) : IntKind.u64.wrap ((a : Int) * 2 ^ min ((k : Int)).toNat IntKind.u64.bits) = (r : Int) := by
  have h2 : min ((k : Int)).toNat IntKind.u64.bits = k := by rw [Int.toNat_natCast]; exact Nat.min_eq_left hk
  rw [h2]
  refine u64w ?_ hr
  rw [← h]; simp

theorem e_number {w : World} {A : Option Addr} {be m c g : Nat} {t : Es} (hP : At w (SS [EyeC be (.slice A m c) t.e]) [EyeC be (.slice A m c) t.e] w) (hS : Src w g (.slice A m c) t.s) (hg : g ≠ be) (n : Nat) (hn : n ≤ 8) : Calls Try.prog 61 #[.pointer (some ⟨be, 0, none⟩), .int .i64 (n : Int)] w fun e w' => ∃ v, e = .returned v ∧ (v = .int .u64 ((leV (t.tk n) : Nat) : Int) ∧ ∃ (A' : Option Addr) (m' c' : Nat), At w (SS [EyeC be (.slice A m c) t.e]) [EyeC be (.slice A' m' c') (t.nx n).e] w' ∧ Der g (.slice A m c) t.s (.slice A' m' c') (t.nx n).s) := by
  refine body_in (n := 26) (l := [.pointer (some ⟨be, 0, none⟩), .int .i64 (n : Int)]) en61 rfl Try.ntmps61 rfl ?_
  have hA := hP
  refine W_seq ?_
  refine W_reg ?_ -- 0 letter.go:128
  refine o_assign (v := .int _ _) rfl ?_
  refine O_end ?_
  refine W_seq ?_
  refine W_reg ?_ -- 1 letter.go:129
  refine o_assign (v := .int _ _) rfl ?_
  refine O_end ?_
  refine W_seq ?_
  refine W_seq ?_
  refine W_reg ?_ -- 2 letter.go:130
  refine o_move (v := .pointer _) rfl ?_
  refine o_move (v := .int _ _) rfl ?_
  refine O_calls en72 rfl (e_take hP hS hg n) (fun v1 w1 hC => ?_)
  obtain ⟨B, k, d, rfl, hC⟩ := hC
  refine o_len Try.underlying32 rfl ?_
  refine o_move (v := .int _ _) rfl ?_
  refine O_end ?_
  refine W_block ?_ -- 0
  obtain ⟨A', m', c', hT, hS', hB⟩ := hC
  obtain rfl : k = (t.tk n).length := u8l_rd hB.rd
  have htl := Es.tk_len t n
  have hA := hT.own1
  have hAA := hP.trans1 hT
  refine W_loop (fun kk ρ w' => ∃ (j : Nat), kk = (t.tk n).length - j ∧ j ≤ (t.tk n).length ∧ ρ 12 = .int .i64 (j : Int) ∧ ρ 11 = .int .i64 ((t.tk n).length : Int) ∧ ρ 10 = .slice B (t.tk n).length d ∧ ρ 5 = .int .u64 ((leV ((t.tk n).take j) : Nat) : Int) ∧ At w1 (SS [EyeC be (.slice A' m' c') (t.nx n).e]) [EyeC be (.slice A' m' c') (t.nx n).e] w') (t.tk n).length
    ⟨0, by simp, Nat.zero_le _, rfl, rfl, rfl, rfl, hA⟩ ?_
  clear hA
  rintro kk ρ w2 ⟨j, rfl, hj, h12, h11, h10, h5, hA⟩
  refine W_known (t := 12) h12 ?_
  refine W_known (t := 11) h11 ?_
  refine W_known (t := 10) h10 ?_
  refine W_known (t := 5) h5 ?_
  refine W_seq ?_
  refine W_reg ?_ -- 3 letter.go:130
  refine o_cmp2 rfl rfl rfl (fun h => ?_) (fun h => ?_)
  · -- True
    have q13 := of_decide_eq_true h
    have hlt : j < (t.tk n).length := by omega
    obtain ⟨x, hx⟩ : ∃ x, (t.tk n)[j]? = some x := ⟨_, List.getElem?_eq_getElem hlt⟩
    obtain ⟨g0, o0, rfl⟩ := hB.rd.addr (by decide) (show _ = (t.tk n).length * 1 by simp [u8l]) (by omega)
    have hB' := hB.at_ hA (EyeC_S hg)
    have hlv := leV_lt ((t.tk n).take j)
    have hxl : x.toNat < 256 := x.toNat_lt
    rw [List.length_take, Nat.min_eq_left hj] at hlv
    have hp : 2 ^ (8 * j) * 256 ≤ 18446744073709551616 := by
      have : 2 ^ (8 * j + 8) ≤ 2 ^ 64 := Nat.pow_le_pow_right (by decide) (by omega)
      rw [Nat.pow_add] at this; exact this
    have hpx : 2 ^ (8 * j) * x.toNat ≤ 2 ^ (8 * j) * 255 := Nat.mul_le_mul_left _ (by omega)
    refine O_end ?_
    refine W_seq ?_
    refine W_then rfl ?_
    refine W_skip ?_
    refine W_seq ?_
    refine W_block ?_ -- 1
    refine W_seq ?_
    refine W_reg ?_ -- 4 letter.go:130
    refine o_move (v := .int _ _) rfl ?_
    refine o_index Try.underlying32 ti5 rfl rfl (by omega) (by omega) ?_
    refine o_load1 ag5 rfl (u8l_elt hB'.rd hx) ?_
    refine o_assign (v := .int _ _) rfl ?_
    refine o_assign (v := .int _ _) rfl ?_
    refine O_end ?_
    refine W_reg ?_ -- 5 letter.go:131
    refine o_move (v := .int _ _) rfl ?_
    refine o_move (v := .int _ _) rfl ?_
    refine o_conv Try.underlying5 Try.underlying48 rfl (u64w rfl (by omega)) ?_
    refine o_move (v := .int _ _) rfl ?_
    refine o_mul rfl rfl (w64 (r := ((8 * j : Nat) : Int)) (by omega) (by omega) (by omega)) ?_
    refine o_shl rfl rfl (by omega) (shl_nat (r := 2 ^ (8 * j) * x.toNat) (by omega) (Nat.mul_comm _ _) (by omega)) ?_
    refine o_bits (by simp) rfl rfl (b_or (r := leV ((t.tk n).take j) + 2 ^ (8 * j) * x.toNat) (by omega) (by omega) (by rw [Nat.or_comm, ← Nat.two_pow_add_eq_or_of_lt hlv, Nat.add_comm])) ?_
    refine o_assign (v := .int _ _) rfl ?_
    refine O_end ?_
    refine W_reg ?_ -- 6 letter.go:130
    refine o_add rfl rfl (w64 (r := ((j + 1 : Nat) : Int)) (by omega) (by omega) (by omega)) ?_
    refine o_move (v := .int _ _) rfl ?_
    refine O_end ?_
    refine ⟨(t.tk n).length - (j + 1), by omega, j + 1, rfl, by omega, rfl, rfl, rfl, ?_, hA⟩
    rw [List.take_add_one, hx]
    show Value.int .u64 _ = .int .u64 ((leV ((t.tk n).take j ++ [x]) : Nat) : Int)
    rw [leV_snoc, List.length_take, Nat.min_eq_left hj]
  · -- False
    have q13 := of_decide_eq_false h
    refine O_end ?_
    refine W_seq ?_
    refine W_else rfl ?_
    refine W_exit ?_
    refine xb_hit ?_
    refine W_seq ?_
    refine W_reg ?_ -- 7 letter.go:133
    refine o_move (v := .int _ _) rfl ?_
    refine o_assign (v := .int _ _) rfl ?_
    refine O_end ?_
    refine W_ret ?_
    refine ⟨rfl, ?_⟩
    refine ret1 Try.results61 (v := .int _ _) rfl ?_
    obtain rfl : j = (t.tk n).length := by omega
    exact ⟨by rw [List.take_length], A', m', c', hAA.trans1 hA, hS'⟩

theorem e_small {w : World} {A : Option Addr} {be m c g : Nat} {t : Es} (hP : At w (SS [EyeC be (.slice A m c) t.e]) [EyeC be (.slice A m c) t.e] w) (hS : Src w g (.slice A m c) t.s) (hg : g ≠ be) : Calls Try.prog 27 #[.pointer (some ⟨be, 0, none⟩)] w fun e w' => ∃ v, e = .returned v ∧ (v = .int .i64 ((leV (t.tk 4) : Nat) : Int) ∧ ∃ (A' : Option Addr) (m' c' : Nat), At w (SS [EyeC be (.slice A m c) t.e]) [EyeC be (.slice A' m' c') (t.nx 4).e] w' ∧ Der g (.slice A m c) t.s (.slice A' m' c') (t.nx 4).s) := by
  refine body_in (n := 6) (l := [.pointer (some ⟨be, 0, none⟩)]) en27 rfl Try.ntmps27 rfl ?_
  have hA := hP
  have hlv : leV (t.tk 4) < 4294967296 := Nat.lt_of_lt_of_le (leV_lt _) (show 2 ^ (8 * (t.tk 4).length) ≤ 2 ^ 32 from Nat.pow_le_pow_right (by decide) (by have := Es.tk_len t 4; omega))
  refine W_seq ?_
  refine W_reg ?_ -- 0 letter.go:137
  refine o_assign (v := .int _ _) rfl ?_
  refine O_end ?_
  refine W_seq ?_
  refine W_reg ?_ -- 1 letter.go:137
  refine o_move (v := .pointer _) rfl ?_
  refine O_calls en61 rfl (e_number hP hS hg 4 (by decide)) (fun v1 w1 hC => ?_)
  obtain ⟨rfl, A', m', c', hT, hS'⟩ := hC
  have hA := hP.trans1 hT
  refine o_conv Try.underlying48 Try.underlying3 rfl (w64 rfl (by omega) (by omega)) ?_
  refine o_assign (v := .int _ _) rfl ?_
  refine O_end ?_
  refine W_ret ?_
  refine ⟨rfl, ?_⟩
  refine ret1 Try.results27 (v := .int _ _) rfl ?_
  exact ⟨rfl, A', m', c', hA, hS'⟩

theorem e_great {w : World} {A : Option Addr} {be m c g : Nat} {t : Es} (hP : At w (SS [EyeC be (.slice A m c) t.e]) [EyeC be (.slice A m c) t.e] w) (hS : Src w g (.slice A m c) t.s) (hg : g ≠ be) : Calls Try.prog 62 #[.pointer (some ⟨be, 0, none⟩)] w fun e w' => ∃ v, e = .returned v ∧ (v = .int .u64 ((leV (t.tk 8) : Nat) : Int) ∧ ∃ (A' : Option Addr) (m' c' : Nat), At w (SS [EyeC be (.slice A m c) t.e]) [EyeC be (.slice A' m' c') (t.nx 8).e] w' ∧ Der g (.slice A m c) t.s (.slice A' m' c') (t.nx 8).s) := by
  refine body_in (n := 5) (l := [.pointer (some ⟨be, 0, none⟩)]) en62 rfl Try.ntmps62 rfl ?_
  have hA := hP
  refine W_seq ?_
  refine W_reg ?_ -- 0 letter.go:140
  refine o_assign (v := .int _ _) rfl ?_
  refine O_end ?_
  refine W_seq ?_
  refine W_reg ?_ -- 1 letter.go:140
  refine o_move (v := .pointer _) rfl ?_
  refine O_calls en61 rfl (e_number hP hS hg 8 (by decide)) (fun v1 w1 hC => ?_)
  obtain ⟨rfl, A', m', c', hT, hS'⟩ := hC
  have hA := hP.trans1 hT
  refine o_assign (v := .int _ _) rfl ?_
  refine O_end ?_
  refine W_ret ?_
  refine ⟨rfl, ?_⟩
  refine ret1 Try.results62 (v := .int _ _) rfl ?_
  exact ⟨rfl, A', m', c', hA, hS'⟩

theorem e_bytes {w : World} {A : Option Addr} {be m c g : Nat} {t : Es} (hP : At w (SS [EyeC be (.slice A m c) t.e]) [EyeC be (.slice A m c) t.e] w) (hS : Src w g (.slice A m c) t.s) (hg : g ≠ be) (hl : t.s.length ≤ 1000000) : Calls Try.prog 63 #[.pointer (some ⟨be, 0, none⟩)] w fun e w' => ∃ v, e = .returned v ∧ ∃ (B : Option Addr) (k d : Nat), v = .slice B k d ∧ ∃ (A' : Option Addr) (m' c' : Nat), At w (SS [EyeC be (.slice A m c) t.e]) [Row 5 1 (.slice B k d) (u8l ((t.nx 4).tk (leV (t.tk 4)))), EyeC be (.slice A' m' c') ((t.nx 4).nx (leV (t.tk 4))).e] w' ∧ Der g (.slice A m c) t.s (.slice A' m' c') ((t.nx 4).nx (leV (t.tk 4))).s := by
  refine body_in (n := 9) (l := [.pointer (some ⟨be, 0, none⟩)]) en63 rfl Try.ntmps63 rfl ?_
  have hA := hP
  refine W_seq ?_
  refine W_reg ?_ -- 0 letter.go:143
  refine o_assign (by conv => lhs; whnf) ?_
  refine O_end ?_
  refine W_seq ?_
  refine W_reg ?_ -- 1 letter.go:143
  refine o_move (v := .pointer _) rfl ?_
  refine o_move (v := .pointer _) rfl ?_
  refine O_calls en27 rfl (e_small hP hS hg) (fun v1 w1 hC => ?_)
  obtain ⟨rfl, A', m', c', hT, hS'⟩ := hC
  have hA := hP.trans1 hT
  refine O_calls en72 rfl (e_take (t := t.nx 4) hT.own1 (hS' _ (hS.at_ hT (EyeC_S hg))) hg (leV (t.tk 4))) (fun v2 w2 hC => ?_)
  obtain ⟨B, k, d, rfl, A2, m2, c2, hT2, hS2, hB⟩ := hC
  have hA := hA.trans1 hT2
  refine O_calls en58 rfl (c_clone hB.rd (Nat.le_trans (Es.tk_len' _ _) (Nat.le_trans (Es.nx_len _ _) hl))) (fun v3 w3 hC => ?_)
  obtain ⟨A5, m5, c5, rfl⟩ := (hC.row 0 rfl).slice
  have hA := hA.more hC
  refine O_calls en59 rfl (c_clip (hA.row 0 rfl)) (fun v4 w4 hC => ?_)
  have hA := hA.more hC.2.2
  refine o_assign (by conv => lhs; whnf) ?_
  refine O_end ?_
  refine W_ret ?_
  refine ⟨rfl, ?_⟩
  refine ret1 Try.results63 (by conv => lhs; whnf) ?_
  obtain ⟨A9, m9, c9, rfl⟩ := hC.1.slice
  exact ⟨A9, m9, c9, rfl, A2, m2, c2, hA.turn hC.1 hC.2.1, hS'.trans hS2⟩

end Go.Proofs.Ytbcaooiphalkoaa
