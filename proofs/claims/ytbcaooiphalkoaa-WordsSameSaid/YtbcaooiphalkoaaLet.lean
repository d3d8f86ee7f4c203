/-
  Package letter: papers.
-/
import Derived.Test.YtbcaooiphalkoaaNum
import Derived.Test.YtbcaooiphalkoaaWd
set_option linter.unusedVariables false
set_option linter.unusedSimpArgs false
namespace Go.Proofs.Ytbcaooiphalkoaa
open Go Go.RowKit

def leB (n i : Nat) : UInt8 := UInt8.ofNat (n / 2 ^ (8 * i))
/-- A number's lowest bytes. -/
def leN (n k : Nat) : List UInt8 := (List.range k).map (leB n)
theorem leN_succ (n k : Nat) : leN n (k + 1) = leN n k ++ [leB n k] := by simp [leN, List.range_succ]
theorem leN_len (n k : Nat) : (leN n k).length = k := by simp [leN]
theorem leB_val (n i : Nat) : (leB n i).toNat = n / 2 ^ (8 * i) % 256 := by
  unfold leB; rw [UInt8.toNat_ofNat']
def u8l (l : List UInt8) : List Value := l.map u8v
theorem u8l_len (l : List UInt8) : (u8l l).length = l.length := by simp [u8l]
theorem u8l_append (a b : List UInt8) : u8l (a ++ b) = u8l a ++ u8l b := by simp [u8l]
theorem u8l_one (l : List UInt8) : ∀ u ∈ u8l l, u.oneCell' = true := fun u hu => by obtain ⟨x, _, rfl⟩ := List.mem_map.1 hu; rfl
theorem u8l_rd {w : World} {A : Option Addr} {m c : Nat} {l : List UInt8} (h : Rd w 1 (.slice A m c) (u8l l)) : m = l.length := h.lenm (by decide) (by simp [u8l])
theorem u8l_elt {w : World} {g o m c i : Nat} {l : List UInt8} {x : UInt8} (h : Rd w 1 (.slice (some ⟨g, o, none⟩) m c) (u8l l)) (hx : l[i]? = some x) : w.cell? ⟨g, o + (i : Int).toNat * 1, none⟩ = some (.int .u8 x.toNat) := h.elt (f := u8v) hx
/-- A *Paper and what it owns. -/
def pap (b : Nat) (s : Value) (bs : List UInt8) : List Ch := [Cell b 95 [s, .bool false], Row 5 1 s (u8l bs)]

theorem l_lay {w : World} {A : Option Addr} {b m c n k : Nat} {bs : List UInt8} (hP : At w (SS (pap b (.slice A m c) bs)) (pap b (.slice A m c) bs) w) (hk : k ≤ 8) (hn : n < 18446744073709551616) (hl : bs.length ≤ 1000000) : Calls Try.prog 57 #[.pointer (some ⟨b, 0, none⟩), .int .u64 (n : Int), .int .i64 (k : Int)] w fun e w' => ∃ v, e = .returned v ∧ ∃ (A' : Option Addr) (m' c' : Nat), v = .pointer (some ⟨b, 0, none⟩) ∧ At w (SS (pap b (.slice A m c) bs)) (pap b (.slice A' m' c') (bs ++ leN n k)) w' := by
  refine body_in (n := 28) (l := [.pointer (some ⟨b, 0, none⟩), .int .u64 (n : Int), .int .i64 (k : Int)]) en57 rfl Try.ntmps57 rfl ?_
  have hA := hP
  refine W_seq ?_
  refine W_reg ?_ -- 0 letter.go:43
  refine o_assign (v := .pointer _) rfl ?_
  refine O_end ?_
  refine W_seq ?_
  refine W_seq ?_
  refine W_reg ?_ -- 1 letter.go:44
  refine o_move (v := .int _ _) rfl ?_
  refine o_move (v := .int _ _) rfl ?_
  refine O_end ?_
  refine W_block ?_ -- 0
  refine W_loop (fun kk ρ w' => ∃ (j : Nat) (A' : Option Addr) (m' c' : Nat), kk = k - j ∧ j ≤ k ∧ ρ 9 = .int .i64 (j : Int) ∧ ρ 8 = .int .i64 (k : Int) ∧ ρ 0 = .pointer (some ⟨b, 0, none⟩) ∧ ρ 1 = .int .u64 (n : Int) ∧ At w (SS (pap b (.slice A m c) bs)) (pap b (.slice A' m' c') (bs ++ leN n j)) w') k
    ⟨0, A, m, c, by simp, Nat.zero_le _, rfl, rfl, rfl, rfl, by rw [show leN n 0 = [] from rfl, List.append_nil]; exact hA⟩ ?_
  clear hA
  rintro kk ρ w1 ⟨j, A', m', c', rfl, hj, h9, h8, h0, h1, hA⟩
  refine W_known (t := 9) h9 ?_
  refine W_known (t := 8) h8 ?_
  refine W_known (t := 0) h0 ?_
  refine W_known (t := 1) h1 ?_
  refine W_seq ?_
  refine W_reg ?_ -- 2 letter.go:44
  refine o_cmp2 rfl rfl rfl (fun h => ?_) (fun h => ?_)
  · -- True
    have q10 := of_decide_eq_true h
    have hlt : j < k := by omega
    refine O_end ?_
    refine W_seq ?_
    refine W_then rfl ?_
    refine W_skip ?_
    refine W_seq ?_
    refine W_block ?_ -- 1
    refine W_seq ?_
    refine W_reg ?_ -- 3 letter.go:44
    refine o_move (v := .int _ _) rfl ?_
    refine o_assign (v := .int _ _) rfl ?_
    refine O_end ?_
    refine W_drawA hA [4] mix rfl rfl (fun w0_4 hA => ?_) -- 4 letter.go:45
    refine D_take 0 rfl (by kernel_rfl) (by rintro _ _ _ ⟨h, _⟩; cases h) rfl (fun h => by cases h) (fun w hA => r_move (v := .pointer _) rfl) ?_
    refine D_take 1 rfl (by kernel_rfl) (by rintro _ _ _ ⟨h, _⟩; cases h) rfl (fun h => by cases h) (fun w hA => r_move (v := .pointer _) rfl) ?_
    refine D_take 2 rfl (by kernel_rfl) (by rintro _ _ _ ⟨h, _⟩; cases h) rfl (fun h => by cases h) (fun w hA => r_nilCheck rfl) ?_
    refine D_take 3 rfl (by kernel_rfl) (by rintro _ _ _ ⟨h, _⟩; cases h) rfl (fun h => by cases h) (fun w hA => r_fieldAddr fo95_0 rfl rfl) ?_
    refine D_take 4 rfl (by kernel_rfl) (by rintro _ _ _ ⟨h, _⟩; cases h) rfl (fun _ => hA) (fun w hA => r_load1 ag32 rfl ((hA rfl).c 0 rfl rfl)) ?_
    refine D_take 5 rfl (by kernel_rfl) (by rintro _ _ _ ⟨h, _⟩; cases h) rfl (fun h => by cases h) (fun w hA => r_move (v := .int _ _) rfl) ?_
    refine D_take 6 rfl (by kernel_rfl) (by rintro _ _ _ ⟨h, _⟩; cases h) rfl (fun h => by cases h) (fun w hA => r_move (v := .int _ _) rfl) ?_
    refine D_take 7 rfl (by kernel_rfl) (by rintro _ _ _ ⟨h, _⟩; cases h) rfl (fun h => by cases h) (fun w hA => r_mul rfl rfl (w64 (r := ((8 * j : Nat) : Int)) (by omega) (by omega) (by omega))) ?_
    refine D_take 8 rfl (by kernel_rfl) (by rintro _ _ _ ⟨h, _⟩; cases h) rfl (fun h => by cases h) (fun w hA => r_shr rfl rfl (by omega) (shr_nat n (8 * j) (by omega))) ?_
    refine D_take 9 rfl (by kernel_rfl) (by rintro _ _ _ ⟨h, _⟩; cases h) rfl (fun h => by cases h) (fun w hA => r_conv Try.underlying48 Try.underlying5 rfl (u8m (r := n / 2 ^ (8 * j)) rfl)) ?_
    refine D_run 10 (by kernel_rfl) rfl rfl ?_
    refine o_buildSlice (cs := [_]) hA Try.underlying32 ti5 rfl rfl rfl rfl rfl (fun a1 w1 hA => ?_)
    refine O_end ⟨fun _ _ => hA.drop, ?_⟩
    refine D_run 11 (by kernel_rfl) rfl rfl ?_
    refine o_append (i := 2) hA rfl rfl rfl Try.underlying32 ti5 rfl (by decide) (hA.rd 0 rfl) (fun u hu => by obtain rfl := List.mem_singleton.1 hu; rfl) (fun m k h1 h2 => by rw [u8l_len, List.length_append, leN_len] at h1; simp at h2; omega) (fun m k h1 h2 => by rw [u8l_len, List.length_append, leN_len] at h1; simp at h2; omega) (fun v2 w2 hA => ?_)
    obtain ⟨Av2, mv2, cv2, rfl⟩ := (hA.row 2 rfl).slice
    refine O_end ⟨(fun h _ => noNeed (by kernel_rfl) h), ?_⟩
    refine D_take 12 rfl (by kernel_rfl) (by rintro _ _ _ ⟨h, _⟩; cases h) rfl (fun h => by cases h) (fun w hA => r_nilCheck rfl) ?_
    refine D_take 13 rfl (by kernel_rfl) (by rintro _ _ _ ⟨h, _⟩; cases h) rfl (fun h => by cases h) (fun w hA => r_fieldAddr fo95_0 rfl rfl) ?_
    refine D_run 14 (by kernel_rfl) rfl rfl ?_
    refine o_store (cs' := [_, _]) (i := 1) hA rfl (by conv => lhs; whnf) rfl ti32 rfl rfl rfl rfl (fun w3 hA => ?_)
    refine O_end ⟨(fun h _ => noNeed (by kernel_rfl) h), ?_⟩
    refine D_done (by kernel_rfl) ?_
    refine W_reg ?_ -- 5 letter.go:44
    refine o_add rfl rfl (w64 (r := ((j + 1 : Nat) : Int)) (by omega) (by omega) (by omega)) ?_
    refine o_move (v := .int _ _) rfl ?_
    refine O_end ?_
    refine ⟨k - (j + 1), by omega, j + 1, Av2, mv2, cv2, rfl, by omega, rfl, rfl, rfl, rfl, ?_⟩
    have hA := hA.tail 1
    rw [leN_succ, ← List.append_assoc]
    show At w _ [Cell _ _ _, Row _ 1 _ (u8l _)] _
    rw [u8l_append, show u8l [leB n j] = [Value.int .u8 ((n / 2 ^ (8 * j) % 256 : Nat) : Int)] from by show [u8v _] = _; unfold u8v; rw [leB_val]]
    exact hA
  · -- False
    have q10 := of_decide_eq_false h
    refine O_end ?_
    refine W_seq ?_
    refine W_else rfl ?_
    refine W_exit ?_
    refine xb_hit ?_
    refine W_seq ?_
    refine W_reg ?_ -- 6 letter.go:47
    refine o_move (v := .pointer _) rfl ?_
    refine o_assign (v := .pointer _) rfl ?_
    refine O_end ?_
    refine W_ret ?_
    refine ⟨rfl, ?_⟩
    refine ret1 Try.results57 (v := .pointer _) rfl ?_
    obtain rfl : j = k := by omega
    exact ⟨_, _, _, rfl, hA⟩

theorem l_blank {w : World} : Calls Try.prog 21 #[] w fun e w' => ∃ v, e = .returned v ∧ ∃ b, v = .pointer (some ⟨b, 0, none⟩) ∧ At w No (pap b (.slice none 0 0) []) w' := by
  refine body_in (n := 3) (l := []) en21 rfl Try.ntmps21 rfl ?_
  have hA := At.refl w
  refine W_seq ?_
  refine W_reg ?_ -- 0 letter.go:40
  refine o_assign (v := .pointer _) rfl ?_
  refine O_end ?_
  refine W_seq ?_
  refine W_reg ?_ -- 1 letter.go:40
  refine o_build la95 rfl rfl ?_
  refine o_box hA (by conv => lhs; whnf) rfl (fun b1 w1 hA => ?_)
  refine o_assign (v := .pointer _) rfl ?_
  refine O_end ?_
  refine W_ret ?_
  refine ⟨rfl, ?_⟩
  refine ret1 Try.results21 (v := .pointer _) rfl ?_
  refine ⟨_, rfl, ?_⟩
  exact (hA.nilRow 5 1 none).rot

theorem l_small {w : World} {A : Option Addr} {b m c n : Nat} {bs : List UInt8} (hP : At w (SS (pap b (.slice A m c) bs)) (pap b (.slice A m c) bs) w) (hn : n < 4294967296) (hl : bs.length ≤ 1000000) : Calls Try.prog 22 #[.pointer (some ⟨b, 0, none⟩), .int .i64 (n : Int)] w fun e w' => ∃ v, e = .returned v ∧ ∃ (A' : Option Addr) (m' c' : Nat), v = .pointer (some ⟨b, 0, none⟩) ∧ At w (SS (pap b (.slice A m c) bs)) (pap b (.slice A' m' c') (bs ++ leN n 4)) w' := by
  refine body_in (n := 26) (l := [.pointer (some ⟨b, 0, none⟩), .int .i64 (n : Int)]) en22 rfl Try.ntmps22 rfl ?_
  have hA := hP
  refine W_seq ?_
  refine W_reg ?_ -- 0 letter.go:51
  refine o_assign (v := .pointer _) rfl ?_
  refine O_end ?_
  refine W_seq ?_
  refine W_seq ?_
  refine W_reg ?_ -- 1 letter.go:52
  refine o_move (v := .pointer _) rfl ?_
  refine o_eqnil2 Try.underlying58 rfl rfl (.inl ⟨rfl, rfl⟩) (fun h => (by first | exact absurd h (by decide) | (exfalso; simp at h; omega) | (exfalso; simp at h))) (fun h => ?_)
  have q6 := h
  refine O_end ?_
  refine W_else rfl ?_
  refine W_skip ?_
  refine W_seq ?_
  refine W_reg ?_ -- 3 letter.go:55
  refine o_move (v := .pointer _) rfl ?_
  refine o_move (v := .pointer _) rfl ?_
  refine o_nilCheck rfl ?_
  refine o_fieldAddr fo95_1 rfl rfl ?_
  refine o_load1 ag4 rfl (hA.c 0 rfl rfl) ?_
  refine o_move (v := .bool _) rfl ?_
  refine O_yes rfl rfl rfl ?_
  refine o_move (v := .int _ _) rfl ?_
  refine O_yes rfl rfl rfl ?_
  refine o_cmp2 rfl rfl rfl (fun h => (by first | exact absurd h (by decide) | (exfalso; simp at h; omega) | (exfalso; simp at h))) (fun h => ?_)
  have q14 := of_decide_eq_false h
  refine o_pick_f rfl (v := .bool _) rfl ?_
  refine o_move (v := .bool _) rfl ?_
  refine O_yes rfl rfl rfl ?_
  refine o_move (v := .int _ _) rfl ?_
  refine O_yes rfl rfl rfl ?_
  refine o_cmp rfl rfl rfl ?_
  refine o_pick_f rfl (v := .bool _) rfl ?_
  refine o_nilCheck rfl ?_
  refine o_fieldAddr fo95_1 rfl rfl ?_
  refine o_store (cs' := [_, _]) (i := 0) hA rfl (v := .bool _) rfl rfl ti4 rfl rfl rfl rfl (fun w1 hA => ?_)
  rw [decide_eq_false (show ¬ ((n : Int) > 4294967295) by omega)] at hA
  refine O_end ?_
  refine W_seq ?_
  refine W_reg ?_ -- 4 letter.go:56
  refine o_move (v := .pointer _) rfl ?_
  refine o_move (v := .int _ _) rfl ?_
  refine o_conv Try.underlying3 Try.underlying48 rfl (u64w rfl (by omega)) ?_
  refine O_calls en57 rfl (l_lay (k := 4) (n := n) hA.own1 (by decide) (by omega) hl) (fun v2 w2 hC => ?_)
  obtain ⟨A', m', c', rfl, hC⟩ := hC
  have hA := hA.trans1 hC
  refine o_assign (v := .pointer _) rfl ?_
  refine O_end ?_
  refine W_ret ?_
  refine ⟨rfl, ?_⟩
  refine ret1 Try.results22 (v := .pointer _) rfl ?_
  exact ⟨_, _, _, rfl, hA⟩

theorem l_great {w : World} {A : Option Addr} {b m c n : Nat} {bs : List UInt8} (hP : At w (SS (pap b (.slice A m c) bs)) (pap b (.slice A m c) bs) w) (hn : n < 18446744073709551616) (hl : bs.length ≤ 1000000) : Calls Try.prog 23 #[.pointer (some ⟨b, 0, none⟩), .int .u64 (n : Int)] w fun e w' => ∃ v, e = .returned v ∧ ∃ (A' : Option Addr) (m' c' : Nat), v = .pointer (some ⟨b, 0, none⟩) ∧ At w (SS (pap b (.slice A m c) bs)) (pap b (.slice A' m' c') (bs ++ leN n 8)) w' := by
  refine body_in (n := 10) (l := [.pointer (some ⟨b, 0, none⟩), .int .u64 (n : Int)]) en23 rfl Try.ntmps23 rfl ?_
  have hA := hP
  refine W_seq ?_
  refine W_reg ?_ -- 0 letter.go:60
  refine o_assign (v := .pointer _) rfl ?_
  refine O_end ?_
  refine W_seq ?_
  refine W_seq ?_
  refine W_reg ?_ -- 1 letter.go:61
  refine o_move (v := .pointer _) rfl ?_
  refine o_eqnil2 Try.underlying58 rfl rfl (.inl ⟨rfl, rfl⟩) (fun h => (by first | exact absurd h (by decide) | (exfalso; simp at h; omega) | (exfalso; simp at h))) (fun h => ?_)
  have q6 := h
  refine O_end ?_
  refine W_else rfl ?_
  refine W_skip ?_
  refine W_seq ?_
  refine W_reg ?_ -- 3 letter.go:64
  refine o_move (v := .pointer _) rfl ?_
  refine o_move (v := .int _ _) rfl ?_
  refine O_calls en57 rfl (l_lay (k := 8) (n := n) hA.own1 (by decide) hn hl) (fun v1 w1 hC => ?_)
  obtain ⟨A', m', c', rfl, hC⟩ := hC
  have hA := hA.trans1 hC
  refine o_assign (v := .pointer _) rfl ?_
  refine O_end ?_
  refine W_ret ?_
  refine ⟨rfl, ?_⟩
  refine ret1 Try.results23 (v := .pointer _) rfl ?_
  exact ⟨_, _, _, rfl, hA⟩

theorem l_bytes {w : World} {A A2 : Option Addr} {b m c c2 : Nat} {bs d : List UInt8} (hP : At w (SS (pap b (.slice A m c) bs)) (pap b (.slice A m c) bs) w) (hD : ∀ F w', At w (SS (pap b (.slice A m c) bs)) F w' → Rd w' 1 (.slice A2 d.length c2) (u8l d)) (hd : d.length ≤ 1000000) (hl : bs.length ≤ 1000000) : Calls Try.prog 24 #[.pointer (some ⟨b, 0, none⟩), .slice A2 d.length c2] w fun e w' => ∃ v, e = .returned v ∧ ∃ (A' : Option Addr) (m' c' : Nat), v = .pointer (some ⟨b, 0, none⟩) ∧ At w (SS (pap b (.slice A m c) bs)) (pap b (.slice A' m' c') (bs ++ (leN d.length 4 ++ d))) w' := by
  refine body_in (n := 21) (l := [.pointer (some ⟨b, 0, none⟩), .slice A2 d.length c2]) en24 rfl Try.ntmps24 rfl ?_
  have hA := hP
  refine W_seq ?_
  refine W_reg ?_ -- 0 letter.go:68
  refine o_assign (v := .pointer _) rfl ?_
  refine O_end ?_
  refine W_seq ?_
  refine W_seq ?_
  refine W_reg ?_ -- 1 letter.go:69
  refine o_move (v := .pointer _) rfl ?_
  refine o_eqnil2 Try.underlying58 rfl rfl (.inl ⟨rfl, rfl⟩) (fun h => (by first | exact absurd h (by decide) | (exfalso; simp at h; omega) | (exfalso; simp at h))) (fun h => ?_)
  have q6 := h
  refine O_end ?_
  refine W_else rfl ?_
  refine W_skip ?_
  refine W_seq ?_
  refine W_reg ?_ -- 3 letter.go:72
  refine o_move (v := .pointer _) rfl ?_
  refine o_move (by conv => lhs; whnf) ?_
  refine o_len Try.underlying32 rfl ?_
  refine O_calls en22 rfl (l_small (n := d.length) hA.own1 (by omega) (by omega)) (fun v1 w1 hC => ?_)
  obtain ⟨A', m', c', rfl, hC⟩ := hC
  have hA := hA.trans1 hC
  refine O_end ?_
  refine W_seq ?_
  refine W_reg ?_ -- 4 letter.go:73
  refine o_move (v := .pointer _) rfl ?_
  refine o_move (v := .pointer _) rfl ?_
  refine o_nilCheck rfl ?_
  refine o_fieldAddr fo95_0 rfl rfl ?_
  refine o_load1 ag32 rfl (hA.c 0 rfl rfl) ?_
  refine o_move (by conv => lhs; whnf) ?_
  refine o_append (i := 1) hA rfl rfl rfl Try.underlying32 ti5 rfl (by decide) (hD _ _ hA) (u8l_one _) (fun m k h1 h2 => by rw [u8l_len, List.length_append, leN_len] at h1; rw [u8l_len] at h2; omega) (fun m k h1 h2 => by rw [u8l_len, List.length_append, leN_len] at h1; rw [u8l_len] at h2; omega) (fun v2 w2 hA => ?_)
  obtain ⟨Av2, mv2, cv2, rfl⟩ := (hA.row 1 rfl).slice
  refine o_nilCheck rfl ?_
  refine o_fieldAddr fo95_0 rfl rfl ?_
  refine o_store (cs' := [_, _]) (i := 0) hA rfl (by conv => lhs; whnf) rfl ti32 rfl rfl rfl rfl (fun w3 hA => ?_)
  refine O_end ?_
  refine W_seq ?_
  refine W_reg ?_ -- 5 letter.go:74
  refine o_move (v := .pointer _) rfl ?_
  refine o_assign (v := .pointer _) rfl ?_
  refine O_end ?_
  refine W_ret ?_
  refine ⟨rfl, ?_⟩
  refine ret1 Try.results24 (v := .pointer _) rfl ?_
  refine ⟨Av2, mv2, cv2, rfl, ?_⟩
  show At w _ [Cell _ _ _, Row _ 1 _ (u8l _)] _
  rw [← List.append_assoc, u8l_append]
  exact hA

end Go.Proofs.Ytbcaooiphalkoaa
