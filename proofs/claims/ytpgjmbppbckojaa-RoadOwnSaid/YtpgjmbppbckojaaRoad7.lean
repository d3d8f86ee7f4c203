/-
  Road: the law RoadOwn.
-/
import Derived.Test.YtpgjmbppbckojaaRoad4
set_option linter.unusedVariables false
namespace Go.Proofs.Ytpgjmbppbckojaa
open Go Go.RowKit

theorem u8s_set {l : List UInt8} {i : Nat} {r : Int} (h0 : 0 ≤ r) (h1 : r ≤ 255) : (u8s l).set i (.int .u8 r) = u8s (l.set i (UInt8.ofNat r.toNat)) := by
  unfold u8s
  rw [List.map_set, UInt8.toNat_ofNat']
  have : r.toNat % 2 ^ 8 = r.toNat := Nat.mod_eq_of_lt (by omega)
  rw [this]
  congr 2
  omega
theorem u8s_put {l : List UInt8} {i : Nat} {r : Int} (hi : i < l.length) (h : 0 ≤ r ∧ r ≤ 255) : (u8s l).take i ++ [.int .u8 r] ++ (u8s l).drop (i + 1) = u8s (l.set i (UInt8.ofNat r.toNat)) :=
  (set_parts _ _ _ (by rw [u8s_len]; exact hi)).trans (u8s_set h.1 h.2)
theorem flip0_ne : ∀ n : Nat, n < 256 → UInt8.ofNat (bits .xor .u8 (n : Int) (IntKind.u8.wrap (1 * 2 ^ min (0 % 8) 8))).toNat ≠ UInt8.ofNat n := by decide +kernel
theorem flipB_ne {l : List UInt8} (h : 0 < l.length) : flipB l 0 ≠ l := by
  intro e
  have h1 := congrArg (fun q => q[0]?) e
  have h2 : (flipB l 0)[0]? = some (UInt8.ofNat (bits .xor .u8 (((l[0 / 8]?).getD 0).toNat : Int) (IntKind.u8.wrap (1 * 2 ^ min (0 % 8) 8))).toNat) := by
    unfold flipB
    rw [List.getElem?_set]
    simp [h]
  have h3 : l[0]? = some l[0] := List.getElem?_eq_getElem h
  simp only [h2, h3, Option.some.injEq] at h1
  simp only [Option.getD_some] at h1
  refine flip0_ne (l[0].toNat) (l[0].toNat_lt) (h1.trans ?_)
  simp
theorem own_final {l l' : List UInt8} (h : l' = if l.length = 0 then l else flipB l 0) : (((l.length : Int) == 0) == decide ((⟨l'.toArray⟩ : ByteArray) = ⟨l.toArray⟩)) = true := by
  by_cases h0 : l.length = 0
  · rw [if_pos h0] at h
    subst h
    rw [decide_eq_true rfl, h0]
    rfl
  · rw [if_neg h0] at h
    have h1 : ((l.length : Int) == 0) = false := beq_eq_false_iff_ne.2 (by omega)
    have h2 : ¬ ((⟨l'.toArray⟩ : ByteArray) = ⟨l.toArray⟩) := fun e => by
      injection e with e
      have e2 : l' = l := by simpa using e
      exact flipB_ne (by omega) (h ▸ e2)
    rw [h1, decide_eq_false h2]
    rfl

theorem c_ownlaw {w : World} {A : Option Addr} {m c : Nat} {l : List UInt8} (hb : Rd w 1 (.slice A m c) (u8s l)) : Calls Try.prog 5 #[.slice A m c] w fun e w' => ∃ v, e = .returned v ∧ (v = .bool true ∧ At w No [] w') := by
  have hm : m = l.length := by
    obtain ⟨_, _, _, he, h, _⟩ := hb
    injection he with _ h1 h2
    rw [u8s_len] at h
    omega
  subst hm
  refine body_in (n := 85) (l := [.slice A l.length c]) en5 rfl Try.ntmps5 rfl ?_
  have hA := At.refl w
  refine W_seq ?_
  refine W_reg ?_ -- 0 law.go:127
  refine o_assign (v := .bool _) rfl ?_
  refine O_end ?_
  refine W_seq ?_
  refine W_reg ?_ -- 1 law.go:128
  refine O_calls en7 rfl c_new (fun v1 w1 hC => ?_)
  obtain ⟨b, sv, rfl, hA⟩ := hC
  refine o_assign (v := .pointer _) rfl ?_
  refine O_end ?_
  refine W_seq ?_
  refine W_seq ?_
  refine W_reg ?_ -- 2 law.go:129
  refine O_calls en8 rfl c_awake (fun v2 w2 hC => ?_)
  obtain ⟨rfl, hC⟩ := hC
  have hA := (hA.after hC).take
  refine o_not rfl ?_
  refine o_move (v := .bool _) rfl ?_
  refine O_yes rfl rfl rfl ?_
  refine o_move (v := .pointer _) rfl ?_
  refine O_yes rfl rfl rfl ?_
  refine o_eqnil2 Try.underlying23 rfl rfl (.inl ⟨rfl, rfl⟩) (fun h => (by cases h)) (fun h => ?_)
  refine o_pick_f rfl (v := .bool _) rfl ?_
  refine o_move (v := .bool _) rfl ?_
  refine O_yes rfl rfl rfl ?_
  refine o_move (by conv => lhs; whnf) ?_
  refine O_yes rfl rfl rfl ?_
  refine o_len Try.underlying27 rfl ?_
  refine O_yes rfl rfl rfl ?_
  refine o_cmp2 rfl rfl rfl (fun h => ?_) (fun h => ?_)
  · -- True
    refine o_pick_f rfl (v := .bool _) rfl ?_
    refine O_end ?_
    refine W_then rfl ?_
    refine W_seq ?_
    refine W_reg ?_ -- 3 law.go:130
    refine O_calls en8 rfl c_awake (fun v3 w3 hC => ?_)
    obtain ⟨rfl, hC⟩ := hC
    have hA := (hA.after hC).take
    refine o_assign (v := .bool _) rfl ?_
    refine O_end ?_
    refine W_ret ?_
    refine ⟨rfl, ?_⟩
    refine ret1 Try.results5 (v := .bool _) rfl ?_
    exact ⟨rfl, hA.clear⟩
  · -- False
    have hsm : l.length ≤ 2000 := by simp at h; omega
    refine o_pick_f rfl (v := .bool _) rfl ?_
    refine O_end ?_
    refine W_else rfl ?_
    refine W_skip ?_
    refine W_seq ?_
    refine W_reg ?_ -- 4 law.go:132
    refine o_move (by conv => lhs; whnf) ?_
    refine o_toString Try.underlying27 Try.underlying5 Try.underlying9 rfl (hb.old hA) ?_
    refine o_assign (by conv => lhs; whnf) ?_
    refine O_end ?_
    refine W_seq ?_
    refine W_reg ?_ -- 5 law.go:133
    refine o_buildSlice (cs := []) hA Try.underlying27 ti5 rfl rfl rfl rfl rfl (fun a4 w4 hA => ?_)
    refine o_move (by conv => lhs; whnf) ?_
    refine o_append (i := 0) hA rfl rfl rfl Try.underlying27 ti5 rfl (by decide) (hb.old hA) (fun u hu => by simp only [u8s, List.mem_map] at hu; obtain ⟨q, _, rfl⟩ := hu; rfl) (fun a k h1 h2 => by rw [u8s_len] at h2; simp only [List.length_nil] at h1; omega) (fun a k h1 h2 => by rw [u8s_len] at h2; simp only [List.length_nil] at h1; omega) (fun v5 w5 hA => ?_)
    obtain ⟨mA, mm, mc, rfl⟩ := (hA.row 0 rfl).slice
    obtain rfl : mm = l.length := byte_len (l := l) (hA.row 0 rfl)
    refine o_assign (by conv => lhs; whnf) ?_
    refine O_end ?_
    refine W_seq ?_
    refine W_reg ?_ -- 6 law.go:134
    refine o_move (v := .pointer _) rfl ?_
    refine o_move (by conv => lhs; whnf) ?_
    refine o_build la29 rfl rfl ?_
    refine O_calls en9 rfl (c_send (ds := []) (l := l) (by simp) (hA.rot.own (R := road b sv [])) (hA.rd 0 rfl) (by omega)) (fun v6 w6 hC => ?_)
    rcases hC with ⟨h1, _⟩ | ⟨_, rfl, sv1, xA, xm, xc, hC⟩
    · simp at h1
    have hA := hA.rot.trans (F1 := road b sv []) hC
    refine O_end ?_
    refine W_seq ?_
    refine W_reg ?_ -- 7 law.go:135
    refine o_move (v := .pointer _) rfl ?_
    refine O_calls en12 rfl (c_twin (ds := [⟨0, false, false, xA, xm, xc, l⟩]) (by simp) (by simp; omega) hA.own) (fun v7 w7 hC => ?_)
    rcases hC with ⟨h1, _⟩ | ⟨i, x, hi, hx, ⟨h1, _⟩ | ⟨_, rfl, sv2, zA, zm, zc, hC⟩⟩
    · exact absurd (by simp) h1
    · simp at h1
    obtain rfl : i = 0 := by omega
    obtain rfl := Option.some.inj hx
    clear hx hi
    have hA := hA.trans (F1 := road b sv1 _) hC
    refine O_end ?_
    refine W_seq ?_
    refine W_reg ?_ -- 8 law.go:136
    refine o_move (v := .pointer _) rfl ?_
    refine O_calls en14 rfl (c_letters (ds := [⟨0, false, false, xA, xm, xc, l⟩, ⟨0, false, false, zA, zm, zc, l⟩]) (by simp) (by simp; omega) hA.own) (fun v8 w8 hC => ?_)
    obtain ⟨ds1, v', rfl, hc1, hC⟩ := hC
    obtain ⟨A3, m3, c3, ds2, rfl, hc2⟩ := core_cons hc1
    obtain ⟨A4, m4, c4, ds3, rfl, hc3⟩ := core_cons hc2
    obtain rfl := core_nil hc3
    have hA := hA.after hC
    obtain ⟨LA, Lm, Lc, rfl⟩ := (hC.row 0 rfl).slice
    have hL : Lm = 2 := row_len (hC.row 0 rfl)
    subst hL
    have hL : m3 = l.length := byte_len (hC.row 1 rfl)
    subst hL
    clear hC hc1 hc2 hc3
    refine o_assign (by conv => lhs; whnf) ?_
    refine O_end ?_
    refine W_seq ?_
    refine W_seq ?_
    refine W_reg ?_ -- 9 law.go:137
    refine o_assign (v := .int _ _) rfl ?_
    refine O_end ?_
    refine W_block ?_ -- 0
    refine W_loop (fun kk ρ w' => ∃ (i : Nat) (lm l0 : List UInt8), i ≤ l.length ∧ kk = l.length - i ∧ ρ 7 = .int .i64 (i : Int) ∧ ρ 5 = .slice mA l.length mc ∧ ρ 6 = .slice LA 2 Lc ∧ ρ 3 = .pointer (some ⟨b, 0, none⟩) ∧ ρ 0 = .slice A l.length c ∧ ρ 4 = .string ⟨l.toArray⟩ ∧
      lm.length = l.length ∧ l0.length = l.length ∧ At w No ((road b sv2 [⟨0, false, false, xA, xm, xc, l⟩, ⟨0, false, false, zA, zm, zc, l⟩] ++ [Row 5 1 (.slice mA l.length mc) (u8s lm)]) ++ [Row 29 4 (.slice LA 2 Lc) (flat [⟨0, false, false, A3, l.length, c3, l⟩, ⟨0, false, false, A4, m4, c4, l⟩]), Row 5 1 (.slice A3 l.length c3) (u8s l0), Row 5 1 (.slice A4 m4 c4) (u8s l)]) w') l.length ⟨0, l, l, Nat.zero_le _, by simp, rfl, rfl, rfl, rfl, rfl, rfl, rfl, rfl, hA⟩ ?_
    clear hA h
    rintro kk ρ w1 ⟨i, lm, l0, hi, rfl, h7, h5, h6, h3, h0, h4, hlm, hl0, hA⟩
    refine W_known (t := 7) h7 ?_
    refine W_known (t := 5) h5 ?_
    refine W_known (t := 6) h6 ?_
    refine W_known (t := 3) h3 ?_
    refine W_known (t := 0) h0 ?_
    refine W_known (t := 4) h4 ?_
    refine W_seq ?_
    refine W_seq ?_
    refine W_reg ?_ -- 10 law.go:137
    refine o_move (v := .int _ _) rfl ?_
    refine o_move (by conv => lhs; whnf) ?_
    refine o_len Try.underlying27 rfl ?_
    refine o_cmp2 rfl rfl rfl (fun h => ?_) (fun h => ?_)
    · -- True
      have hlt : i < l.length := by simp at h; omega
      obtain ⟨gm, rfl⟩ := row_some (hA.row 4 rfl) (by omega)
      obtain ⟨g0, rfl⟩ := row_some (hA.row 6 rfl) (by omega)
      obtain ⟨gL, rfl⟩ := row_some (hA.row 5 rfl) (by omega)
      refine O_end ?_
      refine W_then rfl ?_
      refine W_skip ?_
      refine W_seq ?_
      refine W_block ?_ -- 1
      refine W_seq ?_
      refine W_reg ?_ -- 12 law.go:138
      refine o_move (by conv => lhs; whnf) ?_
      refine o_move (v := .int _ _) rfl ?_
      refine o_index Try.underlying27 ti5 rfl rfl (by omega) (by simp at h; omega) ?_
      refine o_load1 ag5 rfl ((hA.rd 4 rfl).cells (j := (i : Int).toNat * 1) (by rw [Nat.mul_one]; exact u8s_get (by omega))) ?_
      refine o_bits (by simp) rfl rfl rfl ?_
      refine o_index Try.underlying27 ti5 rfl rfl (by omega) (by simp at h; omega) ?_
      refine o_storeRow (i := 4) (xs' := u8s (lm.set i _)) hA rfl (by conv => lhs; whnf) rfl ti5 rfl rfl (by rw [u8s_len]; show 0 + i * 1 + 1 ≤ lm.length; omega) rfl (by rw [show 0 + (i : Int).toNat * 1 = i from (by rw [Nat.zero_add, Nat.mul_one]; rfl)]; exact u8s_put (by omega) (bits_u8_range _ _ _)) (fun w2 hA => ?_)
      refine O_end ?_
      refine W_reg ?_ -- 13 law.go:139
      refine o_move (by conv => lhs; whnf) ?_
      refine o_index Try.underlying26 ti29 rfl rfl (by decide) (by decide) ?_
      refine o_fieldAddr fo29_3 rfl rfl ?_
      refine o_load1 ag27 rfl ((hA.rd 5 rfl).cells (j := 3) rfl) ?_
      refine o_move (v := .int _ _) rfl ?_
      refine o_index Try.underlying27 ti5 rfl rfl (by omega) (show (i : Int) < (l.length : Int) from by omega) ?_
      refine o_load1 ag5 rfl ((hA.rd 6 rfl).cells (j := (i : Int).toNat * 1) (by rw [Nat.mul_one]; exact u8s_get (by omega))) ?_
      refine o_bits (by simp) rfl rfl rfl ?_
      refine o_index Try.underlying27 ti5 rfl rfl (by omega) (show (i : Int) < (l.length : Int) from by omega) ?_
      refine o_storeRow (i := 6) (xs' := u8s (l0.set i _)) hA rfl (by conv => lhs; whnf) rfl ti5 rfl rfl (by rw [u8s_len]; show 0 + i * 1 + 1 ≤ l0.length; omega) rfl (by rw [show 0 + (i : Int).toNat * 1 = i from (by rw [Nat.zero_add, Nat.mul_one]; rfl)]; exact u8s_put (by omega) (bits_u8_range _ _ _)) (fun w2 hA => ?_)
      refine O_end ?_
      refine W_reg ?_ -- 11 law.go:137
      refine o_move (v := .int _ _) rfl ?_
      refine o_add rfl rfl (w64 (r := ((i + 1 : Nat) : Int)) (by omega) (by omega) (by omega)) ?_
      refine o_assign (v := .int _ _) rfl ?_
      refine O_end ?_
      exact ⟨l.length - (i + 1), by simp at h; omega, i + 1, _, _, by simp at h; omega, rfl, rfl, rfl, rfl, rfl, rfl, rfl, (by rw [List.length_set]; exact hlm), (by rw [List.length_set]; exact hl0), hA⟩
    · -- False
      refine O_end ?_
      refine W_else rfl ?_
      refine W_exit ?_
      refine xb_hit ?_
      refine W_seq ?_
      refine W_reg ?_ -- 14 law.go:141
      refine o_move (v := .pointer _) rfl ?_
      refine O_calls en13 rfl (c_bend (ds := [⟨0, false, false, xA, xm, xc, l⟩, ⟨0, false, false, zA, zm, zc, l⟩]) (by simp) (by simp; omega) hA.take.take.own1) (fun v11 w11 hC => ?_)
      obtain ⟨v, x0, sv3, rfl, hx0, hA⟩ : ∃ (v : Int) (x0 : RL) (sv3 : Value), v11 = .int .i64 v ∧ x0.l = (if l.length = 0 then l else flipB l 0) ∧ At w No (road b sv3 [x0, ⟨0, false, false, zA, zm, zc, l⟩]) w11 := by
        rcases hC with ⟨h1, _⟩ | ⟨i, x, hi, hx, ⟨h1, _⟩ | ⟨_, h1, rfl, hC⟩ | ⟨_, q, hq, h1, rfl, hC⟩⟩
        · exact absurd (by simp) h1
        · obtain rfl : i = 0 := by omega
          obtain rfl := Option.some.inj hx
          cases h1
        · obtain rfl : i = 0 := by omega
          obtain rfl := Option.some.inj hx
          have h2 : l.length = 0 := by simp only [not_and, Int.not_lt] at h1; have h3 := h1 (Int.le_refl _); omega
          exact ⟨_, _, _, rfl, by rw [if_pos h2], (hA.take.take.trans1 hC)⟩
        · obtain rfl : i = 0 := by omega
          obtain rfl := Option.some.inj hx
          obtain rfl : q = 0 := by omega
          have h2 : l.length ≠ 0 := by simp only [] at h1; omega
          exact ⟨_, _, _, rfl, by rw [if_neg h2], (hA.take.take.trans1 hC)⟩
      clear hC
      have hx0l : x0.l.length = l.length := by
        rw [hx0]
        split
        · rfl
        · exact flipB_len _ _
      refine O_end ?_
      refine W_seq ?_
      refine W_reg ?_ -- 15 law.go:142
      refine o_move (v := .pointer _) rfl ?_
      refine O_calls en14 rfl (c_letters (ds := [x0, ⟨0, false, false, zA, zm, zc, l⟩]) (by simp) (fun x hx => by rcases List.mem_cons.1 hx with rfl | hx; omega; obtain rfl := List.mem_singleton.1 hx; show l.length ≤ _; omega) hA.own1) (fun v12 w12 hC => ?_)
      obtain ⟨ds1, v', rfl, hc1, hC⟩ := hC
      obtain ⟨A5, m5, c5, ds2, rfl, hc2⟩ := core_cons hc1
      obtain ⟨A6, m6, c6, ds3, rfl, hc3⟩ := core_cons hc2
      obtain rfl := core_nil hc3
      have hA := hA.more hC
      obtain ⟨MA, Mm, Mc, rfl⟩ := (hC.row 0 rfl).slice
      have hL : Mm = 2 := row_len (hC.row 0 rfl)
      subst hL
      obtain ⟨gM, rfl⟩ := row_some (hC.row 0 rfl) (by omega)
      refine o_assign (by conv => lhs; whnf) ?_
      refine O_end ?_
      refine W_seq ?_
      refine W_reg ?_ -- 16 law.go:143
      refine o_move (by conv => lhs; whnf) ?_
      refine o_len Try.underlying26 rfl ?_
      refine o_cmp2 rfl rfl rfl (fun h => ?_) (fun h => (by simp at h))
      refine o_move (v := .bool _) rfl ?_
      refine O_yes rfl rfl rfl ?_
      refine o_move (by conv => lhs; whnf) ?_
      refine O_yes rfl rfl rfl ?_
      refine o_index Try.underlying26 ti29 rfl rfl (by decide) (by decide) ?_
      refine O_yes rfl rfl rfl ?_
      refine o_fieldAddr fo29_3 rfl rfl ?_
      refine O_yes rfl rfl rfl ?_
      refine o_load1 ag27 rfl ((hA.rd 0 rfl).cells (j := 7) rfl) ?_
      refine O_yes rfl rfl rfl ?_
      refine o_toString Try.underlying27 Try.underlying5 Try.underlying9 rfl (hA.rd 2 rfl) ?_
      refine O_yes rfl rfl rfl ?_
      refine o_move (by conv => lhs; whnf) ?_
      refine O_yes rfl rfl rfl ?_
      refine o_eqs2 rfl rfl (.inl ⟨rfl, rfl⟩) (fun h => ?_) (fun h => (by have h2 : decide ((⟨l.toArray⟩ : ByteArray) = ⟨l.toArray⟩) = false := h; simp at h2))
      refine o_pick_t rfl (v := .bool _) rfl ?_
      refine o_move (v := .bool _) rfl ?_
      refine O_yes rfl rfl rfl ?_
      refine o_move (by conv => lhs; whnf) ?_
      refine O_yes rfl rfl rfl ?_
      refine o_len Try.underlying27 rfl ?_
      refine O_yes rfl rfl rfl ?_
      refine o_cmp rfl rfl rfl ?_
      refine O_yes rfl rfl rfl ?_
      refine o_move (by conv => lhs; whnf) ?_
      refine O_yes rfl rfl rfl ?_
      refine o_index Try.underlying26 ti29 rfl rfl (by decide) (by decide) ?_
      refine O_yes rfl rfl rfl ?_
      refine o_fieldAddr fo29_3 rfl rfl ?_
      refine O_yes rfl rfl rfl ?_
      refine o_load1 ag27 rfl ((hA.rd 0 rfl).cells (j := 3) rfl) ?_
      refine O_yes rfl rfl rfl ?_
      refine o_toString Try.underlying27 Try.underlying5 Try.underlying9 rfl (hA.rd 1 rfl) ?_
      refine O_yes rfl rfl rfl ?_
      refine o_move (by conv => lhs; whnf) ?_
      refine O_yes rfl rfl rfl ?_
      refine o_eqs rfl rfl (.inl ⟨rfl, rfl⟩) ?_
      refine O_yes rfl rfl rfl ?_
      refine o_eqb Try.underlying4 rfl rfl (.inl ⟨rfl, rfl⟩) ?_
      refine o_pick_t rfl (v := .bool _) rfl ?_
      refine o_assign (v := .bool _) rfl ?_
      refine O_end ?_
      refine W_ret ?_
      refine ⟨rfl, ?_⟩
      refine ret1 Try.results5 (v := .bool _) rfl ?_
      exact ⟨congrArg Value.bool (own_final hx0), hA.clear⟩

end Go.Proofs.Ytpgjmbppbckojaa
