/-
  Words: lists that are one.
-/
import Derived.Test.YtbcaooiphalkoaaRtb
set_option linter.unusedVariables false
set_option linter.unusedSimpArgs false
namespace Go.Proofs.Ytbcaooiphalkoaa
open Go Go.RowKit

theorem map_inj_get {α : Type} {a b : List α} {j : Nat} {x y : α} (h : a = b) (hx : a[j]? = some x) (hy : b[j]? = some y) : x = y := by
  rw [h, hy] at hx; exact (Option.some.inj hx).symm
theorem ext_upto {α : Type} {a b : List α} (hl : a.length = b.length) (h : ∀ i, i < a.length → a[i]? = b[i]?) : a = b :=
  List.ext_getElem? fun i => by
    rcases Nat.lt_or_ge i a.length with h1 | h1
    · exact h i h1
    · rw [List.getElem?_eq_none h1, List.getElem?_eq_none (by omega)]
theorem eq_cd0 (w : World) (a b c d e f : Int) : (Op.equalIn 10000 50 (.agg #[.int .i64 a, .int .u64 b, .int .u64 c]) (.agg #[.int .i64 d, .int .u64 e, .int .u64 f])).run Try.prog w = .ok (a == d && b == e && c == f) w := by
  have u3 := Try.underlying3
  have u4 := Try.underlying48
  have z3 := Try.sizeOf3
  have z4 := Try.sizeOf48
  have a3 := Try.isAgg3
  have a4 := Try.isAgg48
  have hS : Try.prog.underlying 50 = some (.struct (Try.prog.fieldsOf 50)) := by kernel_rfl
  have hp : Try.prog.stoodInHeld 50 = false := by kernel_rfl
  rw [show (10000 : Nat) = 9999 + 1 from rfl, run_equalIn_agg w 9999 50 _ _ hS hp]
  simp only [Program.fieldsOf, Try.underlying50]
  go_simp
  by_cases h1 : a = d <;> by_cases h2 : b = e <;> by_cases h3 : c = f <;> simp [h1, h2, h3]
theorem eq_cd (w : World) (x y : Cd) : (Op.equalIn 10000 50 (.agg (cdc x).toArray) (.agg (cdc y).toArray)).run Try.prog w = .ok (x.w == y.w && (x.l : Int) == (y.l : Int) && (x.k : Int) == (y.k : Int)) w := eq_cd0 w _ _ _ _ _ _

theorem q_ints {w : World} {A A' : Option Addr} {m m' c c' : Nat} {a b : List Int} (hR : Rd w 1 (.slice A m c) (a.map i64v)) (hS : Rd w 1 (.slice A' m' c') (b.map i64v)) (hl : a.length ≤ 9223372036854775807) (hk : b.length ≤ 9223372036854775807) : Calls Try.prog 42 #[.slice A m c, .slice A' m' c'] w fun e w' => ∃ v, e = .returned v ∧ ∃ t : Bool, v = .bool t ∧ (t = true ↔ a = b) ∧ At w No [] w' := by
  obtain rfl := hR.lenp
  obtain rfl := hS.lenp
  refine body_in (n := 26) (l := [.slice A a.length c, .slice A' b.length c']) en42 rfl Try.ntmps42 rfl ?_
  have hA := At.refl w
  refine W_seq ?_
  refine W_reg ?_ -- 0 ref.go:73
  refine o_assign (v := .bool _) rfl ?_
  refine O_end ?_
  refine W_seq ?_
  refine W_seq ?_
  refine W_reg ?_ -- 1 ref.go:74
  refine o_move (by conv => lhs; whnf) ?_
  refine o_len Try.underlying26 rfl ?_
  refine o_move (by conv => lhs; whnf) ?_
  refine o_len Try.underlying26 rfl ?_
  refine o_cmp2 rfl rfl rfl (fun h => ?_) (fun h => ?_)
  · -- True
    have q10 := bne_iff_ne.1 h
    refine O_end ?_
    refine W_then rfl ?_
    refine W_seq ?_
    refine W_reg ?_ -- 2 ref.go:75
    refine o_assign (v := .bool _) rfl ?_
    refine O_end ?_
    refine W_ret ?_
    refine ⟨rfl, ?_⟩
    refine ret1 Try.results42 (v := .bool _) rfl ?_
    exact ⟨false, rfl, ⟨fun h => (by cases h), fun h => by rw [h] at q10; exact absurd rfl q10⟩, hA⟩
  · -- False
    have q10 := bne_eq_false_iff_eq.1 h
    refine O_end ?_
    refine W_else rfl ?_
    refine W_skip ?_
    refine W_seq ?_
    refine W_seq ?_
    refine W_reg ?_ -- 3 ref.go:77
    refine o_assign (v := .int _ _) rfl ?_
    refine O_end ?_
    refine W_block ?_ -- 0
    refine W_loop (fun kk ρ w' => ∃ (j : Nat), kk = a.length - j ∧ j ≤ a.length ∧ ρ 5 = .int .i64 (j : Int) ∧ ρ 0 = .slice A a.length c ∧ ρ 1 = .slice A' b.length c' ∧ (∀ i, i < j → a[i]? = b[i]?) ∧ At w No [] w') a.length
      ⟨0, by simp, Nat.zero_le _, rfl, rfl, rfl, fun i hi => by omega, hA⟩ ?_
    clear hA
    rintro kk ρ w1 ⟨j, rfl, hj, h5, h0, h1, hno, hA⟩
    refine W_known (t := 5) h5 ?_
    refine W_known (t := 0) h0 ?_
    refine W_known (t := 1) h1 ?_
    refine W_seq ?_
    refine W_seq ?_
    refine W_reg ?_ -- 4 ref.go:77
    refine o_move (v := .int _ _) rfl ?_
    refine o_move (by conv => lhs; whnf) ?_
    refine o_len Try.underlying26 rfl ?_
    refine o_cmp2 rfl rfl rfl (fun h => ?_) (fun h => ?_)
    · -- True
      have q14 := of_decide_eq_true h
      have hlt : j < a.length := by omega
      obtain ⟨x, hx⟩ : ∃ x, a[j]? = some x := ⟨_, List.getElem?_eq_getElem hlt⟩
      obtain ⟨y, hy⟩ : ∃ y, b[j]? = some y := ⟨_, List.getElem?_eq_getElem (by omega)⟩
      obtain ⟨g0, o0, rfl⟩ := hR.addr (by decide) (show _ = a.length * 1 by simp) (by omega)
      obtain ⟨g1, o1, rfl⟩ := hS.addr (by decide) (show _ = b.length * 1 by simp) (by omega)
      refine O_end ?_
      refine W_then rfl ?_
      refine W_skip ?_
      refine W_seq ?_
      refine W_block ?_ -- 1
      refine W_seq ?_
      refine W_drawA hA [3, 7] mix rfl rfl (fun w0_6 hA => ?_) -- 6 ref.go:78
      refine D_take 0 rfl (by kernel_rfl) (by rintro _ _ _ ⟨h, _⟩; cases h) rfl (fun h => by cases h) (fun w hA => r_move (by conv => lhs; whnf)) ?_
      refine D_take 1 rfl (by kernel_rfl) (by rintro _ _ _ ⟨h, _⟩; cases h) rfl (fun h => by cases h) (fun w hA => r_move (v := .int _ _) rfl) ?_
      refine D_take 2 rfl (by kernel_rfl) (by rintro _ _ _ ⟨h, _⟩; cases h) rfl (fun h => by cases h) (fun w hA => r_index Try.underlying26 ti3 rfl rfl (by omega) (by omega)) ?_
      refine D_take 3 rfl (by kernel_rfl) (by rintro _ _ _ ⟨h, _⟩; cases h) rfl (fun _ => hA) (fun w hA => r_load1 ag3 rfl ((hR.old (hA rfl)).elt hx)) ?_
      refine D_take 4 rfl (by kernel_rfl) (by rintro _ _ _ ⟨h, _⟩; cases h) rfl (fun h => by cases h) (fun w hA => r_move (by conv => lhs; whnf)) ?_
      refine D_take 5 rfl (by kernel_rfl) (by rintro _ _ _ ⟨h, _⟩; cases h) rfl (fun h => by cases h) (fun w hA => r_move (v := .int _ _) rfl) ?_
      refine D_take 6 rfl (by kernel_rfl) (by rintro _ _ _ ⟨h, _⟩; cases h) rfl (fun h => by cases h) (fun w hA => r_index Try.underlying26 ti3 rfl rfl (by omega) (by omega)) ?_
      refine D_take 7 rfl (by kernel_rfl) (by rintro _ _ _ ⟨h, _⟩; cases h) rfl (fun _ => hA) (fun w hA => r_load1 ag3 rfl ((hS.old (hA rfl)).elt hy)) ?_
      refine D_takeb 8 rfl (by kernel_rfl) (by rintro _ _ _ ⟨h, _⟩; cases h) rfl (fun h => by cases h) (fun w hA => r_cmp rfl rfl rfl) (fun h => ?_) (fun h => ?_)
      · -- True
        have q25 := bne_iff_ne.1 h
        refine D_done (by kernel_rfl) ?_
        refine W_then rfl ?_
        refine W_seq ?_
        refine W_reg ?_ -- 7 ref.go:79
        refine o_assign (v := .bool _) rfl ?_
        refine O_end ?_
        refine W_ret ?_
        refine xb_ret ?_
        refine xb_ret ?_
        refine ⟨rfl, ?_⟩
        refine ret1 Try.results42 (v := .bool _) rfl ?_
        exact ⟨false, rfl, ⟨fun h => (by cases h), fun h => by
          have h5 := map_inj_get h hx hy
          subst h5
          exact absurd rfl q25⟩, hA⟩
      · -- False
        have q25 := bne_eq_false_iff_eq.1 h
        refine D_done (by kernel_rfl) ?_
        refine W_else rfl ?_
        refine W_skip ?_
        refine W_reg ?_ -- 5 ref.go:77
        refine o_move (v := .int _ _) rfl ?_
        refine o_add rfl rfl (w64 (r := ((j + 1 : Nat) : Int)) (by omega) (by omega) (by omega)) ?_
        refine o_assign (v := .int _ _) rfl ?_
        refine O_end ?_
        have h6 : x = y := by omega
        refine ⟨a.length - (j + 1), by omega, j + 1, rfl, by omega, rfl, rfl, rfl, fun i hi => ?_, hA⟩
        by_cases e : i = j
        · rw [e, hx, hy, h6]
        · exact hno i (by omega)
    · -- False
      have q14 := of_decide_eq_false h
      refine O_end ?_
      refine W_else rfl ?_
      refine W_exit ?_
      refine xb_hit ?_
      refine W_seq ?_
      refine W_reg ?_ -- 8 ref.go:82
      refine o_assign (v := .bool _) rfl ?_
      refine O_end ?_
      refine W_ret ?_
      refine ⟨rfl, ?_⟩
      refine ret1 Try.results42 (v := .bool _) rfl ?_
      exact ⟨true, rfl, ⟨fun _ => ext_upto (by omega) fun i hi => hno i (by omega), fun _ => rfl⟩, hA⟩

theorem q_cells {w : World} {A A' : Option Addr} {m m' c c' : Nat} {a b : List Nat} (hR : Rd w 1 (.slice A m c) (a.map u32v)) (hS : Rd w 1 (.slice A' m' c') (b.map u32v)) (hl : a.length ≤ 9223372036854775807) (hk : b.length ≤ 9223372036854775807) : Calls Try.prog 43 #[.slice A m c, .slice A' m' c'] w fun e w' => ∃ v, e = .returned v ∧ ∃ t : Bool, v = .bool t ∧ (t = true ↔ a = b) ∧ At w No [] w' := by
  obtain rfl := hR.lenp
  obtain rfl := hS.lenp
  refine body_in (n := 26) (l := [.slice A a.length c, .slice A' b.length c']) en43 rfl Try.ntmps43 rfl ?_
  have hA := At.refl w
  refine W_seq ?_
  refine W_reg ?_ -- 0 ref.go:86
  refine o_assign (v := .bool _) rfl ?_
  refine O_end ?_
  refine W_seq ?_
  refine W_seq ?_
  refine W_reg ?_ -- 1 ref.go:87
  refine o_move (by conv => lhs; whnf) ?_
  refine o_len Try.underlying25 rfl ?_
  refine o_move (by conv => lhs; whnf) ?_
  refine o_len Try.underlying25 rfl ?_
  refine o_cmp2 rfl rfl rfl (fun h => ?_) (fun h => ?_)
  · -- True
    have q10 := bne_iff_ne.1 h
    refine O_end ?_
    refine W_then rfl ?_
    refine W_seq ?_
    refine W_reg ?_ -- 2 ref.go:88
    refine o_assign (v := .bool _) rfl ?_
    refine O_end ?_
    refine W_ret ?_
    refine ⟨rfl, ?_⟩
    refine ret1 Try.results43 (v := .bool _) rfl ?_
    exact ⟨false, rfl, ⟨fun h => (by cases h), fun h => by rw [h] at q10; exact absurd rfl q10⟩, hA⟩
  · -- False
    have q10 := bne_eq_false_iff_eq.1 h
    refine O_end ?_
    refine W_else rfl ?_
    refine W_skip ?_
    refine W_seq ?_
    refine W_seq ?_
    refine W_reg ?_ -- 3 ref.go:90
    refine o_assign (v := .int _ _) rfl ?_
    refine O_end ?_
    refine W_block ?_ -- 0
    refine W_loop (fun kk ρ w' => ∃ (j : Nat), kk = a.length - j ∧ j ≤ a.length ∧ ρ 5 = .int .i64 (j : Int) ∧ ρ 0 = .slice A a.length c ∧ ρ 1 = .slice A' b.length c' ∧ (∀ i, i < j → a[i]? = b[i]?) ∧ At w No [] w') a.length
      ⟨0, by simp, Nat.zero_le _, rfl, rfl, rfl, fun i hi => by omega, hA⟩ ?_
    clear hA
    rintro kk ρ w1 ⟨j, rfl, hj, h5, h0, h1, hno, hA⟩
    refine W_known (t := 5) h5 ?_
    refine W_known (t := 0) h0 ?_
    refine W_known (t := 1) h1 ?_
    refine W_seq ?_
    refine W_seq ?_
    refine W_reg ?_ -- 4 ref.go:90
    refine o_move (v := .int _ _) rfl ?_
    refine o_move (by conv => lhs; whnf) ?_
    refine o_len Try.underlying25 rfl ?_
    refine o_cmp2 rfl rfl rfl (fun h => ?_) (fun h => ?_)
    · -- True
      have q14 := of_decide_eq_true h
      have hlt : j < a.length := by omega
      obtain ⟨x, hx⟩ : ∃ x, a[j]? = some x := ⟨_, List.getElem?_eq_getElem hlt⟩
      obtain ⟨y, hy⟩ : ∃ y, b[j]? = some y := ⟨_, List.getElem?_eq_getElem (by omega)⟩
      obtain ⟨g0, o0, rfl⟩ := hR.addr (by decide) (show _ = a.length * 1 by simp) (by omega)
      obtain ⟨g1, o1, rfl⟩ := hS.addr (by decide) (show _ = b.length * 1 by simp) (by omega)
      refine O_end ?_
      refine W_then rfl ?_
      refine W_skip ?_
      refine W_seq ?_
      refine W_block ?_ -- 1
      refine W_seq ?_
      refine W_drawA hA [3, 7] mix rfl rfl (fun w0_6 hA => ?_) -- 6 ref.go:91
      refine D_take 0 rfl (by kernel_rfl) (by rintro _ _ _ ⟨h, _⟩; cases h) rfl (fun h => by cases h) (fun w hA => r_move (by conv => lhs; whnf)) ?_
      refine D_take 1 rfl (by kernel_rfl) (by rintro _ _ _ ⟨h, _⟩; cases h) rfl (fun h => by cases h) (fun w hA => r_move (v := .int _ _) rfl) ?_
      refine D_take 2 rfl (by kernel_rfl) (by rintro _ _ _ ⟨h, _⟩; cases h) rfl (fun h => by cases h) (fun w hA => r_index Try.underlying25 ti63 rfl rfl (by omega) (by omega)) ?_
      refine D_take 3 rfl (by kernel_rfl) (by rintro _ _ _ ⟨h, _⟩; cases h) rfl (fun _ => hA) (fun w hA => r_load1 ag63 rfl ((hR.old (hA rfl)).elt hx)) ?_
      refine D_take 4 rfl (by kernel_rfl) (by rintro _ _ _ ⟨h, _⟩; cases h) rfl (fun h => by cases h) (fun w hA => r_move (by conv => lhs; whnf)) ?_
      refine D_take 5 rfl (by kernel_rfl) (by rintro _ _ _ ⟨h, _⟩; cases h) rfl (fun h => by cases h) (fun w hA => r_move (v := .int _ _) rfl) ?_
      refine D_take 6 rfl (by kernel_rfl) (by rintro _ _ _ ⟨h, _⟩; cases h) rfl (fun h => by cases h) (fun w hA => r_index Try.underlying25 ti63 rfl rfl (by omega) (by omega)) ?_
      refine D_take 7 rfl (by kernel_rfl) (by rintro _ _ _ ⟨h, _⟩; cases h) rfl (fun _ => hA) (fun w hA => r_load1 ag63 rfl ((hS.old (hA rfl)).elt hy)) ?_
      refine D_takeb 8 rfl (by kernel_rfl) (by rintro _ _ _ ⟨h, _⟩; cases h) rfl (fun h => by cases h) (fun w hA => r_cmp rfl rfl rfl) (fun h => ?_) (fun h => ?_)
      · -- True
        have q25 := bne_iff_ne.1 h
        refine D_done (by kernel_rfl) ?_
        refine W_then rfl ?_
        refine W_seq ?_
        refine W_reg ?_ -- 7 ref.go:92
        refine o_assign (v := .bool _) rfl ?_
        refine O_end ?_
        refine W_ret ?_
        refine xb_ret ?_
        refine xb_ret ?_
        refine ⟨rfl, ?_⟩
        refine ret1 Try.results43 (v := .bool _) rfl ?_
        exact ⟨false, rfl, ⟨fun h => (by cases h), fun h => by
          have h5 := map_inj_get h hx hy
          subst h5
          exact absurd rfl q25⟩, hA⟩
      · -- False
        have q25 := bne_eq_false_iff_eq.1 h
        refine D_done (by kernel_rfl) ?_
        refine W_else rfl ?_
        refine W_skip ?_
        refine W_reg ?_ -- 5 ref.go:90
        refine o_move (v := .int _ _) rfl ?_
        refine o_add rfl rfl (w64 (r := ((j + 1 : Nat) : Int)) (by omega) (by omega) (by omega)) ?_
        refine o_assign (v := .int _ _) rfl ?_
        refine O_end ?_
        have h6 : x = y := by omega
        refine ⟨a.length - (j + 1), by omega, j + 1, rfl, by omega, rfl, rfl, rfl, fun i hi => ?_, hA⟩
        by_cases e : i = j
        · rw [e, hx, hy, h6]
        · exact hno i (by omega)
    · -- False
      have q14 := of_decide_eq_false h
      refine O_end ?_
      refine W_else rfl ?_
      refine W_exit ?_
      refine xb_hit ?_
      refine W_seq ?_
      refine W_reg ?_ -- 8 ref.go:95
      refine o_assign (v := .bool _) rfl ?_
      refine O_end ?_
      refine W_ret ?_
      refine ⟨rfl, ?_⟩
      refine ret1 Try.results43 (v := .bool _) rfl ?_
      exact ⟨true, rfl, ⟨fun _ => ext_upto (by omega) fun i hi => hno i (by omega), fun _ => rfl⟩, hA⟩

theorem q_same {w : World} {A A' : Option Addr} {m m' c c' : Nat} {a b : List Nat} (hR : Rd w 1 (.slice A m c) (a.map u64v)) (hS : Rd w 1 (.slice A' m' c') (b.map u64v)) (hl : a.length ≤ 9223372036854775807) (hk : b.length ≤ 9223372036854775807) : Calls Try.prog 44 #[.slice A m c, .slice A' m' c'] w fun e w' => ∃ v, e = .returned v ∧ ∃ t : Bool, v = .bool t ∧ (t = true ↔ a = b) ∧ At w No [] w' := by
  obtain rfl := hR.lenp
  obtain rfl := hS.lenp
  refine body_in (n := 26) (l := [.slice A a.length c, .slice A' b.length c']) en44 rfl Try.ntmps44 rfl ?_
  have hA := At.refl w
  refine W_seq ?_
  refine W_reg ?_ -- 0 ref.go:60
  refine o_assign (v := .bool _) rfl ?_
  refine O_end ?_
  refine W_seq ?_
  refine W_seq ?_
  refine W_reg ?_ -- 1 ref.go:61
  refine o_move (by conv => lhs; whnf) ?_
  refine o_len Try.underlying53 rfl ?_
  refine o_move (by conv => lhs; whnf) ?_
  refine o_len Try.underlying53 rfl ?_
  refine o_cmp2 rfl rfl rfl (fun h => ?_) (fun h => ?_)
  · -- True
    have q10 := bne_iff_ne.1 h
    refine O_end ?_
    refine W_then rfl ?_
    refine W_seq ?_
    refine W_reg ?_ -- 2 ref.go:62
    refine o_assign (v := .bool _) rfl ?_
    refine O_end ?_
    refine W_ret ?_
    refine ⟨rfl, ?_⟩
    refine ret1 Try.results44 (v := .bool _) rfl ?_
    exact ⟨false, rfl, ⟨fun h => (by cases h), fun h => by rw [h] at q10; exact absurd rfl q10⟩, hA⟩
  · -- False
    have q10 := bne_eq_false_iff_eq.1 h
    refine O_end ?_
    refine W_else rfl ?_
    refine W_skip ?_
    refine W_seq ?_
    refine W_seq ?_
    refine W_reg ?_ -- 3 ref.go:64
    refine o_assign (v := .int _ _) rfl ?_
    refine O_end ?_
    refine W_block ?_ -- 0
    refine W_loop (fun kk ρ w' => ∃ (j : Nat), kk = a.length - j ∧ j ≤ a.length ∧ ρ 5 = .int .i64 (j : Int) ∧ ρ 0 = .slice A a.length c ∧ ρ 1 = .slice A' b.length c' ∧ (∀ i, i < j → a[i]? = b[i]?) ∧ At w No [] w') a.length
      ⟨0, by simp, Nat.zero_le _, rfl, rfl, rfl, fun i hi => by omega, hA⟩ ?_
    clear hA
    rintro kk ρ w1 ⟨j, rfl, hj, h5, h0, h1, hno, hA⟩
    refine W_known (t := 5) h5 ?_
    refine W_known (t := 0) h0 ?_
    refine W_known (t := 1) h1 ?_
    refine W_seq ?_
    refine W_seq ?_
    refine W_reg ?_ -- 4 ref.go:64
    refine o_move (v := .int _ _) rfl ?_
    refine o_move (by conv => lhs; whnf) ?_
    refine o_len Try.underlying53 rfl ?_
    refine o_cmp2 rfl rfl rfl (fun h => ?_) (fun h => ?_)
    · -- True
      have q14 := of_decide_eq_true h
      have hlt : j < a.length := by omega
      obtain ⟨x, hx⟩ : ∃ x, a[j]? = some x := ⟨_, List.getElem?_eq_getElem hlt⟩
      obtain ⟨y, hy⟩ : ∃ y, b[j]? = some y := ⟨_, List.getElem?_eq_getElem (by omega)⟩
      obtain ⟨g0, o0, rfl⟩ := hR.addr (by decide) (show _ = a.length * 1 by simp) (by omega)
      obtain ⟨g1, o1, rfl⟩ := hS.addr (by decide) (show _ = b.length * 1 by simp) (by omega)
      refine O_end ?_
      refine W_then rfl ?_
      refine W_skip ?_
      refine W_seq ?_
      refine W_block ?_ -- 1
      refine W_seq ?_
      refine W_drawA hA [3, 7] mix rfl rfl (fun w0_6 hA => ?_) -- 6 ref.go:65
      refine D_take 0 rfl (by kernel_rfl) (by rintro _ _ _ ⟨h, _⟩; cases h) rfl (fun h => by cases h) (fun w hA => r_move (by conv => lhs; whnf)) ?_
      refine D_take 1 rfl (by kernel_rfl) (by rintro _ _ _ ⟨h, _⟩; cases h) rfl (fun h => by cases h) (fun w hA => r_move (v := .int _ _) rfl) ?_
      refine D_take 2 rfl (by kernel_rfl) (by rintro _ _ _ ⟨h, _⟩; cases h) rfl (fun h => by cases h) (fun w hA => r_index Try.underlying53 ti48 rfl rfl (by omega) (by omega)) ?_
      refine D_take 3 rfl (by kernel_rfl) (by rintro _ _ _ ⟨h, _⟩; cases h) rfl (fun _ => hA) (fun w hA => r_load1 ag48 rfl ((hR.old (hA rfl)).elt hx)) ?_
      refine D_take 4 rfl (by kernel_rfl) (by rintro _ _ _ ⟨h, _⟩; cases h) rfl (fun h => by cases h) (fun w hA => r_move (by conv => lhs; whnf)) ?_
      refine D_take 5 rfl (by kernel_rfl) (by rintro _ _ _ ⟨h, _⟩; cases h) rfl (fun h => by cases h) (fun w hA => r_move (v := .int _ _) rfl) ?_
      refine D_take 6 rfl (by kernel_rfl) (by rintro _ _ _ ⟨h, _⟩; cases h) rfl (fun h => by cases h) (fun w hA => r_index Try.underlying53 ti48 rfl rfl (by omega) (by omega)) ?_
      refine D_take 7 rfl (by kernel_rfl) (by rintro _ _ _ ⟨h, _⟩; cases h) rfl (fun _ => hA) (fun w hA => r_load1 ag48 rfl ((hS.old (hA rfl)).elt hy)) ?_
      refine D_takeb 8 rfl (by kernel_rfl) (by rintro _ _ _ ⟨h, _⟩; cases h) rfl (fun h => by cases h) (fun w hA => r_cmp rfl rfl rfl) (fun h => ?_) (fun h => ?_)
      · -- True
        have q25 := bne_iff_ne.1 h
        refine D_done (by kernel_rfl) ?_
        refine W_then rfl ?_
        refine W_seq ?_
        refine W_reg ?_ -- 7 ref.go:66
        refine o_assign (v := .bool _) rfl ?_
        refine O_end ?_
        refine W_ret ?_
        refine xb_ret ?_
        refine xb_ret ?_
        refine ⟨rfl, ?_⟩
        refine ret1 Try.results44 (v := .bool _) rfl ?_
        exact ⟨false, rfl, ⟨fun h => (by cases h), fun h => by
          have h5 := map_inj_get h hx hy
          subst h5
          exact absurd rfl q25⟩, hA⟩
      · -- False
        have q25 := bne_eq_false_iff_eq.1 h
        refine D_done (by kernel_rfl) ?_
        refine W_else rfl ?_
        refine W_skip ?_
        refine W_reg ?_ -- 5 ref.go:64
        refine o_move (v := .int _ _) rfl ?_
        refine o_add rfl rfl (w64 (r := ((j + 1 : Nat) : Int)) (by omega) (by omega) (by omega)) ?_
        refine o_assign (v := .int _ _) rfl ?_
        refine O_end ?_
        have h6 : x = y := by omega
        refine ⟨a.length - (j + 1), by omega, j + 1, rfl, by omega, rfl, rfl, rfl, fun i hi => ?_, hA⟩
        by_cases e : i = j
        · rw [e, hx, hy, h6]
        · exact hno i (by omega)
    · -- False
      have q14 := of_decide_eq_false h
      refine O_end ?_
      refine W_else rfl ?_
      refine W_exit ?_
      refine xb_hit ?_
      refine W_seq ?_
      refine W_reg ?_ -- 8 ref.go:69
      refine o_assign (v := .bool _) rfl ?_
      refine O_end ?_
      refine W_ret ?_
      refine ⟨rfl, ?_⟩
      refine ret1 Try.results44 (v := .bool _) rfl ?_
      exact ⟨true, rfl, ⟨fun _ => ext_upto (by omega) fun i hi => hno i (by omega), fun _ => rfl⟩, hA⟩

theorem s_eqc {w : World} {A A' : Option Addr} {m m' c c' : Nat} {a b : List Cd} (hR : Rd w 3 (.slice A m c) (a.flatMap cdc)) (hS : Rd w 3 (.slice A' m' c') (b.flatMap cdc)) (hl : a.length ≤ 9223372036854775807) (hk : b.length ≤ 9223372036854775807) : Calls Try.prog 45 #[.slice A m c, .slice A' m' c'] w fun e w' => ∃ v, e = .returned v ∧ ∃ t : Bool, v = .bool t ∧ (t = true ↔ a = b) ∧ At w No [] w' := by
  obtain rfl := hR.lenf (fun _ => rfl) (by decide)
  obtain rfl := hS.lenf (fun _ => rfl) (by decide)
  refine body_in (n := 26) (l := [.slice A a.length c, .slice A' b.length c']) en45 rfl Try.ntmps45 rfl ?_
  have hA := At.refl w
  refine W_seq ?_
  refine W_reg ?_ -- 0 slices.go:20
  refine o_assign (v := .bool _) rfl ?_
  refine O_end ?_
  refine W_seq ?_
  refine W_seq ?_
  refine W_reg ?_ -- 1 slices.go:21
  refine o_move (by conv => lhs; whnf) ?_
  refine o_len Try.underlying23 rfl ?_
  refine o_move (by conv => lhs; whnf) ?_
  refine o_len Try.underlying23 rfl ?_
  refine o_cmp2 rfl rfl rfl (fun h => ?_) (fun h => ?_)
  · -- True
    have q10 := bne_iff_ne.1 h
    refine O_end ?_
    refine W_then rfl ?_
    refine W_seq ?_
    refine W_reg ?_ -- 2 slices.go:22
    refine o_assign (v := .bool _) rfl ?_
    refine O_end ?_
    refine W_ret ?_
    refine ⟨rfl, ?_⟩
    refine ret1 Try.results45 (v := .bool _) rfl ?_
    exact ⟨false, rfl, ⟨fun h => (by cases h), fun h => by rw [h] at q10; exact absurd rfl q10⟩, hA⟩
  · -- False
    have q10 := bne_eq_false_iff_eq.1 h
    refine O_end ?_
    refine W_else rfl ?_
    refine W_skip ?_
    refine W_seq ?_
    refine W_seq ?_
    refine W_reg ?_ -- 3 slices.go:24
    refine o_move (by conv => lhs; whnf) ?_
    refine o_len Try.underlying23 rfl ?_
    refine o_move (v := .int _ _) rfl ?_
    refine O_end ?_
    refine W_block ?_ -- 0
    refine W_loop (fun kk ρ w' => ∃ (j : Nat), kk = a.length - j ∧ j ≤ a.length ∧ ρ 13 = .int .i64 (j : Int) ∧ ρ 0 = .slice A a.length c ∧ ρ 1 = .slice A' b.length c' ∧ ρ 12 = .int .i64 (a.length : Int) ∧ (∀ i, i < j → a[i]? = b[i]?) ∧ At w No [] w') a.length
      ⟨0, by simp, Nat.zero_le _, rfl, rfl, rfl, rfl, fun i hi => by omega, hA⟩ ?_
    clear hA
    rintro kk ρ w1 ⟨j, rfl, hj, h13, h0, h1, h12, hno, hA⟩
    refine W_known (t := 13) h13 ?_
    refine W_known (t := 0) h0 ?_
    refine W_known (t := 1) h1 ?_
    refine W_known (t := 12) h12 ?_
    refine W_seq ?_
    refine W_reg ?_ -- 4 slices.go:24
    refine o_cmp2 rfl rfl rfl (fun h => ?_) (fun h => ?_)
    · -- True
      have q14 := of_decide_eq_true h
      have hlt : j < a.length := by omega
      obtain ⟨x, hx⟩ : ∃ x, a[j]? = some x := ⟨_, List.getElem?_eq_getElem hlt⟩
      obtain ⟨y, hy⟩ : ∃ y, b[j]? = some y := ⟨_, List.getElem?_eq_getElem (by omega)⟩
      obtain ⟨g0, o0, rfl⟩ := hR.addr (by decide) (fm_len (s := 3) (fun _ => rfl) a) (by omega)
      obtain ⟨g1, o1, rfl⟩ := hS.addr (by decide) (fm_len (s := 3) (fun _ => rfl) b) (by omega)
      refine O_end ?_
      refine W_seq ?_
      refine W_then rfl ?_
      refine W_skip ?_
      refine W_seq ?_
      refine W_block ?_ -- 1
      refine W_seq ?_
      refine W_reg ?_ -- 5 slices.go:24
      refine o_move (v := .int _ _) rfl ?_
      refine o_assign (v := .int _ _) rfl ?_
      refine O_end ?_
      refine W_seq ?_
      refine W_drawA hA [3, 7] mix rfl rfl (fun w0_6 hA => ?_) -- 6 slices.go:25
      refine D_take 0 rfl (by kernel_rfl) (by rintro _ _ _ ⟨h, _⟩; cases h) rfl (fun h => by cases h) (fun w hA => r_move (by conv => lhs; whnf)) ?_
      refine D_take 1 rfl (by kernel_rfl) (by rintro _ _ _ ⟨h, _⟩; cases h) rfl (fun h => by cases h) (fun w hA => r_move (v := .int _ _) rfl) ?_
      refine D_take 2 rfl (by kernel_rfl) (by rintro _ _ _ ⟨h, _⟩; cases h) rfl (fun h => by cases h) (fun w hA => r_index Try.underlying23 ti50 rfl rfl (by omega) (by omega)) ?_
      refine D_take 3 rfl (by kernel_rfl) (by rintro _ _ _ ⟨h, _⟩; cases h) rfl (fun _ => hA) (fun w hA => r_loadN ag50 ti50 rfl (cs := cdc x) rfl (fun j v hj => (hR.old (hA rfl)).fld (fun _ => rfl) hx hj)) ?_
      refine D_take 4 rfl (by kernel_rfl) (by rintro _ _ _ ⟨h, _⟩; cases h) rfl (fun h => by cases h) (fun w hA => r_move (by conv => lhs; whnf)) ?_
      refine D_take 5 rfl (by kernel_rfl) (by rintro _ _ _ ⟨h, _⟩; cases h) rfl (fun h => by cases h) (fun w hA => r_move (v := .int _ _) rfl) ?_
      refine D_take 6 rfl (by kernel_rfl) (by rintro _ _ _ ⟨h, _⟩; cases h) rfl (fun h => by cases h) (fun w hA => r_index Try.underlying23 ti50 rfl rfl (by omega) (by omega)) ?_
      refine D_take 7 rfl (by kernel_rfl) (by rintro _ _ _ ⟨h, _⟩; cases h) rfl (fun _ => hA) (fun w hA => r_loadN ag50 ti50 rfl (cs := cdc y) rfl (fun j v hj => (hS.old (hA rfl)).fld (fun _ => rfl) hy hj)) ?_
      refine D_takeb 8 rfl (by kernel_rfl) (by rintro _ _ _ ⟨h, _⟩; cases h) rfl (fun h => by cases h) (fun w hA => r_eqagg rfl rfl (by kernel_rfl) (fun w => eq_cd w x y) (.inr ⟨rfl, rfl⟩)) (fun h => ?_) (fun h => ?_)
      · -- True
        have q24 := h
        refine D_done (by kernel_rfl) ?_
        refine W_then rfl ?_
        refine W_seq ?_
        refine W_reg ?_ -- 7 slices.go:26
        refine o_assign (v := .bool _) rfl ?_
        refine O_end ?_
        refine W_ret ?_
        refine xb_ret ?_
        refine xb_ret ?_
        refine ⟨rfl, ?_⟩
        refine ret1 Try.results45 (v := .bool _) rfl ?_
        exact ⟨false, rfl, ⟨fun h => (by cases h), fun h => by
          have h5 := map_inj_get h hx hy
          subst h5
          rw [beq_self_eq_true, beq_self_eq_true, beq_self_eq_true] at q24
          cases q24⟩, hA⟩
      · -- False
        have q24 := h
        refine D_done (by kernel_rfl) ?_
        refine W_else rfl ?_
        refine W_skip ?_
        refine W_reg ?_ -- 8 slices.go:24
        refine o_add rfl rfl (w64 (r := ((j + 1 : Nat) : Int)) (by omega) (by omega) (by omega)) ?_
        refine o_move (v := .int _ _) rfl ?_
        refine O_end ?_
        have h6 : x = y := by
          obtain ⟨xa, xb, xc⟩ := x
          obtain ⟨ya, yb, yc⟩ := y
          simp at q24
          obtain ⟨⟨h1, h2⟩, h3⟩ := q24
          have h2 : xb = yb := by omega
          have h3 : xc = yc := by omega
          rw [h1, h2, h3]
        refine ⟨a.length - (j + 1), by omega, j + 1, rfl, by omega, rfl, rfl, rfl, rfl, fun i hi => ?_, hA⟩
        by_cases e : i = j
        · rw [e, hx, hy, h6]
        · exact hno i (by omega)
    · -- False
      have q14 := of_decide_eq_false h
      refine O_end ?_
      refine W_seq ?_
      refine W_else rfl ?_
      refine W_exit ?_
      refine xb_hit ?_
      refine W_seq ?_
      refine W_reg ?_ -- 9 slices.go:29
      refine o_assign (v := .bool _) rfl ?_
      refine O_end ?_
      refine W_ret ?_
      refine ⟨rfl, ?_⟩
      refine ret1 Try.results45 (v := .bool _) rfl ?_
      exact ⟨true, rfl, ⟨fun _ => ext_upto (by omega) fun i hi => hno i (by omega), fun _ => rfl⟩, hA⟩

theorem s_eqv {w : World} {A A' : Option Addr} {m m' c c' : Nat} {a b : List Nat} (hR : Rd w 1 (.slice A m c) (a.map u32v)) (hS : Rd w 1 (.slice A' m' c') (b.map u32v)) (hl : a.length ≤ 9223372036854775807) (hk : b.length ≤ 9223372036854775807) : Calls Try.prog 46 #[.slice A m c, .slice A' m' c'] w fun e w' => ∃ v, e = .returned v ∧ ∃ t : Bool, v = .bool t ∧ (t = true ↔ a = b) ∧ At w No [] w' := by
  obtain rfl := hR.lenp
  obtain rfl := hS.lenp
  refine body_in (n := 26) (l := [.slice A a.length c, .slice A' b.length c']) en46 rfl Try.ntmps46 rfl ?_
  have hA := At.refl w
  refine W_seq ?_
  refine W_reg ?_ -- 0 slices.go:20
  refine o_assign (v := .bool _) rfl ?_
  refine O_end ?_
  refine W_seq ?_
  refine W_seq ?_
  refine W_reg ?_ -- 1 slices.go:21
  refine o_move (by conv => lhs; whnf) ?_
  refine o_len Try.underlying25 rfl ?_
  refine o_move (by conv => lhs; whnf) ?_
  refine o_len Try.underlying25 rfl ?_
  refine o_cmp2 rfl rfl rfl (fun h => ?_) (fun h => ?_)
  · -- True
    have q10 := bne_iff_ne.1 h
    refine O_end ?_
    refine W_then rfl ?_
    refine W_seq ?_
    refine W_reg ?_ -- 2 slices.go:22
    refine o_assign (v := .bool _) rfl ?_
    refine O_end ?_
    refine W_ret ?_
    refine ⟨rfl, ?_⟩
    refine ret1 Try.results46 (v := .bool _) rfl ?_
    exact ⟨false, rfl, ⟨fun h => (by cases h), fun h => by rw [h] at q10; exact absurd rfl q10⟩, hA⟩
  · -- False
    have q10 := bne_eq_false_iff_eq.1 h
    refine O_end ?_
    refine W_else rfl ?_
    refine W_skip ?_
    refine W_seq ?_
    refine W_seq ?_
    refine W_reg ?_ -- 3 slices.go:24
    refine o_move (by conv => lhs; whnf) ?_
    refine o_len Try.underlying25 rfl ?_
    refine o_move (v := .int _ _) rfl ?_
    refine O_end ?_
    refine W_block ?_ -- 0
    refine W_loop (fun kk ρ w' => ∃ (j : Nat), kk = a.length - j ∧ j ≤ a.length ∧ ρ 13 = .int .i64 (j : Int) ∧ ρ 0 = .slice A a.length c ∧ ρ 1 = .slice A' b.length c' ∧ ρ 12 = .int .i64 (a.length : Int) ∧ (∀ i, i < j → a[i]? = b[i]?) ∧ At w No [] w') a.length
      ⟨0, by simp, Nat.zero_le _, rfl, rfl, rfl, rfl, fun i hi => by omega, hA⟩ ?_
    clear hA
    rintro kk ρ w1 ⟨j, rfl, hj, h13, h0, h1, h12, hno, hA⟩
    refine W_known (t := 13) h13 ?_
    refine W_known (t := 0) h0 ?_
    refine W_known (t := 1) h1 ?_
    refine W_known (t := 12) h12 ?_
    refine W_seq ?_
    refine W_reg ?_ -- 4 slices.go:24
    refine o_cmp2 rfl rfl rfl (fun h => ?_) (fun h => ?_)
    · -- True
      have q14 := of_decide_eq_true h
      have hlt : j < a.length := by omega
      obtain ⟨x, hx⟩ : ∃ x, a[j]? = some x := ⟨_, List.getElem?_eq_getElem hlt⟩
      obtain ⟨y, hy⟩ : ∃ y, b[j]? = some y := ⟨_, List.getElem?_eq_getElem (by omega)⟩
      obtain ⟨g0, o0, rfl⟩ := hR.addr (by decide) (show _ = a.length * 1 by simp) (by omega)
      obtain ⟨g1, o1, rfl⟩ := hS.addr (by decide) (show _ = b.length * 1 by simp) (by omega)
      refine O_end ?_
      refine W_seq ?_
      refine W_then rfl ?_
      refine W_skip ?_
      refine W_seq ?_
      refine W_block ?_ -- 1
      refine W_seq ?_
      refine W_reg ?_ -- 5 slices.go:24
      refine o_move (v := .int _ _) rfl ?_
      refine o_assign (v := .int _ _) rfl ?_
      refine O_end ?_
      refine W_seq ?_
      refine W_drawA hA [3, 7] mix rfl rfl (fun w0_6 hA => ?_) -- 6 slices.go:25
      refine D_take 0 rfl (by kernel_rfl) (by rintro _ _ _ ⟨h, _⟩; cases h) rfl (fun h => by cases h) (fun w hA => r_move (by conv => lhs; whnf)) ?_
      refine D_take 1 rfl (by kernel_rfl) (by rintro _ _ _ ⟨h, _⟩; cases h) rfl (fun h => by cases h) (fun w hA => r_move (v := .int _ _) rfl) ?_
      refine D_take 2 rfl (by kernel_rfl) (by rintro _ _ _ ⟨h, _⟩; cases h) rfl (fun h => by cases h) (fun w hA => r_index Try.underlying25 ti63 rfl rfl (by omega) (by omega)) ?_
      refine D_take 3 rfl (by kernel_rfl) (by rintro _ _ _ ⟨h, _⟩; cases h) rfl (fun _ => hA) (fun w hA => r_load1 ag63 rfl ((hR.old (hA rfl)).elt hx)) ?_
      refine D_take 4 rfl (by kernel_rfl) (by rintro _ _ _ ⟨h, _⟩; cases h) rfl (fun h => by cases h) (fun w hA => r_move (by conv => lhs; whnf)) ?_
      refine D_take 5 rfl (by kernel_rfl) (by rintro _ _ _ ⟨h, _⟩; cases h) rfl (fun h => by cases h) (fun w hA => r_move (v := .int _ _) rfl) ?_
      refine D_take 6 rfl (by kernel_rfl) (by rintro _ _ _ ⟨h, _⟩; cases h) rfl (fun h => by cases h) (fun w hA => r_index Try.underlying25 ti63 rfl rfl (by omega) (by omega)) ?_
      refine D_take 7 rfl (by kernel_rfl) (by rintro _ _ _ ⟨h, _⟩; cases h) rfl (fun _ => hA) (fun w hA => r_load1 ag63 rfl ((hS.old (hA rfl)).elt hy)) ?_
      refine D_takeb 8 rfl (by kernel_rfl) (by rintro _ _ _ ⟨h, _⟩; cases h) rfl (fun h => by cases h) (fun w hA => r_cmp rfl rfl rfl) (fun h => ?_) (fun h => ?_)
      · -- True
        have q24 := bne_iff_ne.1 h
        refine D_done (by kernel_rfl) ?_
        refine W_then rfl ?_
        refine W_seq ?_
        refine W_reg ?_ -- 7 slices.go:26
        refine o_assign (v := .bool _) rfl ?_
        refine O_end ?_
        refine W_ret ?_
        refine xb_ret ?_
        refine xb_ret ?_
        refine ⟨rfl, ?_⟩
        refine ret1 Try.results46 (v := .bool _) rfl ?_
        exact ⟨false, rfl, ⟨fun h => (by cases h), fun h => by
          have h5 := map_inj_get h hx hy
          subst h5
          exact absurd rfl q24⟩, hA⟩
      · -- False
        have q24 := bne_eq_false_iff_eq.1 h
        refine D_done (by kernel_rfl) ?_
        refine W_else rfl ?_
        refine W_skip ?_
        refine W_reg ?_ -- 8 slices.go:24
        refine o_add rfl rfl (w64 (r := ((j + 1 : Nat) : Int)) (by omega) (by omega) (by omega)) ?_
        refine o_move (v := .int _ _) rfl ?_
        refine O_end ?_
        have h6 : x = y := by omega
        refine ⟨a.length - (j + 1), by omega, j + 1, rfl, by omega, rfl, rfl, rfl, rfl, fun i hi => ?_, hA⟩
        by_cases e : i = j
        · rw [e, hx, hy, h6]
        · exact hno i (by omega)
    · -- False
      have q14 := of_decide_eq_false h
      refine O_end ?_
      refine W_seq ?_
      refine W_else rfl ?_
      refine W_exit ?_
      refine xb_hit ?_
      refine W_seq ?_
      refine W_reg ?_ -- 9 slices.go:29
      refine o_assign (v := .bool _) rfl ?_
      refine O_end ?_
      refine W_ret ?_
      refine ⟨rfl, ?_⟩
      refine ret1 Try.results46 (v := .bool _) rfl ?_
      exact ⟨true, rfl, ⟨fun _ => ext_upto (by omega) fun i hi => hno i (by omega), fun _ => rfl⟩, hA⟩

theorem s_eqi {w : World} {A A' : Option Addr} {m m' c c' : Nat} {a b : List Int} (hR : Rd w 1 (.slice A m c) (a.map i64v)) (hS : Rd w 1 (.slice A' m' c') (b.map i64v)) (hl : a.length ≤ 9223372036854775807) (hk : b.length ≤ 9223372036854775807) : Calls Try.prog 47 #[.slice A m c, .slice A' m' c'] w fun e w' => ∃ v, e = .returned v ∧ ∃ t : Bool, v = .bool t ∧ (t = true ↔ a = b) ∧ At w No [] w' := by
  obtain rfl := hR.lenp
  obtain rfl := hS.lenp
  refine body_in (n := 26) (l := [.slice A a.length c, .slice A' b.length c']) en47 rfl Try.ntmps47 rfl ?_
  have hA := At.refl w
  refine W_seq ?_
  refine W_reg ?_ -- 0 slices.go:20
  refine o_assign (v := .bool _) rfl ?_
  refine O_end ?_
  refine W_seq ?_
  refine W_seq ?_
  refine W_reg ?_ -- 1 slices.go:21
  refine o_move (by conv => lhs; whnf) ?_
  refine o_len Try.underlying26 rfl ?_
  refine o_move (by conv => lhs; whnf) ?_
  refine o_len Try.underlying26 rfl ?_
  refine o_cmp2 rfl rfl rfl (fun h => ?_) (fun h => ?_)
  · -- True
    have q10 := bne_iff_ne.1 h
    refine O_end ?_
    refine W_then rfl ?_
    refine W_seq ?_
    refine W_reg ?_ -- 2 slices.go:22
    refine o_assign (v := .bool _) rfl ?_
    refine O_end ?_
    refine W_ret ?_
    refine ⟨rfl, ?_⟩
    refine ret1 Try.results47 (v := .bool _) rfl ?_
    exact ⟨false, rfl, ⟨fun h => (by cases h), fun h => by rw [h] at q10; exact absurd rfl q10⟩, hA⟩
  · -- False
    have q10 := bne_eq_false_iff_eq.1 h
    refine O_end ?_
    refine W_else rfl ?_
    refine W_skip ?_
    refine W_seq ?_
    refine W_seq ?_
    refine W_reg ?_ -- 3 slices.go:24
    refine o_move (by conv => lhs; whnf) ?_
    refine o_len Try.underlying26 rfl ?_
    refine o_move (v := .int _ _) rfl ?_
    refine O_end ?_
    refine W_block ?_ -- 0
    refine W_loop (fun kk ρ w' => ∃ (j : Nat), kk = a.length - j ∧ j ≤ a.length ∧ ρ 13 = .int .i64 (j : Int) ∧ ρ 0 = .slice A a.length c ∧ ρ 1 = .slice A' b.length c' ∧ ρ 12 = .int .i64 (a.length : Int) ∧ (∀ i, i < j → a[i]? = b[i]?) ∧ At w No [] w') a.length
      ⟨0, by simp, Nat.zero_le _, rfl, rfl, rfl, rfl, fun i hi => by omega, hA⟩ ?_
    clear hA
    rintro kk ρ w1 ⟨j, rfl, hj, h13, h0, h1, h12, hno, hA⟩
    refine W_known (t := 13) h13 ?_
    refine W_known (t := 0) h0 ?_
    refine W_known (t := 1) h1 ?_
    refine W_known (t := 12) h12 ?_
    refine W_seq ?_
    refine W_reg ?_ -- 4 slices.go:24
    refine o_cmp2 rfl rfl rfl (fun h => ?_) (fun h => ?_)
    · -- True
      have q14 := of_decide_eq_true h
      have hlt : j < a.length := by omega
      obtain ⟨x, hx⟩ : ∃ x, a[j]? = some x := ⟨_, List.getElem?_eq_getElem hlt⟩
      obtain ⟨y, hy⟩ : ∃ y, b[j]? = some y := ⟨_, List.getElem?_eq_getElem (by omega)⟩
      obtain ⟨g0, o0, rfl⟩ := hR.addr (by decide) (show _ = a.length * 1 by simp) (by omega)
      obtain ⟨g1, o1, rfl⟩ := hS.addr (by decide) (show _ = b.length * 1 by simp) (by omega)
      refine O_end ?_
      refine W_seq ?_
      refine W_then rfl ?_
      refine W_skip ?_
      refine W_seq ?_
      refine W_block ?_ -- 1
      refine W_seq ?_
      refine W_reg ?_ -- 5 slices.go:24
      refine o_move (v := .int _ _) rfl ?_
      refine o_assign (v := .int _ _) rfl ?_
      refine O_end ?_
      refine W_seq ?_
      refine W_drawA hA [3, 7] mix rfl rfl (fun w0_6 hA => ?_) -- 6 slices.go:25
      refine D_take 0 rfl (by kernel_rfl) (by rintro _ _ _ ⟨h, _⟩; cases h) rfl (fun h => by cases h) (fun w hA => r_move (by conv => lhs; whnf)) ?_
      refine D_take 1 rfl (by kernel_rfl) (by rintro _ _ _ ⟨h, _⟩; cases h) rfl (fun h => by cases h) (fun w hA => r_move (v := .int _ _) rfl) ?_
      refine D_take 2 rfl (by kernel_rfl) (by rintro _ _ _ ⟨h, _⟩; cases h) rfl (fun h => by cases h) (fun w hA => r_index Try.underlying26 ti3 rfl rfl (by omega) (by omega)) ?_
      refine D_take 3 rfl (by kernel_rfl) (by rintro _ _ _ ⟨h, _⟩; cases h) rfl (fun _ => hA) (fun w hA => r_load1 ag3 rfl ((hR.old (hA rfl)).elt hx)) ?_
      refine D_take 4 rfl (by kernel_rfl) (by rintro _ _ _ ⟨h, _⟩; cases h) rfl (fun h => by cases h) (fun w hA => r_move (by conv => lhs; whnf)) ?_
      refine D_take 5 rfl (by kernel_rfl) (by rintro _ _ _ ⟨h, _⟩; cases h) rfl (fun h => by cases h) (fun w hA => r_move (v := .int _ _) rfl) ?_
      refine D_take 6 rfl (by kernel_rfl) (by rintro _ _ _ ⟨h, _⟩; cases h) rfl (fun h => by cases h) (fun w hA => r_index Try.underlying26 ti3 rfl rfl (by omega) (by omega)) ?_
      refine D_take 7 rfl (by kernel_rfl) (by rintro _ _ _ ⟨h, _⟩; cases h) rfl (fun _ => hA) (fun w hA => r_load1 ag3 rfl ((hS.old (hA rfl)).elt hy)) ?_
      refine D_takeb 8 rfl (by kernel_rfl) (by rintro _ _ _ ⟨h, _⟩; cases h) rfl (fun h => by cases h) (fun w hA => r_cmp rfl rfl rfl) (fun h => ?_) (fun h => ?_)
      · -- True
        have q24 := bne_iff_ne.1 h
        refine D_done (by kernel_rfl) ?_
        refine W_then rfl ?_
        refine W_seq ?_
        refine W_reg ?_ -- 7 slices.go:26
        refine o_assign (v := .bool _) rfl ?_
        refine O_end ?_
        refine W_ret ?_
        refine xb_ret ?_
        refine xb_ret ?_
        refine ⟨rfl, ?_⟩
        refine ret1 Try.results47 (v := .bool _) rfl ?_
        exact ⟨false, rfl, ⟨fun h => (by cases h), fun h => by
          have h5 := map_inj_get h hx hy
          subst h5
          exact absurd rfl q24⟩, hA⟩
      · -- False
        have q24 := bne_eq_false_iff_eq.1 h
        refine D_done (by kernel_rfl) ?_
        refine W_else rfl ?_
        refine W_skip ?_
        refine W_reg ?_ -- 8 slices.go:24
        refine o_add rfl rfl (w64 (r := ((j + 1 : Nat) : Int)) (by omega) (by omega) (by omega)) ?_
        refine o_move (v := .int _ _) rfl ?_
        refine O_end ?_
        have h6 : x = y := by omega
        refine ⟨a.length - (j + 1), by omega, j + 1, rfl, by omega, rfl, rfl, rfl, rfl, fun i hi => ?_, hA⟩
        by_cases e : i = j
        · rw [e, hx, hy, h6]
        · exact hno i (by omega)
    · -- False
      have q14 := of_decide_eq_false h
      refine O_end ?_
      refine W_seq ?_
      refine W_else rfl ?_
      refine W_exit ?_
      refine xb_hit ?_
      refine W_seq ?_
      refine W_reg ?_ -- 9 slices.go:29
      refine o_assign (v := .bool _) rfl ?_
      refine O_end ?_
      refine W_ret ?_
      refine ⟨rfl, ?_⟩
      refine ret1 Try.results47 (v := .bool _) rfl ?_
      exact ⟨true, rfl, ⟨fun _ => ext_upto (by omega) fun i hi => hno i (by omega), fun _ => rfl⟩, hA⟩

theorem s_eqb {w : World} {A A' : Option Addr} {m m' c c' : Nat} {a b : List UInt8} (hR : Rd w 1 (.slice A m c) (a.map u8v)) (hS : Rd w 1 (.slice A' m' c') (b.map u8v)) (hl : a.length ≤ 9223372036854775807) (hk : b.length ≤ 9223372036854775807) : Calls Try.prog 50 #[.slice A m c, .slice A' m' c'] w fun e w' => ∃ v, e = .returned v ∧ ∃ t : Bool, v = .bool t ∧ (t = true ↔ a = b) ∧ At w No [] w' := by
  obtain rfl := hR.lenp
  obtain rfl := hS.lenp
  refine body_in (n := 26) (l := [.slice A a.length c, .slice A' b.length c']) en50 rfl Try.ntmps50 rfl ?_
  have hA := At.refl w
  refine W_seq ?_
  refine W_reg ?_ -- 0 slices.go:20
  refine o_assign (v := .bool _) rfl ?_
  refine O_end ?_
  refine W_seq ?_
  refine W_seq ?_
  refine W_reg ?_ -- 1 slices.go:21
  refine o_move (by conv => lhs; whnf) ?_
  refine o_len Try.underlying32 rfl ?_
  refine o_move (by conv => lhs; whnf) ?_
  refine o_len Try.underlying32 rfl ?_
  refine o_cmp2 rfl rfl rfl (fun h => ?_) (fun h => ?_)
  · -- True
    have q10 := bne_iff_ne.1 h
    refine O_end ?_
    refine W_then rfl ?_
    refine W_seq ?_
    refine W_reg ?_ -- 2 slices.go:22
    refine o_assign (v := .bool _) rfl ?_
    refine O_end ?_
    refine W_ret ?_
    refine ⟨rfl, ?_⟩
    refine ret1 Try.results50 (v := .bool _) rfl ?_
    exact ⟨false, rfl, ⟨fun h => (by cases h), fun h => by rw [h] at q10; exact absurd rfl q10⟩, hA⟩
  · -- False
    have q10 := bne_eq_false_iff_eq.1 h
    refine O_end ?_
    refine W_else rfl ?_
    refine W_skip ?_
    refine W_seq ?_
    refine W_seq ?_
    refine W_reg ?_ -- 3 slices.go:24
    refine o_move (by conv => lhs; whnf) ?_
    refine o_len Try.underlying32 rfl ?_
    refine o_move (v := .int _ _) rfl ?_
    refine O_end ?_
    refine W_block ?_ -- 0
    refine W_loop (fun kk ρ w' => ∃ (j : Nat), kk = a.length - j ∧ j ≤ a.length ∧ ρ 13 = .int .i64 (j : Int) ∧ ρ 0 = .slice A a.length c ∧ ρ 1 = .slice A' b.length c' ∧ ρ 12 = .int .i64 (a.length : Int) ∧ (∀ i, i < j → a[i]? = b[i]?) ∧ At w No [] w') a.length
      ⟨0, by simp, Nat.zero_le _, rfl, rfl, rfl, rfl, fun i hi => by omega, hA⟩ ?_
    clear hA
    rintro kk ρ w1 ⟨j, rfl, hj, h13, h0, h1, h12, hno, hA⟩
    refine W_known (t := 13) h13 ?_
    refine W_known (t := 0) h0 ?_
    refine W_known (t := 1) h1 ?_
    refine W_known (t := 12) h12 ?_
    refine W_seq ?_
    refine W_reg ?_ -- 4 slices.go:24
    refine o_cmp2 rfl rfl rfl (fun h => ?_) (fun h => ?_)
    · -- True
      have q14 := of_decide_eq_true h
      have hlt : j < a.length := by omega
      obtain ⟨x, hx⟩ : ∃ x, a[j]? = some x := ⟨_, List.getElem?_eq_getElem hlt⟩
      obtain ⟨y, hy⟩ : ∃ y, b[j]? = some y := ⟨_, List.getElem?_eq_getElem (by omega)⟩
      obtain ⟨g0, o0, rfl⟩ := hR.addr (by decide) (show _ = a.length * 1 by simp) (by omega)
      obtain ⟨g1, o1, rfl⟩ := hS.addr (by decide) (show _ = b.length * 1 by simp) (by omega)
      refine O_end ?_
      refine W_seq ?_
      refine W_then rfl ?_
      refine W_skip ?_
      refine W_seq ?_
      refine W_block ?_ -- 1
      refine W_seq ?_
      refine W_reg ?_ -- 5 slices.go:24
      refine o_move (v := .int _ _) rfl ?_
      refine o_assign (v := .int _ _) rfl ?_
      refine O_end ?_
      refine W_seq ?_
      refine W_drawA hA [3, 7] mix rfl rfl (fun w0_6 hA => ?_) -- 6 slices.go:25
      refine D_take 0 rfl (by kernel_rfl) (by rintro _ _ _ ⟨h, _⟩; cases h) rfl (fun h => by cases h) (fun w hA => r_move (by conv => lhs; whnf)) ?_
      refine D_take 1 rfl (by kernel_rfl) (by rintro _ _ _ ⟨h, _⟩; cases h) rfl (fun h => by cases h) (fun w hA => r_move (v := .int _ _) rfl) ?_
      refine D_take 2 rfl (by kernel_rfl) (by rintro _ _ _ ⟨h, _⟩; cases h) rfl (fun h => by cases h) (fun w hA => r_index Try.underlying32 ti5 rfl rfl (by omega) (by omega)) ?_
      refine D_take 3 rfl (by kernel_rfl) (by rintro _ _ _ ⟨h, _⟩; cases h) rfl (fun _ => hA) (fun w hA => r_load1 ag5 rfl ((hR.old (hA rfl)).elt hx)) ?_
      refine D_take 4 rfl (by kernel_rfl) (by rintro _ _ _ ⟨h, _⟩; cases h) rfl (fun h => by cases h) (fun w hA => r_move (by conv => lhs; whnf)) ?_
      refine D_take 5 rfl (by kernel_rfl) (by rintro _ _ _ ⟨h, _⟩; cases h) rfl (fun h => by cases h) (fun w hA => r_move (v := .int _ _) rfl) ?_
      refine D_take 6 rfl (by kernel_rfl) (by rintro _ _ _ ⟨h, _⟩; cases h) rfl (fun h => by cases h) (fun w hA => r_index Try.underlying32 ti5 rfl rfl (by omega) (by omega)) ?_
      refine D_take 7 rfl (by kernel_rfl) (by rintro _ _ _ ⟨h, _⟩; cases h) rfl (fun _ => hA) (fun w hA => r_load1 ag5 rfl ((hS.old (hA rfl)).elt hy)) ?_
      refine D_takeb 8 rfl (by kernel_rfl) (by rintro _ _ _ ⟨h, _⟩; cases h) rfl (fun h => by cases h) (fun w hA => r_cmp rfl rfl rfl) (fun h => ?_) (fun h => ?_)
      · -- True
        have q24 := bne_iff_ne.1 h
        refine D_done (by kernel_rfl) ?_
        refine W_then rfl ?_
        refine W_seq ?_
        refine W_reg ?_ -- 7 slices.go:26
        refine o_assign (v := .bool _) rfl ?_
        refine O_end ?_
        refine W_ret ?_
        refine xb_ret ?_
        refine xb_ret ?_
        refine ⟨rfl, ?_⟩
        refine ret1 Try.results50 (v := .bool _) rfl ?_
        exact ⟨false, rfl, ⟨fun h => (by cases h), fun h => by
          have h5 := map_inj_get h hx hy
          subst h5
          exact absurd rfl q24⟩, hA⟩
      · -- False
        have q24 := bne_eq_false_iff_eq.1 h
        refine D_done (by kernel_rfl) ?_
        refine W_else rfl ?_
        refine W_skip ?_
        refine W_reg ?_ -- 8 slices.go:24
        refine o_add rfl rfl (w64 (r := ((j + 1 : Nat) : Int)) (by omega) (by omega) (by omega)) ?_
        refine o_move (v := .int _ _) rfl ?_
        refine O_end ?_
        have h6 : x = y := UInt8.toNat_inj.1 (by omega)
        refine ⟨a.length - (j + 1), by omega, j + 1, rfl, by omega, rfl, rfl, rfl, rfl, fun i hi => ?_, hA⟩
        by_cases e : i = j
        · rw [e, hx, hy, h6]
        · exact hno i (by omega)
    · -- False
      have q14 := of_decide_eq_false h
      refine O_end ?_
      refine W_seq ?_
      refine W_else rfl ?_
      refine W_exit ?_
      refine xb_hit ?_
      refine W_seq ?_
      refine W_reg ?_ -- 9 slices.go:29
      refine o_assign (v := .bool _) rfl ?_
      refine O_end ?_
      refine W_ret ?_
      refine ⟨rfl, ?_⟩
      refine ret1 Try.results50 (v := .bool _) rfl ?_
      exact ⟨true, rfl, ⟨fun _ => ext_upto (by omega) fun i hi => hno i (by omega), fun _ => rfl⟩, hA⟩

theorem s_equ {w : World} {A A' : Option Addr} {m m' c c' : Nat} {a b : List Nat} (hR : Rd w 1 (.slice A m c) (a.map u64v)) (hS : Rd w 1 (.slice A' m' c') (b.map u64v)) (hl : a.length ≤ 9223372036854775807) (hk : b.length ≤ 9223372036854775807) : Calls Try.prog 53 #[.slice A m c, .slice A' m' c'] w fun e w' => ∃ v, e = .returned v ∧ ∃ t : Bool, v = .bool t ∧ (t = true ↔ a = b) ∧ At w No [] w' := by
  obtain rfl := hR.lenp
  obtain rfl := hS.lenp
  refine body_in (n := 26) (l := [.slice A a.length c, .slice A' b.length c']) en53 rfl Try.ntmps53 rfl ?_
  have hA := At.refl w
  refine W_seq ?_
  refine W_reg ?_ -- 0 slices.go:20
  refine o_assign (v := .bool _) rfl ?_
  refine O_end ?_
  refine W_seq ?_
  refine W_seq ?_
  refine W_reg ?_ -- 1 slices.go:21
  refine o_move (by conv => lhs; whnf) ?_
  refine o_len Try.underlying53 rfl ?_
  refine o_move (by conv => lhs; whnf) ?_
  refine o_len Try.underlying53 rfl ?_
  refine o_cmp2 rfl rfl rfl (fun h => ?_) (fun h => ?_)
  · -- True
    have q10 := bne_iff_ne.1 h
    refine O_end ?_
    refine W_then rfl ?_
    refine W_seq ?_
    refine W_reg ?_ -- 2 slices.go:22
    refine o_assign (v := .bool _) rfl ?_
    refine O_end ?_
    refine W_ret ?_
    refine ⟨rfl, ?_⟩
    refine ret1 Try.results53 (v := .bool _) rfl ?_
    exact ⟨false, rfl, ⟨fun h => (by cases h), fun h => by rw [h] at q10; exact absurd rfl q10⟩, hA⟩
  · -- False
    have q10 := bne_eq_false_iff_eq.1 h
    refine O_end ?_
    refine W_else rfl ?_
    refine W_skip ?_
    refine W_seq ?_
    refine W_seq ?_
    refine W_reg ?_ -- 3 slices.go:24
    refine o_move (by conv => lhs; whnf) ?_
    refine o_len Try.underlying53 rfl ?_
    refine o_move (v := .int _ _) rfl ?_
    refine O_end ?_
    refine W_block ?_ -- 0
    refine W_loop (fun kk ρ w' => ∃ (j : Nat), kk = a.length - j ∧ j ≤ a.length ∧ ρ 13 = .int .i64 (j : Int) ∧ ρ 0 = .slice A a.length c ∧ ρ 1 = .slice A' b.length c' ∧ ρ 12 = .int .i64 (a.length : Int) ∧ (∀ i, i < j → a[i]? = b[i]?) ∧ At w No [] w') a.length
      ⟨0, by simp, Nat.zero_le _, rfl, rfl, rfl, rfl, fun i hi => by omega, hA⟩ ?_
    clear hA
    rintro kk ρ w1 ⟨j, rfl, hj, h13, h0, h1, h12, hno, hA⟩
    refine W_known (t := 13) h13 ?_
    refine W_known (t := 0) h0 ?_
    refine W_known (t := 1) h1 ?_
    refine W_known (t := 12) h12 ?_
    refine W_seq ?_
    refine W_reg ?_ -- 4 slices.go:24
    refine o_cmp2 rfl rfl rfl (fun h => ?_) (fun h => ?_)
    · -- True
      have q14 := of_decide_eq_true h
      have hlt : j < a.length := by omega
      obtain ⟨x, hx⟩ : ∃ x, a[j]? = some x := ⟨_, List.getElem?_eq_getElem hlt⟩
      obtain ⟨y, hy⟩ : ∃ y, b[j]? = some y := ⟨_, List.getElem?_eq_getElem (by omega)⟩
      obtain ⟨g0, o0, rfl⟩ := hR.addr (by decide) (show _ = a.length * 1 by simp) (by omega)
      obtain ⟨g1, o1, rfl⟩ := hS.addr (by decide) (show _ = b.length * 1 by simp) (by omega)
      refine O_end ?_
      refine W_seq ?_
      refine W_then rfl ?_
      refine W_skip ?_
      refine W_seq ?_
      refine W_block ?_ -- 1
      refine W_seq ?_
      refine W_reg ?_ -- 5 slices.go:24
      refine o_move (v := .int _ _) rfl ?_
      refine o_assign (v := .int _ _) rfl ?_
      refine O_end ?_
      refine W_seq ?_
      refine W_drawA hA [3, 7] mix rfl rfl (fun w0_6 hA => ?_) -- 6 slices.go:25
      refine D_take 0 rfl (by kernel_rfl) (by rintro _ _ _ ⟨h, _⟩; cases h) rfl (fun h => by cases h) (fun w hA => r_move (by conv => lhs; whnf)) ?_
      refine D_take 1 rfl (by kernel_rfl) (by rintro _ _ _ ⟨h, _⟩; cases h) rfl (fun h => by cases h) (fun w hA => r_move (v := .int _ _) rfl) ?_
      refine D_take 2 rfl (by kernel_rfl) (by rintro _ _ _ ⟨h, _⟩; cases h) rfl (fun h => by cases h) (fun w hA => r_index Try.underlying53 ti48 rfl rfl (by omega) (by omega)) ?_
      refine D_take 3 rfl (by kernel_rfl) (by rintro _ _ _ ⟨h, _⟩; cases h) rfl (fun _ => hA) (fun w hA => r_load1 ag48 rfl ((hR.old (hA rfl)).elt hx)) ?_
      refine D_take 4 rfl (by kernel_rfl) (by rintro _ _ _ ⟨h, _⟩; cases h) rfl (fun h => by cases h) (fun w hA => r_move (by conv => lhs; whnf)) ?_
      refine D_take 5 rfl (by kernel_rfl) (by rintro _ _ _ ⟨h, _⟩; cases h) rfl (fun h => by cases h) (fun w hA => r_move (v := .int _ _) rfl) ?_
      refine D_take 6 rfl (by kernel_rfl) (by rintro _ _ _ ⟨h, _⟩; cases h) rfl (fun h => by cases h) (fun w hA => r_index Try.underlying53 ti48 rfl rfl (by omega) (by omega)) ?_
      refine D_take 7 rfl (by kernel_rfl) (by rintro _ _ _ ⟨h, _⟩; cases h) rfl (fun _ => hA) (fun w hA => r_load1 ag48 rfl ((hS.old (hA rfl)).elt hy)) ?_
      refine D_takeb 8 rfl (by kernel_rfl) (by rintro _ _ _ ⟨h, _⟩; cases h) rfl (fun h => by cases h) (fun w hA => r_cmp rfl rfl rfl) (fun h => ?_) (fun h => ?_)
      · -- True
        have q24 := bne_iff_ne.1 h
        refine D_done (by kernel_rfl) ?_
        refine W_then rfl ?_
        refine W_seq ?_
        refine W_reg ?_ -- 7 slices.go:26
        refine o_assign (v := .bool _) rfl ?_
        refine O_end ?_
        refine W_ret ?_
        refine xb_ret ?_
        refine xb_ret ?_
        refine ⟨rfl, ?_⟩
        refine ret1 Try.results53 (v := .bool _) rfl ?_
        exact ⟨false, rfl, ⟨fun h => (by cases h), fun h => by
          have h5 := map_inj_get h hx hy
          subst h5
          exact absurd rfl q24⟩, hA⟩
      · -- False
        have q24 := bne_eq_false_iff_eq.1 h
        refine D_done (by kernel_rfl) ?_
        refine W_else rfl ?_
        refine W_skip ?_
        refine W_reg ?_ -- 8 slices.go:24
        refine o_add rfl rfl (w64 (r := ((j + 1 : Nat) : Int)) (by omega) (by omega) (by omega)) ?_
        refine o_move (v := .int _ _) rfl ?_
        refine O_end ?_
        have h6 : x = y := by omega
        refine ⟨a.length - (j + 1), by omega, j + 1, rfl, by omega, rfl, rfl, rfl, rfl, fun i hi => ?_, hA⟩
        by_cases e : i = j
        · rw [e, hx, hy, h6]
        · exact hno i (by omega)
    · -- False
      have q14 := of_decide_eq_false h
      refine O_end ?_
      refine W_seq ?_
      refine W_else rfl ?_
      refine W_exit ?_
      refine xb_hit ?_
      refine W_seq ?_
      refine W_reg ?_ -- 9 slices.go:29
      refine o_assign (v := .bool _) rfl ?_
      refine O_end ?_
      refine W_ret ?_
      refine ⟨rfl, ?_⟩
      refine ret1 Try.results53 (v := .bool _) rfl ?_
      exact ⟨true, rfl, ⟨fun _ => ext_upto (by omega) fun i hi => hno i (by omega), fun _ => rfl⟩, hA⟩

theorem s_same1 {w : World} {x y : Pp × Sl} (hx : Rd w 1 x.2.v (u8l x.1.d)) (hy : Rd w 1 y.2.v (u8l y.1.d)) (hl : x.1.d.length ≤ 9223372036854775807) (hk : y.1.d.length ≤ 9223372036854775807) : Calls Try.prog 49 #[.agg (ppc x).toArray, .agg (ppc y).toArray] w fun e w' => ∃ v, e = .returned v ∧ ∃ t : Bool, v = .bool t ∧ (t = true ↔ x.1 = y.1) ∧ At w No [] w' := by
  obtain ⟨⟨x1, x2, x3⟩, ⟨xA, xm, xc⟩⟩ := x
  obtain ⟨⟨y1, y2, y3⟩, ⟨yA, ym, yc⟩⟩ := y
  refine body_in (n := 24) (l := [.agg (ppc ((⟨x1, x2, x3⟩, ⟨xA, xm, xc⟩))).toArray, .agg (ppc ((⟨y1, y2, y3⟩, ⟨yA, ym, yc⟩))).toArray]) en49 rfl Try.ntmps49 rfl ?_
  have hA := At.refl w
  refine W_seq ?_
  refine W_reg ?_ -- 0 words.go:186
  refine o_box hA (by conv => lhs; whnf) rfl (fun b1 w1 hA => ?_)
  refine o_box hA (by conv => lhs; whnf) rfl (fun b2 w2 hA => ?_)
  refine o_assign (v := .bool _) rfl ?_
  refine O_end ?_
  refine W_seq ?_
  refine W_reg ?_ -- 1 words.go:187
  refine o_fieldAddr fo52_0 rfl rfl ?_
  refine o_load1 ag3 rfl (hA.c 1 rfl rfl) ?_
  refine o_fieldAddr fo52_0 rfl rfl ?_
  refine o_load1 ag3 rfl (hA.c 0 rfl rfl) ?_
  refine o_cmp2 rfl rfl rfl (fun h => ?_) (fun h => ?_)
  · -- True
    have q9 := beq_iff_eq.1 h
    refine o_move (v := .bool _) rfl ?_
    refine O_yes rfl rfl rfl ?_
    refine o_fieldAddr fo52_1 rfl rfl ?_
    refine O_yes rfl rfl rfl ?_
    refine o_load1 ag3 rfl (hA.c 1 rfl rfl) ?_
    refine O_yes rfl rfl rfl ?_
    refine o_fieldAddr fo52_1 rfl rfl ?_
    refine O_yes rfl rfl rfl ?_
    refine o_load1 ag3 rfl (hA.c 0 rfl rfl) ?_
    refine O_yes rfl rfl rfl ?_
    refine o_cmp2 rfl rfl rfl (fun h => ?_) (fun h => ?_)
    · -- True
      have q15 := beq_iff_eq.1 h
      refine o_pick_t rfl (v := .bool _) rfl ?_
      refine o_move (v := .bool _) rfl ?_
      refine O_yes rfl rfl rfl ?_
      refine o_fieldAddr fo52_2 rfl rfl ?_
      refine O_yes rfl rfl rfl ?_
      refine o_load1 ag32 rfl (hA.c 1 rfl rfl) ?_
      refine O_yes rfl rfl rfl ?_
      refine o_fieldAddr fo52_2 rfl rfl ?_
      refine O_yes rfl rfl rfl ?_
      refine o_load1 ag32 rfl (hA.c 0 rfl rfl) ?_
      refine O_yes rfl rfl rfl ?_
      refine O_calls en50 rfl (s_eqb (hx.old hA) (hy.old hA) hl hk) (fun v3 w3 hC => ?_)
      obtain ⟨tb, rfl, hq, hC⟩ := hC
      have hA := (hA.after hC).take
      refine o_pick_t rfl (v := .bool _) rfl ?_
      refine o_assign (v := .bool _) rfl ?_
      refine O_end ?_
      refine W_ret ?_
      refine ⟨rfl, ?_⟩
      refine ret1 Try.results49 (v := .bool _) rfl ?_
      exact ⟨tb, rfl, hq.trans ⟨fun h => (show Pp.mk x1 x2 x3 = Pp.mk y1 y2 y3 by rw [show x1 = y1 from q9, show x2 = y2 from q15, show x3 = y3 from h]), fun h => by injection h⟩, hA.clear⟩
    · -- False
      have q15 := beq_eq_false_iff_ne.1 h
      refine o_pick_t rfl (v := .bool _) rfl ?_
      refine o_move (v := .bool _) rfl ?_
      refine O_no rfl rfl rfl rfl ?_
      refine O_no rfl rfl rfl rfl ?_
      refine O_no rfl rfl rfl rfl ?_
      refine O_no rfl rfl rfl rfl ?_
      refine O_no rfl rfl rfl rfl ?_
      refine o_pick_f rfl (v := .bool _) rfl ?_
      refine o_assign (v := .bool _) rfl ?_
      refine O_end ?_
      refine W_ret ?_
      refine ⟨rfl, ?_⟩
      refine ret1 Try.results49 (v := .bool _) rfl ?_
      exact ⟨false, rfl, ⟨fun h => (by cases h), fun h => by injection h with h1 h2 h3; exact absurd h2 q15⟩, hA.clear⟩
  · -- False
    have q9 := beq_eq_false_iff_ne.1 h
    refine o_move (v := .bool _) rfl ?_
    refine O_no rfl rfl rfl rfl ?_
    refine O_no rfl rfl rfl rfl ?_
    refine O_no rfl rfl rfl rfl ?_
    refine O_no rfl rfl rfl rfl ?_
    refine O_no rfl rfl rfl rfl ?_
    refine o_pick_f rfl (v := .bool _) rfl ?_
    refine o_move (v := .bool _) rfl ?_
    refine O_no rfl rfl rfl rfl ?_
    refine O_no rfl rfl rfl rfl ?_
    refine O_no rfl rfl rfl rfl ?_
    refine O_no rfl rfl rfl rfl ?_
    refine O_no rfl rfl rfl rfl ?_
    refine o_pick_f rfl (v := .bool _) rfl ?_
    refine o_assign (v := .bool _) rfl ?_
    refine O_end ?_
    refine W_ret ?_
    refine ⟨rfl, ?_⟩
    refine ret1 Try.results49 (v := .bool _) rfl ?_
    exact ⟨false, rfl, ⟨fun h => (by cases h), fun h => by injection h with h1 h2 h3; exact absurd h1 q9⟩, hA.clear⟩

theorem s_same2 {w : World} {x y : Oo × Sl} (hx : Rd w 1 x.2.v (x.1.v.map u64v)) (hy : Rd w 1 y.2.v (y.1.v.map u64v)) (hl : x.1.v.length ≤ 9223372036854775807) (hk : y.1.v.length ≤ 9223372036854775807) : Calls Try.prog 52 #[.agg (ooc x).toArray, .agg (ooc y).toArray] w fun e w' => ∃ v, e = .returned v ∧ ∃ t : Bool, v = .bool t ∧ (t = true ↔ x.1 = y.1) ∧ At w No [] w' := by
  obtain ⟨⟨x1, x2, x3⟩, ⟨xA, xm, xc⟩⟩ := x
  obtain ⟨⟨y1, y2, y3⟩, ⟨yA, ym, yc⟩⟩ := y
  refine body_in (n := 24) (l := [.agg (ooc ((⟨x1, x2, x3⟩, ⟨xA, xm, xc⟩))).toArray, .agg (ooc ((⟨y1, y2, y3⟩, ⟨yA, ym, yc⟩))).toArray]) en52 rfl Try.ntmps52 rfl ?_
  have hA := At.refl w
  refine W_seq ?_
  refine W_reg ?_ -- 0 words.go:188
  refine o_box hA (by conv => lhs; whnf) rfl (fun b1 w1 hA => ?_)
  refine o_box hA (by conv => lhs; whnf) rfl (fun b2 w2 hA => ?_)
  refine o_assign (v := .bool _) rfl ?_
  refine O_end ?_
  refine W_seq ?_
  refine W_reg ?_ -- 1 words.go:189
  refine o_fieldAddr fo55_0 rfl rfl ?_
  refine o_load1 ag3 rfl (hA.c 1 rfl rfl) ?_
  refine o_fieldAddr fo55_0 rfl rfl ?_
  refine o_load1 ag3 rfl (hA.c 0 rfl rfl) ?_
  refine o_cmp2 rfl rfl rfl (fun h => ?_) (fun h => ?_)
  · -- True
    have q9 := beq_iff_eq.1 h
    refine o_move (v := .bool _) rfl ?_
    refine O_yes rfl rfl rfl ?_
    refine o_fieldAddr fo55_1 rfl rfl ?_
    refine O_yes rfl rfl rfl ?_
    refine o_load1 ag4 rfl (hA.c 1 rfl rfl) ?_
    refine O_yes rfl rfl rfl ?_
    refine o_fieldAddr fo55_1 rfl rfl ?_
    refine O_yes rfl rfl rfl ?_
    refine o_load1 ag4 rfl (hA.c 0 rfl rfl) ?_
    refine O_yes rfl rfl rfl ?_
    refine o_eqb2 Try.underlying4 rfl rfl (.inl ⟨rfl, rfl⟩) (fun h => ?_) (fun h => ?_)
    · -- True
      have q15 := h
      refine o_pick_t rfl (v := .bool _) rfl ?_
      refine o_move (v := .bool _) rfl ?_
      refine O_yes rfl rfl rfl ?_
      refine o_fieldAddr fo55_2 rfl rfl ?_
      refine O_yes rfl rfl rfl ?_
      refine o_load1 ag53 rfl (hA.c 1 rfl rfl) ?_
      refine O_yes rfl rfl rfl ?_
      refine o_fieldAddr fo55_2 rfl rfl ?_
      refine O_yes rfl rfl rfl ?_
      refine o_load1 ag53 rfl (hA.c 0 rfl rfl) ?_
      refine O_yes rfl rfl rfl ?_
      refine O_calls en53 rfl (s_equ (hx.old hA) (hy.old hA) hl hk) (fun v3 w3 hC => ?_)
      obtain ⟨tb, rfl, hq, hC⟩ := hC
      have hA := (hA.after hC).take
      refine o_pick_t rfl (v := .bool _) rfl ?_
      refine o_assign (v := .bool _) rfl ?_
      refine O_end ?_
      refine W_ret ?_
      refine ⟨rfl, ?_⟩
      refine ret1 Try.results52 (v := .bool _) rfl ?_
      exact ⟨tb, rfl, hq.trans ⟨fun h => (show Oo.mk x1 x2 x3 = Oo.mk y1 y2 y3 by rw [show x1 = y1 from q9, show x2 = y2 from beq_iff_eq.1 q15, show x3 = y3 from h]), fun h => by injection h⟩, hA.clear⟩
    · -- False
      have q15 := h
      refine o_pick_t rfl (v := .bool _) rfl ?_
      refine o_move (v := .bool _) rfl ?_
      refine O_no rfl rfl rfl rfl ?_
      refine O_no rfl rfl rfl rfl ?_
      refine O_no rfl rfl rfl rfl ?_
      refine O_no rfl rfl rfl rfl ?_
      refine O_no rfl rfl rfl rfl ?_
      refine o_pick_f rfl (v := .bool _) rfl ?_
      refine o_assign (v := .bool _) rfl ?_
      refine O_end ?_
      refine W_ret ?_
      refine ⟨rfl, ?_⟩
      refine ret1 Try.results52 (v := .bool _) rfl ?_
      exact ⟨false, rfl, ⟨fun h => (by cases h), fun h => by injection h with h1 h2 h3; exact absurd h2 (beq_eq_false_iff_ne.1 q15)⟩, hA.clear⟩
  · -- False
    have q9 := beq_eq_false_iff_ne.1 h
    refine o_move (v := .bool _) rfl ?_
    refine O_no rfl rfl rfl rfl ?_
    refine O_no rfl rfl rfl rfl ?_
    refine O_no rfl rfl rfl rfl ?_
    refine O_no rfl rfl rfl rfl ?_
    refine O_no rfl rfl rfl rfl ?_
    refine o_pick_f rfl (v := .bool _) rfl ?_
    refine o_move (v := .bool _) rfl ?_
    refine O_no rfl rfl rfl rfl ?_
    refine O_no rfl rfl rfl rfl ?_
    refine O_no rfl rfl rfl rfl ?_
    refine O_no rfl rfl rfl rfl ?_
    refine O_no rfl rfl rfl rfl ?_
    refine o_pick_f rfl (v := .bool _) rfl ?_
    refine o_assign (v := .bool _) rfl ?_
    refine O_end ?_
    refine W_ret ?_
    refine ⟨rfl, ?_⟩
    refine ret1 Try.results52 (v := .bool _) rfl ?_
    exact ⟨false, rfl, ⟨fun h => (by cases h), fun h => by injection h with h1 h2 h3; exact absurd h1 q9⟩, hA.clear⟩

end Go.Proofs.Ytbcaooiphalkoaa
