/-
  offertoryref14: who, rising, Good.
-/
import Derived.Test.YtbcaooiphalkoaaWgc
set_option linter.unusedVariables false
set_option linter.unusedSimpArgs false
namespace Go.Proofs.Ytbcaooiphalkoaa
open Go Go.RowKit

theorem q_who {w : World} {n : Int} : Calls Try.prog 19 #[.int .i64 n] w fun e w' => ∃ v, e = .returned v ∧ (v = .bool (whoP n) ∧ At w No [] w') := by
  refine body_in (n := 9) (l := [.int .i64 n]) en19 rfl Try.ntmps19 rfl ?_
  have hA := At.refl w
  refine W_seq ?_
  refine W_reg ?_ -- 0 ref.go:91
  refine o_assign (v := .bool _) rfl ?_
  refine O_end ?_
  refine W_seq ?_
  refine W_reg ?_ -- 1 ref.go:91
  refine o_move (v := .int _ _) rfl ?_
  refine o_cmp2 rfl rfl rfl (fun h => ?_) (fun h => ?_)
  · -- True
    have q4 := of_decide_eq_true h
    refine o_move (v := .bool _) rfl ?_
    refine O_yes rfl rfl rfl ?_
    refine o_move (v := .int _ _) rfl ?_
    refine O_yes rfl rfl rfl ?_
    refine o_cmp rfl rfl rfl ?_
    refine o_pick_t rfl (v := .bool _) rfl ?_
    refine o_assign (v := .bool _) rfl ?_
    refine O_end ?_
    refine W_ret ?_
    refine ⟨rfl, ?_⟩
    refine ret1 Try.results19 (v := .bool _) rfl ?_
    refine ⟨?_, hA⟩
    show Value.bool _ = _
    unfold whoP
    rw [decide_eq_true (show 1 ≤ n from q4), Bool.true_and]
  · -- False
    have q4 := of_decide_eq_false h
    refine o_move (v := .bool _) rfl ?_
    refine O_no rfl rfl rfl rfl ?_
    refine O_no rfl rfl rfl rfl ?_
    refine o_pick_f rfl (v := .bool _) rfl ?_
    refine o_assign (v := .bool _) rfl ?_
    refine O_end ?_
    refine W_ret ?_
    refine ⟨rfl, ?_⟩
    refine ret1 Try.results19 (v := .bool _) rfl ?_
    refine ⟨?_, hA⟩
    show Value.bool _ = _
    unfold whoP
    rw [decide_eq_false (show ¬ 1 ≤ n from q4), Bool.false_and]

theorem q_rising {w : World} {A : Option Addr} {m c : Nat} {l : List Int} (hR : Rd w 1 (.slice A m c) (l.map i64v)) (hl : l.length ≤ 1000000) : Calls Try.prog 20 #[.slice A m c] w fun e w' => ∃ v, e = .returned v ∧ (v = .bool (risP l) ∧ At w No [] w') := by
  obtain rfl := hR.lenp
  refine body_in (n := 32) (l := [.slice A l.length c]) en20 rfl Try.ntmps20 rfl ?_
  have hA := At.refl w
  refine W_seq ?_
  refine W_reg ?_ -- 0 ref.go:94
  refine o_assign (v := .bool _) rfl ?_
  refine O_end ?_
  refine W_seq ?_
  refine W_seq ?_
  refine W_reg ?_ -- 1 ref.go:95
  refine o_assign (v := .int _ _) rfl ?_
  refine O_end ?_
  refine W_block ?_ -- 0
  refine W_loop (fun kk ρ w' => ∃ (i : Nat), kk = l.length - i ∧ i ≤ l.length ∧ ρ 3 = .int .i64 (i : Int) ∧ ρ 0 = .slice A l.length c ∧ (∀ j, j < i → risAt l j = true) ∧ At w No [] w') l.length
    ⟨0, by simp, Nat.zero_le _, rfl, rfl, fun j hj => by omega, hA⟩ ?_
  clear hA
  rintro kk ρ w1 ⟨i, rfl, hi, h3, h0, hno, hA⟩
  refine W_known (t := 3) h3 ?_
  refine W_known (t := 0) h0 ?_
  refine W_seq ?_
  refine W_seq ?_
  refine W_reg ?_ -- 2 ref.go:95
  refine o_move (v := .int _ _) rfl ?_
  refine o_move (by conv => lhs; whnf) ?_
  refine o_len Try.underlying26 rfl ?_
  refine o_cmp2 rfl rfl rfl (fun h => ?_) (fun h => ?_)
  · -- True
    have q7 := of_decide_eq_true h
    have hlt : i < l.length := by omega
    obtain ⟨x, hx⟩ : ∃ x, l[i]? = some x := ⟨_, List.getElem?_eq_getElem hlt⟩
    obtain ⟨y, hy⟩ : ∃ y, l[i - 1]? = some y := ⟨_, List.getElem?_eq_getElem (by omega)⟩
    obtain ⟨g0, o0, rfl⟩ := hR.addr (by decide) (show _ = l.length * 1 by simp) (by omega)
    refine O_end ?_
    refine W_then rfl ?_
    refine W_skip ?_
    refine W_seq ?_
    refine W_block ?_ -- 1
    refine W_seq ?_
    refine W_drawA hA [3, 13, 18] mix rfl rfl (fun w0_4 hA => ?_) -- 4 ref.go:96
    refine D_take 0 rfl (by kernel_rfl) (by rintro _ _ _ ⟨h, _⟩; cases h) rfl (fun h => by cases h) (fun w hA => r_move (by conv => lhs; whnf)) ?_
    refine D_take 1 rfl (by kernel_rfl) (by rintro _ _ _ ⟨h, _⟩; cases h) rfl (fun h => by cases h) (fun w hA => r_move (v := .int _ _) rfl) ?_
    refine D_take 2 rfl (by kernel_rfl) (by rintro _ _ _ ⟨h, _⟩; cases h) rfl (fun h => by cases h) (fun w hA => r_index Try.underlying26 ti3 rfl rfl (by omega) (by omega)) ?_
    refine D_take 3 rfl (by kernel_rfl) (by rintro _ _ _ ⟨h, _⟩; cases h) rfl (fun _ => hA) (fun w hA => r_load1 ag3 rfl ((hR.old (hA rfl)).elt hx)) ?_
    refine D_run 4 (by kernel_rfl) rfl rfl ?_
    refine O_callb en19 rfl q_who (fun w1 hC h => ?_) (fun w1 hC h => ?_)
    · -- True
      have hA := (hA.after hC).take
      have q14 := h
      refine O_end ⟨fun _ _ => hA, ?_⟩
      refine D_take 5 rfl (by kernel_rfl) (by rintro _ _ _ ⟨h, _⟩; cases h) rfl (fun h => by cases h) (fun w hA => r_not rfl) ?_
      refine D_take 6 rfl (by kernel_rfl) (by rintro _ _ _ ⟨h, _⟩; cases h) rfl (fun h => by cases h) (fun w hA => r_move (v := .bool _) rfl) ?_
      refine D_take_yes 7 rfl (by kernel_rfl) (by rintro _ _ _ ⟨h, _⟩; cases h) rfl (fun h => by cases h) rfl rfl rfl (fun w hA => r_move (v := .int _ _) rfl) ?_
      refine D_takeb_yes 8 rfl (by kernel_rfl) (by rintro _ _ _ ⟨h, _⟩; cases h) rfl (fun h => by cases h) rfl rfl rfl (fun w hA => r_cmp rfl rfl rfl) (fun h => ?_) (fun h => ?_)
      · -- True
        have q18 := of_decide_eq_true h
        refine D_take_yes 9 rfl (by kernel_rfl) (by rintro _ _ _ ⟨h, _⟩; cases h) rfl (fun h => by cases h) rfl rfl rfl (fun w hA => r_move (v := .bool _) rfl) ?_
        refine D_take_yes 10 rfl (by kernel_rfl) (by rintro _ _ _ ⟨h, _⟩; cases h) rfl (fun h => by cases h) rfl rfl rfl (fun w hA => r_move (by conv => lhs; whnf)) ?_
        refine D_take_yes 11 rfl (by kernel_rfl) (by rintro _ _ _ ⟨h, _⟩; cases h) rfl (fun h => by cases h) rfl rfl rfl (fun w hA => r_move (v := .int _ _) rfl) ?_
        refine D_take_yes 12 rfl (by kernel_rfl) (by rintro _ _ _ ⟨h, _⟩; cases h) rfl (fun h => by cases h) rfl rfl rfl (fun w hA => r_index Try.underlying26 ti3 rfl rfl (by omega) (by omega)) ?_
        refine D_take_yes 13 rfl (by kernel_rfl) (by rintro _ _ _ ⟨h, _⟩; cases h) rfl (fun _ => hA) rfl rfl rfl (fun w hA => r_load1 ag3 rfl ((hR.old (hA rfl)).elt hx)) ?_
        refine D_take_yes 14 rfl (by kernel_rfl) (by rintro _ _ _ ⟨h, _⟩; cases h) rfl (fun h => by cases h) rfl rfl rfl (fun w hA => r_move (by conv => lhs; whnf)) ?_
        refine D_take_yes 15 rfl (by kernel_rfl) (by rintro _ _ _ ⟨h, _⟩; cases h) rfl (fun h => by cases h) rfl rfl rfl (fun w hA => r_move (v := .int _ _) rfl) ?_
        refine D_take_yes 16 rfl (by kernel_rfl) (by rintro _ _ _ ⟨h, _⟩; cases h) rfl (fun h => by cases h) rfl rfl rfl (fun w hA => r_sub rfl rfl (w64 (r := ((i - 1 : Nat) : Int)) (by omega) (by omega) (by omega))) ?_
        refine D_take_yes 17 rfl (by kernel_rfl) (by rintro _ _ _ ⟨h, _⟩; cases h) rfl (fun h => by cases h) rfl rfl rfl (fun w hA => r_index Try.underlying26 ti3 rfl rfl (by omega) (by omega)) ?_
        refine D_take_yes 18 rfl (by kernel_rfl) (by rintro _ _ _ ⟨h, _⟩; cases h) rfl (fun _ => hA) rfl rfl rfl (fun w hA => r_load1 ag3 rfl ((hR.old (hA rfl)).elt hy)) ?_
        refine D_takeb_yes 19 rfl (by kernel_rfl) (by rintro _ _ _ ⟨h, _⟩; cases h) rfl (fun h => by cases h) rfl rfl rfl (fun w hA => r_cmp rfl rfl rfl) (fun h => ?_) (fun h => ?_)
        · -- True
          have q29 := of_decide_eq_true h
          refine D_take_yes 20 rfl (by kernel_rfl) (by rintro _ _ _ ⟨h, _⟩; cases h) rfl (fun h => by cases h) rfl rfl rfl (fun w hA => r_pick_t rfl (v := .bool _) rfl) ?_
          refine D_take 21 rfl (by kernel_rfl) (by rintro _ _ _ ⟨h, _⟩; cases h) rfl (fun h => by cases h) (fun w hA => r_pick_f rfl (v := .bool _) rfl) ?_
          refine D_done (by kernel_rfl) ?_
          refine W_then rfl ?_
          refine W_seq ?_
          refine W_reg ?_ -- 5 ref.go:97
          refine o_assign (v := .bool _) rfl ?_
          refine O_end ?_
          refine W_ret ?_
          refine xb_ret ?_
          refine xb_ret ?_
          refine ⟨rfl, ?_⟩
          refine ret1 Try.results20 (v := .bool _) rfl ?_
          exact ⟨by rw [risP_no hlt (by unfold risAt; rw [hx]; rw [hy, Option.getD_some, Option.getD_some, q14, decide_eq_false (show ¬ y < x by omega), show (i == 0) = false from by rw [beq_eq_false_iff_ne]; omega]; rfl)], hA⟩
        · -- False
          have q29 := of_decide_eq_false h
          refine D_take_yes 20 rfl (by kernel_rfl) (by rintro _ _ _ ⟨h, _⟩; cases h) rfl (fun h => by cases h) rfl rfl rfl (fun w hA => r_pick_t rfl (v := .bool _) rfl) ?_
          refine D_take 21 rfl (by kernel_rfl) (by rintro _ _ _ ⟨h, _⟩; cases h) rfl (fun h => by cases h) (fun w hA => r_pick_f rfl (v := .bool _) rfl) ?_
          refine D_done (by kernel_rfl) ?_
          refine W_else rfl ?_
          refine W_skip ?_
          refine W_reg ?_ -- 3 ref.go:95
          refine o_move (v := .int _ _) rfl ?_
          refine o_add rfl rfl (w64 (r := ((i + 1 : Nat) : Int)) (by omega) (by omega) (by omega)) ?_
          refine o_assign (v := .int _ _) rfl ?_
          refine O_end ?_
          exact ⟨l.length - (i + 1), by omega, i + 1, rfl, by omega, rfl, rfl, fun j hj => by
            by_cases e : j = i
            · rw [e]; unfold risAt; rw [hx]; rw [hy, Option.getD_some, Option.getD_some, q14, decide_eq_true (show y < x by omega)]; simp
            · exact hno j (by omega), hA⟩
      · -- False
        have q18 := of_decide_eq_false h
        refine D_take_yes 9 rfl (by kernel_rfl) (by rintro _ _ _ ⟨h, _⟩; cases h) rfl (fun h => by cases h) rfl rfl rfl (fun w hA => r_move (v := .bool _) rfl) ?_
        refine D_take_no 10 rfl (by kernel_rfl) (by rintro _ _ _ ⟨h, _⟩; cases h) rfl (fun h => by cases h) rfl rfl rfl rfl ?_
        refine D_take_no 11 rfl (by kernel_rfl) (by rintro _ _ _ ⟨h, _⟩; cases h) rfl (fun h => by cases h) rfl rfl rfl rfl ?_
        refine D_take_no 12 rfl (by kernel_rfl) (by rintro _ _ _ ⟨h, _⟩; cases h) rfl (fun h => by cases h) rfl rfl rfl rfl ?_
        refine D_take_no 13 rfl (by kernel_rfl) (by rintro _ _ _ ⟨h, _⟩; cases h) rfl (fun _ => hA) rfl rfl rfl rfl ?_
        refine D_take_no 14 rfl (by kernel_rfl) (by rintro _ _ _ ⟨h, _⟩; cases h) rfl (fun h => by cases h) rfl rfl rfl rfl ?_
        refine D_take_no 15 rfl (by kernel_rfl) (by rintro _ _ _ ⟨h, _⟩; cases h) rfl (fun h => by cases h) rfl rfl rfl rfl ?_
        refine D_take_no 16 rfl (by kernel_rfl) (by rintro _ _ _ ⟨h, _⟩; cases h) rfl (fun h => by cases h) rfl rfl rfl rfl ?_
        refine D_take_no 17 rfl (by kernel_rfl) (by rintro _ _ _ ⟨h, _⟩; cases h) rfl (fun h => by cases h) rfl rfl rfl rfl ?_
        refine D_take_no 18 rfl (by kernel_rfl) (by rintro _ _ _ ⟨h, _⟩; cases h) rfl (fun _ => hA) rfl rfl rfl rfl ?_
        refine D_take_no 19 rfl (by kernel_rfl) (by rintro _ _ _ ⟨h, _⟩; cases h) rfl (fun h => by cases h) rfl rfl rfl rfl ?_
        refine D_take_yes 20 rfl (by kernel_rfl) (by rintro _ _ _ ⟨h, _⟩; cases h) rfl (fun h => by cases h) rfl rfl rfl (fun w hA => r_pick_f rfl (v := .bool _) rfl) ?_
        refine D_take 21 rfl (by kernel_rfl) (by rintro _ _ _ ⟨h, _⟩; cases h) rfl (fun h => by cases h) (fun w hA => r_pick_f rfl (v := .bool _) rfl) ?_
        refine D_done (by kernel_rfl) ?_
        refine W_else rfl ?_
        refine W_skip ?_
        refine W_reg ?_ -- 3 ref.go:95
        refine o_move (v := .int _ _) rfl ?_
        refine o_add rfl rfl (w64 (r := ((i + 1 : Nat) : Int)) (by omega) (by omega) (by omega)) ?_
        refine o_assign (v := .int _ _) rfl ?_
        refine O_end ?_
        exact ⟨l.length - (i + 1), by omega, i + 1, rfl, by omega, rfl, rfl, fun j hj => by
          by_cases e : j = i
          · rw [e]; unfold risAt; rw [hx]; rw [Option.getD_some, q14, show (i == 0) = true from by rw [beq_iff_eq]; omega]; rfl
          · exact hno j (by omega), hA⟩
    · -- False
      have hA := (hA.after hC).take
      have q14 := h
      refine O_end ⟨fun _ _ => hA, ?_⟩
      refine D_take 5 rfl (by kernel_rfl) (by rintro _ _ _ ⟨h, _⟩; cases h) rfl (fun h => by cases h) (fun w hA => r_not rfl) ?_
      refine D_take 6 rfl (by kernel_rfl) (by rintro _ _ _ ⟨h, _⟩; cases h) rfl (fun h => by cases h) (fun w hA => r_move (v := .bool _) rfl) ?_
      refine D_take_no 7 rfl (by kernel_rfl) (by rintro _ _ _ ⟨h, _⟩; cases h) rfl (fun h => by cases h) rfl rfl rfl rfl ?_
      refine D_take_no 8 rfl (by kernel_rfl) (by rintro _ _ _ ⟨h, _⟩; cases h) rfl (fun h => by cases h) rfl rfl rfl rfl ?_
      refine D_take_no 9 rfl (by kernel_rfl) (by rintro _ _ _ ⟨h, _⟩; cases h) rfl (fun h => by cases h) rfl rfl rfl rfl ?_
      refine D_take_nu 10 rfl (by kernel_rfl) (by rintro _ _ _ ⟨h, _⟩; cases h) rfl (fun h => by cases h) rfl rfl rfl ?_
      refine D_take_nu 11 rfl (by kernel_rfl) (by rintro _ _ _ ⟨h, _⟩; cases h) rfl (fun h => by cases h) rfl rfl rfl ?_
      refine D_take_nu 12 rfl (by kernel_rfl) (by rintro _ _ _ ⟨h, _⟩; cases h) rfl (fun h => by cases h) rfl rfl rfl ?_
      refine D_take_nu 13 rfl (by kernel_rfl) (by rintro _ _ _ ⟨h, _⟩; cases h) rfl (fun _ => hA) rfl rfl rfl ?_
      refine D_take_nu 14 rfl (by kernel_rfl) (by rintro _ _ _ ⟨h, _⟩; cases h) rfl (fun h => by cases h) rfl rfl rfl ?_
      refine D_take_nu 15 rfl (by kernel_rfl) (by rintro _ _ _ ⟨h, _⟩; cases h) rfl (fun h => by cases h) rfl rfl rfl ?_
      refine D_take_nu 16 rfl (by kernel_rfl) (by rintro _ _ _ ⟨h, _⟩; cases h) rfl (fun h => by cases h) rfl rfl rfl ?_
      refine D_take_nu 17 rfl (by kernel_rfl) (by rintro _ _ _ ⟨h, _⟩; cases h) rfl (fun h => by cases h) rfl rfl rfl ?_
      refine D_take_nu 18 rfl (by kernel_rfl) (by rintro _ _ _ ⟨h, _⟩; cases h) rfl (fun _ => hA) rfl rfl rfl ?_
      refine D_take_nu 19 rfl (by kernel_rfl) (by rintro _ _ _ ⟨h, _⟩; cases h) rfl (fun h => by cases h) rfl rfl rfl ?_
      refine D_take_no 20 rfl (by kernel_rfl) (by rintro _ _ _ ⟨h, _⟩; cases h) rfl (fun h => by cases h) rfl rfl rfl rfl ?_
      refine D_take 21 rfl (by kernel_rfl) (by rintro _ _ _ ⟨h, _⟩; cases h) rfl (fun h => by cases h) (fun w hA => r_pick_t rfl (v := .bool _) rfl) ?_
      refine D_done (by kernel_rfl) ?_
      refine W_then rfl ?_
      refine W_seq ?_
      refine W_reg ?_ -- 5 ref.go:97
      refine o_assign (v := .bool _) rfl ?_
      refine O_end ?_
      refine W_ret ?_
      refine xb_ret ?_
      refine xb_ret ?_
      refine ⟨rfl, ?_⟩
      refine ret1 Try.results20 (v := .bool _) rfl ?_
      exact ⟨by rw [risP_no hlt (by unfold risAt; rw [hx]; rw [Option.getD_some, q14]; rfl)], hA⟩
  · -- False
    have q7 := of_decide_eq_false h
    refine O_end ?_
    refine W_else rfl ?_
    refine W_exit ?_
    refine xb_hit ?_
    refine W_seq ?_
    refine W_reg ?_ -- 6 ref.go:100
    refine o_assign (v := .bool _) rfl ?_
    refine O_end ?_
    refine W_ret ?_
    refine ⟨rfl, ?_⟩
    refine ret1 Try.results20 (v := .bool _) rfl ?_
    exact ⟨by rw [risP_yes fun j hj => hno j (by omega)], hA⟩

def hasN (kind : Int) (c p v n o : Nat) : Int := if kind = 1 then c else if kind = 2 then c else if kind = 3 then p else if kind = 4 then p else if kind = 5 then v else if kind = 6 then n else if kind = 7 then o else 0
theorem has_row {kind : Int} (c p v n o : Nat) (h0 : 1 ≤ kind) (h1 : kind ≤ 8) : ([.int .i64 0, .int .i64 (c : Int), .int .i64 (c : Int), .int .i64 (p : Int), .int .i64 (p : Int), .int .i64 (v : Int), .int .i64 (n : Int), .int .i64 (o : Int), .int .i64 0] : List Value)[0 + kind.toNat * 1]? = some (.int .i64 (hasN kind c p v n o)) := by
  have hk : kind = 1 ∨ kind = 2 ∨ kind = 3 ∨ kind = 4 ∨ kind = 5 ∨ kind = 6 ∨ kind = 7 ∨ kind = 8 := by omega
  rcases hk with rfl | rfl | rfl | rfl | rfl | rfl | rfl | rfl <;> rfl
def headBad (kind frm : Int) : Bool := ((kind == 2 || kind == 4 || kind == 6) != (frm == 0)) || (!(kind == 2 || kind == 4 || kind == 6) && !whoP frm)
def midB (kind : Int) (cs : List Cd) (ps : List (Pp × Sl)) (vs : List Nat) (ws : List Int) (os : List (Oo × Sl)) : Bool :=
  !(ps.all (fun (y : Pp × Sl) => whoP y.1.f && whoP y.1.t && decide (y.1.d.length ≤ 64)) && os.all fun y => decide (y.1.v.length ≤ 5)) || (((cs.length + ps.length + vs.length + ws.length + os.length : Nat) : Int) != hasN kind cs.length ps.length vs.length ws.length os.length) || decide (256 < vs.length) || !risP ws || !risP (ps.map (fun (y : Pp × Sl) => if kind = 3 then y.1.t else y.1.f)) || !risP (os.map (fun (y : Oo × Sl) => y.1.w))
def refG (kind frm why : Int) (cs : List Cd) (ps : List (Pp × Sl)) (vs : List Nat) (ws : List Int) (os : List (Oo × Sl)) : Bool :=
  if kind < 1 ∨ 8 < kind then false else if headBad kind frm = true then false else if midB kind cs ps vs ws os = true then false else
  if kind = 1 then (why == 0) && decide (cs.length = 1) && ((cs[0]?).map (·.w)).getD 0 == frm else if kind = 8 then decide (1 ≤ why) && decide (why ≤ 17) else (why == 0) && risP (cs.map (·.w))

theorem q_Good {w : World} {H : WH} (hR : RdW w H) (hl : H.cs.length ≤ 1000000 ∧ H.ps.length ≤ 1000000 ∧ H.vs.length ≤ 1000000 ∧ H.ws.length ≤ 1000000 ∧ H.os.length ≤ 1000000) : Calls Try.prog 11 #[.agg (wdc H).toArray] w fun e w' => ∃ v, e = .returned v ∧ (v = .bool (refG H.kind H.frm H.why H.cs H.ps H.vs H.ws H.os) ∧ At w No [] w') := by
  obtain ⟨kind, frm, why, cs, ps, vs, ws, os, ⟨CA, Cm, Cc⟩, ⟨PA, Pm, Pc⟩, ⟨VA, Vm, Vc⟩, ⟨NA, Nm, Nc⟩, ⟨OA, Om, Oc⟩⟩ := H
  obtain ⟨hc, hp, hpd, hv, hn, ho, hod⟩ := hR
  dsimp only at hc hp hpd hv hn ho hod hl ⊢
  obtain rfl := hc.lenf (fun _ => rfl) (by decide)
  obtain rfl := hp.lenf (fun _ => rfl) (by decide)
  obtain rfl := hv.lenp
  obtain rfl := hn.lenp
  obtain rfl := ho.lenf (fun _ => rfl) (by decide)
  refine body_in (n := 248) (l := [.agg #[.int .i64 kind, .int .i64 frm, .int .i64 why, .slice CA cs.length Cc, .slice PA ps.length Pc, .slice VA vs.length Vc, .slice NA ws.length Nc, .slice OA os.length Oc]]) en11 rfl Try.ntmps11 rfl ?_
  have hA := At.refl w
  refine W_seq ?_
  refine W_reg ?_ -- 0 ref.go:104
  refine o_box hA (by conv => lhs; whnf) rfl (fun b1 w1 hA => ?_)
  refine o_assign (v := .bool _) rfl ?_
  refine O_end ?_
  refine W_seq ?_
  refine W_seq ?_
  refine W_reg ?_ -- 1 ref.go:105
  refine o_fieldAddr fo29_0 rfl rfl ?_
  refine o_load1 ag3 rfl (hA.c 0 rfl rfl) ?_
  refine o_cmp2 rfl rfl rfl (fun h => ?_) (fun h => ?_)
  · -- True
    have q16 := of_decide_eq_true h
    refine o_move (v := .bool _) rfl ?_
    refine O_no rfl rfl rfl rfl ?_
    refine O_no rfl rfl rfl rfl ?_
    refine O_no rfl rfl rfl rfl ?_
    refine o_pick_t rfl (v := .bool _) rfl ?_
    refine O_end ?_
    refine W_then rfl ?_
    refine W_seq ?_
    refine W_reg ?_ -- 2 ref.go:106
    refine o_assign (v := .bool _) rfl ?_
    refine O_end ?_
    refine W_ret ?_
    refine ⟨rfl, ?_⟩
    refine ret1 Try.results11 (v := .bool _) rfl ?_
    refine ⟨?_, hA.clear⟩
    show Value.bool _ = Value.bool (refG kind frm why cs ps vs ws os)
    unfold refG
    rw [if_pos (by omega)]
  · -- False
    have q16 := of_decide_eq_false h
    refine o_move (v := .bool _) rfl ?_
    refine O_yes rfl rfl rfl ?_
    refine o_fieldAddr fo29_0 rfl rfl ?_
    refine O_yes rfl rfl rfl ?_
    refine o_load1 ag3 rfl (hA.c 0 rfl rfl) ?_
    refine O_yes rfl rfl rfl ?_
    refine o_cmp2 rfl rfl rfl (fun h => ?_) (fun h => ?_)
    · -- True
      have q20 := of_decide_eq_true h
      refine o_pick_f rfl (v := .bool _) rfl ?_
      refine O_end ?_
      refine W_then rfl ?_
      refine W_seq ?_
      refine W_reg ?_ -- 2 ref.go:106
      refine o_assign (v := .bool _) rfl ?_
      refine O_end ?_
      refine W_ret ?_
      refine ⟨rfl, ?_⟩
      refine ret1 Try.results11 (v := .bool _) rfl ?_
      refine ⟨?_, hA.clear⟩
      show Value.bool _ = Value.bool (refG kind frm why cs ps vs ws os)
      unfold refG
      rw [if_pos (by omega)]
    · -- False
      have q20 := of_decide_eq_false h
      refine o_pick_f rfl (v := .bool _) rfl ?_
      refine O_end ?_
      refine W_else rfl ?_
      refine W_skip ?_
      refine W_seq ?_
      refine W_cut (fun ρ w' => ρ 1 = .pointer (some ⟨b1, 0, none⟩) ∧ ρ 3 = .bool (kind == 2 || kind == 4 || kind == 6) ∧ At w No [Cell b1 29 [.int .i64 kind, .int .i64 frm, .int .i64 why, .slice CA cs.length Cc, .slice PA ps.length Pc, .slice VA vs.length Vc, .slice NA ws.length Nc, .slice OA os.length Oc]] w') ?_ ?_
      · -- up to the cut
        refine W_reg ?_ -- 3 ref.go:108
        refine o_fieldAddr fo29_0 rfl rfl ?_
        refine o_load1 ag3 rfl (hA.c 0 rfl rfl) ?_
        refine o_cmp2 rfl rfl rfl (fun h => ?_) (fun h => ?_)
        · -- True
          have q24 := beq_iff_eq.1 h
          refine o_move (v := .bool _) rfl ?_
          refine O_no rfl rfl rfl rfl ?_
          refine O_no rfl rfl rfl rfl ?_
          refine O_no rfl rfl rfl rfl ?_
          refine o_pick_t rfl (v := .bool _) rfl ?_
          refine o_move (v := .bool _) rfl ?_
          refine O_no rfl rfl rfl rfl ?_
          refine O_no rfl rfl rfl rfl ?_
          refine O_no rfl rfl rfl rfl ?_
          refine o_pick_t rfl (v := .bool _) rfl ?_
          refine o_assign (v := .bool _) rfl ?_
          refine O_end ?_
          refine ⟨rfl, ?_, hA⟩
          show Value.bool _ = Value.bool _
          rw [show (kind == 2) = true from by rw [beq_iff_eq]; exact q24]; rfl
        · -- False
          have q24 := beq_eq_false_iff_ne.1 h
          refine o_move (v := .bool _) rfl ?_
          refine O_yes rfl rfl rfl ?_
          refine o_fieldAddr fo29_0 rfl rfl ?_
          refine O_yes rfl rfl rfl ?_
          refine o_load1 ag3 rfl (hA.c 0 rfl rfl) ?_
          refine O_yes rfl rfl rfl ?_
          refine o_cmp2 rfl rfl rfl (fun h => ?_) (fun h => ?_)
          · -- True
            have q28 := beq_iff_eq.1 h
            refine o_pick_f rfl (v := .bool _) rfl ?_
            refine o_move (v := .bool _) rfl ?_
            refine O_no rfl rfl rfl rfl ?_
            refine O_no rfl rfl rfl rfl ?_
            refine O_no rfl rfl rfl rfl ?_
            refine o_pick_t rfl (v := .bool _) rfl ?_
            refine o_assign (v := .bool _) rfl ?_
            refine O_end ?_
            refine ⟨rfl, ?_, hA⟩
            show Value.bool _ = Value.bool _
            rw [show (kind == 4) = true from by rw [beq_iff_eq]; exact q28]; simp
          · -- False
            have q28 := beq_eq_false_iff_ne.1 h
            refine o_pick_f rfl (v := .bool _) rfl ?_
            refine o_move (v := .bool _) rfl ?_
            refine O_yes rfl rfl rfl ?_
            refine o_fieldAddr fo29_0 rfl rfl ?_
            refine O_yes rfl rfl rfl ?_
            refine o_load1 ag3 rfl (hA.c 0 rfl rfl) ?_
            refine O_yes rfl rfl rfl ?_
            refine o_cmp2 rfl rfl rfl (fun h => ?_) (fun h => ?_)
            · -- True
              have q33 := beq_iff_eq.1 h
              refine o_pick_f rfl (v := .bool _) rfl ?_
              refine o_assign (v := .bool _) rfl ?_
              refine O_end ?_
              refine ⟨rfl, ?_, hA⟩
              show Value.bool _ = Value.bool _
              rw [show (kind == 6) = true from by rw [beq_iff_eq]; exact q33]; simp
            · -- False
              have q33 := beq_eq_false_iff_ne.1 h
              refine o_pick_f rfl (v := .bool _) rfl ?_
              refine o_assign (v := .bool _) rfl ?_
              refine O_end ?_
              refine ⟨rfl, ?_, hA⟩
              show Value.bool _ = Value.bool _
              rw [show (kind == 2) = false from by rw [beq_eq_false_iff_ne]; exact q24, show (kind == 4) = false from by rw [beq_eq_false_iff_ne]; exact q28, show (kind == 6) = false from by rw [beq_eq_false_iff_ne]; exact q33]; rfl
      · -- behind it
        clear hA
        rintro ρ w1 ⟨h1, h3, hA⟩
        obtain ⟨wb, hwb⟩ : ∃ wb, wb = (kind == 2 || kind == 4 || kind == 6) := ⟨_, rfl⟩
        rw [← hwb] at h3
        refine W_known (t := 1) h1 ?_
        refine W_known (t := 3) h3 ?_
        refine W_seq ?_
        refine W_seq ?_
        refine W_cut (fun ρ w' => ρ 1 = .pointer (some ⟨b1, 0, none⟩) ∧ ρ 49 = .bool (headBad kind frm) ∧ At w No [Cell b1 29 [.int .i64 kind, .int .i64 frm, .int .i64 why, .slice CA cs.length Cc, .slice PA ps.length Pc, .slice VA vs.length Vc, .slice NA ws.length Nc, .slice OA os.length Oc]] w') ?_ ?_
        · -- up to the cut
          rcases wb with _ | _
          rotate_left
          · -- True
            refine W_reg ?_ -- 4 ref.go:109
            refine o_move (v := .bool _) rfl ?_
            refine o_fieldAddr fo29_1 rfl rfl ?_
            refine o_load1 ag3 rfl (hA.c 0 rfl rfl) ?_
            refine o_cmp rfl rfl rfl ?_
            refine o_eqb2 Try.underlying4 rfl rfl (.inr ⟨rfl, rfl⟩) (fun h => ?_) (fun h => ?_)
            · -- True
              have q39 := h
              refine o_move (v := .bool _) rfl ?_
              refine O_no rfl rfl rfl rfl ?_
              refine O_no rfl rfl rfl rfl ?_
              refine O_no rfl rfl rfl rfl ?_
              refine O_nu rfl rfl rfl ?_
              refine O_nu rfl rfl rfl ?_
              refine O_nu rfl rfl rfl ?_
              refine O_nu rfl rfl rfl ?_
              refine O_no rfl rfl rfl rfl ?_
              refine o_pick_t rfl (v := .bool _) rfl ?_
              refine O_end ?_
              refine ⟨rfl, ?_, hA⟩
              show Value.bool _ = Value.bool (headBad kind frm)
              unfold headBad
              rw [← hwb]
              rw [show (true != (frm == 0)) = true from q39]; rfl
            · -- False
              have q39 := h
              refine o_move (v := .bool _) rfl ?_
              refine O_yes rfl rfl rfl ?_
              refine o_move (v := .bool _) rfl ?_
              refine O_yes rfl rfl rfl ?_
              refine o_not rfl ?_
              refine O_yes rfl rfl rfl ?_
              refine o_move (v := .bool _) rfl ?_
              refine O_no rfl rfl rfl rfl ?_
              refine O_no rfl rfl rfl rfl ?_
              refine O_no rfl rfl rfl rfl ?_
              refine O_no rfl rfl rfl rfl ?_
              refine O_yes rfl rfl rfl ?_
              refine o_pick_f rfl (v := .bool _) rfl ?_
              refine o_pick_f rfl (v := .bool _) rfl ?_
              refine O_end ?_
              refine ⟨rfl, ?_, hA⟩
              show Value.bool _ = Value.bool (headBad kind frm)
              unfold headBad
              rw [← hwb]
              rw [show (true != (frm == 0)) = false from q39]; rfl
          · -- False
            refine W_reg ?_ -- 4 ref.go:109
            refine o_move (v := .bool _) rfl ?_
            refine o_fieldAddr fo29_1 rfl rfl ?_
            refine o_load1 ag3 rfl (hA.c 0 rfl rfl) ?_
            refine o_cmp rfl rfl rfl ?_
            refine o_eqb2 Try.underlying4 rfl rfl (.inr ⟨rfl, rfl⟩) (fun h => ?_) (fun h => ?_)
            · -- True
              have q39 := h
              refine o_move (v := .bool _) rfl ?_
              refine O_no rfl rfl rfl rfl ?_
              refine O_no rfl rfl rfl rfl ?_
              refine O_no rfl rfl rfl rfl ?_
              refine O_nu rfl rfl rfl ?_
              refine O_nu rfl rfl rfl ?_
              refine O_nu rfl rfl rfl ?_
              refine O_nu rfl rfl rfl ?_
              refine O_no rfl rfl rfl rfl ?_
              refine o_pick_t rfl (v := .bool _) rfl ?_
              refine O_end ?_
              refine ⟨rfl, ?_, hA⟩
              show Value.bool _ = Value.bool (headBad kind frm)
              unfold headBad
              rw [← hwb]
              rw [show (false != (frm == 0)) = true from q39]; rfl
            · -- False
              have q39 := h
              refine o_move (v := .bool _) rfl ?_
              refine O_yes rfl rfl rfl ?_
              refine o_move (v := .bool _) rfl ?_
              refine O_yes rfl rfl rfl ?_
              refine o_not rfl ?_
              refine O_yes rfl rfl rfl ?_
              refine o_move (v := .bool _) rfl ?_
              refine O_yes rfl rfl rfl ?_
              refine o_fieldAddr fo29_1 rfl rfl ?_
              refine O_yes rfl rfl rfl ?_
              refine o_load1 ag3 rfl (hA.c 0 rfl rfl) ?_
              refine O_yes rfl rfl rfl ?_
              refine O_callb en19 rfl q_who (fun w2 hC h => ?_) (fun w2 hC h => ?_)
              · -- True
                have hA := (hA.after hC).take
                have q46 := h
                refine O_yes rfl rfl rfl ?_
                refine o_not rfl ?_
                refine O_yes rfl rfl rfl ?_
                refine o_pick_t rfl (v := .bool _) rfl ?_
                refine o_pick_f rfl (v := .bool _) rfl ?_
                refine O_end ?_
                refine ⟨rfl, ?_, hA⟩
                show Value.bool _ = Value.bool (headBad kind frm)
                unfold headBad
                rw [← hwb]
                rw [show (false != (frm == 0)) = false from q39, q46]; rfl
              · -- False
                have hA := (hA.after hC).take
                have q46 := h
                refine O_yes rfl rfl rfl ?_
                refine o_not rfl ?_
                refine O_yes rfl rfl rfl ?_
                refine o_pick_t rfl (v := .bool _) rfl ?_
                refine o_pick_f rfl (v := .bool _) rfl ?_
                refine O_end ?_
                refine ⟨rfl, ?_, hA⟩
                show Value.bool _ = Value.bool (headBad kind frm)
                unfold headBad
                rw [← hwb]
                rw [show (false != (frm == 0)) = false from q39, q46]; rfl
        · -- behind it
          clear hA
          rintro ρ w1 ⟨h1, h49, hA⟩
          refine W_known (t := 1) h1 ?_
          refine W_known (t := 49) h49 ?_
          refine W_if rfl (fun hcc => ?_) (fun hcc => ?_)
          · -- True
            have q49 := hcc
            refine W_seq ?_
            refine W_reg ?_ -- 5 ref.go:110
            refine o_assign (v := .bool _) rfl ?_
            refine O_end ?_
            refine W_ret ?_
            refine ⟨rfl, ?_⟩
            refine ret1 Try.results11 (v := .bool _) rfl ?_
            refine ⟨?_, hA.clear⟩
            show Value.bool _ = Value.bool (refG kind frm why cs ps vs ws os)
            unfold refG
            rw [if_neg (by omega), if_pos q49]
          · -- False
            have q49 := hcc
            have q49' : headBad kind frm = false := q49
            refine W_skip ?_
            refine W_seq ?_
            refine W_reg ?_ -- 6 ref.go:112
            refine o_buildSlice (cs := []) hA Try.underlying26 ti3 rfl rfl rfl rfl rfl (fun a3 w3 hA => ?_)
            refine o_buildSlice (cs := []) hA Try.underlying26 ti3 rfl rfl rfl rfl rfl (fun a4 w4 hA => ?_)
            refine o_buildSlice (cs := []) hA Try.underlying26 ti3 rfl rfl rfl rfl rfl (fun a5 w5 hA => ?_)
            refine o_assign (by conv => lhs; whnf) ?_
            refine o_assign (by conv => lhs; whnf) ?_
            refine o_assign (by conv => lhs; whnf) ?_
            refine O_end ?_
            refine W_seq ?_
            refine W_reg ?_ -- 7 ref.go:113
            refine o_assign (v := .bool _) rfl ?_
            refine O_end ?_
            refine W_seq ?_
            refine W_seq ?_
            refine W_reg ?_ -- 8 ref.go:114
            refine o_assign (v := .int _ _) rfl ?_
            refine O_end ?_
            refine W_block ?_ -- 0
            refine W_loop (fun kk ρ w' => ∃ (A4 : Option Addr) (m4 c4 : Nat) (A5 : Option Addr) (m5 c5 : Nat) (A6 : Option Addr) (m6 c6 : Nat) (j : Nat), kk = cs.length - j ∧ j ≤ cs.length ∧ ρ 8 = .int .i64 (j : Int) ∧ ρ 1 = .pointer (some ⟨b1, 0, none⟩) ∧ ρ 4 = .slice A4 m4 c4 ∧ ρ 5 = .slice A5 m5 c5 ∧ ρ 6 = .slice A6 m6 c6 ∧ ρ 7 = .bool true ∧ At w No [Row 3 1 (.slice A6 m6 c6) ([]), Row 3 1 (.slice A5 m5 c5) ([]), Row 3 1 (.slice A4 m4 c4) (((cs.take j).map (fun (y : Cd) => y.w)).map i64v), Cell b1 29 [.int .i64 kind, .int .i64 frm, .int .i64 why, .slice CA cs.length Cc, .slice PA ps.length Pc, .slice VA vs.length Vc, .slice NA ws.length Nc, .slice OA os.length Oc]] w') cs.length
              ⟨_, _, _, _, _, _, _, _, _, 0, by simp, Nat.zero_le _, rfl, rfl, rfl, rfl, rfl, rfl, hA⟩ ?_
            clear hA
            rintro kk ρ w1 ⟨A4, m4, c4, A5, m5, c5, A6, m6, c6, j, rfl, hj, h8, h1, h4, h5, h6, h7, hA⟩
            refine W_known (t := 8) h8 ?_
            refine W_known (t := 1) h1 ?_
            refine W_known (t := 4) h4 ?_
            refine W_known (t := 5) h5 ?_
            refine W_known (t := 6) h6 ?_
            refine W_known (t := 7) h7 ?_
            refine W_seq ?_
            refine W_seq ?_
            refine W_reg ?_ -- 9 ref.go:114
            refine o_move (v := .int _ _) rfl ?_
            refine o_fieldAddr fo29_3 rfl rfl ?_
            refine o_load1 ag23 rfl (hA.c 3 rfl rfl) ?_
            refine o_len Try.underlying23 rfl ?_
            refine o_cmp2 rfl rfl rfl (fun h => ?_) (fun h => ?_)
            · -- True
              have q57 := of_decide_eq_true h
              have hlt : j < cs.length := by omega
              obtain ⟨x, hx⟩ : ∃ x, cs[j]? = some x := ⟨_, List.getElem?_eq_getElem hlt⟩
              obtain ⟨g0, o0, rfl⟩ := hc.addr (by decide) (fm_len (s := 3) (fun _ => rfl) cs) (by omega)
              refine O_end ?_
              refine W_then rfl ?_
              refine W_skip ?_
              refine W_seq ?_
              refine W_block ?_ -- 1
              refine W_reg ?_ -- 11 ref.go:115
              refine o_move (by conv => lhs; whnf) ?_
              refine o_fieldAddr fo29_3 rfl rfl ?_
              refine o_load1 ag23 rfl (hA.c 3 rfl rfl) ?_
              refine o_move (v := .int _ _) rfl ?_
              refine o_index Try.underlying23 ti50 rfl rfl (by omega) (by omega) ?_
              refine o_fieldAddr fo50_0 rfl rfl ?_
              refine o_load1 ag3 rfl ((hc.old hA).fld (fun _ => rfl) hx rfl) ?_
              refine o_buildSlice (cs := [_]) hA Try.underlying26 ti3 rfl rfl rfl rfl rfl (fun a6 w6 hA => ?_)
              refine o_append (i := 3) hA rfl rfl rfl Try.underlying26 ti3 rfl (by decide) (hA.rd 0 rfl) (fun u hu => by obtain rfl := List.mem_singleton.1 hu; rfl) (fun m k h1 h2 => by simp at h1 h2; omega) (fun m k h1 h2 => by simp at h1 h2; omega) (fun v7 w7 hA => ?_)
              refine o_assign (by conv => lhs; whnf) ?_
              refine O_end ?_
              refine W_reg ?_ -- 10 ref.go:114
              refine o_move (v := .int _ _) rfl ?_
              refine o_add rfl rfl (w64 (r := ((j + 1 : Nat) : Int)) (by omega) (by omega) (by omega)) ?_
              refine o_assign (v := .int _ _) rfl ?_
              refine O_end ?_
              have hst : (((cs.take j).map (fun (y : Cd) => y.w)).map i64v) ++ [i64v ((fun (y : Cd) => y.w) x)] = ((cs.take (j + 1)).map (fun (y : Cd) => y.w)).map i64v := by rw [List.take_add_one, hx]; simp
              obtain ⟨B4, n4, d4, rfl⟩ := (hA.row 3 rfl).slice
              refine ⟨cs.length - (j + 1), by omega, B4, n4, d4, A5, m5, c5, A6, m6, c6, j + 1, rfl, by omega, rfl, rfl, rfl, rfl, rfl, rfl, ?_⟩
              rw [← hst]
              exact hA.tail 1
            · -- False
              have q57 := of_decide_eq_false h
              refine O_end ?_
              refine W_else rfl ?_
              refine W_exit ?_
              refine xb_hit ?_
              refine W_seq ?_
              refine W_seq ?_
              refine W_reg ?_ -- 12 ref.go:117
              refine o_assign (v := .int _ _) rfl ?_
              refine O_end ?_
              refine W_block ?_ -- 2
              obtain rfl : j = cs.length := by omega
              rw [List.take_length] at hA
              refine W_loop (fun kk ρ w' => ∃ (A4 : Option Addr) (m4 c4 : Nat) (A5 : Option Addr) (m5 c5 : Nat) (A6 : Option Addr) (m6 c6 : Nat) (j : Nat) (fb : Bool), kk = ps.length - j ∧ j ≤ ps.length ∧ ρ 9 = .int .i64 (j : Int) ∧ ρ 1 = .pointer (some ⟨b1, 0, none⟩) ∧ ρ 4 = .slice A4 m4 c4 ∧ ρ 5 = .slice A5 m5 c5 ∧ ρ 6 = .slice A6 m6 c6 ∧ ρ 7 = .bool fb ∧ fb = (ps.take j).all (fun (y : Pp × Sl) => whoP y.1.f && whoP y.1.t && decide (y.1.d.length ≤ 64)) ∧ At w No [Row 3 1 (.slice A6 m6 c6) ([]), Row 3 1 (.slice A5 m5 c5) (((ps.take j).map (fun (y : Pp × Sl) => if kind = 3 then y.1.t else y.1.f)).map i64v), Row 3 1 (.slice A4 m4 c4) ((cs.map (fun (y : Cd) => y.w)).map i64v), Cell b1 29 [.int .i64 kind, .int .i64 frm, .int .i64 why, .slice CA cs.length Cc, .slice PA ps.length Pc, .slice VA vs.length Vc, .slice NA ws.length Nc, .slice OA os.length Oc]] w') ps.length
                ⟨_, _, _, _, _, _, _, _, _, 0, true, by simp, Nat.zero_le _, rfl, rfl, rfl, rfl, rfl, rfl, rfl, hA⟩ ?_
              clear hA
              rintro kk ρ w1 ⟨A4, m4, c4, A5, m5, c5, A6, m6, c6, j, fb, rfl, hj, h9, h1, h4, h5, h6, h7, hfb, hA⟩
              refine W_known (t := 9) h9 ?_
              refine W_known (t := 1) h1 ?_
              refine W_known (t := 4) h4 ?_
              refine W_known (t := 5) h5 ?_
              refine W_known (t := 6) h6 ?_
              refine W_known (t := 7) h7 ?_
              refine W_seq ?_
              refine W_seq ?_
              refine W_reg ?_ -- 13 ref.go:117
              refine o_move (v := .int _ _) rfl ?_
              refine o_fieldAddr fo29_4 rfl rfl ?_
              refine o_load1 ag24 rfl (hA.c 3 rfl rfl) ?_
              refine o_len Try.underlying24 rfl ?_
              refine o_cmp2 rfl rfl rfl (fun h => ?_) (fun h => ?_)
              · -- True
                have q73 := of_decide_eq_true h
                have hlt : j < ps.length := by omega
                obtain ⟨x, hx⟩ : ∃ x, ps[j]? = some x := ⟨_, List.getElem?_eq_getElem hlt⟩
                obtain ⟨g0, o0, rfl⟩ := hp.addr (by decide) (fm_len (s := 3) (fun _ => rfl) ps) (by omega)
                have hxd := (hpd x (List.mem_of_getElem? hx)).lenp
                have hal : (ps.take (j + 1)).all (fun (y : Pp × Sl) => whoP y.1.f && whoP y.1.t && decide (y.1.d.length ≤ 64)) = ((ps.take j).all (fun (y : Pp × Sl) => whoP y.1.f && whoP y.1.t && decide (y.1.d.length ≤ 64)) && (whoP x.1.f && whoP x.1.t && decide (x.1.d.length ≤ 64))) := by rw [List.take_add_one, hx]; simp
                refine O_end ?_
                refine W_then rfl ?_
                refine W_skip ?_
                refine W_seq ?_
                refine W_block ?_ -- 3
                refine W_seq ?_
                refine W_reg ?_ -- 15 ref.go:118
                refine o_fieldAddr fo29_4 rfl rfl ?_
                refine o_load1 ag24 rfl (hA.c 3 rfl rfl) ?_
                refine o_move (v := .int _ _) rfl ?_
                refine o_index Try.underlying24 ti52 rfl rfl (by omega) (by omega) ?_
                refine o_loadN ag52 ti52 rfl (cs := ppc x) rfl (fun j v hj => (hp.old hA).fld (fun _ => rfl) hx hj) ?_
                refine o_alloc hA ti52 rfl (fun b8 w8 hA => ?_)
                refine o_store (cs' := [_, _, _]) (i := 0) hA rfl (by conv => lhs; whnf) rfl ti52 rfl rfl rfl rfl (fun w9 hA => ?_)
                refine O_end ?_
                refine W_seq ?_
                refine W_cut (fun ρ w' => ρ 9 = .int .i64 (j : Int) ∧ ρ 10 = .pointer (some ⟨b8, 0, none⟩) ∧ ρ 1 = .pointer (some ⟨b1, 0, none⟩) ∧ ρ 4 = .slice A4 m4 c4 ∧ ρ 5 = .slice A5 m5 c5 ∧ ρ 6 = .slice A6 m6 c6 ∧ ρ 7 = .bool (fb && (whoP x.1.f && whoP x.1.t && decide (x.1.d.length ≤ 64))) ∧ At w No [Cell b8 52 (ppc x), Row 3 1 (.slice A6 m6 c6) ([]), Row 3 1 (.slice A5 m5 c5) (((ps.take j).map (fun (y : Pp × Sl) => if kind = 3 then y.1.t else y.1.f)).map i64v), Row 3 1 (.slice A4 m4 c4) ((cs.map (fun (y : Cd) => y.w)).map i64v), Cell b1 29 [.int .i64 kind, .int .i64 frm, .int .i64 why, .slice CA cs.length Cc, .slice (some ⟨g0, o0, none⟩) ps.length Pc, .slice VA vs.length Vc, .slice NA ws.length Nc, .slice OA os.length Oc]] w') ?_ ?_
                · -- up to the cut
                  rcases fb with _ | _
                  rotate_left
                  · -- True
                    refine W_reg ?_ -- 16 ref.go:119
                    refine o_move (v := .bool _) rfl ?_
                    refine o_move (v := .bool _) rfl ?_
                    refine O_yes rfl rfl rfl ?_
                    refine o_fieldAddr fo52_0 rfl rfl ?_
                    refine O_yes rfl rfl rfl ?_
                    refine o_load1 ag3 rfl (hA.c 0 rfl rfl) ?_
                    refine O_yes rfl rfl rfl ?_
                    refine O_callb en19 rfl q_who (fun w10 hC h => ?_) (fun w10 hC h => ?_)
                    · -- True
                      have hA := (hA.after hC).take
                      have q85 := h
                      refine o_pick_t rfl (v := .bool _) rfl ?_
                      refine o_move (v := .bool _) rfl ?_
                      refine O_yes rfl rfl rfl ?_
                      refine o_fieldAddr fo52_1 rfl rfl ?_
                      refine O_yes rfl rfl rfl ?_
                      refine o_load1 ag3 rfl (hA.c 0 rfl rfl) ?_
                      refine O_yes rfl rfl rfl ?_
                      refine O_callb en19 rfl q_who (fun w11 hC h => ?_) (fun w11 hC h => ?_)
                      · -- True
                        have hA := (hA.after hC).take
                        have q90 := h
                        refine o_pick_t rfl (v := .bool _) rfl ?_
                        refine o_move (v := .bool _) rfl ?_
                        refine O_yes rfl rfl rfl ?_
                        refine o_fieldAddr fo52_2 rfl rfl ?_
                        refine O_yes rfl rfl rfl ?_
                        refine o_load1 ag32 rfl (hA.c 0 rfl rfl) ?_
                        refine O_yes rfl rfl rfl ?_
                        refine o_len Try.underlying32 rfl ?_
                        refine O_yes rfl rfl rfl ?_
                        refine o_cmp2 rfl rfl rfl (fun h => ?_) (fun h => ?_)
                        · -- True
                          have q96 := of_decide_eq_true h
                          refine o_pick_t rfl (v := .bool _) rfl ?_
                          refine o_assign (v := .bool _) rfl ?_
                          refine O_end ?_
                          refine ⟨rfl, rfl, rfl, rfl, rfl, rfl, ?_, hA⟩
                          show Value.bool _ = Value.bool _
                          rw [q85, q90, decide_eq_true (show x.1.d.length ≤ 64 by omega)]; rfl
                        · -- False
                          have q96 := of_decide_eq_false h
                          refine o_pick_t rfl (v := .bool _) rfl ?_
                          refine o_assign (v := .bool _) rfl ?_
                          refine O_end ?_
                          refine ⟨rfl, rfl, rfl, rfl, rfl, rfl, ?_, hA⟩
                          show Value.bool _ = Value.bool _
                          rw [q85, q90, decide_eq_false (show ¬ x.1.d.length ≤ 64 by omega)]; rfl
                      · -- False
                        have hA := (hA.after hC).take
                        have q90 := h
                        refine o_pick_t rfl (v := .bool _) rfl ?_
                        refine o_move (v := .bool _) rfl ?_
                        refine O_no rfl rfl rfl rfl ?_
                        refine O_no rfl rfl rfl rfl ?_
                        refine O_no rfl rfl rfl rfl ?_
                        refine O_no rfl rfl rfl rfl ?_
                        refine o_pick_f rfl (v := .bool _) rfl ?_
                        refine o_assign (v := .bool _) rfl ?_
                        refine O_end ?_
                        refine ⟨rfl, rfl, rfl, rfl, rfl, rfl, ?_, hA⟩
                        show Value.bool _ = Value.bool _
                        rw [q85, q90]; rfl
                    · -- False
                      have hA := (hA.after hC).take
                      have q85 := h
                      refine o_pick_t rfl (v := .bool _) rfl ?_
                      refine o_move (v := .bool _) rfl ?_
                      refine O_no rfl rfl rfl rfl ?_
                      refine O_no rfl rfl rfl rfl ?_
                      refine O_no rfl rfl rfl rfl ?_
                      refine o_pick_f rfl (v := .bool _) rfl ?_
                      refine o_move (v := .bool _) rfl ?_
                      refine O_no rfl rfl rfl rfl ?_
                      refine O_no rfl rfl rfl rfl ?_
                      refine O_no rfl rfl rfl rfl ?_
                      refine O_no rfl rfl rfl rfl ?_
                      refine o_pick_f rfl (v := .bool _) rfl ?_
                      refine o_assign (v := .bool _) rfl ?_
                      refine O_end ?_
                      refine ⟨rfl, rfl, rfl, rfl, rfl, rfl, ?_, hA⟩
                      show Value.bool _ = Value.bool _
                      rw [q85]; rfl
                  · -- False
                    refine W_reg ?_ -- 16 ref.go:119
                    refine o_move (v := .bool _) rfl ?_
                    refine o_move (v := .bool _) rfl ?_
                    refine O_no rfl rfl rfl rfl ?_
                    refine O_no rfl rfl rfl rfl ?_
                    refine O_no rfl rfl rfl rfl ?_
                    refine o_pick_f rfl (v := .bool _) rfl ?_
                    refine o_move (v := .bool _) rfl ?_
                    refine O_no rfl rfl rfl rfl ?_
                    refine O_no rfl rfl rfl rfl ?_
                    refine O_no rfl rfl rfl rfl ?_
                    refine o_pick_f rfl (v := .bool _) rfl ?_
                    refine o_move (v := .bool _) rfl ?_
                    refine O_no rfl rfl rfl rfl ?_
                    refine O_no rfl rfl rfl rfl ?_
                    refine O_no rfl rfl rfl rfl ?_
                    refine O_no rfl rfl rfl rfl ?_
                    refine o_pick_f rfl (v := .bool _) rfl ?_
                    refine o_assign (v := .bool _) rfl ?_
                    refine O_end ?_
                    refine ⟨rfl, rfl, rfl, rfl, rfl, rfl, ?_, hA⟩
                    show Value.bool _ = Value.bool _
                    rfl
                · -- behind it
                  clear hA
                  rintro ρ w1 ⟨h9, h10, h1, h4, h5, h6, h7, hA⟩
                  refine W_known (t := 9) h9 ?_
                  refine W_known (t := 10) h10 ?_
                  refine W_known (t := 1) h1 ?_
                  refine W_known (t := 4) h4 ?_
                  refine W_known (t := 5) h5 ?_
                  refine W_known (t := 6) h6 ?_
                  refine W_known (t := 7) h7 ?_
                  refine W_seq ?_
                  refine W_reg ?_ -- 17 ref.go:120
                  refine o_fieldAddr fo29_0 rfl rfl ?_
                  refine o_load1 ag3 rfl (hA.c 4 rfl rfl) ?_
                  refine o_cmp2 rfl rfl rfl (fun h => ?_) (fun h => ?_)
                  · -- True
                    have q100 := beq_iff_eq.1 h
                    refine O_end ?_
                    refine W_then rfl ?_
                    refine W_reg ?_ -- 18 ref.go:121
                    refine o_move (by conv => lhs; whnf) ?_
                    refine o_fieldAddr fo52_1 rfl rfl ?_
                    refine o_load1 ag3 rfl (hA.c 0 rfl rfl) ?_
                    refine o_buildSlice (cs := [_]) hA Try.underlying26 ti3 rfl rfl rfl rfl rfl (fun a12 w12 hA => ?_)
                    refine o_append (i := 3) hA rfl rfl rfl Try.underlying26 ti3 rfl (by decide) (hA.rd 0 rfl) (fun u hu => by obtain rfl := List.mem_singleton.1 hu; rfl) (fun m k h1 h2 => by simp at h1 h2; omega) (fun m k h1 h2 => by simp at h1 h2; omega) (fun v13 w13 hA => ?_)
                    refine o_assign (by conv => lhs; whnf) ?_
                    refine O_end ?_
                    refine W_reg ?_ -- 14 ref.go:117
                    refine o_move (v := .int _ _) rfl ?_
                    refine o_add rfl rfl (w64 (r := ((j + 1 : Nat) : Int)) (by omega) (by omega) (by omega)) ?_
                    refine o_assign (v := .int _ _) rfl ?_
                    refine O_end ?_
                    have hst : (((ps.take j).map (fun (y : Pp × Sl) => if kind = 3 then y.1.t else y.1.f)).map i64v) ++ [i64v (if kind = 3 then x.1.t else x.1.f)] = ((ps.take (j + 1)).map (fun (y : Pp × Sl) => if kind = 3 then y.1.t else y.1.f)).map i64v := by rw [List.take_add_one, hx]; simp
                    rw [if_pos q100] at hst
                    obtain ⟨B5, n5, d5, rfl⟩ := (hA.row 3 rfl).slice
                    refine ⟨ps.length - (j + 1), by omega, A4, m4, c4, B5, n5, d5, A6, m6, c6, j + 1, _, rfl, by omega, rfl, rfl, rfl, rfl, rfl, rfl, ?_, ?_⟩
                    · rw [hal, ← hfb]
                    · rw [← hst]
                      exact hA.tail 2
                  · -- False
                    have q100 := beq_eq_false_iff_ne.1 h
                    refine O_end ?_
                    refine W_else rfl ?_
                    refine W_reg ?_ -- 19 ref.go:123
                    refine o_move (by conv => lhs; whnf) ?_
                    refine o_fieldAddr fo52_0 rfl rfl ?_
                    refine o_load1 ag3 rfl (hA.c 0 rfl rfl) ?_
                    refine o_buildSlice (cs := [_]) hA Try.underlying26 ti3 rfl rfl rfl rfl rfl (fun a14 w14 hA => ?_)
                    refine o_append (i := 3) hA rfl rfl rfl Try.underlying26 ti3 rfl (by decide) (hA.rd 0 rfl) (fun u hu => by obtain rfl := List.mem_singleton.1 hu; rfl) (fun m k h1 h2 => by simp at h1 h2; omega) (fun m k h1 h2 => by simp at h1 h2; omega) (fun v15 w15 hA => ?_)
                    refine o_assign (by conv => lhs; whnf) ?_
                    refine O_end ?_
                    refine W_reg ?_ -- 14 ref.go:117
                    refine o_move (v := .int _ _) rfl ?_
                    refine o_add rfl rfl (w64 (r := ((j + 1 : Nat) : Int)) (by omega) (by omega) (by omega)) ?_
                    refine o_assign (v := .int _ _) rfl ?_
                    refine O_end ?_
                    have hst : (((ps.take j).map (fun (y : Pp × Sl) => if kind = 3 then y.1.t else y.1.f)).map i64v) ++ [i64v (if kind = 3 then x.1.t else x.1.f)] = ((ps.take (j + 1)).map (fun (y : Pp × Sl) => if kind = 3 then y.1.t else y.1.f)).map i64v := by rw [List.take_add_one, hx]; simp
                    rw [if_neg q100] at hst
                    obtain ⟨B5, n5, d5, rfl⟩ := (hA.row 3 rfl).slice
                    refine ⟨ps.length - (j + 1), by omega, A4, m4, c4, B5, n5, d5, A6, m6, c6, j + 1, _, rfl, by omega, rfl, rfl, rfl, rfl, rfl, rfl, ?_, ?_⟩
                    · rw [hal, ← hfb]
                    · rw [← hst]
                      exact hA.tail 2
              · -- False
                have q73 := of_decide_eq_false h
                refine O_end ?_
                refine W_else rfl ?_
                refine W_exit ?_
                refine xb_hit ?_
                refine W_seq ?_
                refine W_seq ?_
                refine W_reg ?_ -- 20 ref.go:126
                refine o_assign (v := .int _ _) rfl ?_
                refine O_end ?_
                refine W_block ?_ -- 4
                obtain rfl : j = ps.length := by omega
                rw [List.take_length] at hA hfb
                refine W_loop (fun kk ρ w' => ∃ (A4 : Option Addr) (m4 c4 : Nat) (A5 : Option Addr) (m5 c5 : Nat) (A6 : Option Addr) (m6 c6 : Nat) (j : Nat) (fb : Bool), kk = os.length - j ∧ j ≤ os.length ∧ ρ 11 = .int .i64 (j : Int) ∧ ρ 1 = .pointer (some ⟨b1, 0, none⟩) ∧ ρ 4 = .slice A4 m4 c4 ∧ ρ 5 = .slice A5 m5 c5 ∧ ρ 6 = .slice A6 m6 c6 ∧ ρ 7 = .bool fb ∧ fb = (ps.all (fun (y : Pp × Sl) => whoP y.1.f && whoP y.1.t && decide (y.1.d.length ≤ 64)) && (os.take j).all fun y => decide (y.1.v.length ≤ 5)) ∧ At w No [Row 3 1 (.slice A6 m6 c6) (((os.take j).map (fun (y : Oo × Sl) => y.1.w)).map i64v), Row 3 1 (.slice A5 m5 c5) ((ps.map (fun (y : Pp × Sl) => if kind = 3 then y.1.t else y.1.f)).map i64v), Row 3 1 (.slice A4 m4 c4) ((cs.map (fun (y : Cd) => y.w)).map i64v), Cell b1 29 [.int .i64 kind, .int .i64 frm, .int .i64 why, .slice CA cs.length Cc, .slice PA ps.length Pc, .slice VA vs.length Vc, .slice NA ws.length Nc, .slice OA os.length Oc]] w') os.length
                  ⟨_, _, _, _, _, _, _, _, _, 0, _, by simp, Nat.zero_le _, rfl, rfl, rfl, rfl, rfl, rfl, (by rw [hfb]; simp), hA⟩ ?_
                clear hA hfb
                rintro kk ρ w1 ⟨A4, m4, c4, A5, m5, c5, A6, m6, c6, j, fb, rfl, hj, h11, h1, h4, h5, h6, h7, hfb, hA⟩
                refine W_known (t := 11) h11 ?_
                refine W_known (t := 1) h1 ?_
                refine W_known (t := 4) h4 ?_
                refine W_known (t := 5) h5 ?_
                refine W_known (t := 6) h6 ?_
                refine W_known (t := 7) h7 ?_
                refine W_seq ?_
                refine W_seq ?_
                refine W_reg ?_ -- 21 ref.go:126
                refine o_move (v := .int _ _) rfl ?_
                refine o_fieldAddr fo29_7 rfl rfl ?_
                refine o_load1 ag27 rfl (hA.c 3 rfl rfl) ?_
                refine o_len Try.underlying27 rfl ?_
                refine o_cmp2 rfl rfl rfl (fun h => ?_) (fun h => ?_)
                · -- True
                  have q115 := of_decide_eq_true h
                  have hlt : j < os.length := by omega
                  obtain ⟨x, hx⟩ : ∃ x, os[j]? = some x := ⟨_, List.getElem?_eq_getElem hlt⟩
                  obtain ⟨g0, o0, rfl⟩ := ho.addr (by decide) (fm_len (s := 3) (fun _ => rfl) os) (by omega)
                  have hxd := (hod x (List.mem_of_getElem? hx)).lenp
                  have hal : ((os.take (j + 1)).all fun (y : Oo × Sl) => decide (y.1.v.length ≤ 5)) = (((os.take j).all fun y => decide (y.1.v.length ≤ 5)) && decide (x.1.v.length ≤ 5)) := by rw [List.take_add_one, hx]; simp
                  refine O_end ?_
                  refine W_then rfl ?_
                  refine W_skip ?_
                  refine W_seq ?_
                  refine W_block ?_ -- 5
                  refine W_seq ?_
                  refine W_cut (fun ρ w' => ρ 11 = .int .i64 (j : Int) ∧ ρ 1 = .pointer (some ⟨b1, 0, none⟩) ∧ ρ 4 = .slice A4 m4 c4 ∧ ρ 5 = .slice A5 m5 c5 ∧ ρ 6 = .slice A6 m6 c6 ∧ ρ 7 = .bool (fb && decide (x.1.v.length ≤ 5)) ∧ At w No [Row 3 1 (.slice A6 m6 c6) (((os.take j).map (fun (y : Oo × Sl) => y.1.w)).map i64v), Row 3 1 (.slice A5 m5 c5) ((ps.map (fun (y : Pp × Sl) => if kind = 3 then y.1.t else y.1.f)).map i64v), Row 3 1 (.slice A4 m4 c4) ((cs.map (fun (y : Cd) => y.w)).map i64v), Cell b1 29 [.int .i64 kind, .int .i64 frm, .int .i64 why, .slice CA cs.length Cc, .slice PA ps.length Pc, .slice VA vs.length Vc, .slice NA ws.length Nc, .slice (some ⟨g0, o0, none⟩) os.length Oc]] w') ?_ ?_
                  · -- up to the cut
                    rcases fb with _ | _
                    rotate_left
                    · -- True
                      refine W_reg ?_ -- 23 ref.go:127
                      refine o_move (v := .bool _) rfl ?_
                      refine o_move (v := .bool _) rfl ?_
                      refine O_yes rfl rfl rfl ?_
                      refine o_fieldAddr fo29_7 rfl rfl ?_
                      refine O_yes rfl rfl rfl ?_
                      refine o_load1 ag27 rfl (hA.c 3 rfl rfl) ?_
                      refine O_yes rfl rfl rfl ?_
                      refine o_move (v := .int _ _) rfl ?_
                      refine O_yes rfl rfl rfl ?_
                      refine o_index Try.underlying27 ti55 rfl rfl (by omega) (by omega) ?_
                      refine O_yes rfl rfl rfl ?_
                      refine o_fieldAddr fo55_2 rfl rfl ?_
                      refine O_yes rfl rfl rfl ?_
                      refine o_load1 ag53 rfl ((ho.old hA).fld (fun _ => rfl) hx rfl) ?_
                      refine O_yes rfl rfl rfl ?_
                      refine o_len Try.underlying53 rfl ?_
                      refine O_yes rfl rfl rfl ?_
                      refine o_cmp2 rfl rfl rfl (fun h => ?_) (fun h => ?_)
                      · -- True
                        have q127 := of_decide_eq_true h
                        refine o_pick_t rfl (v := .bool _) rfl ?_
                        refine o_assign (v := .bool _) rfl ?_
                        refine O_end ?_
                        refine ⟨rfl, rfl, rfl, rfl, rfl, ?_, hA⟩
                        show Value.bool _ = Value.bool _
                        rw [decide_eq_true (show x.1.v.length ≤ 5 by omega)]; rfl
                      · -- False
                        have q127 := of_decide_eq_false h
                        refine o_pick_t rfl (v := .bool _) rfl ?_
                        refine o_assign (v := .bool _) rfl ?_
                        refine O_end ?_
                        refine ⟨rfl, rfl, rfl, rfl, rfl, ?_, hA⟩
                        show Value.bool _ = Value.bool _
                        rw [decide_eq_false (show ¬ x.1.v.length ≤ 5 by omega)]; rfl
                    · -- False
                      refine W_reg ?_ -- 23 ref.go:127
                      refine o_move (v := .bool _) rfl ?_
                      refine o_move (v := .bool _) rfl ?_
                      refine O_no rfl rfl rfl rfl ?_
                      refine O_no rfl rfl rfl rfl ?_
                      refine O_no rfl rfl rfl rfl ?_
                      refine O_no rfl rfl rfl rfl ?_
                      refine O_no rfl rfl rfl rfl ?_
                      refine O_no rfl rfl rfl rfl ?_
                      refine O_no rfl rfl rfl rfl ?_
                      refine O_no rfl rfl rfl rfl ?_
                      refine o_pick_f rfl (v := .bool _) rfl ?_
                      refine o_assign (v := .bool _) rfl ?_
                      refine O_end ?_
                      refine ⟨rfl, rfl, rfl, rfl, rfl, ?_, hA⟩
                      show Value.bool _ = Value.bool _
                      rfl
                  · -- behind it
                    clear hA
                    rintro ρ w1 ⟨h11, h1, h4, h5, h6, h7, hA⟩
                    refine W_known (t := 11) h11 ?_
                    refine W_known (t := 1) h1 ?_
                    refine W_known (t := 4) h4 ?_
                    refine W_known (t := 5) h5 ?_
                    refine W_known (t := 6) h6 ?_
                    refine W_known (t := 7) h7 ?_
                    refine W_reg ?_ -- 24 ref.go:128
                    refine o_move (by conv => lhs; whnf) ?_
                    refine o_fieldAddr fo29_7 rfl rfl ?_
                    refine o_load1 ag27 rfl (hA.c 3 rfl rfl) ?_
                    refine o_move (v := .int _ _) rfl ?_
                    refine o_index Try.underlying27 ti55 rfl rfl (by omega) (by omega) ?_
                    refine o_fieldAddr fo55_0 rfl rfl ?_
                    refine o_load1 ag3 rfl ((ho.old hA).fld (fun _ => rfl) hx rfl) ?_
                    refine o_buildSlice (cs := [_]) hA Try.underlying26 ti3 rfl rfl rfl rfl rfl (fun a16 w16 hA => ?_)
                    refine o_append (i := 1) hA rfl rfl rfl Try.underlying26 ti3 rfl (by decide) (hA.rd 0 rfl) (fun u hu => by obtain rfl := List.mem_singleton.1 hu; rfl) (fun m k h1 h2 => by simp at h1 h2; omega) (fun m k h1 h2 => by simp at h1 h2; omega) (fun v17 w17 hA => ?_)
                    refine o_assign (by conv => lhs; whnf) ?_
                    refine O_end ?_
                    refine W_reg ?_ -- 22 ref.go:126
                    refine o_move (v := .int _ _) rfl ?_
                    refine o_add rfl rfl (w64 (r := ((j + 1 : Nat) : Int)) (by omega) (by omega) (by omega)) ?_
                    refine o_assign (v := .int _ _) rfl ?_
                    refine O_end ?_
                    have hst : (((os.take j).map (fun (y : Oo × Sl) => y.1.w)).map i64v) ++ [i64v ((fun (y : Oo × Sl) => y.1.w) x)] = ((os.take (j + 1)).map (fun (y : Oo × Sl) => y.1.w)).map i64v := by rw [List.take_add_one, hx]; simp
                    obtain ⟨B6, n6, d6, rfl⟩ := (hA.row 1 rfl).slice
                    refine ⟨os.length - (j + 1), by omega, A4, m4, c4, A5, m5, c5, B6, n6, d6, j + 1, _, rfl, by omega, rfl, rfl, rfl, rfl, rfl, rfl, ?_, ?_⟩
                    · rw [hal, ← Bool.and_assoc, ← hfb]
                    · rw [← hst]
                      exact hA.tail 1
                · -- False
                  have q115 := of_decide_eq_false h
                  refine O_end ?_
                  refine W_else rfl ?_
                  refine W_exit ?_
                  refine xb_hit ?_
                  refine W_seq ?_
                  obtain rfl : j = os.length := by omega
                  rw [List.take_length] at hA hfb
                  have hfbo := hfb
                  refine W_reg ?_ -- 25 ref.go:130
                  refine o_fieldAddr fo29_3 rfl rfl ?_
                  refine o_load1 ag23 rfl (hA.c 3 rfl rfl) ?_
                  refine o_len Try.underlying23 rfl ?_
                  refine o_fieldAddr fo29_3 rfl rfl ?_
                  refine o_load1 ag23 rfl (hA.c 3 rfl rfl) ?_
                  refine o_len Try.underlying23 rfl ?_
                  refine o_fieldAddr fo29_4 rfl rfl ?_
                  refine o_load1 ag24 rfl (hA.c 3 rfl rfl) ?_
                  refine o_len Try.underlying24 rfl ?_
                  refine o_fieldAddr fo29_4 rfl rfl ?_
                  refine o_load1 ag24 rfl (hA.c 3 rfl rfl) ?_
                  refine o_len Try.underlying24 rfl ?_
                  refine o_fieldAddr fo29_5 rfl rfl ?_
                  refine o_load1 ag25 rfl (hA.c 3 rfl rfl) ?_
                  refine o_len Try.underlying25 rfl ?_
                  refine o_fieldAddr fo29_6 rfl rfl ?_
                  refine o_load1 ag26 rfl (hA.c 3 rfl rfl) ?_
                  refine o_len Try.underlying26 rfl ?_
                  refine o_fieldAddr fo29_7 rfl rfl ?_
                  refine o_load1 ag27 rfl (hA.c 3 rfl rfl) ?_
                  refine o_len Try.underlying27 rfl ?_
                  refine o_buildA la56 rfl rfl ?_
                  refine o_alloc hA ti56 rfl (fun b18 w18 hA => ?_)
                  refine o_store (cs' := [_, _, _, _, _, _, _, _, _]) (i := 0) hA rfl (by conv => lhs; whnf) rfl ti56 rfl rfl rfl rfl (fun w19 hA => ?_)
                  refine O_end ?_
                  refine W_seq ?_
                  refine W_reg ?_ -- 26 ref.go:131
                  refine o_fieldAddr fo29_3 rfl rfl ?_
                  refine o_load1 ag23 rfl (hA.c 4 rfl rfl) ?_
                  refine o_len Try.underlying23 rfl ?_
                  refine o_fieldAddr fo29_4 rfl rfl ?_
                  refine o_load1 ag24 rfl (hA.c 4 rfl rfl) ?_
                  refine o_len Try.underlying24 rfl ?_
                  refine o_add rfl rfl (w64 rfl (by omega) (by omega)) ?_
                  refine o_fieldAddr fo29_5 rfl rfl ?_
                  refine o_load1 ag25 rfl (hA.c 4 rfl rfl) ?_
                  refine o_len Try.underlying25 rfl ?_
                  refine o_add rfl rfl (w64 rfl (by omega) (by omega)) ?_
                  refine o_fieldAddr fo29_6 rfl rfl ?_
                  refine o_load1 ag26 rfl (hA.c 4 rfl rfl) ?_
                  refine o_len Try.underlying26 rfl ?_
                  refine o_add rfl rfl (w64 rfl (by omega) (by omega)) ?_
                  refine o_fieldAddr fo29_7 rfl rfl ?_
                  refine o_load1 ag27 rfl (hA.c 4 rfl rfl) ?_
                  refine o_len Try.underlying27 rfl ?_
                  refine o_add rfl rfl (w64 rfl (by omega) (by omega)) ?_
                  refine o_assign (v := .int _ _) rfl ?_
                  refine O_end ?_
                  refine W_seq ?_
                  refine W_seq ?_
                  refine W_cut (fun ρ w' => ρ 1 = .pointer (some ⟨b1, 0, none⟩) ∧ ρ 4 = .slice A4 m4 c4 ∧ ρ 5 = .slice A5 m5 c5 ∧ ρ 6 = .slice A6 m6 c6 ∧ ρ 210 = .bool (midB kind cs ps vs ws os) ∧ At w No [Row 3 1 (.slice A6 m6 c6) ((os.map (fun (y : Oo × Sl) => y.1.w)).map i64v), Row 3 1 (.slice A5 m5 c5) ((ps.map (fun (y : Pp × Sl) => if kind = 3 then y.1.t else y.1.f)).map i64v), Row 3 1 (.slice A4 m4 c4) ((cs.map (fun (y : Cd) => y.w)).map i64v), Cell b1 29 [.int .i64 kind, .int .i64 frm, .int .i64 why, .slice CA cs.length Cc, .slice PA ps.length Pc, .slice VA vs.length Vc, .slice NA ws.length Nc, .slice OA os.length Oc]] w') ?_ ?_
                  · -- up to the cut
                    rcases fb with _ | _
                    rotate_left
                    · -- True
                      refine W_reg ?_ -- 27 ref.go:132
                      refine o_move (v := .bool _) rfl ?_
                      refine o_not rfl ?_
                      refine o_move (v := .bool _) rfl ?_
                      refine O_yes rfl rfl rfl ?_
                      refine o_move (v := .int _ _) rfl ?_
                      refine O_yes rfl rfl rfl ?_
                      refine o_fieldAddr fo29_0 rfl rfl ?_
                      refine O_yes rfl rfl rfl ?_
                      refine o_load1 ag3 rfl (hA.c 4 rfl rfl) ?_
                      refine O_yes rfl rfl rfl ?_
                      refine o_indexA Try.underlying56 ti3 rfl rfl (by omega) (by omega) ?_
                      refine O_yes rfl rfl rfl ?_
                      refine o_load1 ag3 rfl (hA.c 0 rfl (has_row _ _ _ _ _ (by omega) (by omega))) ?_
                      refine O_yes rfl rfl rfl ?_
                      refine o_cmp2 rfl rfl rfl (fun h => ?_) (fun h => ?_)
                      · -- True
                        have q187 := bne_iff_ne.1 h
                        refine o_pick_f rfl (v := .bool _) rfl ?_
                        refine o_move (v := .bool _) rfl ?_
                        refine O_no rfl rfl rfl rfl ?_
                        refine O_no rfl rfl rfl rfl ?_
                        refine O_no rfl rfl rfl rfl ?_
                        refine O_no rfl rfl rfl rfl ?_
                        refine o_pick_t rfl (v := .bool _) rfl ?_
                        refine o_move (v := .bool _) rfl ?_
                        refine O_no rfl rfl rfl rfl ?_
                        refine O_no rfl rfl rfl rfl ?_
                        refine O_no rfl rfl rfl rfl ?_
                        refine O_no rfl rfl rfl rfl ?_
                        refine o_pick_t rfl (v := .bool _) rfl ?_
                        refine o_move (v := .bool _) rfl ?_
                        refine O_no rfl rfl rfl rfl ?_
                        refine O_no rfl rfl rfl rfl ?_
                        refine O_no rfl rfl rfl rfl ?_
                        refine o_pick_t rfl (v := .bool _) rfl ?_
                        refine o_move (v := .bool _) rfl ?_
                        refine O_no rfl rfl rfl rfl ?_
                        refine O_no rfl rfl rfl rfl ?_
                        refine O_no rfl rfl rfl rfl ?_
                        refine o_pick_t rfl (v := .bool _) rfl ?_
                        refine O_end ?_
                        refine ⟨rfl, rfl, rfl, rfl, ?_, hA.tail 1⟩
                        show Value.bool _ = Value.bool (midB kind cs ps vs ws os)
                        unfold midB
                        rw [← hfbo]
                        rw [show ((((cs.length + ps.length + vs.length + ws.length + os.length : Nat) : Int)) != hasN kind cs.length ps.length vs.length ws.length os.length) = true from by first | (rw [bne_iff_ne]; omega) | (rw [bne_eq_false_iff_eq]; omega)]
                        rfl
                      · -- False
                        have q187 := bne_eq_false_iff_eq.1 h
                        refine o_pick_f rfl (v := .bool _) rfl ?_
                        refine o_move (v := .bool _) rfl ?_
                        refine O_yes rfl rfl rfl ?_
                        refine o_fieldAddr fo29_5 rfl rfl ?_
                        refine O_yes rfl rfl rfl ?_
                        refine o_load1 ag25 rfl (hA.c 4 rfl rfl) ?_
                        refine O_yes rfl rfl rfl ?_
                        refine o_len Try.underlying25 rfl ?_
                        refine O_yes rfl rfl rfl ?_
                        refine o_cmp2 rfl rfl rfl (fun h => ?_) (fun h => ?_)
                        · -- True
                          have q193 := of_decide_eq_true h
                          refine o_pick_f rfl (v := .bool _) rfl ?_
                          refine o_move (v := .bool _) rfl ?_
                          refine O_no rfl rfl rfl rfl ?_
                          refine O_no rfl rfl rfl rfl ?_
                          refine O_no rfl rfl rfl rfl ?_
                          refine O_no rfl rfl rfl rfl ?_
                          refine o_pick_t rfl (v := .bool _) rfl ?_
                          refine o_move (v := .bool _) rfl ?_
                          refine O_no rfl rfl rfl rfl ?_
                          refine O_no rfl rfl rfl rfl ?_
                          refine O_no rfl rfl rfl rfl ?_
                          refine o_pick_t rfl (v := .bool _) rfl ?_
                          refine o_move (v := .bool _) rfl ?_
                          refine O_no rfl rfl rfl rfl ?_
                          refine O_no rfl rfl rfl rfl ?_
                          refine O_no rfl rfl rfl rfl ?_
                          refine o_pick_t rfl (v := .bool _) rfl ?_
                          refine O_end ?_
                          refine ⟨rfl, rfl, rfl, rfl, ?_, hA.tail 1⟩
                          show Value.bool _ = Value.bool (midB kind cs ps vs ws os)
                          unfold midB
                          rw [← hfbo]
                          rw [show ((((cs.length + ps.length + vs.length + ws.length + os.length : Nat) : Int)) != hasN kind cs.length ps.length vs.length ws.length os.length) = false from by first | (rw [bne_iff_ne]; omega) | (rw [bne_eq_false_iff_eq]; omega)]
                          rw [decide_eq_true (show 256 < vs.length by omega)]; rfl
                        · -- False
                          have q193 := of_decide_eq_false h
                          refine o_pick_f rfl (v := .bool _) rfl ?_
                          refine o_move (v := .bool _) rfl ?_
                          refine O_yes rfl rfl rfl ?_
                          refine o_fieldAddr fo29_6 rfl rfl ?_
                          refine O_yes rfl rfl rfl ?_
                          refine o_load1 ag26 rfl (hA.c 4 rfl rfl) ?_
                          refine O_yes rfl rfl rfl ?_
                          refine O_callb en20 rfl (q_rising (hn.old hA) (by omega)) (fun w20 hC h => ?_) (fun w20 hC h => ?_)
                          · -- True
                            have hA := (hA.after hC).take
                            have q198 := h
                            refine O_yes rfl rfl rfl ?_
                            refine o_not rfl ?_
                            refine o_pick_f rfl (v := .bool _) rfl ?_
                            refine o_move (v := .bool _) rfl ?_
                            refine O_yes rfl rfl rfl ?_
                            refine o_move (by conv => lhs; whnf) ?_
                            refine O_yes rfl rfl rfl ?_
                            refine O_callb en20 rfl (q_rising (hA.rd 2 rfl) (by simp; omega)) (fun w21 hC h => ?_) (fun w21 hC h => ?_)
                            · -- True
                              have hA := (hA.after hC).take
                              have q203 := h
                              refine O_yes rfl rfl rfl ?_
                              refine o_not rfl ?_
                              refine o_pick_f rfl (v := .bool _) rfl ?_
                              refine o_move (v := .bool _) rfl ?_
                              refine O_yes rfl rfl rfl ?_
                              refine o_move (by conv => lhs; whnf) ?_
                              refine O_yes rfl rfl rfl ?_
                              refine O_callb en20 rfl (q_rising (hA.rd 1 rfl) (by simp; omega)) (fun w22 hC h => ?_) (fun w22 hC h => ?_)
                              · -- True
                                have hA := (hA.after hC).take
                                have q208 := h
                                refine O_yes rfl rfl rfl ?_
                                refine o_not rfl ?_
                                refine o_pick_f rfl (v := .bool _) rfl ?_
                                refine O_end ?_
                                refine ⟨rfl, rfl, rfl, rfl, ?_, hA.tail 1⟩
                                show Value.bool _ = Value.bool (midB kind cs ps vs ws os)
                                unfold midB
                                rw [← hfbo]
                                rw [show ((((cs.length + ps.length + vs.length + ws.length + os.length : Nat) : Int)) != hasN kind cs.length ps.length vs.length ws.length os.length) = false from by first | (rw [bne_iff_ne]; omega) | (rw [bne_eq_false_iff_eq]; omega)]
                                rw [decide_eq_false (show ¬ 256 < vs.length by omega), q198, q203, q208]; rfl
                              · -- False
                                have hA := (hA.after hC).take
                                have q208 := h
                                refine O_yes rfl rfl rfl ?_
                                refine o_not rfl ?_
                                refine o_pick_f rfl (v := .bool _) rfl ?_
                                refine O_end ?_
                                refine ⟨rfl, rfl, rfl, rfl, ?_, hA.tail 1⟩
                                show Value.bool _ = Value.bool (midB kind cs ps vs ws os)
                                unfold midB
                                rw [← hfbo]
                                rw [show ((((cs.length + ps.length + vs.length + ws.length + os.length : Nat) : Int)) != hasN kind cs.length ps.length vs.length ws.length os.length) = false from by first | (rw [bne_iff_ne]; omega) | (rw [bne_eq_false_iff_eq]; omega)]
                                rw [decide_eq_false (show ¬ 256 < vs.length by omega), q198, q203, q208]; rfl
                            · -- False
                              have hA := (hA.after hC).take
                              have q203 := h
                              refine O_yes rfl rfl rfl ?_
                              refine o_not rfl ?_
                              refine o_pick_f rfl (v := .bool _) rfl ?_
                              refine o_move (v := .bool _) rfl ?_
                              refine O_no rfl rfl rfl rfl ?_
                              refine O_no rfl rfl rfl rfl ?_
                              refine O_no rfl rfl rfl rfl ?_
                              refine o_pick_t rfl (v := .bool _) rfl ?_
                              refine O_end ?_
                              refine ⟨rfl, rfl, rfl, rfl, ?_, hA.tail 1⟩
                              show Value.bool _ = Value.bool (midB kind cs ps vs ws os)
                              unfold midB
                              rw [← hfbo]
                              rw [show ((((cs.length + ps.length + vs.length + ws.length + os.length : Nat) : Int)) != hasN kind cs.length ps.length vs.length ws.length os.length) = false from by first | (rw [bne_iff_ne]; omega) | (rw [bne_eq_false_iff_eq]; omega)]
                              rw [decide_eq_false (show ¬ 256 < vs.length by omega), q198, q203]; rfl
                          · -- False
                            have hA := (hA.after hC).take
                            have q198 := h
                            refine O_yes rfl rfl rfl ?_
                            refine o_not rfl ?_
                            refine o_pick_f rfl (v := .bool _) rfl ?_
                            refine o_move (v := .bool _) rfl ?_
                            refine O_no rfl rfl rfl rfl ?_
                            refine O_no rfl rfl rfl rfl ?_
                            refine O_no rfl rfl rfl rfl ?_
                            refine o_pick_t rfl (v := .bool _) rfl ?_
                            refine o_move (v := .bool _) rfl ?_
                            refine O_no rfl rfl rfl rfl ?_
                            refine O_no rfl rfl rfl rfl ?_
                            refine O_no rfl rfl rfl rfl ?_
                            refine o_pick_t rfl (v := .bool _) rfl ?_
                            refine O_end ?_
                            refine ⟨rfl, rfl, rfl, rfl, ?_, hA.tail 1⟩
                            show Value.bool _ = Value.bool (midB kind cs ps vs ws os)
                            unfold midB
                            rw [← hfbo]
                            rw [show ((((cs.length + ps.length + vs.length + ws.length + os.length : Nat) : Int)) != hasN kind cs.length ps.length vs.length ws.length os.length) = false from by first | (rw [bne_iff_ne]; omega) | (rw [bne_eq_false_iff_eq]; omega)]
                            rw [decide_eq_false (show ¬ 256 < vs.length by omega), q198]; rfl
                    · -- False
                      refine W_reg ?_ -- 27 ref.go:132
                      refine o_move (v := .bool _) rfl ?_
                      refine o_not rfl ?_
                      refine o_move (v := .bool _) rfl ?_
                      refine O_no rfl rfl rfl rfl ?_
                      refine O_no rfl rfl rfl rfl ?_
                      refine O_no rfl rfl rfl rfl ?_
                      refine O_no rfl rfl rfl rfl ?_
                      refine O_no rfl rfl rfl rfl ?_
                      refine O_no rfl rfl rfl rfl ?_
                      refine o_pick_t rfl (v := .bool _) rfl ?_
                      refine o_move (v := .bool _) rfl ?_
                      refine O_no rfl rfl rfl rfl ?_
                      refine O_no rfl rfl rfl rfl ?_
                      refine O_no rfl rfl rfl rfl ?_
                      refine O_no rfl rfl rfl rfl ?_
                      refine o_pick_t rfl (v := .bool _) rfl ?_
                      refine o_move (v := .bool _) rfl ?_
                      refine O_no rfl rfl rfl rfl ?_
                      refine O_no rfl rfl rfl rfl ?_
                      refine O_no rfl rfl rfl rfl ?_
                      refine O_no rfl rfl rfl rfl ?_
                      refine o_pick_t rfl (v := .bool _) rfl ?_
                      refine o_move (v := .bool _) rfl ?_
                      refine O_no rfl rfl rfl rfl ?_
                      refine O_no rfl rfl rfl rfl ?_
                      refine O_no rfl rfl rfl rfl ?_
                      refine o_pick_t rfl (v := .bool _) rfl ?_
                      refine o_move (v := .bool _) rfl ?_
                      refine O_no rfl rfl rfl rfl ?_
                      refine O_no rfl rfl rfl rfl ?_
                      refine O_no rfl rfl rfl rfl ?_
                      refine o_pick_t rfl (v := .bool _) rfl ?_
                      refine O_end ?_
                      refine ⟨rfl, rfl, rfl, rfl, ?_, hA.tail 1⟩
                      show Value.bool _ = Value.bool (midB kind cs ps vs ws os)
                      unfold midB
                      rw [← hfbo]
                      rfl
                  · -- behind it
                    clear hA
                    rintro ρ w1 ⟨h1, h4, h5, h6, h210, hA⟩
                    refine W_known (t := 1) h1 ?_
                    refine W_known (t := 4) h4 ?_
                    refine W_known (t := 5) h5 ?_
                    refine W_known (t := 6) h6 ?_
                    refine W_known (t := 210) h210 ?_
                    have hm4 : m4 = cs.length := by have := (hA.rd 2 rfl).lenp; rw [List.length_map] at this; exact this
                    refine W_if rfl (fun hcc => ?_) (fun hcc => ?_)
                    · -- True
                      have q210 := hcc
                      refine W_seq ?_
                      refine W_reg ?_ -- 28 ref.go:133
                      refine o_assign (v := .bool _) rfl ?_
                      refine O_end ?_
                      refine W_ret ?_
                      refine ⟨rfl, ?_⟩
                      refine ret1 Try.results11 (v := .bool _) rfl ?_
                      refine ⟨?_, hA.clear⟩
                      show Value.bool _ = Value.bool (refG kind frm why cs ps vs ws os)
                      unfold refG
                      rw [if_neg (by omega), if_neg (show ¬ headBad kind frm = true by rw [q49']; simp), if_pos q210]
                    · -- False
                      have q210 := hcc
                      refine W_skip ?_
                      refine W_seq ?_
                      refine W_seq ?_
                      refine W_reg ?_ -- 29 ref.go:135
                      refine o_fieldAddr fo29_0 rfl rfl ?_
                      refine o_load1 ag3 rfl (hA.c 3 rfl rfl) ?_
                      refine o_cmp2 rfl rfl rfl (fun h => ?_) (fun h => ?_)
                      · -- True
                        have q213 := beq_iff_eq.1 h
                        refine O_end ?_
                        refine W_then rfl ?_
                        refine W_seq ?_
                        refine W_drawA hA [1, 11, 13] mix rfl rfl (fun w0_30 hA => ?_) -- 30 ref.go:136
                        refine D_take 0 rfl (by kernel_rfl) (by rintro _ _ _ ⟨h, _⟩; cases h) rfl (fun h => by cases h) (fun w hA => r_fieldAddr fo29_2 rfl rfl) ?_
                        refine D_take 1 rfl (by kernel_rfl) (by rintro _ _ _ ⟨h, _⟩; cases h) rfl (fun _ => hA) (fun w hA => r_load1 ag22 rfl ((hA rfl).c 3 rfl rfl)) ?_
                        refine D_takeb 2 rfl (by kernel_rfl) (by rintro _ _ _ ⟨h, _⟩; cases h) rfl (fun h => by cases h) (fun w hA => r_cmp rfl rfl rfl) (fun h => ?_) (fun h => ?_)
                        · -- True
                          have q216 := beq_iff_eq.1 h
                          refine D_take 3 rfl (by kernel_rfl) (by rintro _ _ _ ⟨h, _⟩; cases h) rfl (fun h => by cases h) (fun w hA => r_move (v := .bool _) rfl) ?_
                          refine D_take_yes 4 rfl (by kernel_rfl) (by rintro _ _ _ ⟨h, _⟩; cases h) rfl (fun h => by cases h) rfl rfl rfl (fun w hA => r_move (by conv => lhs; whnf)) ?_
                          refine D_take_yes 5 rfl (by kernel_rfl) (by rintro _ _ _ ⟨h, _⟩; cases h) rfl (fun h => by cases h) rfl rfl rfl (fun w hA => r_len Try.underlying26 rfl) ?_
                          refine D_takeb_yes 6 rfl (by kernel_rfl) (by rintro _ _ _ ⟨h, _⟩; cases h) rfl (fun h => by cases h) rfl rfl rfl (fun w hA => r_cmp rfl rfl rfl) (fun h => ?_) (fun h => ?_)
                          · -- True
                            have q220 := beq_iff_eq.1 h
                            obtain ⟨x0, hx0⟩ : ∃ x0, cs[0]? = some x0 := ⟨_, List.getElem?_eq_getElem (by omega)⟩
                            obtain ⟨g4, o4, rfl⟩ := (hA.rd 2 rfl).addr (by decide) (show _ = cs.length * 1 by simp) (by omega)
                            refine D_take 7 rfl (by kernel_rfl) (by rintro _ _ _ ⟨h, _⟩; cases h) rfl (fun h => by cases h) (fun w hA => r_pick_t rfl (v := .bool _) rfl) ?_
                            refine D_take 8 rfl (by kernel_rfl) (by rintro _ _ _ ⟨h, _⟩; cases h) rfl (fun h => by cases h) (fun w hA => r_move (v := .bool _) rfl) ?_
                            refine D_take_yes 9 rfl (by kernel_rfl) (by rintro _ _ _ ⟨h, _⟩; cases h) rfl (fun h => by cases h) rfl rfl rfl (fun w hA => r_move (by conv => lhs; whnf)) ?_
                            refine D_take_yes 10 rfl (by kernel_rfl) (by rintro _ _ _ ⟨h, _⟩; cases h) rfl (fun h => by cases h) rfl rfl rfl (fun w hA => r_index Try.underlying26 ti3 rfl rfl (by omega) (by omega)) ?_
                            refine D_take_yes 11 rfl (by kernel_rfl) (by rintro _ _ _ ⟨h, _⟩; cases h) rfl (fun _ => hA) rfl rfl rfl (fun w hA => r_load1 ag3 rfl ((((hA rfl).rd 2 rfl)).elt (i := 0) (show (cs.map (fun (y : Cd) => y.w))[0]? = some x0.w by rw [List.getElem?_map, hx0]; rfl))) ?_
                            refine D_take_yes 12 rfl (by kernel_rfl) (by rintro _ _ _ ⟨h, _⟩; cases h) rfl (fun h => by cases h) rfl rfl rfl (fun w hA => r_fieldAddr fo29_1 rfl rfl) ?_
                            refine D_take_yes 13 rfl (by kernel_rfl) (by rintro _ _ _ ⟨h, _⟩; cases h) rfl (fun _ => hA) rfl rfl rfl (fun w hA => r_load1 ag3 rfl ((hA rfl).c 3 rfl rfl)) ?_
                            refine D_take_yes 14 rfl (by kernel_rfl) (by rintro _ _ _ ⟨h, _⟩; cases h) rfl (fun h => by cases h) rfl rfl rfl (fun w hA => r_cmp rfl rfl rfl) ?_
                            refine D_take 15 rfl (by kernel_rfl) (by rintro _ _ _ ⟨h, _⟩; cases h) rfl (fun h => by cases h) (fun w hA => r_pick_t rfl (v := .bool _) rfl) ?_
                            refine D_take 16 rfl (by kernel_rfl) (by rintro _ _ _ ⟨h, _⟩; cases h) rfl (fun h => by cases h) (fun w hA => r_assign (v := .bool _) rfl) ?_
                            refine D_done (by kernel_rfl) ?_
                            refine W_ret ?_
                            refine ⟨rfl, ?_⟩
                            refine ret1 Try.results11 (v := .bool _) rfl ?_
                            refine ⟨?_, hA.clear⟩
                            show Value.bool _ = Value.bool (refG kind frm why cs ps vs ws os)
                            unfold refG
                            rw [if_neg (by omega), if_neg (show ¬ headBad kind frm = true by rw [q49']; simp), if_neg (show ¬ midB kind cs ps vs ws os = true by rw [q210]; simp)]
                            rw [if_pos q213, show (why == 0) = true from by rw [beq_iff_eq]; exact q216, decide_eq_true (show cs.length = 1 by omega), hx0]; rfl
                          · -- False
                            have q220 := beq_eq_false_iff_ne.1 h
                            refine D_take 7 rfl (by kernel_rfl) (by rintro _ _ _ ⟨h, _⟩; cases h) rfl (fun h => by cases h) (fun w hA => r_pick_t rfl (v := .bool _) rfl) ?_
                            refine D_take 8 rfl (by kernel_rfl) (by rintro _ _ _ ⟨h, _⟩; cases h) rfl (fun h => by cases h) (fun w hA => r_move (v := .bool _) rfl) ?_
                            refine D_take_no 9 rfl (by kernel_rfl) (by rintro _ _ _ ⟨h, _⟩; cases h) rfl (fun h => by cases h) rfl rfl rfl rfl ?_
                            refine D_take_no 10 rfl (by kernel_rfl) (by rintro _ _ _ ⟨h, _⟩; cases h) rfl (fun h => by cases h) rfl rfl rfl rfl ?_
                            refine D_take_no 11 rfl (by kernel_rfl) (by rintro _ _ _ ⟨h, _⟩; cases h) rfl (fun _ => hA) rfl rfl rfl rfl ?_
                            refine D_take_no 12 rfl (by kernel_rfl) (by rintro _ _ _ ⟨h, _⟩; cases h) rfl (fun h => by cases h) rfl rfl rfl rfl ?_
                            refine D_take_no 13 rfl (by kernel_rfl) (by rintro _ _ _ ⟨h, _⟩; cases h) rfl (fun _ => hA) rfl rfl rfl rfl ?_
                            refine D_take_no 14 rfl (by kernel_rfl) (by rintro _ _ _ ⟨h, _⟩; cases h) rfl (fun h => by cases h) rfl rfl rfl rfl ?_
                            refine D_take 15 rfl (by kernel_rfl) (by rintro _ _ _ ⟨h, _⟩; cases h) rfl (fun h => by cases h) (fun w hA => r_pick_f rfl (v := .bool _) rfl) ?_
                            refine D_take 16 rfl (by kernel_rfl) (by rintro _ _ _ ⟨h, _⟩; cases h) rfl (fun h => by cases h) (fun w hA => r_assign (v := .bool _) rfl) ?_
                            refine D_done (by kernel_rfl) ?_
                            refine W_ret ?_
                            refine ⟨rfl, ?_⟩
                            refine ret1 Try.results11 (v := .bool _) rfl ?_
                            refine ⟨?_, hA.clear⟩
                            show Value.bool _ = Value.bool (refG kind frm why cs ps vs ws os)
                            unfold refG
                            rw [if_neg (by omega), if_neg (show ¬ headBad kind frm = true by rw [q49']; simp), if_neg (show ¬ midB kind cs ps vs ws os = true by rw [q210]; simp)]
                            rw [if_pos q213, decide_eq_false (show ¬ cs.length = 1 by omega)]; simp
                        · -- False
                          have q216 := beq_eq_false_iff_ne.1 h
                          refine D_take 3 rfl (by kernel_rfl) (by rintro _ _ _ ⟨h, _⟩; cases h) rfl (fun h => by cases h) (fun w hA => r_move (v := .bool _) rfl) ?_
                          refine D_take_no 4 rfl (by kernel_rfl) (by rintro _ _ _ ⟨h, _⟩; cases h) rfl (fun h => by cases h) rfl rfl rfl rfl ?_
                          refine D_take_no 5 rfl (by kernel_rfl) (by rintro _ _ _ ⟨h, _⟩; cases h) rfl (fun h => by cases h) rfl rfl rfl rfl ?_
                          refine D_take_no 6 rfl (by kernel_rfl) (by rintro _ _ _ ⟨h, _⟩; cases h) rfl (fun h => by cases h) rfl rfl rfl rfl ?_
                          refine D_take 7 rfl (by kernel_rfl) (by rintro _ _ _ ⟨h, _⟩; cases h) rfl (fun h => by cases h) (fun w hA => r_pick_f rfl (v := .bool _) rfl) ?_
                          refine D_take 8 rfl (by kernel_rfl) (by rintro _ _ _ ⟨h, _⟩; cases h) rfl (fun h => by cases h) (fun w hA => r_move (v := .bool _) rfl) ?_
                          refine D_take_no 9 rfl (by kernel_rfl) (by rintro _ _ _ ⟨h, _⟩; cases h) rfl (fun h => by cases h) rfl rfl rfl rfl ?_
                          refine D_take_no 10 rfl (by kernel_rfl) (by rintro _ _ _ ⟨h, _⟩; cases h) rfl (fun h => by cases h) rfl rfl rfl rfl ?_
                          refine D_take_no 11 rfl (by kernel_rfl) (by rintro _ _ _ ⟨h, _⟩; cases h) rfl (fun _ => hA) rfl rfl rfl rfl ?_
                          refine D_take_no 12 rfl (by kernel_rfl) (by rintro _ _ _ ⟨h, _⟩; cases h) rfl (fun h => by cases h) rfl rfl rfl rfl ?_
                          refine D_take_no 13 rfl (by kernel_rfl) (by rintro _ _ _ ⟨h, _⟩; cases h) rfl (fun _ => hA) rfl rfl rfl rfl ?_
                          refine D_take_no 14 rfl (by kernel_rfl) (by rintro _ _ _ ⟨h, _⟩; cases h) rfl (fun h => by cases h) rfl rfl rfl rfl ?_
                          refine D_take 15 rfl (by kernel_rfl) (by rintro _ _ _ ⟨h, _⟩; cases h) rfl (fun h => by cases h) (fun w hA => r_pick_f rfl (v := .bool _) rfl) ?_
                          refine D_take 16 rfl (by kernel_rfl) (by rintro _ _ _ ⟨h, _⟩; cases h) rfl (fun h => by cases h) (fun w hA => r_assign (v := .bool _) rfl) ?_
                          refine D_done (by kernel_rfl) ?_
                          refine W_ret ?_
                          refine ⟨rfl, ?_⟩
                          refine ret1 Try.results11 (v := .bool _) rfl ?_
                          refine ⟨?_, hA.clear⟩
                          show Value.bool _ = Value.bool (refG kind frm why cs ps vs ws os)
                          unfold refG
                          rw [if_neg (by omega), if_neg (show ¬ headBad kind frm = true by rw [q49']; simp), if_neg (show ¬ midB kind cs ps vs ws os = true by rw [q210]; simp)]
                          rw [if_pos q213, show (why == 0) = false from by rw [beq_eq_false_iff_ne]; exact q216]; simp
                      · -- False
                        have q213 := beq_eq_false_iff_ne.1 h
                        refine O_end ?_
                        refine W_else rfl ?_
                        refine W_skip ?_
                        refine W_seq ?_
                        refine W_seq ?_
                        refine W_reg ?_ -- 31 ref.go:138
                        refine o_fieldAddr fo29_0 rfl rfl ?_
                        refine o_load1 ag3 rfl (hA.c 3 rfl rfl) ?_
                        refine o_cmp2 rfl rfl rfl (fun h => ?_) (fun h => ?_)
                        · -- True
                          have q232 := beq_iff_eq.1 h
                          refine O_end ?_
                          refine W_then rfl ?_
                          refine W_seq ?_
                          refine W_reg ?_ -- 32 ref.go:139
                          refine o_fieldAddr fo29_2 rfl rfl ?_
                          refine o_load1 ag22 rfl (hA.c 3 rfl rfl) ?_
                          refine o_cmp2 rfl rfl rfl (fun h => ?_) (fun h => ?_)
                          · -- True
                            have q235 := of_decide_eq_true h
                            refine o_move (v := .bool _) rfl ?_
                            refine O_yes rfl rfl rfl ?_
                            refine o_fieldAddr fo29_2 rfl rfl ?_
                            refine O_yes rfl rfl rfl ?_
                            refine o_load1 ag22 rfl (hA.c 3 rfl rfl) ?_
                            refine O_yes rfl rfl rfl ?_
                            refine o_cmp rfl rfl rfl ?_
                            refine o_pick_t rfl (v := .bool _) rfl ?_
                            refine o_assign (v := .bool _) rfl ?_
                            refine O_end ?_
                            refine W_ret ?_
                            refine ⟨rfl, ?_⟩
                            refine ret1 Try.results11 (v := .bool _) rfl ?_
                            refine ⟨?_, hA.clear⟩
                            show Value.bool _ = Value.bool (refG kind frm why cs ps vs ws os)
                            unfold refG
                            rw [if_neg (by omega), if_neg (show ¬ headBad kind frm = true by rw [q49']; simp), if_neg (show ¬ midB kind cs ps vs ws os = true by rw [q210]; simp)]
                            rw [if_neg q213, if_pos q232, decide_eq_true (show 1 ≤ why by omega)]; rfl
                          · -- False
                            have q235 := of_decide_eq_false h
                            refine o_move (v := .bool _) rfl ?_
                            refine O_no rfl rfl rfl rfl ?_
                            refine O_no rfl rfl rfl rfl ?_
                            refine O_no rfl rfl rfl rfl ?_
                            refine o_pick_f rfl (v := .bool _) rfl ?_
                            refine o_assign (v := .bool _) rfl ?_
                            refine O_end ?_
                            refine W_ret ?_
                            refine ⟨rfl, ?_⟩
                            refine ret1 Try.results11 (v := .bool _) rfl ?_
                            refine ⟨?_, hA.clear⟩
                            show Value.bool _ = Value.bool (refG kind frm why cs ps vs ws os)
                            unfold refG
                            rw [if_neg (by omega), if_neg (show ¬ headBad kind frm = true by rw [q49']; simp), if_neg (show ¬ midB kind cs ps vs ws os = true by rw [q210]; simp)]
                            rw [if_neg q213, if_pos q232, decide_eq_false (show ¬ 1 ≤ why by omega)]; simp
                        · -- False
                          have q232 := beq_eq_false_iff_ne.1 h
                          refine O_end ?_
                          refine W_else rfl ?_
                          refine W_skip ?_
                          refine W_seq ?_
                          refine W_reg ?_ -- 33 ref.go:141
                          refine o_fieldAddr fo29_2 rfl rfl ?_
                          refine o_load1 ag22 rfl (hA.c 3 rfl rfl) ?_
                          refine o_cmp2 rfl rfl rfl (fun h => ?_) (fun h => ?_)
                          · -- True
                            have q243 := beq_iff_eq.1 h
                            refine o_move (v := .bool _) rfl ?_
                            refine O_yes rfl rfl rfl ?_
                            refine o_move (by conv => lhs; whnf) ?_
                            refine O_yes rfl rfl rfl ?_
                            refine O_calls en20 rfl (q_rising (hA.rd 2 rfl) (by simp; omega)) (fun v23 w23 hC => ?_)
                            obtain ⟨rfl, hC⟩ := hC
                            have hA := (hA.after hC).take
                            refine o_pick_t rfl (v := .bool _) rfl ?_
                            refine o_assign (v := .bool _) rfl ?_
                            refine O_end ?_
                            refine W_ret ?_
                            refine ⟨rfl, ?_⟩
                            refine ret1 Try.results11 (v := .bool _) rfl ?_
                            refine ⟨?_, hA.clear⟩
                            show Value.bool _ = Value.bool (refG kind frm why cs ps vs ws os)
                            unfold refG
                            rw [if_neg (by omega), if_neg (show ¬ headBad kind frm = true by rw [q49']; simp), if_neg (show ¬ midB kind cs ps vs ws os = true by rw [q210]; simp)]
                            rw [if_neg q213, if_neg q232, show (why == 0) = true from by rw [beq_iff_eq]; exact q243]; rfl
                          · -- False
                            have q243 := beq_eq_false_iff_ne.1 h
                            refine o_move (v := .bool _) rfl ?_
                            refine O_no rfl rfl rfl rfl ?_
                            refine O_no rfl rfl rfl rfl ?_
                            refine o_pick_f rfl (v := .bool _) rfl ?_
                            refine o_assign (v := .bool _) rfl ?_
                            refine O_end ?_
                            refine W_ret ?_
                            refine ⟨rfl, ?_⟩
                            refine ret1 Try.results11 (v := .bool _) rfl ?_
                            refine ⟨?_, hA.clear⟩
                            show Value.bool _ = Value.bool (refG kind frm why cs ps vs ws os)
                            unfold refG
                            rw [if_neg (by omega), if_neg (show ¬ headBad kind frm = true by rw [q49']; simp), if_neg (show ¬ midB kind cs ps vs ws os = true by rw [q210]; simp)]
                            rw [if_neg q213, if_neg q232, show (why == 0) = false from by rw [beq_eq_false_iff_ne]; exact q243]; simp

end Go.Proofs.Ytbcaooiphalkoaa
