/-
  Package words: warden, body.
-/
import Derived.Test.YtbcaooiphalkoaaWgb
set_option linter.unusedVariables false
set_option linter.unusedSimpArgs false
namespace Go.Proofs.Ytbcaooiphalkoaa
open Go Go.RowKit

def onlyR (h : WH) : List (Int × Int) := [((h.cs.length : Int), 6), ((h.ps.length : Int), 24), ((h.vs.length : Int), 32), ((h.ws.length : Int), 64), ((h.os.length : Int), 128), (h.why, 256)]
def onlyL (h : WH) : List Value := (onlyR h).flatMap fun p => [.int .i64 p.1, .int .i64 p.2]
def onlyOk (kind : Int) (p : Int × Int) : Bool := p.1 == 0 || !(bits .and .i64 (p.2.fdiv (2 ^ min kind.toNat IntKind.i64.bits)) 1 == 0)
theorem only_row (h : WH) {j : Nat} (hj : j < 6) : ∃ a m, (onlyR h)[j]? = some (a, m) ∧ ((onlyL h).drop (j * 2)).take 2 = [.int .i64 a, .int .i64 m] := by
  match j, hj with
  | 0, _ => exact ⟨_, _, rfl, rfl⟩
  | 1, _ => exact ⟨_, _, rfl, rfl⟩
  | 2, _ => exact ⟨_, _, rfl, rfl⟩
  | 3, _ => exact ⟨_, _, rfl, rfl⟩
  | 4, _ => exact ⟨_, _, rfl, rfl⟩
  | 5, _ => exact ⟨_, _, rfl, rfl⟩
theorem only_bit (k : Nat) (hk : k < 9) : ∀ m ∈ [(6 : Int), 24, 32, 64, 128, 256], (!(bits .and .i64 (m.fdiv (2 ^ min ((k : Int)).toNat IntKind.i64.bits)) 1 == 0)) = decide ((m / 2 ^ k) % 2 = 1) := by
  have : ∀ k : Fin 9, ∀ m ∈ [(6 : Int), 24, 32, 64, 128, 256], (!(bits .and .i64 (m.fdiv (2 ^ min ((k.val : Int)).toNat IntKind.i64.bits)) 1 == 0)) = decide ((m / 2 ^ k.val) % 2 = 1) := by decide
  exact this ⟨k, hk⟩
theorem only_eq {h : WH} (h0 : 1 ≤ h.kind) (h1 : h.kind ≤ 8) : onlyP h.x = (onlyR h).all (onlyOk h.kind) := by
  obtain ⟨k, hk⟩ : ∃ k : Nat, h.kind = (k : Int) := ⟨h.kind.toNat, by omega⟩
  have hb := only_bit k (by omega)
  unfold onlyP onlyR onlyOk
  simp only [List.all_cons, List.all_nil, Bool.and_true, hk]
  rw [hb 6 (by simp), hb 24 (by simp), hb 32 (by simp), hb 64 (by simp), hb 128 (by simp), hb 256 (by simp)]
  have hkk : k = 1 ∨ k = 2 ∨ k = 3 ∨ k = 4 ∨ k = 5 ∨ k = 6 ∨ k = 7 ∨ k = 8 := by omega
  have e1 : ∀ n : Nat, ((n : Int) == 0) = (n == 0) := fun n => by rw [Bool.eq_iff_iff, beq_iff_eq, beq_iff_eq]; omega
  simp only [e1, WH.x, hk, List.length_map]
  rcases hkk with rfl | rfl | rfl | rfl | rfl | rfl | rfl | rfl <;> simp [Bool.and_assoc]

theorem w_warden {w : World} {b : Nat} {h : WH} (hW : WordAt w b h) (hR : RdW w h) (hl : h.cs.length ≤ 9223372036854775807 ∧ h.ps.length ≤ 9223372036854775807 ∧ h.vs.length ≤ 9223372036854775807 ∧ h.ws.length ≤ 9223372036854775807 ∧ h.os.length ≤ 9223372036854775807) : Calls Try.prog 54 #[.pointer (some ⟨b, 0, none⟩)] w fun e w' => ∃ v, e = .returned v ∧ (v = .bool (wardenP h.x) ∧ At w No [] w') := by
  refine body_in (n := 25) (l := [.pointer (some ⟨b, 0, none⟩)]) en54 rfl Try.ntmps54 rfl ?_
  obtain ⟨kind, frm, why, cs, ps, vs, ws, os, ⟨CA, Cm, Cc⟩, ⟨PA, Pm, Pc⟩, ⟨VA, Vm, Vc⟩, ⟨NA, Nm, Nc⟩, ⟨OA, Om, Oc⟩⟩ := h
  obtain ⟨hc, hp, hpd, hv, hn, ho, hod⟩ := hR
  dsimp only at hc hp hpd hv hn ho hod hl
  obtain rfl := hc.lenf (fun _ => rfl) (by decide)
  obtain rfl := hp.lenf (fun _ => rfl) (by decide)
  obtain rfl := hv.lenp
  obtain rfl := hn.lenp
  obtain rfl := ho.lenf (fun _ => rfl) (by decide)
  replace hW : ∀ j v, [Value.int .i64 kind, .int .i64 frm, .int .i64 why, .slice CA cs.length Cc, .slice PA ps.length Pc, .slice VA vs.length Vc, .slice NA ws.length Nc, .slice OA os.length Oc][j]? = some v → w.cell? ⟨b, j, none⟩ = some v := hW
  have hA := At.refl w
  refine W_seq ?_
  refine W_reg ?_ -- 0 words.go:84
  refine o_assign (v := .bool _) rfl ?_
  refine O_end ?_
  refine W_seq ?_
  refine W_reg ?_ -- 1 words.go:85
  refine o_move (v := .pointer _) rfl ?_
  refine o_nilCheck rfl ?_
  refine o_fieldAddr fo46_0 rfl rfl ?_
  refine o_fieldAddr fo29_0 rfl rfl ?_
  refine o_load1 ag3 rfl (hA.cellT (hW 0 _ rfl)) ?_
  refine o_cmp2 rfl rfl rfl (fun h => ?_) (fun h => ?_)
  · -- True
    have q8 := beq_iff_eq.1 h
    refine o_move (v := .bool _) rfl ?_
    refine O_no rfl rfl rfl rfl ?_
    refine O_no rfl rfl rfl rfl ?_
    refine O_no rfl rfl rfl rfl ?_
    refine O_no rfl rfl rfl rfl ?_
    refine O_no rfl rfl rfl rfl ?_
    refine O_no rfl rfl rfl rfl ?_
    refine o_pick_t rfl (v := .bool _) rfl ?_
    refine o_move (v := .bool _) rfl ?_
    refine O_no rfl rfl rfl rfl ?_
    refine O_no rfl rfl rfl rfl ?_
    refine O_no rfl rfl rfl rfl ?_
    refine O_no rfl rfl rfl rfl ?_
    refine O_no rfl rfl rfl rfl ?_
    refine O_no rfl rfl rfl rfl ?_
    refine o_pick_t rfl (v := .bool _) rfl ?_
    refine o_assign (v := .bool _) rfl ?_
    refine O_end ?_
    refine W_ret ?_
    refine ⟨rfl, ?_⟩
    refine ret1 Try.results54 (v := .bool _) rfl ?_
    refine ⟨?_, hA⟩
    show Value.bool true = .bool (wardenP ⟨kind, frm, why, cs, ps.map (·.1), vs, ws, os.map (·.1)⟩)
    unfold wardenP
    rw [q8]; rfl
  · -- False
    have q8 := beq_eq_false_iff_ne.1 h
    refine o_move (v := .bool _) rfl ?_
    refine O_yes rfl rfl rfl ?_
    refine o_move (v := .pointer _) rfl ?_
    refine O_yes rfl rfl rfl ?_
    refine o_nilCheck rfl ?_
    refine O_yes rfl rfl rfl ?_
    refine o_fieldAddr fo46_0 rfl rfl ?_
    refine O_yes rfl rfl rfl ?_
    refine o_fieldAddr fo29_0 rfl rfl ?_
    refine O_yes rfl rfl rfl ?_
    refine o_load1 ag3 rfl (hA.cellT (hW 0 _ rfl)) ?_
    refine O_yes rfl rfl rfl ?_
    refine o_cmp2 rfl rfl rfl (fun h => ?_) (fun h => ?_)
    · -- True
      have q15 := beq_iff_eq.1 h
      refine o_pick_f rfl (v := .bool _) rfl ?_
      refine o_move (v := .bool _) rfl ?_
      refine O_no rfl rfl rfl rfl ?_
      refine O_no rfl rfl rfl rfl ?_
      refine O_no rfl rfl rfl rfl ?_
      refine O_no rfl rfl rfl rfl ?_
      refine O_no rfl rfl rfl rfl ?_
      refine O_no rfl rfl rfl rfl ?_
      refine o_pick_t rfl (v := .bool _) rfl ?_
      refine o_assign (v := .bool _) rfl ?_
      refine O_end ?_
      refine W_ret ?_
      refine ⟨rfl, ?_⟩
      refine ret1 Try.results54 (v := .bool _) rfl ?_
      refine ⟨?_, hA⟩
      show Value.bool true = .bool (wardenP ⟨kind, frm, why, cs, ps.map (·.1), vs, ws, os.map (·.1)⟩)
      unfold wardenP
      rw [q15]; rfl
    · -- False
      have q15 := beq_eq_false_iff_ne.1 h
      refine o_pick_f rfl (v := .bool _) rfl ?_
      refine o_move (v := .bool _) rfl ?_
      refine O_yes rfl rfl rfl ?_
      refine o_move (v := .pointer _) rfl ?_
      refine O_yes rfl rfl rfl ?_
      refine o_nilCheck rfl ?_
      refine O_yes rfl rfl rfl ?_
      refine o_fieldAddr fo46_0 rfl rfl ?_
      refine O_yes rfl rfl rfl ?_
      refine o_fieldAddr fo29_0 rfl rfl ?_
      refine O_yes rfl rfl rfl ?_
      refine o_load1 ag3 rfl (hA.cellT (hW 0 _ rfl)) ?_
      refine O_yes rfl rfl rfl ?_
      refine o_cmp rfl rfl rfl ?_
      refine o_pick_f rfl (v := .bool _) rfl ?_
      refine o_assign (v := .bool _) rfl ?_
      refine O_end ?_
      refine W_ret ?_
      refine ⟨rfl, ?_⟩
      refine ret1 Try.results54 (v := .bool _) rfl ?_
      refine ⟨?_, hA⟩
      show Value.bool _ = .bool (wardenP ⟨kind, frm, why, cs, ps.map (·.1), vs, ws, os.map (·.1)⟩)
      unfold wardenP
      dsimp only
      rw [show (kind == 2) = false from by simpa using q8, show (kind == 4) = false from by simpa using q15]; rfl

theorem w_only {w : World} {b : Nat} {h : WH} (hW : WordAt w b h) (hR : RdW w h) (hl : h.cs.length ≤ 9223372036854775807 ∧ h.ps.length ≤ 9223372036854775807 ∧ h.vs.length ≤ 9223372036854775807 ∧ h.ws.length ≤ 9223372036854775807 ∧ h.os.length ≤ 9223372036854775807) (hk0 : 1 ≤ h.kind) (hk1 : h.kind ≤ 8) : Calls Try.prog 55 #[.pointer (some ⟨b, 0, none⟩)] w fun e w' => ∃ v, e = .returned v ∧ (v = .bool (onlyP h.x) ∧ At w No [] w') := by
  refine body_in (n := 68) (l := [.pointer (some ⟨b, 0, none⟩)]) en55 rfl Try.ntmps55 rfl ?_
  obtain ⟨kind, frm, why, cs, ps, vs, ws, os, ⟨CA, Cm, Cc⟩, ⟨PA, Pm, Pc⟩, ⟨VA, Vm, Vc⟩, ⟨NA, Nm, Nc⟩, ⟨OA, Om, Oc⟩⟩ := h
  obtain ⟨hc, hp, hpd, hv, hn, ho, hod⟩ := hR
  dsimp only at hk0 hk1 hc hp hpd hv hn ho hod hl
  obtain rfl := hc.lenf (fun _ => rfl) (by decide)
  obtain rfl := hp.lenf (fun _ => rfl) (by decide)
  obtain rfl := hv.lenp
  obtain rfl := hn.lenp
  obtain rfl := ho.lenf (fun _ => rfl) (by decide)
  replace hW : ∀ j v, [Value.int .i64 kind, .int .i64 frm, .int .i64 why, .slice CA cs.length Cc, .slice PA ps.length Pc, .slice VA vs.length Vc, .slice NA ws.length Nc, .slice OA os.length Oc][j]? = some v → w.cell? ⟨b, j, none⟩ = some v := hW
  have hA := At.refl w
  refine W_seq ?_
  refine W_reg ?_ -- 0 words.go:73
  refine o_assign (v := .bool _) rfl ?_
  refine O_end ?_
  refine W_seq ?_
  refine W_drawA hA [4, 11, 18, 25, 32, 39] mix rfl rfl (fun w0_1 hA => ?_) -- 1 words.go:74
  refine D_take 0 rfl (by kernel_rfl) (by rintro _ _ _ ⟨h, _⟩; cases h) rfl (fun h => by cases h) (fun w hA => r_move (v := .pointer _) rfl) ?_
  refine D_take 1 rfl (by kernel_rfl) (by rintro _ _ _ ⟨h, _⟩; cases h) rfl (fun h => by cases h) (fun w hA => r_nilCheck rfl) ?_
  refine D_take 2 rfl (by kernel_rfl) (by rintro _ _ _ ⟨h, _⟩; cases h) rfl (fun h => by cases h) (fun w hA => r_fieldAddr fo46_0 rfl rfl) ?_
  refine D_take 3 rfl (by kernel_rfl) (by rintro _ _ _ ⟨h, _⟩; cases h) rfl (fun h => by cases h) (fun w hA => r_fieldAddr fo29_3 rfl rfl) ?_
  refine D_take 4 rfl (by kernel_rfl) (by rintro _ _ _ ⟨h, _⟩; cases h) rfl (fun _ => hA) (fun w hA => r_load1 ag23 rfl ((hA rfl).cellT (hW 3 _ rfl))) ?_
  refine D_take 5 rfl (by kernel_rfl) (by rintro _ _ _ ⟨h, _⟩; cases h) rfl (fun h => by cases h) (fun w hA => r_len Try.underlying23 rfl) ?_
  refine D_take 6 rfl (by kernel_rfl) (by rintro _ _ _ ⟨h, _⟩; cases h) rfl (fun h => by cases h) (fun w hA => r_buildA la105 rfl rfl) ?_
  refine D_take 7 rfl (by kernel_rfl) (by rintro _ _ _ ⟨h, _⟩; cases h) rfl (fun h => by cases h) (fun w hA => r_move (v := .pointer _) rfl) ?_
  refine D_take 8 rfl (by kernel_rfl) (by rintro _ _ _ ⟨h, _⟩; cases h) rfl (fun h => by cases h) (fun w hA => r_nilCheck rfl) ?_
  refine D_take 9 rfl (by kernel_rfl) (by rintro _ _ _ ⟨h, _⟩; cases h) rfl (fun h => by cases h) (fun w hA => r_fieldAddr fo46_0 rfl rfl) ?_
  refine D_take 10 rfl (by kernel_rfl) (by rintro _ _ _ ⟨h, _⟩; cases h) rfl (fun h => by cases h) (fun w hA => r_fieldAddr fo29_4 rfl rfl) ?_
  refine D_take 11 rfl (by kernel_rfl) (by rintro _ _ _ ⟨h, _⟩; cases h) rfl (fun _ => hA) (fun w hA => r_load1 ag24 rfl ((hA rfl).cellT (hW 4 _ rfl))) ?_
  refine D_take 12 rfl (by kernel_rfl) (by rintro _ _ _ ⟨h, _⟩; cases h) rfl (fun h => by cases h) (fun w hA => r_len Try.underlying24 rfl) ?_
  refine D_take 13 rfl (by kernel_rfl) (by rintro _ _ _ ⟨h, _⟩; cases h) rfl (fun h => by cases h) (fun w hA => r_buildA la105 rfl rfl) ?_
  refine D_take 14 rfl (by kernel_rfl) (by rintro _ _ _ ⟨h, _⟩; cases h) rfl (fun h => by cases h) (fun w hA => r_move (v := .pointer _) rfl) ?_
  refine D_take 15 rfl (by kernel_rfl) (by rintro _ _ _ ⟨h, _⟩; cases h) rfl (fun h => by cases h) (fun w hA => r_nilCheck rfl) ?_
  refine D_take 16 rfl (by kernel_rfl) (by rintro _ _ _ ⟨h, _⟩; cases h) rfl (fun h => by cases h) (fun w hA => r_fieldAddr fo46_0 rfl rfl) ?_
  refine D_take 17 rfl (by kernel_rfl) (by rintro _ _ _ ⟨h, _⟩; cases h) rfl (fun h => by cases h) (fun w hA => r_fieldAddr fo29_5 rfl rfl) ?_
  refine D_take 18 rfl (by kernel_rfl) (by rintro _ _ _ ⟨h, _⟩; cases h) rfl (fun _ => hA) (fun w hA => r_load1 ag25 rfl ((hA rfl).cellT (hW 5 _ rfl))) ?_
  refine D_take 19 rfl (by kernel_rfl) (by rintro _ _ _ ⟨h, _⟩; cases h) rfl (fun h => by cases h) (fun w hA => r_len Try.underlying25 rfl) ?_
  refine D_take 20 rfl (by kernel_rfl) (by rintro _ _ _ ⟨h, _⟩; cases h) rfl (fun h => by cases h) (fun w hA => r_buildA la105 rfl rfl) ?_
  refine D_take 21 rfl (by kernel_rfl) (by rintro _ _ _ ⟨h, _⟩; cases h) rfl (fun h => by cases h) (fun w hA => r_move (v := .pointer _) rfl) ?_
  refine D_take 22 rfl (by kernel_rfl) (by rintro _ _ _ ⟨h, _⟩; cases h) rfl (fun h => by cases h) (fun w hA => r_nilCheck rfl) ?_
  refine D_take 23 rfl (by kernel_rfl) (by rintro _ _ _ ⟨h, _⟩; cases h) rfl (fun h => by cases h) (fun w hA => r_fieldAddr fo46_0 rfl rfl) ?_
  refine D_take 24 rfl (by kernel_rfl) (by rintro _ _ _ ⟨h, _⟩; cases h) rfl (fun h => by cases h) (fun w hA => r_fieldAddr fo29_6 rfl rfl) ?_
  refine D_take 25 rfl (by kernel_rfl) (by rintro _ _ _ ⟨h, _⟩; cases h) rfl (fun _ => hA) (fun w hA => r_load1 ag26 rfl ((hA rfl).cellT (hW 6 _ rfl))) ?_
  refine D_take 26 rfl (by kernel_rfl) (by rintro _ _ _ ⟨h, _⟩; cases h) rfl (fun h => by cases h) (fun w hA => r_len Try.underlying26 rfl) ?_
  refine D_take 27 rfl (by kernel_rfl) (by rintro _ _ _ ⟨h, _⟩; cases h) rfl (fun h => by cases h) (fun w hA => r_buildA la105 rfl rfl) ?_
  refine D_take 28 rfl (by kernel_rfl) (by rintro _ _ _ ⟨h, _⟩; cases h) rfl (fun h => by cases h) (fun w hA => r_move (v := .pointer _) rfl) ?_
  refine D_take 29 rfl (by kernel_rfl) (by rintro _ _ _ ⟨h, _⟩; cases h) rfl (fun h => by cases h) (fun w hA => r_nilCheck rfl) ?_
  refine D_take 30 rfl (by kernel_rfl) (by rintro _ _ _ ⟨h, _⟩; cases h) rfl (fun h => by cases h) (fun w hA => r_fieldAddr fo46_0 rfl rfl) ?_
  refine D_take 31 rfl (by kernel_rfl) (by rintro _ _ _ ⟨h, _⟩; cases h) rfl (fun h => by cases h) (fun w hA => r_fieldAddr fo29_7 rfl rfl) ?_
  refine D_take 32 rfl (by kernel_rfl) (by rintro _ _ _ ⟨h, _⟩; cases h) rfl (fun _ => hA) (fun w hA => r_load1 ag27 rfl ((hA rfl).cellT (hW 7 _ rfl))) ?_
  refine D_take 33 rfl (by kernel_rfl) (by rintro _ _ _ ⟨h, _⟩; cases h) rfl (fun h => by cases h) (fun w hA => r_len Try.underlying27 rfl) ?_
  refine D_take 34 rfl (by kernel_rfl) (by rintro _ _ _ ⟨h, _⟩; cases h) rfl (fun h => by cases h) (fun w hA => r_buildA la105 rfl rfl) ?_
  refine D_take 35 rfl (by kernel_rfl) (by rintro _ _ _ ⟨h, _⟩; cases h) rfl (fun h => by cases h) (fun w hA => r_move (v := .pointer _) rfl) ?_
  refine D_take 36 rfl (by kernel_rfl) (by rintro _ _ _ ⟨h, _⟩; cases h) rfl (fun h => by cases h) (fun w hA => r_nilCheck rfl) ?_
  refine D_take 37 rfl (by kernel_rfl) (by rintro _ _ _ ⟨h, _⟩; cases h) rfl (fun h => by cases h) (fun w hA => r_fieldAddr fo46_0 rfl rfl) ?_
  refine D_take 38 rfl (by kernel_rfl) (by rintro _ _ _ ⟨h, _⟩; cases h) rfl (fun h => by cases h) (fun w hA => r_fieldAddr fo29_2 rfl rfl) ?_
  refine D_take 39 rfl (by kernel_rfl) (by rintro _ _ _ ⟨h, _⟩; cases h) rfl (fun _ => hA) (fun w hA => r_load1 ag22 rfl ((hA rfl).cellT (hW 2 _ rfl))) ?_
  refine D_take 40 rfl (by kernel_rfl) (by rintro _ _ _ ⟨h, _⟩; cases h) rfl (fun h => by cases h) (fun w hA => r_buildA la105 rfl rfl) ?_
  refine D_take 41 rfl (by kernel_rfl) (by rintro _ _ _ ⟨h, _⟩; cases h) rfl (fun h => by cases h) (fun w hA => r_buildA la106 rfl rfl) ?_
  refine D_run 42 (by kernel_rfl) rfl rfl ?_
  refine o_alloc hA ti106 rfl (fun b1 w1 hA => ?_)
  refine O_end ⟨fun _ _ => hA.clear, ?_⟩
  refine D_run 43 (by kernel_rfl) rfl rfl ?_
  refine o_store (cs' := [_, _, _, _, _, _, _, _, _, _, _, _]) (i := 0) hA rfl (by conv => lhs; whnf) rfl ti106 rfl rfl rfl rfl (fun w2 hA => ?_)
  refine O_end ⟨fun _ _ => hA.clear, ?_⟩
  refine D_done (by kernel_rfl) ?_
  refine W_seq ?_
  refine W_seq ?_
  refine W_reg ?_ -- 2 words.go:75
  refine o_loadN ag106 ti106 rfl rfl (hA.cs (i := 0) (o := 0) (s := 12) (ds := [_, _, _, _, _, _, _, _, _, _, _, _]) rfl rfl) ?_
  refine o_move (v := .int _ _) rfl ?_
  refine O_end ?_
  refine W_block ?_ -- 0
  refine W_loop (fun kk ρ w' => ∃ (j : Nat), kk = 6 - j ∧ j ≤ 6 ∧ ρ 49 = .int .i64 (j : Int) ∧ ρ 48 = .agg (onlyL ⟨kind, frm, why, cs, ps, vs, ws, os, ⟨CA, cs.length, Cc⟩, ⟨PA, ps.length, Pc⟩, ⟨VA, vs.length, Vc⟩, ⟨NA, ws.length, Nc⟩, ⟨OA, os.length, Oc⟩⟩).toArray ∧ ρ 0 = .pointer (some ⟨b, 0, none⟩) ∧ (∀ i p, i < j → (onlyR ⟨kind, frm, why, cs, ps, vs, ws, os, ⟨CA, cs.length, Cc⟩, ⟨PA, ps.length, Pc⟩, ⟨VA, vs.length, Vc⟩, ⟨NA, ws.length, Nc⟩, ⟨OA, os.length, Oc⟩⟩)[i]? = some p → onlyOk kind p = true) ∧ At w No [] w') 6
    ⟨0, by simp, Nat.zero_le _, rfl, rfl, rfl, fun i p hi => by omega, hA.clear⟩ ?_
  clear hA
  rintro kk ρ w1 ⟨j, rfl, hj, h49, h48, h0, hno, hA⟩
  refine W_known (t := 49) h49 ?_
  refine W_known (t := 48) h48 ?_
  refine W_known (t := 0) h0 ?_
  refine W_seq ?_
  refine W_reg ?_ -- 3 words.go:75
  refine o_cmp2 rfl rfl rfl (fun h => ?_) (fun h => ?_)
  · -- True
    have q50 := of_decide_eq_true h
    have hlt : j < 6 := by omega
    obtain ⟨a, m, hrow, hcut⟩ := only_row ⟨kind, frm, why, cs, ps, vs, ws, os, ⟨CA, cs.length, Cc⟩, ⟨PA, ps.length, Pc⟩, ⟨VA, vs.length, Vc⟩, ⟨NA, ws.length, Nc⟩, ⟨OA, os.length, Oc⟩⟩ hlt
    refine O_end ?_
    refine W_seq ?_
    refine W_then rfl ?_
    refine W_skip ?_
    refine W_seq ?_
    refine W_block ?_ -- 1
    refine W_seq ?_
    refine W_reg ?_ -- 4 words.go:75
    refine o_idxN (ds := [.int .i64 a, .int .i64 m]) Try.underlying106 ag105 ti105 rfl rfl (by omega) (by omega) (by rw [Int.toNat_natCast]; exact hcut) ?_
    refine o_alloc hA ti105 rfl (fun b3 w3 hA => ?_)
    refine o_store (cs' := [_, _]) (i := 0) hA rfl (by conv => lhs; whnf) rfl ti105 rfl rfl rfl rfl (fun w4 hA => ?_)
    refine O_end ?_
    refine W_seq ?_
    refine W_drawA hA [1, 5, 10] mix rfl rfl (fun w0_5 hA => ?_) -- 5 words.go:76
    refine D_take 0 rfl (by kernel_rfl) (by rintro _ _ _ ⟨h, _⟩; cases h) rfl (fun h => by cases h) (fun w hA => r_indexA (i := 0) Try.underlying105 ti3 rfl rfl (by decide) (by decide)) ?_
    refine D_take 1 rfl (by kernel_rfl) (by rintro _ _ _ ⟨h, _⟩; cases h) rfl (fun _ => hA) (fun w hA => r_load1 ag3 rfl ((hA rfl).c 0 rfl rfl)) ?_
    refine D_takeb 2 rfl (by kernel_rfl) (by rintro _ _ _ ⟨h, _⟩; cases h) rfl (fun h => by cases h) (fun w hA => r_cmp rfl rfl rfl) (fun h => ?_) (fun h => ?_)
    · -- True
      have q54 := bne_iff_ne.1 h
      refine D_take 3 rfl (by kernel_rfl) (by rintro _ _ _ ⟨h, _⟩; cases h) rfl (fun h => by cases h) (fun w hA => r_move (v := .bool _) rfl) ?_
      refine D_take_yes 4 rfl (by kernel_rfl) (by rintro _ _ _ ⟨h, _⟩; cases h) rfl (fun h => by cases h) rfl rfl rfl (fun w hA => r_indexA (i := 1) Try.underlying105 ti3 rfl rfl (by decide) (by decide)) ?_
      refine D_take_yes 5 rfl (by kernel_rfl) (by rintro _ _ _ ⟨h, _⟩; cases h) rfl (fun _ => hA) rfl rfl rfl (fun w hA => r_load1 ag3 rfl ((hA rfl).c 0 rfl rfl)) ?_
      refine D_take_yes 6 rfl (by kernel_rfl) (by rintro _ _ _ ⟨h, _⟩; cases h) rfl (fun h => by cases h) rfl rfl rfl (fun w hA => r_move (v := .pointer _) rfl) ?_
      refine D_take_yes 7 rfl (by kernel_rfl) (by rintro _ _ _ ⟨h, _⟩; cases h) rfl (fun h => by cases h) rfl rfl rfl (fun w hA => r_nilCheck rfl) ?_
      refine D_take_yes 8 rfl (by kernel_rfl) (by rintro _ _ _ ⟨h, _⟩; cases h) rfl (fun h => by cases h) rfl rfl rfl (fun w hA => r_fieldAddr fo46_0 rfl rfl) ?_
      refine D_take_yes 9 rfl (by kernel_rfl) (by rintro _ _ _ ⟨h, _⟩; cases h) rfl (fun h => by cases h) rfl rfl rfl (fun w hA => r_fieldAddr fo29_0 rfl rfl) ?_
      refine D_take_yes 10 rfl (by kernel_rfl) (by rintro _ _ _ ⟨h, _⟩; cases h) rfl (fun _ => hA) rfl rfl rfl (fun w hA => r_load1 ag3 rfl ((hA rfl).cellT (hW 0 _ rfl))) ?_
      refine D_take_yes 11 rfl (by kernel_rfl) (by rintro _ _ _ ⟨h, _⟩; cases h) rfl (fun h => by cases h) rfl rfl rfl (fun w hA => r_shr rfl rfl (by omega) rfl) ?_
      refine D_take_yes 12 rfl (by kernel_rfl) (by rintro _ _ _ ⟨h, _⟩; cases h) rfl (fun h => by cases h) rfl rfl rfl (fun w hA => r_bits (by simp) rfl rfl rfl) ?_
      refine D_takeb_yes 13 rfl (by kernel_rfl) (by rintro _ _ _ ⟨h, _⟩; cases h) rfl (fun h => by cases h) rfl rfl rfl (fun w hA => r_cmp rfl rfl rfl) (fun h => ?_) (fun h => ?_)
      · -- True
        have q65 := beq_iff_eq.1 h
        refine D_take 14 rfl (by kernel_rfl) (by rintro _ _ _ ⟨h, _⟩; cases h) rfl (fun h => by cases h) (fun w hA => r_pick_t rfl (v := .bool _) rfl) ?_
        refine D_done (by kernel_rfl) ?_
        refine W_then rfl ?_
        refine W_seq ?_
        refine W_reg ?_ -- 6 words.go:77
        refine o_assign (v := .bool _) rfl ?_
        refine O_end ?_
        refine W_ret ?_
        refine xb_ret ?_
        refine xb_ret ?_
        refine ⟨rfl, ?_⟩
        refine ret1 Try.results55 (v := .bool _) rfl ?_
        refine ⟨?_, hA.clear⟩
        show Value.bool false = .bool (onlyP ⟨kind, frm, why, cs, ps.map (·.1), vs, ws, os.map (·.1)⟩)
        rw [show onlyP ⟨kind, frm, why, cs, ps.map (·.1), vs, ws, os.map (·.1)⟩ = _ from only_eq (h := ⟨kind, frm, why, cs, ps, vs, ws, os, ⟨CA, cs.length, Cc⟩, ⟨PA, ps.length, Pc⟩, ⟨VA, vs.length, Vc⟩, ⟨NA, ws.length, Nc⟩, ⟨OA, os.length, Oc⟩⟩) hk0 hk1]
        congr 1
        symm
        rw [Bool.eq_false_iff]
        intro hc'
        have := List.all_eq_true.1 hc' (a, m) (List.mem_of_getElem? hrow)
        unfold onlyOk at this
        rw [Bool.or_eq_true, beq_iff_eq, Bool.not_eq_true', beq_eq_false_iff_ne] at this
        rcases this with this | this
        · exact q54 this
        · exact this q65
      · -- False
        have q65 := beq_eq_false_iff_ne.1 h
        refine D_take 14 rfl (by kernel_rfl) (by rintro _ _ _ ⟨h, _⟩; cases h) rfl (fun h => by cases h) (fun w hA => r_pick_t rfl (v := .bool _) rfl) ?_
        refine D_done (by kernel_rfl) ?_
        refine W_else rfl ?_
        refine W_skip ?_
        refine W_reg ?_ -- 7 words.go:75
        refine o_add rfl rfl (w64 (r := ((j + 1 : Nat) : Int)) (by omega) (by omega) (by omega)) ?_
        refine o_move (v := .int _ _) rfl ?_
        refine O_end ?_
        refine ⟨6 - (j + 1), by omega, j + 1, rfl, by omega, rfl, rfl, rfl, fun i p hi hp' => ?_, hA.clear⟩
        by_cases e : i = j
        · rw [e, hrow] at hp'; obtain rfl := Option.some.inj hp'
          unfold onlyOk
          rw [Bool.or_eq_true]; right
          rw [Bool.not_eq_true', beq_eq_false_iff_ne]; exact q65
        · exact hno i p (by omega) hp'
    · -- False
      have q54 := bne_eq_false_iff_eq.1 h
      refine D_take 3 rfl (by kernel_rfl) (by rintro _ _ _ ⟨h, _⟩; cases h) rfl (fun h => by cases h) (fun w hA => r_move (v := .bool _) rfl) ?_
      refine D_take_no 4 rfl (by kernel_rfl) (by rintro _ _ _ ⟨h, _⟩; cases h) rfl (fun h => by cases h) rfl rfl rfl rfl ?_
      refine D_take_no 5 rfl (by kernel_rfl) (by rintro _ _ _ ⟨h, _⟩; cases h) rfl (fun _ => hA) rfl rfl rfl rfl ?_
      refine D_take_no 6 rfl (by kernel_rfl) (by rintro _ _ _ ⟨h, _⟩; cases h) rfl (fun h => by cases h) rfl rfl rfl rfl ?_
      refine D_take_no 7 rfl (by kernel_rfl) (by rintro _ _ _ ⟨h, _⟩; cases h) rfl (fun h => by cases h) rfl rfl rfl rfl ?_
      refine D_take_no 8 rfl (by kernel_rfl) (by rintro _ _ _ ⟨h, _⟩; cases h) rfl (fun h => by cases h) rfl rfl rfl rfl ?_
      refine D_take_no 9 rfl (by kernel_rfl) (by rintro _ _ _ ⟨h, _⟩; cases h) rfl (fun h => by cases h) rfl rfl rfl rfl ?_
      refine D_take_no 10 rfl (by kernel_rfl) (by rintro _ _ _ ⟨h, _⟩; cases h) rfl (fun _ => hA) rfl rfl rfl rfl ?_
      refine D_take_no 11 rfl (by kernel_rfl) (by rintro _ _ _ ⟨h, _⟩; cases h) rfl (fun h => by cases h) rfl rfl rfl rfl ?_
      refine D_take_no 12 rfl (by kernel_rfl) (by rintro _ _ _ ⟨h, _⟩; cases h) rfl (fun h => by cases h) rfl rfl rfl rfl ?_
      refine D_take_no 13 rfl (by kernel_rfl) (by rintro _ _ _ ⟨h, _⟩; cases h) rfl (fun h => by cases h) rfl rfl rfl rfl ?_
      refine D_take 14 rfl (by kernel_rfl) (by rintro _ _ _ ⟨h, _⟩; cases h) rfl (fun h => by cases h) (fun w hA => r_pick_f rfl (v := .bool _) rfl) ?_
      refine D_done (by kernel_rfl) ?_
      refine W_else rfl ?_
      refine W_skip ?_
      refine W_reg ?_ -- 7 words.go:75
      refine o_add rfl rfl (w64 (r := ((j + 1 : Nat) : Int)) (by omega) (by omega) (by omega)) ?_
      refine o_move (v := .int _ _) rfl ?_
      refine O_end ?_
      refine ⟨6 - (j + 1), by omega, j + 1, rfl, by omega, rfl, rfl, rfl, fun i p hi hp' => ?_, hA.clear⟩
      by_cases e : i = j
      · rw [e, hrow] at hp'; obtain rfl := Option.some.inj hp'
        unfold onlyOk
        rw [show (a == 0) = true from by rw [beq_iff_eq]; exact q54]; rfl
      · exact hno i p (by omega) hp'
  · -- False
    have q50 := of_decide_eq_false h
    refine O_end ?_
    refine W_seq ?_
    refine W_else rfl ?_
    refine W_exit ?_
    refine xb_hit ?_
    refine W_seq ?_
    refine W_reg ?_ -- 8 words.go:80
    refine o_assign (v := .bool _) rfl ?_
    refine O_end ?_
    refine W_ret ?_
    refine ⟨rfl, ?_⟩
    refine ret1 Try.results55 (v := .bool _) rfl ?_
    refine ⟨?_, hA.clear⟩
    show Value.bool true = .bool (onlyP ⟨kind, frm, why, cs, ps.map (·.1), vs, ws, os.map (·.1)⟩)
    rw [show onlyP ⟨kind, frm, why, cs, ps.map (·.1), vs, ws, os.map (·.1)⟩ = _ from only_eq (h := ⟨kind, frm, why, cs, ps, vs, ws, os, ⟨CA, cs.length, Cc⟩, ⟨PA, ps.length, Pc⟩, ⟨VA, vs.length, Vc⟩, ⟨NA, ws.length, Nc⟩, ⟨OA, os.length, Oc⟩⟩) hk0 hk1]
    congr 1
    symm
    rw [List.all_eq_true]
    intro p hp'
    obtain ⟨i, hi⟩ := List.getElem?_of_mem hp'
    have hi6 := (List.getElem?_eq_some_iff.1 hi).1
    exact hno i p (by have : i < 6 := hi6; omega) hi

theorem w_body {w : World} {b : Nat} {h : WH} (hW : WordAt w b h) (hR : RdW w h) (hl : h.cs.length ≤ 9223372036854775807 ∧ h.ps.length ≤ 9223372036854775807 ∧ h.vs.length ≤ 9223372036854775807 ∧ h.ws.length ≤ 9223372036854775807 ∧ h.os.length ≤ 9223372036854775807) : Calls Try.prog 56 #[.pointer (some ⟨b, 0, none⟩)] w fun e w' => ∃ v, e = .returned v ∧ (v = .bool (bodyP h.x) ∧ At w No [] w') := by
  refine body_in (n := 106) (l := [.pointer (some ⟨b, 0, none⟩)]) en56 rfl Try.ntmps56 rfl ?_
  obtain ⟨kind, frm, why, cs, ps, vs, ws, os, ⟨CA, Cm, Cc⟩, ⟨PA, Pm, Pc⟩, ⟨VA, Vm, Vc⟩, ⟨NA, Nm, Nc⟩, ⟨OA, Om, Oc⟩⟩ := h
  obtain ⟨hc, hp, hpd, hv, hn, ho, hod⟩ := hR
  dsimp only at hc hp hpd hv hn ho hod hl
  obtain rfl := hc.lenf (fun _ => rfl) (by decide)
  obtain rfl := hp.lenf (fun _ => rfl) (by decide)
  obtain rfl := hv.lenp
  obtain rfl := hn.lenp
  obtain rfl := ho.lenf (fun _ => rfl) (by decide)
  replace hW : ∀ j v, [Value.int .i64 kind, .int .i64 frm, .int .i64 why, .slice CA cs.length Cc, .slice PA ps.length Pc, .slice VA vs.length Vc, .slice NA ws.length Nc, .slice OA os.length Oc][j]? = some v → w.cell? ⟨b, j, none⟩ = some v := hW
  have hA := At.refl w
  refine W_seq ?_
  refine W_reg ?_ -- 0 words.go:52
  refine o_assign (v := .bool _) rfl ?_
  refine O_end ?_
  refine W_seq ?_
  refine W_seq ?_
  refine W_reg ?_ -- 1 words.go:53
  refine o_move (v := .pointer _) rfl ?_
  refine o_nilCheck rfl ?_
  refine o_fieldAddr fo46_0 rfl rfl ?_
  refine o_fieldAddr fo29_0 rfl rfl ?_
  refine o_load1 ag3 rfl (hA.cellT (hW 0 _ rfl)) ?_
  refine O_end ?_
  refine W_block ?_ -- 0
  refine W_seq ?_
  refine W_reg ?_ -- 2 words.go:54
  refine o_cmp2 rfl rfl rfl (fun h => ?_) (fun h => ?_)
  · -- True
    have q9 := beq_iff_eq.1 h
    refine o_assign (v := .bool _) rfl ?_
    refine O_end ?_
    refine W_then rfl ?_
    refine W_seq ?_
    refine W_drawA hA [4, 12, 15, 20] mix rfl rfl (fun w0_3 hA => ?_) -- 3 words.go:55
    refine D_take 0 rfl (by kernel_rfl) (by rintro _ _ _ ⟨h, _⟩; cases h) rfl (fun h => by cases h) (fun w hA => r_move (v := .pointer _) rfl) ?_
    refine D_take 1 rfl (by kernel_rfl) (by rintro _ _ _ ⟨h, _⟩; cases h) rfl (fun h => by cases h) (fun w hA => r_nilCheck rfl) ?_
    refine D_take 2 rfl (by kernel_rfl) (by rintro _ _ _ ⟨h, _⟩; cases h) rfl (fun h => by cases h) (fun w hA => r_fieldAddr fo46_0 rfl rfl) ?_
    refine D_take 3 rfl (by kernel_rfl) (by rintro _ _ _ ⟨h, _⟩; cases h) rfl (fun h => by cases h) (fun w hA => r_fieldAddr fo29_3 rfl rfl) ?_
    refine D_take 4 rfl (by kernel_rfl) (by rintro _ _ _ ⟨h, _⟩; cases h) rfl (fun _ => hA) (fun w hA => r_load1 ag23 rfl ((hA rfl).cellT (hW 3 _ rfl))) ?_
    refine D_take 5 rfl (by kernel_rfl) (by rintro _ _ _ ⟨h, _⟩; cases h) rfl (fun h => by cases h) (fun w hA => r_len Try.underlying23 rfl) ?_
    refine D_takeb 6 rfl (by kernel_rfl) (by rintro _ _ _ ⟨h, _⟩; cases h) rfl (fun h => by cases h) (fun w hA => r_cmp rfl rfl rfl) (fun h => ?_) (fun h => ?_)
    · -- True
      have q16 := beq_iff_eq.1 h
      obtain ⟨x, hx⟩ : ∃ x, cs[0]? = some x := ⟨_, List.getElem?_eq_getElem (by omega)⟩
      obtain ⟨g0, o0, rfl⟩ := hc.addr (by decide) (fm_len (s := 3) (fun _ => rfl) cs) (by omega)
      refine D_take 7 rfl (by kernel_rfl) (by rintro _ _ _ ⟨h, _⟩; cases h) rfl (fun h => by cases h) (fun w hA => r_move (v := .bool _) rfl) ?_
      refine D_take_yes 8 rfl (by kernel_rfl) (by rintro _ _ _ ⟨h, _⟩; cases h) rfl (fun h => by cases h) rfl rfl rfl (fun w hA => r_move (v := .pointer _) rfl) ?_
      refine D_take_yes 9 rfl (by kernel_rfl) (by rintro _ _ _ ⟨h, _⟩; cases h) rfl (fun h => by cases h) rfl rfl rfl (fun w hA => r_nilCheck rfl) ?_
      refine D_take_yes 10 rfl (by kernel_rfl) (by rintro _ _ _ ⟨h, _⟩; cases h) rfl (fun h => by cases h) rfl rfl rfl (fun w hA => r_fieldAddr fo46_0 rfl rfl) ?_
      refine D_take_yes 11 rfl (by kernel_rfl) (by rintro _ _ _ ⟨h, _⟩; cases h) rfl (fun h => by cases h) rfl rfl rfl (fun w hA => r_fieldAddr fo29_3 rfl rfl) ?_
      refine D_take_yes 12 rfl (by kernel_rfl) (by rintro _ _ _ ⟨h, _⟩; cases h) rfl (fun _ => hA) rfl rfl rfl (fun w hA => r_load1 ag23 rfl ((hA rfl).cellT (hW 3 _ rfl))) ?_
      refine D_take_yes 13 rfl (by kernel_rfl) (by rintro _ _ _ ⟨h, _⟩; cases h) rfl (fun h => by cases h) rfl rfl rfl (fun w hA => r_index Try.underlying23 ti50 rfl rfl (by omega) (by omega)) ?_
      refine D_take_yes 14 rfl (by kernel_rfl) (by rintro _ _ _ ⟨h, _⟩; cases h) rfl (fun h => by cases h) rfl rfl rfl (fun w hA => r_fieldAddr fo50_0 rfl rfl) ?_
      refine D_take_yes 15 rfl (by kernel_rfl) (by rintro _ _ _ ⟨h, _⟩; cases h) rfl (fun _ => hA) rfl rfl rfl (fun w hA => r_load1 ag3 rfl ((hc.old (hA rfl)).fld (fun _ => rfl) hx rfl)) ?_
      refine D_take_yes 16 rfl (by kernel_rfl) (by rintro _ _ _ ⟨h, _⟩; cases h) rfl (fun h => by cases h) rfl rfl rfl (fun w hA => r_move (v := .pointer _) rfl) ?_
      refine D_take_yes 17 rfl (by kernel_rfl) (by rintro _ _ _ ⟨h, _⟩; cases h) rfl (fun h => by cases h) rfl rfl rfl (fun w hA => r_nilCheck rfl) ?_
      refine D_take_yes 18 rfl (by kernel_rfl) (by rintro _ _ _ ⟨h, _⟩; cases h) rfl (fun h => by cases h) rfl rfl rfl (fun w hA => r_fieldAddr fo46_0 rfl rfl) ?_
      refine D_take_yes 19 rfl (by kernel_rfl) (by rintro _ _ _ ⟨h, _⟩; cases h) rfl (fun h => by cases h) rfl rfl rfl (fun w hA => r_fieldAddr fo29_1 rfl rfl) ?_
      refine D_take_yes 20 rfl (by kernel_rfl) (by rintro _ _ _ ⟨h, _⟩; cases h) rfl (fun _ => hA) rfl rfl rfl (fun w hA => r_load1 ag3 rfl ((hA rfl).cellT (hW 1 _ rfl))) ?_
      refine D_take_yes 21 rfl (by kernel_rfl) (by rintro _ _ _ ⟨h, _⟩; cases h) rfl (fun h => by cases h) rfl rfl rfl (fun w hA => r_cmp rfl rfl rfl) ?_
      refine D_take 22 rfl (by kernel_rfl) (by rintro _ _ _ ⟨h, _⟩; cases h) rfl (fun h => by cases h) (fun w hA => r_pick_t rfl (v := .bool _) rfl) ?_
      refine D_take 23 rfl (by kernel_rfl) (by rintro _ _ _ ⟨h, _⟩; cases h) rfl (fun h => by cases h) (fun w hA => r_assign (v := .bool _) rfl) ?_
      refine D_done (by kernel_rfl) ?_
      refine W_ret ?_
      refine xb_ret ?_
      refine ⟨rfl, ?_⟩
      refine ret1 Try.results56 (v := .bool _) rfl ?_
      refine ⟨?_, hA⟩
      show Value.bool _ = .bool (bodyP ⟨kind, frm, why, cs, ps.map (·.1), vs, ws, os.map (·.1)⟩)
      unfold bodyP
      dsimp only
      rw [if_pos q9, decide_eq_true (show cs.length = 1 by omega), hx]; rfl
    · -- False
      have q16 := beq_eq_false_iff_ne.1 h
      refine D_take 7 rfl (by kernel_rfl) (by rintro _ _ _ ⟨h, _⟩; cases h) rfl (fun h => by cases h) (fun w hA => r_move (v := .bool _) rfl) ?_
      refine D_take_no 8 rfl (by kernel_rfl) (by rintro _ _ _ ⟨h, _⟩; cases h) rfl (fun h => by cases h) rfl rfl rfl rfl ?_
      refine D_take_no 9 rfl (by kernel_rfl) (by rintro _ _ _ ⟨h, _⟩; cases h) rfl (fun h => by cases h) rfl rfl rfl rfl ?_
      refine D_take_no 10 rfl (by kernel_rfl) (by rintro _ _ _ ⟨h, _⟩; cases h) rfl (fun h => by cases h) rfl rfl rfl rfl ?_
      refine D_take_no 11 rfl (by kernel_rfl) (by rintro _ _ _ ⟨h, _⟩; cases h) rfl (fun h => by cases h) rfl rfl rfl rfl ?_
      refine D_take_no 12 rfl (by kernel_rfl) (by rintro _ _ _ ⟨h, _⟩; cases h) rfl (fun _ => hA) rfl rfl rfl rfl ?_
      refine D_take_no 13 rfl (by kernel_rfl) (by rintro _ _ _ ⟨h, _⟩; cases h) rfl (fun h => by cases h) rfl rfl rfl rfl ?_
      refine D_take_no 14 rfl (by kernel_rfl) (by rintro _ _ _ ⟨h, _⟩; cases h) rfl (fun h => by cases h) rfl rfl rfl rfl ?_
      refine D_take_no 15 rfl (by kernel_rfl) (by rintro _ _ _ ⟨h, _⟩; cases h) rfl (fun _ => hA) rfl rfl rfl rfl ?_
      refine D_take_no 16 rfl (by kernel_rfl) (by rintro _ _ _ ⟨h, _⟩; cases h) rfl (fun h => by cases h) rfl rfl rfl rfl ?_
      refine D_take_no 17 rfl (by kernel_rfl) (by rintro _ _ _ ⟨h, _⟩; cases h) rfl (fun h => by cases h) rfl rfl rfl rfl ?_
      refine D_take_no 18 rfl (by kernel_rfl) (by rintro _ _ _ ⟨h, _⟩; cases h) rfl (fun h => by cases h) rfl rfl rfl rfl ?_
      refine D_take_no 19 rfl (by kernel_rfl) (by rintro _ _ _ ⟨h, _⟩; cases h) rfl (fun h => by cases h) rfl rfl rfl rfl ?_
      refine D_take_no 20 rfl (by kernel_rfl) (by rintro _ _ _ ⟨h, _⟩; cases h) rfl (fun _ => hA) rfl rfl rfl rfl ?_
      refine D_take_no 21 rfl (by kernel_rfl) (by rintro _ _ _ ⟨h, _⟩; cases h) rfl (fun h => by cases h) rfl rfl rfl rfl ?_
      refine D_take 22 rfl (by kernel_rfl) (by rintro _ _ _ ⟨h, _⟩; cases h) rfl (fun h => by cases h) (fun w hA => r_pick_f rfl (v := .bool _) rfl) ?_
      refine D_take 23 rfl (by kernel_rfl) (by rintro _ _ _ ⟨h, _⟩; cases h) rfl (fun h => by cases h) (fun w hA => r_assign (v := .bool _) rfl) ?_
      refine D_done (by kernel_rfl) ?_
      refine W_ret ?_
      refine xb_ret ?_
      refine ⟨rfl, ?_⟩
      refine ret1 Try.results56 (v := .bool _) rfl ?_
      refine ⟨?_, hA⟩
      show Value.bool _ = .bool (bodyP ⟨kind, frm, why, cs, ps.map (·.1), vs, ws, os.map (·.1)⟩)
      unfold bodyP
      dsimp only
      rw [if_pos q9, decide_eq_false (show ¬ cs.length = 1 by omega), Bool.false_and]
  · -- False
    have q9 := beq_eq_false_iff_ne.1 h
    refine o_assign (v := .bool _) rfl ?_
    refine O_end ?_
    refine W_else rfl ?_
    refine W_seq ?_
    refine W_reg ?_ -- 4 words.go:56
    refine o_cmp2 rfl rfl rfl (fun h => ?_) (fun h => ?_)
    · -- True
      have q34 := beq_iff_eq.1 h
      refine o_assign (v := .bool _) rfl ?_
      refine O_end ?_
      refine W_then rfl ?_
      refine W_seq ?_
      refine W_reg ?_ -- 5 words.go:57
      refine o_move (v := .pointer _) rfl ?_
      refine o_nilCheck rfl ?_
      refine o_fieldAddr fo46_0 rfl rfl ?_
      refine o_fieldAddr fo29_3 rfl rfl ?_
      refine o_load1 ag23 rfl (hA.cellT (hW 3 _ rfl)) ?_
      refine o_len Try.underlying23 rfl ?_
      refine o_move (v := .pointer _) rfl ?_
      refine o_makeFunc rfl rfl ?_ -- Go.Fn.func 66
      refine O_calls en65 rfl (w_rising' (fi := [.pointer (some ⟨b, 0, none⟩)]) (ca := []) (l := cs.map (·.w)) en66 (by simp) (by simp; omega) (fun w' i x hA' hx' => by
        rw [List.getElem?_map] at hx'
        obtain ⟨y, hy, rfl⟩ := Option.map_eq_some_iff.1 hx'
        exact w_card (hA'.cellT (hA.cellT (hW 3 _ rfl))) ((hc.old hA).old hA') (by omega) hy)) (fun v1 w1 hC => ?_)
      obtain ⟨rfl, hC⟩ := hC
      have hA := (hA.after hC).take
      refine o_assign (v := .bool _) rfl ?_
      refine O_end ?_
      refine W_ret ?_
      refine xb_ret ?_
      refine ⟨rfl, ?_⟩
      refine ret1 Try.results56 (v := .bool _) rfl ?_
      refine ⟨?_, hA⟩
      show Value.bool _ = .bool (bodyP ⟨kind, frm, why, cs, ps.map (·.1), vs, ws, os.map (·.1)⟩)
      unfold bodyP
      dsimp only
      rw [if_neg q9]
      rw [if_pos q34]
    · -- False
      have q34 := beq_eq_false_iff_ne.1 h
      refine o_assign (v := .bool _) rfl ?_
      refine O_end ?_
      refine W_else rfl ?_
      refine W_seq ?_
      refine W_reg ?_ -- 6 words.go:58
      refine o_cmp2 rfl rfl rfl (fun h => ?_) (fun h => ?_)
      · -- True
        have q45 := beq_iff_eq.1 h
        refine o_assign (v := .bool _) rfl ?_
        refine O_end ?_
        refine W_then rfl ?_
        refine W_seq ?_
        refine W_reg ?_ -- 7 words.go:59
        refine o_move (v := .pointer _) rfl ?_
        refine o_move (v := .pointer _) rfl ?_
        refine o_makeFunc rfl rfl ?_ -- Go.Fn.func 68
        refine o_move (v := .pointer _) rfl ?_
        refine o_makeFunc rfl rfl ?_ -- Go.Fn.func 69
        refine O_calls en67 rfl (w_parcels (fi1 := [.pointer (some ⟨b, 0, none⟩)]) (fi2 := [.pointer (some ⟨b, 0, none⟩)]) (by_ := (·.t)) (ot := (·.f)) (hA.cellT (hW 4 _ rfl)) (hp.old hA) (fun x hx => (hpd x hx).old hA) (by omega) en68 en69 (fun w' i x hA' hx => w_to (hA'.cellT (hA.cellT (hW 4 _ rfl))) ((hp.old hA).old hA') (by omega) hx) (fun w' i x hA' hx => w_from (hA'.cellT (hA.cellT (hW 4 _ rfl))) ((hp.old hA).old hA') (by omega) hx)) (fun v2 w2 hC => ?_)
        obtain ⟨rfl, hC⟩ := hC
        have hA := (hA.after hC).take
        refine o_assign (v := .bool _) rfl ?_
        refine O_end ?_
        refine W_ret ?_
        refine xb_ret ?_
        refine ⟨rfl, ?_⟩
        refine ret1 Try.results56 (v := .bool _) rfl ?_
        refine ⟨?_, hA⟩
        show Value.bool _ = .bool (bodyP ⟨kind, frm, why, cs, ps.map (·.1), vs, ws, os.map (·.1)⟩)
        unfold bodyP
        dsimp only
        rw [if_neg q9]
        rw [if_neg q34]
        rw [if_pos q45]
      · -- False
        have q45 := beq_eq_false_iff_ne.1 h
        refine o_assign (v := .bool _) rfl ?_
        refine O_end ?_
        refine W_else rfl ?_
        refine W_seq ?_
        refine W_reg ?_ -- 8 words.go:60
        refine o_cmp2 rfl rfl rfl (fun h => ?_) (fun h => ?_)
        · -- True
          have q53 := beq_iff_eq.1 h
          refine o_assign (v := .bool _) rfl ?_
          refine O_end ?_
          refine W_then rfl ?_
          refine W_seq ?_
          refine W_reg ?_ -- 9 words.go:61
          refine o_move (v := .pointer _) rfl ?_
          refine o_move (v := .pointer _) rfl ?_
          refine o_makeFunc rfl rfl ?_ -- Go.Fn.func 69
          refine o_move (v := .pointer _) rfl ?_
          refine o_makeFunc rfl rfl ?_ -- Go.Fn.func 68
          refine O_calls en67 rfl (w_parcels (fi1 := [.pointer (some ⟨b, 0, none⟩)]) (fi2 := [.pointer (some ⟨b, 0, none⟩)]) (by_ := (·.f)) (ot := (·.t)) (hA.cellT (hW 4 _ rfl)) (hp.old hA) (fun x hx => (hpd x hx).old hA) (by omega) en69 en68 (fun w' i x hA' hx => w_from (hA'.cellT (hA.cellT (hW 4 _ rfl))) ((hp.old hA).old hA') (by omega) hx) (fun w' i x hA' hx => w_to (hA'.cellT (hA.cellT (hW 4 _ rfl))) ((hp.old hA).old hA') (by omega) hx)) (fun v3 w3 hC => ?_)
          obtain ⟨rfl, hC⟩ := hC
          have hA := (hA.after hC).take
          refine o_assign (v := .bool _) rfl ?_
          refine O_end ?_
          refine W_ret ?_
          refine xb_ret ?_
          refine ⟨rfl, ?_⟩
          refine ret1 Try.results56 (v := .bool _) rfl ?_
          refine ⟨?_, hA⟩
          show Value.bool _ = .bool (bodyP ⟨kind, frm, why, cs, ps.map (·.1), vs, ws, os.map (·.1)⟩)
          unfold bodyP
          dsimp only
          rw [if_neg q9]
          rw [if_neg q34]
          rw [if_neg q45]
          rw [if_pos q53]
        · -- False
          have q53 := beq_eq_false_iff_ne.1 h
          refine o_assign (v := .bool _) rfl ?_
          refine O_end ?_
          refine W_else rfl ?_
          refine W_seq ?_
          refine W_reg ?_ -- 10 words.go:62
          refine o_cmp2 rfl rfl rfl (fun h => ?_) (fun h => ?_)
          · -- True
            have q61 := beq_iff_eq.1 h
            refine o_assign (v := .bool _) rfl ?_
            refine O_end ?_
            refine W_then rfl ?_
            refine W_seq ?_
            refine W_reg ?_ -- 11 words.go:63
            refine o_move (v := .pointer _) rfl ?_
            refine o_nilCheck rfl ?_
            refine o_fieldAddr fo46_0 rfl rfl ?_
            refine o_fieldAddr fo29_5 rfl rfl ?_
            refine o_load1 ag25 rfl (hA.cellT (hW 5 _ rfl)) ?_
            refine o_len Try.underlying25 rfl ?_
            refine o_cmp rfl rfl rfl ?_
            refine o_assign (v := .bool _) rfl ?_
            refine O_end ?_
            refine W_ret ?_
            refine xb_ret ?_
            refine ⟨rfl, ?_⟩
            refine ret1 Try.results56 (v := .bool _) rfl ?_
            refine ⟨?_, hA⟩
            show Value.bool _ = .bool (bodyP ⟨kind, frm, why, cs, ps.map (·.1), vs, ws, os.map (·.1)⟩)
            unfold bodyP
            dsimp only
            rw [if_neg q9]
            rw [if_neg q34]
            rw [if_neg q45]
            rw [if_neg q53]
            rw [if_pos q61]
            congr 1
            rw [decide_eq_decide]; omega
          · -- False
            have q61 := beq_eq_false_iff_ne.1 h
            refine o_assign (v := .bool _) rfl ?_
            refine O_end ?_
            refine W_else rfl ?_
            refine W_seq ?_
            refine W_reg ?_ -- 12 words.go:64
            refine o_cmp2 rfl rfl rfl (fun h => ?_) (fun h => ?_)
            · -- True
              have q70 := beq_iff_eq.1 h
              refine o_assign (v := .bool _) rfl ?_
              refine O_end ?_
              refine W_then rfl ?_
              refine W_seq ?_
              refine W_reg ?_ -- 13 words.go:65
              refine o_move (v := .pointer _) rfl ?_
              refine o_nilCheck rfl ?_
              refine o_fieldAddr fo46_0 rfl rfl ?_
              refine o_fieldAddr fo29_6 rfl rfl ?_
              refine o_load1 ag26 rfl (hA.cellT (hW 6 _ rfl)) ?_
              refine o_len Try.underlying26 rfl ?_
              refine o_move (v := .pointer _) rfl ?_
              refine o_makeFunc rfl rfl ?_ -- Go.Fn.func 70
              refine O_calls en65 rfl (w_rising' (fi := [.pointer (some ⟨b, 0, none⟩)]) (ca := []) (l := ws) en70 rfl (by omega) (fun w' i x hA' hx => w_named (hA'.cellT (hA.cellT (hW 6 _ rfl))) ((hn.old hA).old hA') (by omega) hx)) (fun v4 w4 hC => ?_)
              obtain ⟨rfl, hC⟩ := hC
              have hA := (hA.after hC).take
              refine o_assign (v := .bool _) rfl ?_
              refine O_end ?_
              refine W_ret ?_
              refine xb_ret ?_
              refine ⟨rfl, ?_⟩
              refine ret1 Try.results56 (v := .bool _) rfl ?_
              refine ⟨?_, hA⟩
              show Value.bool _ = .bool (bodyP ⟨kind, frm, why, cs, ps.map (·.1), vs, ws, os.map (·.1)⟩)
              unfold bodyP
              dsimp only
              rw [if_neg q9]
              rw [if_neg q34]
              rw [if_neg q45]
              rw [if_neg q53]
              rw [if_neg q61]
              rw [if_pos q70]
            · -- False
              have q70 := beq_eq_false_iff_ne.1 h
              refine o_assign (v := .bool _) rfl ?_
              refine O_end ?_
              refine W_else rfl ?_
              refine W_seq ?_
              refine W_reg ?_ -- 14 words.go:66
              refine o_cmp2 rfl rfl rfl (fun h => ?_) (fun h => ?_)
              · -- True
                have q81 := beq_iff_eq.1 h
                refine o_assign (v := .bool _) rfl ?_
                refine O_end ?_
                refine W_then rfl ?_
                refine W_seq ?_
                refine W_reg ?_ -- 15 words.go:67
                refine o_move (v := .pointer _) rfl ?_
                refine O_calls en71 rfl (w_openings (hA.cellT (hW 7 _ rfl)) (ho.old hA) (fun x hx => (hod x hx).old hA) (by omega)) (fun v5 w5 hC => ?_)
                obtain ⟨rfl, hC⟩ := hC
                have hA := (hA.after hC).take
                refine o_assign (v := .bool _) rfl ?_
                refine O_end ?_
                refine W_ret ?_
                refine xb_ret ?_
                refine ⟨rfl, ?_⟩
                refine ret1 Try.results56 (v := .bool _) rfl ?_
                refine ⟨?_, hA⟩
                show Value.bool _ = .bool (bodyP ⟨kind, frm, why, cs, ps.map (·.1), vs, ws, os.map (·.1)⟩)
                unfold bodyP
                dsimp only
                rw [if_neg q9]
                rw [if_neg q34]
                rw [if_neg q45]
                rw [if_neg q53]
                rw [if_neg q61]
                rw [if_neg q70]
                rw [if_pos q81]
              · -- False
                have q81 := beq_eq_false_iff_ne.1 h
                refine o_assign (v := .bool _) rfl ?_
                refine O_end ?_
                refine W_else rfl ?_
                refine W_skip ?_
                refine W_seq ?_
                refine W_reg ?_ -- 16 words.go:69
                refine o_move (v := .pointer _) rfl ?_
                refine o_nilCheck rfl ?_
                refine o_fieldAddr fo46_0 rfl rfl ?_
                refine o_fieldAddr fo29_0 rfl rfl ?_
                refine o_load1 ag3 rfl (hA.cellT (hW 0 _ rfl)) ?_
                refine o_cmp2 rfl rfl rfl (fun h => ?_) (fun h => ?_)
                · -- True
                  have q89 := beq_iff_eq.1 h
                  refine o_move (v := .bool _) rfl ?_
                  refine O_yes rfl rfl rfl ?_
                  refine o_move (v := .pointer _) rfl ?_
                  refine O_yes rfl rfl rfl ?_
                  refine o_nilCheck rfl ?_
                  refine O_yes rfl rfl rfl ?_
                  refine o_fieldAddr fo46_0 rfl rfl ?_
                  refine O_yes rfl rfl rfl ?_
                  refine o_fieldAddr fo29_2 rfl rfl ?_
                  refine O_yes rfl rfl rfl ?_
                  refine o_load1 ag22 rfl (hA.cellT (hW 2 _ rfl)) ?_
                  refine O_yes rfl rfl rfl ?_
                  refine o_cmp2 rfl rfl rfl (fun h => ?_) (fun h => ?_)
                  · -- True
                    have q96 := of_decide_eq_true h
                    refine o_pick_t rfl (v := .bool _) rfl ?_
                    refine o_move (v := .bool _) rfl ?_
                    refine O_yes rfl rfl rfl ?_
                    refine o_move (v := .pointer _) rfl ?_
                    refine O_yes rfl rfl rfl ?_
                    refine o_nilCheck rfl ?_
                    refine O_yes rfl rfl rfl ?_
                    refine o_fieldAddr fo46_0 rfl rfl ?_
                    refine O_yes rfl rfl rfl ?_
                    refine o_fieldAddr fo29_2 rfl rfl ?_
                    refine O_yes rfl rfl rfl ?_
                    refine o_load1 ag22 rfl (hA.cellT (hW 2 _ rfl)) ?_
                    refine O_yes rfl rfl rfl ?_
                    refine o_cmp rfl rfl rfl ?_
                    refine o_pick_t rfl (v := .bool _) rfl ?_
                    refine o_assign (v := .bool _) rfl ?_
                    refine O_end ?_
                    refine W_ret ?_
                    refine ⟨rfl, ?_⟩
                    refine ret1 Try.results56 (v := .bool _) rfl ?_
                    refine ⟨?_, hA⟩
                    show Value.bool _ = .bool (bodyP ⟨kind, frm, why, cs, ps.map (·.1), vs, ws, os.map (·.1)⟩)
                    unfold bodyP
                    dsimp only
                    rw [if_neg q9]
                    rw [if_neg q34]
                    rw [if_neg q45]
                    rw [if_neg q53]
                    rw [if_neg q61]
                    rw [if_neg q70]
                    rw [if_neg q81]
                    rw [decide_eq_true (show kind = 8 from q89), decide_eq_true (show 1 ≤ why by omega)]; rfl
                  · -- False
                    have q96 := of_decide_eq_false h
                    refine o_pick_t rfl (v := .bool _) rfl ?_
                    refine o_move (v := .bool _) rfl ?_
                    refine O_no rfl rfl rfl rfl ?_
                    refine O_no rfl rfl rfl rfl ?_
                    refine O_no rfl rfl rfl rfl ?_
                    refine O_no rfl rfl rfl rfl ?_
                    refine O_no rfl rfl rfl rfl ?_
                    refine O_no rfl rfl rfl rfl ?_
                    refine o_pick_f rfl (v := .bool _) rfl ?_
                    refine o_assign (v := .bool _) rfl ?_
                    refine O_end ?_
                    refine W_ret ?_
                    refine ⟨rfl, ?_⟩
                    refine ret1 Try.results56 (v := .bool _) rfl ?_
                    refine ⟨?_, hA⟩
                    show Value.bool _ = .bool (bodyP ⟨kind, frm, why, cs, ps.map (·.1), vs, ws, os.map (·.1)⟩)
                    unfold bodyP
                    dsimp only
                    rw [if_neg q9]
                    rw [if_neg q34]
                    rw [if_neg q45]
                    rw [if_neg q53]
                    rw [if_neg q61]
                    rw [if_neg q70]
                    rw [if_neg q81]
                    rw [decide_eq_true (show kind = 8 from q89), decide_eq_false (show ¬ 1 ≤ why by omega)]; rfl
                · -- False
                  have q89 := beq_eq_false_iff_ne.1 h
                  refine o_move (v := .bool _) rfl ?_
                  refine O_no rfl rfl rfl rfl ?_
                  refine O_no rfl rfl rfl rfl ?_
                  refine O_no rfl rfl rfl rfl ?_
                  refine O_no rfl rfl rfl rfl ?_
                  refine O_no rfl rfl rfl rfl ?_
                  refine O_no rfl rfl rfl rfl ?_
                  refine o_pick_f rfl (v := .bool _) rfl ?_
                  refine o_move (v := .bool _) rfl ?_
                  refine O_no rfl rfl rfl rfl ?_
                  refine O_no rfl rfl rfl rfl ?_
                  refine O_no rfl rfl rfl rfl ?_
                  refine O_no rfl rfl rfl rfl ?_
                  refine O_no rfl rfl rfl rfl ?_
                  refine O_no rfl rfl rfl rfl ?_
                  refine o_pick_f rfl (v := .bool _) rfl ?_
                  refine o_assign (v := .bool _) rfl ?_
                  refine O_end ?_
                  refine W_ret ?_
                  refine ⟨rfl, ?_⟩
                  refine ret1 Try.results56 (v := .bool _) rfl ?_
                  refine ⟨?_, hA⟩
                  show Value.bool _ = .bool (bodyP ⟨kind, frm, why, cs, ps.map (·.1), vs, ws, os.map (·.1)⟩)
                  unfold bodyP
                  dsimp only
                  rw [if_neg q9]
                  rw [if_neg q34]
                  rw [if_neg q45]
                  rw [if_neg q53]
                  rw [if_neg q61]
                  rw [if_neg q70]
                  rw [if_neg q81]
                  rw [decide_eq_false (show ¬ kind = 8 from q89)]; rfl

theorem w_good {w : World} {b : Nat} {H : WH} (hW : WordAt w b H) (hR : RdW w H) (hl : H.cs.length ≤ 9223372036854775807 ∧ H.ps.length ≤ 9223372036854775807 ∧ H.vs.length ≤ 9223372036854775807 ∧ H.ws.length ≤ 9223372036854775807 ∧ H.os.length ≤ 9223372036854775807) : Calls Try.prog 18 #[.pointer (some ⟨b, 0, none⟩)] w fun e w' => ∃ v, e = .returned v ∧ (v = .bool (goodP H.x) ∧ At w No [] w') := by
  refine body_in (n := 52) (l := [.pointer (some ⟨b, 0, none⟩)]) en18 rfl Try.ntmps18 rfl ?_
  have hA := At.refl w
  refine W_seq ?_
  refine W_reg ?_ -- 0 words.go:89
  refine o_assign (v := .bool _) rfl ?_
  refine O_end ?_
  refine W_seq ?_
  refine W_drawA hA [4, 11, 19, 27, 37] mix rfl rfl (fun w0_1 hA => ?_) -- 1 words.go:90
  refine D_take 0 rfl (by kernel_rfl) (by rintro _ _ _ ⟨h, _⟩; cases h) rfl (fun h => by cases h) (fun w hA => r_move (v := .pointer _) rfl) ?_
  refine D_take 1 rfl (by kernel_rfl) (by rintro _ _ _ ⟨h, _⟩; cases h) rfl (fun h => by cases h) (fun w hA => r_nilCheck rfl) ?_
  refine D_take 2 rfl (by kernel_rfl) (by rintro _ _ _ ⟨h, _⟩; cases h) rfl (fun h => by cases h) (fun w hA => r_fieldAddr fo46_0 rfl rfl) ?_
  refine D_take 3 rfl (by kernel_rfl) (by rintro _ _ _ ⟨h, _⟩; cases h) rfl (fun h => by cases h) (fun w hA => r_fieldAddr fo29_0 rfl rfl) ?_
  refine D_take 4 rfl (by kernel_rfl) (by rintro _ _ _ ⟨h, _⟩; cases h) rfl (fun _ => hA) (fun w hA => r_load1 ag3 rfl ((hA rfl).cellT (hW 0 _ rfl))) ?_
  refine D_takeb 5 rfl (by kernel_rfl) (by rintro _ _ _ ⟨h, _⟩; cases h) rfl (fun h => by cases h) (fun w hA => r_cmp rfl rfl rfl) (fun h => ?_) (fun h => ?_)
  · -- True
    have q8 := of_decide_eq_true h
    refine D_take 6 rfl (by kernel_rfl) (by rintro _ _ _ ⟨h, _⟩; cases h) rfl (fun h => by cases h) (fun w hA => r_move (v := .bool _) rfl) ?_
    refine D_take_yes 7 rfl (by kernel_rfl) (by rintro _ _ _ ⟨h, _⟩; cases h) rfl (fun h => by cases h) rfl rfl rfl (fun w hA => r_move (v := .pointer _) rfl) ?_
    refine D_take_yes 8 rfl (by kernel_rfl) (by rintro _ _ _ ⟨h, _⟩; cases h) rfl (fun h => by cases h) rfl rfl rfl (fun w hA => r_nilCheck rfl) ?_
    refine D_take_yes 9 rfl (by kernel_rfl) (by rintro _ _ _ ⟨h, _⟩; cases h) rfl (fun h => by cases h) rfl rfl rfl (fun w hA => r_fieldAddr fo46_0 rfl rfl) ?_
    refine D_take_yes 10 rfl (by kernel_rfl) (by rintro _ _ _ ⟨h, _⟩; cases h) rfl (fun h => by cases h) rfl rfl rfl (fun w hA => r_fieldAddr fo29_0 rfl rfl) ?_
    refine D_take_yes 11 rfl (by kernel_rfl) (by rintro _ _ _ ⟨h, _⟩; cases h) rfl (fun _ => hA) rfl rfl rfl (fun w hA => r_load1 ag3 rfl ((hA rfl).cellT (hW 0 _ rfl))) ?_
    refine D_takeb_yes 12 rfl (by kernel_rfl) (by rintro _ _ _ ⟨h, _⟩; cases h) rfl (fun h => by cases h) rfl rfl rfl (fun w hA => r_cmp rfl rfl rfl) (fun h => ?_) (fun h => ?_)
    · -- True
      have q15 := of_decide_eq_true h
      refine D_take 13 rfl (by kernel_rfl) (by rintro _ _ _ ⟨h, _⟩; cases h) rfl (fun h => by cases h) (fun w hA => r_pick_t rfl (v := .bool _) rfl) ?_
      refine D_take 14 rfl (by kernel_rfl) (by rintro _ _ _ ⟨h, _⟩; cases h) rfl (fun h => by cases h) (fun w hA => r_move (v := .bool _) rfl) ?_
      refine D_take_yes 15 rfl (by kernel_rfl) (by rintro _ _ _ ⟨h, _⟩; cases h) rfl (fun h => by cases h) rfl rfl rfl (fun w hA => r_move (v := .pointer _) rfl) ?_
      refine D_take_yes 16 rfl (by kernel_rfl) (by rintro _ _ _ ⟨h, _⟩; cases h) rfl (fun h => by cases h) rfl rfl rfl (fun w hA => r_nilCheck rfl) ?_
      refine D_take_yes 17 rfl (by kernel_rfl) (by rintro _ _ _ ⟨h, _⟩; cases h) rfl (fun h => by cases h) rfl rfl rfl (fun w hA => r_fieldAddr fo46_0 rfl rfl) ?_
      refine D_take_yes 18 rfl (by kernel_rfl) (by rintro _ _ _ ⟨h, _⟩; cases h) rfl (fun h => by cases h) rfl rfl rfl (fun w hA => r_fieldAddr fo29_1 rfl rfl) ?_
      refine D_take_yes 19 rfl (by kernel_rfl) (by rintro _ _ _ ⟨h, _⟩; cases h) rfl (fun _ => hA) rfl rfl rfl (fun w hA => r_load1 ag3 rfl ((hA rfl).cellT (hW 1 _ rfl))) ?_
      refine D_takeb_yes 20 rfl (by kernel_rfl) (by rintro _ _ _ ⟨h, _⟩; cases h) rfl (fun h => by cases h) rfl rfl rfl (fun w hA => r_cmp rfl rfl rfl) (fun h => ?_) (fun h => ?_)
      · -- True
        have q23 := of_decide_eq_true h
        refine D_take 21 rfl (by kernel_rfl) (by rintro _ _ _ ⟨h, _⟩; cases h) rfl (fun h => by cases h) (fun w hA => r_pick_t rfl (v := .bool _) rfl) ?_
        refine D_take 22 rfl (by kernel_rfl) (by rintro _ _ _ ⟨h, _⟩; cases h) rfl (fun h => by cases h) (fun w hA => r_move (v := .bool _) rfl) ?_
        refine D_take_yes 23 rfl (by kernel_rfl) (by rintro _ _ _ ⟨h, _⟩; cases h) rfl (fun h => by cases h) rfl rfl rfl (fun w hA => r_move (v := .pointer _) rfl) ?_
        refine D_take_yes 24 rfl (by kernel_rfl) (by rintro _ _ _ ⟨h, _⟩; cases h) rfl (fun h => by cases h) rfl rfl rfl (fun w hA => r_nilCheck rfl) ?_
        refine D_take_yes 25 rfl (by kernel_rfl) (by rintro _ _ _ ⟨h, _⟩; cases h) rfl (fun h => by cases h) rfl rfl rfl (fun w hA => r_fieldAddr fo46_0 rfl rfl) ?_
        refine D_take_yes 26 rfl (by kernel_rfl) (by rintro _ _ _ ⟨h, _⟩; cases h) rfl (fun h => by cases h) rfl rfl rfl (fun w hA => r_fieldAddr fo29_1 rfl rfl) ?_
        refine D_take_yes 27 rfl (by kernel_rfl) (by rintro _ _ _ ⟨h, _⟩; cases h) rfl (fun _ => hA) rfl rfl rfl (fun w hA => r_load1 ag3 rfl ((hA rfl).cellT (hW 1 _ rfl))) ?_
        refine D_takeb_yes 28 rfl (by kernel_rfl) (by rintro _ _ _ ⟨h, _⟩; cases h) rfl (fun h => by cases h) rfl rfl rfl (fun w hA => r_cmp rfl rfl rfl) (fun h => ?_) (fun h => ?_)
        · -- True
          have q31 := of_decide_eq_true h
          refine D_take 29 rfl (by kernel_rfl) (by rintro _ _ _ ⟨h, _⟩; cases h) rfl (fun h => by cases h) (fun w hA => r_pick_t rfl (v := .bool _) rfl) ?_
          refine D_take 30 rfl (by kernel_rfl) (by rintro _ _ _ ⟨h, _⟩; cases h) rfl (fun h => by cases h) (fun w hA => r_move (v := .bool _) rfl) ?_
          refine D_take_yes 31 rfl (by kernel_rfl) (by rintro _ _ _ ⟨h, _⟩; cases h) rfl (fun h => by cases h) rfl rfl rfl (fun w hA => r_move (v := .pointer _) rfl) ?_
          refine D_take_yes 33 rfl (by kernel_rfl) (by rintro _ _ _ ⟨h, _⟩; cases h) rfl (fun h => by cases h) rfl rfl rfl (fun w hA => r_move (v := .pointer _) rfl) ?_
          refine D_take_yes 34 rfl (by kernel_rfl) (by rintro _ _ _ ⟨h, _⟩; cases h) rfl (fun h => by cases h) rfl rfl rfl (fun w hA => r_nilCheck rfl) ?_
          refine D_take_yes 35 rfl (by kernel_rfl) (by rintro _ _ _ ⟨h, _⟩; cases h) rfl (fun h => by cases h) rfl rfl rfl (fun w hA => r_fieldAddr fo46_0 rfl rfl) ?_
          refine D_take_yes 36 rfl (by kernel_rfl) (by rintro _ _ _ ⟨h, _⟩; cases h) rfl (fun h => by cases h) rfl rfl rfl (fun w hA => r_fieldAddr fo29_1 rfl rfl) ?_
          refine D_take_yes 37 rfl (by kernel_rfl) (by rintro _ _ _ ⟨h, _⟩; cases h) rfl (fun _ => hA) rfl rfl rfl (fun w hA => r_load1 ag3 rfl ((hA rfl).cellT (hW 1 _ rfl))) ?_
          refine D_take_yes 38 rfl (by kernel_rfl) (by rintro _ _ _ ⟨h, _⟩; cases h) rfl (fun h => by cases h) rfl rfl rfl (fun w hA => r_cmp rfl rfl rfl) ?_
          refine D_run 32 (by kernel_rfl) rfl rfl ?_
          refine O_yes rfl rfl rfl ?_
          refine O_calls en54 rfl (w_warden (hW.old hA) (hR.old hA) hl) (fun v1 w1 hC => ?_)
          obtain ⟨rfl, hC⟩ := hC
          have hA := (hA.after hC).tail 0
          refine O_end ⟨fun _ _ => hA, ?_⟩
          refine D_takeb_yes 39 rfl (by kernel_rfl) (by rintro _ _ _ ⟨h, _⟩; cases h) rfl (fun h => by cases h) rfl rfl rfl (fun w hA => r_eqb Try.underlying4 rfl rfl (.inl ⟨rfl, rfl⟩)) (fun h => ?_) (fun h => ?_)
          · -- True
            have q42 := h
            refine D_take 40 rfl (by kernel_rfl) (by rintro _ _ _ ⟨h, _⟩; cases h) rfl (fun h => by cases h) (fun w hA => r_pick_t rfl (v := .bool _) rfl) ?_
            refine D_take 41 rfl (by kernel_rfl) (by rintro _ _ _ ⟨h, _⟩; cases h) rfl (fun h => by cases h) (fun w hA => r_move (v := .bool _) rfl) ?_
            refine D_take_yes 42 rfl (by kernel_rfl) (by rintro _ _ _ ⟨h, _⟩; cases h) rfl (fun h => by cases h) rfl rfl rfl (fun w hA => r_move (v := .pointer _) rfl) ?_
            refine D_run 43 (by kernel_rfl) rfl rfl ?_
            refine O_yes rfl rfl rfl ?_
            refine O_callb en55 rfl (w_only (hW.old hA) (hR.old hA) hl (by omega) (by omega)) (fun w2 hC h => ?_) (fun w2 hC h => ?_)
            · -- True
              have hA := (hA.after hC).take
              have q46 := h
              refine O_end ⟨fun _ _ => hA, ?_⟩
              refine D_take 44 rfl (by kernel_rfl) (by rintro _ _ _ ⟨h, _⟩; cases h) rfl (fun h => by cases h) (fun w hA => r_pick_t rfl (v := .bool _) rfl) ?_
              refine D_take 45 rfl (by kernel_rfl) (by rintro _ _ _ ⟨h, _⟩; cases h) rfl (fun h => by cases h) (fun w hA => r_move (v := .bool _) rfl) ?_
              refine D_take_yes 46 rfl (by kernel_rfl) (by rintro _ _ _ ⟨h, _⟩; cases h) rfl (fun h => by cases h) rfl rfl rfl (fun w hA => r_move (v := .pointer _) rfl) ?_
              refine D_run 47 (by kernel_rfl) rfl rfl ?_
              refine O_yes rfl rfl rfl ?_
              refine O_calls en56 rfl (w_body (hW.old hA) (hR.old hA) hl) (fun v3 w3 hC => ?_)
              obtain ⟨rfl, hC⟩ := hC
              have hA := (hA.after hC).tail 0
              refine O_end ⟨fun _ _ => hA, ?_⟩
              refine D_take 48 rfl (by kernel_rfl) (by rintro _ _ _ ⟨h, _⟩; cases h) rfl (fun h => by cases h) (fun w hA => r_pick_t rfl (v := .bool _) rfl) ?_
              refine D_take 49 rfl (by kernel_rfl) (by rintro _ _ _ ⟨h, _⟩; cases h) rfl (fun h => by cases h) (fun w hA => r_assign (v := .bool _) rfl) ?_
              refine D_done (by kernel_rfl) ?_
              refine W_ret ?_
              refine ⟨rfl, ?_⟩
              refine ret1 Try.results18 (v := .bool _) rfl ?_
              refine ⟨?_, hA⟩
              show Value.bool _ = .bool (goodP H.x)
              unfold goodP
              rw [decide_eq_true (show 1 ≤ H.x.kind from by show 1 ≤ H.kind; omega)]
              rw [decide_eq_true (show H.x.kind ≤ 8 from by show H.kind ≤ 8; omega)]
              rw [decide_eq_true (show 0 ≤ H.x.frm from by show 0 ≤ H.frm; omega)]
              rw [decide_eq_true (show H.x.frm ≤ 64 from by show H.frm ≤ 64; omega)]
              rw [show (wardenP H.x == (H.x.frm == 0)) = true from q42, q46]; rfl
            · -- False
              have hA := (hA.after hC).take
              have q46 := h
              refine O_end ⟨fun _ _ => hA, ?_⟩
              refine D_take 44 rfl (by kernel_rfl) (by rintro _ _ _ ⟨h, _⟩; cases h) rfl (fun h => by cases h) (fun w hA => r_pick_t rfl (v := .bool _) rfl) ?_
              refine D_take 45 rfl (by kernel_rfl) (by rintro _ _ _ ⟨h, _⟩; cases h) rfl (fun h => by cases h) (fun w hA => r_move (v := .bool _) rfl) ?_
              refine D_take_no 46 rfl (by kernel_rfl) (by rintro _ _ _ ⟨h, _⟩; cases h) rfl (fun h => by cases h) rfl rfl rfl rfl ?_
              refine D_take_no 47 rfl (by kernel_rfl) (by rintro _ _ _ ⟨h, _⟩; cases h) rfl (fun h => by cases h) rfl rfl rfl rfl ?_
              refine D_take 48 rfl (by kernel_rfl) (by rintro _ _ _ ⟨h, _⟩; cases h) rfl (fun h => by cases h) (fun w hA => r_pick_f rfl (v := .bool _) rfl) ?_
              refine D_take 49 rfl (by kernel_rfl) (by rintro _ _ _ ⟨h, _⟩; cases h) rfl (fun h => by cases h) (fun w hA => r_assign (v := .bool _) rfl) ?_
              refine D_done (by kernel_rfl) ?_
              refine W_ret ?_
              refine ⟨rfl, ?_⟩
              refine ret1 Try.results18 (v := .bool _) rfl ?_
              refine ⟨?_, hA⟩
              show Value.bool _ = .bool (goodP H.x)
              unfold goodP
              rw [decide_eq_true (show 1 ≤ H.x.kind from by show 1 ≤ H.kind; omega)]
              rw [decide_eq_true (show H.x.kind ≤ 8 from by show H.kind ≤ 8; omega)]
              rw [decide_eq_true (show 0 ≤ H.x.frm from by show 0 ≤ H.frm; omega)]
              rw [decide_eq_true (show H.x.frm ≤ 64 from by show H.frm ≤ 64; omega)]
              rw [show (wardenP H.x == (H.x.frm == 0)) = true from q42, q46]; simp
          · -- False
            have q42 := h
            refine D_take 40 rfl (by kernel_rfl) (by rintro _ _ _ ⟨h, _⟩; cases h) rfl (fun h => by cases h) (fun w hA => r_pick_t rfl (v := .bool _) rfl) ?_
            refine D_take 41 rfl (by kernel_rfl) (by rintro _ _ _ ⟨h, _⟩; cases h) rfl (fun h => by cases h) (fun w hA => r_move (v := .bool _) rfl) ?_
            refine D_take_no 42 rfl (by kernel_rfl) (by rintro _ _ _ ⟨h, _⟩; cases h) rfl (fun h => by cases h) rfl rfl rfl rfl ?_
            refine D_take_no 43 rfl (by kernel_rfl) (by rintro _ _ _ ⟨h, _⟩; cases h) rfl (fun h => by cases h) rfl rfl rfl rfl ?_
            refine D_take 44 rfl (by kernel_rfl) (by rintro _ _ _ ⟨h, _⟩; cases h) rfl (fun h => by cases h) (fun w hA => r_pick_f rfl (v := .bool _) rfl) ?_
            refine D_take 45 rfl (by kernel_rfl) (by rintro _ _ _ ⟨h, _⟩; cases h) rfl (fun h => by cases h) (fun w hA => r_move (v := .bool _) rfl) ?_
            refine D_take_no 46 rfl (by kernel_rfl) (by rintro _ _ _ ⟨h, _⟩; cases h) rfl (fun h => by cases h) rfl rfl rfl rfl ?_
            refine D_take_no 47 rfl (by kernel_rfl) (by rintro _ _ _ ⟨h, _⟩; cases h) rfl (fun h => by cases h) rfl rfl rfl rfl ?_
            refine D_take 48 rfl (by kernel_rfl) (by rintro _ _ _ ⟨h, _⟩; cases h) rfl (fun h => by cases h) (fun w hA => r_pick_f rfl (v := .bool _) rfl) ?_
            refine D_take 49 rfl (by kernel_rfl) (by rintro _ _ _ ⟨h, _⟩; cases h) rfl (fun h => by cases h) (fun w hA => r_assign (v := .bool _) rfl) ?_
            refine D_done (by kernel_rfl) ?_
            refine W_ret ?_
            refine ⟨rfl, ?_⟩
            refine ret1 Try.results18 (v := .bool _) rfl ?_
            refine ⟨?_, hA⟩
            show Value.bool _ = .bool (goodP H.x)
            unfold goodP
            rw [decide_eq_true (show 1 ≤ H.x.kind from by show 1 ≤ H.kind; omega)]
            rw [decide_eq_true (show H.x.kind ≤ 8 from by show H.kind ≤ 8; omega)]
            rw [decide_eq_true (show 0 ≤ H.x.frm from by show 0 ≤ H.frm; omega)]
            rw [decide_eq_true (show H.x.frm ≤ 64 from by show H.frm ≤ 64; omega)]
            rw [show (wardenP H.x == (H.x.frm == 0)) = false from q42]; simp
        · -- False
          have q31 := of_decide_eq_false h
          refine D_take 29 rfl (by kernel_rfl) (by rintro _ _ _ ⟨h, _⟩; cases h) rfl (fun h => by cases h) (fun w hA => r_pick_t rfl (v := .bool _) rfl) ?_
          refine D_take 30 rfl (by kernel_rfl) (by rintro _ _ _ ⟨h, _⟩; cases h) rfl (fun h => by cases h) (fun w hA => r_move (v := .bool _) rfl) ?_
          refine D_take_no 31 rfl (by kernel_rfl) (by rintro _ _ _ ⟨h, _⟩; cases h) rfl (fun h => by cases h) rfl rfl rfl rfl ?_
          refine D_take_no 32 rfl (by kernel_rfl) (by rintro _ _ _ ⟨h, _⟩; cases h) rfl (fun h => by cases h) rfl rfl rfl rfl ?_
          refine D_take_no 33 rfl (by kernel_rfl) (by rintro _ _ _ ⟨h, _⟩; cases h) rfl (fun h => by cases h) rfl rfl rfl rfl ?_
          refine D_take_no 34 rfl (by kernel_rfl) (by rintro _ _ _ ⟨h, _⟩; cases h) rfl (fun h => by cases h) rfl rfl rfl rfl ?_
          refine D_take_no 35 rfl (by kernel_rfl) (by rintro _ _ _ ⟨h, _⟩; cases h) rfl (fun h => by cases h) rfl rfl rfl rfl ?_
          refine D_take_no 36 rfl (by kernel_rfl) (by rintro _ _ _ ⟨h, _⟩; cases h) rfl (fun h => by cases h) rfl rfl rfl rfl ?_
          refine D_take_no 37 rfl (by kernel_rfl) (by rintro _ _ _ ⟨h, _⟩; cases h) rfl (fun _ => hA) rfl rfl rfl rfl ?_
          refine D_take_no 38 rfl (by kernel_rfl) (by rintro _ _ _ ⟨h, _⟩; cases h) rfl (fun h => by cases h) rfl rfl rfl rfl ?_
          refine D_take_no 39 rfl (by kernel_rfl) (by rintro _ _ _ ⟨h, _⟩; cases h) rfl (fun h => by cases h) rfl rfl rfl rfl ?_
          refine D_take 40 rfl (by kernel_rfl) (by rintro _ _ _ ⟨h, _⟩; cases h) rfl (fun h => by cases h) (fun w hA => r_pick_f rfl (v := .bool _) rfl) ?_
          refine D_take 41 rfl (by kernel_rfl) (by rintro _ _ _ ⟨h, _⟩; cases h) rfl (fun h => by cases h) (fun w hA => r_move (v := .bool _) rfl) ?_
          refine D_take_no 42 rfl (by kernel_rfl) (by rintro _ _ _ ⟨h, _⟩; cases h) rfl (fun h => by cases h) rfl rfl rfl rfl ?_
          refine D_take_no 43 rfl (by kernel_rfl) (by rintro _ _ _ ⟨h, _⟩; cases h) rfl (fun h => by cases h) rfl rfl rfl rfl ?_
          refine D_take 44 rfl (by kernel_rfl) (by rintro _ _ _ ⟨h, _⟩; cases h) rfl (fun h => by cases h) (fun w hA => r_pick_f rfl (v := .bool _) rfl) ?_
          refine D_take 45 rfl (by kernel_rfl) (by rintro _ _ _ ⟨h, _⟩; cases h) rfl (fun h => by cases h) (fun w hA => r_move (v := .bool _) rfl) ?_
          refine D_take_no 46 rfl (by kernel_rfl) (by rintro _ _ _ ⟨h, _⟩; cases h) rfl (fun h => by cases h) rfl rfl rfl rfl ?_
          refine D_take_no 47 rfl (by kernel_rfl) (by rintro _ _ _ ⟨h, _⟩; cases h) rfl (fun h => by cases h) rfl rfl rfl rfl ?_
          refine D_take 48 rfl (by kernel_rfl) (by rintro _ _ _ ⟨h, _⟩; cases h) rfl (fun h => by cases h) (fun w hA => r_pick_f rfl (v := .bool _) rfl) ?_
          refine D_take 49 rfl (by kernel_rfl) (by rintro _ _ _ ⟨h, _⟩; cases h) rfl (fun h => by cases h) (fun w hA => r_assign (v := .bool _) rfl) ?_
          refine D_done (by kernel_rfl) ?_
          refine W_ret ?_
          refine ⟨rfl, ?_⟩
          refine ret1 Try.results18 (v := .bool _) rfl ?_
          refine ⟨?_, hA⟩
          show Value.bool _ = .bool (goodP H.x)
          unfold goodP
          rw [decide_eq_true (show 1 ≤ H.x.kind from by show 1 ≤ H.kind; omega)]
          rw [decide_eq_true (show H.x.kind ≤ 8 from by show H.kind ≤ 8; omega)]
          rw [decide_eq_true (show 0 ≤ H.x.frm from by show 0 ≤ H.frm; omega)]
          rw [decide_eq_false (show ¬ H.x.frm ≤ 64 from by show ¬ H.frm ≤ 64; omega)]; simp
      · -- False
        have q23 := of_decide_eq_false h
        refine D_take 21 rfl (by kernel_rfl) (by rintro _ _ _ ⟨h, _⟩; cases h) rfl (fun h => by cases h) (fun w hA => r_pick_t rfl (v := .bool _) rfl) ?_
        refine D_take 22 rfl (by kernel_rfl) (by rintro _ _ _ ⟨h, _⟩; cases h) rfl (fun h => by cases h) (fun w hA => r_move (v := .bool _) rfl) ?_
        refine D_take_no 23 rfl (by kernel_rfl) (by rintro _ _ _ ⟨h, _⟩; cases h) rfl (fun h => by cases h) rfl rfl rfl rfl ?_
        refine D_take_no 24 rfl (by kernel_rfl) (by rintro _ _ _ ⟨h, _⟩; cases h) rfl (fun h => by cases h) rfl rfl rfl rfl ?_
        refine D_take_no 25 rfl (by kernel_rfl) (by rintro _ _ _ ⟨h, _⟩; cases h) rfl (fun h => by cases h) rfl rfl rfl rfl ?_
        refine D_take_no 26 rfl (by kernel_rfl) (by rintro _ _ _ ⟨h, _⟩; cases h) rfl (fun h => by cases h) rfl rfl rfl rfl ?_
        refine D_take_no 27 rfl (by kernel_rfl) (by rintro _ _ _ ⟨h, _⟩; cases h) rfl (fun _ => hA) rfl rfl rfl rfl ?_
        refine D_take_no 28 rfl (by kernel_rfl) (by rintro _ _ _ ⟨h, _⟩; cases h) rfl (fun h => by cases h) rfl rfl rfl rfl ?_
        refine D_take 29 rfl (by kernel_rfl) (by rintro _ _ _ ⟨h, _⟩; cases h) rfl (fun h => by cases h) (fun w hA => r_pick_f rfl (v := .bool _) rfl) ?_
        refine D_take 30 rfl (by kernel_rfl) (by rintro _ _ _ ⟨h, _⟩; cases h) rfl (fun h => by cases h) (fun w hA => r_move (v := .bool _) rfl) ?_
        refine D_take_no 31 rfl (by kernel_rfl) (by rintro _ _ _ ⟨h, _⟩; cases h) rfl (fun h => by cases h) rfl rfl rfl rfl ?_
        refine D_take_no 32 rfl (by kernel_rfl) (by rintro _ _ _ ⟨h, _⟩; cases h) rfl (fun h => by cases h) rfl rfl rfl rfl ?_
        refine D_take_no 33 rfl (by kernel_rfl) (by rintro _ _ _ ⟨h, _⟩; cases h) rfl (fun h => by cases h) rfl rfl rfl rfl ?_
        refine D_take_no 34 rfl (by kernel_rfl) (by rintro _ _ _ ⟨h, _⟩; cases h) rfl (fun h => by cases h) rfl rfl rfl rfl ?_
        refine D_take_no 35 rfl (by kernel_rfl) (by rintro _ _ _ ⟨h, _⟩; cases h) rfl (fun h => by cases h) rfl rfl rfl rfl ?_
        refine D_take_no 36 rfl (by kernel_rfl) (by rintro _ _ _ ⟨h, _⟩; cases h) rfl (fun h => by cases h) rfl rfl rfl rfl ?_
        refine D_take_no 37 rfl (by kernel_rfl) (by rintro _ _ _ ⟨h, _⟩; cases h) rfl (fun _ => hA) rfl rfl rfl rfl ?_
        refine D_take_no 38 rfl (by kernel_rfl) (by rintro _ _ _ ⟨h, _⟩; cases h) rfl (fun h => by cases h) rfl rfl rfl rfl ?_
        refine D_take_no 39 rfl (by kernel_rfl) (by rintro _ _ _ ⟨h, _⟩; cases h) rfl (fun h => by cases h) rfl rfl rfl rfl ?_
        refine D_take 40 rfl (by kernel_rfl) (by rintro _ _ _ ⟨h, _⟩; cases h) rfl (fun h => by cases h) (fun w hA => r_pick_f rfl (v := .bool _) rfl) ?_
        refine D_take 41 rfl (by kernel_rfl) (by rintro _ _ _ ⟨h, _⟩; cases h) rfl (fun h => by cases h) (fun w hA => r_move (v := .bool _) rfl) ?_
        refine D_take_no 42 rfl (by kernel_rfl) (by rintro _ _ _ ⟨h, _⟩; cases h) rfl (fun h => by cases h) rfl rfl rfl rfl ?_
        refine D_take_no 43 rfl (by kernel_rfl) (by rintro _ _ _ ⟨h, _⟩; cases h) rfl (fun h => by cases h) rfl rfl rfl rfl ?_
        refine D_take 44 rfl (by kernel_rfl) (by rintro _ _ _ ⟨h, _⟩; cases h) rfl (fun h => by cases h) (fun w hA => r_pick_f rfl (v := .bool _) rfl) ?_
        refine D_take 45 rfl (by kernel_rfl) (by rintro _ _ _ ⟨h, _⟩; cases h) rfl (fun h => by cases h) (fun w hA => r_move (v := .bool _) rfl) ?_
        refine D_take_no 46 rfl (by kernel_rfl) (by rintro _ _ _ ⟨h, _⟩; cases h) rfl (fun h => by cases h) rfl rfl rfl rfl ?_
        refine D_take_no 47 rfl (by kernel_rfl) (by rintro _ _ _ ⟨h, _⟩; cases h) rfl (fun h => by cases h) rfl rfl rfl rfl ?_
        refine D_take 48 rfl (by kernel_rfl) (by rintro _ _ _ ⟨h, _⟩; cases h) rfl (fun h => by cases h) (fun w hA => r_pick_f rfl (v := .bool _) rfl) ?_
        refine D_take 49 rfl (by kernel_rfl) (by rintro _ _ _ ⟨h, _⟩; cases h) rfl (fun h => by cases h) (fun w hA => r_assign (v := .bool _) rfl) ?_
        refine D_done (by kernel_rfl) ?_
        refine W_ret ?_
        refine ⟨rfl, ?_⟩
        refine ret1 Try.results18 (v := .bool _) rfl ?_
        refine ⟨?_, hA⟩
        show Value.bool _ = .bool (goodP H.x)
        unfold goodP
        rw [decide_eq_true (show 1 ≤ H.x.kind from by show 1 ≤ H.kind; omega)]
        rw [decide_eq_true (show H.x.kind ≤ 8 from by show H.kind ≤ 8; omega)]
        rw [decide_eq_false (show ¬ 0 ≤ H.x.frm from by show ¬ 0 ≤ H.frm; omega)]; simp
    · -- False
      have q15 := of_decide_eq_false h
      refine D_take 13 rfl (by kernel_rfl) (by rintro _ _ _ ⟨h, _⟩; cases h) rfl (fun h => by cases h) (fun w hA => r_pick_t rfl (v := .bool _) rfl) ?_
      refine D_take 14 rfl (by kernel_rfl) (by rintro _ _ _ ⟨h, _⟩; cases h) rfl (fun h => by cases h) (fun w hA => r_move (v := .bool _) rfl) ?_
      refine D_take_no 15 rfl (by kernel_rfl) (by rintro _ _ _ ⟨h, _⟩; cases h) rfl (fun h => by cases h) rfl rfl rfl rfl ?_
      refine D_take_no 16 rfl (by kernel_rfl) (by rintro _ _ _ ⟨h, _⟩; cases h) rfl (fun h => by cases h) rfl rfl rfl rfl ?_
      refine D_take_no 17 rfl (by kernel_rfl) (by rintro _ _ _ ⟨h, _⟩; cases h) rfl (fun h => by cases h) rfl rfl rfl rfl ?_
      refine D_take_no 18 rfl (by kernel_rfl) (by rintro _ _ _ ⟨h, _⟩; cases h) rfl (fun h => by cases h) rfl rfl rfl rfl ?_
      refine D_take_no 19 rfl (by kernel_rfl) (by rintro _ _ _ ⟨h, _⟩; cases h) rfl (fun _ => hA) rfl rfl rfl rfl ?_
      refine D_take_no 20 rfl (by kernel_rfl) (by rintro _ _ _ ⟨h, _⟩; cases h) rfl (fun h => by cases h) rfl rfl rfl rfl ?_
      refine D_take 21 rfl (by kernel_rfl) (by rintro _ _ _ ⟨h, _⟩; cases h) rfl (fun h => by cases h) (fun w hA => r_pick_f rfl (v := .bool _) rfl) ?_
      refine D_take 22 rfl (by kernel_rfl) (by rintro _ _ _ ⟨h, _⟩; cases h) rfl (fun h => by cases h) (fun w hA => r_move (v := .bool _) rfl) ?_
      refine D_take_no 23 rfl (by kernel_rfl) (by rintro _ _ _ ⟨h, _⟩; cases h) rfl (fun h => by cases h) rfl rfl rfl rfl ?_
      refine D_take_no 24 rfl (by kernel_rfl) (by rintro _ _ _ ⟨h, _⟩; cases h) rfl (fun h => by cases h) rfl rfl rfl rfl ?_
      refine D_take_no 25 rfl (by kernel_rfl) (by rintro _ _ _ ⟨h, _⟩; cases h) rfl (fun h => by cases h) rfl rfl rfl rfl ?_
      refine D_take_no 26 rfl (by kernel_rfl) (by rintro _ _ _ ⟨h, _⟩; cases h) rfl (fun h => by cases h) rfl rfl rfl rfl ?_
      refine D_take_no 27 rfl (by kernel_rfl) (by rintro _ _ _ ⟨h, _⟩; cases h) rfl (fun _ => hA) rfl rfl rfl rfl ?_
      refine D_take_no 28 rfl (by kernel_rfl) (by rintro _ _ _ ⟨h, _⟩; cases h) rfl (fun h => by cases h) rfl rfl rfl rfl ?_
      refine D_take 29 rfl (by kernel_rfl) (by rintro _ _ _ ⟨h, _⟩; cases h) rfl (fun h => by cases h) (fun w hA => r_pick_f rfl (v := .bool _) rfl) ?_
      refine D_take 30 rfl (by kernel_rfl) (by rintro _ _ _ ⟨h, _⟩; cases h) rfl (fun h => by cases h) (fun w hA => r_move (v := .bool _) rfl) ?_
      refine D_take_no 31 rfl (by kernel_rfl) (by rintro _ _ _ ⟨h, _⟩; cases h) rfl (fun h => by cases h) rfl rfl rfl rfl ?_
      refine D_take_no 32 rfl (by kernel_rfl) (by rintro _ _ _ ⟨h, _⟩; cases h) rfl (fun h => by cases h) rfl rfl rfl rfl ?_
      refine D_take_no 33 rfl (by kernel_rfl) (by rintro _ _ _ ⟨h, _⟩; cases h) rfl (fun h => by cases h) rfl rfl rfl rfl ?_
      refine D_take_no 34 rfl (by kernel_rfl) (by rintro _ _ _ ⟨h, _⟩; cases h) rfl (fun h => by cases h) rfl rfl rfl rfl ?_
      refine D_take_no 35 rfl (by kernel_rfl) (by rintro _ _ _ ⟨h, _⟩; cases h) rfl (fun h => by cases h) rfl rfl rfl rfl ?_
      refine D_take_no 36 rfl (by kernel_rfl) (by rintro _ _ _ ⟨h, _⟩; cases h) rfl (fun h => by cases h) rfl rfl rfl rfl ?_
      refine D_take_no 37 rfl (by kernel_rfl) (by rintro _ _ _ ⟨h, _⟩; cases h) rfl (fun _ => hA) rfl rfl rfl rfl ?_
      refine D_take_no 38 rfl (by kernel_rfl) (by rintro _ _ _ ⟨h, _⟩; cases h) rfl (fun h => by cases h) rfl rfl rfl rfl ?_
      refine D_take_no 39 rfl (by kernel_rfl) (by rintro _ _ _ ⟨h, _⟩; cases h) rfl (fun h => by cases h) rfl rfl rfl rfl ?_
      refine D_take 40 rfl (by kernel_rfl) (by rintro _ _ _ ⟨h, _⟩; cases h) rfl (fun h => by cases h) (fun w hA => r_pick_f rfl (v := .bool _) rfl) ?_
      refine D_take 41 rfl (by kernel_rfl) (by rintro _ _ _ ⟨h, _⟩; cases h) rfl (fun h => by cases h) (fun w hA => r_move (v := .bool _) rfl) ?_
      refine D_take_no 42 rfl (by kernel_rfl) (by rintro _ _ _ ⟨h, _⟩; cases h) rfl (fun h => by cases h) rfl rfl rfl rfl ?_
      refine D_take_no 43 rfl (by kernel_rfl) (by rintro _ _ _ ⟨h, _⟩; cases h) rfl (fun h => by cases h) rfl rfl rfl rfl ?_
      refine D_take 44 rfl (by kernel_rfl) (by rintro _ _ _ ⟨h, _⟩; cases h) rfl (fun h => by cases h) (fun w hA => r_pick_f rfl (v := .bool _) rfl) ?_
      refine D_take 45 rfl (by kernel_rfl) (by rintro _ _ _ ⟨h, _⟩; cases h) rfl (fun h => by cases h) (fun w hA => r_move (v := .bool _) rfl) ?_
      refine D_take_no 46 rfl (by kernel_rfl) (by rintro _ _ _ ⟨h, _⟩; cases h) rfl (fun h => by cases h) rfl rfl rfl rfl ?_
      refine D_take_no 47 rfl (by kernel_rfl) (by rintro _ _ _ ⟨h, _⟩; cases h) rfl (fun h => by cases h) rfl rfl rfl rfl ?_
      refine D_take 48 rfl (by kernel_rfl) (by rintro _ _ _ ⟨h, _⟩; cases h) rfl (fun h => by cases h) (fun w hA => r_pick_f rfl (v := .bool _) rfl) ?_
      refine D_take 49 rfl (by kernel_rfl) (by rintro _ _ _ ⟨h, _⟩; cases h) rfl (fun h => by cases h) (fun w hA => r_assign (v := .bool _) rfl) ?_
      refine D_done (by kernel_rfl) ?_
      refine W_ret ?_
      refine ⟨rfl, ?_⟩
      refine ret1 Try.results18 (v := .bool _) rfl ?_
      refine ⟨?_, hA⟩
      show Value.bool _ = .bool (goodP H.x)
      unfold goodP
      rw [decide_eq_true (show 1 ≤ H.x.kind from by show 1 ≤ H.kind; omega)]
      rw [decide_eq_false (show ¬ H.x.kind ≤ 8 from by show ¬ H.kind ≤ 8; omega)]; simp
  · -- False
    have q8 := of_decide_eq_false h
    refine D_take 6 rfl (by kernel_rfl) (by rintro _ _ _ ⟨h, _⟩; cases h) rfl (fun h => by cases h) (fun w hA => r_move (v := .bool _) rfl) ?_
    refine D_take_no 7 rfl (by kernel_rfl) (by rintro _ _ _ ⟨h, _⟩; cases h) rfl (fun h => by cases h) rfl rfl rfl rfl ?_
    refine D_take_no 8 rfl (by kernel_rfl) (by rintro _ _ _ ⟨h, _⟩; cases h) rfl (fun h => by cases h) rfl rfl rfl rfl ?_
    refine D_take_no 9 rfl (by kernel_rfl) (by rintro _ _ _ ⟨h, _⟩; cases h) rfl (fun h => by cases h) rfl rfl rfl rfl ?_
    refine D_take_no 10 rfl (by kernel_rfl) (by rintro _ _ _ ⟨h, _⟩; cases h) rfl (fun h => by cases h) rfl rfl rfl rfl ?_
    refine D_take_no 11 rfl (by kernel_rfl) (by rintro _ _ _ ⟨h, _⟩; cases h) rfl (fun _ => hA) rfl rfl rfl rfl ?_
    refine D_take_no 12 rfl (by kernel_rfl) (by rintro _ _ _ ⟨h, _⟩; cases h) rfl (fun h => by cases h) rfl rfl rfl rfl ?_
    refine D_take 13 rfl (by kernel_rfl) (by rintro _ _ _ ⟨h, _⟩; cases h) rfl (fun h => by cases h) (fun w hA => r_pick_f rfl (v := .bool _) rfl) ?_
    refine D_take 14 rfl (by kernel_rfl) (by rintro _ _ _ ⟨h, _⟩; cases h) rfl (fun h => by cases h) (fun w hA => r_move (v := .bool _) rfl) ?_
    refine D_take_no 15 rfl (by kernel_rfl) (by rintro _ _ _ ⟨h, _⟩; cases h) rfl (fun h => by cases h) rfl rfl rfl rfl ?_
    refine D_take_no 16 rfl (by kernel_rfl) (by rintro _ _ _ ⟨h, _⟩; cases h) rfl (fun h => by cases h) rfl rfl rfl rfl ?_
    refine D_take_no 17 rfl (by kernel_rfl) (by rintro _ _ _ ⟨h, _⟩; cases h) rfl (fun h => by cases h) rfl rfl rfl rfl ?_
    refine D_take_no 18 rfl (by kernel_rfl) (by rintro _ _ _ ⟨h, _⟩; cases h) rfl (fun h => by cases h) rfl rfl rfl rfl ?_
    refine D_take_no 19 rfl (by kernel_rfl) (by rintro _ _ _ ⟨h, _⟩; cases h) rfl (fun _ => hA) rfl rfl rfl rfl ?_
    refine D_take_no 20 rfl (by kernel_rfl) (by rintro _ _ _ ⟨h, _⟩; cases h) rfl (fun h => by cases h) rfl rfl rfl rfl ?_
    refine D_take 21 rfl (by kernel_rfl) (by rintro _ _ _ ⟨h, _⟩; cases h) rfl (fun h => by cases h) (fun w hA => r_pick_f rfl (v := .bool _) rfl) ?_
    refine D_take 22 rfl (by kernel_rfl) (by rintro _ _ _ ⟨h, _⟩; cases h) rfl (fun h => by cases h) (fun w hA => r_move (v := .bool _) rfl) ?_
    refine D_take_no 23 rfl (by kernel_rfl) (by rintro _ _ _ ⟨h, _⟩; cases h) rfl (fun h => by cases h) rfl rfl rfl rfl ?_
    refine D_take_no 24 rfl (by kernel_rfl) (by rintro _ _ _ ⟨h, _⟩; cases h) rfl (fun h => by cases h) rfl rfl rfl rfl ?_
    refine D_take_no 25 rfl (by kernel_rfl) (by rintro _ _ _ ⟨h, _⟩; cases h) rfl (fun h => by cases h) rfl rfl rfl rfl ?_
    refine D_take_no 26 rfl (by kernel_rfl) (by rintro _ _ _ ⟨h, _⟩; cases h) rfl (fun h => by cases h) rfl rfl rfl rfl ?_
    refine D_take_no 27 rfl (by kernel_rfl) (by rintro _ _ _ ⟨h, _⟩; cases h) rfl (fun _ => hA) rfl rfl rfl rfl ?_
    refine D_take_no 28 rfl (by kernel_rfl) (by rintro _ _ _ ⟨h, _⟩; cases h) rfl (fun h => by cases h) rfl rfl rfl rfl ?_
    refine D_take 29 rfl (by kernel_rfl) (by rintro _ _ _ ⟨h, _⟩; cases h) rfl (fun h => by cases h) (fun w hA => r_pick_f rfl (v := .bool _) rfl) ?_
    refine D_take 30 rfl (by kernel_rfl) (by rintro _ _ _ ⟨h, _⟩; cases h) rfl (fun h => by cases h) (fun w hA => r_move (v := .bool _) rfl) ?_
    refine D_take_no 31 rfl (by kernel_rfl) (by rintro _ _ _ ⟨h, _⟩; cases h) rfl (fun h => by cases h) rfl rfl rfl rfl ?_
    refine D_take_no 32 rfl (by kernel_rfl) (by rintro _ _ _ ⟨h, _⟩; cases h) rfl (fun h => by cases h) rfl rfl rfl rfl ?_
    refine D_take_no 33 rfl (by kernel_rfl) (by rintro _ _ _ ⟨h, _⟩; cases h) rfl (fun h => by cases h) rfl rfl rfl rfl ?_
    refine D_take_no 34 rfl (by kernel_rfl) (by rintro _ _ _ ⟨h, _⟩; cases h) rfl (fun h => by cases h) rfl rfl rfl rfl ?_
    refine D_take_no 35 rfl (by kernel_rfl) (by rintro _ _ _ ⟨h, _⟩; cases h) rfl (fun h => by cases h) rfl rfl rfl rfl ?_
    refine D_take_no 36 rfl (by kernel_rfl) (by rintro _ _ _ ⟨h, _⟩; cases h) rfl (fun h => by cases h) rfl rfl rfl rfl ?_
    refine D_take_no 37 rfl (by kernel_rfl) (by rintro _ _ _ ⟨h, _⟩; cases h) rfl (fun _ => hA) rfl rfl rfl rfl ?_
    refine D_take_no 38 rfl (by kernel_rfl) (by rintro _ _ _ ⟨h, _⟩; cases h) rfl (fun h => by cases h) rfl rfl rfl rfl ?_
    refine D_take_no 39 rfl (by kernel_rfl) (by rintro _ _ _ ⟨h, _⟩; cases h) rfl (fun h => by cases h) rfl rfl rfl rfl ?_
    refine D_take 40 rfl (by kernel_rfl) (by rintro _ _ _ ⟨h, _⟩; cases h) rfl (fun h => by cases h) (fun w hA => r_pick_f rfl (v := .bool _) rfl) ?_
    refine D_take 41 rfl (by kernel_rfl) (by rintro _ _ _ ⟨h, _⟩; cases h) rfl (fun h => by cases h) (fun w hA => r_move (v := .bool _) rfl) ?_
    refine D_take_no 42 rfl (by kernel_rfl) (by rintro _ _ _ ⟨h, _⟩; cases h) rfl (fun h => by cases h) rfl rfl rfl rfl ?_
    refine D_take_no 43 rfl (by kernel_rfl) (by rintro _ _ _ ⟨h, _⟩; cases h) rfl (fun h => by cases h) rfl rfl rfl rfl ?_
    refine D_take 44 rfl (by kernel_rfl) (by rintro _ _ _ ⟨h, _⟩; cases h) rfl (fun h => by cases h) (fun w hA => r_pick_f rfl (v := .bool _) rfl) ?_
    refine D_take 45 rfl (by kernel_rfl) (by rintro _ _ _ ⟨h, _⟩; cases h) rfl (fun h => by cases h) (fun w hA => r_move (v := .bool _) rfl) ?_
    refine D_take_no 46 rfl (by kernel_rfl) (by rintro _ _ _ ⟨h, _⟩; cases h) rfl (fun h => by cases h) rfl rfl rfl rfl ?_
    refine D_take_no 47 rfl (by kernel_rfl) (by rintro _ _ _ ⟨h, _⟩; cases h) rfl (fun h => by cases h) rfl rfl rfl rfl ?_
    refine D_take 48 rfl (by kernel_rfl) (by rintro _ _ _ ⟨h, _⟩; cases h) rfl (fun h => by cases h) (fun w hA => r_pick_f rfl (v := .bool _) rfl) ?_
    refine D_take 49 rfl (by kernel_rfl) (by rintro _ _ _ ⟨h, _⟩; cases h) rfl (fun h => by cases h) (fun w hA => r_assign (v := .bool _) rfl) ?_
    refine D_done (by kernel_rfl) ?_
    refine W_ret ?_
    refine ⟨rfl, ?_⟩
    refine ret1 Try.results18 (v := .bool _) rfl ?_
    refine ⟨?_, hA⟩
    show Value.bool _ = .bool (goodP H.x)
    unfold goodP
    rw [decide_eq_false (show ¬ 1 ≤ H.x.kind from by show ¬ 1 ≤ H.kind; omega)]; simp

theorem At.word {w0 w : World} {M : Nat → Prop} {F : List Ch} (hA : At w0 M F w) (i : Nat) {b : Nat} {T : TypeId} {h : WH} (hi : F[i]? = some (Cell b T (wdc h))) : WordAt w b h := fun j v hj => hA.c i hi hj

theorem w_Good {w : World} {H : WH} (hR : RdW w H) (hl : H.cs.length ≤ 9223372036854775807 ∧ H.ps.length ≤ 9223372036854775807 ∧ H.vs.length ≤ 9223372036854775807 ∧ H.ws.length ≤ 9223372036854775807 ∧ H.os.length ≤ 9223372036854775807) : Calls Try.prog 10 #[.agg (wdc H).toArray] w fun e w' => ∃ v, e = .returned v ∧ (v = .bool (goodP H.x) ∧ At w No [] w') := by
  refine body_in (n := 7) (l := [.agg (wdc H).toArray]) en10 rfl Try.ntmps10 rfl ?_
  have hA := At.refl w
  refine W_seq ?_
  refine W_reg ?_ -- 0 words.go:94
  refine o_box hA (by conv => lhs; whnf) rfl (fun b1 w1 hA => ?_)
  refine o_assign (v := .bool _) rfl ?_
  refine O_end ?_
  refine W_seq ?_
  refine W_reg ?_ -- 1 words.go:94
  refine o_loadN ag29 ti29 rfl rfl (hA.cs (i := 0) (o := 0) (s := 8) (ds := [_, _, _, _, _, _, _, _]) rfl rfl) ?_
  refine o_build la46 rfl rfl ?_
  refine o_box hA (by conv => lhs; whnf) rfl (fun b2 w2 hA => ?_)
  refine O_calls en18 rfl (w_good (hA.word 0 rfl) (hR.old hA) hl) (fun v3 w3 hC => ?_)
  obtain ⟨rfl, hC⟩ := hC
  have hA := (hA.after hC).tail 0
  refine o_assign (v := .bool _) rfl ?_
  refine O_end ?_
  refine W_ret ?_
  refine ⟨rfl, ?_⟩
  refine ret1 Try.results10 (v := .bool _) rfl ?_
  exact ⟨rfl, hA.clear⟩

end Go.Proofs.Ytbcaooiphalkoaa
