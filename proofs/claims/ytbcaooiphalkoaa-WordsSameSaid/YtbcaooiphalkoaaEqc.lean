/-
  offertoryref14: Same.
-/
import Derived.Test.YtbcaooiphalkoaaEqb
set_option linter.unusedVariables false
set_option linter.unusedSimpArgs false
namespace Go.Proofs.Ytbcaooiphalkoaa
open Go Go.RowKit

theorem ba_inj {l m : List UInt8} (h : (⟨l.toArray⟩ : ByteArray) = ⟨m.toArray⟩) : l = m := by
  injection h with h1
  injection h1

theorem q_Same {w : World} {H K : WH} (hR : RdW w H) (hS : RdW w K) (hl : Small H) (hk : Small K) : Calls Try.prog 16 #[.agg (wdc H).toArray, .agg (wdc K).toArray] w fun e w' => ∃ v, e = .returned v ∧ ∃ t : Bool, v = .bool t ∧ (t = true ↔ H.x = K.x) ∧ At w No [] w' := by
  obtain ⟨kind, frm, why, cs, ps, vs, ws, os, ⟨CA, Cm, Cc⟩, ⟨PA, Pm, Pc⟩, ⟨VA, Vm, Vc⟩, ⟨NA, Nm, Nc⟩, ⟨OA, Om, Oc⟩⟩ := H
  obtain ⟨hc, hp, hpd, hv, hn, ho, hod⟩ := hR
  obtain ⟨lc, lp, lv, ln, lo, lpd, lod⟩ := hl
  dsimp only at hc hp hpd hv hn ho hod lc lp lv ln lo lpd lod
  obtain rfl := hc.lenf (fun _ => rfl) (by decide)
  obtain rfl := hp.lenf (fun _ => rfl) (by decide)
  obtain rfl := hv.lenp
  obtain rfl := hn.lenp
  obtain rfl := ho.lenf (fun _ => rfl) (by decide)
  obtain ⟨kind', frm', why', cs', ps', vs', ws', os', ⟨CA', Cm', Cc'⟩, ⟨PA', Pm', Pc'⟩, ⟨VA', Vm', Vc'⟩, ⟨NA', Nm', Nc'⟩, ⟨OA', Om', Oc'⟩⟩ := K
  obtain ⟨hc', hp', hpd', hv', hn', ho', hod'⟩ := hS
  obtain ⟨lc', lp', lv', ln', lo', lpd', lod'⟩ := hk
  dsimp only at hc' hp' hpd' hv' hn' ho' hod' lc' lp' lv' ln' lo' lpd' lod'
  obtain rfl := hc'.lenf (fun _ => rfl) (by decide)
  obtain rfl := hp'.lenf (fun _ => rfl) (by decide)
  obtain rfl := hv'.lenp
  obtain rfl := hn'.lenp
  obtain rfl := ho'.lenf (fun _ => rfl) (by decide)
  refine body_in (n := 167) (l := [.agg #[.int .i64 kind, .int .i64 frm, .int .i64 why, .slice CA cs.length Cc, .slice PA ps.length Pc, .slice VA vs.length Vc, .slice NA ws.length Nc, .slice OA os.length Oc], .agg #[.int .i64 kind', .int .i64 frm', .int .i64 why', .slice CA' cs'.length Cc', .slice PA' ps'.length Pc', .slice VA' vs'.length Vc', .slice NA' ws'.length Nc', .slice OA' os'.length Oc']]) en16 rfl Try.ntmps16 rfl ?_
  have hA := At.refl w
  have hhd : Wd.mk kind frm why cs (ps.map (·.1)) vs ws (os.map (·.1)) = Wd.mk kind' frm' why' cs' (ps'.map (·.1)) vs' ws' (os'.map (·.1)) → (kind = kind' ∧ frm = frm' ∧ why = why' ∧ cs.length = cs'.length ∧ ps.length = ps'.length ∧ os.length = os'.length ∧ ws = ws' ∧ vs = vs') := fun h => by
    injection h with h1 h2 h3 h4 h5 h6 h7 h8
    refine ⟨h1, h2, h3, by rw [h4], ?_, ?_, h7, h6⟩
    · have h9 := congrArg List.length h5
      rw [List.length_map, List.length_map] at h9; exact h9
    · have h9 := congrArg List.length h8
      rw [List.length_map, List.length_map] at h9; exact h9
  refine W_seq ?_
  refine W_reg ?_ -- 0 ref.go:178
  refine o_box hA (by conv => lhs; whnf) rfl (fun b1 w1 hA => ?_)
  refine o_box hA (by conv => lhs; whnf) rfl (fun b2 w2 hA => ?_)
  refine o_assign (v := .bool _) rfl ?_
  refine O_end ?_
  refine W_seq ?_
  refine W_seq ?_
  refine W_cut (fun ρ w' => ρ 2 = .pointer (some ⟨b1, 0, none⟩) ∧ ρ 3 = .pointer (some ⟨b2, 0, none⟩) ∧ (∃ d : Bool, ρ 73 = .bool d ∧ (d = false ↔ (kind = kind' ∧ frm = frm' ∧ why = why' ∧ cs.length = cs'.length ∧ ps.length = ps'.length ∧ os.length = os'.length ∧ ws = ws' ∧ vs = vs'))) ∧ At w No [Cell b2 29 [.int .i64 kind', .int .i64 frm', .int .i64 why', .slice CA' cs'.length Cc', .slice PA' ps'.length Pc', .slice VA' vs'.length Vc', .slice NA' ws'.length Nc', .slice OA' os'.length Oc'], Cell b1 29 [.int .i64 kind, .int .i64 frm, .int .i64 why, .slice CA cs.length Cc, .slice PA ps.length Pc, .slice VA vs.length Vc, .slice NA ws.length Nc, .slice OA os.length Oc]] w') ?_ ?_
  · -- up to the cut
    refine W_reg ?_ -- 1 ref.go:179
    refine o_fieldAddr fo29_0 rfl rfl ?_
    refine o_load1 ag3 rfl (hA.c 1 rfl rfl) ?_
    refine o_fieldAddr fo29_0 rfl rfl ?_
    refine o_load1 ag3 rfl (hA.c 0 rfl rfl) ?_
    refine o_cmp2 rfl rfl rfl (fun h => ?_) (fun h => ?_)
    · -- True
      have q16 := bne_iff_ne.1 h
      refine o_move (v := .bool _) rfl ?_
      refine O_no rfl rfl rfl rfl ?_
      refine O_no rfl rfl rfl rfl ?_
      refine O_no rfl rfl rfl rfl ?_
      refine O_no rfl rfl rfl rfl ?_
      refine O_no rfl rfl rfl rfl ?_
      refine o_pick_t rfl (v := .bool _) rfl ?_
      refine o_move (v := .bool _) rfl ?_
      refine O_no rfl rfl rfl rfl ?_
      refine O_no rfl rfl rfl rfl ?_
      refine O_no rfl rfl rfl rfl ?_
      refine O_no rfl rfl rfl rfl ?_
      refine O_no rfl rfl rfl rfl ?_
      refine o_pick_t rfl (v := .bool _) rfl ?_
      refine o_move (v := .bool _) rfl ?_
      refine O_no rfl rfl rfl rfl ?_
      refine O_no rfl rfl rfl rfl ?_
      refine O_no rfl rfl rfl rfl ?_
      refine O_no rfl rfl rfl rfl ?_
      refine O_no rfl rfl rfl rfl ?_
      refine O_no rfl rfl rfl rfl ?_
      refine O_no rfl rfl rfl rfl ?_
      refine o_pick_t rfl (v := .bool _) rfl ?_
      refine o_move (v := .bool _) rfl ?_
      refine O_no rfl rfl rfl rfl ?_
      refine O_no rfl rfl rfl rfl ?_
      refine O_no rfl rfl rfl rfl ?_
      refine O_no rfl rfl rfl rfl ?_
      refine O_no rfl rfl rfl rfl ?_
      refine O_no rfl rfl rfl rfl ?_
      refine O_no rfl rfl rfl rfl ?_
      refine o_pick_t rfl (v := .bool _) rfl ?_
      refine o_move (v := .bool _) rfl ?_
      refine O_no rfl rfl rfl rfl ?_
      refine O_no rfl rfl rfl rfl ?_
      refine O_no rfl rfl rfl rfl ?_
      refine O_no rfl rfl rfl rfl ?_
      refine O_no rfl rfl rfl rfl ?_
      refine O_no rfl rfl rfl rfl ?_
      refine O_no rfl rfl rfl rfl ?_
      refine o_pick_t rfl (v := .bool _) rfl ?_
      refine o_move (v := .bool _) rfl ?_
      refine O_no rfl rfl rfl rfl ?_
      refine O_no rfl rfl rfl rfl ?_
      refine O_no rfl rfl rfl rfl ?_
      refine O_no rfl rfl rfl rfl ?_
      refine O_no rfl rfl rfl rfl ?_
      refine O_no rfl rfl rfl rfl ?_
      refine o_pick_t rfl (v := .bool _) rfl ?_
      refine o_move (v := .bool _) rfl ?_
      refine O_no rfl rfl rfl rfl ?_
      refine O_no rfl rfl rfl rfl ?_
      refine O_no rfl rfl rfl rfl ?_
      refine O_no rfl rfl rfl rfl ?_
      refine O_no rfl rfl rfl rfl ?_
      refine O_no rfl rfl rfl rfl ?_
      refine o_pick_t rfl (v := .bool _) rfl ?_
      refine O_end ?_
      exact ⟨rfl, rfl, ⟨true, rfl, ⟨fun h => (by cases h), fun h => absurd h.1 q16⟩⟩, hA⟩
    · -- False
      have q16 := bne_eq_false_iff_eq.1 h
      refine o_move (v := .bool _) rfl ?_
      refine O_yes rfl rfl rfl ?_
      refine o_fieldAddr fo29_1 rfl rfl ?_
      refine O_yes rfl rfl rfl ?_
      refine o_load1 ag3 rfl (hA.c 1 rfl rfl) ?_
      refine O_yes rfl rfl rfl ?_
      refine o_fieldAddr fo29_1 rfl rfl ?_
      refine O_yes rfl rfl rfl ?_
      refine o_load1 ag3 rfl (hA.c 0 rfl rfl) ?_
      refine O_yes rfl rfl rfl ?_
      refine o_cmp2 rfl rfl rfl (fun h => ?_) (fun h => ?_)
      · -- True
        have q22 := bne_iff_ne.1 h
        refine o_pick_f rfl (v := .bool _) rfl ?_
        refine o_move (v := .bool _) rfl ?_
        refine O_no rfl rfl rfl rfl ?_
        refine O_no rfl rfl rfl rfl ?_
        refine O_no rfl rfl rfl rfl ?_
        refine O_no rfl rfl rfl rfl ?_
        refine O_no rfl rfl rfl rfl ?_
        refine o_pick_t rfl (v := .bool _) rfl ?_
        refine o_move (v := .bool _) rfl ?_
        refine O_no rfl rfl rfl rfl ?_
        refine O_no rfl rfl rfl rfl ?_
        refine O_no rfl rfl rfl rfl ?_
        refine O_no rfl rfl rfl rfl ?_
        refine O_no rfl rfl rfl rfl ?_
        refine O_no rfl rfl rfl rfl ?_
        refine O_no rfl rfl rfl rfl ?_
        refine o_pick_t rfl (v := .bool _) rfl ?_
        refine o_move (v := .bool _) rfl ?_
        refine O_no rfl rfl rfl rfl ?_
        refine O_no rfl rfl rfl rfl ?_
        refine O_no rfl rfl rfl rfl ?_
        refine O_no rfl rfl rfl rfl ?_
        refine O_no rfl rfl rfl rfl ?_
        refine O_no rfl rfl rfl rfl ?_
        refine O_no rfl rfl rfl rfl ?_
        refine o_pick_t rfl (v := .bool _) rfl ?_
        refine o_move (v := .bool _) rfl ?_
        refine O_no rfl rfl rfl rfl ?_
        refine O_no rfl rfl rfl rfl ?_
        refine O_no rfl rfl rfl rfl ?_
        refine O_no rfl rfl rfl rfl ?_
        refine O_no rfl rfl rfl rfl ?_
        refine O_no rfl rfl rfl rfl ?_
        refine O_no rfl rfl rfl rfl ?_
        refine o_pick_t rfl (v := .bool _) rfl ?_
        refine o_move (v := .bool _) rfl ?_
        refine O_no rfl rfl rfl rfl ?_
        refine O_no rfl rfl rfl rfl ?_
        refine O_no rfl rfl rfl rfl ?_
        refine O_no rfl rfl rfl rfl ?_
        refine O_no rfl rfl rfl rfl ?_
        refine O_no rfl rfl rfl rfl ?_
        refine o_pick_t rfl (v := .bool _) rfl ?_
        refine o_move (v := .bool _) rfl ?_
        refine O_no rfl rfl rfl rfl ?_
        refine O_no rfl rfl rfl rfl ?_
        refine O_no rfl rfl rfl rfl ?_
        refine O_no rfl rfl rfl rfl ?_
        refine O_no rfl rfl rfl rfl ?_
        refine O_no rfl rfl rfl rfl ?_
        refine o_pick_t rfl (v := .bool _) rfl ?_
        refine O_end ?_
        exact ⟨rfl, rfl, ⟨true, rfl, ⟨fun h => (by cases h), fun h => absurd h.2.1 q22⟩⟩, hA⟩
      · -- False
        have q22 := bne_eq_false_iff_eq.1 h
        refine o_pick_f rfl (v := .bool _) rfl ?_
        refine o_move (v := .bool _) rfl ?_
        refine O_yes rfl rfl rfl ?_
        refine o_fieldAddr fo29_2 rfl rfl ?_
        refine O_yes rfl rfl rfl ?_
        refine o_load1 ag22 rfl (hA.c 1 rfl rfl) ?_
        refine O_yes rfl rfl rfl ?_
        refine o_fieldAddr fo29_2 rfl rfl ?_
        refine O_yes rfl rfl rfl ?_
        refine o_load1 ag22 rfl (hA.c 0 rfl rfl) ?_
        refine O_yes rfl rfl rfl ?_
        refine o_cmp2 rfl rfl rfl (fun h => ?_) (fun h => ?_)
        · -- True
          have q29 := bne_iff_ne.1 h
          refine o_pick_f rfl (v := .bool _) rfl ?_
          refine o_move (v := .bool _) rfl ?_
          refine O_no rfl rfl rfl rfl ?_
          refine O_no rfl rfl rfl rfl ?_
          refine O_no rfl rfl rfl rfl ?_
          refine O_no rfl rfl rfl rfl ?_
          refine O_no rfl rfl rfl rfl ?_
          refine O_no rfl rfl rfl rfl ?_
          refine O_no rfl rfl rfl rfl ?_
          refine o_pick_t rfl (v := .bool _) rfl ?_
          refine o_move (v := .bool _) rfl ?_
          refine O_no rfl rfl rfl rfl ?_
          refine O_no rfl rfl rfl rfl ?_
          refine O_no rfl rfl rfl rfl ?_
          refine O_no rfl rfl rfl rfl ?_
          refine O_no rfl rfl rfl rfl ?_
          refine O_no rfl rfl rfl rfl ?_
          refine O_no rfl rfl rfl rfl ?_
          refine o_pick_t rfl (v := .bool _) rfl ?_
          refine o_move (v := .bool _) rfl ?_
          refine O_no rfl rfl rfl rfl ?_
          refine O_no rfl rfl rfl rfl ?_
          refine O_no rfl rfl rfl rfl ?_
          refine O_no rfl rfl rfl rfl ?_
          refine O_no rfl rfl rfl rfl ?_
          refine O_no rfl rfl rfl rfl ?_
          refine O_no rfl rfl rfl rfl ?_
          refine o_pick_t rfl (v := .bool _) rfl ?_
          refine o_move (v := .bool _) rfl ?_
          refine O_no rfl rfl rfl rfl ?_
          refine O_no rfl rfl rfl rfl ?_
          refine O_no rfl rfl rfl rfl ?_
          refine O_no rfl rfl rfl rfl ?_
          refine O_no rfl rfl rfl rfl ?_
          refine O_no rfl rfl rfl rfl ?_
          refine o_pick_t rfl (v := .bool _) rfl ?_
          refine o_move (v := .bool _) rfl ?_
          refine O_no rfl rfl rfl rfl ?_
          refine O_no rfl rfl rfl rfl ?_
          refine O_no rfl rfl rfl rfl ?_
          refine O_no rfl rfl rfl rfl ?_
          refine O_no rfl rfl rfl rfl ?_
          refine O_no rfl rfl rfl rfl ?_
          refine o_pick_t rfl (v := .bool _) rfl ?_
          refine O_end ?_
          exact ⟨rfl, rfl, ⟨true, rfl, ⟨fun h => (by cases h), fun h => absurd h.2.2.1 q29⟩⟩, hA⟩
        · -- False
          have q29 := bne_eq_false_iff_eq.1 h
          refine o_pick_f rfl (v := .bool _) rfl ?_
          refine o_move (v := .bool _) rfl ?_
          refine O_yes rfl rfl rfl ?_
          refine o_fieldAddr fo29_3 rfl rfl ?_
          refine O_yes rfl rfl rfl ?_
          refine o_load1 ag23 rfl (hA.c 1 rfl rfl) ?_
          refine O_yes rfl rfl rfl ?_
          refine o_len Try.underlying23 rfl ?_
          refine O_yes rfl rfl rfl ?_
          refine o_fieldAddr fo29_3 rfl rfl ?_
          refine O_yes rfl rfl rfl ?_
          refine o_load1 ag23 rfl (hA.c 0 rfl rfl) ?_
          refine O_yes rfl rfl rfl ?_
          refine o_len Try.underlying23 rfl ?_
          refine O_yes rfl rfl rfl ?_
          refine o_cmp2 rfl rfl rfl (fun h => ?_) (fun h => ?_)
          · -- True
            have q38 := bne_iff_ne.1 h
            refine o_pick_f rfl (v := .bool _) rfl ?_
            refine o_move (v := .bool _) rfl ?_
            refine O_no rfl rfl rfl rfl ?_
            refine O_no rfl rfl rfl rfl ?_
            refine O_no rfl rfl rfl rfl ?_
            refine O_no rfl rfl rfl rfl ?_
            refine O_no rfl rfl rfl rfl ?_
            refine O_no rfl rfl rfl rfl ?_
            refine O_no rfl rfl rfl rfl ?_
            refine o_pick_t rfl (v := .bool _) rfl ?_
            refine o_move (v := .bool _) rfl ?_
            refine O_no rfl rfl rfl rfl ?_
            refine O_no rfl rfl rfl rfl ?_
            refine O_no rfl rfl rfl rfl ?_
            refine O_no rfl rfl rfl rfl ?_
            refine O_no rfl rfl rfl rfl ?_
            refine O_no rfl rfl rfl rfl ?_
            refine O_no rfl rfl rfl rfl ?_
            refine o_pick_t rfl (v := .bool _) rfl ?_
            refine o_move (v := .bool _) rfl ?_
            refine O_no rfl rfl rfl rfl ?_
            refine O_no rfl rfl rfl rfl ?_
            refine O_no rfl rfl rfl rfl ?_
            refine O_no rfl rfl rfl rfl ?_
            refine O_no rfl rfl rfl rfl ?_
            refine O_no rfl rfl rfl rfl ?_
            refine o_pick_t rfl (v := .bool _) rfl ?_
            refine o_move (v := .bool _) rfl ?_
            refine O_no rfl rfl rfl rfl ?_
            refine O_no rfl rfl rfl rfl ?_
            refine O_no rfl rfl rfl rfl ?_
            refine O_no rfl rfl rfl rfl ?_
            refine O_no rfl rfl rfl rfl ?_
            refine O_no rfl rfl rfl rfl ?_
            refine o_pick_t rfl (v := .bool _) rfl ?_
            refine O_end ?_
            exact ⟨rfl, rfl, ⟨true, rfl, ⟨fun h => (by cases h), fun h => absurd h.2.2.2.1 (by omega)⟩⟩, hA⟩
          · -- False
            have q38 := bne_eq_false_iff_eq.1 h
            refine o_pick_f rfl (v := .bool _) rfl ?_
            refine o_move (v := .bool _) rfl ?_
            refine O_yes rfl rfl rfl ?_
            refine o_fieldAddr fo29_4 rfl rfl ?_
            refine O_yes rfl rfl rfl ?_
            refine o_load1 ag24 rfl (hA.c 1 rfl rfl) ?_
            refine O_yes rfl rfl rfl ?_
            refine o_len Try.underlying24 rfl ?_
            refine O_yes rfl rfl rfl ?_
            refine o_fieldAddr fo29_4 rfl rfl ?_
            refine O_yes rfl rfl rfl ?_
            refine o_load1 ag24 rfl (hA.c 0 rfl rfl) ?_
            refine O_yes rfl rfl rfl ?_
            refine o_len Try.underlying24 rfl ?_
            refine O_yes rfl rfl rfl ?_
            refine o_cmp2 rfl rfl rfl (fun h => ?_) (fun h => ?_)
            · -- True
              have q47 := bne_iff_ne.1 h
              refine o_pick_f rfl (v := .bool _) rfl ?_
              refine o_move (v := .bool _) rfl ?_
              refine O_no rfl rfl rfl rfl ?_
              refine O_no rfl rfl rfl rfl ?_
              refine O_no rfl rfl rfl rfl ?_
              refine O_no rfl rfl rfl rfl ?_
              refine O_no rfl rfl rfl rfl ?_
              refine O_no rfl rfl rfl rfl ?_
              refine O_no rfl rfl rfl rfl ?_
              refine o_pick_t rfl (v := .bool _) rfl ?_
              refine o_move (v := .bool _) rfl ?_
              refine O_no rfl rfl rfl rfl ?_
              refine O_no rfl rfl rfl rfl ?_
              refine O_no rfl rfl rfl rfl ?_
              refine O_no rfl rfl rfl rfl ?_
              refine O_no rfl rfl rfl rfl ?_
              refine O_no rfl rfl rfl rfl ?_
              refine o_pick_t rfl (v := .bool _) rfl ?_
              refine o_move (v := .bool _) rfl ?_
              refine O_no rfl rfl rfl rfl ?_
              refine O_no rfl rfl rfl rfl ?_
              refine O_no rfl rfl rfl rfl ?_
              refine O_no rfl rfl rfl rfl ?_
              refine O_no rfl rfl rfl rfl ?_
              refine O_no rfl rfl rfl rfl ?_
              refine o_pick_t rfl (v := .bool _) rfl ?_
              refine O_end ?_
              exact ⟨rfl, rfl, ⟨true, rfl, ⟨fun h => (by cases h), fun h => absurd h.2.2.2.2.1 (by omega)⟩⟩, hA⟩
            · -- False
              have q47 := bne_eq_false_iff_eq.1 h
              refine o_pick_f rfl (v := .bool _) rfl ?_
              refine o_move (v := .bool _) rfl ?_
              refine O_yes rfl rfl rfl ?_
              refine o_fieldAddr fo29_7 rfl rfl ?_
              refine O_yes rfl rfl rfl ?_
              refine o_load1 ag27 rfl (hA.c 1 rfl rfl) ?_
              refine O_yes rfl rfl rfl ?_
              refine o_len Try.underlying27 rfl ?_
              refine O_yes rfl rfl rfl ?_
              refine o_fieldAddr fo29_7 rfl rfl ?_
              refine O_yes rfl rfl rfl ?_
              refine o_load1 ag27 rfl (hA.c 0 rfl rfl) ?_
              refine O_yes rfl rfl rfl ?_
              refine o_len Try.underlying27 rfl ?_
              refine O_yes rfl rfl rfl ?_
              refine o_cmp2 rfl rfl rfl (fun h => ?_) (fun h => ?_)
              · -- True
                have q56 := bne_iff_ne.1 h
                refine o_pick_f rfl (v := .bool _) rfl ?_
                refine o_move (v := .bool _) rfl ?_
                refine O_no rfl rfl rfl rfl ?_
                refine O_no rfl rfl rfl rfl ?_
                refine O_no rfl rfl rfl rfl ?_
                refine O_no rfl rfl rfl rfl ?_
                refine O_no rfl rfl rfl rfl ?_
                refine O_no rfl rfl rfl rfl ?_
                refine o_pick_t rfl (v := .bool _) rfl ?_
                refine o_move (v := .bool _) rfl ?_
                refine O_no rfl rfl rfl rfl ?_
                refine O_no rfl rfl rfl rfl ?_
                refine O_no rfl rfl rfl rfl ?_
                refine O_no rfl rfl rfl rfl ?_
                refine O_no rfl rfl rfl rfl ?_
                refine O_no rfl rfl rfl rfl ?_
                refine o_pick_t rfl (v := .bool _) rfl ?_
                refine O_end ?_
                exact ⟨rfl, rfl, ⟨true, rfl, ⟨fun h => (by cases h), fun h => absurd h.2.2.2.2.2.1 (by omega)⟩⟩, hA⟩
              · -- False
                have q56 := bne_eq_false_iff_eq.1 h
                refine o_pick_f rfl (v := .bool _) rfl ?_
                refine o_move (v := .bool _) rfl ?_
                refine O_yes rfl rfl rfl ?_
                refine o_fieldAddr fo29_6 rfl rfl ?_
                refine O_yes rfl rfl rfl ?_
                refine o_load1 ag26 rfl (hA.c 1 rfl rfl) ?_
                refine O_yes rfl rfl rfl ?_
                refine o_fieldAddr fo29_6 rfl rfl ?_
                refine O_yes rfl rfl rfl ?_
                refine o_load1 ag26 rfl (hA.c 0 rfl rfl) ?_
                refine O_yes rfl rfl rfl ?_
                refine O_callb en42 rfl (dec_call (q_ints (hn.old hA) (hn'.old hA) ln ln')) (fun w3 hC h => ?_) (fun w3 hC h => ?_)
                · -- True
                  have hA := (hA.after hC).take
                  have q63 := h
                  refine O_yes rfl rfl rfl ?_
                  refine o_not rfl ?_
                  refine o_pick_f rfl (v := .bool _) rfl ?_
                  refine o_move (v := .bool _) rfl ?_
                  refine O_yes rfl rfl rfl ?_
                  refine o_fieldAddr fo29_5 rfl rfl ?_
                  refine O_yes rfl rfl rfl ?_
                  refine o_load1 ag25 rfl (hA.c 1 rfl rfl) ?_
                  refine O_yes rfl rfl rfl ?_
                  refine o_fieldAddr fo29_5 rfl rfl ?_
                  refine O_yes rfl rfl rfl ?_
                  refine o_load1 ag25 rfl (hA.c 0 rfl rfl) ?_
                  refine O_yes rfl rfl rfl ?_
                  refine O_callb en43 rfl (dec_call (q_cells (hv.old hA) (hv'.old hA) lv lv')) (fun w4 hC h => ?_) (fun w4 hC h => ?_)
                  · -- True
                    have hA := (hA.after hC).take
                    have q71 := h
                    refine O_yes rfl rfl rfl ?_
                    refine o_not rfl ?_
                    refine o_pick_f rfl (v := .bool _) rfl ?_
                    refine O_end ?_
                    exact ⟨rfl, rfl, ⟨false, rfl, ⟨fun _ => ⟨q16, q22, q29, by omega, by omega, by omega, of_decide_eq_true q63, of_decide_eq_true q71⟩, fun _ => rfl⟩⟩, hA⟩
                  · -- False
                    have hA := (hA.after hC).take
                    have q71 := h
                    refine O_yes rfl rfl rfl ?_
                    refine o_not rfl ?_
                    refine o_pick_f rfl (v := .bool _) rfl ?_
                    refine O_end ?_
                    exact ⟨rfl, rfl, ⟨true, rfl, ⟨fun h => (by cases h), fun h => absurd h.2.2.2.2.2.2.2 (of_decide_eq_false q71)⟩⟩, hA⟩
                · -- False
                  have hA := (hA.after hC).take
                  have q63 := h
                  refine O_yes rfl rfl rfl ?_
                  refine o_not rfl ?_
                  refine o_pick_f rfl (v := .bool _) rfl ?_
                  refine o_move (v := .bool _) rfl ?_
                  refine O_no rfl rfl rfl rfl ?_
                  refine O_no rfl rfl rfl rfl ?_
                  refine O_no rfl rfl rfl rfl ?_
                  refine O_no rfl rfl rfl rfl ?_
                  refine O_no rfl rfl rfl rfl ?_
                  refine O_no rfl rfl rfl rfl ?_
                  refine o_pick_t rfl (v := .bool _) rfl ?_
                  refine O_end ?_
                  exact ⟨rfl, rfl, ⟨true, rfl, ⟨fun h => (by cases h), fun h => absurd h.2.2.2.2.2.2.1 (of_decide_eq_false q63)⟩⟩, hA⟩
  · -- behind it
    clear hA
    rintro ρ w1 ⟨h2, h3, ⟨d, h73, hd⟩, hA⟩
    refine W_known (t := 2) h2 ?_
    refine W_known (t := 3) h3 ?_
    refine W_known (t := 73) h73 ?_
    refine W_if rfl (fun hcc => ?_) (fun hcc => ?_)
    · -- True
      have q73 := hcc
      refine W_seq ?_
      refine W_reg ?_ -- 2 ref.go:180
      refine o_assign (v := .bool _) rfl ?_
      refine O_end ?_
      refine W_ret ?_
      refine ⟨rfl, ?_⟩
      refine ret1 Try.results16 (v := .bool _) rfl ?_
      exact ⟨false, rfl, ⟨fun h => (by cases h), fun h => by
        have h9 := hd.2 (hhd h)
        rw [h9] at hcc; cases hcc⟩, hA.clear⟩
    · -- False
      have q73 := hcc
      refine W_skip ?_
      refine W_seq ?_
      refine W_seq ?_
      refine W_reg ?_ -- 3 ref.go:182
      refine o_assign (v := .int _ _) rfl ?_
      refine O_end ?_
      refine W_block ?_ -- 0
      have hhe := hd.1 hcc
      obtain ⟨ek, ef, ey, elc, elp, elo, en, ev⟩ := hhe
      refine W_loop (fun kk ρ w' => ∃ (j : Nat), kk = cs.length - j ∧ j ≤ cs.length ∧ ρ 5 = .int .i64 (j : Int) ∧ ρ 2 = .pointer (some ⟨b1, 0, none⟩) ∧ ρ 3 = .pointer (some ⟨b2, 0, none⟩) ∧ (∀ i, i < j → cs[i]? = cs'[i]?) ∧ At w No [Cell b2 29 [.int .i64 kind', .int .i64 frm', .int .i64 why', .slice CA' cs'.length Cc', .slice PA' ps'.length Pc', .slice VA' vs'.length Vc', .slice NA' ws'.length Nc', .slice OA' os'.length Oc'], Cell b1 29 [.int .i64 kind, .int .i64 frm, .int .i64 why, .slice CA cs.length Cc, .slice PA ps.length Pc, .slice VA vs.length Vc, .slice NA ws.length Nc, .slice OA os.length Oc]] w') cs.length
        ⟨0, by simp, Nat.zero_le _, rfl, rfl, rfl, fun i hi => by omega, hA⟩ ?_
      clear hA
      rintro kk ρ w1 ⟨j, rfl, hj, hcn, h2, h3, hno, hA⟩
      refine W_known (t := 5) hcn ?_
      refine W_known (t := 2) h2 ?_
      refine W_known (t := 3) h3 ?_
      refine W_seq ?_
      refine W_seq ?_
      refine W_reg ?_ -- 4 ref.go:182
      refine o_move (v := .int _ _) rfl ?_
      refine o_fieldAddr fo29_3 rfl rfl ?_
      refine o_load1 ag23 rfl (hA.c 1 rfl rfl) ?_
      refine o_len Try.underlying23 rfl ?_
      refine o_cmp2 rfl rfl rfl (fun h => ?_) (fun h => ?_)
      · -- True
        have q78 := of_decide_eq_true h
        have hlt : j < cs.length := by omega
        obtain ⟨x, hx⟩ : ∃ x, cs[j]? = some x := ⟨_, List.getElem?_eq_getElem hlt⟩
        obtain ⟨y, hy⟩ : ∃ y, cs'[j]? = some y := ⟨_, List.getElem?_eq_getElem (by omega)⟩
        obtain ⟨g0, o0, rfl⟩ := hc.addr (by decide) (fm_len (s := 3) (fun _ => rfl) cs) (by omega)
        obtain ⟨g1, o1, rfl⟩ := hc'.addr (by decide) (fm_len (s := 3) (fun _ => rfl) cs') (by omega)
        have hxm := List.mem_of_getElem? hx
        have hym := List.mem_of_getElem? hy
        refine O_end ?_
        refine W_then rfl ?_
        refine W_skip ?_
        refine W_seq ?_
        refine W_block ?_ -- 1
        refine W_seq ?_
        refine W_drawA hA [1, 4, 6, 9] mix rfl rfl (fun w0_6 hA => ?_) -- 6 ref.go:183
        refine D_take 0 rfl (by kernel_rfl) (by rintro _ _ _ ⟨h, _⟩; cases h) rfl (fun h => by cases h) (fun w hA => r_fieldAddr fo29_3 rfl rfl) ?_
        refine D_take 1 rfl (by kernel_rfl) (by rintro _ _ _ ⟨h, _⟩; cases h) rfl (fun _ => hA) (fun w hA => r_load1 ag23 rfl ((hA rfl).c 1 rfl rfl)) ?_
        refine D_take 2 rfl (by kernel_rfl) (by rintro _ _ _ ⟨h, _⟩; cases h) rfl (fun h => by cases h) (fun w hA => r_move (v := .int _ _) rfl) ?_
        refine D_take 3 rfl (by kernel_rfl) (by rintro _ _ _ ⟨h, _⟩; cases h) rfl (fun h => by cases h) (fun w hA => r_index Try.underlying23 ti50 rfl rfl (by omega) (by omega)) ?_
        refine D_take 4 rfl (by kernel_rfl) (by rintro _ _ _ ⟨h, _⟩; cases h) rfl (fun _ => hA) (fun w hA => r_loadN ag50 ti50 rfl (cs := cdc x) rfl (fun j v hj => (hc.old (hA rfl)).fld (fun _ => rfl) hx hj)) ?_
        refine D_take 5 rfl (by kernel_rfl) (by rintro _ _ _ ⟨h, _⟩; cases h) rfl (fun h => by cases h) (fun w hA => r_fieldAddr fo29_3 rfl rfl) ?_
        refine D_take 6 rfl (by kernel_rfl) (by rintro _ _ _ ⟨h, _⟩; cases h) rfl (fun _ => hA) (fun w hA => r_load1 ag23 rfl ((hA rfl).c 0 rfl rfl)) ?_
        refine D_take 7 rfl (by kernel_rfl) (by rintro _ _ _ ⟨h, _⟩; cases h) rfl (fun h => by cases h) (fun w hA => r_move (v := .int _ _) rfl) ?_
        refine D_take 8 rfl (by kernel_rfl) (by rintro _ _ _ ⟨h, _⟩; cases h) rfl (fun h => by cases h) (fun w hA => r_index Try.underlying23 ti50 rfl rfl (by omega) (by omega)) ?_
        refine D_take 9 rfl (by kernel_rfl) (by rintro _ _ _ ⟨h, _⟩; cases h) rfl (fun _ => hA) (fun w hA => r_loadN ag50 ti50 rfl (cs := cdc y) rfl (fun j v hj => (hc'.old (hA rfl)).fld (fun _ => rfl) hy hj)) ?_
        refine D_takeb 10 rfl (by kernel_rfl) (by rintro _ _ _ ⟨h, _⟩; cases h) rfl (fun h => by cases h) (fun w hA => r_eqagg rfl rfl (by kernel_rfl) (fun w => eq_cd w x y) (.inr ⟨rfl, rfl⟩)) (fun h => ?_) (fun h => ?_)
        · -- True
          have q91 := h
          refine D_done (by kernel_rfl) ?_
          refine W_then rfl ?_
          refine W_seq ?_
          refine W_reg ?_ -- 7 ref.go:184
          refine o_assign (v := .bool _) rfl ?_
          refine O_end ?_
          refine W_ret ?_
          refine xb_ret ?_
          refine xb_ret ?_
          refine ⟨rfl, ?_⟩
          refine ret1 Try.results16 (v := .bool _) rfl ?_
          exact ⟨false, rfl, ⟨fun h => (by cases h), fun h => by
            injection h with h1 h2 h3 h4 h5 h6 h7 h8
            have h5 := map_inj_get h4 hx hy
            subst h5
            rw [beq_self_eq_true, beq_self_eq_true, beq_self_eq_true] at q91
            cases q91⟩, hA.clear⟩
        · -- False
          have q91 := h
          refine D_done (by kernel_rfl) ?_
          refine W_else rfl ?_
          refine W_skip ?_
          refine W_reg ?_ -- 5 ref.go:182
          refine o_move (v := .int _ _) rfl ?_
          refine o_add rfl rfl (w64 (r := ((j + 1 : Nat) : Int)) (by omega) (by omega) (by omega)) ?_
          refine o_assign (v := .int _ _) rfl ?_
          refine O_end ?_
          have h6 : x = y := by
            obtain ⟨xa, xb, xc⟩ := x
            obtain ⟨ya, yb, yc⟩ := y
            simp at q91
            obtain ⟨⟨h1, h2⟩, h3⟩ := q91
            have h2 : xb = yb := by omega
            have h3 : xc = yc := by omega
            rw [h1, h2, h3]
          refine ⟨cs.length - (j + 1), by omega, j + 1, rfl, by omega, rfl, rfl, rfl, fun i hi => ?_, hA⟩
          by_cases e : i = j
          · rw [e, hx, hy, h6]
          · exact hno i (by omega)
      · -- False
        have q78 := of_decide_eq_false h
        refine O_end ?_
        refine W_else rfl ?_
        refine W_exit ?_
        refine xb_hit ?_
        refine W_seq ?_
        refine W_seq ?_
        refine W_reg ?_ -- 8 ref.go:187
        refine o_assign (v := .int _ _) rfl ?_
        refine O_end ?_
        refine W_block ?_ -- 2
        have hcs : cs = cs' := ext_upto elc fun i hi => hno i (by omega)
        clear hno
        refine W_loop (fun kk ρ w' => ∃ (j : Nat), kk = ps.length - j ∧ j ≤ ps.length ∧ ρ 6 = .int .i64 (j : Int) ∧ ρ 2 = .pointer (some ⟨b1, 0, none⟩) ∧ ρ 3 = .pointer (some ⟨b2, 0, none⟩) ∧ (∀ i, i < j → (ps.map (·.1))[i]? = (ps'.map (·.1))[i]?) ∧ At w No [Cell b2 29 [.int .i64 kind', .int .i64 frm', .int .i64 why', .slice CA' cs'.length Cc', .slice PA' ps'.length Pc', .slice VA' vs'.length Vc', .slice NA' ws'.length Nc', .slice OA' os'.length Oc'], Cell b1 29 [.int .i64 kind, .int .i64 frm, .int .i64 why, .slice CA cs.length Cc, .slice PA ps.length Pc, .slice VA vs.length Vc, .slice NA ws.length Nc, .slice OA os.length Oc]] w') ps.length
          ⟨0, by simp, Nat.zero_le _, rfl, rfl, rfl, fun i hi => by omega, hA⟩ ?_
        clear hA
        rintro kk ρ w1 ⟨j, rfl, hj, hcn, h2, h3, hno, hA⟩
        refine W_known (t := 6) hcn ?_
        refine W_known (t := 2) h2 ?_
        refine W_known (t := 3) h3 ?_
        refine W_seq ?_
        refine W_seq ?_
        refine W_reg ?_ -- 9 ref.go:187
        refine o_move (v := .int _ _) rfl ?_
        refine o_fieldAddr fo29_4 rfl rfl ?_
        refine o_load1 ag24 rfl (hA.c 1 rfl rfl) ?_
        refine o_len Try.underlying24 rfl ?_
        refine o_cmp2 rfl rfl rfl (fun h => ?_) (fun h => ?_)
        · -- True
          have q96 := of_decide_eq_true h
          have hlt : j < ps.length := by omega
          obtain ⟨x, hx⟩ : ∃ x, ps[j]? = some x := ⟨_, List.getElem?_eq_getElem hlt⟩
          obtain ⟨y, hy⟩ : ∃ y, ps'[j]? = some y := ⟨_, List.getElem?_eq_getElem (by omega)⟩
          obtain ⟨g0, o0, rfl⟩ := hp.addr (by decide) (fm_len (s := 3) (fun _ => rfl) ps) (by omega)
          obtain ⟨g1, o1, rfl⟩ := hp'.addr (by decide) (fm_len (s := 3) (fun _ => rfl) ps') (by omega)
          have hxm := List.mem_of_getElem? hx
          have hym := List.mem_of_getElem? hy
          have hx1 : (ps.map (·.1))[j]? = some x.1 := by rw [List.getElem?_map, hx]; rfl
          have hy1 : (ps'.map (·.1))[j]? = some y.1 := by rw [List.getElem?_map, hy]; rfl
          obtain ⟨⟨x1, x2, x3⟩, ⟨xA, xm, xc⟩⟩ := x
          obtain ⟨⟨y1, y2, y3⟩, ⟨yA, ym, yc⟩⟩ := y
          have hxd := hpd _ hxm
          have hyd := hpd' _ hym
          dsimp only at hxd hyd hx1 hy1
          refine O_end ?_
          refine W_then rfl ?_
          refine W_skip ?_
          refine W_seq ?_
          refine W_block ?_ -- 3
          refine W_seq ?_
          refine W_cut (fun ρ w' => ∃ bx by_, ρ 6 = .int .i64 (j : Int) ∧ ρ 2 = .pointer (some ⟨b1, 0, none⟩) ∧ ρ 3 = .pointer (some ⟨b2, 0, none⟩) ∧ ρ 7 = .pointer (some ⟨bx, 0, none⟩) ∧ ρ 8 = .pointer (some ⟨by_, 0, none⟩) ∧ At w No [Cell by_ 52 (ppc (⟨y1, y2, y3⟩, ⟨yA, ym, yc⟩)), Cell bx 52 (ppc (⟨x1, x2, x3⟩, ⟨xA, xm, xc⟩)), Cell b2 29 [.int .i64 kind', .int .i64 frm', .int .i64 why', .slice CA' cs'.length Cc', .slice (some ⟨g1, o1, none⟩) ps'.length Pc', .slice VA' vs'.length Vc', .slice NA' ws'.length Nc', .slice OA' os'.length Oc'], Cell b1 29 [.int .i64 kind, .int .i64 frm, .int .i64 why, .slice CA cs.length Cc, .slice (some ⟨g0, o0, none⟩) ps.length Pc, .slice VA vs.length Vc, .slice NA ws.length Nc, .slice OA os.length Oc]] w') ?_ ?_
          · -- up to the cut
            refine W_drawA hA [1, 4, 6, 9] mix rfl rfl (fun w0_11 hA => ?_) -- 11 ref.go:188
            refine D_take 0 rfl (by kernel_rfl) (by rintro _ _ _ ⟨h, _⟩; cases h) rfl (fun h => by cases h) (fun w hA => r_fieldAddr fo29_4 rfl rfl) ?_
            refine D_take 1 rfl (by kernel_rfl) (by rintro _ _ _ ⟨h, _⟩; cases h) rfl (fun _ => hA) (fun w hA => r_load1 ag24 rfl ((hA rfl).c 1 rfl rfl)) ?_
            refine D_take 2 rfl (by kernel_rfl) (by rintro _ _ _ ⟨h, _⟩; cases h) rfl (fun h => by cases h) (fun w hA => r_move (v := .int _ _) rfl) ?_
            refine D_take 3 rfl (by kernel_rfl) (by rintro _ _ _ ⟨h, _⟩; cases h) rfl (fun h => by cases h) (fun w hA => r_index Try.underlying24 ti52 rfl rfl (by omega) (by omega)) ?_
            refine D_take 4 rfl (by kernel_rfl) (by rintro _ _ _ ⟨h, _⟩; cases h) rfl (fun _ => hA) (fun w hA => r_loadN ag52 ti52 rfl (cs := ppc (⟨x1, x2, x3⟩, ⟨xA, xm, xc⟩)) rfl (fun j v hj => (hp.old (hA rfl)).fld (fun _ => rfl) hx hj)) ?_
            refine D_take 5 rfl (by kernel_rfl) (by rintro _ _ _ ⟨h, _⟩; cases h) rfl (fun h => by cases h) (fun w hA => r_fieldAddr fo29_4 rfl rfl) ?_
            refine D_take 6 rfl (by kernel_rfl) (by rintro _ _ _ ⟨h, _⟩; cases h) rfl (fun _ => hA) (fun w hA => r_load1 ag24 rfl ((hA rfl).c 0 rfl rfl)) ?_
            refine D_take 7 rfl (by kernel_rfl) (by rintro _ _ _ ⟨h, _⟩; cases h) rfl (fun h => by cases h) (fun w hA => r_move (v := .int _ _) rfl) ?_
            refine D_take 8 rfl (by kernel_rfl) (by rintro _ _ _ ⟨h, _⟩; cases h) rfl (fun h => by cases h) (fun w hA => r_index Try.underlying24 ti52 rfl rfl (by omega) (by omega)) ?_
            refine D_take 9 rfl (by kernel_rfl) (by rintro _ _ _ ⟨h, _⟩; cases h) rfl (fun _ => hA) (fun w hA => r_loadN ag52 ti52 rfl (cs := ppc (⟨y1, y2, y3⟩, ⟨yA, ym, yc⟩)) rfl (fun j v hj => (hp'.old (hA rfl)).fld (fun _ => rfl) hy hj)) ?_
            refine D_run2 10 11 (by kernel_rfl) rfl rfl rfl rfl ?_ ?_
            · -- 10 first
              refine o_alloc hA ti52 rfl (fun b5 w5 hA => ?_)
              refine O_end ⟨fun _ _ => hA.tail 1, ?_⟩
              refine D_run 11 (by kernel_rfl) rfl rfl ?_
              refine o_alloc hA ti52 rfl (fun b6 w6 hA => ?_)
              refine O_end ⟨fun _ _ => hA.tail 2, ?_⟩
              refine D_run 12 (by kernel_rfl) rfl rfl ?_
              refine o_store (cs' := [_, _, _]) (i := 1) hA rfl (by conv => lhs; whnf) rfl ti52 rfl rfl rfl rfl (fun w7 hA => ?_)
              refine O_end ⟨fun _ _ => hA.tail 2, ?_⟩
              refine D_run 13 (by kernel_rfl) rfl rfl ?_
              refine o_store (cs' := [_, _, _]) (i := 0) hA rfl (by conv => lhs; whnf) rfl ti52 rfl rfl rfl rfl (fun w8 hA => ?_)
              refine O_end ⟨fun _ _ => hA.tail 2, ?_⟩
              refine D_done (by kernel_rfl) ?_
              exact ⟨b5, b6, rfl, rfl, rfl, rfl, rfl, hA⟩
            · -- 11 first
              refine o_alloc hA ti52 rfl (fun b9 w9 hA => ?_)
              refine O_end ⟨fun _ _ => hA.tail 1, ?_⟩
              refine D_run 10 (by kernel_rfl) rfl rfl ?_
              refine o_alloc hA ti52 rfl (fun b10 w10 hA => ?_)
              refine O_end ⟨fun _ _ => hA.tail 2, ?_⟩
              refine D_run 12 (by kernel_rfl) rfl rfl ?_
              refine o_store (cs' := [_, _, _]) (i := 0) hA rfl (by conv => lhs; whnf) rfl ti52 rfl rfl rfl rfl (fun w11 hA => ?_)
              refine O_end ⟨fun _ _ => hA.tail 2, ?_⟩
              refine D_run 13 (by kernel_rfl) rfl rfl ?_
              refine o_store (cs' := [_, _, _]) (i := 1) hA rfl (by conv => lhs; whnf) rfl ti52 rfl rfl rfl rfl (fun w12 hA => ?_)
              refine O_end ⟨fun _ _ => hA.tail 2, ?_⟩
              refine D_done (by kernel_rfl) ?_
              exact ⟨b10, b9, rfl, rfl, rfl, rfl, rfl, hA.swap⟩
          · -- behind it
            clear hA
            rintro ρ w1 ⟨bx, by_, hcn, h2, h3, hbx, hby, hA⟩
            refine W_known (t := 6) hcn ?_
            refine W_known (t := 2) h2 ?_
            refine W_known (t := 3) h3 ?_
            refine W_known (t := 7) hbx ?_
            refine W_known (t := 8) hby ?_
            refine W_seq ?_
            refine W_reg ?_ -- 12 ref.go:189
            refine o_fieldAddr fo52_0 rfl rfl ?_
            refine o_load1 ag3 rfl (hA.c 1 rfl rfl) ?_
            refine o_fieldAddr fo52_0 rfl rfl ?_
            refine o_load1 ag3 rfl (hA.c 0 rfl rfl) ?_
            refine o_cmp2 rfl rfl rfl (fun h => ?_) (fun h => ?_)
            · -- True
              have q113 := bne_iff_ne.1 h
              refine o_move (v := .bool _) rfl ?_
              refine O_no rfl rfl rfl rfl ?_
              refine O_no rfl rfl rfl rfl ?_
              refine O_no rfl rfl rfl rfl ?_
              refine O_no rfl rfl rfl rfl ?_
              refine O_no rfl rfl rfl rfl ?_
              refine o_pick_t rfl (v := .bool _) rfl ?_
              refine o_move (v := .bool _) rfl ?_
              refine O_no rfl rfl rfl rfl ?_
              refine O_no rfl rfl rfl rfl ?_
              refine O_no rfl rfl rfl rfl ?_
              refine O_no rfl rfl rfl rfl ?_
              refine O_no rfl rfl rfl rfl ?_
              refine O_no rfl rfl rfl rfl ?_
              refine O_no rfl rfl rfl rfl ?_
              refine o_pick_t rfl (v := .bool _) rfl ?_
              refine O_end ?_
              refine W_then rfl ?_
              refine W_seq ?_
              refine W_reg ?_ -- 13 ref.go:190
              refine o_assign (v := .bool _) rfl ?_
              refine O_end ?_
              refine W_ret ?_
              refine xb_ret ?_
              refine xb_ret ?_
              refine ⟨rfl, ?_⟩
              refine ret1 Try.results16 (v := .bool _) rfl ?_
              exact ⟨false, rfl, ⟨fun h => (by cases h), fun h => by
                injection h with h1 h2 h3 h4 h5 h6 h7 h8
                have h9 := map_inj_get h5 hx1 hy1
                injection h9 with e1 e2 e3
                exact absurd e1 q113⟩, hA.clear⟩
            · -- False
              have q113 := bne_eq_false_iff_eq.1 h
              refine o_move (v := .bool _) rfl ?_
              refine O_yes rfl rfl rfl ?_
              refine o_fieldAddr fo52_1 rfl rfl ?_
              refine O_yes rfl rfl rfl ?_
              refine o_load1 ag3 rfl (hA.c 1 rfl rfl) ?_
              refine O_yes rfl rfl rfl ?_
              refine o_fieldAddr fo52_1 rfl rfl ?_
              refine O_yes rfl rfl rfl ?_
              refine o_load1 ag3 rfl (hA.c 0 rfl rfl) ?_
              refine O_yes rfl rfl rfl ?_
              refine o_cmp2 rfl rfl rfl (fun h => ?_) (fun h => ?_)
              · -- True
                have q119 := bne_iff_ne.1 h
                refine o_pick_f rfl (v := .bool _) rfl ?_
                refine o_move (v := .bool _) rfl ?_
                refine O_no rfl rfl rfl rfl ?_
                refine O_no rfl rfl rfl rfl ?_
                refine O_no rfl rfl rfl rfl ?_
                refine O_no rfl rfl rfl rfl ?_
                refine O_no rfl rfl rfl rfl ?_
                refine O_no rfl rfl rfl rfl ?_
                refine O_no rfl rfl rfl rfl ?_
                refine o_pick_t rfl (v := .bool _) rfl ?_
                refine O_end ?_
                refine W_then rfl ?_
                refine W_seq ?_
                refine W_reg ?_ -- 13 ref.go:190
                refine o_assign (v := .bool _) rfl ?_
                refine O_end ?_
                refine W_ret ?_
                refine xb_ret ?_
                refine xb_ret ?_
                refine ⟨rfl, ?_⟩
                refine ret1 Try.results16 (v := .bool _) rfl ?_
                exact ⟨false, rfl, ⟨fun h => (by cases h), fun h => by
                  injection h with h1 h2 h3 h4 h5 h6 h7 h8
                  have h9 := map_inj_get h5 hx1 hy1
                  injection h9 with e1 e2 e3
                  exact absurd e2 q119⟩, hA.clear⟩
              · -- False
                have q119 := bne_eq_false_iff_eq.1 h
                refine o_pick_f rfl (v := .bool _) rfl ?_
                refine o_move (v := .bool _) rfl ?_
                refine O_yes rfl rfl rfl ?_
                refine o_fieldAddr fo52_2 rfl rfl ?_
                refine O_yes rfl rfl rfl ?_
                refine o_load1 ag32 rfl (hA.c 1 rfl rfl) ?_
                refine O_yes rfl rfl rfl ?_
                refine o_toString Try.underlying32 Try.underlying5 Try.underlying9 rfl (hxd.old hA) ?_
                refine O_yes rfl rfl rfl ?_
                refine o_fieldAddr fo52_2 rfl rfl ?_
                refine O_yes rfl rfl rfl ?_
                refine o_load1 ag32 rfl (hA.c 0 rfl rfl) ?_
                refine O_yes rfl rfl rfl ?_
                refine o_toString Try.underlying32 Try.underlying5 Try.underlying9 rfl (hyd.old hA) ?_
                refine O_yes rfl rfl rfl ?_
                refine o_eqs2 rfl rfl (.inr ⟨rfl, rfl⟩) (fun h => ?_) (fun h => ?_)
                · -- True
                  have q128 := h
                  refine o_pick_f rfl (v := .bool _) rfl ?_
                  refine O_end ?_
                  refine W_then rfl ?_
                  refine W_seq ?_
                  refine W_reg ?_ -- 13 ref.go:190
                  refine o_assign (v := .bool _) rfl ?_
                  refine O_end ?_
                  refine W_ret ?_
                  refine xb_ret ?_
                  refine xb_ret ?_
                  refine ⟨rfl, ?_⟩
                  refine ret1 Try.results16 (v := .bool _) rfl ?_
                  exact ⟨false, rfl, ⟨fun h => (by cases h), fun h => by
                    injection h with h1 h2 h3 h4 h5 h6 h7 h8
                    have h9 := map_inj_get h5 hx1 hy1
                    injection h9 with e1 e2 e3
                    rw [e3] at q128; simp at q128⟩, hA.clear⟩
                · -- False
                  have q128 := h
                  refine o_pick_f rfl (v := .bool _) rfl ?_
                  refine O_end ?_
                  refine W_else rfl ?_
                  refine W_skip ?_
                  refine W_reg ?_ -- 10 ref.go:187
                  refine o_move (v := .int _ _) rfl ?_
                  refine o_add rfl rfl (w64 (r := ((j + 1 : Nat) : Int)) (by omega) (by omega) (by omega)) ?_
                  refine o_assign (v := .int _ _) rfl ?_
                  refine O_end ?_
                  have h6 : (⟨x1, x2, x3⟩ : Pp) = ⟨y1, y2, y3⟩ := by rw [show x1 = y1 from q113, show x2 = y2 from q119, show x3 = y3 from ba_inj (by simpa using q128)]
                  refine ⟨ps.length - (j + 1), by omega, j + 1, rfl, by omega, rfl, rfl, rfl, fun i hi => ?_, hA.tail 2⟩
                  by_cases e : i = j
                  · rw [e, hx1, hy1, h6]
                  · exact hno i (by omega)
        · -- False
          have q96 := of_decide_eq_false h
          refine O_end ?_
          refine W_else rfl ?_
          refine W_exit ?_
          refine xb_hit ?_
          refine W_seq ?_
          refine W_seq ?_
          refine W_reg ?_ -- 14 ref.go:193
          refine o_assign (v := .int _ _) rfl ?_
          refine O_end ?_
          refine W_block ?_ -- 4
          have hps : ps.map (·.1) = ps'.map (·.1) := ext_upto (by rw [List.length_map, List.length_map]; exact elp) fun i hi => hno i (by rw [List.length_map] at hi; omega)
          clear hno
          refine W_loop (fun kk ρ w' => ∃ (j : Nat), kk = os.length - j ∧ j ≤ os.length ∧ ρ 9 = .int .i64 (j : Int) ∧ ρ 2 = .pointer (some ⟨b1, 0, none⟩) ∧ ρ 3 = .pointer (some ⟨b2, 0, none⟩) ∧ (∀ i, i < j → (os.map (·.1))[i]? = (os'.map (·.1))[i]?) ∧ At w No [Cell b2 29 [.int .i64 kind', .int .i64 frm', .int .i64 why', .slice CA' cs'.length Cc', .slice PA' ps'.length Pc', .slice VA' vs'.length Vc', .slice NA' ws'.length Nc', .slice OA' os'.length Oc'], Cell b1 29 [.int .i64 kind, .int .i64 frm, .int .i64 why, .slice CA cs.length Cc, .slice PA ps.length Pc, .slice VA vs.length Vc, .slice NA ws.length Nc, .slice OA os.length Oc]] w') os.length
            ⟨0, by simp, Nat.zero_le _, rfl, rfl, rfl, fun i hi => by omega, hA⟩ ?_
          clear hA
          rintro kk ρ w1 ⟨j, rfl, hj, hcn, h2, h3, hno, hA⟩
          refine W_known (t := 9) hcn ?_
          refine W_known (t := 2) h2 ?_
          refine W_known (t := 3) h3 ?_
          refine W_seq ?_
          refine W_seq ?_
          refine W_reg ?_ -- 15 ref.go:193
          refine o_move (v := .int _ _) rfl ?_
          refine o_fieldAddr fo29_7 rfl rfl ?_
          refine o_load1 ag27 rfl (hA.c 1 rfl rfl) ?_
          refine o_len Try.underlying27 rfl ?_
          refine o_cmp2 rfl rfl rfl (fun h => ?_) (fun h => ?_)
          · -- True
            have q134 := of_decide_eq_true h
            have hlt : j < os.length := by omega
            obtain ⟨x, hx⟩ : ∃ x, os[j]? = some x := ⟨_, List.getElem?_eq_getElem hlt⟩
            obtain ⟨y, hy⟩ : ∃ y, os'[j]? = some y := ⟨_, List.getElem?_eq_getElem (by omega)⟩
            obtain ⟨g0, o0, rfl⟩ := ho.addr (by decide) (fm_len (s := 3) (fun _ => rfl) os) (by omega)
            obtain ⟨g1, o1, rfl⟩ := ho'.addr (by decide) (fm_len (s := 3) (fun _ => rfl) os') (by omega)
            have hxm := List.mem_of_getElem? hx
            have hym := List.mem_of_getElem? hy
            have hx1 : (os.map (·.1))[j]? = some x.1 := by rw [List.getElem?_map, hx]; rfl
            have hy1 : (os'.map (·.1))[j]? = some y.1 := by rw [List.getElem?_map, hy]; rfl
            obtain ⟨⟨x1, x2, x3⟩, ⟨xA, xm, xc⟩⟩ := x
            obtain ⟨⟨y1, y2, y3⟩, ⟨yA, ym, yc⟩⟩ := y
            have hxd := hod _ hxm
            have hyd := hod' _ hym
            dsimp only at hxd hyd hx1 hy1
            refine O_end ?_
            refine W_then rfl ?_
            refine W_skip ?_
            refine W_seq ?_
            refine W_block ?_ -- 5
            refine W_seq ?_
            refine W_cut (fun ρ w' => ∃ bx by_, ρ 9 = .int .i64 (j : Int) ∧ ρ 2 = .pointer (some ⟨b1, 0, none⟩) ∧ ρ 3 = .pointer (some ⟨b2, 0, none⟩) ∧ ρ 10 = .pointer (some ⟨bx, 0, none⟩) ∧ ρ 11 = .pointer (some ⟨by_, 0, none⟩) ∧ At w No [Cell by_ 55 (ooc (⟨y1, y2, y3⟩, ⟨yA, ym, yc⟩)), Cell bx 55 (ooc (⟨x1, x2, x3⟩, ⟨xA, xm, xc⟩)), Cell b2 29 [.int .i64 kind', .int .i64 frm', .int .i64 why', .slice CA' cs'.length Cc', .slice PA' ps'.length Pc', .slice VA' vs'.length Vc', .slice NA' ws'.length Nc', .slice (some ⟨g1, o1, none⟩) os'.length Oc'], Cell b1 29 [.int .i64 kind, .int .i64 frm, .int .i64 why, .slice CA cs.length Cc, .slice PA ps.length Pc, .slice VA vs.length Vc, .slice NA ws.length Nc, .slice (some ⟨g0, o0, none⟩) os.length Oc]] w') ?_ ?_
            · -- up to the cut
              refine W_drawA hA [1, 4, 6, 9] mix rfl rfl (fun w0_17 hA => ?_) -- 17 ref.go:194
              refine D_take 0 rfl (by kernel_rfl) (by rintro _ _ _ ⟨h, _⟩; cases h) rfl (fun h => by cases h) (fun w hA => r_fieldAddr fo29_7 rfl rfl) ?_
              refine D_take 1 rfl (by kernel_rfl) (by rintro _ _ _ ⟨h, _⟩; cases h) rfl (fun _ => hA) (fun w hA => r_load1 ag27 rfl ((hA rfl).c 1 rfl rfl)) ?_
              refine D_take 2 rfl (by kernel_rfl) (by rintro _ _ _ ⟨h, _⟩; cases h) rfl (fun h => by cases h) (fun w hA => r_move (v := .int _ _) rfl) ?_
              refine D_take 3 rfl (by kernel_rfl) (by rintro _ _ _ ⟨h, _⟩; cases h) rfl (fun h => by cases h) (fun w hA => r_index Try.underlying27 ti55 rfl rfl (by omega) (by omega)) ?_
              refine D_take 4 rfl (by kernel_rfl) (by rintro _ _ _ ⟨h, _⟩; cases h) rfl (fun _ => hA) (fun w hA => r_loadN ag55 ti55 rfl (cs := ooc (⟨x1, x2, x3⟩, ⟨xA, xm, xc⟩)) rfl (fun j v hj => (ho.old (hA rfl)).fld (fun _ => rfl) hx hj)) ?_
              refine D_take 5 rfl (by kernel_rfl) (by rintro _ _ _ ⟨h, _⟩; cases h) rfl (fun h => by cases h) (fun w hA => r_fieldAddr fo29_7 rfl rfl) ?_
              refine D_take 6 rfl (by kernel_rfl) (by rintro _ _ _ ⟨h, _⟩; cases h) rfl (fun _ => hA) (fun w hA => r_load1 ag27 rfl ((hA rfl).c 0 rfl rfl)) ?_
              refine D_take 7 rfl (by kernel_rfl) (by rintro _ _ _ ⟨h, _⟩; cases h) rfl (fun h => by cases h) (fun w hA => r_move (v := .int _ _) rfl) ?_
              refine D_take 8 rfl (by kernel_rfl) (by rintro _ _ _ ⟨h, _⟩; cases h) rfl (fun h => by cases h) (fun w hA => r_index Try.underlying27 ti55 rfl rfl (by omega) (by omega)) ?_
              refine D_take 9 rfl (by kernel_rfl) (by rintro _ _ _ ⟨h, _⟩; cases h) rfl (fun _ => hA) (fun w hA => r_loadN ag55 ti55 rfl (cs := ooc (⟨y1, y2, y3⟩, ⟨yA, ym, yc⟩)) rfl (fun j v hj => (ho'.old (hA rfl)).fld (fun _ => rfl) hy hj)) ?_
              refine D_run2 10 11 (by kernel_rfl) rfl rfl rfl rfl ?_ ?_
              · -- 10 first
                refine o_alloc hA ti55 rfl (fun b13 w13 hA => ?_)
                refine O_end ⟨fun _ _ => hA.tail 1, ?_⟩
                refine D_run 11 (by kernel_rfl) rfl rfl ?_
                refine o_alloc hA ti55 rfl (fun b14 w14 hA => ?_)
                refine O_end ⟨fun _ _ => hA.tail 2, ?_⟩
                refine D_run 12 (by kernel_rfl) rfl rfl ?_
                refine o_store (cs' := [_, _, _]) (i := 1) hA rfl (by conv => lhs; whnf) rfl ti55 rfl rfl rfl rfl (fun w15 hA => ?_)
                refine O_end ⟨fun _ _ => hA.tail 2, ?_⟩
                refine D_run 13 (by kernel_rfl) rfl rfl ?_
                refine o_store (cs' := [_, _, _]) (i := 0) hA rfl (by conv => lhs; whnf) rfl ti55 rfl rfl rfl rfl (fun w16 hA => ?_)
                refine O_end ⟨fun _ _ => hA.tail 2, ?_⟩
                refine D_done (by kernel_rfl) ?_
                exact ⟨b13, b14, rfl, rfl, rfl, rfl, rfl, hA⟩
              · -- 11 first
                refine o_alloc hA ti55 rfl (fun b17 w17 hA => ?_)
                refine O_end ⟨fun _ _ => hA.tail 1, ?_⟩
                refine D_run 10 (by kernel_rfl) rfl rfl ?_
                refine o_alloc hA ti55 rfl (fun b18 w18 hA => ?_)
                refine O_end ⟨fun _ _ => hA.tail 2, ?_⟩
                refine D_run 12 (by kernel_rfl) rfl rfl ?_
                refine o_store (cs' := [_, _, _]) (i := 0) hA rfl (by conv => lhs; whnf) rfl ti55 rfl rfl rfl rfl (fun w19 hA => ?_)
                refine O_end ⟨fun _ _ => hA.tail 2, ?_⟩
                refine D_run 13 (by kernel_rfl) rfl rfl ?_
                refine o_store (cs' := [_, _, _]) (i := 1) hA rfl (by conv => lhs; whnf) rfl ti55 rfl rfl rfl rfl (fun w20 hA => ?_)
                refine O_end ⟨fun _ _ => hA.tail 2, ?_⟩
                refine D_done (by kernel_rfl) ?_
                exact ⟨b18, b17, rfl, rfl, rfl, rfl, rfl, hA.swap⟩
            · -- behind it
              clear hA
              rintro ρ w1 ⟨bx, by_, hcn, h2, h3, hbx, hby, hA⟩
              refine W_known (t := 9) hcn ?_
              refine W_known (t := 2) h2 ?_
              refine W_known (t := 3) h3 ?_
              refine W_known (t := 10) hbx ?_
              refine W_known (t := 11) hby ?_
              refine W_seq ?_
              refine W_reg ?_ -- 18 ref.go:195
              refine o_fieldAddr fo55_0 rfl rfl ?_
              refine o_load1 ag3 rfl (hA.c 1 rfl rfl) ?_
              refine o_fieldAddr fo55_0 rfl rfl ?_
              refine o_load1 ag3 rfl (hA.c 0 rfl rfl) ?_
              refine o_cmp2 rfl rfl rfl (fun h => ?_) (fun h => ?_)
              · -- True
                have q151 := bne_iff_ne.1 h
                refine o_move (v := .bool _) rfl ?_
                refine O_no rfl rfl rfl rfl ?_
                refine O_no rfl rfl rfl rfl ?_
                refine O_no rfl rfl rfl rfl ?_
                refine O_no rfl rfl rfl rfl ?_
                refine O_no rfl rfl rfl rfl ?_
                refine o_pick_t rfl (v := .bool _) rfl ?_
                refine o_move (v := .bool _) rfl ?_
                refine O_no rfl rfl rfl rfl ?_
                refine O_no rfl rfl rfl rfl ?_
                refine O_no rfl rfl rfl rfl ?_
                refine O_no rfl rfl rfl rfl ?_
                refine O_no rfl rfl rfl rfl ?_
                refine O_no rfl rfl rfl rfl ?_
                refine o_pick_t rfl (v := .bool _) rfl ?_
                refine O_end ?_
                refine W_then rfl ?_
                refine W_seq ?_
                refine W_reg ?_ -- 19 ref.go:196
                refine o_assign (v := .bool _) rfl ?_
                refine O_end ?_
                refine W_ret ?_
                refine xb_ret ?_
                refine xb_ret ?_
                refine ⟨rfl, ?_⟩
                refine ret1 Try.results16 (v := .bool _) rfl ?_
                exact ⟨false, rfl, ⟨fun h => (by cases h), fun h => by
                  injection h with h1 h2 h3 h4 h5 h6 h7 h8
                  have h9 := map_inj_get h8 hx1 hy1
                  injection h9 with e1 e2 e3
                  exact absurd e1 q151⟩, hA.clear⟩
              · -- False
                have q151 := bne_eq_false_iff_eq.1 h
                refine o_move (v := .bool _) rfl ?_
                refine O_yes rfl rfl rfl ?_
                refine o_fieldAddr fo55_1 rfl rfl ?_
                refine O_yes rfl rfl rfl ?_
                refine o_load1 ag4 rfl (hA.c 1 rfl rfl) ?_
                refine O_yes rfl rfl rfl ?_
                refine o_fieldAddr fo55_1 rfl rfl ?_
                refine O_yes rfl rfl rfl ?_
                refine o_load1 ag4 rfl (hA.c 0 rfl rfl) ?_
                refine O_yes rfl rfl rfl ?_
                refine o_eqb2 Try.underlying4 rfl rfl (.inr ⟨rfl, rfl⟩) (fun h => ?_) (fun h => ?_)
                · -- True
                  have q157 := h
                  refine o_pick_f rfl (v := .bool _) rfl ?_
                  refine o_move (v := .bool _) rfl ?_
                  refine O_no rfl rfl rfl rfl ?_
                  refine O_no rfl rfl rfl rfl ?_
                  refine O_no rfl rfl rfl rfl ?_
                  refine O_no rfl rfl rfl rfl ?_
                  refine O_no rfl rfl rfl rfl ?_
                  refine O_no rfl rfl rfl rfl ?_
                  refine o_pick_t rfl (v := .bool _) rfl ?_
                  refine O_end ?_
                  refine W_then rfl ?_
                  refine W_seq ?_
                  refine W_reg ?_ -- 19 ref.go:196
                  refine o_assign (v := .bool _) rfl ?_
                  refine O_end ?_
                  refine W_ret ?_
                  refine xb_ret ?_
                  refine xb_ret ?_
                  refine ⟨rfl, ?_⟩
                  refine ret1 Try.results16 (v := .bool _) rfl ?_
                  exact ⟨false, rfl, ⟨fun h => (by cases h), fun h => by
                    injection h with h1 h2 h3 h4 h5 h6 h7 h8
                    have h9 := map_inj_get h8 hx1 hy1
                    injection h9 with e1 e2 e3
                    rw [e2] at q157; simp at q157⟩, hA.clear⟩
                · -- False
                  have q157 := h
                  refine o_pick_f rfl (v := .bool _) rfl ?_
                  refine o_move (v := .bool _) rfl ?_
                  refine O_yes rfl rfl rfl ?_
                  refine o_fieldAddr fo55_2 rfl rfl ?_
                  refine O_yes rfl rfl rfl ?_
                  refine o_load1 ag53 rfl (hA.c 1 rfl rfl) ?_
                  refine O_yes rfl rfl rfl ?_
                  refine o_fieldAddr fo55_2 rfl rfl ?_
                  refine O_yes rfl rfl rfl ?_
                  refine o_load1 ag53 rfl (hA.c 0 rfl rfl) ?_
                  refine O_yes rfl rfl rfl ?_
                  refine O_callb en44 rfl (dec_call (q_same (hxd.old hA) (hyd.old hA) (lod _ hxm) (lod' _ hym))) (fun w21 hC h => ?_) (fun w21 hC h => ?_)
                  · -- True
                    have hA := (hA.after hC).take
                    have q164 := h
                    refine O_yes rfl rfl rfl ?_
                    refine o_not rfl ?_
                    refine o_pick_f rfl (v := .bool _) rfl ?_
                    refine O_end ?_
                    refine W_else rfl ?_
                    refine W_skip ?_
                    refine W_reg ?_ -- 16 ref.go:193
                    refine o_move (v := .int _ _) rfl ?_
                    refine o_add rfl rfl (w64 (r := ((j + 1 : Nat) : Int)) (by omega) (by omega) (by omega)) ?_
                    refine o_assign (v := .int _ _) rfl ?_
                    refine O_end ?_
                    have h6 : (⟨x1, x2, x3⟩ : Oo) = ⟨y1, y2, y3⟩ := by rw [show x1 = y1 from q151, show x2 = y2 from by simpa using q157, show x3 = y3 from of_decide_eq_true q164]
                    refine ⟨os.length - (j + 1), by omega, j + 1, rfl, by omega, rfl, rfl, rfl, fun i hi => ?_, hA.tail 2⟩
                    by_cases e : i = j
                    · rw [e, hx1, hy1, h6]
                    · exact hno i (by omega)
                  · -- False
                    have hA := (hA.after hC).take
                    have q164 := h
                    refine O_yes rfl rfl rfl ?_
                    refine o_not rfl ?_
                    refine o_pick_f rfl (v := .bool _) rfl ?_
                    refine O_end ?_
                    refine W_then rfl ?_
                    refine W_seq ?_
                    refine W_reg ?_ -- 19 ref.go:196
                    refine o_assign (v := .bool _) rfl ?_
                    refine O_end ?_
                    refine W_ret ?_
                    refine xb_ret ?_
                    refine xb_ret ?_
                    refine ⟨rfl, ?_⟩
                    refine ret1 Try.results16 (v := .bool _) rfl ?_
                    exact ⟨false, rfl, ⟨fun h => (by cases h), fun h => by
                      injection h with h1 h2 h3 h4 h5 h6 h7 h8
                      have h9 := map_inj_get h8 hx1 hy1
                      injection h9 with e1 e2 e3
                      exact absurd e3 (of_decide_eq_false q164)⟩, hA.clear⟩
          · -- False
            have q134 := of_decide_eq_false h
            refine O_end ?_
            refine W_else rfl ?_
            refine W_exit ?_
            refine xb_hit ?_
            refine W_seq ?_
            refine W_reg ?_ -- 20 ref.go:199
            refine o_assign (v := .bool _) rfl ?_
            refine O_end ?_
            refine W_ret ?_
            refine ⟨rfl, ?_⟩
            refine ret1 Try.results16 (v := .bool _) rfl ?_
            have hos : os.map (·.1) = os'.map (·.1) := ext_upto (by rw [List.length_map, List.length_map]; exact elo) fun i hi => hno i (by rw [List.length_map] at hi; omega)
            exact ⟨true, rfl, ⟨fun _ => by
              show Wd.mk kind frm why cs (ps.map (·.1)) vs ws (os.map (·.1)) = Wd.mk kind' frm' why' cs' (ps'.map (·.1)) vs' ws' (os'.map (·.1))
              rw [ek, ef, ey, hcs, hps, ev, en, hos], fun _ => rfl⟩, hA.clear⟩

end Go.Proofs.Ytbcaooiphalkoaa
