/-
  Words: Encode.
-/
import Derived.Test.YtbcaooiphalkoaaTx
set_option linter.unusedVariables false
set_option linter.unusedSimpArgs false
namespace Go.Proofs.Ytbcaooiphalkoaa
open Go Go.RowKit

theorem l_smalli {w : World} {A : Option Addr} {b m c : Nat} {n : Int} {bs : List UInt8} (hP : At w (SS (pap b (.slice A m c) bs)) (pap b (.slice A m c) bs) w) (h0 : 0 ≤ n) (h1 : n < 4294967296) (hl : bs.length ≤ 1000000) : Calls Try.prog 22 #[.pointer (some ⟨b, 0, none⟩), .int .i64 n] w fun e w' => ∃ v, e = .returned v ∧ ∃ (A' : Option Addr) (m' c' : Nat), v = .pointer (some ⟨b, 0, none⟩) ∧ At w (SS (pap b (.slice A m c) bs)) (pap b (.slice A' m' c') (bs ++ iB n)) w' := by
  obtain ⟨k, rfl⟩ := Int.eq_ofNat_of_zero_le h0
  exact l_small hP (by omega) hl

theorem w_Encode {w : World} {H : WH} (hR : RdW w H) (hK : Kinds H.x) (hl : H.cs.length ≤ 9223372036854775807 ∧ H.ps.length ≤ 9223372036854775807 ∧ H.vs.length ≤ 9223372036854775807 ∧ H.ws.length ≤ 9223372036854775807 ∧ H.os.length ≤ 9223372036854775807) : Calls Try.prog 12 #[.agg (wdc H).toArray] w fun e w' => ∃ v, e = .returned v ∧ ((goodP H.x = true → ∃ s, v = .tuple #[s, .int .i64 0] ∧ At w No [Row 5 1 s (u8l (textP H.x ++ leN (crcP (textP H.x)) 4))] w') ∧ (goodP H.x = false → v = .tuple #[.slice none 0 0, .int .i64 2] ∧ At w No [] w')) := by
  obtain ⟨kind, frm, why, cs, ps, vs, ws, os, ⟨CA, Cm, Cc⟩, ⟨PA, Pm, Pc⟩, ⟨VA, Vm, Vc⟩, ⟨NA, Nm, Nc⟩, ⟨OA, Om, Oc⟩⟩ := H
  obtain ⟨hc, hp, hpd, hv, hn, ho, hod⟩ := hR
  dsimp only at hc hp hpd hv hn ho hod hl ⊢
  obtain rfl := hc.lenf (fun _ => rfl) (by decide)
  obtain rfl := hp.lenf (fun _ => rfl) (by decide)
  obtain rfl := hv.lenp
  obtain rfl := hn.lenp
  obtain rfl := ho.lenf (fun _ => rfl) (by decide)
  refine body_in (n := 149) (l := [.agg #[.int .i64 kind, .int .i64 frm, .int .i64 why, .slice CA cs.length Cc, .slice PA ps.length Pc, .slice VA vs.length Vc, .slice NA ws.length Nc, .slice OA os.length Oc]]) en12 rfl Try.ntmps12 rfl ?_
  have hA := At.refl w
  refine W_seq ?_
  refine W_reg ?_ -- 0 words.go:97
  refine o_box hA (by conv => lhs; whnf) rfl (fun b1 w1 hA => ?_)
  refine o_assign (by conv => lhs; whnf) ?_
  refine o_assign (v := .int _ _) rfl ?_
  refine O_end ?_
  refine W_seq ?_
  refine W_seq ?_
  refine W_reg ?_ -- 1 words.go:98
  refine o_loadN ag29 ti29 rfl rfl (hA.cs (i := 0) (o := 0) (s := 8) (ds := [_, _, _, _, _, _, _, _]) rfl rfl) ?_
  refine O_callb en10 rfl (w_Good (H := ⟨kind, frm, why, cs, ps, vs, ws, os, ⟨CA, cs.length, Cc⟩, ⟨PA, ps.length, Pc⟩, ⟨VA, vs.length, Vc⟩, ⟨NA, ws.length, Nc⟩, ⟨OA, os.length, Oc⟩⟩) ⟨hc.old hA, hp.old hA, fun x hx => (hpd x hx).old hA, hv.old hA, hn.old hA, ho.old hA, fun x hx => (hod x hx).old hA⟩ hl) (fun w2 hC h => ?_) (fun w2 hC h => ?_)
  · -- True
    have hA := (hA.after hC).take
    have hF := good_fit h
    have fk : 0 ≤ kind ∧ kind < 4294967296 := hF.kind
    have ff : 0 ≤ frm ∧ frm < 4294967296 := hF.frm
    have fy : 0 ≤ why ∧ why < 4294967296 := hF.why
    have fcl : cs.length ≤ 64 := hF.csl
    have fc : ∀ y ∈ cs, 0 ≤ y.w ∧ y.w < 4294967296 := hF.cs
    have fpl : ps.length ≤ 64 := by have := hF.psl; rw [show (WH.x _).ps = ps.map (·.1) from rfl, List.length_map] at this; exact this
    have fp : ∀ y ∈ ps, 0 ≤ y.1.f ∧ y.1.f < 4294967296 ∧ 0 ≤ y.1.t ∧ y.1.t < 4294967296 ∧ y.1.d.length ≤ 64 := fun y hy => hF.ps y.1 (List.mem_map.2 ⟨y, hy, rfl⟩)
    have fvl : vs.length ≤ 256 := hF.vsl
    have fnl : ws.length ≤ 64 := hF.wsl
    have fn : ∀ y ∈ ws, 0 ≤ y ∧ y < 4294967296 := hF.ws
    have fol : os.length ≤ 64 := by have := hF.osl; rw [show (WH.x _).os = os.map (·.1) from rfl, List.length_map] at this; exact this
    have fo : ∀ y ∈ os, 0 ≤ y.1.w ∧ y.1.w < 4294967296 ∧ y.1.v.length ≤ 5 := fun y hy => hF.os y.1 (List.mem_map.2 ⟨y, hy, rfl⟩)
    have kc : ∀ y ∈ cs, y.l < 18446744073709551616 ∧ y.k < 18446744073709551616 := fun y hy => (hK.cs y hy).2.2
    have kv : ∀ y ∈ vs, y < 4294967296 := hK.vs
    have ko : ∀ y ∈ os, ∀ n ∈ y.1.v, n < 18446744073709551616 := fun y hy => (hK.os y.1 (List.mem_map.2 ⟨y, hy, rfl⟩)).2.2
    have hl0 : ∀ y ∈ cs, (cdT y).length ≤ 20 := fun y _ => by rw [cdT_len]; exact Nat.le_refl _
    have hl1 : ∀ y ∈ ps, (ppT y.1).length ≤ 76 := fun y hy => by have := fp y hy; rw [ppT_len]; omega
    have hl2 : ∀ y ∈ vs, (leN y 4).length ≤ 4 := fun y _ => by rw [leN_len]; exact Nat.le_refl _
    have hl3 : ∀ y ∈ ws, (iB y).length ≤ 4 := fun y _ => by rw [iB_len]; exact Nat.le_refl _
    have hl4 : ∀ y ∈ os, (ooT y.1).length ≤ 52 := fun y hy => by have := fo y hy; have h2 := ooT_len y.1; omega
    have q19 := h
    refine o_not rfl ?_
    refine O_end ?_
    refine W_else rfl ?_
    refine W_skip ?_
    refine W_seq ?_
    refine W_drawA hA [2, 5, 8, 11] mix rfl rfl (fun w0_3 hA => ?_) -- 3 words.go:101
    refine D_take 1 rfl (by kernel_rfl) (by rintro _ _ _ ⟨h, _⟩; cases h) rfl (fun h => by cases h) (fun w hA => r_fieldAddr fo29_0 rfl rfl) ?_
    refine D_take 2 rfl (by kernel_rfl) (by rintro _ _ _ ⟨h, _⟩; cases h) rfl (fun _ => hA) (fun w hA => r_load1 ag3 rfl ((hA rfl).c 0 rfl rfl)) ?_
    refine D_take 4 rfl (by kernel_rfl) (by rintro _ _ _ ⟨h, _⟩; cases h) rfl (fun h => by cases h) (fun w hA => r_fieldAddr fo29_1 rfl rfl) ?_
    refine D_take 5 rfl (by kernel_rfl) (by rintro _ _ _ ⟨h, _⟩; cases h) rfl (fun _ => hA) (fun w hA => r_load1 ag3 rfl ((hA rfl).c 0 rfl rfl)) ?_
    refine D_take 7 rfl (by kernel_rfl) (by rintro _ _ _ ⟨h, _⟩; cases h) rfl (fun h => by cases h) (fun w hA => r_fieldAddr fo29_2 rfl rfl) ?_
    refine D_take 8 rfl (by kernel_rfl) (by rintro _ _ _ ⟨h, _⟩; cases h) rfl (fun _ => hA) (fun w hA => r_load1 ag22 rfl ((hA rfl).c 0 rfl rfl)) ?_
    refine D_take 10 rfl (by kernel_rfl) (by rintro _ _ _ ⟨h, _⟩; cases h) rfl (fun h => by cases h) (fun w hA => r_fieldAddr fo29_3 rfl rfl) ?_
    refine D_take 11 rfl (by kernel_rfl) (by rintro _ _ _ ⟨h, _⟩; cases h) rfl (fun _ => hA) (fun w hA => r_load1 ag23 rfl ((hA rfl).c 0 rfl rfl)) ?_
    refine D_take 12 rfl (by kernel_rfl) (by rintro _ _ _ ⟨h, _⟩; cases h) rfl (fun h => by cases h) (fun w hA => r_len Try.underlying23 rfl) ?_
    refine D_run 0 (by kernel_rfl) rfl rfl ?_
    refine O_calls en21 rfl l_blank (fun v3 w3 hC => ?_)
    obtain ⟨bp, rfl, hC⟩ := hC
    have hA := hA.more hC
    refine O_end ⟨fun _ _ => hA.tail 2, ?_⟩
    refine D_run 3 (by kernel_rfl) rfl rfl ?_
    refine O_calls en22 rfl (l_smalli (n := kind) (hA.own (R := pap bp _ _)) (fk).1 (fk).2 (by first | (simp only [List.length_append, List.length_nil, iB_len, leN_len]; omega) | omega | decide)) (fun v4 w4 hC => ?_)
    obtain ⟨S, sm, sc, rfl, hC⟩ := hC
    have hA := hA.trans hC
    refine O_end ⟨fun _ _ => hA.tail 2, ?_⟩
    refine D_run 6 (by kernel_rfl) rfl rfl ?_
    refine O_calls en22 rfl (l_smalli (n := frm) (hA.own (R := pap bp _ _)) (ff).1 (ff).2 (by first | (simp only [List.length_append, List.length_nil, iB_len, leN_len]; omega) | omega | decide)) (fun v5 w5 hC => ?_)
    obtain ⟨S, sm, sc, rfl, hC⟩ := hC
    have hA := hA.trans hC
    refine O_end ⟨fun _ _ => hA.tail 2, ?_⟩
    refine D_run 9 (by kernel_rfl) rfl rfl ?_
    refine O_calls en22 rfl (l_smalli (n := why) (hA.own (R := pap bp _ _)) (fy).1 (fy).2 (by first | (simp only [List.length_append, List.length_nil, iB_len, leN_len]; omega) | omega | decide)) (fun v6 w6 hC => ?_)
    obtain ⟨S, sm, sc, rfl, hC⟩ := hC
    have hA := hA.trans hC
    refine O_end ⟨fun _ _ => hA.tail 2, ?_⟩
    refine D_run 13 (by kernel_rfl) rfl rfl ?_
    refine O_calls en22 rfl (l_small (n := cs.length) (hA.own (R := pap bp _ _)) (by omega) (by first | (simp only [List.length_append, List.length_nil, iB_len, leN_len]; omega) | omega | decide)) (fun v7 w7 hC => ?_)
    obtain ⟨S, sm, sc, rfl, hC⟩ := hC
    have hA := hA.trans hC
    refine O_end ⟨fun _ _ => hA.tail 2, ?_⟩
    refine D_take 14 rfl (by kernel_rfl) (by rintro _ _ _ ⟨h, _⟩; cases h) rfl (fun h => by cases h) (fun w hA => r_assign (v := .pointer _) rfl) ?_
    refine D_done (by kernel_rfl) ?_
    refine W_seq ?_
    refine W_seq ?_
    refine W_reg ?_ -- 4 words.go:102
    refine o_fieldAddr fo29_3 rfl rfl ?_
    refine o_load1 ag23 rfl (hA.c 2 rfl rfl) ?_
    refine o_len Try.underlying23 rfl ?_
    refine o_move (v := .int _ _) rfl ?_
    refine O_end ?_
    refine W_block ?_ -- 0
    obtain ⟨T0, hT0⟩ : ∃ T0, T0 = [] ++ iB kind ++ iB frm ++ iB why ++ leN cs.length 4 := ⟨_, rfl⟩
    have ht0 : T0.length ≤ 16 := by rw [hT0]; simp only [List.length_append, iB_len, leN_len, List.length_nil]; omega
    rw [← hT0] at hA
    refine W_loop (fun kk ρ w' => ∃ (j : Nat) (S : Option Addr) (sm sc : Nat), kk = cs.length - j ∧ j ≤ cs.length ∧ ρ 38 = .int .i64 (j : Int) ∧ ρ 37 = .int .i64 (cs.length : Int) ∧ ρ 36 = .slice CA cs.length Cc ∧ ρ 4 = .pointer (some ⟨bp, 0, none⟩) ∧ ρ 1 = .pointer (some ⟨b1, 0, none⟩) ∧ At w No (pap bp (.slice S sm sc) (T0 ++ (cs.take j).flatMap cdT) ++ [Cell b1 29 [.int .i64 kind, .int .i64 frm, .int .i64 why, .slice CA cs.length Cc, .slice PA ps.length Pc, .slice VA vs.length Vc, .slice NA ws.length Nc, .slice OA os.length Oc]]) w') cs.length
      ⟨0, S, sm, sc, by simp, Nat.zero_le _, rfl, rfl, rfl, rfl, rfl, by rw [List.take_zero, List.flatMap_nil, List.append_nil]; exact hA⟩ ?_
    clear hA
    rintro kk ρ w1 ⟨j, S, sm, sc, rfl, hj, hc38, hc37, hc36, h4, h1, hA⟩
    refine W_known (t := 38) hc38 ?_
    refine W_known (t := 37) hc37 ?_
    refine W_known (t := 36) hc36 ?_
    refine W_known (t := 4) h4 ?_
    refine W_known (t := 1) h1 ?_
    have hfl : ((cs.take j).flatMap cdT).length ≤ cs.length * 20 := fm_take j hl0
    refine W_seq ?_
    refine W_reg ?_ -- 5 words.go:102
    refine o_cmp2 rfl rfl rfl (fun h => ?_) (fun h => ?_)
    · -- True
      have q39 := of_decide_eq_true h
      have hlt : j < cs.length := by omega
      obtain ⟨x, hx⟩ : ∃ x, cs[j]? = some x := ⟨_, List.getElem?_eq_getElem hlt⟩
      obtain ⟨g0, o0, rfl⟩ := hc.addr (by decide) (fm_len (s := 3) (fun _ => rfl) cs) (by omega)
      have hxm := List.mem_of_getElem? hx
      
      refine O_end ?_
      refine W_seq ?_
      refine W_then rfl ?_
      refine W_skip ?_
      refine W_seq ?_
      refine W_block ?_ -- 1
      refine W_seq ?_
      refine W_reg ?_ -- 6 words.go:102
      refine o_index Try.underlying23 ti50 rfl rfl (by omega) (by omega) ?_
      refine o_loadN ag50 ti50 rfl (cs := cdc x) rfl (fun j v hj => (hc.old hA).fld (fun _ => rfl) hx hj) ?_
      refine o_alloc hA ti50 rfl (fun b8 w8 hA => ?_)
      refine o_store (cs' := [_, _, _]) (i := 0) hA rfl (by conv => lhs; whnf) rfl ti50 rfl rfl rfl rfl (fun w9 hA => ?_)
      refine O_end ?_
      refine W_drawB (At w No [Cell b8 50 (cdc x)]) hA [2, 5, 8] mix rfl rfl (fun w0_7 hA => ?_) -- 7 words.go:103
      refine D_take 0 rfl (by kernel_rfl) (by rintro _ _ _ ⟨h, _⟩; cases h) rfl (fun h => by cases h) (fun w hA => r_move (v := .pointer _) rfl) ?_
      refine D_take 1 rfl (by kernel_rfl) (by rintro _ _ _ ⟨h, _⟩; cases h) rfl (fun h => by cases h) (fun w hA => r_fieldAddr fo50_0 rfl rfl) ?_
      refine D_take 2 rfl (by kernel_rfl) (by rintro _ _ _ ⟨h, _⟩; cases h) rfl (fun _ => hA.keep 1) (fun w hA => r_load1 ag3 rfl ((hA rfl).c 0 rfl rfl)) ?_
      refine D_take 4 rfl (by kernel_rfl) (by rintro _ _ _ ⟨h, _⟩; cases h) rfl (fun h => by cases h) (fun w hA => r_fieldAddr fo50_1 rfl rfl) ?_
      refine D_take 5 rfl (by kernel_rfl) (by rintro _ _ _ ⟨h, _⟩; cases h) rfl (fun _ => hA.keep 1) (fun w hA => r_load1 ag48 rfl ((hA rfl).c 0 rfl rfl)) ?_
      refine D_take 7 rfl (by kernel_rfl) (by rintro _ _ _ ⟨h, _⟩; cases h) rfl (fun h => by cases h) (fun w hA => r_fieldAddr fo50_2 rfl rfl) ?_
      refine D_take 8 rfl (by kernel_rfl) (by rintro _ _ _ ⟨h, _⟩; cases h) rfl (fun _ => hA.keep 1) (fun w hA => r_load1 ag48 rfl ((hA rfl).c 0 rfl rfl)) ?_
      refine D_run 3 (by kernel_rfl) rfl rfl ?_
      refine O_calls en22 rfl (l_smalli (n := x.w) (hA.mown (A := [_]) (R := pap bp _ _) (G := [_])) (fc x hxm).1 (fc x hxm).2 (by first | (simp only [List.length_append, List.length_nil, iB_len, leN_len]; omega) | omega | decide)) (fun v10 w10 hC => ?_)
      obtain ⟨S, sm, sc, rfl, hC⟩ := hC
      have hA := hA.mid (A := [_]) (G := [_]) hC
      refine O_end ⟨fun _ _ => hA.keep 1, ?_⟩
      refine D_run 6 (by kernel_rfl) rfl rfl ?_
      refine O_calls en23 rfl (l_great (n := x.l) (hA.mown (A := [_]) (R := pap bp _ _) (G := [_])) (kc x hxm).1 (by first | (simp only [List.length_append, List.length_nil, iB_len, leN_len]; omega) | omega | decide)) (fun v11 w11 hC => ?_)
      obtain ⟨S, sm, sc, rfl, hC⟩ := hC
      have hA := hA.mid (A := [_]) (G := [_]) hC
      refine O_end ⟨fun _ _ => hA.keep 1, ?_⟩
      refine D_run 9 (by kernel_rfl) rfl rfl ?_
      refine O_calls en23 rfl (l_great (n := x.k) (hA.mown (A := [_]) (R := pap bp _ _) (G := [_])) (kc x hxm).2 (by first | (simp only [List.length_append, List.length_nil, iB_len, leN_len]; omega) | omega | decide)) (fun v12 w12 hC => ?_)
      obtain ⟨S, sm, sc, rfl, hC⟩ := hC
      have hA := hA.mid (A := [_]) (G := [_]) hC
      refine O_end ⟨fun _ _ => hA.keep 1, ?_⟩
      refine D_done (by kernel_rfl) ?_
      refine W_reg ?_ -- 8 words.go:102
      refine o_add rfl rfl (w64 (r := ((j + 1 : Nat) : Int)) (by omega) (by omega) (by omega)) ?_
      refine o_move (v := .int _ _) rfl ?_
      refine O_end ?_
      refine ⟨cs.length - (j + 1), by omega, j + 1, S, sm, sc, rfl, by omega, rfl, rfl, rfl, rfl, rfl, ?_⟩
      have hst : T0 ++ (cs.take (j + 1)).flatMap cdT = T0 ++ (cs.take j).flatMap cdT ++ iB x.w ++ leN x.l 8 ++ leN x.k 8 := by rw [List.take_add_one, hx, List.flatMap_append]; simp [cdT, ppT, ooT]
      rw [hst]
      exact hA.drop
    · -- False
      have q39 := of_decide_eq_false h
      obtain rfl : j = cs.length := by omega
      rw [List.take_length] at hA hfl
      refine O_end ?_
      refine W_seq ?_
      refine W_else rfl ?_
      refine W_exit ?_
      refine xb_hit ?_
      refine W_seq ?_
      refine W_reg ?_ -- 9 words.go:105
      refine o_move (v := .pointer _) rfl ?_
      refine o_fieldAddr fo29_4 rfl rfl ?_
      refine o_load1 ag24 rfl (hA.c 2 rfl rfl) ?_
      refine o_len Try.underlying24 rfl ?_
      refine O_calls en22 rfl (l_small (n := ps.length) (hA.own (R := pap bp _ _)) (by omega) (by first | (simp only [List.length_append, List.length_nil, iB_len, leN_len]; omega) | omega | decide)) (fun v13 w13 hC => ?_)
      obtain ⟨S, sm, sc, rfl, hC⟩ := hC
      have hA := hA.trans hC
      refine O_end ?_
      refine W_seq ?_
      refine W_seq ?_
      refine W_reg ?_ -- 10 words.go:106
      refine o_fieldAddr fo29_4 rfl rfl ?_
      refine o_load1 ag24 rfl (hA.c 2 rfl rfl) ?_
      refine o_len Try.underlying24 rfl ?_
      refine o_move (v := .int _ _) rfl ?_
      refine O_end ?_
      refine W_block ?_ -- 2
      obtain ⟨T1, hT1⟩ : ∃ T1, T1 = T0 ++ cs.flatMap cdT ++ leN ps.length 4 := ⟨_, rfl⟩
      have ht1 : T1.length ≤ 1300 := by rw [hT1]; simp only [List.length_append, iB_len, leN_len]; omega
      rw [← hT1] at hA
      refine W_loop (fun kk ρ w' => ∃ (j : Nat) (S : Option Addr) (sm sc : Nat), kk = ps.length - j ∧ j ≤ ps.length ∧ ρ 61 = .int .i64 (j : Int) ∧ ρ 60 = .int .i64 (ps.length : Int) ∧ ρ 59 = .slice PA ps.length Pc ∧ ρ 4 = .pointer (some ⟨bp, 0, none⟩) ∧ ρ 1 = .pointer (some ⟨b1, 0, none⟩) ∧ At w No (pap bp (.slice S sm sc) (T1 ++ (ps.take j).flatMap (fun (y : Pp × Sl) => ppT y.1)) ++ [Cell b1 29 [.int .i64 kind, .int .i64 frm, .int .i64 why, .slice CA cs.length Cc, .slice PA ps.length Pc, .slice VA vs.length Vc, .slice NA ws.length Nc, .slice OA os.length Oc]]) w') ps.length
        ⟨0, S, sm, sc, by simp, Nat.zero_le _, rfl, rfl, rfl, rfl, rfl, by rw [List.take_zero, List.flatMap_nil, List.append_nil]; exact hA⟩ ?_
      clear hA
      rintro kk ρ w1 ⟨j, S, sm, sc, rfl, hj, hc61, hc60, hc59, h4, h1, hA⟩
      refine W_known (t := 61) hc61 ?_
      refine W_known (t := 60) hc60 ?_
      refine W_known (t := 59) hc59 ?_
      refine W_known (t := 4) h4 ?_
      refine W_known (t := 1) h1 ?_
      have hfl : ((ps.take j).flatMap (fun (y : Pp × Sl) => ppT y.1)).length ≤ ps.length * 76 := fm_take j hl1
      refine W_seq ?_
      refine W_reg ?_ -- 11 words.go:106
      refine o_cmp2 rfl rfl rfl (fun h => ?_) (fun h => ?_)
      · -- True
        have q62 := of_decide_eq_true h
        have hlt : j < ps.length := by omega
        obtain ⟨x, hx⟩ : ∃ x, ps[j]? = some x := ⟨_, List.getElem?_eq_getElem hlt⟩
        obtain ⟨g0, o0, rfl⟩ := hp.addr (by decide) (fm_len (s := 3) (fun _ => rfl) ps) (by omega)
        have hxm := List.mem_of_getElem? hx
        obtain ⟨⟨xf, xt, xd⟩, ⟨XA, Xm, Xc⟩⟩ := x
        have hxd := hpd _ hxm
        dsimp only at hxd
        obtain rfl := hxd.lenp
        have fx := fp _ hxm
        dsimp only at fx
        refine O_end ?_
        refine W_seq ?_
        refine W_then rfl ?_
        refine W_skip ?_
        refine W_seq ?_
        refine W_block ?_ -- 3
        refine W_seq ?_
        refine W_reg ?_ -- 12 words.go:106
        refine o_index Try.underlying24 ti52 rfl rfl (by omega) (by omega) ?_
        refine o_loadN ag52 ti52 rfl (cs := ppc (⟨xf, xt, xd⟩, ⟨XA, xd.length, Xc⟩)) rfl (fun j v hj => (hp.old hA).fld (fun _ => rfl) hx hj) ?_
        refine o_alloc hA ti52 rfl (fun b14 w14 hA => ?_)
        refine o_store (cs' := [_, _, _]) (i := 0) hA rfl (by conv => lhs; whnf) rfl ti52 rfl rfl rfl rfl (fun w15 hA => ?_)
        refine O_end ?_
        refine W_drawB (At w No [Cell b14 52 (ppc (⟨xf, xt, xd⟩, ⟨XA, xd.length, Xc⟩))]) hA [2, 5, 8] mix rfl rfl (fun w0_13 hA => ?_) -- 13 words.go:107
        refine D_take 0 rfl (by kernel_rfl) (by rintro _ _ _ ⟨h, _⟩; cases h) rfl (fun h => by cases h) (fun w hA => r_move (v := .pointer _) rfl) ?_
        refine D_take 1 rfl (by kernel_rfl) (by rintro _ _ _ ⟨h, _⟩; cases h) rfl (fun h => by cases h) (fun w hA => r_fieldAddr fo52_0 rfl rfl) ?_
        refine D_take 2 rfl (by kernel_rfl) (by rintro _ _ _ ⟨h, _⟩; cases h) rfl (fun _ => hA.keep 1) (fun w hA => r_load1 ag3 rfl ((hA rfl).c 0 rfl rfl)) ?_
        refine D_take 4 rfl (by kernel_rfl) (by rintro _ _ _ ⟨h, _⟩; cases h) rfl (fun h => by cases h) (fun w hA => r_fieldAddr fo52_1 rfl rfl) ?_
        refine D_take 5 rfl (by kernel_rfl) (by rintro _ _ _ ⟨h, _⟩; cases h) rfl (fun _ => hA.keep 1) (fun w hA => r_load1 ag3 rfl ((hA rfl).c 0 rfl rfl)) ?_
        refine D_take 7 rfl (by kernel_rfl) (by rintro _ _ _ ⟨h, _⟩; cases h) rfl (fun h => by cases h) (fun w hA => r_fieldAddr fo52_2 rfl rfl) ?_
        refine D_take 8 rfl (by kernel_rfl) (by rintro _ _ _ ⟨h, _⟩; cases h) rfl (fun _ => hA.keep 1) (fun w hA => r_load1 ag32 rfl ((hA rfl).c 0 rfl rfl)) ?_
        refine D_run 3 (by kernel_rfl) rfl rfl ?_
        refine O_calls en22 rfl (l_smalli (n := xf) (hA.mown (A := [_]) (R := pap bp _ _) (G := [_])) ((⟨fx.1, fx.2.1⟩ : 0 ≤ xf ∧ xf < 4294967296)).1 ((⟨fx.1, fx.2.1⟩ : 0 ≤ xf ∧ xf < 4294967296)).2 (by first | (simp only [List.length_append, List.length_nil, iB_len, leN_len]; omega) | omega | decide)) (fun v16 w16 hC => ?_)
        obtain ⟨S, sm, sc, rfl, hC⟩ := hC
        have hA := hA.mid (A := [_]) (G := [_]) hC
        refine O_end ⟨fun _ _ => hA.keep 1, ?_⟩
        refine D_run 6 (by kernel_rfl) rfl rfl ?_
        refine O_calls en22 rfl (l_smalli (n := xt) (hA.mown (A := [_]) (R := pap bp _ _) (G := [_])) ((⟨fx.2.2.1, fx.2.2.2.1⟩ : 0 ≤ xt ∧ xt < 4294967296)).1 ((⟨fx.2.2.1, fx.2.2.2.1⟩ : 0 ≤ xt ∧ xt < 4294967296)).2 (by first | (simp only [List.length_append, List.length_nil, iB_len, leN_len]; omega) | omega | decide)) (fun v17 w17 hC => ?_)
        obtain ⟨S, sm, sc, rfl, hC⟩ := hC
        have hA := hA.mid (A := [_]) (G := [_]) hC
        refine O_end ⟨fun _ _ => hA.keep 1, ?_⟩
        refine D_run 9 (by kernel_rfl) rfl rfl ?_
        refine O_calls en24 rfl (l_bytes (d := xd) (hA.mown (A := [_]) (R := pap bp _ _) (G := [_])) (fun F w' k => hxd.old (hA.mid (A := [_]) (R := pap bp _ _) (G := [_]) k)) (by omega) (by first | (simp only [List.length_append, List.length_nil, iB_len, leN_len]; omega) | omega | decide)) (fun v18 w18 hC => ?_)
        obtain ⟨S, sm, sc, rfl, hC⟩ := hC
        have hA := hA.mid (A := [_]) (G := [_]) hC
        refine O_end ⟨fun _ _ => hA.keep 1, ?_⟩
        refine D_done (by kernel_rfl) ?_
        refine W_reg ?_ -- 14 words.go:106
        refine o_add rfl rfl (w64 (r := ((j + 1 : Nat) : Int)) (by omega) (by omega) (by omega)) ?_
        refine o_move (v := .int _ _) rfl ?_
        refine O_end ?_
        refine ⟨ps.length - (j + 1), by omega, j + 1, S, sm, sc, rfl, by omega, rfl, rfl, rfl, rfl, rfl, ?_⟩
        have hst : T1 ++ (ps.take (j + 1)).flatMap (fun (y : Pp × Sl) => ppT y.1) = T1 ++ (ps.take j).flatMap (fun (y : Pp × Sl) => ppT y.1) ++ iB xf ++ iB xt ++ (leN xd.length 4 ++ xd) := by rw [List.take_add_one, hx, List.flatMap_append]; simp [cdT, ppT, ooT]
        rw [hst]
        exact hA.drop
      · -- False
        have q62 := of_decide_eq_false h
        obtain rfl : j = ps.length := by omega
        rw [List.take_length] at hA hfl
        refine O_end ?_
        refine W_seq ?_
        refine W_else rfl ?_
        refine W_exit ?_
        refine xb_hit ?_
        refine W_seq ?_
        refine W_reg ?_ -- 15 words.go:109
        refine o_move (v := .pointer _) rfl ?_
        refine o_fieldAddr fo29_5 rfl rfl ?_
        refine o_load1 ag25 rfl (hA.c 2 rfl rfl) ?_
        refine o_len Try.underlying25 rfl ?_
        refine O_calls en22 rfl (l_small (n := vs.length) (hA.own (R := pap bp _ _)) (by omega) (by first | (simp only [List.length_append, List.length_nil, iB_len, leN_len]; omega) | omega | decide)) (fun v19 w19 hC => ?_)
        obtain ⟨S, sm, sc, rfl, hC⟩ := hC
        have hA := hA.trans hC
        refine O_end ?_
        refine W_seq ?_
        refine W_seq ?_
        refine W_reg ?_ -- 16 words.go:110
        refine o_fieldAddr fo29_5 rfl rfl ?_
        refine o_load1 ag25 rfl (hA.c 2 rfl rfl) ?_
        refine o_len Try.underlying25 rfl ?_
        refine o_move (v := .int _ _) rfl ?_
        refine O_end ?_
        refine W_block ?_ -- 4
        obtain ⟨T2, hT2⟩ : ∃ T2, T2 = T1 ++ ps.flatMap (fun (y : Pp × Sl) => ppT y.1) ++ leN vs.length 4 := ⟨_, rfl⟩
        have ht2 : T2.length ≤ 6168 := by rw [hT2]; simp only [List.length_append, iB_len, leN_len]; omega
        rw [← hT2] at hA
        refine W_loop (fun kk ρ w' => ∃ (j : Nat) (S : Option Addr) (sm sc : Nat), kk = vs.length - j ∧ j ≤ vs.length ∧ ρ 84 = .int .i64 (j : Int) ∧ ρ 83 = .int .i64 (vs.length : Int) ∧ ρ 82 = .slice VA vs.length Vc ∧ ρ 4 = .pointer (some ⟨bp, 0, none⟩) ∧ ρ 1 = .pointer (some ⟨b1, 0, none⟩) ∧ At w No (pap bp (.slice S sm sc) (T2 ++ (vs.take j).flatMap (fun n => leN n 4)) ++ [Cell b1 29 [.int .i64 kind, .int .i64 frm, .int .i64 why, .slice CA cs.length Cc, .slice PA ps.length Pc, .slice VA vs.length Vc, .slice NA ws.length Nc, .slice OA os.length Oc]]) w') vs.length
          ⟨0, S, sm, sc, by simp, Nat.zero_le _, rfl, rfl, rfl, rfl, rfl, by rw [List.take_zero, List.flatMap_nil, List.append_nil]; exact hA⟩ ?_
        clear hA
        rintro kk ρ w1 ⟨j, S, sm, sc, rfl, hj, hc84, hc83, hc82, h4, h1, hA⟩
        refine W_known (t := 84) hc84 ?_
        refine W_known (t := 83) hc83 ?_
        refine W_known (t := 82) hc82 ?_
        refine W_known (t := 4) h4 ?_
        refine W_known (t := 1) h1 ?_
        have hfl : ((vs.take j).flatMap (fun n => leN n 4)).length ≤ vs.length * 4 := fm_take j hl2
        refine W_seq ?_
        refine W_reg ?_ -- 17 words.go:110
        refine o_cmp2 rfl rfl rfl (fun h => ?_) (fun h => ?_)
        · -- True
          have q85 := of_decide_eq_true h
          have hlt : j < vs.length := by omega
          obtain ⟨x, hx⟩ : ∃ x, vs[j]? = some x := ⟨_, List.getElem?_eq_getElem hlt⟩
          obtain ⟨g0, o0, rfl⟩ := hv.addr (by decide) (show _ = vs.length * 1 by simp) (by omega)
          have hxm := List.mem_of_getElem? hx
          
          refine O_end ?_
          refine W_seq ?_
          refine W_then rfl ?_
          refine W_skip ?_
          refine W_seq ?_
          refine W_block ?_ -- 5
          refine W_seq ?_
          refine W_reg ?_ -- 18 words.go:110
          refine o_index Try.underlying25 ti63 rfl rfl (by omega) (by omega) ?_
          refine o_load1 ag63 rfl ((hv.old hA).elt hx) ?_
          refine o_assign (v := .int _ _) rfl ?_
          refine O_end ?_
          refine W_reg ?_ -- 19 words.go:111
          refine o_move (v := .pointer _) rfl ?_
          refine o_move (v := .int _ _) rfl ?_
          refine o_conv Try.underlying63 Try.underlying3 rfl (w64 rfl (by omega) (by have := kv x hxm; omega)) ?_
          refine O_calls en22 rfl (l_small (n := x) (hA.own (R := pap bp _ _)) (kv x hxm) (by first | (simp only [List.length_append, List.length_nil, iB_len, leN_len]; omega) | omega | decide)) (fun v20 w20 hC => ?_)
          obtain ⟨S, sm, sc, rfl, hC⟩ := hC
          have hA := hA.trans hC
          refine O_end ?_
          refine W_reg ?_ -- 20 words.go:110
          refine o_add rfl rfl (w64 (r := ((j + 1 : Nat) : Int)) (by omega) (by omega) (by omega)) ?_
          refine o_move (v := .int _ _) rfl ?_
          refine O_end ?_
          refine ⟨vs.length - (j + 1), by omega, j + 1, S, sm, sc, rfl, by omega, rfl, rfl, rfl, rfl, rfl, ?_⟩
          have hst : T2 ++ (vs.take (j + 1)).flatMap (fun n => leN n 4) = T2 ++ (vs.take j).flatMap (fun n => leN n 4) ++ leN x 4 := by rw [List.take_add_one, hx, List.flatMap_append]; simp [cdT, ppT, ooT]
          rw [hst]
          exact hA
        · -- False
          have q85 := of_decide_eq_false h
          obtain rfl : j = vs.length := by omega
          rw [List.take_length] at hA hfl
          refine O_end ?_
          refine W_seq ?_
          refine W_else rfl ?_
          refine W_exit ?_
          refine xb_hit ?_
          refine W_seq ?_
          refine W_reg ?_ -- 21 words.go:113
          refine o_move (v := .pointer _) rfl ?_
          refine o_fieldAddr fo29_6 rfl rfl ?_
          refine o_load1 ag26 rfl (hA.c 2 rfl rfl) ?_
          refine o_len Try.underlying26 rfl ?_
          refine O_calls en22 rfl (l_small (n := ws.length) (hA.own (R := pap bp _ _)) (by omega) (by first | (simp only [List.length_append, List.length_nil, iB_len, leN_len]; omega) | omega | decide)) (fun v21 w21 hC => ?_)
          obtain ⟨S, sm, sc, rfl, hC⟩ := hC
          have hA := hA.trans hC
          refine O_end ?_
          refine W_seq ?_
          refine W_seq ?_
          refine W_reg ?_ -- 22 words.go:114
          refine o_fieldAddr fo29_6 rfl rfl ?_
          refine o_load1 ag26 rfl (hA.c 2 rfl rfl) ?_
          refine o_len Try.underlying26 rfl ?_
          refine o_move (v := .int _ _) rfl ?_
          refine O_end ?_
          refine W_block ?_ -- 6
          obtain ⟨T3, hT3⟩ : ∃ T3, T3 = T2 ++ vs.flatMap (fun n => leN n 4) ++ leN ws.length 4 := ⟨_, rfl⟩
          have ht3 : T3.length ≤ 7196 := by rw [hT3]; simp only [List.length_append, iB_len, leN_len]; omega
          rw [← hT3] at hA
          refine W_loop (fun kk ρ w' => ∃ (j : Nat) (S : Option Addr) (sm sc : Nat), kk = ws.length - j ∧ j ≤ ws.length ∧ ρ 101 = .int .i64 (j : Int) ∧ ρ 100 = .int .i64 (ws.length : Int) ∧ ρ 99 = .slice NA ws.length Nc ∧ ρ 4 = .pointer (some ⟨bp, 0, none⟩) ∧ ρ 1 = .pointer (some ⟨b1, 0, none⟩) ∧ At w No (pap bp (.slice S sm sc) (T3 ++ (ws.take j).flatMap iB) ++ [Cell b1 29 [.int .i64 kind, .int .i64 frm, .int .i64 why, .slice CA cs.length Cc, .slice PA ps.length Pc, .slice VA vs.length Vc, .slice NA ws.length Nc, .slice OA os.length Oc]]) w') ws.length
            ⟨0, S, sm, sc, by simp, Nat.zero_le _, rfl, rfl, rfl, rfl, rfl, by rw [List.take_zero, List.flatMap_nil, List.append_nil]; exact hA⟩ ?_
          clear hA
          rintro kk ρ w1 ⟨j, S, sm, sc, rfl, hj, hc101, hc100, hc99, h4, h1, hA⟩
          refine W_known (t := 101) hc101 ?_
          refine W_known (t := 100) hc100 ?_
          refine W_known (t := 99) hc99 ?_
          refine W_known (t := 4) h4 ?_
          refine W_known (t := 1) h1 ?_
          have hfl : ((ws.take j).flatMap iB).length ≤ ws.length * 4 := fm_take j hl3
          refine W_seq ?_
          refine W_reg ?_ -- 23 words.go:114
          refine o_cmp2 rfl rfl rfl (fun h => ?_) (fun h => ?_)
          · -- True
            have q102 := of_decide_eq_true h
            have hlt : j < ws.length := by omega
            obtain ⟨x, hx⟩ : ∃ x, ws[j]? = some x := ⟨_, List.getElem?_eq_getElem hlt⟩
            obtain ⟨g0, o0, rfl⟩ := hn.addr (by decide) (show _ = ws.length * 1 by simp) (by omega)
            have hxm := List.mem_of_getElem? hx
            
            refine O_end ?_
            refine W_seq ?_
            refine W_then rfl ?_
            refine W_skip ?_
            refine W_seq ?_
            refine W_block ?_ -- 7
            refine W_seq ?_
            refine W_reg ?_ -- 24 words.go:114
            refine o_index Try.underlying26 ti3 rfl rfl (by omega) (by omega) ?_
            refine o_load1 ag3 rfl ((hn.old hA).elt hx) ?_
            refine o_assign (v := .int _ _) rfl ?_
            refine O_end ?_
            refine W_reg ?_ -- 25 words.go:115
            refine o_move (v := .pointer _) rfl ?_
            refine o_move (v := .int _ _) rfl ?_
            refine O_calls en22 rfl (l_smalli (n := x) (hA.own (R := pap bp _ _)) (fn x hxm).1 (fn x hxm).2 (by first | (simp only [List.length_append, List.length_nil, iB_len, leN_len]; omega) | omega | decide)) (fun v22 w22 hC => ?_)
            obtain ⟨S, sm, sc, rfl, hC⟩ := hC
            have hA := hA.trans hC
            refine O_end ?_
            refine W_reg ?_ -- 26 words.go:114
            refine o_add rfl rfl (w64 (r := ((j + 1 : Nat) : Int)) (by omega) (by omega) (by omega)) ?_
            refine o_move (v := .int _ _) rfl ?_
            refine O_end ?_
            refine ⟨ws.length - (j + 1), by omega, j + 1, S, sm, sc, rfl, by omega, rfl, rfl, rfl, rfl, rfl, ?_⟩
            have hst : T3 ++ (ws.take (j + 1)).flatMap iB = T3 ++ (ws.take j).flatMap iB ++ iB x := by rw [List.take_add_one, hx, List.flatMap_append]; simp [cdT, ppT, ooT]
            rw [hst]
            exact hA
          · -- False
            have q102 := of_decide_eq_false h
            obtain rfl : j = ws.length := by omega
            rw [List.take_length] at hA hfl
            refine O_end ?_
            refine W_seq ?_
            refine W_else rfl ?_
            refine W_exit ?_
            refine xb_hit ?_
            refine W_seq ?_
            refine W_reg ?_ -- 27 words.go:117
            refine o_move (v := .pointer _) rfl ?_
            refine o_fieldAddr fo29_7 rfl rfl ?_
            refine o_load1 ag27 rfl (hA.c 2 rfl rfl) ?_
            refine o_len Try.underlying27 rfl ?_
            refine O_calls en22 rfl (l_small (n := os.length) (hA.own (R := pap bp _ _)) (by omega) (by first | (simp only [List.length_append, List.length_nil, iB_len, leN_len]; omega) | omega | decide)) (fun v23 w23 hC => ?_)
            obtain ⟨S, sm, sc, rfl, hC⟩ := hC
            have hA := hA.trans hC
            refine O_end ?_
            refine W_seq ?_
            refine W_seq ?_
            refine W_reg ?_ -- 28 words.go:118
            refine o_fieldAddr fo29_7 rfl rfl ?_
            refine o_load1 ag27 rfl (hA.c 2 rfl rfl) ?_
            refine o_len Try.underlying27 rfl ?_
            refine o_move (v := .int _ _) rfl ?_
            refine O_end ?_
            refine W_block ?_ -- 8
            obtain ⟨T4, hT4⟩ : ∃ T4, T4 = T3 ++ ws.flatMap iB ++ leN os.length 4 := ⟨_, rfl⟩
            have ht4 : T4.length ≤ 7456 := by rw [hT4]; simp only [List.length_append, iB_len, leN_len]; omega
            rw [← hT4] at hA
            refine W_loop (fun kk ρ w' => ∃ (j : Nat) (S : Option Addr) (sm sc : Nat), kk = os.length - j ∧ j ≤ os.length ∧ ρ 117 = .int .i64 (j : Int) ∧ ρ 116 = .int .i64 (os.length : Int) ∧ ρ 115 = .slice OA os.length Oc ∧ ρ 4 = .pointer (some ⟨bp, 0, none⟩) ∧ ρ 1 = .pointer (some ⟨b1, 0, none⟩) ∧ At w No (pap bp (.slice S sm sc) (T4 ++ (os.take j).flatMap (fun (y : Oo × Sl) => ooT y.1)) ++ [Cell b1 29 [.int .i64 kind, .int .i64 frm, .int .i64 why, .slice CA cs.length Cc, .slice PA ps.length Pc, .slice VA vs.length Vc, .slice NA ws.length Nc, .slice OA os.length Oc]]) w') os.length
              ⟨0, S, sm, sc, by simp, Nat.zero_le _, rfl, rfl, rfl, rfl, rfl, by rw [List.take_zero, List.flatMap_nil, List.append_nil]; exact hA⟩ ?_
            clear hA
            rintro kk ρ w1 ⟨j, S, sm, sc, rfl, hj, hc117, hc116, hc115, h4, h1, hA⟩
            refine W_known (t := 117) hc117 ?_
            refine W_known (t := 116) hc116 ?_
            refine W_known (t := 115) hc115 ?_
            refine W_known (t := 4) h4 ?_
            refine W_known (t := 1) h1 ?_
            have hfl : ((os.take j).flatMap (fun (y : Oo × Sl) => ooT y.1)).length ≤ os.length * 52 := fm_take j hl4
            refine W_seq ?_
            refine W_reg ?_ -- 29 words.go:118
            refine o_cmp2 rfl rfl rfl (fun h => ?_) (fun h => ?_)
            · -- True
              have q118 := of_decide_eq_true h
              have hlt : j < os.length := by omega
              obtain ⟨x, hx⟩ : ∃ x, os[j]? = some x := ⟨_, List.getElem?_eq_getElem hlt⟩
              obtain ⟨g0, o0, rfl⟩ := ho.addr (by decide) (fm_len (s := 3) (fun _ => rfl) os) (by omega)
              have hxm := List.mem_of_getElem? hx
              obtain ⟨⟨xw, xo, xv⟩, ⟨XA, Xm, Xc⟩⟩ := x
              have hxd := hod _ hxm
              dsimp only at hxd
              obtain rfl := hxd.lenp
              have fx := fo _ hxm
              have kx := ko _ hxm
              dsimp only at fx kx
              refine O_end ?_
              refine W_seq ?_
              refine W_then rfl ?_
              refine W_skip ?_
              refine W_seq ?_
              refine W_block ?_ -- 9
              refine W_seq ?_
              refine W_reg ?_ -- 30 words.go:118
              refine o_index Try.underlying27 ti55 rfl rfl (by omega) (by omega) ?_
              refine o_loadN ag55 ti55 rfl (cs := ooc (⟨xw, xo, xv⟩, ⟨XA, xv.length, Xc⟩)) rfl (fun j v hj => (ho.old hA).fld (fun _ => rfl) hx hj) ?_
              refine o_alloc hA ti55 rfl (fun b24 w24 hA => ?_)
              refine o_store (cs' := [_, _, _]) (i := 0) hA rfl (by conv => lhs; whnf) rfl ti55 rfl rfl rfl rfl (fun w25 hA => ?_)
              refine O_end ?_
              refine W_seq ?_
              refine W_reg ?_ -- 31 words.go:119
              refine o_assign (v := .int _ _) rfl ?_
              refine O_end ?_
              refine W_seq ?_
              refine W_seq ?_
              refine W_reg ?_ -- 32 words.go:120
              refine o_fieldAddr fo55_1 rfl rfl ?_
              refine o_load1 ag4 rfl (hA.c 0 rfl rfl) ?_
              refine O_end ?_
              refine W_cut (fun ρ w' => ρ 117 = .int .i64 (j : Int) ∧ ρ 116 = .int .i64 (os.length : Int) ∧ ρ 115 = .slice (some ⟨g0, o0, none⟩) os.length Oc ∧ ρ 4 = .pointer (some ⟨bp, 0, none⟩) ∧ ρ 1 = .pointer (some ⟨b1, 0, none⟩) ∧ ρ 14 = .pointer (some ⟨b24, 0, none⟩) ∧ ρ 15 = .int .i64 (((if xo = true then 1 else 0) : Nat) : Int) ∧ At w No ([Cell b24 55 (ooc (⟨xw, xo, xv⟩, ⟨XA, xv.length, Xc⟩))] ++ (pap bp (.slice S sm sc) (T4 ++ (os.take j).flatMap (fun (y : Oo × Sl) => ooT y.1)) ++ [Cell b1 29 [.int .i64 kind, .int .i64 frm, .int .i64 why, .slice CA cs.length Cc, .slice PA ps.length Pc, .slice VA vs.length Vc, .slice NA ws.length Nc, .slice (some ⟨g0, o0, none⟩) os.length Oc]])) w') ?_ ?_
              · -- up to the cut
                refine W_if rfl (fun hcc => ?_) (fun hcc => ?_)
                · -- True
                  have q122 := hcc
                  refine W_reg ?_ -- 33 words.go:121
                  refine o_assign (v := .int _ _) rfl ?_
                  refine O_end ?_
                  exact ⟨rfl, rfl, rfl, rfl, rfl, rfl, by rw [show xo = true from hcc]; rfl, hA⟩
                · -- False
                  have q122 := hcc
                  refine W_skip ?_
                  exact ⟨rfl, rfl, rfl, rfl, rfl, rfl, by rw [show xo = false from hcc]; rfl, hA⟩
              · -- behind it
                clear hA
                rintro ρ w1 ⟨hc117, hc116, hc115, h4, h1, h14, h15, hA⟩
                refine W_known (t := 4) h4 ?_
                refine W_known (t := 1) h1 ?_
                refine W_known (t := 14) h14 ?_
                refine W_known (t := 15) h15 ?_
                refine W_known (t := 117) hc117 ?_
                refine W_known (t := 116) hc116 ?_
                refine W_known (t := 115) hc115 ?_
                refine W_seq ?_
                refine W_drawB (At w No [Cell b24 55 (ooc (⟨xw, xo, xv⟩, ⟨XA, xv.length, Xc⟩))]) hA [2, 7] mix rfl rfl (fun w0_34 hA => ?_) -- 34 words.go:123
                refine D_take 0 rfl (by kernel_rfl) (by rintro _ _ _ ⟨h, _⟩; cases h) rfl (fun h => by cases h) (fun w hA => r_move (v := .pointer _) rfl) ?_
                refine D_take 1 rfl (by kernel_rfl) (by rintro _ _ _ ⟨h, _⟩; cases h) rfl (fun h => by cases h) (fun w hA => r_fieldAddr fo55_0 rfl rfl) ?_
                refine D_take 2 rfl (by kernel_rfl) (by rintro _ _ _ ⟨h, _⟩; cases h) rfl (fun _ => hA.keep 1) (fun w hA => r_load1 ag3 rfl ((hA rfl).c 0 rfl rfl)) ?_
                refine D_take 4 rfl (by kernel_rfl) (by rintro _ _ _ ⟨h, _⟩; cases h) rfl (fun h => by cases h) (fun w hA => r_move (v := .int _ _) rfl) ?_
                refine D_take 6 rfl (by kernel_rfl) (by rintro _ _ _ ⟨h, _⟩; cases h) rfl (fun h => by cases h) (fun w hA => r_fieldAddr fo55_2 rfl rfl) ?_
                refine D_take 7 rfl (by kernel_rfl) (by rintro _ _ _ ⟨h, _⟩; cases h) rfl (fun _ => hA.keep 1) (fun w hA => r_load1 ag53 rfl ((hA rfl).c 0 rfl rfl)) ?_
                refine D_take 8 rfl (by kernel_rfl) (by rintro _ _ _ ⟨h, _⟩; cases h) rfl (fun h => by cases h) (fun w hA => r_len Try.underlying53 rfl) ?_
                refine D_run 3 (by kernel_rfl) rfl rfl ?_
                refine O_calls en22 rfl (l_smalli (n := xw) (hA.mown (A := [_]) (R := pap bp _ _) (G := [_])) ((⟨fx.1, fx.2.1⟩ : 0 ≤ xw ∧ xw < 4294967296)).1 ((⟨fx.1, fx.2.1⟩ : 0 ≤ xw ∧ xw < 4294967296)).2 (by first | (simp only [List.length_append, List.length_nil, iB_len, leN_len]; omega) | omega | decide)) (fun v26 w26 hC => ?_)
                obtain ⟨S, sm, sc, rfl, hC⟩ := hC
                have hA := hA.mid (A := [_]) (G := [_]) hC
                refine O_end ⟨fun _ _ => hA.keep 1, ?_⟩
                refine D_run 5 (by kernel_rfl) rfl rfl ?_
                refine O_calls en22 rfl (l_small (n := (if xo = true then 1 else 0)) (hA.mown (A := [_]) (R := pap bp _ _) (G := [_])) (by split <;> omega) (by first | (simp only [List.length_append, List.length_nil, iB_len, leN_len]; omega) | omega | decide)) (fun v27 w27 hC => ?_)
                obtain ⟨S, sm, sc, rfl, hC⟩ := hC
                have hA := hA.mid (A := [_]) (G := [_]) hC
                refine O_end ⟨fun _ _ => hA.keep 1, ?_⟩
                refine D_run 9 (by kernel_rfl) rfl rfl ?_
                refine O_calls en22 rfl (l_small (n := xv.length) (hA.mown (A := [_]) (R := pap bp _ _) (G := [_])) (by omega) (by first | (simp only [List.length_append, List.length_nil, iB_len, leN_len]; omega) | omega | decide)) (fun v28 w28 hC => ?_)
                obtain ⟨S, sm, sc, rfl, hC⟩ := hC
                have hA := hA.mid (A := [_]) (G := [_]) hC
                refine O_end ⟨fun _ _ => hA.keep 1, ?_⟩
                refine D_done (by kernel_rfl) ?_
                refine W_seq ?_
                refine W_reg ?_ -- 35 words.go:124
                refine o_fieldAddr fo55_2 rfl rfl ?_
                refine o_load1 ag53 rfl (hA.c 0 rfl rfl) ?_
                refine o_len Try.underlying53 rfl ?_
                refine o_move (v := .int _ _) rfl ?_
                refine O_end ?_
                refine W_block ?_ -- 10
                obtain ⟨U0, hU0⟩ : ∃ U0, U0 = (T4 ++ (os.take j).flatMap (fun (y : Oo × Sl) => ooT y.1)) ++ iB xw ++ leN (if xo = true then 1 else 0) 4 ++ leN xv.length 4 := ⟨_, rfl⟩
                have hu0 : U0.length ≤ 100000 := by rw [hU0]; simp only [List.length_append, iB_len, leN_len]; omega
                rw [← hU0] at hA
                have hl5 : ∀ y ∈ xv, (leN y 8).length ≤ 8 := fun y _ => by rw [leN_len]; exact Nat.le_refl _
                refine W_loop (fun kk ρ w' => ∃ (i : Nat) (S : Option Addr) (sm sc : Nat), kk = xv.length - i ∧ i ≤ xv.length ∧ ρ 136 = .int .i64 (i : Int) ∧ ρ 135 = .int .i64 (xv.length : Int) ∧ ρ 134 = .slice XA xv.length Xc ∧ ρ 117 = .int .i64 (j : Int) ∧ ρ 116 = .int .i64 (os.length : Int) ∧ ρ 115 = .slice (some ⟨g0, o0, none⟩) os.length Oc ∧ ρ 4 = .pointer (some ⟨bp, 0, none⟩) ∧ ρ 1 = .pointer (some ⟨b1, 0, none⟩) ∧ ρ 14 = .pointer (some ⟨b24, 0, none⟩) ∧ At w No ([Cell b24 55 (ooc (⟨xw, xo, xv⟩, ⟨XA, xv.length, Xc⟩))] ++ (pap bp (.slice S sm sc) (U0 ++ (xv.take i).flatMap (fun n => leN n 8)) ++ [Cell b1 29 [.int .i64 kind, .int .i64 frm, .int .i64 why, .slice CA cs.length Cc, .slice PA ps.length Pc, .slice VA vs.length Vc, .slice NA ws.length Nc, .slice (some ⟨g0, o0, none⟩) os.length Oc]])) w') xv.length
                  ⟨0, S, sm, sc, by simp, Nat.zero_le _, rfl, rfl, rfl, rfl, rfl, rfl, rfl, rfl, rfl, by rw [List.take_zero, List.flatMap_nil, List.append_nil]; exact hA⟩ ?_
                clear hA
                rintro kk ρ w1 ⟨i, S, sm, sc, rfl, hi, h136, h135, h134, hc117, hc116, hc115, h4, h1, h14, hA⟩
                refine W_known (t := 136) h136 ?_
                refine W_known (t := 135) h135 ?_
                refine W_known (t := 134) h134 ?_
                refine W_known (t := 4) h4 ?_
                refine W_known (t := 1) h1 ?_
                refine W_known (t := 14) h14 ?_
                refine W_known (t := 117) hc117 ?_
                refine W_known (t := 116) hc116 ?_
                refine W_known (t := 115) hc115 ?_
                have hfi : ((xv.take i).flatMap (fun n => leN n 8)).length ≤ xv.length * 8 := fm_take i hl5
                refine W_seq ?_
                refine W_reg ?_ -- 36 words.go:124
                refine o_cmp2 rfl rfl rfl (fun h => ?_) (fun h => ?_)
                · -- True
                  have q137 := of_decide_eq_true h
                  have hlti : i < xv.length := by omega
                  obtain ⟨z, hz⟩ : ∃ z, xv[i]? = some z := ⟨_, List.getElem?_eq_getElem hlti⟩
                  obtain ⟨g1, o1, rfl⟩ := hxd.addr (by decide) (show _ = xv.length * 1 by simp) (by omega)
                  have hzm := List.mem_of_getElem? hz
                  refine O_end ?_
                  refine W_seq ?_
                  refine W_then rfl ?_
                  refine W_skip ?_
                  refine W_seq ?_
                  refine W_block ?_ -- 11
                  refine W_seq ?_
                  refine W_reg ?_ -- 37 words.go:124
                  refine o_index Try.underlying53 ti48 rfl rfl (by omega) (by omega) ?_
                  refine o_load1 ag48 rfl ((hxd.old hA).elt hz) ?_
                  refine o_assign (v := .int _ _) rfl ?_
                  refine O_end ?_
                  refine W_reg ?_ -- 38 words.go:125
                  refine o_move (v := .pointer _) rfl ?_
                  refine o_move (v := .int _ _) rfl ?_
                  refine O_calls en23 rfl (l_great (n := z) (hA.mown (A := [_]) (R := pap bp _ _) (G := [_])) (kx z hzm) (by first | (simp only [List.length_append, List.length_nil, iB_len, leN_len]; omega) | omega | decide)) (fun v29 w29 hC => ?_)
                  obtain ⟨S, sm, sc, rfl, hC⟩ := hC
                  have hA := hA.mid (A := [_]) (G := [_]) hC
                  refine O_end ?_
                  refine W_reg ?_ -- 39 words.go:124
                  refine o_add rfl rfl (w64 (r := ((i + 1 : Nat) : Int)) (by omega) (by omega) (by omega)) ?_
                  refine o_move (v := .int _ _) rfl ?_
                  refine O_end ?_
                  refine ⟨xv.length - (i + 1), by omega, i + 1, S, sm, sc, rfl, by omega, rfl, rfl, rfl, rfl, rfl, rfl, rfl, rfl, rfl, ?_⟩
                  have hst : U0 ++ (xv.take (i + 1)).flatMap (fun n => leN n 8) = U0 ++ (xv.take i).flatMap (fun n => leN n 8) ++ leN z 8 := by rw [List.take_add_one, hz, List.flatMap_append]; simp
                  rw [hst]
                  exact hA
                · -- False
                  have q137 := of_decide_eq_false h
                  refine O_end ?_
                  refine W_seq ?_
                  refine W_else rfl ?_
                  refine W_exit ?_
                  refine xb_hit ?_
                  refine W_reg ?_ -- 40 words.go:118
                  refine o_add rfl rfl (w64 (r := ((j + 1 : Nat) : Int)) (by omega) (by omega) (by omega)) ?_
                  refine o_move (v := .int _ _) rfl ?_
                  refine O_end ?_
                  obtain rfl : i = xv.length := by omega
                  rw [List.take_length, hU0] at hA
                  refine ⟨os.length - (j + 1), by omega, j + 1, S, sm, sc, rfl, by omega, rfl, rfl, rfl, rfl, rfl, ?_⟩
                  have hst : T4 ++ (os.take (j + 1)).flatMap (fun (y : Oo × Sl) => ooT y.1) = T4 ++ (os.take j).flatMap (fun (y : Oo × Sl) => ooT y.1) ++ iB xw ++ leN (if xo = true then 1 else 0) 4 ++ leN xv.length 4 ++ xv.flatMap (fun n => leN n 8) := by rw [List.take_add_one, hx, List.flatMap_append]; simp [cdT, ppT, ooT]
                  rw [hst]
                  exact hA.drop
            · -- False
              have q118 := of_decide_eq_false h
              obtain rfl : j = os.length := by omega
              rw [List.take_length] at hA hfl
              have hT5 : (T4 ++ os.flatMap (fun (y : Oo × Sl) => ooT y.1)).length = T4.length + (os.flatMap (fun (y : Oo × Sl) => ooT y.1)).length := List.length_append
              refine O_end ?_
              refine W_seq ?_
              refine W_else rfl ?_
              refine W_exit ?_
              refine xb_hit ?_
              refine W_seq ?_
              refine W_reg ?_ -- 41 words.go:128
              refine o_move (v := .pointer _) rfl ?_
              refine O_calls en25 rfl (l_seal (hA.own (R := pap bp _ _)) (by rw [hT5]; omega)) (fun v30 w30 hC => ?_)
              obtain ⟨s, rfl, hC⟩ := hC
              have hA := hA.trans hC
              refine o_extract rfl rfl ?_
              refine o_extract rfl rfl ?_
              refine o_assign (by conv => lhs; whnf) ?_
              refine o_assign (v := .int _ _) rfl ?_
              refine O_end ?_
              refine W_ret ?_
              refine ⟨rfl, ?_⟩
              refine ret2 Try.results12 (by conv => lhs; whnf) (u := .int _ _) rfl ?_
              refine ⟨fun _ => ⟨s, rfl, ?_⟩, fun hno => absurd q19 (by rw [hno]; decide)⟩
              have hT : T4 ++ os.flatMap (fun (y : Oo × Sl) => ooT y.1) = textP (WH.x ⟨kind, frm, why, cs, ps, vs, ws, os, ⟨CA, cs.length, Cc⟩, ⟨PA, ps.length, Pc⟩, ⟨VA, vs.length, Vc⟩, ⟨NA, ws.length, Nc⟩, ⟨OA, os.length, Oc⟩⟩) := by
                rw [hT4, hT3, hT2, hT1, hT0]
                simp [textP, headT, WH.x, List.flatMap_map]
              rw [hT] at hA
              exact hA.keep 1
  · -- False
    have hA := (hA.after hC).take
    have q19 := h
    refine o_not rfl ?_
    refine O_end ?_
    refine W_then rfl ?_
    refine W_seq ?_
    refine W_reg ?_ -- 2 words.go:99
    refine o_assign (by conv => lhs; whnf) ?_
    refine o_assign (v := .int _ _) rfl ?_
    refine O_end ?_
    refine W_ret ?_
    refine ⟨rfl, ?_⟩
    refine ret2 Try.results12 (by conv => lhs; whnf) (u := .int _ _) rfl ?_
    exact ⟨fun hok => absurd q19 (by rw [hok]; decide), fun _ => ⟨rfl, hA.clear⟩⟩

end Go.Proofs.Ytbcaooiphalkoaa
