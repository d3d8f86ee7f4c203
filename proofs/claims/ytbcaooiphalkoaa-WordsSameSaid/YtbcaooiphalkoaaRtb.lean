/-
  offertoryref14: Great, Bytes, Sealed, Text.
-/
import Derived.Test.YtbcaooiphalkoaaRta
set_option linter.unusedVariables false
set_option linter.unusedSimpArgs false
namespace Go.Proofs.Ytbcaooiphalkoaa
open Go Go.RowKit

theorem r_toString {P : Program} {n : Nat} {ρ : Env} {w : World} {s' e t ty : TypeId} {x : Operand} {v : Value} {l : List UInt8} (hs : P.underlying s' = some (.slice e)) (he : P.underlying e = some (.int .u8)) (ht : P.underlying t = some .string) (hx : evn n ρ x = v) (hv : Rd w 1 v (u8s l)) : Rn P n ρ w (.convert s' t x) ty (.string ⟨l.toArray⟩) := fun dd pos af => by
  obtain ⟨A, m, c, rfl, hl, hc, hm, hr⟩ := hv
  have hm' : l.length = m := by rw [u8s_len] at hl; omega
  have hrun : (convert s' t (.slice A m c)).run P w = .ok (.string ⟨l.toArray⟩) w := by
    rcases hr with h0 | ⟨b, o, rfl, hr⟩
    · have h1 : l = [] := by cases l with | nil => rfl | cons _ _ => simp [u8s] at h0
      subst h1
      have : m = 0 := by simpa using hm'.symm
      subst this
      cases A with
      | none => exact run_convert_bytes_nil w s' e hs he 0 c t ht
      | some a => simp [convert, run_underlying hs, run_underlying ht, run_underlying he, Conv.bytesToString, loadCells, loadCellsFrom]; rfl
    · have := run_convert_bytes_arg w s' e hs he b o m c (l.map fun c => (c.toNat : Int)) (by simpa using hm') (fun i hi => by
        have hi' : i < l.length := by omega
        have := hr i (.int .u8 l[i].toNat) (by simp [u8s, hi'])
        rw [this]
        simp [List.getD_eq_getElem?_getD, hi']) t ht
      rw [this]
      have e1 : (l.map fun c => (c.toNat : Int)).map (fun n => UInt8.ofNat n.toNat) = l := by
        rw [List.map_map]
        conv => rhs; rw [← List.map_id l]
        exact List.map_congr_left fun c _ => by simp
      simp only [strOfNums, e1]
  simp [execOp, hx, hrun]
theorem q_smalli {w : World} {n : Int} (h0 : 0 ≤ n) (h1 : n < 4294967296) : Calls Try.prog 38 #[.int .i64 n] w fun e w' => ∃ v, e = .returned v ∧ (v = .string ⟨(iB n).toArray⟩ ∧ At w No [] w') := by
  obtain ⟨k, rfl⟩ := Int.eq_ofNat_of_zero_le h0
  exact q_small (by omega)
theorem leB_eq {a b i k : Nat} (h : a / 2 ^ (8 * i) % 256 = b / 2 ^ (8 * k) % 256) : leB a i = leB b k := by
  apply UInt8.toNat_inj.1
  rw [leB_val, leB_val, h]
theorem leN8 (n : Nat) : leN n 8 = leN (n % 4294967296) 4 ++ leN (n / 4294967296) 4 := by
  show List.map (leB n) [0, 1, 2, 3, 4, 5, 6, 7] = List.map (leB _) [0, 1, 2, 3] ++ List.map (leB _) [0, 1, 2, 3]
  simp only [List.map_cons, List.map_nil, List.cons_append, List.nil_append, List.cons.injEq, and_true]
  refine ⟨leB_eq ?_, leB_eq ?_, leB_eq ?_, leB_eq ?_, leB_eq ?_, leB_eq ?_, leB_eq ?_, leB_eq ?_⟩ <;> simp only [Nat.reduceMul, Nat.reducePow] <;> omega

theorem q_great {w : World} {n : Nat} (hn : n < 18446744073709551616) : Calls Try.prog 40 #[.int .u64 (n : Int)] w fun e w' => ∃ v, e = .returned v ∧ (v = .string ⟨(leN n 8).toArray⟩ ∧ At w No [] w') := by
  refine body_in (n := 12) (l := [.int .u64 (n : Int)]) en40 rfl Try.ntmps40 rfl ?_
  have hA := At.refl w
  refine W_seq ?_
  refine W_reg ?_ -- 0 ref.go:33
  refine o_assign (by conv => lhs; whnf) ?_
  refine O_end ?_
  refine W_seq ?_
  refine W_reg ?_ -- 1 ref.go:34
  refine o_move (v := .int _ _) rfl ?_
  refine o_rem rfl rfl (by first | decide | omega) (show Int.tmod (n : Int) 4294967296 = ((n % 4294967296 : Nat) : Int) from rfl) ?_
  refine o_conv Try.underlying48 Try.underlying3 rfl (w64r' (r := ((n % 4294967296 : Nat) : Int)) rfl (by omega) (by omega)) ?_
  refine O_calls en38 rfl (q_small (n := n % 4294967296) (by omega)) (fun v1 w1 hC => ?_)
  obtain ⟨rfl, hC⟩ := hC
  have hA := (hA.after hC).take
  refine o_move (v := .int _ _) rfl ?_
  refine o_quo rfl rfl (by first | decide | omega) (u64w (show Int.tdiv (n : Int) 4294967296 = ((n / 4294967296 : Nat) : Int) from rfl) (by omega)) ?_
  refine o_conv Try.underlying48 Try.underlying3 rfl (w64r' (r := ((n / 4294967296 : Nat) : Int)) rfl (by omega) (by omega)) ?_
  refine O_calls en38 rfl (q_small (n := n / 4294967296) (by omega)) (fun v2 w2 hC => ?_)
  obtain ⟨rfl, hC⟩ := hC
  have hA := (hA.after hC).take
  refine o_adds rfl rfl (by rw [leN_len, leN_len]; decide) ?_
  refine o_assign (by conv => lhs; whnf) ?_
  refine O_end ?_
  refine W_ret ?_
  refine ⟨rfl, ?_⟩
  refine ret1 Try.results40 (by conv => lhs; whnf) ?_
  exact ⟨by rw [leN8], hA⟩

theorem q_bytes {w : World} {A : Option Addr} {c : Nat} {d : List UInt8} (hD : Rd w 1 (.slice A d.length c) (u8l d)) (hd : d.length ≤ 1000000) : Calls Try.prog 41 #[.slice A d.length c] w fun e w' => ∃ v, e = .returned v ∧ (v = .string ⟨(leN d.length 4 ++ d).toArray⟩ ∧ At w No [] w') := by
  refine body_in (n := 9) (l := [.slice A d.length c]) en41 rfl Try.ntmps41 rfl ?_
  have hA := At.refl w
  refine W_seq ?_
  refine W_reg ?_ -- 0 ref.go:38
  refine o_assign (by conv => lhs; whnf) ?_
  refine O_end ?_
  refine W_seq ?_
  refine W_drawA hA [4] mix rfl rfl (fun w0_1 hA => ?_) -- 1 ref.go:38
  refine D_take 0 rfl (by kernel_rfl) (by rintro _ _ _ ⟨h, _⟩; cases h) rfl (fun h => by cases h) (fun w hA => r_move (by conv => lhs; whnf)) ?_
  refine D_take 1 rfl (by kernel_rfl) (by rintro _ _ _ ⟨h, _⟩; cases h) rfl (fun h => by cases h) (fun w hA => r_len Try.underlying32 rfl) ?_
  refine D_take 3 rfl (by kernel_rfl) (by rintro _ _ _ ⟨h, _⟩; cases h) rfl (fun h => by cases h) (fun w hA => r_move (by conv => lhs; whnf)) ?_
  refine D_take 4 rfl (by kernel_rfl) (by rintro _ _ _ ⟨h, _⟩; cases h) rfl (fun _ => hA) (fun w hA => r_toString Try.underlying32 Try.underlying5 Try.underlying9 rfl (hD.old (hA rfl))) ?_
  refine D_run 2 (by kernel_rfl) rfl rfl ?_
  refine O_calls en38 rfl (q_small (n := d.length) (by omega)) (fun v1 w1 hC => ?_)
  obtain ⟨rfl, hC⟩ := hC
  have hA := (hA.after hC).take
  refine O_end ⟨fun _ _ => hA, ?_⟩
  refine D_take 5 rfl (by kernel_rfl) (by rintro _ _ _ ⟨h, _⟩; cases h) rfl (fun h => by cases h) (fun w hA => r_adds rfl rfl (by rw [leN_len]; omega)) ?_
  refine D_take 6 rfl (by kernel_rfl) (by rintro _ _ _ ⟨h, _⟩; cases h) rfl (fun h => by cases h) (fun w hA => r_assign (by conv => lhs; whnf)) ?_
  refine D_done (by kernel_rfl) ?_
  refine W_ret ?_
  refine ⟨rfl, ?_⟩
  refine ret1 Try.results41 (by conv => lhs; whnf) ?_
  exact ⟨rfl, hA⟩

theorem q_sealed {w : World} {l : List UInt8} (hl : l.length ≤ 1000000) : Calls Try.prog 14 #[.string ⟨l.toArray⟩] w fun e w' => ∃ v, e = .returned v ∧ (v = .string ⟨(l ++ leN (refC l) 4).toArray⟩ ∧ At w No [] w') := by
  refine body_in (n := 9) (l := [.string ⟨l.toArray⟩]) en14 rfl Try.ntmps14 rfl ?_
  have hA := At.refl w
  have hcl : refC l < 4294967296 := by unfold refC; omega
  refine W_seq ?_
  refine W_reg ?_ -- 0 ref.go:41
  refine o_assign (by conv => lhs; whnf) ?_
  refine O_end ?_
  refine W_seq ?_
  refine W_reg ?_ -- 1 ref.go:41
  refine o_move (by conv => lhs; whnf) ?_
  refine o_move (by conv => lhs; whnf) ?_
  refine O_calls en39 rfl (q_check hl) (fun v1 w1 hC => ?_)
  obtain ⟨rfl, hC⟩ := hC
  have hA := (hA.after hC).take
  refine o_conv Try.underlying63 Try.underlying3 rfl (w64r' (r := ((refC l : Nat) : Int)) rfl (by omega) (by omega)) ?_
  refine O_calls en38 rfl (q_small (n := refC l) hcl) (fun v2 w2 hC => ?_)
  obtain ⟨rfl, hC⟩ := hC
  have hA := (hA.after hC).take
  refine o_adds rfl rfl (by rw [leN_len]; omega) ?_
  refine o_assign (by conv => lhs; whnf) ?_
  refine O_end ?_
  refine W_ret ?_
  refine ⟨rfl, ?_⟩
  refine ret1 Try.results14 (by conv => lhs; whnf) ?_
  exact ⟨rfl, hA⟩

theorem q_text {w : World} {H : WH} (hR : RdW w H) (hK : Kinds H.x) (hF : Fit H.x) (hl : H.cs.length ≤ 1000000 ∧ H.ps.length ≤ 1000000 ∧ H.vs.length ≤ 1000000 ∧ H.ws.length ≤ 1000000 ∧ H.os.length ≤ 1000000) : Calls Try.prog 15 #[.agg (wdc H).toArray] w fun e w' => ∃ v, e = .returned v ∧ (v = .string ⟨(textP H.x).toArray⟩ ∧ At w No [] w') := by
  obtain ⟨kind, frm, why, cs, ps, vs, ws, os, ⟨CA, Cm, Cc⟩, ⟨PA, Pm, Pc⟩, ⟨VA, Vm, Vc⟩, ⟨NA, Nm, Nc⟩, ⟨OA, Om, Oc⟩⟩ := H
  obtain ⟨hc, hp, hpd, hv, hn, ho, hod⟩ := hR
  dsimp only at hc hp hpd hv hn ho hod hl ⊢
  obtain rfl := hc.lenf (fun _ => rfl) (by decide)
  obtain rfl := hp.lenf (fun _ => rfl) (by decide)
  obtain rfl := hv.lenp
  obtain rfl := hn.lenp
  obtain rfl := ho.lenf (fun _ => rfl) (by decide)
  refine body_in (n := 190) (l := [.agg #[.int .i64 kind, .int .i64 frm, .int .i64 why, .slice CA cs.length Cc, .slice PA ps.length Pc, .slice VA vs.length Vc, .slice NA ws.length Nc, .slice OA os.length Oc]]) en15 rfl Try.ntmps15 rfl ?_
  have hA := At.refl w
  have fk : 0 ≤ kind ∧ kind < 4294967296 := hF.kind
  have ff : 0 ≤ frm ∧ frm < 4294967296 := hF.frm
  have fy : 0 ≤ why ∧ why < 4294967296 := hF.why
  have fcl : cs.length ≤ 64 := hF.csl
  have fc : ∀ y ∈ cs, 0 ≤ y.w ∧ y.w < 4294967296 := hF.cs
  have fpl : ps.length ≤ 64 := by have := hF.psl; rw [show (WH.x _).ps = ps.map (·.1) from rfl, List.length_map] at this; exact this
  have fp : ∀ y ∈ ps, 0 ≤ y.1.f ∧ y.1.f < 4294967296 ∧ 0 ≤ y.1.t ∧ y.1.t < 4294967296 ∧ y.1.d.length ≤ 64 := fun y hy => hF.ps y.1 (List.mem_map.2 ⟨y, hy, rfl⟩)
  have fvl : vs.length ≤ 256 := hF.vsl
  have fnl : ws.length ≤ 64 := hF.wsl
  have fn : ∀ y ∈ ws, 0 ≤ y ∧ y < 4294967296 := hF.ws
  have fol : os.length ≤ 64 := by have := hF.osl; rw [show (WH.x _).os = os.map (·.1) from rfl, List.length_map] at this; exact this
  have fo : ∀ y ∈ os, 0 ≤ y.1.w ∧ y.1.w < 4294967296 ∧ y.1.v.length ≤ 5 := fun y hy => hF.os y.1 (List.mem_map.2 ⟨y, hy, rfl⟩)
  have kc : ∀ y ∈ cs, y.l < 18446744073709551616 ∧ y.k < 18446744073709551616 := fun y hy => (hK.cs y hy).2.2
  have kv : ∀ y ∈ vs, y < 4294967296 := hK.vs
  have ko : ∀ y ∈ os, ∀ n ∈ y.1.v, n < 18446744073709551616 := fun y hy => (hK.os y.1 (List.mem_map.2 ⟨y, hy, rfl⟩)).2.2
  have hl0 : ∀ y ∈ cs, (cdT y).length ≤ 20 := fun y _ => by rw [cdT_len]; exact Nat.le_refl _
  have hl1 : ∀ y ∈ ps, (ppT y.1).length ≤ 76 := fun y hy => by have := fp y hy; rw [ppT_len]; omega
  have hl2 : ∀ y ∈ vs, (leN y 4).length ≤ 4 := fun y _ => by rw [leN_len]; exact Nat.le_refl _
  have hl3 : ∀ y ∈ ws, (iB y).length ≤ 4 := fun y _ => by rw [iB_len]; exact Nat.le_refl _
  have hl4 : ∀ y ∈ os, (ooT y.1).length ≤ 52 := fun y hy => by have := fo y hy; have h2 := ooT_len y.1; omega
  refine W_seq ?_
  refine W_reg ?_ -- 0 ref.go:145
  refine o_box hA (by conv => lhs; whnf) rfl (fun b1 w1 hA => ?_)
  refine o_assign (by conv => lhs; whnf) ?_
  refine O_end ?_
  refine W_seq ?_
  refine W_drawA hA [1, 4, 8, 12] mix rfl rfl (fun w0_1 hA => ?_) -- 1 ref.go:146
  refine D_take 0 rfl (by kernel_rfl) (by rintro _ _ _ ⟨h, _⟩; cases h) rfl (fun h => by cases h) (fun w hA => r_fieldAddr fo29_0 rfl rfl) ?_
  refine D_take 1 rfl (by kernel_rfl) (by rintro _ _ _ ⟨h, _⟩; cases h) rfl (fun _ => hA) (fun w hA => r_load1 ag3 rfl ((hA rfl).c 0 rfl rfl)) ?_
  refine D_take 3 rfl (by kernel_rfl) (by rintro _ _ _ ⟨h, _⟩; cases h) rfl (fun h => by cases h) (fun w hA => r_fieldAddr fo29_1 rfl rfl) ?_
  refine D_take 4 rfl (by kernel_rfl) (by rintro _ _ _ ⟨h, _⟩; cases h) rfl (fun _ => hA) (fun w hA => r_load1 ag3 rfl ((hA rfl).c 0 rfl rfl)) ?_
  refine D_take 7 rfl (by kernel_rfl) (by rintro _ _ _ ⟨h, _⟩; cases h) rfl (fun h => by cases h) (fun w hA => r_fieldAddr fo29_2 rfl rfl) ?_
  refine D_take 8 rfl (by kernel_rfl) (by rintro _ _ _ ⟨h, _⟩; cases h) rfl (fun _ => hA) (fun w hA => r_load1 ag22 rfl ((hA rfl).c 0 rfl rfl)) ?_
  refine D_take 11 rfl (by kernel_rfl) (by rintro _ _ _ ⟨h, _⟩; cases h) rfl (fun h => by cases h) (fun w hA => r_fieldAddr fo29_3 rfl rfl) ?_
  refine D_take 12 rfl (by kernel_rfl) (by rintro _ _ _ ⟨h, _⟩; cases h) rfl (fun _ => hA) (fun w hA => r_load1 ag23 rfl ((hA rfl).c 0 rfl rfl)) ?_
  refine D_take 13 rfl (by kernel_rfl) (by rintro _ _ _ ⟨h, _⟩; cases h) rfl (fun h => by cases h) (fun w hA => r_len Try.underlying23 rfl) ?_
  refine D_run 2 (by kernel_rfl) rfl rfl ?_
  refine O_calls en38 rfl (q_smalli (n := kind) (fk).1 (fk).2) (fun v2 w2 hC => ?_)
  obtain ⟨rfl, hC⟩ := hC
  have hA := (hA.after hC).take
  refine O_end ⟨fun _ _ => hA, ?_⟩
  refine D_run 5 (by kernel_rfl) rfl rfl ?_
  refine O_calls en38 rfl (q_smalli (n := frm) (ff).1 (ff).2) (fun v3 w3 hC => ?_)
  obtain ⟨rfl, hC⟩ := hC
  have hA := (hA.after hC).take
  refine O_end ⟨fun _ _ => hA, ?_⟩
  refine D_take 6 rfl (by kernel_rfl) (by rintro _ _ _ ⟨h, _⟩; cases h) rfl (fun h => by cases h) (fun w hA => r_adds rfl rfl (by simp only [List.length_append, iB_len, leN_len]; omega)) ?_
  refine D_run 9 (by kernel_rfl) rfl rfl ?_
  refine O_calls en38 rfl (q_smalli (n := why) (fy).1 (fy).2) (fun v4 w4 hC => ?_)
  obtain ⟨rfl, hC⟩ := hC
  have hA := (hA.after hC).take
  refine O_end ⟨fun _ _ => hA, ?_⟩
  refine D_take 10 rfl (by kernel_rfl) (by rintro _ _ _ ⟨h, _⟩; cases h) rfl (fun h => by cases h) (fun w hA => r_adds rfl rfl (by simp only [List.length_append, iB_len, leN_len]; omega)) ?_
  refine D_run 14 (by kernel_rfl) rfl rfl ?_
  refine O_calls en38 rfl (q_small (n := cs.length) (by omega)) (fun v5 w5 hC => ?_)
  obtain ⟨rfl, hC⟩ := hC
  have hA := (hA.after hC).take
  refine O_end ⟨fun _ _ => hA, ?_⟩
  refine D_take 15 rfl (by kernel_rfl) (by rintro _ _ _ ⟨h, _⟩; cases h) rfl (fun h => by cases h) (fun w hA => r_adds rfl rfl (by simp only [List.length_append, iB_len, leN_len]; omega)) ?_
  refine D_take 16 rfl (by kernel_rfl) (by rintro _ _ _ ⟨h, _⟩; cases h) rfl (fun h => by cases h) (fun w hA => r_assign (by conv => lhs; whnf)) ?_
  refine D_done (by kernel_rfl) ?_
  refine W_seq ?_
  refine W_seq ?_
  refine W_reg ?_ -- 2 ref.go:147
  refine o_assign (v := .int _ _) rfl ?_
  refine O_end ?_
  refine W_block ?_ -- 0
  obtain ⟨T0, hT0⟩ : ∃ T0, T0 = iB kind ++ iB frm ++ iB why ++ leN cs.length 4 := ⟨_, rfl⟩
  have ht0 : T0.length ≤ 16 := by rw [hT0]; simp only [List.length_append, iB_len, leN_len]; omega
  rw [← hT0]
  refine W_loop (fun kk ρ w' => ∃ (j : Nat), kk = cs.length - j ∧ j ≤ cs.length ∧ ρ 4 = .int .i64 (j : Int) ∧ ρ 3 = .string ⟨(T0 ++ (cs.take j).flatMap cdT).toArray⟩ ∧ ρ 1 = .pointer (some ⟨b1, 0, none⟩) ∧ At w No [Cell b1 29 [.int .i64 kind, .int .i64 frm, .int .i64 why, .slice CA cs.length Cc, .slice PA ps.length Pc, .slice VA vs.length Vc, .slice NA ws.length Nc, .slice OA os.length Oc]] w') cs.length
    ⟨0, by simp, Nat.zero_le _, rfl, by rw [List.take_zero, List.flatMap_nil, List.append_nil]; rfl, rfl, hA⟩ ?_
  clear hA
  rintro kk ρ w1 ⟨j, rfl, hj, hcn, h3, h1, hA⟩
  refine W_known (t := 4) hcn ?_
  refine W_known (t := 3) h3 ?_
  refine W_known (t := 1) h1 ?_
  have hfl : ((cs.take j).flatMap cdT).length ≤ cs.length * 20 := fm_take j hl0
  refine W_seq ?_
  refine W_seq ?_
  refine W_reg ?_ -- 3 ref.go:147
  refine o_move (v := .int _ _) rfl ?_
  refine o_fieldAddr fo29_3 rfl rfl ?_
  refine o_load1 ag23 rfl (hA.c 0 rfl rfl) ?_
  refine o_len Try.underlying23 rfl ?_
  refine o_cmp2 rfl rfl rfl (fun h => ?_) (fun h => ?_)
  · -- True
    have q32 := of_decide_eq_true h
    have hlt : j < cs.length := by omega
    obtain ⟨x, hx⟩ : ∃ x, cs[j]? = some x := ⟨_, List.getElem?_eq_getElem hlt⟩
    obtain ⟨g0, o0, rfl⟩ := hc.addr (by decide) (fm_len (s := 3) (fun _ => rfl) cs) (by omega)
    have hxm := List.mem_of_getElem? hx
    
    refine O_end ?_
    refine W_then rfl ?_
    refine W_skip ?_
    refine W_seq ?_
    refine W_block ?_ -- 1
    refine W_drawA hA [2, 6, 9, 13, 17, 21] mix rfl rfl (fun w0_5 hA => ?_) -- 5 ref.go:148
    refine D_take 0 rfl (by kernel_rfl) (by rintro _ _ _ ⟨h, _⟩; cases h) rfl (fun h => by cases h) (fun w hA => r_move (by conv => lhs; whnf)) ?_
    refine D_take 1 rfl (by kernel_rfl) (by rintro _ _ _ ⟨h, _⟩; cases h) rfl (fun h => by cases h) (fun w hA => r_fieldAddr fo29_3 rfl rfl) ?_
    refine D_take 2 rfl (by kernel_rfl) (by rintro _ _ _ ⟨h, _⟩; cases h) rfl (fun _ => hA) (fun w hA => r_load1 ag23 rfl ((hA rfl).c 0 rfl rfl)) ?_
    refine D_take 3 rfl (by kernel_rfl) (by rintro _ _ _ ⟨h, _⟩; cases h) rfl (fun h => by cases h) (fun w hA => r_move (v := .int _ _) rfl) ?_
    refine D_take 4 rfl (by kernel_rfl) (by rintro _ _ _ ⟨h, _⟩; cases h) rfl (fun h => by cases h) (fun w hA => r_index Try.underlying23 ti50 rfl rfl (by omega) (by omega)) ?_
    refine D_take 5 rfl (by kernel_rfl) (by rintro _ _ _ ⟨h, _⟩; cases h) rfl (fun h => by cases h) (fun w hA => r_fieldAddr fo50_0 rfl rfl) ?_
    refine D_take 6 rfl (by kernel_rfl) (by rintro _ _ _ ⟨h, _⟩; cases h) rfl (fun _ => hA) (fun w hA => r_load1 ag3 rfl ((hc.old (hA rfl)).fld (fun _ => rfl) hx rfl)) ?_
    refine D_take 8 rfl (by kernel_rfl) (by rintro _ _ _ ⟨h, _⟩; cases h) rfl (fun h => by cases h) (fun w hA => r_fieldAddr fo29_3 rfl rfl) ?_
    refine D_take 9 rfl (by kernel_rfl) (by rintro _ _ _ ⟨h, _⟩; cases h) rfl (fun _ => hA) (fun w hA => r_load1 ag23 rfl ((hA rfl).c 0 rfl rfl)) ?_
    refine D_take 10 rfl (by kernel_rfl) (by rintro _ _ _ ⟨h, _⟩; cases h) rfl (fun h => by cases h) (fun w hA => r_move (v := .int _ _) rfl) ?_
    refine D_take 11 rfl (by kernel_rfl) (by rintro _ _ _ ⟨h, _⟩; cases h) rfl (fun h => by cases h) (fun w hA => r_index Try.underlying23 ti50 rfl rfl (by omega) (by omega)) ?_
    refine D_take 12 rfl (by kernel_rfl) (by rintro _ _ _ ⟨h, _⟩; cases h) rfl (fun h => by cases h) (fun w hA => r_fieldAddr fo50_1 rfl rfl) ?_
    refine D_take 13 rfl (by kernel_rfl) (by rintro _ _ _ ⟨h, _⟩; cases h) rfl (fun _ => hA) (fun w hA => r_load1 ag48 rfl ((hc.old (hA rfl)).fld (fun _ => rfl) hx rfl)) ?_
    refine D_take 16 rfl (by kernel_rfl) (by rintro _ _ _ ⟨h, _⟩; cases h) rfl (fun h => by cases h) (fun w hA => r_fieldAddr fo29_3 rfl rfl) ?_
    refine D_take 17 rfl (by kernel_rfl) (by rintro _ _ _ ⟨h, _⟩; cases h) rfl (fun _ => hA) (fun w hA => r_load1 ag23 rfl ((hA rfl).c 0 rfl rfl)) ?_
    refine D_take 18 rfl (by kernel_rfl) (by rintro _ _ _ ⟨h, _⟩; cases h) rfl (fun h => by cases h) (fun w hA => r_move (v := .int _ _) rfl) ?_
    refine D_take 19 rfl (by kernel_rfl) (by rintro _ _ _ ⟨h, _⟩; cases h) rfl (fun h => by cases h) (fun w hA => r_index Try.underlying23 ti50 rfl rfl (by omega) (by omega)) ?_
    refine D_take 20 rfl (by kernel_rfl) (by rintro _ _ _ ⟨h, _⟩; cases h) rfl (fun h => by cases h) (fun w hA => r_fieldAddr fo50_2 rfl rfl) ?_
    refine D_take 21 rfl (by kernel_rfl) (by rintro _ _ _ ⟨h, _⟩; cases h) rfl (fun _ => hA) (fun w hA => r_load1 ag48 rfl ((hc.old (hA rfl)).fld (fun _ => rfl) hx rfl)) ?_
    refine D_run 7 (by kernel_rfl) rfl rfl ?_
    refine O_calls en38 rfl (q_smalli (n := x.w) (fc x hxm).1 (fc x hxm).2) (fun v6 w6 hC => ?_)
    obtain ⟨rfl, hC⟩ := hC
    have hA := (hA.after hC).take
    refine O_end ⟨fun _ _ => hA, ?_⟩
    refine D_run 14 (by kernel_rfl) rfl rfl ?_
    refine O_calls en40 rfl (q_great (n := x.l) (kc x hxm).1) (fun v7 w7 hC => ?_)
    obtain ⟨rfl, hC⟩ := hC
    have hA := (hA.after hC).take
    refine O_end ⟨fun _ _ => hA, ?_⟩
    refine D_take 15 rfl (by kernel_rfl) (by rintro _ _ _ ⟨h, _⟩; cases h) rfl (fun h => by cases h) (fun w hA => r_adds rfl rfl (by simp only [List.length_append, iB_len, leN_len]; omega)) ?_
    refine D_run 22 (by kernel_rfl) rfl rfl ?_
    refine O_calls en40 rfl (q_great (n := x.k) (kc x hxm).2) (fun v8 w8 hC => ?_)
    obtain ⟨rfl, hC⟩ := hC
    have hA := (hA.after hC).take
    refine O_end ⟨fun _ _ => hA, ?_⟩
    refine D_take 23 rfl (by kernel_rfl) (by rintro _ _ _ ⟨h, _⟩; cases h) rfl (fun h => by cases h) (fun w hA => r_adds rfl rfl (by simp only [List.length_append, iB_len, leN_len]; omega)) ?_
    refine D_take 24 rfl (by kernel_rfl) (by rintro _ _ _ ⟨h, _⟩; cases h) rfl (fun h => by cases h) (fun w hA => r_adds rfl rfl (by simp only [List.length_append, iB_len, leN_len]; omega)) ?_
    refine D_take 25 rfl (by kernel_rfl) (by rintro _ _ _ ⟨h, _⟩; cases h) rfl (fun h => by cases h) (fun w hA => r_assign (by conv => lhs; whnf)) ?_
    refine D_done (by kernel_rfl) ?_
    refine W_reg ?_ -- 4 ref.go:147
    refine o_move (v := .int _ _) rfl ?_
    refine o_add rfl rfl (w64 (r := ((j + 1 : Nat) : Int)) (by omega) (by omega) (by omega)) ?_
    refine o_assign (v := .int _ _) rfl ?_
    refine O_end ?_
    refine ⟨cs.length - (j + 1), by omega, j + 1, rfl, by omega, rfl, ?_, rfl, hA⟩
    have hst : T0 ++ (cs.take (j + 1)).flatMap cdT = T0 ++ (cs.take j).flatMap cdT ++ (iB x.w ++ leN x.l 8 ++ leN x.k 8) := by rw [List.take_add_one, hx, List.flatMap_append]; simp [cdT, ppT, ooT]
    rw [hst]
    rfl
  · -- False
    have q32 := of_decide_eq_false h
    obtain rfl : j = cs.length := by omega
    rw [List.take_length] at hfl
    rw [List.take_length]
    refine O_end ?_
    refine W_else rfl ?_
    refine W_exit ?_
    refine xb_hit ?_
    refine W_seq ?_
    refine W_reg ?_ -- 6 ref.go:150
    refine o_move (by conv => lhs; whnf) ?_
    refine o_fieldAddr fo29_4 rfl rfl ?_
    refine o_load1 ag24 rfl (hA.c 0 rfl rfl) ?_
    refine o_len Try.underlying24 rfl ?_
    refine O_calls en38 rfl (q_small (n := ps.length) (by omega)) (fun v9 w9 hC => ?_)
    obtain ⟨rfl, hC⟩ := hC
    have hA := (hA.after hC).take
    refine o_adds rfl rfl (by simp only [List.length_append, iB_len, leN_len]; omega) ?_
    refine o_assign (by conv => lhs; whnf) ?_
    refine O_end ?_
    refine W_seq ?_
    refine W_seq ?_
    refine W_reg ?_ -- 7 ref.go:151
    refine o_assign (v := .int _ _) rfl ?_
    refine O_end ?_
    refine W_block ?_ -- 2
    obtain ⟨T1, hT1⟩ : ∃ T1, T1 = T0 ++ cs.flatMap cdT ++ leN ps.length 4 := ⟨_, rfl⟩
    have ht1 : T1.length ≤ 1300 := by rw [hT1]; simp only [List.length_append, iB_len, leN_len]; omega
    rw [← hT1]
    refine W_loop (fun kk ρ w' => ∃ (j : Nat), kk = ps.length - j ∧ j ≤ ps.length ∧ ρ 5 = .int .i64 (j : Int) ∧ ρ 3 = .string ⟨(T1 ++ (ps.take j).flatMap (fun (y : Pp × Sl) => ppT y.1)).toArray⟩ ∧ ρ 1 = .pointer (some ⟨b1, 0, none⟩) ∧ At w No [Cell b1 29 [.int .i64 kind, .int .i64 frm, .int .i64 why, .slice CA cs.length Cc, .slice PA ps.length Pc, .slice VA vs.length Vc, .slice NA ws.length Nc, .slice OA os.length Oc]] w') ps.length
      ⟨0, by simp, Nat.zero_le _, rfl, by rw [List.take_zero, List.flatMap_nil, List.append_nil]; rfl, rfl, hA⟩ ?_
    clear hA
    rintro kk ρ w1 ⟨j, rfl, hj, hcn, h3, h1, hA⟩
    refine W_known (t := 5) hcn ?_
    refine W_known (t := 3) h3 ?_
    refine W_known (t := 1) h1 ?_
    have hfl : ((ps.take j).flatMap (fun (y : Pp × Sl) => ppT y.1)).length ≤ ps.length * 76 := fm_take j hl1
    refine W_seq ?_
    refine W_seq ?_
    refine W_reg ?_ -- 8 ref.go:151
    refine o_move (v := .int _ _) rfl ?_
    refine o_fieldAddr fo29_4 rfl rfl ?_
    refine o_load1 ag24 rfl (hA.c 0 rfl rfl) ?_
    refine o_len Try.underlying24 rfl ?_
    refine o_cmp2 rfl rfl rfl (fun h => ?_) (fun h => ?_)
    · -- True
      have q70 := of_decide_eq_true h
      have hlt : j < ps.length := by omega
      obtain ⟨x, hx⟩ : ∃ x, ps[j]? = some x := ⟨_, List.getElem?_eq_getElem hlt⟩
      obtain ⟨g0, o0, rfl⟩ := hp.addr (by decide) (fm_len (s := 3) (fun _ => rfl) ps) (by omega)
      have hxm := List.mem_of_getElem? hx
      obtain ⟨⟨xf, xt, xd⟩, ⟨XA, Xm, Xc⟩⟩ := x
      have hxd := hpd _ hxm
      dsimp only at hxd
      obtain rfl := hxd.lenp
      have fx := fp _ hxm
      dsimp only at fx
      refine O_end ?_
      refine W_then rfl ?_
      refine W_skip ?_
      refine W_seq ?_
      refine W_block ?_ -- 3
      refine W_drawA hA [2, 6, 9, 13, 17, 21] mix rfl rfl (fun w0_10 hA => ?_) -- 10 ref.go:152
      refine D_take 0 rfl (by kernel_rfl) (by rintro _ _ _ ⟨h, _⟩; cases h) rfl (fun h => by cases h) (fun w hA => r_move (by conv => lhs; whnf)) ?_
      refine D_take 1 rfl (by kernel_rfl) (by rintro _ _ _ ⟨h, _⟩; cases h) rfl (fun h => by cases h) (fun w hA => r_fieldAddr fo29_4 rfl rfl) ?_
      refine D_take 2 rfl (by kernel_rfl) (by rintro _ _ _ ⟨h, _⟩; cases h) rfl (fun _ => hA) (fun w hA => r_load1 ag24 rfl ((hA rfl).c 0 rfl rfl)) ?_
      refine D_take 3 rfl (by kernel_rfl) (by rintro _ _ _ ⟨h, _⟩; cases h) rfl (fun h => by cases h) (fun w hA => r_move (v := .int _ _) rfl) ?_
      refine D_take 4 rfl (by kernel_rfl) (by rintro _ _ _ ⟨h, _⟩; cases h) rfl (fun h => by cases h) (fun w hA => r_index Try.underlying24 ti52 rfl rfl (by omega) (by omega)) ?_
      refine D_take 5 rfl (by kernel_rfl) (by rintro _ _ _ ⟨h, _⟩; cases h) rfl (fun h => by cases h) (fun w hA => r_fieldAddr fo52_0 rfl rfl) ?_
      refine D_take 6 rfl (by kernel_rfl) (by rintro _ _ _ ⟨h, _⟩; cases h) rfl (fun _ => hA) (fun w hA => r_load1 ag3 rfl ((hp.old (hA rfl)).fld (fun _ => rfl) hx rfl)) ?_
      refine D_take 8 rfl (by kernel_rfl) (by rintro _ _ _ ⟨h, _⟩; cases h) rfl (fun h => by cases h) (fun w hA => r_fieldAddr fo29_4 rfl rfl) ?_
      refine D_take 9 rfl (by kernel_rfl) (by rintro _ _ _ ⟨h, _⟩; cases h) rfl (fun _ => hA) (fun w hA => r_load1 ag24 rfl ((hA rfl).c 0 rfl rfl)) ?_
      refine D_take 10 rfl (by kernel_rfl) (by rintro _ _ _ ⟨h, _⟩; cases h) rfl (fun h => by cases h) (fun w hA => r_move (v := .int _ _) rfl) ?_
      refine D_take 11 rfl (by kernel_rfl) (by rintro _ _ _ ⟨h, _⟩; cases h) rfl (fun h => by cases h) (fun w hA => r_index Try.underlying24 ti52 rfl rfl (by omega) (by omega)) ?_
      refine D_take 12 rfl (by kernel_rfl) (by rintro _ _ _ ⟨h, _⟩; cases h) rfl (fun h => by cases h) (fun w hA => r_fieldAddr fo52_1 rfl rfl) ?_
      refine D_take 13 rfl (by kernel_rfl) (by rintro _ _ _ ⟨h, _⟩; cases h) rfl (fun _ => hA) (fun w hA => r_load1 ag3 rfl ((hp.old (hA rfl)).fld (fun _ => rfl) hx rfl)) ?_
      refine D_take 16 rfl (by kernel_rfl) (by rintro _ _ _ ⟨h, _⟩; cases h) rfl (fun h => by cases h) (fun w hA => r_fieldAddr fo29_4 rfl rfl) ?_
      refine D_take 17 rfl (by kernel_rfl) (by rintro _ _ _ ⟨h, _⟩; cases h) rfl (fun _ => hA) (fun w hA => r_load1 ag24 rfl ((hA rfl).c 0 rfl rfl)) ?_
      refine D_take 18 rfl (by kernel_rfl) (by rintro _ _ _ ⟨h, _⟩; cases h) rfl (fun h => by cases h) (fun w hA => r_move (v := .int _ _) rfl) ?_
      refine D_take 19 rfl (by kernel_rfl) (by rintro _ _ _ ⟨h, _⟩; cases h) rfl (fun h => by cases h) (fun w hA => r_index Try.underlying24 ti52 rfl rfl (by omega) (by omega)) ?_
      refine D_take 20 rfl (by kernel_rfl) (by rintro _ _ _ ⟨h, _⟩; cases h) rfl (fun h => by cases h) (fun w hA => r_fieldAddr fo52_2 rfl rfl) ?_
      refine D_take 21 rfl (by kernel_rfl) (by rintro _ _ _ ⟨h, _⟩; cases h) rfl (fun _ => hA) (fun w hA => r_load1 ag32 rfl ((hp.old (hA rfl)).fld (fun _ => rfl) hx rfl)) ?_
      refine D_run 7 (by kernel_rfl) rfl rfl ?_
      refine O_calls en38 rfl (q_smalli (n := xf) ((⟨fx.1, fx.2.1⟩ : 0 ≤ xf ∧ xf < 4294967296)).1 ((⟨fx.1, fx.2.1⟩ : 0 ≤ xf ∧ xf < 4294967296)).2) (fun v10 w10 hC => ?_)
      obtain ⟨rfl, hC⟩ := hC
      have hA := (hA.after hC).take
      refine O_end ⟨fun _ _ => hA, ?_⟩
      refine D_run 14 (by kernel_rfl) rfl rfl ?_
      refine O_calls en38 rfl (q_smalli (n := xt) ((⟨fx.2.2.1, fx.2.2.2.1⟩ : 0 ≤ xt ∧ xt < 4294967296)).1 ((⟨fx.2.2.1, fx.2.2.2.1⟩ : 0 ≤ xt ∧ xt < 4294967296)).2) (fun v11 w11 hC => ?_)
      obtain ⟨rfl, hC⟩ := hC
      have hA := (hA.after hC).take
      refine O_end ⟨fun _ _ => hA, ?_⟩
      refine D_take 15 rfl (by kernel_rfl) (by rintro _ _ _ ⟨h, _⟩; cases h) rfl (fun h => by cases h) (fun w hA => r_adds rfl rfl (by simp only [List.length_append, iB_len, leN_len]; omega)) ?_
      refine D_run 22 (by kernel_rfl) rfl rfl ?_
      refine O_calls en41 rfl (q_bytes (hxd.old hA) (by omega)) (fun v12 w12 hC => ?_)
      obtain ⟨rfl, hC⟩ := hC
      have hA := (hA.after hC).take
      refine O_end ⟨fun _ _ => hA, ?_⟩
      refine D_take 23 rfl (by kernel_rfl) (by rintro _ _ _ ⟨h, _⟩; cases h) rfl (fun h => by cases h) (fun w hA => r_adds rfl rfl (by simp only [List.length_append, iB_len, leN_len]; omega)) ?_
      refine D_take 24 rfl (by kernel_rfl) (by rintro _ _ _ ⟨h, _⟩; cases h) rfl (fun h => by cases h) (fun w hA => r_adds rfl rfl (by simp only [List.length_append, iB_len, leN_len]; omega)) ?_
      refine D_take 25 rfl (by kernel_rfl) (by rintro _ _ _ ⟨h, _⟩; cases h) rfl (fun h => by cases h) (fun w hA => r_assign (by conv => lhs; whnf)) ?_
      refine D_done (by kernel_rfl) ?_
      refine W_reg ?_ -- 9 ref.go:151
      refine o_move (v := .int _ _) rfl ?_
      refine o_add rfl rfl (w64 (r := ((j + 1 : Nat) : Int)) (by omega) (by omega) (by omega)) ?_
      refine o_assign (v := .int _ _) rfl ?_
      refine O_end ?_
      refine ⟨ps.length - (j + 1), by omega, j + 1, rfl, by omega, rfl, ?_, rfl, hA⟩
      have hst : T1 ++ (ps.take (j + 1)).flatMap (fun (y : Pp × Sl) => ppT y.1) = T1 ++ (ps.take j).flatMap (fun (y : Pp × Sl) => ppT y.1) ++ (iB xf ++ iB xt ++ (leN xd.length 4 ++ xd)) := by rw [List.take_add_one, hx, List.flatMap_append]; simp [cdT, ppT, ooT]
      rw [hst]
      rfl
    · -- False
      have q70 := of_decide_eq_false h
      obtain rfl : j = ps.length := by omega
      rw [List.take_length] at hfl
      rw [List.take_length]
      refine O_end ?_
      refine W_else rfl ?_
      refine W_exit ?_
      refine xb_hit ?_
      refine W_seq ?_
      refine W_reg ?_ -- 11 ref.go:154
      refine o_move (by conv => lhs; whnf) ?_
      refine o_fieldAddr fo29_5 rfl rfl ?_
      refine o_load1 ag25 rfl (hA.c 0 rfl rfl) ?_
      refine o_len Try.underlying25 rfl ?_
      refine O_calls en38 rfl (q_small (n := vs.length) (by omega)) (fun v13 w13 hC => ?_)
      obtain ⟨rfl, hC⟩ := hC
      have hA := (hA.after hC).take
      refine o_adds rfl rfl (by simp only [List.length_append, iB_len, leN_len]; omega) ?_
      refine o_assign (by conv => lhs; whnf) ?_
      refine O_end ?_
      refine W_seq ?_
      refine W_seq ?_
      refine W_reg ?_ -- 12 ref.go:155
      refine o_assign (v := .int _ _) rfl ?_
      refine O_end ?_
      refine W_block ?_ -- 4
      obtain ⟨T2, hT2⟩ : ∃ T2, T2 = T1 ++ ps.flatMap (fun (y : Pp × Sl) => ppT y.1) ++ leN vs.length 4 := ⟨_, rfl⟩
      have ht2 : T2.length ≤ 6168 := by rw [hT2]; simp only [List.length_append, iB_len, leN_len]; omega
      rw [← hT2]
      refine W_loop (fun kk ρ w' => ∃ (j : Nat), kk = vs.length - j ∧ j ≤ vs.length ∧ ρ 6 = .int .i64 (j : Int) ∧ ρ 3 = .string ⟨(T2 ++ (vs.take j).flatMap (fun n => leN n 4)).toArray⟩ ∧ ρ 1 = .pointer (some ⟨b1, 0, none⟩) ∧ At w No [Cell b1 29 [.int .i64 kind, .int .i64 frm, .int .i64 why, .slice CA cs.length Cc, .slice PA ps.length Pc, .slice VA vs.length Vc, .slice NA ws.length Nc, .slice OA os.length Oc]] w') vs.length
        ⟨0, by simp, Nat.zero_le _, rfl, by rw [List.take_zero, List.flatMap_nil, List.append_nil]; rfl, rfl, hA⟩ ?_
      clear hA
      rintro kk ρ w1 ⟨j, rfl, hj, hcn, h3, h1, hA⟩
      refine W_known (t := 6) hcn ?_
      refine W_known (t := 3) h3 ?_
      refine W_known (t := 1) h1 ?_
      have hfl : ((vs.take j).flatMap (fun n => leN n 4)).length ≤ vs.length * 4 := fm_take j hl2
      refine W_seq ?_
      refine W_seq ?_
      refine W_reg ?_ -- 13 ref.go:155
      refine o_move (v := .int _ _) rfl ?_
      refine o_fieldAddr fo29_5 rfl rfl ?_
      refine o_load1 ag25 rfl (hA.c 0 rfl rfl) ?_
      refine o_len Try.underlying25 rfl ?_
      refine o_cmp2 rfl rfl rfl (fun h => ?_) (fun h => ?_)
      · -- True
        have q108 := of_decide_eq_true h
        have hlt : j < vs.length := by omega
        obtain ⟨x, hx⟩ : ∃ x, vs[j]? = some x := ⟨_, List.getElem?_eq_getElem hlt⟩
        obtain ⟨g0, o0, rfl⟩ := hv.addr (by decide) (show _ = vs.length * 1 by simp) (by omega)
        have hxm := List.mem_of_getElem? hx
        
        refine O_end ?_
        refine W_then rfl ?_
        refine W_skip ?_
        refine W_seq ?_
        refine W_block ?_ -- 5
        refine W_reg ?_ -- 15 ref.go:156
        refine o_move (by conv => lhs; whnf) ?_
        refine o_fieldAddr fo29_5 rfl rfl ?_
        refine o_load1 ag25 rfl (hA.c 0 rfl rfl) ?_
        refine o_move (v := .int _ _) rfl ?_
        refine o_index Try.underlying25 ti63 rfl rfl (by omega) (by omega) ?_
        refine o_load1 ag63 rfl ((hv.old hA).elt hx) ?_
        refine o_conv Try.underlying63 Try.underlying3 rfl (w64 rfl (by omega) (by have := kv x hxm; omega)) ?_
        refine O_calls en38 rfl (q_small (n := x) (kv x hxm)) (fun v14 w14 hC => ?_)
        obtain ⟨rfl, hC⟩ := hC
        have hA := (hA.after hC).take
        refine o_adds rfl rfl (by simp only [List.length_append, iB_len, leN_len]; omega) ?_
        refine o_assign (by conv => lhs; whnf) ?_
        refine O_end ?_
        refine W_reg ?_ -- 14 ref.go:155
        refine o_move (v := .int _ _) rfl ?_
        refine o_add rfl rfl (w64 (r := ((j + 1 : Nat) : Int)) (by omega) (by omega) (by omega)) ?_
        refine o_assign (v := .int _ _) rfl ?_
        refine O_end ?_
        refine ⟨vs.length - (j + 1), by omega, j + 1, rfl, by omega, rfl, ?_, rfl, hA⟩
        have hst : T2 ++ (vs.take (j + 1)).flatMap (fun n => leN n 4) = T2 ++ (vs.take j).flatMap (fun n => leN n 4) ++ leN x 4 := by rw [List.take_add_one, hx, List.flatMap_append]; simp [cdT, ppT, ooT]
        rw [hst]
        rfl
      · -- False
        have q108 := of_decide_eq_false h
        obtain rfl : j = vs.length := by omega
        rw [List.take_length] at hfl
        rw [List.take_length]
        refine O_end ?_
        refine W_else rfl ?_
        refine W_exit ?_
        refine xb_hit ?_
        refine W_seq ?_
        refine W_reg ?_ -- 16 ref.go:158
        refine o_move (by conv => lhs; whnf) ?_
        refine o_fieldAddr fo29_6 rfl rfl ?_
        refine o_load1 ag26 rfl (hA.c 0 rfl rfl) ?_
        refine o_len Try.underlying26 rfl ?_
        refine O_calls en38 rfl (q_small (n := ws.length) (by omega)) (fun v15 w15 hC => ?_)
        obtain ⟨rfl, hC⟩ := hC
        have hA := (hA.after hC).take
        refine o_adds rfl rfl (by simp only [List.length_append, iB_len, leN_len]; omega) ?_
        refine o_assign (by conv => lhs; whnf) ?_
        refine O_end ?_
        refine W_seq ?_
        refine W_seq ?_
        refine W_reg ?_ -- 17 ref.go:159
        refine o_assign (v := .int _ _) rfl ?_
        refine O_end ?_
        refine W_block ?_ -- 6
        obtain ⟨T3, hT3⟩ : ∃ T3, T3 = T2 ++ vs.flatMap (fun n => leN n 4) ++ leN ws.length 4 := ⟨_, rfl⟩
        have ht3 : T3.length ≤ 7196 := by rw [hT3]; simp only [List.length_append, iB_len, leN_len]; omega
        rw [← hT3]
        refine W_loop (fun kk ρ w' => ∃ (j : Nat), kk = ws.length - j ∧ j ≤ ws.length ∧ ρ 7 = .int .i64 (j : Int) ∧ ρ 3 = .string ⟨(T3 ++ (ws.take j).flatMap iB).toArray⟩ ∧ ρ 1 = .pointer (some ⟨b1, 0, none⟩) ∧ At w No [Cell b1 29 [.int .i64 kind, .int .i64 frm, .int .i64 why, .slice CA cs.length Cc, .slice PA ps.length Pc, .slice VA vs.length Vc, .slice NA ws.length Nc, .slice OA os.length Oc]] w') ws.length
          ⟨0, by simp, Nat.zero_le _, rfl, by rw [List.take_zero, List.flatMap_nil, List.append_nil]; rfl, rfl, hA⟩ ?_
        clear hA
        rintro kk ρ w1 ⟨j, rfl, hj, hcn, h3, h1, hA⟩
        refine W_known (t := 7) hcn ?_
        refine W_known (t := 3) h3 ?_
        refine W_known (t := 1) h1 ?_
        have hfl : ((ws.take j).flatMap iB).length ≤ ws.length * 4 := fm_take j hl3
        refine W_seq ?_
        refine W_seq ?_
        refine W_reg ?_ -- 18 ref.go:159
        refine o_move (v := .int _ _) rfl ?_
        refine o_fieldAddr fo29_6 rfl rfl ?_
        refine o_load1 ag26 rfl (hA.c 0 rfl rfl) ?_
        refine o_len Try.underlying26 rfl ?_
        refine o_cmp2 rfl rfl rfl (fun h => ?_) (fun h => ?_)
        · -- True
          have q130 := of_decide_eq_true h
          have hlt : j < ws.length := by omega
          obtain ⟨x, hx⟩ : ∃ x, ws[j]? = some x := ⟨_, List.getElem?_eq_getElem hlt⟩
          obtain ⟨g0, o0, rfl⟩ := hn.addr (by decide) (show _ = ws.length * 1 by simp) (by omega)
          have hxm := List.mem_of_getElem? hx
          
          refine O_end ?_
          refine W_then rfl ?_
          refine W_skip ?_
          refine W_seq ?_
          refine W_block ?_ -- 7
          refine W_reg ?_ -- 20 ref.go:160
          refine o_move (by conv => lhs; whnf) ?_
          refine o_fieldAddr fo29_6 rfl rfl ?_
          refine o_load1 ag26 rfl (hA.c 0 rfl rfl) ?_
          refine o_move (v := .int _ _) rfl ?_
          refine o_index Try.underlying26 ti3 rfl rfl (by omega) (by omega) ?_
          refine o_load1 ag3 rfl ((hn.old hA).elt hx) ?_
          refine O_calls en38 rfl (q_smalli (n := x) (fn x hxm).1 (fn x hxm).2) (fun v16 w16 hC => ?_)
          obtain ⟨rfl, hC⟩ := hC
          have hA := (hA.after hC).take
          refine o_adds rfl rfl (by simp only [List.length_append, iB_len, leN_len]; omega) ?_
          refine o_assign (by conv => lhs; whnf) ?_
          refine O_end ?_
          refine W_reg ?_ -- 19 ref.go:159
          refine o_move (v := .int _ _) rfl ?_
          refine o_add rfl rfl (w64 (r := ((j + 1 : Nat) : Int)) (by omega) (by omega) (by omega)) ?_
          refine o_assign (v := .int _ _) rfl ?_
          refine O_end ?_
          refine ⟨ws.length - (j + 1), by omega, j + 1, rfl, by omega, rfl, ?_, rfl, hA⟩
          have hst : T3 ++ (ws.take (j + 1)).flatMap iB = T3 ++ (ws.take j).flatMap iB ++ iB x := by rw [List.take_add_one, hx, List.flatMap_append]; simp [cdT, ppT, ooT]
          rw [hst]
          rfl
        · -- False
          have q130 := of_decide_eq_false h
          obtain rfl : j = ws.length := by omega
          rw [List.take_length] at hfl
          rw [List.take_length]
          refine O_end ?_
          refine W_else rfl ?_
          refine W_exit ?_
          refine xb_hit ?_
          refine W_seq ?_
          refine W_reg ?_ -- 21 ref.go:162
          refine o_move (by conv => lhs; whnf) ?_
          refine o_fieldAddr fo29_7 rfl rfl ?_
          refine o_load1 ag27 rfl (hA.c 0 rfl rfl) ?_
          refine o_len Try.underlying27 rfl ?_
          refine O_calls en38 rfl (q_small (n := os.length) (by omega)) (fun v17 w17 hC => ?_)
          obtain ⟨rfl, hC⟩ := hC
          have hA := (hA.after hC).take
          refine o_adds rfl rfl (by simp only [List.length_append, iB_len, leN_len]; omega) ?_
          refine o_assign (by conv => lhs; whnf) ?_
          refine O_end ?_
          refine W_seq ?_
          refine W_seq ?_
          refine W_reg ?_ -- 22 ref.go:163
          refine o_assign (v := .int _ _) rfl ?_
          refine O_end ?_
          refine W_block ?_ -- 8
          obtain ⟨T4, hT4⟩ : ∃ T4, T4 = T3 ++ ws.flatMap iB ++ leN os.length 4 := ⟨_, rfl⟩
          have ht4 : T4.length ≤ 7456 := by rw [hT4]; simp only [List.length_append, iB_len, leN_len]; omega
          rw [← hT4]
          refine W_loop (fun kk ρ w' => ∃ (j : Nat), kk = os.length - j ∧ j ≤ os.length ∧ ρ 8 = .int .i64 (j : Int) ∧ ρ 3 = .string ⟨(T4 ++ (os.take j).flatMap (fun (y : Oo × Sl) => ooT y.1)).toArray⟩ ∧ ρ 1 = .pointer (some ⟨b1, 0, none⟩) ∧ At w No [Cell b1 29 [.int .i64 kind, .int .i64 frm, .int .i64 why, .slice CA cs.length Cc, .slice PA ps.length Pc, .slice VA vs.length Vc, .slice NA ws.length Nc, .slice OA os.length Oc]] w') os.length
            ⟨0, by simp, Nat.zero_le _, rfl, by rw [List.take_zero, List.flatMap_nil, List.append_nil]; rfl, rfl, hA⟩ ?_
          clear hA
          rintro kk ρ w1 ⟨j, rfl, hj, hcn, h3, h1, hA⟩
          refine W_known (t := 8) hcn ?_
          refine W_known (t := 3) h3 ?_
          refine W_known (t := 1) h1 ?_
          have hfl : ((os.take j).flatMap (fun (y : Oo × Sl) => ooT y.1)).length ≤ os.length * 52 := fm_take j hl4
          refine W_seq ?_
          refine W_seq ?_
          refine W_reg ?_ -- 23 ref.go:163
          refine o_move (v := .int _ _) rfl ?_
          refine o_fieldAddr fo29_7 rfl rfl ?_
          refine o_load1 ag27 rfl (hA.c 0 rfl rfl) ?_
          refine o_len Try.underlying27 rfl ?_
          refine o_cmp2 rfl rfl rfl (fun h => ?_) (fun h => ?_)
          · -- True
            have q151 := of_decide_eq_true h
            have hlt : j < os.length := by omega
            obtain ⟨x, hx⟩ : ∃ x, os[j]? = some x := ⟨_, List.getElem?_eq_getElem hlt⟩
            obtain ⟨g0, o0, rfl⟩ := ho.addr (by decide) (fm_len (s := 3) (fun _ => rfl) os) (by omega)
            have hxm := List.mem_of_getElem? hx
            obtain ⟨⟨xw, xo, xv⟩, ⟨XA, Xm, Xc⟩⟩ := x
            have hxd := hod _ hxm
            dsimp only at hxd
            obtain rfl := hxd.lenp
            have fx := fo _ hxm
            have kx := ko _ hxm
            dsimp only at fx kx
            refine O_end ?_
            refine W_then rfl ?_
            refine W_skip ?_
            refine W_seq ?_
            refine W_block ?_ -- 9
            refine W_seq ?_
            refine W_reg ?_ -- 25 ref.go:164
            refine o_fieldAddr fo29_7 rfl rfl ?_
            refine o_load1 ag27 rfl (hA.c 0 rfl rfl) ?_
            refine o_move (v := .int _ _) rfl ?_
            refine o_index Try.underlying27 ti55 rfl rfl (by omega) (by omega) ?_
            refine o_loadN ag55 ti55 rfl (cs := ooc (⟨xw, xo, xv⟩, ⟨XA, xv.length, Xc⟩)) rfl (fun j v hj => (ho.old hA).fld (fun _ => rfl) hx hj) ?_
            refine o_alloc hA ti55 rfl (fun b18 w18 hA => ?_)
            refine o_store (cs' := [_, _, _]) (i := 0) hA rfl (by conv => lhs; whnf) rfl ti55 rfl rfl rfl rfl (fun w19 hA => ?_)
            refine O_end ?_
            refine W_seq ?_
            refine W_reg ?_ -- 26 ref.go:165
            refine o_assign (v := .int _ _) rfl ?_
            refine O_end ?_
            refine W_seq ?_
            refine W_seq ?_
            refine W_reg ?_ -- 27 ref.go:166
            refine o_fieldAddr fo55_1 rfl rfl ?_
            refine o_load1 ag4 rfl (hA.c 0 rfl rfl) ?_
            refine O_end ?_
            refine W_cut (fun ρ w' => ρ 8 = .int .i64 (j : Int) ∧ ρ 1 = .pointer (some ⟨b1, 0, none⟩) ∧ ρ 9 = .pointer (some ⟨b18, 0, none⟩) ∧ ρ 3 = .string ⟨(T4 ++ (os.take j).flatMap (fun (y : Oo × Sl) => ooT y.1)).toArray⟩ ∧ ρ 10 = .int .i64 (((if xo = true then 1 else 0) : Nat) : Int) ∧ At w No [Cell b18 55 (ooc (⟨xw, xo, xv⟩, ⟨XA, xv.length, Xc⟩)), Cell b1 29 [.int .i64 kind, .int .i64 frm, .int .i64 why, .slice CA cs.length Cc, .slice PA ps.length Pc, .slice VA vs.length Vc, .slice NA ws.length Nc, .slice (some ⟨g0, o0, none⟩) os.length Oc]] w') ?_ ?_
            · -- up to the cut
              refine W_if rfl (fun hcc => ?_) (fun hcc => ?_)
              · -- True
                have q160 := hcc
                refine W_reg ?_ -- 28 ref.go:167
                refine o_assign (v := .int _ _) rfl ?_
                refine O_end ?_
                exact ⟨rfl, rfl, rfl, rfl, by rw [show xo = true from hcc]; rfl, hA⟩
              · -- False
                have q160 := hcc
                refine W_skip ?_
                exact ⟨rfl, rfl, rfl, rfl, by rw [show xo = false from hcc]; rfl, hA⟩
            · -- behind it
              clear hA
              rintro ρ w1 ⟨h8, h1, h9, h3, h10, hA⟩
              refine W_known (t := 8) h8 ?_
              refine W_known (t := 1) h1 ?_
              refine W_known (t := 9) h9 ?_
              refine W_known (t := 3) h3 ?_
              refine W_known (t := 10) h10 ?_
              refine W_seq ?_
              refine W_drawA hA [2, 8] mix rfl rfl (fun w0_29 hA => ?_) -- 29 ref.go:169
              refine D_take 0 rfl (by kernel_rfl) (by rintro _ _ _ ⟨h, _⟩; cases h) rfl (fun h => by cases h) (fun w hA => r_move (by conv => lhs; whnf)) ?_
              refine D_take 1 rfl (by kernel_rfl) (by rintro _ _ _ ⟨h, _⟩; cases h) rfl (fun h => by cases h) (fun w hA => r_fieldAddr fo55_0 rfl rfl) ?_
              refine D_take 2 rfl (by kernel_rfl) (by rintro _ _ _ ⟨h, _⟩; cases h) rfl (fun _ => hA) (fun w hA => r_load1 ag3 rfl ((hA rfl).c 0 rfl rfl)) ?_
              refine D_take 4 rfl (by kernel_rfl) (by rintro _ _ _ ⟨h, _⟩; cases h) rfl (fun h => by cases h) (fun w hA => r_move (v := .int _ _) rfl) ?_
              refine D_take 7 rfl (by kernel_rfl) (by rintro _ _ _ ⟨h, _⟩; cases h) rfl (fun h => by cases h) (fun w hA => r_fieldAddr fo55_2 rfl rfl) ?_
              refine D_take 8 rfl (by kernel_rfl) (by rintro _ _ _ ⟨h, _⟩; cases h) rfl (fun _ => hA) (fun w hA => r_load1 ag53 rfl ((hA rfl).c 0 rfl rfl)) ?_
              refine D_take 9 rfl (by kernel_rfl) (by rintro _ _ _ ⟨h, _⟩; cases h) rfl (fun h => by cases h) (fun w hA => r_len Try.underlying53 rfl) ?_
              refine D_run 3 (by kernel_rfl) rfl rfl ?_
              refine O_calls en38 rfl (q_smalli (n := xw) ((⟨fx.1, fx.2.1⟩ : 0 ≤ xw ∧ xw < 4294967296)).1 ((⟨fx.1, fx.2.1⟩ : 0 ≤ xw ∧ xw < 4294967296)).2) (fun v20 w20 hC => ?_)
              obtain ⟨rfl, hC⟩ := hC
              have hA := (hA.after hC).take
              refine O_end ⟨fun _ _ => hA, ?_⟩
              refine D_run 5 (by kernel_rfl) rfl rfl ?_
              refine O_calls en38 rfl (q_small (n := (if xo = true then 1 else 0)) (by split <;> omega)) (fun v21 w21 hC => ?_)
              obtain ⟨rfl, hC⟩ := hC
              have hA := (hA.after hC).take
              refine O_end ⟨fun _ _ => hA, ?_⟩
              refine D_take 6 rfl (by kernel_rfl) (by rintro _ _ _ ⟨h, _⟩; cases h) rfl (fun h => by cases h) (fun w hA => r_adds rfl rfl (by simp only [List.length_append, iB_len, leN_len]; omega)) ?_
              refine D_run 10 (by kernel_rfl) rfl rfl ?_
              refine O_calls en38 rfl (q_small (n := xv.length) (by omega)) (fun v22 w22 hC => ?_)
              obtain ⟨rfl, hC⟩ := hC
              have hA := (hA.after hC).take
              refine O_end ⟨fun _ _ => hA, ?_⟩
              refine D_take 11 rfl (by kernel_rfl) (by rintro _ _ _ ⟨h, _⟩; cases h) rfl (fun h => by cases h) (fun w hA => r_adds rfl rfl (by simp only [List.length_append, iB_len, leN_len]; omega)) ?_
              refine D_take 12 rfl (by kernel_rfl) (by rintro _ _ _ ⟨h, _⟩; cases h) rfl (fun h => by cases h) (fun w hA => r_adds rfl rfl (by simp only [List.length_append, iB_len, leN_len]; omega)) ?_
              refine D_take 13 rfl (by kernel_rfl) (by rintro _ _ _ ⟨h, _⟩; cases h) rfl (fun h => by cases h) (fun w hA => r_assign (by conv => lhs; whnf)) ?_
              refine D_done (by kernel_rfl) ?_
              refine W_seq ?_
              refine W_reg ?_ -- 30 ref.go:170
              refine o_assign (v := .int _ _) rfl ?_
              refine O_end ?_
              refine W_block ?_ -- 10
              obtain ⟨U0, hU0⟩ : ∃ U0, U0 = T4 ++ (os.take j).flatMap (fun (y : Oo × Sl) => ooT y.1) ++ (iB xw ++ leN (if xo = true then 1 else 0) 4 ++ leN xv.length 4) := ⟨_, rfl⟩
              have hu0 : U0.length ≤ 100000 := by rw [hU0]; simp only [List.length_append, iB_len, leN_len]; omega
              rw [← hU0]
              have hl5 : ∀ y ∈ xv, (leN y 8).length ≤ 8 := fun y _ => by rw [leN_len]; exact Nat.le_refl _
              refine W_loop (fun kk ρ w' => ∃ (i : Nat), kk = xv.length - i ∧ i ≤ xv.length ∧ ρ 11 = .int .i64 (i : Int) ∧ ρ 8 = .int .i64 (j : Int) ∧ ρ 1 = .pointer (some ⟨b1, 0, none⟩) ∧ ρ 9 = .pointer (some ⟨b18, 0, none⟩) ∧ ρ 3 = .string ⟨(U0 ++ (xv.take i).flatMap (fun n => leN n 8)).toArray⟩ ∧ At w No [Cell b18 55 (ooc (⟨xw, xo, xv⟩, ⟨XA, xv.length, Xc⟩)), Cell b1 29 [.int .i64 kind, .int .i64 frm, .int .i64 why, .slice CA cs.length Cc, .slice PA ps.length Pc, .slice VA vs.length Vc, .slice NA ws.length Nc, .slice (some ⟨g0, o0, none⟩) os.length Oc]] w') xv.length
                ⟨0, by simp, Nat.zero_le _, rfl, rfl, rfl, rfl, by rw [List.take_zero, List.flatMap_nil, List.append_nil]; rfl, hA⟩ ?_
              clear hA
              rintro kk ρ w1 ⟨i, rfl, hi, h11, h8, h1, h9, h3, hA⟩
              refine W_known (t := 11) h11 ?_
              refine W_known (t := 8) h8 ?_
              refine W_known (t := 1) h1 ?_
              refine W_known (t := 9) h9 ?_
              refine W_known (t := 3) h3 ?_
              have hfi : ((xv.take i).flatMap (fun n => leN n 8)).length ≤ xv.length * 8 := fm_take i hl5
              refine W_seq ?_
              refine W_seq ?_
              refine W_reg ?_ -- 31 ref.go:170
              refine o_move (v := .int _ _) rfl ?_
              refine o_fieldAddr fo55_2 rfl rfl ?_
              refine o_load1 ag53 rfl (hA.c 0 rfl rfl) ?_
              refine o_len Try.underlying53 rfl ?_
              refine o_cmp2 rfl rfl rfl (fun h => ?_) (fun h => ?_)
              · -- True
                have q178 := of_decide_eq_true h
                have hlti : i < xv.length := by
                  have q : (i : Int) < (xv.length : Int) := q178
                  omega
                obtain ⟨z, hz⟩ : ∃ z, xv[i]? = some z := ⟨_, List.getElem?_eq_getElem hlti⟩
                obtain ⟨g1, o1, rfl⟩ := hxd.addr (by decide) (show _ = xv.length * 1 by simp) (by omega)
                have hzm := List.mem_of_getElem? hz
                refine O_end ?_
                refine W_then rfl ?_
                refine W_skip ?_
                refine W_seq ?_
                refine W_block ?_ -- 11
                refine W_reg ?_ -- 33 ref.go:171
                refine o_move (by conv => lhs; whnf) ?_
                refine o_fieldAddr fo55_2 rfl rfl ?_
                refine o_load1 ag53 rfl (hA.c 0 rfl rfl) ?_
                refine o_move (v := .int _ _) rfl ?_
                refine o_index Try.underlying53 ti48 rfl rfl (by omega) (by omega) ?_
                refine o_load1 ag48 rfl ((hxd.old hA).elt hz) ?_
                refine O_calls en40 rfl (q_great (n := z) (kx z hzm)) (fun v23 w23 hC => ?_)
                obtain ⟨rfl, hC⟩ := hC
                have hA := (hA.after hC).take
                refine o_adds rfl rfl (by simp only [List.length_append, iB_len, leN_len]; omega) ?_
                refine o_assign (by conv => lhs; whnf) ?_
                refine O_end ?_
                refine W_reg ?_ -- 32 ref.go:170
                refine o_move (v := .int _ _) rfl ?_
                refine o_add rfl rfl (w64 (r := ((i + 1 : Nat) : Int)) (by omega) (by omega) (by omega)) ?_
                refine o_assign (v := .int _ _) rfl ?_
                refine O_end ?_
                refine ⟨xv.length - (i + 1), by omega, i + 1, rfl, by omega, rfl, rfl, rfl, rfl, ?_, hA⟩
                have hst : U0 ++ (xv.take (i + 1)).flatMap (fun n => leN n 8) = U0 ++ (xv.take i).flatMap (fun n => leN n 8) ++ leN z 8 := by rw [List.take_add_one, hz, List.flatMap_append]; simp
                rw [hst]
                rfl
              · -- False
                have q178 := of_decide_eq_false h
                refine O_end ?_
                refine W_else rfl ?_
                refine W_exit ?_
                refine xb_hit ?_
                refine W_reg ?_ -- 24 ref.go:163
                refine o_move (v := .int _ _) rfl ?_
                refine o_add rfl rfl (w64 (r := ((j + 1 : Nat) : Int)) (by omega) (by omega) (by omega)) ?_
                refine o_assign (v := .int _ _) rfl ?_
                refine O_end ?_
                obtain rfl : i = xv.length := by
                  have q : ¬ ((i : Int) < (xv.length : Int)) := q178
                  omega
                rw [List.take_length, hU0]
                refine ⟨os.length - (j + 1), by omega, j + 1, rfl, by omega, rfl, ?_, rfl, hA.drop⟩
                have hst : T4 ++ (os.take (j + 1)).flatMap (fun (y : Oo × Sl) => ooT y.1) = T4 ++ (os.take j).flatMap (fun (y : Oo × Sl) => ooT y.1) ++ (iB xw ++ leN (if xo = true then 1 else 0) 4 ++ leN xv.length 4) ++ xv.flatMap (fun n => leN n 8) := by rw [List.take_add_one, hx, List.flatMap_append]; simp [cdT, ppT, ooT]
                rw [hst]
                rfl
          · -- False
            have q151 := of_decide_eq_false h
            obtain rfl : j = os.length := by omega
            rw [List.take_length]
            refine O_end ?_
            refine W_else rfl ?_
            refine W_exit ?_
            refine xb_hit ?_
            refine W_seq ?_
            refine W_reg ?_ -- 34 ref.go:174
            refine o_move (by conv => lhs; whnf) ?_
            refine o_assign (by conv => lhs; whnf) ?_
            refine O_end ?_
            refine W_ret ?_
            refine ⟨rfl, ?_⟩
            refine ret1 Try.results15 (by conv => lhs; whnf) ?_
            refine ⟨?_, hA.clear⟩
            have hT : T4 ++ os.flatMap (fun (y : Oo × Sl) => ooT y.1) = textP (WH.x ⟨kind, frm, why, cs, ps, vs, ws, os, ⟨CA, cs.length, Cc⟩, ⟨PA, ps.length, Pc⟩, ⟨VA, vs.length, Vc⟩, ⟨NA, ws.length, Nc⟩, ⟨OA, os.length, Oc⟩⟩) := by
              rw [hT4, hT3, hT2, hT1, hT0]
              simp [textP, headT, WH.x, List.flatMap_map]
            rw [hT]

end Go.Proofs.Ytbcaooiphalkoaa
