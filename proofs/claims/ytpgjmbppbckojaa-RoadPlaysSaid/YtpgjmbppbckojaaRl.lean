/-
  Letters as cells: plain lists. No program in sight; nothing here is claimed.
-/
import Derived.Test.YtpgjmbppbckojaaDraw
set_option linter.unusedVariables false
set_option linter.unusedSimpArgs false
namespace Go.Proofs.Ytpgjmbppbckojaa
open Go Go.RowKit

/-- A letter in memory: its numbers, where its bytes lie, and these. -/
structure RL where
  d : Int
  k : Bool
  t : Bool
  A : Option Addr
  m : Nat
  c : Nat
  l : List UInt8
def RL.D (x : RL) : Value := .slice x.A x.m x.c
def rlc (x : RL) : List Value := [.int .i64 x.d, .bool x.k, .bool x.t, .slice x.A x.m x.c]
def flat : List RL → List Value
  | [] => []
  | x :: r => rlc x ++ flat r
theorem flat_len : ∀ ds : List RL, (flat ds).length = ds.length * 4
  | [] => rfl
  | x :: r => by simp [flat, rlc, flat_len r]; omega
theorem flat_append : ∀ a b : List RL, flat (a ++ b) = flat a ++ flat b
  | [], b => rfl
  | x :: r, b => by simp [flat, flat_append r b]
theorem flat_take : ∀ (ds : List RL) (i : Nat), (flat ds).take (i * 4) = flat (ds.take i)
  | [], i => by simp [flat]
  | x :: r, 0 => by simp [flat]
  | x :: r, i + 1 => by
    have h : (i + 1) * 4 = (rlc x).length + i * 4 := by simp [rlc]; omega
    rw [List.take_succ_cons, flat, flat, h, List.take_length_add_append, flat_take r i]
theorem flat_drop : ∀ (ds : List RL) (i : Nat), (flat ds).drop (i * 4) = flat (ds.drop i)
  | [], i => by simp [flat]
  | x :: r, 0 => by simp [flat]
  | x :: r, i + 1 => by
    have h : (i + 1) * 4 = (rlc x).length + i * 4 := by simp [rlc]; omega
    rw [List.drop_succ_cons, flat, h, List.drop_length_add_append, flat_drop r i]
theorem flat_at {ds : List RL} {i : Nat} {x : RL} (h : ds[i]? = some x) : ((flat ds).drop (i * 4)).take 4 = rlc x := by
  rw [flat_drop]
  have hi : i < ds.length := (List.getElem?_eq_some_iff.1 h).1
  have hx : ds[i] = x := (List.getElem?_eq_some_iff.1 h).2
  rw [List.drop_eq_getElem_cons hi, hx]
  simp [flat, rlc]
theorem flat_cell {ds : List RL} {i j : Nat} {x : RL} {v : Value} (h : ds[i]? = some x) (hj : (rlc x)[j]? = some v) : (flat ds)[i * 4 + j]? = some v := by
  rw [← flat_at h, List.getElem?_take] at hj
  split at hj
  · rwa [List.getElem?_drop] at hj
  · cases hj
theorem flat_erase (ds : List RL) (i : Nat) : (flat ds).take (i * 4) ++ (flat ds).drop ((i + 1) * 4) = flat (ds.eraseIdx i) := by
  rw [flat_take, flat_drop, ← flat_append, List.eraseIdx_eq_take_drop_succ]
theorem flat_erase' (ds : List RL) (i m : Nat) (hm : ds.length = m) : (flat ds).take (i * 4) ++ ((flat ds).drop ((i + 1) * 4)).take ((m - (i + 1)) * 4) = flat (ds.eraseIdx i) := by
  rw [List.take_of_length_le (l := (flat ds).drop ((i + 1) * 4)), flat_erase]
  rw [List.length_drop, flat_len, hm, ← Nat.sub_mul]
  exact Nat.le_refl _
theorem flat_one : ∀ (ds : List RL), ∀ u ∈ flat ds, u.oneCell' = true
  | [], u, hu => by cases hu
  | x :: r, u, hu => by
    rcases List.mem_append.1 hu with h | h
    · simp only [rlc, List.mem_cons, List.not_mem_nil, or_false] at h
      rcases h with rfl | rfl | rfl | rfl <;> rfl
    · exact flat_one r u h
/-- The letters' bytes. -/
def datas (ds : List RL) : List Ch := ds.map fun x => Row 5 1 x.D (u8s x.l)
theorem datas_append (a b : List RL) : datas (a ++ b) = datas a ++ datas b := by simp [datas]
/-- A road's memory. -/
def road (b : Nat) (sv : Value) (ds : List RL) : List Ch := Row 29 4 sv (flat ds) :: Cell b 49 [sv] :: datas ds
theorem road_snoc (b : Nat) (sv : Value) (ds : List RL) (x : RL) : road b sv (ds ++ [x]) = Row 29 4 sv (flat ds ++ rlc x) :: Cell b 49 [sv] :: (datas ds ++ [Row 5 1 x.D (u8s x.l)]) := by
  rw [road, flat_append, datas_append]
  simp [flat, datas]
theorem datas_erase {ds : List RL} {i : Nat} {x : RL} (h : ds[i]? = some x) : (datas ds).Perm (Row 5 1 x.D (u8s x.l) :: datas (ds.eraseIdx i)) := by
  have h1 := perm_pull (F := datas ds) i (Row 5 1 x.D (u8s x.l)) (by simp [datas, h])
  have h2 : (datas ds).eraseIdx i = datas (ds.eraseIdx i) := by simp [datas, List.eraseIdx_eq_take_drop_succ]
  rwa [h2] at h1
theorem road_data {b : Nat} {sv : Value} {ds : List RL} {i : Nat} {x : RL} (h : ds[i]? = some x) : (road b sv ds)[i + 2]? = some (Row 5 1 x.D (u8s x.l)) := by simp [road, datas, h]
theorem wrap_u8_range (n : Int) : 0 ≤ IntKind.u8.wrap n ∧ IntKind.u8.wrap n ≤ 255 := by
  rw [IntKind.wrap_u8]; omega
theorem bits_u8_range (op : BinOp) (a b : Int) : 0 ≤ bits op .u8 a b ∧ bits op .u8 a b ≤ 255 := wrap_u8_range _
/-- Bit q of some bytes turned, as the program reckons it. -/
def flipB (l : List UInt8) (q : Nat) : List UInt8 := l.set (q / 8) (UInt8.ofNat (bits .xor .u8 (((l[q / 8]?).getD 0).toNat : Int) (IntKind.u8.wrap (1 * 2 ^ min (q % 8) 8))).toNat)
theorem u8s_get {l : List UInt8} {j : Nat} (h : j < l.length) : (u8s l)[j]? = some (.int .u8 (((l[j]?).getD 0).toNat : Int)) := by simp [u8s, h]
theorem set_parts {α : Type} (l : List α) (k : Nat) (v : α) (h : k < l.length) : l.take k ++ [v] ++ l.drop (k + 1) = l.set k v := by
  rw [List.set_eq_take_append_cons_drop, if_pos h]; simp
theorem flip_cells {l : List UInt8} {q : Nat} (h : q / 8 < l.length) : (u8s l).set (q / 8) (.int .u8 (bits .xor .u8 (((l[q / 8]?).getD 0).toNat : Int) (IntKind.u8.wrap (1 * 2 ^ min (q % 8) 8)))) = u8s (flipB l q) := by
  unfold flipB u8s
  rw [List.map_set]
  congr 2
  have := bits_u8_range .xor (((l[q / 8]?).getD 0).toNat : Int) (IntKind.u8.wrap (1 * 2 ^ min (q % 8) 8))
  generalize bits .xor .u8 (((l[q / 8]?).getD 0).toNat : Int) (IntKind.u8.wrap (1 * 2 ^ min (q % 8) 8)) = r at *
  rw [UInt8.toNat_ofNat']
  have : r.toNat < 256 := by omega
  rw [Nat.mod_eq_of_lt this]
  omega
theorem flipB_len (l : List UInt8) (q : Nat) : (flipB l q).length = l.length := by simp [flipB]
theorem road_bent {b : Nat} {sv : Value} {ds : List RL} {i : Nat} {x : RL} {l : List UInt8} {xs : List Value} : ((road b sv ds).set (i + 2) (Row 5 1 x.D (u8s l))).set 0 (Row 29 4 sv (flat (ds.set i { x with t := true, l := l }))) = road b sv (ds.set i { x with t := true, l := l }) := by
  simp [road, datas, List.map_set, RL.D]
theorem flat_set : ∀ (ds : List RL) (i j : Nat) (x y : RL) (v : Value), ds[i]? = some x → j < 4 → rlc y = (rlc x).set j v → (flat ds).set (i * 4 + j) v = flat (ds.set i y)
  | [], i, j, x, y, v, h, _, _ => by simp at h
  | z :: r, 0, j, x, y, v, h, hj, hy => by
    simp at h; subst h
    simp only [flat, Nat.zero_mul, Nat.zero_add, List.set_cons_zero, hy]
    rw [List.set_append_left _ _ (by simp [rlc]; omega)]
  | z :: r, i + 1, j, x, y, v, h, hj, hy => by
    simp at h
    have h1 : (i + 1) * 4 + j = (rlc z).length + (i * 4 + j) := by simp [rlc]; omega
    simp only [flat, List.set_cons_succ]
    rw [h1, List.set_append_right _ _ (by omega), Nat.add_sub_cancel_left, flat_set r i j x y v h hj hy]
end Go.Proofs.Ytpgjmbppbckojaa
