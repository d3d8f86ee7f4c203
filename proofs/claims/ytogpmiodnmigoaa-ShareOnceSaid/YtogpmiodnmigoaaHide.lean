/-
  What share's Other, Split, Fits come to, in plain Lean: the two statements' truth. No program in sight.
-/
import Derived.Test.YtogpmiodnmigoaaLag
set_option linter.unusedVariables false
set_option linter.unusedSimpArgs false
namespace Go.Proofs.Ytogpmiodnmigoaa
open Go

theorem mem_trim {m : List Nat} {y : Nat} (h : y ∈ trimN m) : y ∈ m := by
  obtain ⟨n, hn⟩ := trimN_pad m
  rw [hn]; exact List.mem_append_left _ h
theorem addP_lt {a b : List Nat} : ∀ y ∈ addP a b, y < 2305843009213693951 := by
  intro y hy
  obtain ⟨z, _, rfl⟩ := List.mem_map.1 (mem_trim hy)
  exact Nat.mod_lt _ (by decide)
theorem throughF_lt (l : List Pt) : ∀ j, ∀ y ∈ throughF l j, y < 2305843009213693951
  | 0 => by intro y hy; cases hy
  | j + 1 => addP_lt
theorem other_len {s : Nat} {e : Int} {l : List Pt} (hE : otherE s e l = 0) : (otherL s e l).length = l.length := by
  unfold otherL
  rw [if_pos hE]
  split
  · rename_i h; simp [h]
  · have := throughF_len2 (restL s l)
    rw [restL_len] at this
    rw [List.length_append, List.length_replicate]; omega
theorem other_lt {s : Nat} {e : Int} {l : List Pt} : ∀ y ∈ otherL s e l, y < 2305843009213693951 := by
  intro y hy
  unfold otherL at hy
  split at hy
  · split at hy
    · cases hy
    · rcases List.mem_append.1 hy with hy | hy
      · exact throughF_lt _ _ y hy
      · rw [(List.mem_replicate.1 hy).2]; decide
  · cases hy
theorem otherE_sound {s : Nat} {e : Int} {l : List Pt} (hE : otherE s e l = 0) (hl : l.length ≠ 0) : soundP l = 0 := by
  unfold otherE at hE
  split at hE
  · cases hE
  · split at hE
    · cases hE
    · exact hE
theorem other_ev {s : Nat} {e : Int} {l : List Pt} (hE : otherE s e l = 0) {i : Nat} {x : Pt} (hx : l[i]? = some x) : kk s + kk x.a.toNat * ev (otherL s e l) (kk x.a.toNat) = kk x.v := by
  have hi := (List.getElem?_eq_some_iff.1 hx).1
  have hs := otherE_sound hE (by omega)
  have hxm := (sound_places hs).2.1 x (List.mem_of_getElem? hx)
  have h1 := through_at (rest_sound s hs) (restL_at s hx)
  rw [restL_len] at h1
  unfold otherL
  rw [if_pos hE, if_neg (by omega), ev_pad]
  dsimp only at h1
  rw [h1]
  have hu := un_small (d := x.a.toNat) (by omega) (by omega)
  unfold restV
  obtain ⟨q, hq⟩ : ∃ q, q = 2305843009213693949 := ⟨_, rfl⟩
  rw [← hq, kk_mod, kk_mul, kk_mod, kk_sub, kk_mod, kk_mod, kk_pow]
  have h2 := hu.inv hq
  generalize kk x.a.toNat ^ q = z at *
  grind
theorem share_ev (s a : Nat) (c : List Nat) : kk (evN (s :: c) a) = kk s + kk a * ev c (kk a) := by rw [ev_nat, ev_cons]
theorem mod_of_kk {a b : Nat} (h : kk a = kk b) (hb : b < 2305843009213693951) : a % 2305843009213693951 = b := by
  rw [kk_iff, Nat.mod_eq_of_lt hb] at h; exact h
theorem other_at {s : Nat} {e : Int} {l : List Pt} (hE : otherE s e l = 0) {i : Nat} {x : Pt} (hx : l[i]? = some x) : evN (s :: otherL s e l) x.a.toNat % 2305843009213693951 = x.v := by
  have hi := (List.getElem?_eq_some_iff.1 hx).1
  have hs := otherE_sound hE (by omega)
  exact mod_of_kk (by rw [share_ev, other_ev hE hx]) ((sound_places hs).2.2 x (List.mem_of_getElem? hx))

theorem sound_intro {l : List Pt} (h0 : l.length ≠ 0) (h1 : l.length ≤ 64) (h2 : ∀ (i : Nat) (x : Pt), l[i]? = some x → 1 ≤ x.a ∧ x.a ≤ 64 ∧ x.v < 2305843009213693951) (h3 : ∀ (i j : Nat) (x y : Pt), i < j → l[i]? = some x → l[j]? = some y → x.a ≠ y.a) : soundP l = 0 := by
  unfold soundP
  rw [if_neg h0, if_neg (by omega), if_neg, if_neg]
  · intro hc
    obtain ⟨x, hx, hb⟩ := List.any_eq_true.1 hc
    obtain ⟨i, hi⟩ := List.getElem?_of_mem hx
    have := h2 i x hi
    simp only [badP, Bool.or_eq_true, decide_eq_true_eq] at hb
    omega
  · intro hc
    obtain ⟨j, hj, hb⟩ := List.any_eq_true.1 hc
    have hj' := List.mem_range.1 hj
    unfold dupAt at hb
    rw [List.getElem?_eq_getElem hj'] at hb
    dsimp only at hb
    obtain ⟨x, hx, he⟩ := List.any_eq_true.1 hb
    obtain ⟨i, hi⟩ := List.getElem?_of_mem hx
    have hi' := (List.getElem?_eq_some_iff.1 hi).1
    rw [List.length_take] at hi'
    rw [List.getElem?_take_of_lt (by omega)] at hi
    exact h3 i j x _ (by omega) hi (List.getElem?_eq_getElem hj') (beq_iff_eq.1 he)
theorem split_at (s : Nat) (cf : List Nat) {k i : Nat} (h : i < k) : (splitL s cf k)[i]? = some (splitP s cf i) := by simp [splitL, h]
theorem split_len (s : Nat) (cf : List Nat) (k : Nat) : (splitL s cf k).length = k := by simp [splitL]
theorem split_take (s : Nat) (cf : List Nat) {k j : Nat} (h : j ≤ k) : (splitL s cf k).take j = splitL s cf j := by
  unfold splitL
  rw [← List.map_take, List.take_range, Nat.min_eq_left h]
/-- A list of points at the places 1 to k. -/
def Rising (l : List Pt) : Prop := ∀ i x, l[i]? = some x → x.a = ((i + 1 : Nat) : Int) ∧ x.v < 2305843009213693951
theorem rising_sound {l : List Pt} (h : Rising l) (h0 : l.length ≠ 0) (h1 : l.length ≤ 64) : soundP l = 0 := by
  refine sound_intro h0 h1 (fun i x hx => ?_) (fun i j x y hij hx hy => ?_)
  · have hi := (List.getElem?_eq_some_iff.1 hx).1
    obtain ⟨ha, hv⟩ := h i x hx
    exact ⟨by omega, by omega, hv⟩
  · obtain ⟨ha, _⟩ := h i x hx
    obtain ⟨hb, _⟩ := h j y hy
    omega
theorem rising_split (s : Nat) (cf : List Nat) (k : Nat) : Rising (splitL s cf k) := by
  intro i x hx
  have hi := (List.getElem?_eq_some_iff.1 hx).1
  rw [split_len] at hi
  rw [split_at s cf hi] at hx
  obtain rfl := Option.some.inj hx
  exact ⟨rfl, Nat.mod_lt _ (by decide)⟩
theorem rising_set {l : List Pt} (h : Rising l) {k m : Nat} (hm : m < 2305843009213693951) : Rising (l.set k ⟨((k + 1 : Nat) : Int), m⟩) := by
  intro i x hx
  by_cases e : k = i
  · subst e
    have hk := (List.getElem?_eq_some_iff.1 hx).1
    rw [List.length_set] at hk
    rw [List.getElem?_set_self hk] at hx
    obtain rfl := Option.some.inj hx
    exact ⟨rfl, hm⟩
  · rw [List.getElem?_set_ne e] at hx
    exact h i x hx
theorem rising_take {l : List Pt} (h : Rising l) (k : Nat) : Rising (l.take k) := by
  intro i x hx
  have hi := (List.getElem?_eq_some_iff.1 hx).1
  rw [List.length_take] at hi
  rw [List.getElem?_take_of_lt (by omega)] at hx
  exact h i x hx

/-- Split by these coefficients, all is as it was. -/
theorem kk_lists {p q : List Nat} (hp : ∀ y ∈ p, y < 2305843009213693951) (hq : ∀ y ∈ q, y < 2305843009213693951) (h : p.map kk = q.map kk) : p = q := by
  induction p generalizing q with
  | nil => cases q with | nil => rfl | cons _ _ => simp at h
  | cons a p ih =>
    cases q with
    | nil => simp at h
    | cons b q =>
      simp only [List.map_cons, List.cons.injEq] at h
      have h1 := mod_of_kk h.1 (hq b List.mem_cons_self)
      rw [Nat.mod_eq_of_lt (hp a List.mem_cons_self)] at h1
      rw [h1, ih (fun y hy => hp y (List.mem_cons_of_mem _ hy)) (fun y hy => hq y (List.mem_cons_of_mem _ hy)) h.2]
theorem once_coeffs {s : Nat} {e : Int} {cf : List Nat} (hcf : ∀ y ∈ cf, y < 2305843009213693951) (hE : otherE s e (splitL s cf cf.length) = 0) (hl : cf.length ≤ 60) : otherL s e (splitL s cf cf.length) = cf := by
  have hlen := other_len hE
  rw [split_len] at hlen
  refine kk_lists other_lt hcf ?_
  by_cases h0 : cf.length = 0
  · have h1 : cf = [] := List.eq_nil_of_length_eq_zero h0
    have h2 : otherL s e (splitL s cf cf.length) = [] := List.eq_nil_of_length_eq_zero (by omega)
    rw [h2, h1]
  have hs : soundP (splitL s cf cf.length) = 0 := rising_sound (rising_split s cf _) (by rw [split_len]; exact h0) (by rw [split_len]; omega)
  refine same_coeffs (ps := placesOf (splitL s cf cf.length)) hlen (by simp [placesOf, split_len]; omega) (places_of hs) ?_
  intro a ha
  obtain ⟨x, hx, rfl⟩ := List.mem_map.1 ha
  obtain ⟨i, hi⟩ := List.getElem?_of_mem hx
  have h1 := other_ev hE hi
  have hi' := (List.getElem?_eq_some_iff.1 hi).1
  rw [split_len] at hi'
  rw [split_at s cf hi'] at hi
  obtain rfl := Option.some.inj hi
  have h2 : kk (splitP s cf i).v = kk s + kk (i + 1) * ev cf (kk (i + 1)) := by
    show kk (evN (s :: cf) (i + 1) % 2305843009213693951) = _
    rw [kk_mod, share_ev]
  have h3 : (splitP s cf i).a.toNat = i + 1 := rfl
  rw [h3] at h1 ⊢
  rw [h2] at h1
  have hu := un_small (d := i + 1) (by omega) (by omega)
  obtain ⟨q, hq⟩ : ∃ q, q = 2305843009213693949 := ⟨_, rfl⟩
  have h4 := hu.inv hq
  generalize kk (i + 1) ^ q = z at *
  grind
/-- A share that is another one does not fit. -/
theorem once_fits {s k m : Nat} {cf : List Nat} (hl : cf.length ≤ 60) (hk : k ≤ cf.length + 1) (hm : m < 2305843009213693951) :
    fitsF ((cf.length + 1 : Nat) : Int) ((splitL s cf (cf.length + 1 + 1)).set k ⟨((k + 1 : Nat) : Int), m⟩) = .tuple #[.bool ((splitP s cf k).v == m), .int .i64 0] := by
  obtain ⟨n, hn⟩ : ∃ n, n = cf.length + 1 := ⟨_, rfl⟩
  rw [← hn] at hk ⊢
  obtain ⟨L, hL⟩ : ∃ L, L = (splitL s cf (n + 1)).set k ⟨((k + 1 : Nat) : Int), m⟩ := ⟨_, rfl⟩
  rw [← hL]
  have hR : Rising L := by rw [hL]; exact rising_set (rising_split s cf _) hm
  have hLl : L.length = n + 1 := by rw [hL, List.length_set, split_len]
  have hS : soundP L = 0 := rising_sound hR (by omega) (by omega)
  have hE : someE (n : Int) L = 0 := by
    unfold someE
    rw [if_neg (by omega), if_neg (by rw [hS]; simp), if_neg (by omega)]
  have htl : (L.take n).length = n := by rw [List.length_take]; omega
  have hTS : soundP (L.take n) = 0 := sound_take hS (by omega) (by omega)
  unfold fitsF
  rw [if_pos hE, Int.toNat_natCast]
  congr 4
  -- the curve
  obtain ⟨C, hC⟩ : ∃ C, C = throughF (L.take n) n := ⟨_, rfl⟩
  have hCl : C.length ≤ n := by
    have := throughF_len2 (L.take n)
    rw [htl] at this; rw [hC]; exact this
  rw [← hC]
  have hat : ∀ i x, i < n → L[i]? = some x → ev C (kk (i + 1)) = kk x.v := by
    intro i x hi hx
    have h1 := through_at hTS (m := i) (x := x) (by rw [List.getElem?_take_of_lt hi]; exact hx)
    rw [htl, ← hC, show x.a.toNat = i + 1 from by have := (hR i x hx).1; omega] at h1
    exact h1
  have hLi : ∀ i, i ≠ k → i < n + 1 → L[i]? = some (splitP s cf i) := by
    intro i hik hi
    rw [hL, List.getElem?_set_ne (fun e => hik e.symm), split_at s cf hi]
  have hLk : L[k]? = some ⟨((k + 1 : Nat) : Int), m⟩ := by rw [hL, List.getElem?_set_self (by rw [split_len]; omega)]
  have hval : ∀ i, kk (splitP s cf i).v = ev (s :: cf) (kk (i + 1)) := by
    intro i
    show kk (evN (s :: cf) (i + 1) % 2305843009213693951) = _
    rw [kk_mod, ev_nat]
  have hlen : (s :: cf).length = n := by rw [List.length_cons, hn]
  rw [Bool.eq_iff_iff]
  constructor
  · intro h
    have hon : ∀ i x, L[i]? = some x → ev C (kk (i + 1)) = kk x.v := by
      intro i x hx
      have h1 : (L.any fun p => !(onP C p)) = false := by simpa using h
      rw [List.any_eq_false] at h1
      have h2 := h1 x (List.mem_of_getElem? hx)
      have h3 : onP C x = true := by simpa using h2
      unfold onP at h3
      rw [show x.a.toNat = i + 1 from by have := (hR i x hx).1; omega] at h3
      have h4 := beq_iff_eq.1 h3
      rw [← ev_nat, ← kk_mod, h4]
    have hk1 := hon k _ hLk
    have hps : Places (((List.range (n + 1)).erase k).map (· + 1)) := by
      constructor
      · intro a ha
        obtain ⟨i, hi, rfl⟩ := List.mem_map.1 ha
        have := List.mem_range.1 (List.mem_of_mem_erase hi)
        omega
      · have hnd : ((List.range (n + 1)).erase k).Nodup := List.Nodup.erase k List.nodup_range
        rw [List.nodup_iff_pairwise_ne] at hnd ⊢
        rw [List.pairwise_map]
        exact hnd.imp (fun h e => h (by omega))
    have hpl : (((List.range (n + 1)).erase k).map (· + 1)).length = n := by
      rw [List.length_map, List.length_erase_of_mem (List.mem_range.2 (by omega)), List.length_range]; omega
    have hsame := same_poly (p := C) (q := s :: cf) (ps := ((List.range (n + 1)).erase k).map (· + 1)) (by omega) (by omega) hps (fun a ha => by
      obtain ⟨i, hi, rfl⟩ := List.mem_map.1 ha
      have hi1 := List.mem_range.1 (List.mem_of_mem_erase hi)
      have hik : i ≠ k := ((List.Nodup.mem_erase_iff List.nodup_range).1 hi).1
      rw [hon i _ (hLi i hik hi1), hval i]) (kk (k + 1))
    rw [hsame, ← hval k] at hk1
    have h5 := mod_of_kk hk1 hm
    have h6 : (splitP s cf k).v < 2305843009213693951 := Nat.mod_lt _ (by decide)
    rw [Nat.mod_eq_of_lt h6] at h5
    exact beq_iff_eq.2 h5
  · intro h
    have hm' := beq_iff_eq.1 h
    have hall : ∀ i, i < n + 1 → L[i]? = some (splitP s cf i) := by
      intro i hi
      by_cases e : i = k
      · subst e
        rw [hLk, ← hm']; rfl
      · exact hLi i e hi
    have hpl : (placesOf (L.take n)).length = n := by rw [placesOf, List.length_map, htl]
    have hsame := same_poly (p := C) (q := s :: cf) (ps := placesOf (L.take n)) (by omega) (by omega) (places_of hTS) (fun a ha => by
      obtain ⟨x, hx, rfl⟩ := List.mem_map.1 ha
      obtain ⟨i, hi⟩ := List.getElem?_of_mem hx
      have hi' := (List.getElem?_eq_some_iff.1 hi).1
      rw [htl] at hi'
      rw [List.getElem?_take_of_lt hi'] at hi
      have h1 := hat i x hi' hi
      rw [hall i (by omega)] at hi
      obtain rfl := Option.some.inj hi
      rw [hval i] at h1
      exact h1)
    have : (L.any fun p => !(onP C p)) = false := by
      rw [List.any_eq_false]
      intro x hx
      obtain ⟨i, hi⟩ := List.getElem?_of_mem hx
      have hi' := (List.getElem?_eq_some_iff.1 hi).1
      rw [hall i (by omega)] at hi
      obtain rfl := Option.some.inj hi
      have h1 : evN C (i + 1) % 2305843009213693951 = (splitP s cf i).v := by
        refine mod_of_kk ?_ (Nat.mod_lt _ (by decide))
        rw [ev_nat, hsame, ← hval i]
      have h2 : onP C (splitP s cf i) = true := by
        unfold onP
        rw [show (splitP s cf i).a.toNat = i + 1 from rfl, h1]
        exact beq_self_eq_true _
      rw [h2]; simp
    rw [this]; rfl
/-- The number again, from shares at some places. -/
theorem join_split {s : Nat} {cf : List Nat} {l : List Pt} (hs : s < 2305843009213693951) (hE : someE ((cf.length + 1 : Nat) : Int) l = 0) (hl : ∀ i x, i < cf.length + 1 → l[i]? = some x → x.v = evN (s :: cf) x.a.toNat % 2305843009213693951) : joinF ((cf.length + 1 : Nat) : Int) l = .tuple #[.int .u64 (s : Int), .int .i64 0] := by
  obtain ⟨h1, h2, h3, h4⟩ := someE_sound hE
  unfold joinF
  rw [if_pos hE, Int.toNat_natCast]
  have htl : (l.take (cf.length + 1)).length = cf.length + 1 := by rw [List.length_take]; omega
  have hTS : soundP (l.take (cf.length + 1)) = 0 := sound_take h1 (by omega) (by omega)
  have hCl := throughF_len2 (l.take (cf.length + 1))
  rw [htl] at hCl
  have hsame := same_poly (p := throughF (l.take (cf.length + 1)) (cf.length + 1)) (q := s :: cf) (ps := placesOf (l.take (cf.length + 1))) (by rw [placesOf, List.length_map, htl]; exact hCl) (by rw [placesOf, List.length_map, htl]; exact Nat.le_refl _) (places_of hTS) (fun a ha => by
    obtain ⟨x, hx, rfl⟩ := List.mem_map.1 ha
    obtain ⟨i, hi⟩ := List.getElem?_of_mem hx
    have hi' := (List.getElem?_eq_some_iff.1 hi).1
    have h5 := through_at hTS hi
    rw [htl] at h5 hi'
    rw [List.getElem?_take_of_lt hi'] at hi
    rw [h5, hl i x hi' hi, kk_mod, ev_nat])
  have : evN (throughF (l.take (cf.length + 1)) (cf.length + 1)) 0 % 2305843009213693951 = s := by
    refine mod_of_kk ?_ hs
    rw [ev_nat, hsame, ev_cons, kk_zero]; grind
  rw [this]
end Go.Proofs.Ytogpmiodnmigoaa
