/-
  Polynomials modulo 2^61 - 1, in plain Lean: what poly's Add and Mul come to; the polynomial through some points; there is but one. No program in sight.
-/
import Derived.Test.YtogpmiodnmigoaaOther
set_option linter.unusedVariables false
set_option linter.unusedSimpArgs false
namespace Go.Proofs.Ytogpmiodnmigoaa
open Go

abbrev K := Fin 2305843009213693951
def kk (n : Nat) : K := Fin.ofNat _ n
theorem kk_add (a b : Nat) : kk (a + b) = kk a + kk b := by
  apply Fin.ext; simp [kk, Fin.ofNat, Fin.val_add, Nat.add_mod]
theorem kk_mul (a b : Nat) : kk (a * b) = kk a * kk b := by
  apply Fin.ext; simp [kk, Fin.ofNat, Fin.val_mul, Nat.mul_mod]
theorem kk_mod (a : Nat) : kk (a % 2305843009213693951) = kk a := by
  apply Fin.ext; simp [kk, Fin.ofNat]
theorem kk_iff (a b : Nat) : kk a = kk b ↔ a % 2305843009213693951 = b % 2305843009213693951 := by
  constructor
  · intro h; have := congrArg Fin.val h; simpa [kk, Fin.ofNat] using this
  · intro h; apply Fin.ext; simpa [kk, Fin.ofNat] using h
theorem kk_zero : kk 0 = 0 := rfl
theorem kk_one : kk 1 = 1 := rfl
theorem kk_sub (a b : Nat) : kk ((a % 2305843009213693951 + 2305843009213693951 - b % 2305843009213693951) % 2305843009213693951) = kk a - kk b := by
  have h : kk ((a % 2305843009213693951 + 2305843009213693951 - b % 2305843009213693951) % 2305843009213693951) + kk b = kk a := by
    rw [← kk_add, kk_iff]; omega
  grind
theorem kk_pow (a n : Nat) : kk (a ^ n) = kk a ^ n := by
  induction n with
  | zero => rfl
  | succ n ih => rw [Nat.pow_succ, kk_mul, ih]; grind

/-- A polynomial's value. -/
def evk : List K → K → K
  | [], _ => 0
  | c :: r, x => c + x * evk r x
def ev (m : List Nat) (x : K) : K := evk (m.map kk) x
theorem ev_nil (x : K) : ev [] x = 0 := rfl
theorem ev_cons (c : Nat) (m : List Nat) (x : K) : ev (c :: m) x = kk c + x * ev m x := rfl
theorem ev_nat (m : List Nat) (x : Nat) : kk (evN m x) = ev m (kk x) := by
  induction m with
  | nil => rfl
  | cons c m ih => rw [evN, ev_cons, kk_add, kk_mul, ih]
theorem ev_append (a b : List Nat) (x : K) : ev (a ++ b) x = ev a x + x ^ a.length * ev b x := by
  induction a with
  | nil => rw [List.nil_append, ev_nil, List.length_nil]; grind
  | cons c a ih => rw [List.cons_append, ev_cons, ev_cons, ih, List.length_cons]; grind
theorem ev_zeros (n : Nat) (x : K) : ev (List.replicate n 0) x = 0 := by
  induction n with
  | zero => rfl
  | succ n ih => rw [List.replicate_succ, ev_cons, ih, kk_zero]; grind
theorem ev_pad (a : List Nat) (n : Nat) (x : K) : ev (a ++ List.replicate n 0) x = ev a x := by
  rw [ev_append, ev_zeros]; grind
theorem trimN_pad (m : List Nat) : ∃ n, m = trimN m ++ List.replicate n 0 := by
  have key : ∀ r : List Nat, ∃ n, r = List.replicate n 0 ++ r.dropWhile (· == 0) := by
    intro r
    induction r with
    | nil => exact ⟨0, rfl⟩
    | cons x r ih =>
      by_cases hx : x = 0
      · obtain ⟨n, hn⟩ := ih
        subst hx
        refine ⟨n + 1, ?_⟩
        rw [List.dropWhile_cons_of_pos (by simp), List.replicate_succ, List.cons_append, ← hn]
      · exact ⟨0, by rw [List.dropWhile_cons_of_neg (by simpa using hx)]; rfl⟩
  obtain ⟨n, hn⟩ := key m.reverse
  refine ⟨n, ?_⟩
  unfold trimN
  have := congrArg List.reverse hn
  rw [List.reverse_reverse, List.reverse_append, List.reverse_replicate] at this
  exact this
theorem ev_trim (m : List Nat) (x : K) : ev (trimN m) x = ev m x := by
  obtain ⟨n, hn⟩ := trimN_pad m
  conv => rhs; rw [hn]
  rw [ev_pad]
theorem ev_mods (m : List Nat) (x : K) : ev (m.map (· % 2305843009213693951)) x = ev m x := by
  induction m with
  | nil => rfl
  | cons c m ih => rw [List.map_cons, ev_cons, ev_cons, ih, kk_mod]
theorem ev_addN (a : List Nat) (x : K) : ∀ b : List Nat, b.length ≤ a.length → ev (addN a b) x = ev a x + ev b x := by
  induction a with
  | nil =>
    intro b hb
    have : b = [] := List.eq_nil_of_length_eq_zero (by simpa using hb)
    subst this
    rw [addN_zero, ev_nil]; grind
  | cons c a ih =>
    intro b hb
    cases b with
    | nil => rw [addN_zero, ev_nil]; grind
    | cons d b =>
      have h1 : addN (c :: a) (d :: b) = (c % 2305843009213693951 + d % 2305843009213693951) % 2305843009213693951 :: addN a b := by simp [addN]
      rw [h1, ev_cons, ev_cons, ev_cons, ih b (by simpa using hb), kk_mod, kk_add, kk_mod, kk_mod]; grind
theorem ev_addP (a b : List Nat) (x : K) : ev (addP a b) x = ev a x + ev b x := by
  unfold addP
  rw [ev_trim, ev_mods]
  split
  · rw [ev_addN _ _ _ (by omega)]; grind
  · rw [ev_addN _ _ _ (by omega)]
theorem ev_set (l : List Nat) (j v : Nat) (x : K) (hj : j < l.length) : ev (l.set j v) x = ev l x + (kk v - kk ((l[j]?).getD 0)) * x ^ j := by
  induction l generalizing j with
  | nil => simp at hj
  | cons c l ih =>
    cases j with
    | zero => rw [List.set_cons_zero, ev_cons, ev_cons, List.getElem?_cons_zero, Option.getD_some]; grind
    | succ j => rw [List.set_cons_succ, ev_cons, ev_cons, ih j (by simpa using hj), List.getElem?_cons_succ]; grind
theorem ev_take (b : List Nat) (k : Nat) (x : K) (hk : k < b.length) : ev (b.take (k + 1)) x = ev (b.take k) x + kk ((b[k]?).getD 0) * x ^ k := by
  rw [List.take_add_one, List.getElem?_eq_getElem hk, Option.toList_some, ev_append, ev_cons, ev_nil, List.length_take, Nat.min_eq_left (Nat.le_of_lt hk), Option.getD_some]; grind
theorem ev_mulI (out : List Nat) (i y : Nat) (b : List Nat) (x : K) : ∀ k, k ≤ b.length → i + k ≤ out.length → ev (mulI out i y b k) x = ev out x + kk y * x ^ i * ev (b.take k) x
  | 0, _, _ => by rw [mulI, List.take_zero, ev_nil]; grind
  | k + 1, hk, hi => by
    rw [mulI, ev_set _ _ _ _ (by rw [mulI_len]; omega), ev_mulI out i y b x k (by omega) (by omega), ev_take b k x (by omega)]
    rw [kk_mod, kk_add, kk_mod, kk_mod, kk_mod, kk_mul, kk_mod, kk_mod]
    have : x ^ (i + k) = x ^ i * x ^ k := by grind
    rw [this]; grind
theorem ev_mulO (a b : List Nat) (x : K) : ∀ i, i ≤ a.length → 0 < b.length → ev (mulO a b i) x = ev (a.take i) x * ev b x
  | 0, _, _ => by rw [mulO, List.take_zero, ev_nil, ev_zeros]; grind
  | i + 1, hi, hb => by
    rw [mulO, ev_mulI _ _ _ _ _ _ (Nat.le_refl _) (by rw [mulO_len]; omega), ev_mulO a b x i (by omega) hb, ev_take a i x (by omega), List.take_length]; grind
theorem ev_mulP (a b : List Nat) (x : K) : ev (mulP a b) x = ev a x * ev b x := by
  have ha : ev (trimN (a.map (· % 2305843009213693951))) x = ev a x := by rw [ev_trim, ev_mods]
  have hb : ev (trimN (b.map (· % 2305843009213693951))) x = ev b x := by rw [ev_trim, ev_mods]
  unfold mulP
  split
  · rename_i h
    rcases h with h | h
    · have h0 := List.eq_nil_of_length_eq_zero h
      rw [h0, ev_nil] at ha
      rw [ev_nil, ← ha]; grind
    · have h0 := List.eq_nil_of_length_eq_zero h
      rw [h0, ev_nil] at hb
      rw [ev_nil, ← hb]; grind
  · rename_i h
    rw [ev_trim, ev_mods, ev_mulO _ _ _ _ (Nat.le_refl _) (by omega), List.take_length, ha, hb]

/-! ### Units -/
/-- A number whose power P - 1 is 1. -/
def Un (u : K) : Prop := ∀ n : Nat, n = 2305843009213693950 → u ^ n = 1
theorem Un.mul {u v : K} (h : Un u) (h' : Un v) : Un (u * v) := by
  intro n hn
  have h1 : (u * v) ^ n = u ^ n * v ^ n := Lean.Grind.CommSemiring.mul_pow u v _
  rw [h1, h n hn, h' n hn]; rfl
theorem Un.one : Un 1 := by
  have key : ∀ n : Nat, (1 : K) ^ n = 1 := by
    intro n
    induction n with
    | zero => rfl
    | succ n ih => rw [Lean.Grind.Semiring.pow_succ, ih]; rfl
  exact fun n _ => key n
theorem Un.inv {u : K} (h : Un u) {n : Nat} (hn : n = 2305843009213693949) : u * u ^ n = 1 := by
  have h1 := h (n + 1) (by omega)
  rw [Lean.Grind.Semiring.pow_succ] at h1
  rw [← h1]; grind
theorem Un.ne {u : K} (h : Un u) : u ≠ 0 := by
  intro h0
  obtain ⟨n, hn⟩ : ∃ n, n = 2305843009213693949 := ⟨_, rfl⟩
  have h1 := h.inv hn
  rw [h0] at h1
  have h2 : (0 : K) * 0 ^ n = 0 := by grind
  rw [h2] at h1
  exact absurd h1 (by decide)
theorem sq_pow (w : K) (m : Nat) : w ^ (2 * m) = (w * w) ^ m := by
  induction m with
  | zero => rfl
  | succ n ih => rw [Lean.Grind.Semiring.pow_succ (w * w), ← ih, show 2 * (n + 1) = 2 * n + 1 + 1 from by omega, Lean.Grind.Semiring.pow_succ, Lean.Grind.Semiring.pow_succ]; grind
theorem Un.neg {u : K} (h : Un u) : Un (0 - u) := by
  intro n hn
  have h1 := h n hn
  obtain ⟨m, rfl⟩ : ∃ m, n = 2 * m := ⟨1152921504606846975, by omega⟩
  rw [sq_pow] at h1 ⊢
  rw [show (0 - u) * (0 - u) = u * u from by grind]; exact h1
/-- A power, by squares. -/
def pmod : Nat → Nat → Nat → Nat → Nat
  | 0, o, _, _ => o
  | f + 1, o, s, n => pmod f (if n % 2 = 1 then o * s % 2305843009213693951 else o) (s * s % 2305843009213693951) (n / 2)
theorem pmod_kk : ∀ (f o s n : Nat), n < 2 ^ f → kk (pmod f o s n) = kk o * kk s ^ n
  | 0, o, s, n, h => by
    obtain rfl : n = 0 := by simp at h; omega
    rw [pmod]
    have : kk s ^ 0 = 1 := Lean.Grind.Semiring.pow_zero _
    rw [this]; grind
  | f + 1, o, s, n, h => by
    rw [pmod, pmod_kk f _ _ _ (by rw [Nat.pow_succ] at h; omega), kk_mod, kk_mul, ← sq_pow]
    split
    · rename_i h1
      rw [kk_mod, kk_mul]
      have h2 : n = 2 * (n / 2) + 1 := by omega
      generalize n / 2 = q at *
      subst h2
      rw [Lean.Grind.Semiring.pow_succ]
      grind
    · rename_i h1
      have h2 : n = 2 * (n / 2) := by omega
      generalize n / 2 = q at *
      subst h2
      rfl
theorem un_small_all : (List.range 64).all (fun d => pmod 61 1 (d + 1) 2305843009213693950 == 1) = true := by decide +kernel
theorem un_small {d : Nat} (h0 : 1 ≤ d) (h1 : d ≤ 64) : Un (kk d) := by
  intro n hn
  have h := List.all_eq_true.1 un_small_all (d - 1) (List.mem_range.2 (by omega))
  rw [show d - 1 + 1 = d from by omega, ← hn] at h
  have h2 : pmod 61 1 d n = 1 := beq_iff_eq.1 h
  have h3 := pmod_kk 61 1 d n (by rw [hn]; decide)
  rw [h2, kk_one] at h3
  generalize kk d ^ n = z at *
  grind
theorem un_diff {a b : Nat} (ha0 : 1 ≤ a) (ha : a ≤ 65) (hb0 : 1 ≤ b) (hb : b ≤ 65) (hne : a ≠ b) : Un (kk a - kk b) := by
  rcases Nat.lt_or_ge a b with h | h
  · have h1 := (un_small (d := b - a) (by omega) (by omega)).neg
    have h2 : kk b = kk a + kk (b - a) := by rw [← kk_add]; congr 1; omega
    rw [h2, show kk a - (kk a + kk (b - a)) = 0 - kk (b - a) from by grind]; exact h1
  · have h1 := un_small (d := a - b) (by omega) (by omega)
    have h2 : kk a = kk b + kk (a - b) := by rw [← kk_add]; congr 1; omega
    rw [h2, show kk b + kk (a - b) - kk b = kk (a - b) from by grind]; exact h1

/-! ### There is but one -/
def quo (a : K) : List K → List K
  | [] => []
  | c :: m => evk (c :: m) a :: quo a m
theorem quo_len (a : K) : ∀ m, (quo a m).length = m.length
  | [] => rfl
  | c :: m => by rw [quo, List.length_cons, List.length_cons, quo_len a m]
theorem quo_ev (a x : K) : ∀ (m : List K) (c : K), evk (c :: m) x = (x - a) * evk (quo a m) x + evk (c :: m) a
  | [], c => by simp only [quo, evk]; grind
  | d :: m, c => by
    have ih := quo_ev a x m d
    rw [quo]
    show c + x * evk (d :: m) x = (x - a) * (evk (d :: m) a + x * evk (quo a m) x) + (c + a * evk (d :: m) a)
    rw [ih]; grind
theorem quo_zero (a : K) : ∀ (m : List K) (c : K), (∀ y ∈ quo a m, y = 0) → evk (c :: m) a = 0 → ∀ y ∈ c :: m, y = 0
  | [], c, _, h => by
    intro y hy
    obtain rfl := List.mem_singleton.1 hy
    simp only [evk] at h
    grind
  | d :: m, c, hq, h => by
    have h1 : evk (d :: m) a = 0 := hq _ (by rw [quo]; exact List.mem_cons_self)
    have ih := quo_zero a m d (fun y hy => hq y (by rw [quo]; exact List.mem_cons_of_mem _ hy)) h1
    intro y hy
    rcases List.mem_cons.1 hy with rfl | hy
    · have : y + a * evk (d :: m) a = 0 := h
      rw [h1] at this
      grind
    · exact ih y hy
theorem roots : ∀ (xs : List K) (D : List K), D.length ≤ xs.length → (∀ x ∈ xs, evk D x = 0) → xs.Pairwise (fun x y => Un (y - x)) → ∀ c ∈ D, c = 0
  | _, [], _, _, _ => fun c hc => by cases hc
  | [], c :: m, hl, _, _ => by simp at hl
  | a :: xs, c :: m, hl, h0, hp => by
    have ha : evk (c :: m) a = 0 := h0 a List.mem_cons_self
    obtain ⟨hpa, hp'⟩ := List.pairwise_cons.1 hp
    refine quo_zero a m c (roots xs (quo a m) (by rw [quo_len]; simpa using hl) (fun x hx => ?_) hp') ha
    have h1 := quo_ev a x m c
    rw [h0 x (List.mem_cons_of_mem _ hx), ha] at h1
    obtain ⟨n, hn⟩ : ∃ n, n = 2305843009213693949 := ⟨_, rfl⟩
    have h2 := (hpa x hx).inv hn
    generalize (x - a) ^ n = z at *
    grind
def dif (p q : List Nat) : List K := List.zipWith (fun a b => kk a - kk b) p q
theorem ev_dif : ∀ (p q : List Nat) (x : K), p.length = q.length → evk (dif p q) x = ev p x - ev q x
  | [], [], x, _ => by simp only [dif, List.zipWith_nil_left, evk, ev_nil]; grind
  | [], _ :: _, x, h => by simp at h
  | _ :: _, [], x, h => by simp at h
  | a :: p, b :: q, x, h => by
    have ih := ev_dif p q x (by simpa using h)
    have : dif (a :: p) (b :: q) = (kk a - kk b) :: dif p q := rfl
    rw [this, evk, ih, ev_cons, ev_cons]; grind
/-- Places: numbers from 1 to 65, each but once. -/
def Places (ps : List Nat) : Prop := (∀ a ∈ ps, 1 ≤ a ∧ a ≤ 65) ∧ ps.Nodup
theorem Places.pair {ps : List Nat} (h : Places ps) : (ps.map kk).Pairwise (fun x y => Un (y - x)) := by
  rw [List.pairwise_map]
  refine h.2.imp_of_mem fun {a b} ha hb hne => ?_
  exact un_diff (h.1 b hb).1 (h.1 b hb).2 (h.1 a ha).1 (h.1 a ha).2 (Ne.symm hne)
theorem same_coeffs {p q ps : List Nat} (hl : p.length = q.length) (hn : p.length ≤ ps.length) (hps : Places ps) (h : ∀ a ∈ ps, ev p (kk a) = ev q (kk a)) : p.map kk = q.map kk := by
  have hz := roots (ps.map kk) (dif p q) (by simp [dif, hl]; omega) (fun x hx => by
    obtain ⟨a, ha, rfl⟩ := List.mem_map.1 hx
    rw [ev_dif p q _ hl, h a ha]; grind) hps.pair
  clear h hn
  induction p generalizing q with
  | nil =>
    cases q with
    | nil => rfl
    | cons _ _ => simp at hl
  | cons a p ih =>
    cases q with
    | nil => simp at hl
    | cons b q =>
      have hd : dif (a :: p) (b :: q) = (kk a - kk b) :: dif p q := rfl
      rw [hd] at hz
      have h1 := hz _ List.mem_cons_self
      rw [List.map_cons, List.map_cons, ih (by simpa using hl) (fun c hc => hz c (List.mem_cons_of_mem _ hc))]
      have : kk a = kk b := by grind
      rw [this]
def padTo (n : Nat) (p : List Nat) : List Nat := p ++ List.replicate (n - p.length) 0
theorem padTo_len {n : Nat} {p : List Nat} (h : p.length ≤ n) : (padTo n p).length = n := by simp [padTo]; omega
theorem ev_padTo (n : Nat) (p : List Nat) (x : K) : ev (padTo n p) x = ev p x := ev_pad _ _ _
/-- Two polynomials that agree at as many places as they have coefficients are one. -/
theorem same_poly {p q ps : List Nat} (hp : p.length ≤ ps.length) (hq : q.length ≤ ps.length) (hps : Places ps) (h : ∀ a ∈ ps, ev p (kk a) = ev q (kk a)) (x : K) : ev p x = ev q x := by
  have := same_coeffs (p := padTo ps.length p) (q := padTo ps.length q) (by rw [padTo_len hp, padTo_len hq]) (by rw [padTo_len hp]; exact Nat.le_refl _) hps (fun a ha => by rw [ev_padTo, ev_padTo]; exact h a ha)
  rw [← ev_padTo ps.length p, ← ev_padTo ps.length q]
  unfold ev
  rw [this]

/-! ### The polynomial through some points -/
def prodF (x : K) (l : List Pt) (n : Nat) : Nat → K
  | 0 => 1
  | j + 1 => if j = n then prodF x l n j else prodF x l n j * (x - kk (placeAt l j))
theorem base_ev (l : List Pt) (n : Nat) (x : K) : ∀ j, ev (baseF l n j).1 x = prodF x l n j
  | 0 => by simp only [baseF, prodF, ev_cons, ev_nil, kk_one]; grind
  | j + 1 => by
    have ih := base_ev l n x j
    unfold baseF prodF
    split
    · exact ih
    · show ev (mulP _ _) x = _
      rw [ev_mulP, ih, ev_cons, ev_cons, ev_nil, subP, kk_sub, kk_one, kk_zero]; grind
theorem base_below (l : List Pt) (n : Nat) : ∀ j, kk (baseF l n j).2 = prodF (kk (placeAt l n)) l n j
  | 0 => rfl
  | j + 1 => by
    have ih := base_below l n j
    unfold baseF prodF
    split
    · exact ih
    · show kk ((baseF l n j).2 % 2305843009213693951 * (subP (placeAt l n) (placeAt l j) % 2305843009213693951) % 2305843009213693951) = _
      rw [kk_mod, kk_mul, kk_mod, kk_mod, ih, subP, kk_sub]
theorem prod_zero (x : K) (l : List Pt) (n : Nat) {m : Nat} (hne : m ≠ n) (hx : x = kk (placeAt l m)) : ∀ j, m < j → prodF x l n j = 0
  | 0, h => by omega
  | j + 1, h => by
    unfold prodF
    by_cases hm : m = j
    · subst hm
      rw [if_neg hne, hx]; grind
    · have ih := prod_zero x l n hne hx j (by omega)
      split
      · exact ih
      · rw [ih]; grind
theorem sound_at {l : List Pt} (h : soundP l = 0) {j : Nat} (hj : j < l.length) : ∃ x, l[j]? = some x ∧ placeAt l j = x.a.toNat ∧ 1 ≤ x.a.toNat ∧ x.a.toNat ≤ 64 ∧ x.v < 2305843009213693951 := by
  obtain ⟨h1, h2, h3⟩ := sound_places h
  have hx := List.getElem?_eq_getElem hj
  have hm := List.mem_of_getElem? hx
  have := h2 _ hm
  exact ⟨_, hx, place_at hx, by omega, by omega, h3 _ hm⟩
theorem sound_dup {l : List Pt} (h : soundP l = 0) {i j : Nat} (hij : i < j) (hj : j < l.length) : placeAt l i ≠ placeAt l j := by
  have hd : ¬ dupP l = true := by
    unfold soundP at h
    split at h
    · cases h
    · split at h
      · cases h
      · split at h
        · cases h
        · assumption
  intro he
  obtain ⟨x, hx, hxp, hx0, _, _⟩ := sound_at h (j := i) (by omega)
  obtain ⟨y, hy, hyp, hy0, _, _⟩ := sound_at h hj
  rw [hxp, hyp] at he
  have hxa : x.a = y.a := by omega
  exact hd (dup_hit hj hy (any_hit (j := i) (x := x) (by rw [List.getElem?_take_of_lt hij]; exact hx) (by rw [hxa]; exact beq_self_eq_true _)))
theorem sound_ne {l : List Pt} (h : soundP l = 0) {i j : Nat} (hij : i ≠ j) (hi : i < l.length) (hj : j < l.length) : placeAt l i ≠ placeAt l j := by
  rcases Nat.lt_or_ge i j with h1 | h1
  · exact sound_dup h h1 hj
  · exact (sound_dup h (i := j) (j := i) (by omega) hi).symm
theorem prod_unit {l : List Pt} (h : soundP l = 0) {n : Nat} (hn : n < l.length) : ∀ j, j ≤ l.length → Un (prodF (kk (placeAt l n)) l n j)
  | 0, _ => Un.one
  | j + 1, hj => by
    have ih := prod_unit h hn j (by omega)
    unfold prodF
    split
    · exact ih
    · rename_i hne
      refine ih.mul ?_
      obtain ⟨x, _, hxp, hx0, hx1, _⟩ := sound_at h hn
      obtain ⟨y, _, hyp, hy0, hy1, _⟩ := sound_at h (j := j) (by omega)
      have := sound_ne h (i := n) (j := j) (by omega) hn (by omega)
      rw [hxp, hyp] at this ⊢
      exact un_diff (by omega) (by omega) (by omega) (by omega) this
theorem inv_kk {l : List Pt} (h : soundP l = 0) {n : Nat} (hn : n < l.length) : prodF (kk (placeAt l n)) l n l.length * kk (invB l n) = 1 := by
  have hu := prod_unit h hn l.length (Nat.le_refl _)
  have hb := base_below l n l.length
  unfold invB
  obtain ⟨q, hq⟩ : ∃ q, q = 2305843009213693949 := ⟨_, rfl⟩
  rw [← hq, if_neg, kk_mod, kk_pow, hb]
  · exact hu.inv hq
  · intro h0
    have : kk (baseF l n l.length).2 = kk 0 := by rw [kk_iff, h0]
    rw [hb, kk_zero] at this
    exact hu.ne this
theorem through_ev {l : List Pt} (h : soundP l = 0) {m : Nat} (hm : m < l.length) : ∀ j, j ≤ l.length → ev (throughF l j) (kk (placeAt l m)) = if m < j then kk (((l[m]?).map (·.v)).getD 0) else 0
  | 0, _ => by rw [if_neg (by omega)]; rfl
  | j + 1, hj => by
    rw [throughF, ev_addP, through_ev h hm j (by omega), partF, ev_mulP, ev_mulP, ev_cons, ev_nil, ev_cons, ev_nil, base_ev]
    by_cases hmj : m = j
    · subst hmj
      rw [if_neg (by omega), if_pos (by omega)]
      have := inv_kk h hm
      grind
    · rw [prod_zero _ l j hmj rfl l.length hm]
      by_cases h1 : m < j
      · rw [if_pos h1, if_pos (by omega)]; grind
      · rw [if_neg h1, if_neg (by omega)]; grind
theorem through_at {l : List Pt} (h : soundP l = 0) {m : Nat} {x : Pt} (hx : l[m]? = some x) : ev (throughF l l.length) (kk x.a.toNat) = kk x.v := by
  have hm := (List.getElem?_eq_some_iff.1 hx).1
  have := through_ev h hm l.length (Nat.le_refl _)
  rw [place_at hx, if_pos hm, hx] at this
  exact this
def placesOf (l : List Pt) : List Nat := l.map (·.a.toNat)
theorem places_of {l : List Pt} (h : soundP l = 0) : Places (placesOf l) := by
  constructor
  · intro a ha
    obtain ⟨x, hx, rfl⟩ := List.mem_map.1 ha
    have := (sound_places h).2.1 x hx
    omega
  · rw [List.nodup_iff_pairwise_ne, List.pairwise_iff_getElem]
    intro i j hi hj hij
    have h1 := sound_dup h hij (by simpa [placesOf] using hj)
    simp only [placesOf, List.length_map] at hi hj
    rw [place_at (List.getElem?_eq_getElem hi), place_at (List.getElem?_eq_getElem hj)] at h1
    simpa [placesOf] using h1
end Go.Proofs.Ytogpmiodnmigoaa
