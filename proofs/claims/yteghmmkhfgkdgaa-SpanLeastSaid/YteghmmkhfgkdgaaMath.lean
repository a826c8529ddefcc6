/- Plain number theory for spans: greatest common divisors, spans as sets of numbers, when two spans are one. Nothing of the program stands here. -/
namespace Go.Proofs.Yteghmmkhfgkdgaa.SM

theorem asub (a b : Int) : a + b - a = b := by omega
/-- n is an element of the span (lo, hi, st). -/
def Mem (lo hi st n : Int) : Prop := lo ≤ n ∧ n ≤ hi ∧ st ∣ n - lo
instance (lo hi st n : Int) : Decidable (Mem lo hi st n) := inferInstanceAs (Decidable (_ ∧ _ ∧ _))
/-- A span: one element and step 0, or more and a step that divides. -/
def Ok (lo hi st : Int) : Prop := (lo = hi ∧ st = 0) ∨ (lo < hi ∧ 1 ≤ st ∧ st ∣ hi - lo)

theorem Ok.le {lo hi st : Int} (h : Ok lo hi st) : lo ≤ hi := by rcases h with h | h <;> omega
theorem Ok.st0 {lo hi st : Int} (h : Ok lo hi st) : 0 ≤ st := by rcases h with h | h <;> omega
theorem Ok.dvd {lo hi st : Int} (h : Ok lo hi st) : st ∣ hi - lo := by
  rcases h with ⟨h, h'⟩ | h
  · subst h; simp
  · exact h.2.2
theorem Ok.lo_mem {lo hi st : Int} (h : Ok lo hi st) : Mem lo hi st lo := ⟨by omega, h.le, by simp⟩
theorem Ok.hi_mem {lo hi st : Int} (h : Ok lo hi st) : Mem lo hi st hi := ⟨h.le, by omega, h.dvd⟩
theorem dvd_le {a b : Int} (h : a ∣ b) (hb : 0 < b) : a ≤ b := Int.le_of_dvd hb h
theorem Ok.next_mem {lo hi st : Int} (h : Ok lo hi st) (hl : lo < hi) : Mem lo hi st (lo + st) := by
  rcases h with h | ⟨_, h1, h2⟩
  · omega
  · exact ⟨by omega, by have := dvd_le h2 (by omega); omega, by rw [asub]; exact Int.dvd_refl _⟩

/-- Two spans with the same elements are one. -/
theorem ext {a b s c d t : Int} (h : Ok a b s) (k : Ok c d t) (e : ∀ n, Mem a b s n ↔ Mem c d t n) : a = c ∧ b = d ∧ s = t := by
  have h1 := (e a).1 h.lo_mem
  have h2 := (e c).2 k.lo_mem
  have h3 := (e b).1 h.hi_mem
  have h4 := (e d).2 k.hi_mem
  have e1 : a = c := by have := h1.1; have := h2.1; omega
  have e2 : b = d := by have := h3.2.1; have := h4.2.1; omega
  subst e1 e2
  refine ⟨rfl, rfl, ?_⟩
  by_cases hl : a < b
  · have m1 := ((e _).1 (h.next_mem hl)).2.2
    have m2 := ((e _).2 (k.next_mem hl)).2.2
    rw [asub] at m1 m2
    exact Int.dvd_antisymm h.st0 k.st0 m2 m1
  · have := h.le
    rcases h with h | h <;> rcases k with k | k <;> omega

theorem tmod_zero_iff (a b : Int) : Int.tmod a b = 0 ↔ b ∣ a := (Int.dvd_iff_tmod_eq_zero ..).symm

theorem floor_pos {a b : Int} (hb : 0 < b) : (if Int.tmod a b < 0 then Int.tdiv a b - 1 else Int.tdiv a b) = a / b := by
  have h1 := Int.tdiv_eq_ediv (a := a) (b := b)
  have h2 := Int.tmod_eq_emod (a := a) (b := b)
  have h3 := Int.emod_nonneg a (show b ≠ 0 by omega)
  have h4 := Int.emod_lt_of_pos a hb
  have h5 : Int.sign b = 1 := Int.sign_eq_one_of_pos hb
  have h6 : (b.natAbs : Int) = b := Int.natAbs_of_nonneg (by omega)
  split at h1
  · rename_i hc
    rw [if_pos hc] at h2
    rw [if_neg (by omega)]; omega
  · rename_i hc
    rw [if_neg hc] at h2
    rw [if_pos (by omega)]; omega

/-- Numbers in two classes: those that are a + s j with j from one class modulo m. -/
theorem classes {a c s t g x y m s' D' : Int} (hs : s = g * s') (ht : t = g * m) (hg : g ≠ 0) (hD : c - a = g * D') (hb : s' * x + m * y = 1) (n : Int) :
    (s ∣ n - a ∧ t ∣ n - c) ↔ ∃ j, n = a + s * j ∧ m ∣ j - (D' * x) % m := by
  have hk : ∃ z, (D' * x) % m = D' * x - m * z := ⟨D' * x / m, by have := Int.emod_add_mul_ediv (D' * x) m; omega⟩
  obtain ⟨z, hz⟩ := hk
  rw [hz]
  constructor
  · rintro ⟨⟨j, hj⟩, ⟨i, hi⟩⟩
    refine ⟨j, by omega, ?_⟩
    have e : g * (s' * j - D') = g * (m * i) := by
      have e1 : g * (s' * j - D') = s * j - (c - a) := by rw [hs, hD, Int.mul_sub, Int.mul_assoc]
      have e2 : g * (m * i) = t * i := by rw [ht, Int.mul_assoc]
      omega
    have e' := Int.eq_of_mul_eq_mul_left hg e
    refine ⟨y * j + x * i + z, ?_⟩
    have h1 : x * (s' * j) = x * (m * i) + x * D' := by rw [← Int.mul_add]; congr 1; omega
    have h2 : (s' * x + m * y) * j = j := by rw [hb]; omega
    have h3 : (s' * x + m * y) * j = x * (s' * j) + m * (y * j) := by
      rw [Int.add_mul, Int.mul_assoc, Int.mul_assoc, Int.mul_left_comm s' x j]
    have h4 : m * (y * j + x * i + z) = m * (y * j) + x * (m * i) + m * z := by
      rw [Int.mul_add, Int.mul_add, Int.mul_left_comm m x i]
    have h5 : D' * x = x * D' := Int.mul_comm _ _
    omega
  · rintro ⟨j, rfl, i, hi⟩
    refine ⟨⟨j, by omega⟩, ?_⟩
    refine ⟨s' * i + -(D' * y) + -(s' * z), ?_⟩
    have hj : j = D' * x - m * z + m * i := by omega
    have e1 : s * j = g * (s' * j) := by rw [hs, Int.mul_assoc]
    have e2 : t * (s' * i + -(D' * y) + -(s' * z)) = g * (m * (s' * i + -(D' * y) + -(s' * z))) := by rw [ht, Int.mul_assoc]
    have e3 : m * (s' * i + -(D' * y) + -(s' * z)) = s' * j - D' := by
      rw [hj, Int.mul_add, Int.mul_add, Int.mul_add, Int.mul_sub, Int.mul_neg, Int.mul_neg]
      have q1 : m * (s' * i) = s' * (m * i) := Int.mul_left_comm _ _ _
      have q2 : m * (s' * z) = s' * (m * z) := Int.mul_left_comm _ _ _
      have q3 : D' * (s' * x + m * y) = D' := by rw [hb]; omega
      have q4 : D' * (s' * x + m * y) = s' * (D' * x) + m * (D' * y) := by
        rw [Int.mul_add, Int.mul_left_comm D' s' x, Int.mul_left_comm D' m y]
      omega
    rw [e2, e3, Int.mul_sub, ← e1, ← hD]; omega

theorem le_mul_iff {a s j lo : Int} (hs : 0 < s) : lo ≤ a + s * j ↔ -((a - lo) / s) ≤ j := by
  have h1 := Int.emod_add_mul_ediv (a - lo) s
  have h2 := Int.emod_nonneg (a - lo) (show s ≠ 0 by omega)
  have h3 := Int.emod_lt_of_pos (a - lo) hs
  generalize (a - lo) / s = q at *
  constructor
  · intro h
    by_cases hc : -q ≤ j
    · exact hc
    · have : s * (q + j + 1) ≤ 0 := Int.mul_nonpos_of_nonneg_of_nonpos (by omega) (by omega)
      rw [Int.mul_add, Int.mul_add] at this; omega
  · intro h
    have : 0 ≤ s * (q + j) := Int.mul_nonneg (by omega) (by omega)
    rw [Int.mul_add] at this; omega
theorem mul_le_iff {a s j hi : Int} (hs : 0 < s) : a + s * j ≤ hi ↔ j ≤ (hi - a) / s := by
  rw [Int.le_ediv_iff_mul_le hs, Int.mul_comm]; omega

/-- The least number from `first` on in the class of k0 modulo m. -/
theorem least {k0 first m k : Int} (hm : 0 < m) (h0 : 0 ≤ k0) (h1 : k0 < m) (hf : 0 ≤ first) (hk0 : k = k0 + (if 0 < -((k0 - first) / m) then -((k0 - first) / m) else 0) * m) :
    first ≤ k ∧ m ∣ k - k0 ∧ k0 ≤ k ∧ k ≤ k0 + first + m ∧ ∀ j, first ≤ j → m ∣ j - k0 → k ≤ j := by
  have e1 := Int.emod_add_mul_ediv (k0 - first) m
  have e2 := Int.emod_nonneg (k0 - first) (show m ≠ 0 by omega)
  have e3 := Int.emod_lt_of_pos (k0 - first) hm
  by_cases hc : 0 < -((k0 - first) / m)
  · have hk : k = k0 + -((k0 - first) / m) * m := by rw [hk0, if_pos hc]
    clear hk0
    generalize (k0 - first) / m = q at *
    have hk' : k = k0 - m * q := by rw [hk, Int.neg_mul, Int.mul_comm q m]; omega
    refine ⟨by omega, ⟨-q, by rw [Int.mul_neg]; omega⟩, ?_, by omega, ?_⟩
    · have : 0 ≤ m * (-q) := Int.mul_nonneg (by omega) (by omega)
      rw [Int.mul_neg] at this; omega
    · rintro j hj ⟨i, hi⟩
      by_cases hi' : -q ≤ i
      · have : 0 ≤ m * (i + q) := Int.mul_nonneg (by omega) (by omega)
        rw [Int.mul_add] at this; omega
      · have : m * (i + q + 1) ≤ 0 := Int.mul_nonpos_of_nonneg_of_nonpos (by omega) (by omega)
        rw [Int.mul_add, Int.mul_add] at this; omega
  · have hk : k = k0 := by rw [hk0, if_neg hc]; omega
    have hq : 0 ≤ (k0 - first) / m := by omega
    have : 0 ≤ m * ((k0 - first) / m) := Int.mul_nonneg (by omega) hq
    refine ⟨by omega, ⟨0, by omega⟩, by omega, by omega, ?_⟩
    rintro j hj ⟨i, hi⟩
    by_cases hi' : 0 ≤ i
    · have : 0 ≤ m * i := Int.mul_nonneg (by omega) hi'
      omega
    · have : m * (i + 1) ≤ 0 := Int.mul_nonpos_of_nonneg_of_nonpos (by omega) (by omega)
      rw [Int.mul_add] at this; omega

/-- The greatest number up to `last` in the class of k modulo m. -/
theorem greatest {k last m l : Int} (hm : 0 < m) (hk : k ≤ last) (hl : l = last - (last - k) % m) :
    k ≤ l ∧ l ≤ last ∧ m ∣ l - k ∧ ∀ j, j ≤ last → m ∣ j - k → j ≤ l := by
  have e1 := Int.emod_add_mul_ediv (last - k) m
  have e2 := Int.emod_nonneg (last - k) (show m ≠ 0 by omega)
  have e3 := Int.emod_lt_of_pos (last - k) hm
  have e4 : 0 ≤ (last - k) / m := Int.ediv_nonneg (by omega) (by omega)
  have e5 : 0 ≤ m * ((last - k) / m) := Int.mul_nonneg (by omega) e4
  refine ⟨by omega, by omega, ⟨(last - k) / m, by omega⟩, ?_⟩
  rintro j hj ⟨i, hi⟩
  by_cases hi' : i ≤ (last - k) / m
  · have : 0 ≤ m * ((last - k) / m - i) := Int.mul_nonneg (by omega) (by omega)
    rw [Int.mul_sub] at this; omega
  · have : 0 ≤ m * (i - (last - k) / m - 1) := Int.mul_nonneg (by omega) (by omega)
    rw [Int.mul_sub, Int.mul_sub] at this; omega

theorem mul_lt_mul {s i j : Int} (hs : 0 < s) (h : i < j) : s * i < s * j := Int.mul_lt_mul_of_pos_left h hs

/-- The span of the numbers a + s j, with j from k to l in steps of m. -/
theorem steps {a s k l m : Int} (hs : 0 < s) (hm : 0 < m) (hk : k ≤ l) (hd : m ∣ l - k) :
    Ok (a + s * k) (a + s * l) (if k < l then s * m else 0) ∧
    ∀ n, Mem (a + s * k) (a + s * l) (if k < l then s * m else 0) n ↔ ∃ j, n = a + s * j ∧ k ≤ j ∧ j ≤ l ∧ m ∣ j - k := by
  by_cases hc : k < l
  · rw [if_pos hc]
    have h1 := mul_lt_mul hs hc
    have h2 : 0 < s * m := Int.mul_pos hs hm
    refine ⟨.inr ⟨by omega, by omega, ?_⟩, fun n => ⟨?_, ?_⟩⟩
    · rw [show a + s * l - (a + s * k) = s * (l - k) by rw [Int.mul_sub]; omega]; exact Int.mul_dvd_mul (Int.dvd_refl _) hd
    · rintro ⟨e1, e2, i, hi⟩
      rw [Int.mul_assoc] at hi
      refine ⟨k + m * i, by rw [Int.mul_add]; omega, ?_, ?_, ⟨i, by omega⟩⟩
      · by_cases hq : k ≤ k + m * i
        · exact hq
        · have := mul_lt_mul hs (show m * i < 0 by omega); omega
      · by_cases hq : k + m * i ≤ l
        · exact hq
        · have := mul_lt_mul hs (show l < k + m * i by omega); rw [Int.mul_add] at this; omega
    · rintro ⟨j, rfl, e1, e2, e3⟩
      refine ⟨?_, ?_, ?_⟩
      · have : 0 ≤ s * (j - k) := Int.mul_nonneg (by omega) (by omega); rw [Int.mul_sub] at this; omega
      · have : 0 ≤ s * (l - j) := Int.mul_nonneg (by omega) (by omega); rw [Int.mul_sub] at this; omega
      · rw [show a + s * j - (a + s * k) = s * (j - k) by rw [Int.mul_sub]; omega]; exact Int.mul_dvd_mul (Int.dvd_refl _) e3
  · have : k = l := by omega
    subst this
    rw [if_neg hc]
    refine ⟨.inl ⟨rfl, rfl⟩, fun n => ⟨?_, ?_⟩⟩
    · rintro ⟨e1, e2, _⟩; exact ⟨k, by omega, by omega, by omega, ⟨0, by omega⟩⟩
    · rintro ⟨j, rfl, e1, e2, _⟩
      have : j = k := by omega
      subst this; exact ⟨by omega, by omega, ⟨0, by omega⟩⟩

/-- MEET: the numbers of both spans, as a span. -/
theorem meet {a b s c d t g x y : Int} (hs : 0 < s) (ht : 0 < t) (hS : s ∣ b - a) (hT : t ∣ d - c) (hg : 0 < g) (gs : g ∣ s) (gt : g ∣ t) (hb : s * x + t * y = g) (gD : g ∣ c - a)
    {lo hi : Int} (hlo : lo = if a < c then c else a) (hhi : hi = if d < b then d else b) {k : Int}
    (hk : k = ((c - a) / g * x) % (t / g) + (if 0 < -((((c - a) / g * x) % (t / g) - -((a - lo) / s)) / (t / g)) then -((((c - a) / g * x) % (t / g) - -((a - lo) / s)) / (t / g)) else 0) * (t / g)) :
    (∀ n, Mem a b s n ∧ Mem c d t n ↔ ∃ j, n = a + s * j ∧ k ≤ j ∧ j ≤ (hi - a) / s ∧ t / g ∣ j - k) ∧ 0 < t / g ∧ 0 ≤ k ∧ k ≤ ((c - a) / g * x) % (t / g) + -((a - lo) / s) + t / g ∧ 0 ≤ -((a - lo) / s) := by
  obtain ⟨s', rfl⟩ := gs
  obtain ⟨m, rfl⟩ := gt
  obtain ⟨D', hD⟩ := gD
  have hm0 : 0 < m := by
    by_cases h : 0 < m
    · exact h
    · have : g * m ≤ 0 := Int.mul_nonpos_of_nonneg_of_nonpos (by omega) (by omega)
      omega
  have em : g * m / g = m := Int.mul_ediv_cancel_left _ (by omega)
  have eD : (c - a) / g = D' := by rw [hD]; exact Int.mul_ediv_cancel_left _ (by omega)
  rw [em, eD] at hk
  rw [em, eD]
  have hb' : s' * x + m * y = 1 := by
    have : g * (s' * x + m * y) = g * 1 := by rw [Int.mul_add, ← Int.mul_assoc, ← Int.mul_assoc]; omega
    exact Int.eq_of_mul_eq_mul_left (by omega) this
  have k0 := Int.emod_nonneg (D' * x) (show m ≠ 0 by omega)
  have k1 := Int.emod_lt_of_pos (D' * x) hm0
  have hf : 0 ≤ -((a - lo) / (g * s')) := by
    have h1 := Int.emod_add_mul_ediv (a - lo) (g * s')
    have h2 := Int.emod_nonneg (a - lo) (show g * s' ≠ 0 by omega)
    by_cases hq : 0 ≤ -((a - lo) / (g * s'))
    · exact hq
    · have : 0 < g * s' * ((a - lo) / (g * s')) := Int.mul_pos hs (by omega)
      have : a ≤ lo := by rw [hlo]; split <;> omega
      omega
  obtain ⟨L1, L2, L3, L4, L5⟩ := least hm0 k0 k1 hf hk
  clear hk
  refine ⟨fun n => ?_, hm0, by omega, by omega, hf⟩
  have C := classes (a := a) (c := c) (s := g * s') (t := g * m) (g := g) (x := x) (y := y) (m := m) (s' := s') (D' := D') rfl rfl (by omega) hD hb' n
  have dk : ∀ j, m ∣ j - (D' * x) % m ↔ m ∣ j - k := fun j => by
    obtain ⟨z, hz⟩ := L2
    constructor
    · rintro ⟨i, hi⟩; exact ⟨i - z, by rw [Int.mul_sub]; omega⟩
    · rintro ⟨i, hi⟩; exact ⟨i + z, by rw [Int.mul_add]; omega⟩
  constructor
  · rintro ⟨⟨m1, m2, m3⟩, ⟨m4, m5, m6⟩⟩
    obtain ⟨j, rfl, hj⟩ := C.1 ⟨m3, m6⟩
    have q1 : lo ≤ a + g * s' * j := by rw [hlo]; split <;> omega
    have q2 : a + g * s' * j ≤ hi := by rw [hhi]; split <;> omega
    exact ⟨j, rfl, L5 j ((le_mul_iff hs).1 q1) hj, (mul_le_iff hs).1 q2, (dk j).1 hj⟩
  · rintro ⟨j, rfl, j1, j2, j3⟩
    have q1 : lo ≤ a + g * s' * j := (le_mul_iff hs).2 (by omega)
    have q2 : a + g * s' * j ≤ hi := (mul_le_iff hs).2 j2
    obtain ⟨c1, c2⟩ := C.2 ⟨j, rfl, (dk j).2 j3⟩
    refine ⟨⟨?_, ?_, c1⟩, ⟨?_, ?_, c2⟩⟩
    · rw [hlo] at q1; split at q1 <;> omega
    · rw [hhi] at q2; split at q2 <;> omega
    · rw [hlo] at q1; split at q1 <;> omega
    · rw [hhi] at q2; split at q2 <;> omega

/-- No number is in both, if the greatest common divisor of the steps does not divide the difference of the ends. -/
theorem no_meet {a b s c d t g : Int} (gs : g ∣ s) (gt : g ∣ t) (gD : ¬ g ∣ c - a) (n : Int) : ¬ (Mem a b s n ∧ Mem c d t n) := by
  rintro ⟨⟨_, _, h1⟩, ⟨_, _, h2⟩⟩
  have e1 := Int.dvd_trans gs h1
  have e2 := Int.dvd_trans gt h2
  exact gD (by have := Int.dvd_sub e1 e2; rwa [show n - a - (n - c) = c - a by omega] at this)
end Go.Proofs.Yteghmmkhfgkdgaa.SM
