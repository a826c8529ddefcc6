/- The small functions of the span laws, said in plain numbers: Valid, Size, Apart, the descriptions of spans, the fixed examples. -/
import Derived.Test.YteghmmkhfgkdgaaMeet
import Derived.Test.YteghmmkhfgkdgaaQSx9
import Derived.Test.YteghmmkhfgkdgaaQSx10
namespace Go.Proofs.Yteghmmkhfgkdgaa.SM
open Go.RowKit Go.Proofs.YteghmmkhfgkdgaaW.PrintWords Go.Proofs.YteghmmkhfgkdgaaW.PrintLast Go.Proofs.YteghmmkhfgkdgaaW.PrintMore Go.Proofs.Yteghmmkhfgkdgaa.QS

theorem examples_true : Ev (fun k => warpwrightlaw25_examples.f k) true := Ev.of warpwrightlaw25_examples.mono (k := 60) (by decide +kernel)

/-- A number from -2^40 to 2^40. -/
def Near (n : Int) : Prop := -1099511627776 ≤ n ∧ n ≤ 1099511627776
instance (n : Int) : Decidable (Near n) := inferInstanceAs (Decidable (_ ∧ _))
theorem near_spec (n : Int) : span_near.f n = some (decide (Near n)) := by
  unfold span_near.f Near
  by_cases c : (-1099511627776) ≤ n
  · rw [if_pos c]; simp [c]
  · rw [if_neg c]; simp [c]
theorem valid_ok {lo hi st : Int} (h : Ok lo hi st) (h1 : Near lo) (h2 : Near hi) : Ev (fun k => span_Valid.f k lo hi st) true := by
  have hle := h.le
  obtain ⟨a1, a2⟩ := h1
  obtain ⟨b1, b2⟩ := h2
  refine Ev.congr (f := fun k => span_Valid.j0 k false lo hi st) (fun k => ?_) ?_
  · unfold span_Valid.f
    rw [near_spec, near_spec, decide_eq_true (show Near lo from ⟨a1, a2⟩), decide_eq_true (show Near hi from ⟨b1, b2⟩), decide_eq_false (show ¬ lo > hi by omega)]
    rfl
  · refine Ev.step (f := fun _ => some true) (fun k => ?_) (Ev.now _)
    simp only [span_Valid.j0]
    rw [if_neg (by simp)]
    rcases h with ⟨h, h'⟩ | ⟨h, h', h''⟩
    · rw [if_pos h, h']; rfl
    · rw [if_neg (by omega), if_pos (by omega), if_neg (by omega), w64 (by omega) (by omega), (tmod_zero_iff _ _).2 h'']; rfl

/-- How many elements of a span are less than n. -/
def cnt (lo hi st n : Int) : Int := if n ≤ lo then 0 else if hi < n then (hi - lo) / st + 1 else (n - 1 - lo) / st + 1
theorem div_pred {x st : Int} (hs : 0 < st) : x / st = (x - 1) / st + if st ∣ x then 1 else 0 := by
  have e1 := Int.emod_add_mul_ediv (x - 1) st
  have e2 := Int.emod_nonneg (x - 1) (show st ≠ 0 by omega)
  have e3 := Int.emod_lt_of_pos (x - 1) hs
  generalize (x - 1) / st = q at *
  generalize (x - 1) % st = r at *
  by_cases c : r + 1 = st
  · have ex : x = st * (q + 1) := by rw [Int.mul_add]; omega
    rw [if_pos ⟨q + 1, ex⟩, ex]
    exact Int.mul_ediv_cancel_left _ (by omega)
  · have ex : x = (r + 1) + st * q := by omega
    have hn : ¬ st ∣ x := by
      intro h
      have : x % st = 0 := Int.emod_eq_zero_of_dvd h
      rw [ex, Int.add_mul_emod_self_left, Int.emod_eq_of_lt (by omega) (by omega)] at this
      omega
    rw [if_neg hn, ex, Int.add_mul_ediv_left _ _ (by omega), Int.ediv_eq_zero_of_lt (by omega) (by omega)]
    omega
theorem cnt_low {lo hi st n : Int} (h : n ≤ lo) : cnt lo hi st n = 0 := by unfold cnt; rw [if_pos h]
theorem cnt_high {lo hi st n : Int} (h : lo < n) (h' : hi < n) : cnt lo hi st n = (hi - lo) / st + 1 := by unfold cnt; rw [if_neg (by omega), if_pos h']
theorem cnt_mid {lo hi st n : Int} (h : lo < n) (h' : n ≤ hi) : cnt lo hi st n = (n - 1 - lo) / st + 1 := by unfold cnt; rw [if_neg (by omega), if_neg (by omega)]
theorem cnt_step {lo hi st : Int} (h : Ok lo hi st) (n : Int) : cnt lo hi st (n + 1) = cnt lo hi st n + if Mem lo hi st n then 1 else 0 := by
  have hle := h.le
  by_cases c1 : n < lo
  · rw [cnt_low (by omega), cnt_low (by omega), if_neg (fun k => by have := k.1; omega)]; omega
  · by_cases c2 : n = lo
    · subst c2
      rw [cnt_low (n := n) (by omega), if_pos h.lo_mem]
      by_cases c3 : hi < n + 1
      · rw [cnt_high (by omega) c3]
        have : hi - n = 0 := by omega
        rw [this]; simp
      · rw [cnt_mid (by omega) (by omega)]
        have : n + 1 - 1 - n = 0 := by omega
        rw [this]; simp
    · by_cases c3 : hi < n
      · rw [cnt_high (by omega) (by omega), cnt_high (by omega) (by omega), if_neg (fun k => by have := k.2.1; omega)]; omega
      · have hst : 0 < st := by rcases h with h | h <;> omega
        have e : n + 1 - 1 - lo = n - lo := by omega
        have e' : n - 1 - lo = n - lo - 1 := by omega
        have hd := div_pred (x := n - lo) hst
        have hm : (if Mem lo hi st n then (1 : Int) else 0) = if st ∣ n - lo then 1 else 0 := by
          by_cases q : st ∣ n - lo
          · rw [if_pos q, if_pos ⟨by omega, by omega, q⟩]
          · rw [if_neg q, if_neg (fun k => q k.2.2)]
        rw [hm, cnt_mid (n := n) (by omega) (by omega), e']
        by_cases c4 : hi < n + 1
        · have : hi = n := by omega
          rw [cnt_high (by omega) c4, this]; omega
        · rw [cnt_mid (by omega) (by omega), e]; omega
theorem size_cnt {lo hi st : Int} (h : Ok lo hi st) (h1 : Near lo) (h2 : Near hi) {n : Int} (hn : hi < n) : span_Size.f lo hi st = some (cnt lo hi st n) := by
  have hle := h.le
  obtain ⟨a1, a2⟩ := h1
  obtain ⟨b1, b2⟩ := h2
  unfold span_Size.f cnt
  rw [if_neg (show ¬ n ≤ lo by omega), if_pos hn]
  rcases h with ⟨h, h'⟩ | ⟨h, h', h''⟩
  · rw [if_pos h', h']; simp
  · rw [if_neg (by omega), w64 (n := hi - lo) (by omega) (by omega)]
    have e : Int.tdiv (hi - lo) st = (hi - lo) / st := Int.tdiv_eq_ediv_of_nonneg (by omega)
    have q1 := Int.ediv_le_self st (show 0 ≤ hi - lo by omega)
    have q2 := Int.ediv_nonneg (show 0 ≤ hi - lo by omega) (show 0 ≤ st by omega)
    rw [e, w64 (n := (hi - lo) / st) (by omega) (by omega), w64 (by omega) (by omega)]

theorem tmod_bound {a m : Int} (hm : 0 < m) : -(m - 1) ≤ Int.tmod a m ∧ Int.tmod a m ≤ m - 1 := by
  have h := Int.natAbs_tmod a m
  have h2 : a.natAbs % m.natAbs < m.natAbs := Nat.mod_lt _ (by omega)
  omega
/-- A span with small numbers. -/
structure Sml (lo hi st : Int) : Prop where
  ok : Ok lo hi st
  lo40 : -40 ≤ lo
  hi160 : hi ≤ 166
  st9 : st ≤ 9
theorem Sml.In_lo {lo hi st : Int} (h : Sml lo hi st) : In lo := by have := h.ok.le; have := h.lo40; have := h.hi160; constructor <;> omega
theorem Sml.In_hi {lo hi st : Int} (h : Sml lo hi st) : In hi := by have := h.ok.le; have := h.lo40; have := h.hi160; constructor <;> omega
theorem made_spec {lo st k : Int} (hs : 1 ≤ st) (hk : 0 ≤ k) : ∃ hi' st', warpwrightref25_Made.f lo (lo + st * k) st = some (lo, hi', st') ∧ Ok lo hi' st' ∧ hi' = lo + st * k ∧ st' ≤ st := by
  unfold warpwrightref25_Made.f
  by_cases c : lo = lo + st * k
  · rw [if_pos c]; exact ⟨lo, 0, rfl, .inl ⟨rfl, rfl⟩, by omega, by omega⟩
  · rw [if_neg c]
    have : 0 ≤ st * k := Int.mul_nonneg (by omega) hk
    exact ⟨_, _, rfl, .inr ⟨by omega, hs, ⟨k, by omega⟩⟩, rfl, by omega⟩
theorem small_spec {a b c : Int} (hb : 0 ≤ b) (hc : 0 ≤ c) : ∃ lo hi st, warpwrightref25_Small.f a b c = some (lo, hi, st) ∧ Sml lo hi st := by
  have t1 : -40 ≤ Int.tmod a 41 ∧ Int.tmod a 41 ≤ 40 := tmod_bound (by omega)
  have t2 : Int.tmod b 9 = b % 9 := Int.tmod_eq_emod_of_nonneg hb
  have t3 : Int.tmod c 15 = c % 15 := Int.tmod_eq_emod_of_nonneg hc
  have mb := mul_bound (p := b % 9 + 1) (q := c % 15) (A := 9) (B := 14) (by omega) (by omega) (by omega) (by omega)
  obtain ⟨hi', st', e, hok, hhi, hst⟩ := made_spec (lo := Int.tmod a 41) (st := b % 9 + 1) (k := c % 15) (by omega) (by omega)
  refine ⟨_, hi', st', ?_, hok, t1.1, by omega, by omega⟩
  unfold warpwrightref25_Small.f
  rw [t2, t3, w64 (n := b % 9) (by omega) (by omega), w64 (n := c % 15) (by omega) (by omega), w64 (n := b % 9 + 1) (by omega) (by omega), w64 (n := (b % 9 + 1) * (c % 15)) (by omega) (by omega), w64 (by omega) (by omega), e]
  rfl
/-- Of two spans with small numbers: the meet lies in both. -/
theorem Meets.small {a b s c d t lo hi st : Int} (h : Sml a b s) (m : Meets a b s c d t lo hi st true) : -40 ≤ lo ∧ lo ≤ hi ∧ hi ≤ 166 ∧ Ok lo hi st ∧ ∀ n, Mem lo hi st n ↔ Mem a b s n ∧ Mem c d t n := by
  rcases m with ⟨h1, _⟩ | ⟨_, h2, h3⟩
  · cases h1
  · have m1 := ((h3 _).1 h2.lo_mem).1
    have m2 := ((h3 _).1 h2.hi_mem).1
    have := h.lo40; have := h.hi160
    exact ⟨by have := m1.1; omega, h2.le, by have := m2.2.1; omega, h2, h3⟩
theorem lawmeet_spec {a b s c d t lo hi st : Int} {is : Bool} (h : Ev (fun q => span_Meet.f q a b s c d t) (lo, hi, st, is)) : Ev (fun q => warpwrightlaw25_meet.f q a b s c d t) (lo, hi, st, is) :=
  Ev.congr (fun q => by unfold warpwrightlaw25_meet.f; rfl) (Ev.bind h (Ev.now _))
theorem apart_spec {a b s c d t lo hi st : Int} {is : Bool} (h : Ev (fun q => span_Meet.f q a b s c d t) (lo, hi, st, is)) : Ev (fun q => span_Apart.f q a b s c d t) (!is) :=
  Ev.congr (fun q => by unfold span_Apart.f; rfl) (Ev.bind h (Ev.now _))
end Go.Proofs.Yteghmmkhfgkdgaa.SM
