/- Meet of two spans, as the program computes it, is the span of the numbers of both. -/
import Derived.Test.YteghmmkhfgkdgaaSpec
import Derived.Test.YteghmmkhfgkdgaaQSx5
namespace Go.Proofs.Yteghmmkhfgkdgaa.SM
open Go.RowKit Go.Proofs.YteghmmkhfgkdgaaW.PrintWords Go.Proofs.YteghmmkhfgkdgaaW.PrintLast Go.Proofs.YteghmmkhfgkdgaaW.PrintMore Go.Proofs.Yteghmmkhfgkdgaa.QS

/-- What Meet answers. -/
def Meets (a b s c d t lo hi st : Int) (is : Bool) : Prop :=
  (is = false ∧ lo = 0 ∧ hi = 0 ∧ st = 0 ∧ ∀ n, ¬ (Mem a b s n ∧ Mem c d t n)) ∨ (is = true ∧ Ok lo hi st ∧ ∀ n, Mem lo hi st n ↔ Mem a b s n ∧ Mem c d t n)
theorem Meets.symm {a b s c d t lo hi st : Int} {is : Bool} (h : Meets a b s c d t lo hi st is) : Meets c d t a b s lo hi st is := by
  rcases h with ⟨h1, h2, h3, h4, h5⟩ | ⟨h1, h2, h3⟩
  · exact .inl ⟨h1, h2, h3, h4, fun n k => h5 n ⟨k.2, k.1⟩⟩
  · exact .inr ⟨h1, h2, fun n => (h3 n).trans ⟨fun k => ⟨k.2, k.1⟩, fun k => ⟨k.2, k.1⟩⟩⟩
theorem Meets.uniq {a b s c d t lo hi st lo' hi' st' : Int} {is is' : Bool} (h : Meets a b s c d t lo hi st is) (k : Meets a b s c d t lo' hi' st' is') : lo = lo' ∧ hi = hi' ∧ st = st' ∧ is = is' := by
  rcases h with ⟨h1, h2, h3, h4, h5⟩ | ⟨h1, h2, h3⟩ <;> rcases k with ⟨k1, k2, k3, k4, k5⟩ | ⟨k1, k2, k3⟩
  · exact ⟨by omega, by omega, by omega, by rw [h1, k1]⟩
  · exact absurd ((k3 _).1 k2.lo_mem) (h5 _)
  · exact absurd ((h3 _).1 h2.lo_mem) (k5 _)
  · obtain ⟨e1, e2, e3⟩ := ext h2 k2 (fun n => (h3 n).trans (k3 n).symm)
    exact ⟨e1, e2, e3, by rw [h1, k1]⟩

/-- The least and the greatest numbers that these laws speak of. -/
def In (n : Int) : Prop := -4398046511104 ≤ n ∧ n ≤ 4398046511104

theorem mul_bound {p q A B : Int} (p0 : 0 ≤ p) (p1 : p ≤ A) (q0 : 0 ≤ q) (q1 : q ≤ B) : 0 ≤ p * q ∧ p * q ≤ A * B := by
  refine ⟨Int.mul_nonneg p0 q0, ?_⟩
  exact Int.mul_le_mul p1 q1 q0 (by omega)

theorem meet_end {a b s c d t k l m : Int} (hs : 0 < s) (hm : 0 < m) (hkl : k ≤ l) (hsB : s ≤ 1073741824) (hmB : m ≤ 1073741824) (ha : In a) (hb : In b) (k0 : 0 ≤ k) (lB : a + s * l ≤ b)
    (H : ∀ n, Mem a b s n ∧ Mem c d t n ↔ ∃ j, n = a + s * j ∧ k ≤ j ∧ j ≤ l ∧ m ∣ j - k) :
    ∃ lo hi st, Ev (fun q => span_Meet.j3 q m k l a b s) (lo, hi, st, true) ∧ Meets a b s c d t lo hi st true := by
  obtain ⟨ha1, ha2⟩ := ha
  obtain ⟨hb1, hb2⟩ := hb
  obtain ⟨G1, G2, G3, G4⟩ := greatest hm hkl rfl
  have l0 : 0 ≤ l := by omega
  have sl : l ≤ s * l := by
    have : 0 ≤ (s - 1) * l := Int.mul_nonneg (by omega) l0
    rw [Int.sub_mul] at this; omega
  have e1 : Int.tmod (wrap64 (l - k)) m = (l - k) % m := by rw [w64 (by omega) (by omega)]; exact Int.tmod_eq_emod_of_nonneg (by omega)
  have e2 := Int.emod_nonneg (l - k) (show m ≠ 0 by omega)
  generalize hl' : l - (l - k) % m = l' at *
  have sk : 0 ≤ s * k ∧ s * k ≤ s * l := ⟨Int.mul_nonneg (by omega) k0, Int.mul_le_mul_of_nonneg_left hkl (by omega)⟩
  have sl' : 0 ≤ s * l' ∧ s * l' ≤ s * l := ⟨Int.mul_nonneg (by omega) (by omega), Int.mul_le_mul_of_nonneg_left G2 (by omega)⟩
  have sm := mul_bound (p := s) (q := m) (by omega) hsB (by omega) hmB
  have w1 : wrap64 (s * k) = s * k := w64 (by omega) (by omega)
  have w2 : wrap64 (a + s * k) = a + s * k := w64 (by omega) (by omega)
  have w3 : wrap64 (l - (l - k) % m) = l' := by rw [w64 (by omega) (by omega)]; exact hl'
  have w4 : wrap64 (s * l') = s * l' := w64 (by omega) (by omega)
  have w5 : wrap64 (a + s * l') = a + s * l' := w64 (by omega) (by omega)
  have w6 : wrap64 (s * m) = s * m := w64 (by omega) (by omega)
  obtain ⟨S1, S2⟩ := steps (a := a) hs hm G1 G3
  refine ⟨_, _, _, ?_, .inr ⟨rfl, S1, fun n => (S2 n).trans ((H n).trans ?_).symm⟩⟩
  · refine Ev.step (fun q => by simp only [span_Meet.j3]; rw [if_neg (by omega), e1, w1, w2, w3, w4, w5, w6]) ?_
    have hmade : span_made.f (a + s * k) (a + s * l') 0 = some (a + s * k, a + s * l', 0) := by unfold span_made.f; split <;> rfl
    simp only [hmade, Option.bind_some]
    by_cases c : k < l'
    · rw [if_pos c]
      refine Ev.congr (fun q => by rw [if_pos c]) (Ev.step (fun q => by simp only [span_Meet.j4]) (Ev.now _))
    · rw [if_neg c]
      refine Ev.congr (fun q => by rw [if_neg c]) (Ev.step (fun q => by simp only [span_Meet.j4]) (Ev.now _))
  · constructor
    · rintro ⟨j, h1, h2, h3, h4⟩; exact ⟨j, h1, h2, G4 j h3 h4, h4⟩
    · rintro ⟨j, h1, h2, h3, h4⟩; exact ⟨j, h1, h2, by omega, h4⟩

theorem none_of {a b s c d t : Int} (h : ∀ n, ¬ (Mem a b s n ∧ Mem c d t n)) : Meets a b s c d t 0 0 0 false := .inl ⟨rfl, rfl, rfl, rfl, h⟩

theorem ediv_bound {a b : Int} (hb : 0 < b) (B : Int) (hB : 0 ≤ B) (h1 : -B ≤ a) (h2 : a ≤ B) : -B ≤ a / b ∧ a / b ≤ B := by
  constructor
  · rw [Int.le_ediv_iff_mul_le hb]
    have : B * 1 ≤ B * b := Int.mul_le_mul_of_nonneg_left (by omega) hB
    rw [Int.neg_mul]; omega
  · by_cases h : 0 ≤ a
    · have := Int.ediv_le_self b h; omega
    · have := Int.ediv_neg_of_neg_of_pos (show a < 0 by omega) hb; omega

/-- Meet of spans with steps, the first one with the greater step. -/
theorem meet_j1 {a b s c d t lo hi : Int} (hs : 0 < s) (ht : 0 < t) (hS : s ∣ b - a) (hT : t ∣ d - c) (hsB : s ≤ 1073741824) (htB : t ≤ 1073741824) (ha : In a) (hb : In b) (hc : In c) (hd : In d)
    (hlo : lo = if a < c then c else a) (hhi : hi = if d < b then d else b) (hlh : lo ≤ hi) :
    ∃ lo' hi' st is, Ev (fun q => span_Meet.j1 q lo hi false a b s c d t) (lo', hi', st, is) ∧ Meets a b s c d t lo' hi' st is := by
  obtain ⟨ha1, ha2⟩ := ha
  obtain ⟨hb1, hb2⟩ := hb
  obtain ⟨hc1, hc2⟩ := hc
  obtain ⟨hd1, hd2⟩ := hd
  have hlo2 : a ≤ lo ∧ c ≤ lo ∧ -4398046511104 ≤ lo := by rw [hlo]; split <;> omega
  have hhi2 : hi ≤ b ∧ hi ≤ d := by rw [hhi]; split <;> omega
  obtain ⟨g, x, y, hE, hg, g1, g2, g3, g4, g5, g6, g7⟩ := euclid_spec t.toNat s t rfl (by omega) (by omega) (by omega) (by omega)
  have hg0 : 0 < g := g3 hs
  have wD : wrap64 (c - a) = c - a := w64 (by omega) (by omega)
  have ev1 : ∀ {r : Int × Int × Int × Bool}, Ev (fun q => if Int.tmod (c - a) g = 0 then span_Meet.j2 q lo hi g a b s c d t g x y else some (0, 0, 0, false)) r → Ev (fun q => span_Meet.j1 q lo hi false a b s c d t) r := by
    intro r h
    refine Ev.step (fun q => by simp only [span_Meet.j1]; rw [if_neg (by simp), if_neg (by omega)]) ?_
    refine Ev.bind hE ?_
    refine Ev.congr (fun q => ?_) h
    simp only []
    rw [if_neg (by omega), wD]
  by_cases gD : g ∣ c - a
  · -- the classes meet
    have xb := g6 (by omega)
    have gt' : g ≤ t := dvd_le g2 (by omega)
    have em : Int.tdiv t g = t / g := Int.tdiv_eq_ediv_of_nonneg (by omega)
    have eD : Int.tdiv (c - a) g = (c - a) / g := Int.tdiv_eq_ediv_of_dvd gD
    have tg1 : t / g ≤ t := Int.ediv_le_self g (by omega)
    obtain ⟨bD1, bD2⟩ := ediv_bound hg0 8796093022208 (by omega) (show -8796093022208 ≤ c - a by omega) (by omega)
    obtain ⟨M1, M2, M3, M4, M5⟩ := meet hs ht hS hT hg0 g1 g2 hg gD hlo hhi rfl
    have F1 := floor_spec (a := a - lo) (b := s) hs (by omega) (by omega)
    have F2 := floor_spec (a := hi - a) (b := s) hs (by omega) (by omega)
    obtain ⟨f1, f2⟩ := ediv_bound hs 8796093022208 (by omega) (show -8796093022208 ≤ a - lo by omega) (by omega)
    obtain ⟨l1, l2⟩ := ediv_bound hs 8796093022208 (by omega) (show -8796093022208 ≤ hi - a by omega) (by omega)
    have k0 := Int.emod_nonneg ((c - a) / g * x) (show t / g ≠ 0 by omega)
    have k1 := Int.emod_lt_of_pos ((c - a) / g * x) M2
    have MM := mulmod_spec (a := (c - a) / g) (b := x) (m := t / g) M2 (by omega) (by omega) (by omega) (by omega) (by omega)
    have hlast : a + s * ((hi - a) / s) ≤ b := by
      have := Int.mul_ediv_self_le (x := hi - a) (k := s) (by omega); omega
    generalize hk0 : (c - a) / g * x % (t / g) = K0 at *
    generalize hfirst : (a - lo) / s = F at *
    generalize hlst : (hi - a) / s = L at *
    generalize hm : t / g = m at *
    have F3 := floor_spec (a := K0 - -F) (b := m) M2 (by omega) (by omega)
    obtain ⟨v1, v2⟩ := ediv_bound M2 17592186044416 (by omega) (show -17592186044416 ≤ K0 - -F by omega) (by omega)
    have emul := Int.emod_add_mul_ediv (K0 - -F) m
    have em1 := Int.emod_nonneg (K0 - -F) (show m ≠ 0 by omega)
    have em2 := Int.emod_lt_of_pos (K0 - -F) M2
    generalize hv : (K0 - -F) / m = V at *
    have ji : mx 0 (wrap64 (-V)) = if 0 < -V then -V else 0 := by rw [w64 (by omega) (by omega)]; unfold mx; rfl
    have mulV : (if 0 < -V then -V else 0) * m = if 0 < -V then -(m * V) else 0 := by
      split
      · rw [Int.neg_mul, Int.mul_comm]
      · omega
    have kB : (if 0 < -V then -V else 0) * m ≤ 17592186044416 ∧ 0 ≤ (if 0 < -V then -V else 0) * m := by
      rw [mulV]; split
      · rename_i h
        have : 0 ≤ m * (-V) := Int.mul_nonneg (by omega) (by omega)
        rw [Int.mul_neg] at this; omega
      · omega
    generalize hkk : K0 + (if 0 < -V then -V else 0) * m = k at *
    have ev2 : ∀ {r : Int × Int × Int × Bool}, Ev (fun q => if k > L then some (0, 0, 0, false) else span_Meet.j3 q m k L a b s) r → Ev (fun q => span_Meet.j1 q lo hi false a b s c d t) r := by
      intro r h
      refine ev1 (Ev.congr (fun q => by rw [if_pos ((tmod_zero_iff _ _).2 gD)]) ?_)
      refine Ev.step (fun q => by simp only [span_Meet.j2]; rw [if_neg (by omega), wD, eD, em, w64 (n := (c - a) / g) (by omega) (by omega), w64 (n := m) (by omega) (by omega), MM]) ?_
      simp only [Option.bind_some]
      refine Ev.congr (fun q => ?_) h
      rw [w64 (n := a - lo) (by omega) (by omega), F1]
      simp only [Option.bind_some]
      rw [w64 (n := hi - a) (by omega) (by omega), F2]
      simp only [Option.bind_some]
      rw [w64 (n := -F) (by omega) (by omega), w64 (n := K0 - -F) (by omega) (by omega), F3]
      simp only [Option.bind_some]
      rw [ji, w64 (n := (if 0 < -V then -V else 0) * m) (by omega) (by omega), w64 (n := K0 + (if 0 < -V then -V else 0) * m) (by omega) (by omega), hkk]
    by_cases hkl : k ≤ L
    · obtain ⟨lo', hi', st, hev, hme⟩ := meet_end (c := c) (d := d) (t := t) hs M2 hkl hsB (by omega) ⟨ha1, ha2⟩ ⟨hb1, hb2⟩ M3 hlast M1
      exact ⟨lo', hi', st, true, ev2 (Ev.congr (fun q => by rw [if_neg (by omega)]) hev), hme⟩
    · refine ⟨0, 0, 0, false, ev2 (Ev.congr (fun q => by rw [if_pos (by omega)]) (Ev.now _)), none_of ?_⟩
      intro n hn
      obtain ⟨j, _, j1, j2, _⟩ := (M1 n).1 hn
      omega
  · refine ⟨0, 0, 0, false, ev1 (Ev.congr (fun q => by rw [if_neg (fun h => gD ((tmod_zero_iff _ _).1 h))]) (Ev.now _)), none_of (no_meet g1 g2 gD)⟩

theorem mem_single {c n : Int} : Mem c c 0 n ↔ n = c := ⟨fun h => by have := h.1; have := h.2.1; omega, fun h => by subst h; exact ⟨by omega, by omega, by simp⟩⟩

/-- Meet, the first span with a step that is not smaller. -/
theorem meet_j0 {a b s c d t : Int} (h : Ok a b s) (k : Ok c d t) (hst : t ≤ s) (hsB : s ≤ 1073741824) (ha : In a) (hb : In b) (hc : In c) (hd : In d) :
    ∃ lo' hi' st is, Ev (fun q => span_Meet.j0 q a b s c d t) (lo', hi', st, is) ∧ Meets a b s c d t lo' hi' st is := by
  have t0 := k.st0
  by_cases cr : mx a c > mn b d
  · refine ⟨0, 0, 0, false, Ev.step (fun q => by simp only [span_Meet.j0]; rw [if_pos cr]) (Ev.now _), none_of ?_⟩
    rintro n ⟨⟨m1, m2, _⟩, ⟨m3, m4, _⟩⟩
    unfold mx mn at cr
    split at cr <;> split at cr <;> omega
  · by_cases ct : t = 0
    · subst ct
      have hcd : c = d := by rcases k with k | k <;> omega
      subst hcd
      have hh := has_spec h (by have := ha.1; omega) (by have := hb.2; omega) c
      have ev1 : ∀ {r : Int × Int × Int × Bool}, Ev (fun q => span_Meet.j1 q (mx a c) (mn b c) (!decide (Mem a b s c)) a b s c c 0) r → Ev (fun q => span_Meet.j0 q a b s c c 0) r := by
        intro r h'
        refine Ev.step (fun q => by simp only [span_Meet.j0]; rw [if_neg cr, hh]) ?_
        simpa using h'
      by_cases hm : Mem a b s c
      · refine ⟨c, c, 0, true, ev1 (Ev.step (fun q => by simp only [span_Meet.j1]; rw [decide_eq_true hm]; rfl) (Ev.now _)), .inr ⟨rfl, k, fun n => ?_⟩⟩
        rw [mem_single]
        exact ⟨fun e => by subst e; exact ⟨hm, rfl⟩, fun e => e.2⟩
      · refine ⟨0, 0, 0, false, ev1 (Ev.step (fun q => by simp only [span_Meet.j1]; rw [decide_eq_false hm]; rfl) (Ev.now _)), none_of ?_⟩
        intro n
        rw [mem_single]
        rintro ⟨h1, rfl⟩
        exact hm h1
    · have hab : a < b ∧ 1 ≤ s := by rcases h with h | h <;> omega
      have hcd : c < d ∧ 1 ≤ t := by rcases k with k | k <;> omega
      obtain ⟨lo', hi', st, is, hev, hme⟩ := meet_j1 (a := a) (b := b) (s := s) (c := c) (d := d) (t := t) (lo := mx a c) (hi := mn b d) (by omega) (by omega) h.dvd k.dvd hsB (by omega) ha hb hc hd
        (by unfold mx; rfl) (by unfold mn; rfl) (by omega)
      exact ⟨lo', hi', st, is, Ev.step (fun q => by simp only [span_Meet.j0]; rw [if_neg cr, if_neg ct]) hev, hme⟩

theorem meet_spec {a b s c d t : Int} (h : Ok a b s) (k : Ok c d t) (hsB : s ≤ 1073741824) (htB : t ≤ 1073741824) (ha : In a) (hb : In b) (hc : In c) (hd : In d) :
    ∃ lo' hi' st is, Ev (fun q => span_Meet.f q a b s c d t) (lo', hi', st, is) ∧ Meets a b s c d t lo' hi' st is := by
  by_cases cst : s < t
  · obtain ⟨lo', hi', st, is, hev, hme⟩ := meet_j0 k h (by omega) htB hc hd ha hb
    exact ⟨lo', hi', st, is, Ev.congr (fun q => by unfold span_Meet.f; rw [if_pos cst]) hev, hme.symm⟩
  · obtain ⟨lo', hi', st, is, hev, hme⟩ := meet_j0 h k (by omega) hsB ha hb hc hd
    exact ⟨lo', hi', st, is, Ev.congr (fun q => by unfold span_Meet.f; rw [if_neg cst]) hev, hme⟩
end Go.Proofs.Yteghmmkhfgkdgaa.SM
