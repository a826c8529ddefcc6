/- The reference's small functions for spans, said in plain numbers: descriptions of great spans, elements by index, Valid, Has, Gcd; and the remainders Mod. -/
import Derived.Test.YteghmmkhfgkdgaaJoin
import Derived.Test.YteghmmkhfgkdgaaQSx12
namespace Go.Proofs.Yteghmmkhfgkdgaa.SM
open Go.RowKit Go.Proofs.YteghmmkhfgkdgaaW.PrintWords Go.Proofs.YteghmmkhfgkdgaaW.PrintLast Go.Proofs.YteghmmkhfgkdgaaW.PrintMore Go.Proofs.Yteghmmkhfgkdgaa.QS

/-- A span of a description: numbers below 2^40, steps up to 2^24. -/
structure Big (lo hi st : Int) : Prop where
  ok : Ok lo hi st
  lo39 : -549755813888 ≤ lo
  hi39 : hi ≤ 620000000000
  st24 : st ≤ 16777216
theorem Big.near_lo {lo hi st : Int} (h : Big lo hi st) : Near lo := by have := h.ok.le; have := h.lo39; have := h.hi39; constructor <;> omega
theorem Big.near_hi {lo hi st : Int} (h : Big lo hi st) : Near hi := by have := h.ok.le; have := h.lo39; have := h.hi39; constructor <;> omega
theorem Near.In {n : Int} (h : Near n) : In n := ⟨by have := h.1; omega, by have := h.2; omega⟩

theorem span_desc {a b c : Int} (hb : 0 ≤ b) (_ : b ≤ 4294967295) (hc : 0 ≤ c) : ∃ lo hi st, warpwrightref25_Span.f a b c = some (lo, hi, st) ∧ Big lo hi st := by
  have t1 := tmod_bound (a := a) (m := 549755813888) (by omega)
  have t2 : Int.tmod b 4096 = b % 4096 := Int.tmod_eq_emod_of_nonneg hb
  have t3 : Int.tmod c 4096 = c % 4096 := Int.tmod_eq_emod_of_nonneg hc
  have w2 : wrap64 (b % 4096) = b % 4096 := w64 (by omega) (by omega)
  have w3 : wrap64 (c % 4096) = c % 4096 := w64 (by omega) (by omega)
  have w4 : wrap64 (b % 4096 + 1) = b % 4096 + 1 := w64 (by omega) (by omega)
  unfold warpwrightref25_Span.f
  rw [t2, t3, w2, w3, w4]
  by_cases c1 : b > 2147483648
  · have w5 : wrap64 ((b % 4096 + 1) * 4096) = (b % 4096 + 1) * 4096 := w64 (by omega) (by omega)
    have mb := mul_bound (p := (b % 4096 + 1) * 4096) (q := c % 4096) (A := 16777216) (B := 4095) (by omega) (by omega) (by omega) (by omega)
    obtain ⟨hi', st', e, hok, hhi, hst⟩ := made_spec (lo := Int.tmod a 549755813888) (st := (b % 4096 + 1) * 4096) (k := c % 4096) (by omega) (by omega)
    refine ⟨_, hi', st', ?_, hok, by omega, by omega, by omega⟩
    rw [if_pos c1, w5, w64 (n := (b % 4096 + 1) * 4096 * (c % 4096)) (by omega) (by omega), w64 (by omega) (by omega), e]
    rfl
  · have mb := mul_bound (p := b % 4096 + 1) (q := c % 4096) (A := 4096) (B := 4095) (by omega) (by omega) (by omega) (by omega)
    obtain ⟨hi', st', e, hok, hhi, hst⟩ := made_spec (lo := Int.tmod a 549755813888) (st := b % 4096 + 1) (k := c % 4096) (by omega) (by omega)
    refine ⟨_, hi', st', ?_, hok, by omega, by omega, by omega⟩
    rw [if_neg c1, w64 (n := (b % 4096 + 1) * (c % 4096)) (by omega) (by omega), w64 (by omega) (by omega), e]
    rfl

theorem pick_spec {lo hi st i : Int} (h : Ok lo hi st) (h1 : Near lo) (h2 : Near hi) (hi0 : 0 ≤ i) (hi1 : i ≤ 65535) : ∃ p, warpwrightlaw25_pick.f lo hi st i = some p ∧ Mem lo hi st p := by
  have hle := h.le
  obtain ⟨a1, a2⟩ := h1
  obtain ⟨b1, b2⟩ := h2
  unfold warpwrightlaw25_pick.f warpwrightref25_Size.f
  rw [w64 (n := i) (by omega) (by omega)]
  rcases h with ⟨h, h'⟩ | ⟨h, h', h''⟩
  · subst h' h
    refine ⟨lo, ?_, by omega, by omega, by simp⟩
    rw [if_pos rfl, Option.bind_some, if_neg (by omega)]
    have : Int.tmod i 1 = 0 := Int.tmod_one i
    rw [this, Int.mul_zero, w64 (n := 0) (by omega) (by omega), w64 (by omega) (by omega)]
    congr 1; omega
  · have e : Int.tdiv (hi - lo) st = (hi - lo) / st := Int.tdiv_eq_ediv_of_nonneg (by omega)
    have q1 := Int.ediv_le_self st (show 0 ≤ hi - lo by omega)
    have q2 := Int.ediv_nonneg (show 0 ≤ hi - lo by omega) (show 0 ≤ st by omega)
    have q3 := Int.mul_ediv_self_le (x := hi - lo) (k := st) (by omega)
    rw [if_neg (by omega), w64 (n := hi - lo) (by omega) (by omega), e, w64 (n := (hi - lo) / st) (by omega) (by omega), w64 (n := (hi - lo) / st + 1) (by omega) (by omega), Option.bind_some, if_neg (by omega)]
    generalize (hi - lo) / st = q at *
    have e2 : Int.tmod i (q + 1) = i % (q + 1) := Int.tmod_eq_emod_of_nonneg hi0
    have r0 := Int.emod_nonneg i (show q + 1 ≠ 0 by omega)
    have r1 := Int.emod_lt_of_pos i (show 0 < q + 1 by omega)
    rw [e2]
    generalize i % (q + 1) = j at *
    have m1 : 0 ≤ st * j := Int.mul_nonneg (by omega) r0
    have m2 : st * j ≤ st * q := Int.mul_le_mul_of_nonneg_left (by omega) (by omega)
    refine ⟨lo + st * j, ?_, by omega, by omega, ⟨j, by omega⟩⟩
    rw [w64 (n := st * j) (by omega) (by omega), w64 (by omega) (by omega)]

instance (lo hi st : Int) : Decidable (Ok lo hi st) := inferInstanceAs (Decidable (_ ∨ _))
/-- A valid span. -/
def Vld (lo hi st : Int) : Prop := Near lo ∧ Near hi ∧ Ok lo hi st
instance (lo hi st : Int) : Decidable (Vld lo hi st) := inferInstanceAs (Decidable (_ ∧ _ ∧ _))
theorem rnear_spec (n : Int) : warpwrightref25_near.f n = some (decide (Near n)) := by
  unfold warpwrightref25_near.f warpwrightref25_Edge.f Near
  simp only [Option.bind_some]
  rw [w64 (by omega) (by omega)]
  by_cases c : n ≥ -1099511627776
  · rw [if_pos c]
    have c' : -1099511627776 ≤ n := by omega
    simp [c']
  · rw [if_neg c]
    have c' : ¬ -1099511627776 ≤ n := by omega
    simp [c']
theorem valid_core {lo hi st : Int} (h1 : Near lo) (h2 : Near hi) :
    (if lo > hi then false else if lo = hi then (st == 0) else if st ≥ 1 then (Int.tmod (wrap64 (hi - lo)) st == 0) else false) = decide (Ok lo hi st) := by
  obtain ⟨a1, a2⟩ := h1
  obtain ⟨b1, b2⟩ := h2
  rw [w64 (by omega) (by omega), Bool.eq_iff_iff]
  simp only [decide_eq_true_eq]
  unfold Ok
  by_cases c1 : lo > hi
  · rw [if_pos c1]; simp; omega
  · rw [if_neg c1]
    by_cases c2 : lo = hi
    · rw [if_pos c2]; simp; omega
    · rw [if_neg c2]
      by_cases c3 : st ≥ 1
      · rw [if_pos c3]
        simp only [beq_iff_eq, tmod_zero_iff]
        exact ⟨fun k => .inr ⟨by omega, by omega, k⟩, fun k => by rcases k with k | k; omega; exact k.2.2⟩
      · rw [if_neg c3]; simp; omega
theorem rvalid_spec (lo hi st : Int) : Ev (fun k => warpwrightref25_Valid.f k lo hi st) (decide (Vld lo hi st)) := by
  have key : ∀ x, Ev (fun k => warpwrightref25_Valid.j0 k x lo hi st) (if x = true then false else if lo = hi then (st == 0) else if st ≥ 1 then (Int.tmod (wrap64 (hi - lo)) st == 0) else false) := by
    intro x
    refine Ev.step (f := fun _ => some _) (fun k => ?_) (Ev.now _)
    simp only [warpwrightref25_Valid.j0]
    split
    · rfl
    · split
      · rfl
      · split
        · rw [if_neg (by omega)]
        · rfl
  unfold warpwrightref25_Valid.f
  rw [rnear_spec, rnear_spec]
  simp only [Option.bind_some]
  by_cases c1 : Near lo
  · by_cases c2 : Near hi
    · have k := key (decide (lo > hi))
      simp only [decide_eq_true_eq] at k
      rw [valid_core c1 c2] at k
      simp only [c1, c2, decide_true, if_true]
      have e : decide (Vld lo hi st) = decide (Ok lo hi st) := by unfold Vld; simp [c1, c2]
      rw [e]; exact k
    · have k := key true
      have e : decide (Vld lo hi st) = false := by unfold Vld; simp [c2]
      simp only [c1, c2, decide_true, if_true, decide_false]
      rw [e]; simpa using k
  · have k := key true
    have e : decide (Vld lo hi st) = false := by unfold Vld; simp [c1]
    simp only [c1, decide_false]
    rw [e]; simpa using k
theorem rhas_spec {lo hi st : Int} (h : Ok lo hi st) (h1 : Near lo) (h2 : Near hi) (n : Int) : warpwrightref25_Has.f lo hi st n = some (decide (Mem lo hi st n)) := by
  have hle := h.le
  obtain ⟨a1, a2⟩ := h1
  obtain ⟨b1, b2⟩ := h2
  unfold warpwrightref25_Has.f
  by_cases c1 : n < lo
  · rw [if_pos c1, decide_eq_false (fun k => by have := k.1; omega)]
  · rw [if_neg c1]
    by_cases c2 : n > hi
    · rw [if_pos c2, decide_eq_false (fun k => by have := k.2.1; omega)]
    · rw [if_neg c2]
      by_cases c3 : st = 0
      · rw [if_pos c3]
        have : lo = hi := by rcases h with h | h <;> omega
        rw [decide_eq_true ⟨by omega, by omega, by rw [show n - lo = 0 by omega]; exact Int.dvd_zero _⟩]
      · rw [if_neg c3, w64 (by omega) (by omega)]
        congr 1
        rw [Bool.eq_iff_iff]
        simp only [beq_iff_eq, decide_eq_true_eq, tmod_zero_iff]
        exact ⟨fun k => ⟨by omega, by omega, k⟩, fun k => k.2.2⟩
/-- A span that lies in another one. -/
theorem inside_spec {a b s c d t : Int} (h : Ok a b s) (k : Ok c d t) (ha : Near a) (hb : Near b) (hc : Near c) (hd : Near d) (hsub : ∀ n, Mem a b s n → Mem c d t n) : warpwrightlaw25_inside.f a b s c d t = some true := by
  have hs : a + s ≤ b ∨ s = 0 := by
    by_cases q : a < b
    · exact .inl (h.next_mem q).2.1
    · rcases h with h | h
      · exact .inr h.2
      · omega
  have m3 : Mem c d t (a + s) := by
    by_cases q : a < b
    · exact hsub _ (h.next_mem q)
    · have : s = 0 := by rcases h with h | h <;> omega
      rw [this, Int.add_zero]; exact hsub _ h.lo_mem
  have w : wrap64 (a + s) = a + s := by
    obtain ⟨a1, a2⟩ := ha
    obtain ⟨b1, b2⟩ := hb
    have := h.st0
    exact w64 (by omega) (by omega)
  unfold warpwrightlaw25_inside.f
  rw [rhas_spec k hc hd, rhas_spec k hc hd, w, rhas_spec k hc hd, decide_eq_true (hsub _ h.lo_mem), decide_eq_true (hsub _ h.hi_mem), decide_eq_true m3]
  rfl

theorem rgcd_l0 : ∀ (d : Nat) (x y : Int), y.natAbs = d → 0 ≤ x → 0 ≤ y → Ev (fun k => warpwrightref25_Gcd.l0 k x y) (Nat.gcd x.natAbs y.natAbs : Int) := by
  intro d
  induction d using Nat.strongRecOn with
  | _ d ih =>
    intro x y hd hx hy
    by_cases c : y = 0
    · subst c
      have e : ((Nat.gcd x.natAbs (0 : Int).natAbs : Nat) : Int) = x := by simp; omega
      rw [e]
      exact Ev.step (fun k => by simp only [warpwrightref25_Gcd.l0, if_true]) (Ev.now _)
    · have e1 : Int.tmod x y = x % y := Int.tmod_eq_emod_of_nonneg hx
      have e2 := Int.emod_nonneg x c
      have e3 := Int.emod_lt_of_pos x (show 0 < y by omega)
      have := ih (x % y).natAbs (by omega) y (x % y) rfl hy e2
      rw [← gcd_step, e1]
      exact Ev.step (fun k => by simp only [warpwrightref25_Gcd.l0]; rw [if_neg c, e1]) this
theorem rgcd_spec {x y : Int} (hx : 0 ≤ x) (hy : 0 ≤ y) : Ev (fun k => warpwrightref25_Gcd.f k x y) (Nat.gcd x.natAbs y.natAbs : Int) := by
  refine Ev.congr (fun k => by unfold warpwrightref25_Gcd.f; rw [if_neg (by omega)]) ?_
  refine Ev.step (fun k => by simp only [warpwrightref25_Gcd.j0]; rw [if_neg (by omega)]) ?_
  exact Ev.step (fun k => by simp only [warpwrightref25_Gcd.j1]) (rgcd_l0 _ x y rfl hx hy)

/-- The remainders modulo m, by the greatest common divisor of step and m. -/
theorem mod_spec {lo hi st m : Int} (h0 : 0 ≤ st) (hst : st ≤ 4398046511104) (hlo : In lo) (m1 : 1 ≤ m) (m2 : m ≤ 1099511627776) :
    ∃ g r st', g = (Nat.gcd st.natAbs m.natAbs : Int) ∧ 1 ≤ g ∧ g ∣ st ∧ g ∣ m ∧ r = lo % g ∧ Ev (fun k => warpwrightlaw25_mod.f k lo hi st m) (r, m - 1 - (m - 1 - r) % g, st', 0) ∧ st' = (if r = m - 1 - (m - 1 - r) % g then 0 else g) := by
  obtain ⟨l1, l2⟩ := hlo
  have hg := gcd_spec [st, m] (by simp) (by
    intro n hn
    simp only [List.mem_cons, List.not_mem_nil, or_false] at hn
    rcases hn with rfl | rfl <;> omega)
  have eg : gfold 0 [st, m] = Nat.gcd st.natAbs m.natAbs := by simp [gfold]
  rw [eg] at hg
  have g1 : ((Nat.gcd st.natAbs m.natAbs : Nat) : Int) ∣ st := Int.gcd_dvd_left st m
  have g2 : ((Nat.gcd st.natAbs m.natAbs : Nat) : Int) ∣ m := Int.gcd_dvd_right st m
  have g0 : 0 < Nat.gcd st.natAbs m.natAbs := Nat.gcd_pos_of_pos_right _ (by omega)
  generalize hG : ((Nat.gcd st.natAbs m.natAbs : Nat) : Int) = g at *
  have gpos : 0 < g := by omega
  have gm : g ≤ m := dvd_le g2 (by omega)
  have r0 := Int.emod_nonneg lo (show g ≠ 0 by omega)
  have r1 := Int.emod_lt_of_pos lo gpos
  refine ⟨g, lo % g, _, rfl, by omega, g1, g2, rfl, ?_, rfl⟩
  have R1 := rest_spec (a := lo) (b := g) gpos (by omega) (by omega) (by omega)
  generalize lo % g = r at *
  have R2 := rest_spec (a := m - 1 - r) (b := g) gpos (by omega) (by omega) (by omega)
  have s0 := Int.emod_nonneg (m - 1 - r) (show g ≠ 0 by omega)
  have s1 := Int.emod_lt_of_pos (m - 1 - r) gpos
  refine Ev.congr (f := fun k => (span_Mod.f k lo hi st m).bind fun x => some (x.1, x.2.1, x.2.2.1, x.2.2.2)) (fun k => by unfold warpwrightlaw25_mod.f; rfl) ?_
  refine Ev.bind (g := fun k => span_Mod.f k lo hi st m) (a := (r, m - 1 - (m - 1 - r) % g, (if r = m - 1 - (m - 1 - r) % g then 0 else g), 0)) ?_ (Ev.now _)
  refine Ev.congr (f := fun k => span_Mod.j0 k m false lo hi st) (fun k => by unfold span_Mod.f; rw [if_neg (by omega), decide_eq_false (by omega)]) ?_
  refine Ev.step (fun k => by simp only [span_Mod.j0]; rw [if_neg (by simp)]) ?_
  refine Ev.bind hg ?_
  refine Ev.congr (f := fun _ => some (r, m - 1 - (m - 1 - r) % g, (if r = m - 1 - (m - 1 - r) % g then 0 else g), 0)) (fun k => ?_) (Ev.now _)
  rw [R1, Option.bind_some, w64 (n := m - 1) (by omega) (by omega), w64 (n := m - 1 - r) (by omega) (by omega), R2, Option.bind_some, w64 (n := m - 1 - (m - 1 - r) % g) (by omega) (by omega)]
  unfold span_made.f
  split <;> rfl
end Go.Proofs.Yteghmmkhfgkdgaa.SM
