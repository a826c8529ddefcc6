/- For every description, modulus and number the law SpanMods, as printed, answers true. -/
import Derived.Test.YteghmmkhfgkdgaaRef
import Derived.Test.YteghmmkhfgkdgaaQSx15
import Derived.OpenShut
namespace Go.Proofs.Yteghmmkhfgkdgaa.SM
open Go.RowKit Go.Proofs.YteghmmkhfgkdgaaW.PrintWords Go.Proofs.YteghmmkhfgkdgaaW.PrintLast Go.Proofs.YteghmmkhfgkdgaaW.PrintMore Go.Proofs.Yteghmmkhfgkdgaa.QS

/-- The remainders modulo m that are those of lo modulo g. -/
def Rem (m g r n : Int) : Prop := 0 ≤ n ∧ n < m ∧ g ∣ n - r
theorem rem_mem {m g r : Int} (hg : 1 ≤ g) (hgm : g ∣ m) (hm : 1 ≤ m) (r0 : 0 ≤ r) (r1 : r < g) :
    let hi := m - 1 - (m - 1 - r) % g
    Ok r hi (if r = hi then 0 else g) ∧ hi < m ∧ (∀ n, Mem r hi (if r = hi then 0 else g) n ↔ Rem m g r n) ∧ hi = r + (m / g - 1) * g := by
  intro hi
  have gm := dvd_le hgm (by omega)
  obtain ⟨q, hq⟩ := hgm
  have e1 := Int.emod_add_mul_ediv (m - 1 - r) g
  have e2 := Int.emod_nonneg (m - 1 - r) (show g ≠ 0 by omega)
  have e3 := Int.emod_lt_of_pos (m - 1 - r) (show 0 < g by omega)
  have hq0 : 0 < q := by
    by_cases h : 0 < q
    · exact h
    · have : g * q ≤ 0 := Int.mul_nonpos_of_nonneg_of_nonpos (by omega) (by omega)
      omega
  have ediv : (m - 1 - r) / g = q - 1 := by
    have : m - 1 - r = (g - 1 - r) + g * (q - 1) := by rw [Int.mul_sub]; omega
    rw [this, Int.add_mul_ediv_left _ _ (by omega), Int.ediv_eq_zero_of_lt (by omega) (by omega)]; omega
  have mdiv : m / g = q := by rw [hq]; exact Int.mul_ediv_cancel_left _ (by omega)
  have hhi : hi = r + g * (q - 1) := by show m - 1 - (m - 1 - r) % g = _; rw [ediv] at e1; omega
  have hmul : g * (q - 1) = (m / g - 1) * g := by rw [mdiv, Int.mul_comm]
  have hnn : 0 ≤ g * (q - 1) := Int.mul_nonneg (by omega) (by omega)
  have hlt : hi < m := by show m - 1 - (m - 1 - r) % g < m; omega
  refine ⟨?_, hlt, ?_, by omega⟩
  · by_cases c : r = hi
    · rw [if_pos c]; exact .inl ⟨c, rfl⟩
    · rw [if_neg c]; exact .inr ⟨by omega, hg, ⟨q - 1, by omega⟩⟩
  · intro n
    have hup : Rem m g r n → r ≤ n ∧ n ≤ hi := by
      rintro ⟨h1, h2, z, hz⟩
      have z0 : 0 ≤ z := by
        by_cases h : 0 ≤ z
        · exact h
        · have : g * (z + 1) ≤ 0 := Int.mul_nonpos_of_nonneg_of_nonpos (by omega) (by omega)
          rw [Int.mul_add] at this; omega
      have z1 : z ≤ q - 1 := by
        by_cases h : z ≤ q - 1
        · exact h
        · have : 0 ≤ g * (z - q) := Int.mul_nonneg (by omega) (by omega)
          rw [Int.mul_sub] at this; omega
      have y0 : 0 ≤ g * z := Int.mul_nonneg (by omega) z0
      have y1 : g * z ≤ g * (q - 1) := Int.mul_le_mul_of_nonneg_left z1 (by omega)
      omega
    by_cases c : r = hi
    · rw [if_pos c]
      constructor
      · rintro ⟨h1, h2, _⟩
        have : n = r := by omega
        subst this; exact ⟨by omega, by omega, by simp⟩
      · intro h
        have := hup h
        have : n = r := by omega
        subst this; exact ⟨by omega, by omega, by simp⟩
    · rw [if_neg c]
      constructor
      · rintro ⟨h1, h2, h3⟩; exact ⟨by omega, by omega, h3⟩
      · intro h; have := hup h; exact ⟨by omega, by omega, h.2.2⟩

/-- Each number of the class is a remainder of one of the first m / g elements. -/
theorem hit_all {lo st m g u v x : Int} (hm : 1 ≤ m) (hg : 0 < g) (gs : g ∣ st) (gm : g ∣ m) (hb : st * u + m * v = g) (hx : g ∣ x - lo) : ∃ j, 0 ≤ j ∧ j < m / g ∧ m ∣ lo + st * j - x := by
  obtain ⟨z, hz⟩ := hx
  obtain ⟨s', hs⟩ := gs
  obtain ⟨q, hq⟩ := gm
  have mdiv : m / g = q := by rw [hq]; exact Int.mul_ediv_cancel_left _ (by omega)
  have hq0 : 0 < q := by
    by_cases h : 0 < q
    · exact h
    · have : g * q ≤ 0 := Int.mul_nonpos_of_nonneg_of_nonpos (by omega) (by omega)
      omega
  rw [mdiv]
  have e1 := Int.emod_add_mul_ediv (z * u) q
  refine ⟨(z * u) % q, Int.emod_nonneg _ (by omega), Int.emod_lt_of_pos _ hq0, -(v * z) + -(s' * ((z * u) / q)), ?_⟩
  generalize (z * u) / q = w at *
  generalize (z * u) % q = j at *
  have a1 : st * j = st * (z * u) - st * (q * w) := by rw [← Int.mul_sub]; congr 1; omega
  have a2 : st * (z * u) = z * (st * u) := Int.mul_left_comm _ _ _
  have a3 : z * (st * u) = z * g - z * (m * v) := by rw [← Int.mul_sub]; congr 1; omega
  have a4 : st * (q * w) = m * (s' * w) := by
    rw [hs, hq, Int.mul_assoc, Int.mul_assoc, Int.mul_left_comm s' q w]
  have a5 : z * (m * v) = m * (v * z) := by rw [Int.mul_left_comm, Int.mul_comm z v]
  have a6 : z * g = g * z := Int.mul_comm _ _
  rw [Int.mul_add, Int.mul_neg, Int.mul_neg]
  omega

/-- Which remainders a span's elements below x have. -/
def Hit (lo hi st m x i : Int) : Prop := ∃ a, Mem lo hi st a ∧ a < x ∧ a % m = i
def Hits (lo hi st m x : Int) (h : List Bool) : Prop := (h.length : Int) = m ∧ ∀ i : Nat, (i : Int) < m → (h.getD i false = true ↔ Hit lo hi st m x i)

theorem mem_rem {lo hi st m g a : Int} (hm : 1 ≤ m) (gs : g ∣ st) (gm : g ∣ m) (h : Mem lo hi st a) : Rem m g (lo % g) (a % m) := by
  refine ⟨Int.emod_nonneg _ (by omega), Int.emod_lt_of_pos _ (by omega), ?_⟩
  obtain ⟨z1, h1⟩ := Int.dvd_trans gs h.2.2
  obtain ⟨z2, h2⟩ := gm
  have e1 := Int.emod_add_mul_ediv a m
  have e2 := Int.emod_add_mul_ediv lo g
  refine ⟨z1 - z2 * (a / m) + lo / g, ?_⟩
  have : m * (a / m) = g * (z2 * (a / m)) := by rw [← Int.mul_assoc, ← h2]
  rw [Int.mul_add, Int.mul_sub]; omega

theorem mod_err (lo hi st n : Int) (h : n < 1 ∨ n > 1099511627776) : Ev (fun k => warpwrightlaw25_mod.f k lo hi st n) (0, 0, 0, 1) := by
  refine Ev.congr (f := fun k => (span_Mod.f k lo hi st n).bind fun x => some (x.1, x.2.1, x.2.2.1, x.2.2.2)) (fun k => by unfold warpwrightlaw25_mod.f; rfl) ?_
  refine Ev.bind (g := fun k => span_Mod.f k lo hi st n) (a := (0, 0, 0, 1)) ?_ (Ev.now _)
  have key : Ev (fun k => span_Mod.j0 k n true lo hi st) (0, 0, 0, 1) := Ev.step (f := fun _ => some (0, 0, 0, 1)) (fun k => by simp only [span_Mod.j0, if_true]) (Ev.now _)
  by_cases c : n < 1
  · exact Ev.congr (fun k => by unfold span_Mod.f; rw [if_pos c]) key
  · exact Ev.congr (fun k => by unfold span_Mod.f; rw [if_neg c, decide_eq_true (by omega)]) key

/-- What stands behind the loops. -/
theorem mods_end {lo hi st n : Int} (h : Sml lo hi st) : Ev (fun k => if n ≥ 1 then (warpwrightref25_Edge.f).bind fun t => (warpwrightlaw25_mod.f k lo hi st n).bind fun b => (if ((decide (n ≤ t)) == (b.2.2.2 == 0)) = true then some true else none)
    else (warpwrightlaw25_mod.f k lo hi st n).bind fun b => (if (false == (b.2.2.2 == 0)) = true then some true else none)) true := by
  by_cases c : n ≥ 1
  · refine Ev.congr (f := fun k => (warpwrightlaw25_mod.f k lo hi st n).bind fun b => (if ((decide (n ≤ 1099511627776)) == (b.2.2.2 == 0)) = true then some true else none)) (fun k => by rw [if_pos c]; rfl) ?_
    by_cases c2 : n ≤ 1099511627776
    · obtain ⟨g, r, st', _, _, _, _, _, E, _⟩ := mod_spec (hi := hi) h.ok.st0 (by have := h.st9; omega) h.In_lo c c2
      exact Ev.bind E (Ev.congr (f := fun _ => some true) (fun k => by rw [if_pos (by simp [c2])]) (Ev.now _))
    · exact Ev.bind (mod_err lo hi st n (.inr (by omega))) (Ev.congr (f := fun _ => some true) (fun k => by rw [if_pos (by simp [c2])]) (Ev.now _))
  · refine Ev.congr (f := fun k => (warpwrightlaw25_mod.f k lo hi st n).bind fun b => (if (false == (b.2.2.2 == 0)) = true then some true else none)) (fun k => by rw [if_neg c]) ?_
    exact Ev.bind (mod_err lo hi st n (.inl (by omega))) (Ev.congr (f := fun _ => some true) (fun k => by rw [if_pos (by simp)]) (Ev.now _))

/-- The second loop. -/
theorem mods_l1 {lo hi st m n rlo rhi rst re : Int} {h : List Bool} (hs : Sml lo hi st) (hr : Ok rlo rhi rst) (r0 : 0 ≤ rlo) (r1 : rhi ≤ 64) (m1 : 1 ≤ m) (m64 : m ≤ 64) (hlen : (h.length : Int) = m)
    (H : cnt lo hi st (hi + 1) ≥ cnt rlo rhi rst (rhi + 1) → ∀ i : Nat, (i : Int) < m → (h.getD i false = true ↔ Mem rlo rhi rst i)) :
    ∀ (d : Nat) (i : Int), m - i = d → 0 ≤ i → Ev (fun k => warpwrightlaw25_SpanMods.l1 k n true m h i lo hi st rlo rhi rst re) true := by
  have nr1 : Near rlo := by have := hr.le; constructor <;> omega
  have nr2 : Near rhi := by have := hr.le; constructor <;> omega
  have ns1 : Near lo := by have := hs.ok.le; have := hs.lo40; have := hs.hi160; constructor <;> omega
  have ns2 : Near hi := by have := hs.ok.le; have := hs.lo40; have := hs.hi160; constructor <;> omega
  have S1 := size_cnt hs.ok ns1 ns2 (n := hi + 1) (by omega)
  have S2 := size_cnt hr nr1 nr2 (n := rhi + 1) (by omega)
  intro d
  induction d with
  | zero =>
    intro i hi' h0
    exact Ev.step (fun k => by simp only [warpwrightlaw25_SpanMods.l1]; rw [if_neg (by omega)]) (mods_end hs)
  | succ d ih =>
    intro i hi' h0
    have IH := ih (i + 1) (by omega) (by omega)
    refine Ev.step (f := fun k => warpwrightlaw25_SpanMods.l1 k n true m h (i + 1) lo hi st rlo rhi rst re) (fun k => ?_) IH
    simp only [warpwrightlaw25_SpanMods.l1]
    rw [if_pos (by omega), S1, Option.bind_some, S2, Option.bind_some, w64 (n := i + 1) (by omega) (by omega)]
    by_cases c : cnt lo hi st (hi + 1) ≥ cnt rlo rhi rst (rhi + 1)
    · have hi2 := H c i.toNat (by omega)
      rw [Int.toNat_of_nonneg h0] at hi2
      rw [if_pos c, has_spec hr (by omega) (by omega) i, Option.bind_some, if_pos h0, if_pos (by omega)]
      have e : rdOf false h i = decide (Mem rlo rhi rst i) := by
        unfold rdOf
        rw [Bool.eq_iff_iff, hi2]; simp
      rw [e]; simp
    · rw [if_neg c]

/-- The first loop. -/
theorem mods_l0 {lo hi st m n rlo rhi rst re : Int} (hs : Sml lo hi st) (hr : Ok rlo rhi rst) (r0 : 0 ≤ rlo) (r1 : rhi ≤ 64) (m1 : 1 ≤ m) (m64 : m ≤ 64)
    (R : ∀ a, Mem lo hi st a → Mem rlo rhi rst (a % m))
    (H : ∀ h, Hits lo hi st m (hi + 1) h → cnt lo hi st (hi + 1) ≥ cnt rlo rhi rst (rhi + 1) → ∀ i : Nat, (i : Int) < m → (h.getD i false = true ↔ Mem rlo rhi rst i)) :
    ∀ (d : Nat) (x : Int) (h : List Bool), (hi + 1 - x).toNat = d → lo ≤ x → st ∣ x - lo ∨ hi < x → (∀ a, Mem lo hi st a → a < x ∨ x ≤ a) → Hits lo hi st m x h →
      Ev (fun k => warpwrightlaw25_SpanMods.l0 k n true m h x lo hi st rlo rhi rst re) true := by
  have hle := hs.ok.le
  have hlo := hs.lo40
  have hhi := hs.hi160
  have hst := hs.st9
  have hst0 := hs.ok.st0
  intro d
  induction d using Nat.strongRecOn with
  | _ d ih =>
    intro x h hd hx hdv _ hh
    by_cases c : x ≤ hi
    · have hdv' : st ∣ x - lo := by rcases hdv with q | q; exact q; omega
      have hmem : Mem lo hi st x := ⟨hx, c, hdv'⟩
      have e1 : Int.tmod (wrap64 (Int.tmod x m + m)) m = x % m := by
        have b := tmod_bound (a := x) (m := m) (by omega)
        rw [w64 (by omega) (by omega), Int.tmod_eq_emod_of_nonneg (by omega)]
        rw [Int.add_emod_right]
        have : Int.tmod x m = x - m * Int.tdiv x m := by have := Int.tmod_add_mul_tdiv x m; omega
        rw [this, Int.sub_mul_emod_self_left]
      have e2 := Int.emod_nonneg x (show m ≠ 0 by omega)
      have e3 := Int.emod_lt_of_pos x (show 0 < m by omega)
      have hlen := hh.1
      have hRx := R x hmem
      have hmx : mx st 1 = if st < 1 then 1 else st := by unfold mx; rfl
      have hstep : wrap64 (x + mx st 1) = x + mx st 1 := w64 (by rw [hmx]; split <;> omega) (by rw [hmx]; split <;> omega)
      have hpos : 1 ≤ mx st 1 := by rw [hmx]; split <;> omega
      refine Ev.step (f := fun k => warpwrightlaw25_SpanMods.l0 k n true m (h.set (x % m).toNat true) (x + mx st 1) lo hi st rlo rhi rst re) (fun k => ?_) (ih _ (by omega) _ _ rfl (by omega) ?_ ?_ ?_)
      · simp only [warpwrightlaw25_SpanMods.l0]
        rw [if_pos c, if_neg (by omega), e1, if_pos e2, if_pos (by omega), has_spec hr (by omega) (by omega), Option.bind_some, hstep, if_pos (decide_eq_true hRx)]
      · by_cases c0 : st < 1
        · right; rw [hmx, if_pos c0]
          have : lo = hi := by rcases hs.ok with q | q <;> omega
          omega
        · left; rw [hmx, if_neg c0]
          have := Int.dvd_add hdv' (Int.dvd_refl st)
          rwa [show x - lo + st = x + st - lo by omega] at this
      · intro a _; omega
      · refine ⟨by simp [hlen], fun i hi' => ?_⟩
        have hnext : ∀ a, Mem lo hi st a → (a < x + mx st 1 ↔ a < x ∨ a = x) := by
          intro a ha
          constructor
          · intro q
            by_cases q2 : a < x
            · exact .inl q2
            · right
              by_cases c0 : st < 1
              · rw [hmx, if_pos c0] at q; omega
              · rw [hmx, if_neg c0] at q
                have d1 := Int.dvd_sub ha.2.2 hdv'
                rw [show a - lo - (x - lo) = a - x by omega] at d1
                by_cases q3 : 0 < a - x
                · have := dvd_le d1 q3; omega
                · omega
          · rintro (q | q) <;> omega
        by_cases q : (i : Int) = x % m
        · have : i = (x % m).toNat := by omega
          subst this
          simp only [List.getD_eq_getElem?_getD, List.getElem?_set_self (show (x % m).toNat < h.length by omega), Option.getD_some, true_iff]
          exact ⟨x, hmem, by omega, by omega⟩
        · have hne : (x % m).toNat ≠ i := by omega
          have := hh.2 i hi'
          rw [List.getD_eq_getElem?_getD, List.getElem?_set_ne hne, ← List.getD_eq_getElem?_getD, this]
          constructor
          · rintro ⟨a, a1, a2, a3⟩; exact ⟨a, a1, by omega, a3⟩
          · rintro ⟨a, a1, a2, a3⟩
            rcases (hnext a a1).1 a2 with z | z
            · exact ⟨a, a1, z, a3⟩
            · subst z; exact absurd a3.symm q
    · have hh' : Hits lo hi st m (hi + 1) h := by
        refine ⟨hh.1, fun i hi' => (hh.2 i hi').trans ⟨?_, ?_⟩⟩
        · rintro ⟨a, a1, a2, a3⟩; exact ⟨a, a1, by have := a1.2.1; omega, a3⟩
        · rintro ⟨a, a1, a2, a3⟩; exact ⟨a, a1, by omega, a3⟩
      exact Ev.step (fun k => by simp only [warpwrightlaw25_SpanMods.l0]; rw [if_neg c]) (mods_l1 hs hr r0 r1 m1 m64 hh.1 (H h hh') m.toNat 0 (by omega) (by omega))

theorem bezout {st m : Int} (h0 : 0 ≤ st) (hst : st ≤ 1099511627776) (m1 : 1 ≤ m) (m2 : m ≤ 1099511627776) : ∃ u v, st * u + m * v = (Nat.gcd st.natAbs m.natAbs : Int) := by
  obtain ⟨G, u, v, _, e, d1, d2, _, p, _⟩ := euclid_spec m.toNat st m rfl h0 (by omega) hst m2
  have hp := p (by omega)
  refine ⟨u, v, ?_⟩
  rw [e]
  have a1 : (Nat.gcd st.natAbs m.natAbs : Int) ∣ G := by
    rw [← e]
    refine Int.dvd_add (Int.dvd_trans ?_ (Int.dvd_mul_right _ _)) (Int.dvd_trans ?_ (Int.dvd_mul_right _ _))
    · exact Int.dvd_trans (Int.natCast_dvd_natCast.2 (Nat.gcd_dvd_left st.natAbs m.natAbs)) (by rw [Int.natAbs_of_nonneg h0]; exact Int.dvd_refl _)
    · exact Int.dvd_trans (Int.natCast_dvd_natCast.2 (Nat.gcd_dvd_right st.natAbs m.natAbs)) (by rw [Int.natAbs_of_nonneg (by omega : (0:Int) ≤ m)]; exact Int.dvd_refl _)
  have a2 : G.natAbs ∣ Nat.gcd st.natAbs m.natAbs := Nat.dvd_gcd (Int.natAbs_dvd_natAbs.2 d1) (Int.natAbs_dvd_natAbs.2 d2)
  have b1 := dvd_le a1 hp
  have gp : 0 < Nat.gcd st.natAbs m.natAbs := Nat.gcd_pos_of_pos_right _ (by omega)
  have b2 := Nat.le_of_dvd gp a2
  omega

theorem SpanMods {x0 x1 x2 a n : Int} (hx1 : 0 ≤ x1) (hx2 : 0 ≤ x2) (ha : 0 ≤ a) : ∃ k, warpwrightlaw25_SpanMods.f k x0 x1 x2 a n = some true := by
  obtain ⟨lo, hi, st, e1, hs⟩ := small_spec (a := x0) hx1 hx2
  have t1 : Int.tmod a 64 = a % 64 := Int.tmod_eq_emod_of_nonneg ha
  obtain ⟨m, em, m1, m64⟩ : ∃ m, wrap64 (wrap64 (Int.tmod a 64) + 1) = m ∧ 1 ≤ m ∧ m ≤ 64 := by
    rw [t1, w64 (n := a % 64) (by omega) (by omega), w64 (by omega) (by omega)]
    exact ⟨_, rfl, by omega, by omega⟩
  have hlo := hs.lo40
  have hhi := hs.hi160
  have hst9 := hs.st9
  have hle := hs.ok.le
  obtain ⟨g, r, st', hg, g1, gs, gm, hr, E, hst'⟩ := mod_spec (hi := hi) hs.ok.st0 (by omega) hs.In_lo m1 (by omega)
  have r0 : 0 ≤ r := by rw [hr]; exact Int.emod_nonneg _ (by omega)
  have r1 : r < g := by rw [hr]; exact Int.emod_lt_of_pos _ (by omega)
  have RM := rem_mem (m := m) g1 gm m1 r0 r1
  simp only at RM
  rw [← hst'] at RM
  generalize hrh : m - 1 - (m - 1 - r) % g = rhi at *
  obtain ⟨okr, rm, memr, eh⟩ := RM
  obtain ⟨u, v, hb⟩ := bezout (st := st) (m := m) hs.ok.st0 (by omega) m1 (by omega)
  rw [← hg] at hb
  have hleR := okr.le
  have R : ∀ x, Mem lo hi st x → Mem r rhi st' (x % m) := fun x hx => (memr _).2 (by have := mem_rem m1 gs gm hx; rwa [← hr] at this)
  have H : ∀ h, Hits lo hi st m (hi + 1) h → cnt lo hi st (hi + 1) ≥ cnt r rhi st' (rhi + 1) → ∀ i : Nat, (i : Int) < m → (h.getD i false = true ↔ Mem r rhi st' i) := by
    intro h hh hc i hi'
    rw [hh.2 i hi']
    constructor
    · rintro ⟨x, x1, _, x3⟩
      have := R x x1
      rwa [x3] at this
    · intro hm
      obtain ⟨_, _, h3⟩ := (memr _).1 hm
      have hx : g ∣ (i : Int) - lo := by
        have := Int.emod_add_mul_ediv lo g
        obtain ⟨z, hz⟩ := h3
        exact ⟨z - lo / g, by rw [Int.mul_sub]; omega⟩
      obtain ⟨j, j0, j1, z, hz⟩ := hit_all m1 (by omega) gs gm hb hx
      have hcr : cnt r rhi st' (rhi + 1) = m / g := by
        rw [cnt_high (by omega) (by omega), hst']
        by_cases c : r = rhi
        · rw [if_pos c, Int.ediv_zero]
          have h0 : (m / g - 1) * g = 0 := by omega
          rcases Int.mul_eq_zero.1 h0 with q | q <;> omega
        · rw [if_neg c, show rhi - r = (m / g - 1) * g by omega, Int.mul_ediv_cancel _ (by omega)]; omega
      rw [hcr, cnt_high (by omega) (by omega)] at hc
      have hj : st * j ≤ hi - lo := by
        rcases hs.ok with ⟨q1, q2⟩ | ⟨q1, q2, q3⟩
        · rw [q2, Int.zero_mul]; omega
        · have a1 : st * j ≤ st * ((hi - lo) / st) := Int.mul_le_mul_of_nonneg_left (by omega) (by omega)
          have a2 := Int.mul_ediv_self_le (x := hi - lo) (k := st) (by omega)
          omega
      have hj0 : 0 ≤ st * j := Int.mul_nonneg hs.ok.st0 j0
      refine ⟨lo + st * j, ⟨by omega, by omega, ⟨j, by omega⟩⟩, by omega, ?_⟩
      have : lo + st * j = i + m * z := by omega
      rw [this, Int.add_mul_emod_self_left]
      exact Int.emod_eq_of_lt (by omega) hi'
  refine Ev.rounds ?_
  unfold warpwrightlaw25_SpanMods.f
  refine Ev.bind examples_true ?_
  simp only [em]
  refine Ev.congr (f := fun k => (warpwrightlaw25_mod.f k lo hi st m).bind fun bt578 => (if bt578.2.2.2 = 0 then ((span_Valid.f k bt578.1 bt578.2.1 bt578.2.2.1).bind fun t583 => (if t583 = true then (if bt578.1 < 0 then (none) else (if bt578.2.1 ≥ m then (none) else (if 0 ≤ m then (if (m : Int).toNat ≤ 281474976710656 then (warpwrightlaw25_SpanMods.l0 k n true m (List.replicate (m : Int).toNat false) lo lo hi st bt578.1 bt578.2.1 bt578.2.2.1 bt578.2.2.2) else (none)) else (none)))) else (none))) else (none))) (fun q => by rw [if_pos True.intro, e1]; rfl) ?_
  refine Ev.bind E ?_
  refine Ev.congr (f := fun k => (span_Valid.f k r rhi st').bind fun t583 => (if t583 = true then (if r < 0 then (none) else (if rhi ≥ m then (none) else (if 0 ≤ m then (if (m : Int).toNat ≤ 281474976710656 then (warpwrightlaw25_SpanMods.l0 k n true m (List.replicate (m : Int).toNat false) lo lo hi st r rhi st' 0) else (none)) else (none)))) else (none))) (fun q => by rw [if_pos rfl]) ?_
  refine Ev.bind (valid_ok okr (by constructor <;> omega) (by constructor <;> omega)) ?_
  refine Ev.congr (f := fun k => warpwrightlaw25_SpanMods.l0 k n true m (List.replicate m.toNat false) lo lo hi st r rhi st' 0) (fun q => by rw [if_pos rfl, if_neg (by omega), if_neg (by omega), if_pos (by omega), if_pos (by omega)]) ?_
  refine mods_l0 hs okr r0 (by omega) m1 m64 R H _ lo _ rfl (by omega) (.inl (by simp)) (fun a _ => by omega) ?_
  refine ⟨by simp; omega, fun i hi' => ?_⟩
  rw [List.getD_eq_getElem?_getD, List.getElem?_replicate]
  constructor
  · intro q; split at q <;> simp at q
  · rintro ⟨x, x1, x2, _⟩; have := x1.1; omega

theorem SpanModsP {x0 x1 x2 a n : Int} (_ : (Lit.int .i64 x0).wf = true) (hx1 : (Lit.int .u32 x1).wf = true) (hx2 : (Lit.int .u16 x2).wf = true)
    (ha : (Lit.int .u8 a).wf = true) (_ : (Lit.int .i64 n).wf = true) : ∃ k, warpwrightlaw25_SpanMods.f k x0 x1 x2 a n = some true :=
  SpanMods (bounds_u32 hx1).1 (bounds_u16 hx2).1 (bounds_u8 ha).1
end Go.Proofs.Yteghmmkhfgkdgaa.SM
