/- Join of two spans, as the program computes it: the ends, and the greatest common divisor of the steps and the difference. -/
import Derived.Test.YteghmmkhfgkdgaaLow
import Derived.Test.YteghmmkhfgkdgaaQSx7
namespace Go.Proofs.Yteghmmkhfgkdgaa.SM
open Go.RowKit Go.Proofs.YteghmmkhfgkdgaaW.PrintWords Go.Proofs.YteghmmkhfgkdgaaW.PrintLast Go.Proofs.YteghmmkhfgkdgaaW.PrintMore Go.Proofs.Yteghmmkhfgkdgaa.QS

theorem dvd_gfold (x : Int) (l : List Int) : ∀ g : Nat, x ∣ (gfold g l : Int) ↔ x ∣ (g : Int) ∧ ∀ n ∈ l, x ∣ n := by
  induction l with
  | nil => intro g; simp [gfold]
  | cons a l ih =>
    intro g
    have e : gfold g (a :: l) = gfold (Nat.gcd g a.natAbs) l := rfl
    rw [e, ih]
    have h : x ∣ ((Nat.gcd g a.natAbs : Nat) : Int) ↔ x ∣ (g : Int) ∧ x ∣ a := by
      exact Int.dvd_coe_gcd_iff (a := (g : Int)) (b := a) (c := x)
    rw [h]
    simp only [List.mem_cons, forall_eq_or_imp, and_assoc]
theorem dvd_gcd0 (x : Int) (l : List Int) : x ∣ (gfold 0 l : Int) ↔ ∀ n ∈ l, x ∣ n := by
  rw [dvd_gfold]; simp

/-- The answer of Join. -/
structure Joins (a b s c d t lo hi st : Int) : Prop where
  lo_eq : lo = mn a c
  hi_eq : hi = mx b d
  st0 : 0 ≤ st
  dvd : ∀ x, x ∣ st ↔ x ∣ s ∧ x ∣ t ∧ x ∣ a - c
theorem Joins.ok {a b s c d t lo hi st : Int} (h : Ok a b s) (k : Ok c d t) (j : Joins a b s c d t lo hi st) : Ok lo hi st := by
  obtain ⟨e1, e2, e3⟩ := (j.dvd st).1 (Int.dvd_refl _)
  have d1 : st ∣ b - a := Int.dvd_trans e1 h.dvd
  have d2 : st ∣ d - c := Int.dvd_trans e2 k.dvd
  have hd : st ∣ hi - lo := by
    rw [j.lo_eq, j.hi_eq]; unfold mx mn
    split <;> split
    · exact d2
    · have := Int.dvd_sub d2 e3; rwa [show d - c - (a - c) = d - a by omega] at this
    · have := Int.dvd_add d1 e3; rwa [show b - a + (a - c) = b - c by omega] at this
    · exact d1
  have hle := h.le
  have kle := k.le
  have hlo : lo ≤ a ∧ lo ≤ c := by rw [j.lo_eq]; unfold mn; split <;> omega
  have hhi : b ≤ hi ∧ d ≤ hi := by rw [j.hi_eq]; unfold mx; split <;> omega
  by_cases c1 : lo = hi
  · left
    refine ⟨c1, ?_⟩
    have hs : s = 0 := by rcases h with h | h <;> omega
    have ht : t = 0 := by rcases k with k | k <;> omega
    have : (0 : Int) ∣ st := (j.dvd 0).2 ⟨by rw [hs]; exact Int.dvd_refl _, by rw [ht]; exact Int.dvd_refl _, by rw [show a - c = 0 by omega]; exact Int.dvd_refl _⟩
    exact Int.zero_dvd.1 this
  · right
    refine ⟨by omega, ?_, hd⟩
    have := j.st0
    by_cases c2 : st = 0
    · rw [c2] at hd; have := Int.zero_dvd.1 hd; omega
    · omega
theorem dvd_eq {p q : Int} (hp : 0 ≤ p) (hq : 0 ≤ q) (h : ∀ x, x ∣ p ↔ x ∣ q) : p = q :=
  Int.dvd_antisymm hp hq ((h p).1 (Int.dvd_refl _)) ((h q).2 (Int.dvd_refl _))
theorem Joins.uniq {a b s c d t lo hi st a' b' s' c' d' t' lo' hi' st' : Int} (j : Joins a b s c d t lo hi st) (k : Joins a' b' s' c' d' t' lo' hi' st') (h1 : mn a c = mn a' c') (h2 : mx b d = mx b' d')
    (h3 : ∀ x, (x ∣ s ∧ x ∣ t ∧ x ∣ a - c) ↔ (x ∣ s' ∧ x ∣ t' ∧ x ∣ a' - c')) : lo = lo' ∧ hi = hi' ∧ st = st' :=
  ⟨by rw [j.lo_eq, k.lo_eq, h1], by rw [j.hi_eq, k.hi_eq, h2], dvd_eq j.st0 k.st0 fun x => by rw [j.dvd, k.dvd, h3]⟩
theorem Joins.mem {a b s c d t lo hi st : Int} (j : Joins a b s c d t lo hi st) {n : Int} (h : Mem a b s n) : Mem lo hi st n := by
  obtain ⟨e1, e2, e3⟩ := (j.dvd st).1 (Int.dvd_refl _)
  obtain ⟨m1, m2, m3⟩ := h
  refine ⟨by rw [j.lo_eq]; unfold mn; split <;> omega, by rw [j.hi_eq]; unfold mx; split <;> omega, ?_⟩
  have d1 := Int.dvd_trans e1 m3
  rw [j.lo_eq]; unfold mn
  split
  · have := Int.dvd_add d1 e3; rwa [show n - a + (a - c) = n - c by omega] at this
  · exact d1
theorem dvd_sub_comm' {x a b : Int} : x ∣ a - b ↔ x ∣ b - a := by
  rw [show b - a = -(a - b) by omega, Int.dvd_neg]
theorem mn_comm (a c : Int) : mn a c = mn c a := by unfold mn; split <;> split <;> omega
theorem mx_comm (a c : Int) : mx a c = mx c a := by unfold mx; split <;> split <;> omega
theorem Joins.symm {a b s c d t lo hi st : Int} (j : Joins a b s c d t lo hi st) : Joins c d t a b s lo hi st :=
  ⟨by rw [mn_comm]; exact j.lo_eq, by rw [mx_comm]; exact j.hi_eq, j.st0, fun x => by rw [j.dvd, dvd_sub_comm']; exact ⟨fun ⟨p, q, r⟩ => ⟨q, p, r⟩, fun ⟨p, q, r⟩ => ⟨q, p, r⟩⟩⟩
/-- A span joined with one that lies in it. -/
theorem Joins.sub {a b s c d t lo hi st : Int} (h : Ok a b s) (k : Ok c d t) (j : Joins a b s c d t lo hi st) (hsub : ∀ n, Mem c d t n → Mem a b s n) : lo = a ∧ hi = b ∧ st = s := by
  have m1 := hsub _ k.lo_mem
  have m2 := hsub _ k.hi_mem
  refine ⟨by rw [j.lo_eq]; unfold mn; have := m1.1; split <;> omega, by rw [j.hi_eq]; unfold mx; have := m2.2.1; split <;> omega, ?_⟩
  refine dvd_eq j.st0 h.st0 fun x => ?_
  rw [j.dvd]
  refine ⟨fun q => q.1, fun q => ⟨q, ?_, ?_⟩⟩
  · by_cases c1 : c < d
    · have m3 := hsub _ (k.next_mem c1)
      have := Int.dvd_sub m3.2.2 m1.2.2
      rw [show c + t - a - (c - a) = t by omega] at this
      exact Int.dvd_trans q this
    · have : t = 0 := by rcases k with k | k <;> omega
      rw [this]; exact Int.dvd_zero _
  · rw [dvd_sub_comm']; exact Int.dvd_trans q m1.2.2

theorem join_spec {a b s c d t : Int} (h : Ok a b s) (k : Ok c d t) (hs : s ≤ 4398046511104) (ht : t ≤ 4398046511104) (ha : In a) (hc : In c) :
    ∃ lo hi st, Ev (fun q => span_Join.f q a b s c d t) (lo, hi, st) ∧ Joins a b s c d t lo hi st := by
  obtain ⟨ha1, ha2⟩ := ha
  obtain ⟨hc1, hc2⟩ := hc
  have h0 := h.st0
  have k0 := k.st0
  have w : wrap64 (a - c) = a - c := w64 (by omega) (by omega)
  have hg := gcd_spec [s, t, a - c] (by simp) (by
    intro n hn
    simp only [List.mem_cons, List.not_mem_nil, or_false] at hn
    rcases hn with rfl | rfl | rfl <;> omega)
  have J : Joins a b s c d t (mn a c) (mx b d) (gfold 0 [s, t, a - c] : Int) := ⟨rfl, rfl, by omega, fun x => by rw [dvd_gcd0]; simp⟩
  refine ⟨_, _, _, ?_, J⟩
  unfold span_Join.f
  rw [w]
  refine Ev.bind hg ?_
  have hm : span_made.f (mn a c) (mx b d) (gfold 0 [s, t, a - c] : Int) = some (mn a c, mx b d, (gfold 0 [s, t, a - c] : Int)) := by
    unfold span_made.f
    split
    · rename_i e
      have := J.ok h k
      rcases this with ⟨_, q⟩ | ⟨q, _⟩
      · rw [q]
      · omega
    · rfl
  exact Ev.congr (fun q => by rw [hm]; rfl) (Ev.now _)
end Go.Proofs.Yteghmmkhfgkdgaa.SM
