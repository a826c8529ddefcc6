/- Results are least: a span with a step that is drawn has all sums (differences, products, elements of both) exactly if it has the ends and the step of the result. No condition. -/
import Derived.Test.YteghmmkhfgkdgaaLawSpanLeast
set_option linter.unusedSimpArgs false
set_option linter.unusedVariables false
namespace Go.Proofs.Yteghmmkhfgkdgaa.SX
open Go Go.Ex Go.RowKit Go.Proofs.YteghmmkhfgkdgaaW.PrintWords Go.Proofs.YteghmmkhfgkdgaaW.PrintLast Go.Proofs.YteghmmkhfgkdgaaW.PrintMore Go.Proofs.Yteghmmkhfgkdgaa.SM Go.Proofs.Yteghmmkhfgkdgaa.QS

/-- The great span of a result. -/
def gR (r : I3) (p q : Int) : I3 := (IntKind.i64.wrap (r.1 - IntKind.i64.wrap (p * q)), IntKind.i64.wrap (IntKind.i64.wrap (r.1 - IntKind.i64.wrap (p * q)) + IntKind.i64.wrap (p * 4000000)), p)
structure Res (r : I3) : Prop where
  ok : Ok r.1 r.2.1 r.2.2
  lo : -30000 ≤ r.1
  hi : r.2.1 ≤ 30000
theorem pq_bd {p q : Int} (hp : 1 ≤ p ∧ p ≤ 12) (hq : 1 ≤ q ∧ q ≤ 40) : 1 ≤ p * q ∧ p * q ≤ 480 := by
  have h1 : p * q ≤ p * 40 := Int.mul_le_mul_of_nonneg_left hq.2 (by omega)
  have h2 : p * 1 ≤ p * q := Int.mul_le_mul_of_nonneg_left hq.1 (by omega)
  omega
theorem gR_eq {r : I3} {p q : Int} (h : Res r) (hp : 1 ≤ p ∧ p ≤ 12) (hq : 1 ≤ q ∧ q ≤ 40) : gR r p q = (r.1 - p * q, r.1 - p * q + p * 4000000, p) := by
  have := pq_bd hp hq
  have := h.lo; have := h.hi; have := h.ok.le
  unfold gR
  rw [wr (x := p * q) (by omega), wr (x := p * 4000000) (by omega), wr (x := r.1 - p * q) (by omega), wr (by omega)]
theorem gR_one {r : I3} {p q : Int} (h : Res r) (hp : 1 ≤ p ∧ p ≤ 12) (hq : 1 ≤ q ∧ q ≤ 40) : One (gR r p q).1 (gR r p q).2.1 (gR r p q).2.2 := by
  have := pq_bd hp hq
  have := h.lo; have := h.hi; have := h.ok.le
  rw [gR_eq h hp hq]
  refine ⟨.inr ⟨by simp only; omega, hp.1, 4000000, by simp only; omega⟩, ?_, ?_, ?_⟩ <;> simp only [Near] <;> omega
theorem gR_mem {r : I3} {p q x : Int} (h : Res r) (hp : 1 ≤ p ∧ p ≤ 12) (hq : 1 ≤ q ∧ q ≤ 40) (h1 : r.1 ≤ x) (h2 : x ≤ r.2.1) : Mem (gR r p q).1 (gR r p q).2.1 (gR r p q).2.2 x ↔ p ∣ x - r.1 := by
  have := pq_bd hp hq
  have := h.lo; have := h.hi
  rw [gR_eq h hp hq]
  have e : x - (r.1 - p * q) = x - r.1 + p * q := by omega
  constructor
  · rintro ⟨_, _, k⟩
    simp only at k
    rw [e] at k
    have := Int.dvd_sub k (Int.dvd_mul_right p q)
    rwa [show x - r.1 + p * q - p * q = x - r.1 by omega] at this
  · intro k
    refine ⟨by simp only; omega, by simp only; omega, ?_⟩
    simp only
    rw [e]; exact Int.dvd_add k (Int.dvd_mul_right p q)
theorem key {X : Int → Prop} {r : I3} {p q : Int} (h : Res r) (hp : 1 ≤ p ∧ p ≤ 12) (hq : 1 ≤ q ∧ q ≤ 40) (hX : ∀ x, X x → Mem r.1 r.2.1 r.2.2 x) (hlo : X r.1) (hhi : X r.2.1) (hg : (∀ x, X x → p ∣ x - r.1) → p ∣ r.2.2) :
    cdec (∀ x, X x → Mem (gR r p q).1 (gR r p q).2.1 (gR r p q).2.2 x) = ins3 r (gR r p q) := by
  have hle := h.ok.le
  have hl := h.lo; have hh := h.hi
  have ht : r.1 + r.2.2 ≤ r.2.1 ∧ 0 ≤ r.2.2 := by
    rcases h.ok with ⟨h1, h2⟩ | ⟨h1, h2, h3⟩
    · omega
    · have := Int.le_of_dvd (by omega) h3; omega
  have e : IntKind.i64.wrap (r.1 + r.2.2) = r.1 + r.2.2 := wr (by omega)
  unfold ins3 mem3
  rw [e]
  have A : (∀ x, X x → Mem (gR r p q).1 (gR r p q).2.1 (gR r p q).2.2 x) ↔ (Mem (gR r p q).1 (gR r p q).2.1 (gR r p q).2.2 r.1 ∧ Mem (gR r p q).1 (gR r p q).2.1 (gR r p q).2.2 r.2.1 ∧ Mem (gR r p q).1 (gR r p q).2.1 (gR r p q).2.2 (r.1 + r.2.2)) := by
    constructor
    · intro k
      refine ⟨k _ hlo, k _ hhi, ?_⟩
      rw [gR_mem h hp hq (by omega) ht.1, show r.1 + r.2.2 - r.1 = r.2.2 by omega]
      exact hg fun x hx => (gR_mem h hp hq (hX x hx).1 (hX x hx).2.1).1 (k x hx)
    · rintro ⟨_, _, k⟩ x hx
      rw [gR_mem h hp hq (by omega) ht.1, show r.1 + r.2.2 - r.1 = r.2.2 by omega] at k
      exact (gR_mem h hp hq (hX x hx).1 (hX x hx).2.1).2 (Int.dvd_trans k (hX x hx).2.2)
  rw [cdec_iff A]
  rw [cdec_and Iff.rfl, cdec_and Iff.rfl]
  congr 2
  unfold cdec
  by_cases z : Mem (gR r p q).1 (gR r p q).2.1 (gR r p q).2.2 (r.1 + r.2.2) <;> simp [z]

/-! ### The four results -/
def tri (x : Int × Int × Int × Int) : I3 := (x.1, x.2.1, x.2.2.1)
structure Sm (s : I3) : Prop where
  ok : Ok s.1 s.2.1 s.2.2
  lo : -166 ≤ s.1
  hi : s.2.1 ≤ 166
theorem step_mul {c d t x p : Int} (k : Ok c d t) (h : ∀ n, Mem c d t n → p ∣ x * n - x * c) : p ∣ x * t := by
  rcases k with ⟨k1, k2⟩ | k
  · rw [k2, Int.mul_zero]; exact Int.dvd_zero p
  · have := h _ (Ok.next_mem (.inr k) k.1)
    rwa [Int.mul_add, show x * c + x * t - x * c = x * t by omega] at this
theorem step_one {c d t p : Int} (k : Ok c d t) (h : ∀ n, Mem c d t n → p ∣ n - c) : p ∣ t := by
  have := step_mul (x := 1) k (fun n hn => by rw [Int.one_mul, Int.one_mul]; exact h n hn)
  rwa [Int.one_mul] at this
theorem sum_eq {s t : I3} (hs : Sm s) (ht : Sm t) : tri (sumR s.1 s.2.1 s.2.2 t.1 t.2.1 t.2.2) = (s.1 + t.1, s.2.1 + t.2.1, if s.1 + t.1 = s.2.1 + t.2.1 then 0 else (gfold 0 [s.2.2, t.2.2] : Int)) := by
  have := hs.lo; have := hs.hi; have := ht.lo; have := ht.hi; have := hs.ok.le; have := ht.ok.le
  unfold sumR
  rw [if_pos (by simp only [Near]; omega)]; rfl
theorem sum_res {s t : I3} (hs : Sm s) (ht : Sm t) : Res (tri (sumR s.1 s.2.1 s.2.2 t.1 t.2.1 t.2.2)) := by
  have := hs.lo; have := hs.hi; have := ht.lo; have := ht.hi; have := hs.ok.le; have := ht.ok.le
  rw [sum_eq hs ht]
  exact ⟨(sum_ok hs.ok ht.ok).1, by simp only; omega, by simp only; omega⟩
theorem sum_key {s t : I3} {p q : Int} (hs : Sm s) (ht : Sm t) (hp : 1 ≤ p ∧ p ≤ 12) (hq : 1 ≤ q ∧ q ≤ 40) :
    cdec (∀ m, s.1 ≤ m → Mem s.1 s.2.1 s.2.2 m → ∀ n, Mem t.1 t.2.1 t.2.2 n → Mem (gR (tri (sumR s.1 s.2.1 s.2.2 t.1 t.2.1 t.2.2)) p q).1 (gR (tri (sumR s.1 s.2.1 s.2.2 t.1 t.2.1 t.2.2)) p q).2.1 (gR (tri (sumR s.1 s.2.1 s.2.2 t.1 t.2.1 t.2.2)) p q).2.2 (m + n)) = ins3 (tri (sumR s.1 s.2.1 s.2.2 t.1 t.2.1 t.2.2)) (gR (tri (sumR s.1 s.2.1 s.2.2 t.1 t.2.1 t.2.2)) p q) := by
  rw [← key (X := fun x => ∃ m n, Mem s.1 s.2.1 s.2.2 m ∧ Mem t.1 t.2.1 t.2.2 n ∧ x = m + n) (sum_res hs ht) hp hq]
  · refine cdec_iff ⟨?_, fun k m _ hm n hn => k _ ⟨m, n, hm, hn, rfl⟩⟩
    rintro k x ⟨m, n, hm, hn, rfl⟩
    exact k m hm.1 hm n hn
  · rintro x ⟨m, n, hm, hn, rfl⟩
    rw [sum_eq hs ht]; exact (sum_ok hs.ok ht.ok).2 m n hm hn
  · rw [sum_eq hs ht]; exact ⟨_, _, hs.ok.lo_mem, ht.ok.lo_mem, rfl⟩
  · rw [sum_eq hs ht]; exact ⟨_, _, hs.ok.hi_mem, ht.ok.hi_mem, rfl⟩
  · rw [sum_eq hs ht]
    intro k
    simp only at k ⊢
    split
    · exact Int.dvd_zero p
    · refine gcd2.2 ⟨step_one hs.ok fun m hm => ?_, step_one ht.ok fun n hn => ?_⟩
      · have := k _ ⟨m, t.1, hm, ht.ok.lo_mem, rfl⟩
        rwa [show m + t.1 - (s.1 + t.1) = m - s.1 by omega] at this
      · have := k _ ⟨s.1, n, hs.ok.lo_mem, hn, rfl⟩
        rwa [show s.1 + n - (s.1 + t.1) = n - t.1 by omega] at this
def ng3 (t : I3) : I3 := (-t.2.1, -t.1, t.2.2)
theorem Sm.neg {t : I3} (h : Sm t) : Sm (ng3 t) := ⟨Ok.neg h.ok, by have := h.hi; simp only [ng3]; omega, by have := h.lo; simp only [ng3]; omega⟩
theorem sub_key {s t : I3} {p q : Int} (hs : Sm s) (ht : Sm t) (hp : 1 ≤ p ∧ p ≤ 12) (hq : 1 ≤ q ∧ q ≤ 40) :
    cdec (∀ m, s.1 ≤ m → Mem s.1 s.2.1 s.2.2 m → ∀ n, Mem t.1 t.2.1 t.2.2 n → Mem (gR (tri (sumR s.1 s.2.1 s.2.2 (-t.2.1) (-t.1) t.2.2)) p q).1 (gR (tri (sumR s.1 s.2.1 s.2.2 (-t.2.1) (-t.1) t.2.2)) p q).2.1 (gR (tri (sumR s.1 s.2.1 s.2.2 (-t.2.1) (-t.1) t.2.2)) p q).2.2 (m - n)) = ins3 (tri (sumR s.1 s.2.1 s.2.2 (-t.2.1) (-t.1) t.2.2)) (gR (tri (sumR s.1 s.2.1 s.2.2 (-t.2.1) (-t.1) t.2.2)) p q) := by
  have h := sum_key hs ht.neg hp hq
  simp only [ng3] at h
  rw [← h]
  refine cdec_iff ⟨fun k m h1 hm n hn => ?_, fun k m h1 hm n hn => ?_⟩
  · have q := Mem.neg (Ok.neg ht.ok) hn
    rw [Int.neg_neg, Int.neg_neg] at q
    have q2 := k m h1 hm (-n) q
    rwa [Int.sub_neg] at q2
  · have q2 := k m h1 hm (-n) (Mem.neg ht.ok hn)
    rwa [← Int.sub_eq_add_neg] at q2
theorem mul_bd {m n : Int} (h1 : -166 ≤ m ∧ m ≤ 166) (h2 : -166 ≤ n ∧ n ≤ 166) : -27556 ≤ m * n ∧ m * n ≤ 27556 := by
  have e := Int.natAbs_mul m n
  have : m.natAbs * n.natAbs ≤ 166 * 166 := Nat.mul_le_mul (by omega) (by omega)
  omega
theorem mul_eq {s t : I3} (hs : Sm s) (ht : Sm t) : tri (mulR s.1 s.2.1 s.2.2 t.1 t.2.1 t.2.2) = (mn4 (s.1 * t.1) (s.1 * t.2.1) (s.2.1 * t.1) (s.2.1 * t.2.1), mx4 (s.1 * t.1) (s.1 * t.2.1) (s.2.1 * t.1) (s.2.1 * t.2.1),
    if mn4 (s.1 * t.1) (s.1 * t.2.1) (s.2.1 * t.1) (s.2.1 * t.2.1) = mx4 (s.1 * t.1) (s.1 * t.2.1) (s.2.1 * t.1) (s.2.1 * t.2.1) then 0 else (gfold 0 [s.1 * t.2.2, t.1 * s.2.2, s.2.2 * t.2.2] : Int)) := by
  have := hs.lo; have := hs.hi; have := ht.lo; have := ht.hi; have := hs.ok.le; have := ht.ok.le
  unfold mulR
  rw [if_pos ⟨near_mul (by omega) (by omega), near_mul (by omega) (by omega), near_mul (by omega) (by omega), near_mul (by omega) (by omega)⟩]; rfl
theorem mul_res {s t : I3} (hs : Sm s) (ht : Sm t) : Res (tri (mulR s.1 s.2.1 s.2.2 t.1 t.2.1 t.2.2)) ∧ ∀ m n, Mem s.1 s.2.1 s.2.2 m → Mem t.1 t.2.1 t.2.2 n → Mem (tri (mulR s.1 s.2.1 s.2.2 t.1 t.2.1 t.2.2)).1 (tri (mulR s.1 s.2.1 s.2.2 t.1 t.2.1 t.2.2)).2.1 (tri (mulR s.1 s.2.1 s.2.2 t.1 t.2.1 t.2.2)).2.2 (m * n) := by
  have b1 := hs.lo; have b2 := hs.hi; have b3 := ht.lo; have b4 := ht.hi; have b5 := hs.ok.le; have b6 := ht.ok.le
  rw [mul_eq hs ht]
  obtain ⟨g1, g2, g3⟩ := gcd3.1 (Int.dvd_refl (gfold 0 [s.1 * t.2.2, t.1 * s.2.2, s.2.2 * t.2.2] : Int))
  obtain ⟨p1, p2⟩ := prod_ok hs.ok ht.ok (by omega) g1 g2 g3 rfl rfl
  refine ⟨⟨p1, ?_, ?_⟩, p2⟩
  · have k1 := mul_bd (m := s.1) (n := t.1) (by omega) (by omega)
    have k2 := mul_bd (m := s.1) (n := t.2.1) (by omega) (by omega)
    have k3 := mul_bd (m := s.2.1) (n := t.1) (by omega) (by omega)
    have k4 := mul_bd (m := s.2.1) (n := t.2.1) (by omega) (by omega)
    rcases mn4_case (s.1 * t.1) (s.1 * t.2.1) (s.2.1 * t.1) (s.2.1 * t.2.1) with e | e | e | e <;> simp only [e] <;> omega
  · have k1 := mul_bd (m := s.1) (n := t.1) (by omega) (by omega)
    have k2 := mul_bd (m := s.1) (n := t.2.1) (by omega) (by omega)
    have k3 := mul_bd (m := s.2.1) (n := t.1) (by omega) (by omega)
    have k4 := mul_bd (m := s.2.1) (n := t.2.1) (by omega) (by omega)
    rcases mx4_case (s.1 * t.1) (s.1 * t.2.1) (s.2.1 * t.1) (s.2.1 * t.2.1) with e | e | e | e <;> simp only [e] <;> omega
theorem mul_key {s t : I3} {p q : Int} (hs : Sm s) (ht : Sm t) (hp : 1 ≤ p ∧ p ≤ 12) (hq : 1 ≤ q ∧ q ≤ 40) :
    cdec (∀ m, s.1 ≤ m → Mem s.1 s.2.1 s.2.2 m → ∀ n, Mem t.1 t.2.1 t.2.2 n → Mem (gR (tri (mulR s.1 s.2.1 s.2.2 t.1 t.2.1 t.2.2)) p q).1 (gR (tri (mulR s.1 s.2.1 s.2.2 t.1 t.2.1 t.2.2)) p q).2.1 (gR (tri (mulR s.1 s.2.1 s.2.2 t.1 t.2.1 t.2.2)) p q).2.2 (m * n)) = ins3 (tri (mulR s.1 s.2.1 s.2.2 t.1 t.2.1 t.2.2)) (gR (tri (mulR s.1 s.2.1 s.2.2 t.1 t.2.1 t.2.2)) p q) := by
  rw [← key (X := fun x => ∃ m n, Mem s.1 s.2.1 s.2.2 m ∧ Mem t.1 t.2.1 t.2.2 n ∧ x = m * n) (mul_res hs ht).1 hp hq]
  · refine cdec_iff ⟨?_, fun k m _ hm n hn => k _ ⟨m, n, hm, hn, rfl⟩⟩
    rintro k x ⟨m, n, hm, hn, rfl⟩
    exact k m hm.1 hm n hn
  · rintro x ⟨m, n, hm, hn, rfl⟩
    exact (mul_res hs ht).2 m n hm hn
  · rw [mul_eq hs ht]
    simp only
    rcases mn4_case (s.1 * t.1) (s.1 * t.2.1) (s.2.1 * t.1) (s.2.1 * t.2.1) with e | e | e | e <;> rw [e]
    · exact ⟨_, _, hs.ok.lo_mem, ht.ok.lo_mem, rfl⟩
    · exact ⟨_, _, hs.ok.lo_mem, ht.ok.hi_mem, rfl⟩
    · exact ⟨_, _, hs.ok.hi_mem, ht.ok.lo_mem, rfl⟩
    · exact ⟨_, _, hs.ok.hi_mem, ht.ok.hi_mem, rfl⟩
  · rw [mul_eq hs ht]
    simp only
    rcases mx4_case (s.1 * t.1) (s.1 * t.2.1) (s.2.1 * t.1) (s.2.1 * t.2.1) with e | e | e | e <;> rw [e]
    · exact ⟨_, _, hs.ok.lo_mem, ht.ok.lo_mem, rfl⟩
    · exact ⟨_, _, hs.ok.lo_mem, ht.ok.hi_mem, rfl⟩
    · exact ⟨_, _, hs.ok.hi_mem, ht.ok.lo_mem, rfl⟩
    · exact ⟨_, _, hs.ok.hi_mem, ht.ok.hi_mem, rfl⟩
  · intro k
    have D : ∀ m n m' n', Mem s.1 s.2.1 s.2.2 m → Mem t.1 t.2.1 t.2.2 n → Mem s.1 s.2.1 s.2.2 m' → Mem t.1 t.2.1 t.2.2 n' → p ∣ m * n - m' * n' := by
      intro m n m' n' h1 h2 h3 h4
      have := Int.dvd_sub (k _ ⟨m, n, h1, h2, rfl⟩) (k _ ⟨m', n', h3, h4, rfl⟩)
      rwa [show m * n - (tri (mulR s.1 s.2.1 s.2.2 t.1 t.2.1 t.2.2)).1 - (m' * n' - (tri (mulR s.1 s.2.1 s.2.2 t.1 t.2.1 t.2.2)).1) = m * n - m' * n' by omega] at this
    rw [mul_eq hs ht]
    simp only
    split
    · exact Int.dvd_zero p
    · refine gcd3.2 ⟨step_mul ht.ok fun n hn => D _ _ _ _ hs.ok.lo_mem hn hs.ok.lo_mem ht.ok.lo_mem, step_mul hs.ok fun m hm => ?_, step_mul ht.ok fun n hn => ?_⟩
      · rw [Int.mul_comm t.1 m, Int.mul_comm t.1 s.1]; exact D _ _ _ _ hm ht.ok.lo_mem hs.ok.lo_mem ht.ok.lo_mem
      · rcases hs.ok with ⟨k1, k2⟩ | k1
        · rw [k2, Int.zero_mul, Int.zero_mul]; exact Int.dvd_zero p
        · have h1 := D _ _ _ _ (Ok.next_mem (.inr k1) k1.1) hn (Ok.next_mem (.inr k1) k1.1) ht.ok.lo_mem
          have h2 := D _ _ _ _ hs.ok.lo_mem hn hs.ok.lo_mem ht.ok.lo_mem
          have h3 := Int.dvd_sub h1 h2
          rw [Int.add_mul, Int.add_mul] at h3
          rwa [show s.1 * n + s.2.2 * n - (s.1 * t.1 + s.2.2 * t.1) - (s.1 * n - s.1 * t.1) = s.2.2 * n - s.2.2 * t.1 by omega] at h3
theorem joi_res {s t : I3} (hs : Sm s) (ht : Sm t) : Res (joiR s.1 s.2.1 s.2.2 t.1 t.2.1 t.2.2) := by
  have := hs.lo; have := hs.hi; have := ht.lo; have := ht.hi; have := hs.ok.le; have := ht.ok.le
  refine ⟨(joiR_joins hs.ok ht.ok).ok hs.ok ht.ok, ?_, ?_⟩
  · unfold joiR mn; simp only; split <;> omega
  · unfold joiR mx; simp only; split <;> omega
theorem joi_key {s t : I3} {p q : Int} (hs : Sm s) (ht : Sm t) (hp : 1 ≤ p ∧ p ≤ 12) (hq : 1 ≤ q ∧ q ≤ 40) :
    cdec (∀ m, s.1 ≤ m → Mem s.1 s.2.1 s.2.2 m → Mem (gR (joiR s.1 s.2.1 s.2.2 t.1 t.2.1 t.2.2) p q).1 (gR (joiR s.1 s.2.1 s.2.2 t.1 t.2.1 t.2.2) p q).2.1 (gR (joiR s.1 s.2.1 s.2.2 t.1 t.2.1 t.2.2) p q).2.2 m ∧ ∀ n, Mem t.1 t.2.1 t.2.2 n → Mem (gR (joiR s.1 s.2.1 s.2.2 t.1 t.2.1 t.2.2) p q).1 (gR (joiR s.1 s.2.1 s.2.2 t.1 t.2.1 t.2.2) p q).2.1 (gR (joiR s.1 s.2.1 s.2.2 t.1 t.2.1 t.2.2) p q).2.2 n) = ins3 (joiR s.1 s.2.1 s.2.2 t.1 t.2.1 t.2.2) (gR (joiR s.1 s.2.1 s.2.2 t.1 t.2.1 t.2.2) p q) := by
  have J := joiR_joins hs.ok ht.ok
  rw [← key (X := fun x => Mem s.1 s.2.1 s.2.2 x ∨ Mem t.1 t.2.1 t.2.2 x) (joi_res hs ht) hp hq]
  · refine cdec_iff ⟨?_, fun k m _ hm => ⟨k m (.inl hm), fun n hn => k n (.inr hn)⟩⟩
    rintro k x (h | h)
    · exact (k x h.1 h).1
    · exact (k _ (Int.le_refl _) hs.ok.lo_mem).2 x h
  · rintro x (h | h)
    · exact J.mem h
    · exact J.symm.mem h
  · unfold joiR mn
    simp only
    split
    · exact .inr ht.ok.lo_mem
    · exact .inl hs.ok.lo_mem
  · unfold joiR mx
    simp only
    split
    · exact .inr ht.ok.hi_mem
    · exact .inl hs.ok.hi_mem
  · intro k
    have D : ∀ m n, (Mem s.1 s.2.1 s.2.2 m ∨ Mem t.1 t.2.1 t.2.2 m) → (Mem s.1 s.2.1 s.2.2 n ∨ Mem t.1 t.2.1 t.2.2 n) → p ∣ m - n := by
      intro m n h1 h2
      have := Int.dvd_sub (k m h1) (k n h2)
      rwa [show m - (joiR s.1 s.2.1 s.2.2 t.1 t.2.1 t.2.2).1 - (n - (joiR s.1 s.2.1 s.2.2 t.1 t.2.1 t.2.2).1) = m - n by omega] at this
    unfold joiR
    simp only
    split
    · exact Int.dvd_zero p
    · exact gcd3.2 ⟨step_one hs.ok fun m hm => D m _ (.inl hm) (.inl hs.ok.lo_mem), step_one ht.ok fun m hm => D m _ (.inr hm) (.inr ht.ok.lo_mem), D _ _ (.inl hs.ok.lo_mem) (.inr ht.ok.lo_mem)⟩
end Go.Proofs.Yteghmmkhfgkdgaa.SX
