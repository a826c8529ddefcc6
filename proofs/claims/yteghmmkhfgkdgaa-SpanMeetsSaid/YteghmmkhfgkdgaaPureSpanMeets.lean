/- For every two descriptions the law SpanMeets, as printed, answers true. -/
import Derived.Test.YteghmmkhfgkdgaaLow
import Derived.Test.YteghmmkhfgkdgaaQSx11
import Derived.OpenShut
namespace Go.Proofs.Yteghmmkhfgkdgaa.SM
open Go.RowKit Go.Proofs.YteghmmkhfgkdgaaW.PrintWords Go.Proofs.YteghmmkhfgkdgaaW.PrintLast Go.Proofs.YteghmmkhfgkdgaaW.PrintMore Go.Proofs.Yteghmmkhfgkdgaa.QS

/-- The loop over the numbers: the counts agree, and what stands behind it holds. -/
theorem meets_loop {a b s c d t lo hi st : Int} {is : Bool} (h : Sml a b s) (k : Sml c d t) (hE : Ev (fun q => span_Meet.f q a b s c d t) (lo, hi, st, is)) (M : Meets a b s c d t lo hi st is) :
    ∀ (e : Nat) (n : Int), 201 - n = e → -50 ≤ n → Ev (fun q => warpwrightlaw25_SpanMeets.l0 q true (if is = true then cnt lo hi st n else 0) n a b s c d t lo hi st is) true := by
  have hs := has_spec h.ok (by have := h.lo40; omega) (by have := h.hi160; omega)
  have ht := has_spec k.ok (by have := k.lo40; omega) (by have := k.hi160; omega)
  intro e
  induction e with
  | zero =>
    intro n he hn
    have hA := apart_spec hE
    rcases M with ⟨rfl, rfl, rfl, rfl, _⟩ | ⟨rfl, hok, hm⟩
    · refine Ev.step (fun q => by simp only [warpwrightlaw25_SpanMeets.l0]; rw [if_neg (by omega)]) ?_
      exact Ev.bind hA (Ev.now _)
    · have hb := (Meets.small (c := c) (d := d) (t := t) h (.inr ⟨rfl, hok, hm⟩))
      have hN1 : Near lo := by constructor <;> omega
      have hN2 : Near hi := by constructor <;> omega
      refine Ev.step (fun q => by simp only [warpwrightlaw25_SpanMeets.l0, if_true]; rw [if_neg (by omega)]) ?_
      refine Ev.bind (valid_ok hok hN1 hN2) ?_
      refine Ev.congr (fun q => by rw [if_pos rfl, size_cnt hok hN1 hN2 (n := n) (by omega), Option.bind_some, if_pos rfl]) ?_
      exact Ev.bind hA (Ev.now _)
  | succ e ih =>
    intro n he hn
    have hnext : wrap64 (n + 1) = n + 1 := w64 (by omega) (by omega)
    have IH := ih (n + 1) (by omega) (by omega)
    refine Ev.step (f := fun q => warpwrightlaw25_SpanMeets.l0 q true (if is = true then cnt lo hi st (n + 1) else 0) (n + 1) a b s c d t lo hi st is) (fun q => ?_) IH
    simp only [warpwrightlaw25_SpanMeets.l0]
    rw [if_pos (by omega), hs n, ht n, hnext]
    simp only [Option.bind_some]
    rcases M with ⟨rfl, rfl, rfl, rfl, hno⟩ | ⟨rfl, hok, hm⟩
    · by_cases c1 : Mem a b s n
      · have c2 : ¬ Mem c d t n := fun q => hno n ⟨c1, q⟩
        simp [c1, c2]
      · simp [c1]
    · have hb := (Meets.small (c := c) (d := d) (t := t) h (.inr ⟨rfl, hok, hm⟩))
      have hM := has_spec hok (by omega) (by omega) n
      have hc := cnt_step hok n
      rw [hM]
      simp only [Option.bind_some, if_true]
      by_cases c1 : Mem a b s n
      · by_cases c2 : Mem c d t n
        · have c3 := (hm n).2 ⟨c1, c2⟩
          rw [if_pos c3] at hc
          have hcb : 0 ≤ cnt lo hi st n ∧ cnt lo hi st n ≤ 400 := by
            have hst : 0 ≤ st := hok.st0
            by_cases q1 : n ≤ lo
            · rw [cnt_low q1]; omega
            · by_cases q2 : hi < n
              · have := c3.2.1; omega
              · rw [cnt_mid (by omega) (by omega)]
                have := Int.ediv_le_self st (show 0 ≤ n - 1 - lo by omega)
                have := Int.ediv_nonneg (show 0 ≤ n - 1 - lo by omega) hst
                omega
          have hw : wrap64 (cnt lo hi st n + 1) = cnt lo hi st (n + 1) := by rw [hc]; exact w64 (by omega) (by omega)
          simp [c1, c2, c3, hw]
        · have c3 : ¬ Mem lo hi st n := fun q => c2 ((hm n).1 q).2
          rw [if_neg c3] at hc
          simp [c1, c2, c3, hc]
      · have c3 : ¬ Mem lo hi st n := fun q => c1 ((hm n).1 q).1
        rw [if_neg c3] at hc
        simp [c1, c3, hc]

theorem SpanMeets {x0 x1 x2 y0 y1 y2 : Int} (hx1 : 0 ≤ x1) (hx2 : 0 ≤ x2) (hy1 : 0 ≤ y1) (hy2 : 0 ≤ y2) : ∃ k, warpwrightlaw25_SpanMeets.f k x0 x1 x2 y0 y1 y2 = some true := by
  obtain ⟨a, b, s, e1, h1⟩ := small_spec (a := x0) hx1 hx2
  obtain ⟨c, d, t, e2, h2⟩ := small_spec (a := y0) hy1 hy2
  obtain ⟨lo, hi, st, is, hE, M⟩ := meet_spec h1.ok h2.ok (by have := h1.st9; omega) (by have := h2.st9; omega) h1.In_lo h1.In_hi h2.In_lo h2.In_hi
  refine Ev.rounds ?_
  unfold warpwrightlaw25_SpanMeets.f
  refine Ev.bind examples_true ?_
  refine Ev.congr (fun q => by rw [if_pos rfl, e1, Option.bind_some, e2, Option.bind_some]) ?_
  refine Ev.bind (lawmeet_spec hE) ?_
  have L := meets_loop h1 h2 hE M 251 (-50) (by omega) (by omega)
  have h0 : (if is = true then cnt lo hi st (-50) else 0) = 0 := by
    rcases M with ⟨rfl, _⟩ | ⟨rfl, hok, hm⟩
    · rfl
    · have hb := (Meets.small (c := c) (d := d) (t := t) h1 (.inr ⟨rfl, hok, hm⟩))
      rw [if_pos rfl, cnt_low (by omega)]
  rw [h0] at L
  exact L

theorem wf_u32 {n : Int} (h : (Lit.int .u32 n).wf = true) : 0 ≤ n := (bounds_u32 h).1
theorem wf_u16 {n : Int} (h : (Lit.int .u16 n).wf = true) : 0 ≤ n := (bounds_u16 h).1
theorem SpanMeetsP {x0 x1 x2 y0 y1 y2 : Int} (_ : (Lit.int .i64 x0).wf = true) (hx1 : (Lit.int .u32 x1).wf = true) (hx2 : (Lit.int .u16 x2).wf = true)
    (_ : (Lit.int .i64 y0).wf = true) (hy1 : (Lit.int .u32 y1).wf = true) (hy2 : (Lit.int .u16 y2).wf = true) : ∃ k, warpwrightlaw25_SpanMeets.f k x0 x1 x2 y0 y1 y2 = some true :=
  SpanMeets (wf_u32 hx1) (wf_u16 hx2) (wf_u32 hy1) (wf_u16 hy2)
end Go.Proofs.Yteghmmkhfgkdgaa.SM
