/- For every two descriptions and indexes the law SpanGreat, as printed, answers true. -/
import Derived.Test.YteghmmkhfgkdgaaRef
import Derived.Test.YteghmmkhfgkdgaaQSx13
import Derived.OpenShut
namespace Go.Proofs.Yteghmmkhfgkdgaa.SM
open Go.RowKit Go.Proofs.YteghmmkhfgkdgaaW.PrintWords Go.Proofs.YteghmmkhfgkdgaaW.PrintLast Go.Proofs.YteghmmkhfgkdgaaW.PrintMore Go.Proofs.Yteghmmkhfgkdgaa.QS

theorem Ok.shift {a b s : Int} (h : Ok a b s) (z : Int) : Ok (a + z) (b + z) s := by
  rcases h with h | ⟨h1, h2, h3⟩
  · exact .inl ⟨by omega, h.2⟩
  · exact .inr ⟨by omega, h2, by rwa [show b + z - (a + z) = b - a by omega]⟩

/-- What stands at the law's end. -/
def greatTail (k : Nat) (a b s c d t : Int) : Option Bool := (span_Apart.f k a b s c d t).bind fun x => (span_Apart.f k c d t a b s).bind fun y =>
  if (x == y) = true then (warpwrightlaw25_meet.f k a b s c d t).bind fun u => (warpwrightlaw25_meet.f k c d t a b s).bind fun v => if ((u.1 == v.1 && (u.2.1 == v.2.1 && (u.2.2.1 == v.2.2.1))) && (u.2.2.2 == v.2.2.2)) = true then some true else none else none
theorem great_j1 {a b s c d t : Int} (h : Big a b s) (k : Big c d t) : Ev (fun q => greatTail q a b s c d t) true := by
  obtain ⟨lo, hi, st, is, hE, M⟩ := meet_spec h.ok k.ok (by have := h.st24; omega) (by have := k.st24; omega) h.near_lo.In h.near_hi.In k.near_lo.In k.near_hi.In
  obtain ⟨lo', hi', st', is', hE', M'⟩ := meet_spec k.ok h.ok (by have := k.st24; omega) (by have := h.st24; omega) k.near_lo.In k.near_hi.In h.near_lo.In h.near_hi.In
  obtain ⟨rfl, rfl, rfl, rfl⟩ := M.uniq M'.symm
  unfold greatTail
  refine Ev.bind (apart_spec hE) ?_
  refine Ev.bind (apart_spec hE') ?_
  refine Ev.congr (fun q => by rw [if_pos (by simp)]) ?_
  refine Ev.bind (lawmeet_spec hE) ?_
  refine Ev.bind (lawmeet_spec hE') ?_
  exact Ev.congr (fun q => by rw [if_pos (by simp)]) (Ev.now _)

theorem great_j0 {a b s c d t : Int} (h : Big a b s) (k : Big c d t) : Ev (fun q => warpwrightlaw25_SpanGreat.j0 q true a b s c d t) true := by
  have hs0 := h.ok.st0
  have ht0 := k.ok.st0
  have J1 := great_j1 h k
  refine Ev.step (fun q => by rw [warpwrightlaw25_SpanGreat.j0]) ?_
  refine Ev.bind (rgcd_spec hs0 ht0) ?_
  have G1 : ((Nat.gcd s.natAbs t.natAbs : Nat) : Int) ∣ s := Int.gcd_dvd_left s t
  have G2 : ((Nat.gcd s.natAbs t.natAbs : Nat) : Int) ∣ t := Int.gcd_dvd_right s t
  have G3 : ((Nat.gcd s.natAbs t.natAbs : Nat) : Int) ≤ 16777216 := by
    by_cases c1 : s = 0
    · subst c1; have := k.st24; simp; omega
    · have := dvd_le G1 (by omega); have := h.st24; omega
  generalize ((Nat.gcd s.natAbs t.natAbs : Nat) : Int) = g at *
  by_cases c0 : g > 0
  · obtain ⟨g1, r1, st1, e1, p1, d1, d1', er1, E1, s1⟩ := mod_spec (hi := b) hs0 (by have := h.st24; omega) h.near_lo.In (show 1 ≤ g by omega) (by omega)
    obtain ⟨g2, r2, st2, e2, p2, d2, d2', er2, E2, s2⟩ := mod_spec (hi := d) ht0 (by have := k.st24; omega) k.near_lo.In (show 1 ≤ g by omega) (by omega)
    have q1 : g1 = g := Int.dvd_antisymm (by omega) (by omega) d1' (by rw [e1]; exact Int.dvd_coe_gcd G1 (Int.dvd_refl _))
    have q2 : g2 = g := Int.dvd_antisymm (by omega) (by omega) d2' (by rw [e2]; exact Int.dvd_coe_gcd G2 (Int.dvd_refl _))
    clear e1 e2
    subst q1 q2
    have z0 := Int.emod_nonneg a (show g2 ≠ 0 by omega)
    have z1 := Int.emod_lt_of_pos a (show 0 < g2 by omega)
    have y0 := Int.emod_nonneg c (show g2 ≠ 0 by omega)
    have y1 := Int.emod_lt_of_pos c (show 0 < g2 by omega)
    have f1 : (g2 - 1 - r1) % g2 = g2 - 1 - r1 := Int.emod_eq_of_lt (by omega) (by omega)
    have f2 : (g2 - 1 - r2) % g2 = g2 - 1 - r2 := Int.emod_eq_of_lt (by omega) (by omega)
    rw [f1] at E1 s1
    rw [f2] at E2 s2
    have w1 : g2 - 1 - (g2 - 1 - r1) = r1 := by omega
    have w2 : g2 - 1 - (g2 - 1 - r2) = r2 := by omega
    rw [w1] at E1 s1
    rw [w2] at E2 s2
    rw [if_pos rfl] at s1 s2
    subst s1 s2
    refine Ev.congr (fun q => by rw [if_pos c0]) ?_
    refine Ev.bind E1 ?_
    refine Ev.bind E2 ?_
    by_cases cr : r1 = r2
    · exact Ev.congr (fun q => by rw [if_neg (by simp [cr])]; rfl) J1
    · refine Ev.congr (fun q => by rw [if_pos (by simp [cr])]) ?_
      obtain ⟨lo, hi, st, is, hE, M⟩ := meet_spec h.ok k.ok (by have := h.st24; omega) (by have := k.st24; omega) h.near_lo.In h.near_hi.In k.near_lo.In k.near_hi.In
      have nd : ¬ g2 ∣ c - a := by
        intro q
        apply cr
        rw [er1, er2]
        exact (Int.emod_eq_emod_iff_emod_sub_eq_zero.2 (Int.emod_eq_zero_of_dvd (dvd_sub_comm'.1 q)))
      have his : is = false := by
        rcases M with M | ⟨_, hok, hm⟩
        · exact M.1
        · exact absurd ((hm _).1 hok.lo_mem) (no_meet G1 G2 nd _)
      subst his
      refine Ev.bind (apart_spec hE) ?_
      exact Ev.congr (fun q => by rw [if_pos (by simp)]; rfl) J1
  · exact Ev.congr (fun q => by rw [if_neg c0]; rfl) J1

theorem SpanGreat {x0 x1 x2 y0 y1 y2 n0 n1 : Int} (_ : (Lit.int .i64 x0).wf = true) (hx1 : (Lit.int .u32 x1).wf = true) (hx2 : (Lit.int .u16 x2).wf = true)
    (_ : (Lit.int .i64 y0).wf = true) (hy1 : (Lit.int .u32 y1).wf = true) (hy2 : (Lit.int .u16 y2).wf = true) (hn0 : (Lit.int .u16 n0).wf = true) (hn1 : (Lit.int .u16 n1).wf = true) :
    ∃ k, warpwrightlaw25_SpanGreat.f k x0 x1 x2 y0 y1 y2 n0 n1 = some true := by
  obtain ⟨a, b, s, e1, h⟩ := span_desc (a := x0) (bounds_u32 hx1).1 (bounds_u32 hx1).2 (bounds_u16 hx2).1
  obtain ⟨c, d, t, e2, k⟩ := span_desc (a := y0) (bounds_u32 hy1).1 (bounds_u32 hy1).2 (bounds_u16 hy2).1
  obtain ⟨p, ep, hp⟩ := pick_spec h.ok h.near_lo h.near_hi (bounds_u16 hn0).1 (bounds_u16 hn0).2
  obtain ⟨q, eq, hq⟩ := pick_spec k.ok k.near_lo k.near_hi (bounds_u16 hn1).1 (bounds_u16 hn1).2
  have J0 := great_j0 h k
  obtain ⟨na1, na2⟩ := h.near_lo
  obtain ⟨nb1, nb2⟩ := h.near_hi
  obtain ⟨nc1, nc2⟩ := k.near_lo
  obtain ⟨nd1, nd2⟩ := k.near_hi
  obtain ⟨hp1, hp2, hp3⟩ := hp
  obtain ⟨hq1, hq2, hq3⟩ := hq
  have w0 : wrap64 (p - q) = p - q := w64 (by omega) (by omega)
  have w1 : wrap64 (c + (p - q)) = c + (p - q) := w64 (by omega) (by omega)
  have w2 : wrap64 (d + (p - q)) = d + (p - q) := w64 (by omega) (by omega)
  have km := k.ok.shift (p - q)
  refine Ev.rounds ?_
  unfold warpwrightlaw25_SpanGreat.f
  refine Ev.bind examples_true ?_
  refine Ev.congr (fun z => by rw [if_pos rfl, e1, Option.bind_some, e2, Option.bind_some, ep, Option.bind_some, eq, Option.bind_some, w0, w1, w2]) ?_
  refine Ev.bind (rvalid_spec _ _ _) ?_
  by_cases V : Vld (c + (p - q)) (d + (p - q)) t
  · obtain ⟨v1, v2, v3⟩ := V
    refine Ev.congr (fun z => by rw [if_pos (decide_eq_true ⟨v1, v2, v3⟩)]) ?_
    obtain ⟨lo, hi, st, is, hE, M⟩ := meet_spec h.ok km (by have := h.st24; omega) (by have := k.st24; omega) h.near_lo.In h.near_hi.In v1.In v2.In
    have both : Mem a b s p ∧ Mem (c + (p - q)) (d + (p - q)) t p := ⟨⟨hp1, hp2, hp3⟩, ⟨by omega, by omega, by rwa [show p - (c + (p - q)) = q - c by omega]⟩⟩
    rcases M with ⟨_, _, _, _, hno⟩ | ⟨rfl, hok, hm⟩
    · exact absurd both (hno p)
    · have ml := (hm _).1 hok.lo_mem
      have mh := (hm _).1 hok.hi_mem
      have nl : Near lo := ⟨by have := ml.1.1; omega, by have := ml.1.2.1; omega⟩
      have nh : Near hi := ⟨by have := mh.1.1; omega, by have := mh.1.2.1; omega⟩
      refine Ev.bind (lawmeet_spec hE) ?_
      have e5 := has_spec hok (by have := nl.1; omega) (by have := nh.2; omega) p
      rw [decide_eq_true ((hm p).2 both)] at e5
      have e6 := inside_spec hok h.ok nl nh h.near_lo h.near_hi (fun n hn => ((hm n).1 hn).1)
      have e7 := inside_spec hok km nl nh v1 v2 (fun n hn => ((hm n).1 hn).2)
      refine Ev.congr (fun z => by simp only [e5, e6, e7, Option.bind_some, if_true]; rfl) ?_
      refine Ev.bind (apart_spec hE) ?_
      exact J0
  · exact Ev.congr (fun z => by rw [if_neg (by simp [V])]) J0
end Go.Proofs.Yteghmmkhfgkdgaa.SM
