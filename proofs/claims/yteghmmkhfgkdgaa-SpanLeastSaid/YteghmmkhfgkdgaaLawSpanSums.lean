/- The law SpanSums: what it computes, and that this answers true. -/
import Derived.Test.YteghmmkhfgkdgaaCalc
import Derived.OpenShut
set_option linter.unusedSimpArgs false
set_option linter.unusedVariables false
namespace Go.Proofs.Yteghmmkhfgkdgaa.SX
open Go Go.Ex Go.RowKit Go.Proofs.YteghmmkhfgkdgaaW.PrintWords Go.Proofs.YteghmmkhfgkdgaaW.PrintLast Go.Proofs.YteghmmkhfgkdgaaW.PrintMore Go.Proofs.Yteghmmkhfgkdgaa.SM Go.Proofs.Yteghmmkhfgkdgaa.QS
set_option maxRecDepth 100000

abbrev I3 := Int × Int × Int
abbrev I4 := Int × Int × Int × Int
def c3 (s : I3) : List V := [.int .i64 s.1, .int .i64 s.2.1, .int .i64 s.2.2]
def c4 (s : I4) : List V := [.int .i64 s.1, .int .i64 s.2.1, .int .i64 s.2.2.1, .int .i64 s.2.2.2]
/-- The state ahead of the first question of a round. -/
def S11 (N L : List V) (i k a b : Int) (s t : I3) (p q r u : I4) : St :=
  ⟨[none, none, none, none, none, some (.ptr 0 0), none, some (.bool true), some (.slice 1 0 2 6), some (.int .i64 i), some (.ptr 2 0), some (.ptr 3 0), some (.int .i64 k), some (.int .i64 a), some (.int .i64 b), some (.ptr 4 0), some (.ptr 5 0), some (.ptr 6 0), some (.ptr 7 0)] ++ noneL 186,
   [(0, ⟨N, 56, false⟩), (1, ⟨L, 57, false⟩), (2, ⟨c3 s, 28, false⟩), (3, ⟨c3 t, 28, false⟩), (4, ⟨c4 p, 43, false⟩), (5, ⟨c4 q, 43, false⟩), (6, ⟨c4 r, 43, false⟩), (7, ⟨c4 u, 43, false⟩)], 8⟩
/-- The state ahead of the second question of a round. -/
def S14 (N L : List V) (i : Int) (s t : I3) (p q r : I4) : St :=
  ⟨[none, none, none, none, none, some (.ptr 0 0), none, some (.bool true), some (.slice 1 0 2 6), some (.int .i64 i), some (.ptr 2 0), some (.ptr 3 0), none, none, none, some (.ptr 4 0), some (.ptr 5 0), some (.ptr 6 0), none, some (.int .i64 1099511627776)] ++ noneL 185,
   [(0, ⟨N, 56, false⟩), (1, ⟨L, 57, false⟩), (2, ⟨c3 s, 28, false⟩), (3, ⟨c3 t, 28, false⟩), (4, ⟨c4 p, 43, false⟩), (5, ⟨c4 q, 43, false⟩), (6, ⟨c4 r, 43, false⟩)], 7⟩

/-! ### The first question -/
noncomputable def K4 (z : Bool) (p : I4) (x : Int) : List Bool := bif z then [p.2.2.2 == 0, vaB p.1 p.2.1 p.2.2.1, !vaV p.1 p.2.1 p.2.2.1, hsB p.1 p.2.1 p.2.2.1 x, !hsV p.1 p.2.1 p.2.2.1 x] else [p.2.2.2 == 0]
def L4 (z : Bool) : List Bool := bif z then [true, true, false, true, false] else [false]
def A4 (n g : Nat) (z : Bool) : List (Nat × Bool) := bif z then [(n, true), (5, true), (4, false), (11, true), (g, false)] else [(n, false)]
theorem A4_snd (n g : Nat) (z : Bool) : (A4 n g z).map Prod.snd = L4 z := by cases z <;> rfl
def F4 (r : I4) (x : Int) : Prop := (r.2.2.2 = 0 ∧ vaB r.1 r.2.1 r.2.2.1 = true ∧ vaV r.1 r.2.1 r.2.2.1 = true ∧ hsB r.1 r.2.1 r.2.2.1 x = true ∧ hsV r.1 r.2.1 r.2.2.1 x = true) ∨ r.2.2.2 ≠ 0
theorem F4.way {r : I4} {x : Int} (h : F4 r x) : ∃ z, K4 z r x = L4 z := by
  rcases h with ⟨h1, h2, h3, h4, h5⟩ | h
  · exact ⟨true, by simp [K4, L4, h1, h2, h3, h4, h5]⟩
  · exact ⟨false, by simp [K4, L4, h]⟩
theorem w11 (N L : List V) (i k a b : Int) (s t : I3) (p q r u : I4) (z1 z2 z3 z4 : Bool) :
    (path (partF CS (evF CS 8) noLoops 9 8 14 (S11 N L i k a b s t p q r u)) (A4 4 10 z1 ++ (A4 (bif z1 then 7 else 30) 14 z2 ++ (A4 (bif z2 then 7 else 34) 14 z3 ++ A4 (bif z3 then 7 else 34) 13 z4)))).map (fun x => (x.1, (x.2.1, (x.2.2.m, x.2.2.nx, x.2.2.tm.length, x.2.2.tm.take 19)))) =
      some (K4 z1 p (IntKind.i64.wrap (a + b)) ++ (K4 z2 q (IntKind.i64.wrap (a - b)) ++ (K4 z3 r (IntKind.i64.wrap (a * b)) ++ K4 z4 u (IntKind.i64.wrap (a * k)))),
        (.normal, ((S11 N L i k a b s t p q r u).m, (S11 N L i k a b s t p q r u).nx, (S11 N L i k a b s t p q r u).tm.length, (S11 N L i k a b s t p q r u).tm.take 19))) := by
  cases z1 <;> cases z2 <;> cases z3 <;> cases z4 <;> kernel_rfl
def P11 (x : St) : Prop := ∃ N L i k a b s t p q r u, x = S11 N L i k a b s t p q r u ∧ F4 p (IntKind.i64.wrap (a + b)) ∧ F4 q (IntKind.i64.wrap (a - b)) ∧ F4 r (IntKind.i64.wrap (a * b)) ∧ F4 u (IntKind.i64.wrap (a * k))
theorem o11 {x : St} (h : P11 x) : ∃ x1, (partF CS (evF CS 8) noLoops 9 8 14 x).run = some (.normal, x1) ∧ Weaker x x1 := by
  obtain ⟨N, L, i, k, a, b, s, t, p, q, r, u, rfl, f1, f2, f3, f4⟩ := h
  obtain ⟨z1, g1⟩ := f1.way
  obtain ⟨z2, g2⟩ := f2.way
  obtain ⟨z3, g3⟩ := f3.way
  obtain ⟨z4, g4⟩ := f4.way
  obtain ⟨⟨e, x1⟩, h1, h2⟩ := path_end (f := fun (x : Ex × St) => (x.1, (x.2.m, x.2.nx, x.2.tm.length, x.2.tm.take 19))) (w11 N L i k a b s t p q r u z1 z2 z3 z4) (by simp only [List.map_append, A4_snd]; rw [g1, g2, g3, g4])
  obtain ⟨rfl, h3⟩ := Prod.mk.inj h2
  exact ⟨x1, h1, weak_of 19 h3 rfl⟩

/-! ### The second question -/
def K2 (z : Bool) (e x y : Int) : List Bool := bif z then [decide (x ≥ -1099511627776), !((e == 0) == decide (y ≤ 1099511627776))] else [decide (x ≥ -1099511627776), !((e == 0) == false)]
def L2 (z : Bool) : List Bool := bif z then [true, false] else [false, false]
def A2 (n g : Nat) (z : Bool) : List (Nat × Bool) := bif z then [(n, true), (g, false)] else [(n, false), (g, false)]
theorem A2_snd (n g : Nat) (z : Bool) : (A2 n g z).map Prod.snd = L2 z := by cases z <;> rfl
def F2 (e x y : Int) : Prop := (e = 0 ↔ -1099511627776 ≤ x ∧ y ≤ 1099511627776)
theorem F2.way {e x y : Int} (h : F2 e x y) : ∃ z, K2 z e x y = L2 z := by
  unfold F2 at h
  by_cases c : -1099511627776 ≤ x
  · refine ⟨true, ?_⟩
    by_cases c2 : y ≤ 1099511627776
    · simp [K2, L2, c, c2, h.2 ⟨c, c2⟩]
    · have : e ≠ 0 := fun q => c2 (h.1 q).2
      simp [K2, L2, c, c2, this]
  · refine ⟨false, ?_⟩
    have : e ≠ 0 := fun q => c (h.1 q).1
    simp [K2, L2, c, this]
theorem w14 (N L : List V) (i : Int) (s t : I3) (p q r : I4) (z1 z2 z3 : Bool) :
    (path (partF CS (evF CS 8) noLoops 9 8 18 (S14 N L i s t p q r)) (A2 12 18 z1 ++ (A2 23 23 z2 ++ [(5, z3)]))).map (fun x => (x.1, (x.2.1, getT x.2.2.tm 203, (x.2.2.m, x.2.2.nx, x.2.2.tm.length, x.2.2.tm.take 20)))) =
      some (K2 z1 p.2.2.2 (IntKind.i64.wrap (s.1 + t.1)) (IntKind.i64.wrap (s.2.1 + t.2.1)) ++ (K2 z2 q.2.2.2 (IntKind.i64.wrap (s.1 - t.2.1)) (IntKind.i64.wrap (s.2.1 - t.1)) ++ [i == 1]),
        (.normal, some (.bool (bif z3 then !(r.2.2.2 == 0) else false)), ((S14 N L i s t p q r).m, (S14 N L i s t p q r).nx, (S14 N L i s t p q r).tm.length, (S14 N L i s t p q r).tm.take 20))) := by
  cases z1 <;> cases z2 <;> cases z3 <;> kernel_rfl
def P14 (x : St) : Prop := ∃ N L i s t p q r, x = S14 N L i s t p q r ∧ F2 p.2.2.2 (IntKind.i64.wrap (s.1 + t.1)) (IntKind.i64.wrap (s.2.1 + t.2.1)) ∧ F2 q.2.2.2 (IntKind.i64.wrap (s.1 - t.2.1)) (IntKind.i64.wrap (s.2.1 - t.1)) ∧ (i = 1 → r.2.2.2 = 0)
theorem weak_set {s s1 : St} {t : Nat} {v : V} (h : Weaker s s1) (hv : getT s1.tm t = some v) : Weaker ⟨setT s.tm t v, s.m, s.nx⟩ s1 := by
  obtain ⟨h1, h2, h3, h4⟩ := h
  have hl : ∀ (tm : Tm) (t : Nat) (v : V), (setT tm t v).length = tm.length := by
    intro tm
    induction tm with
    | nil => intro t v; simp [setT]
    | cons o tm ih => intro t v; cases t <;> simp [setT, ih]
  refine ⟨h1, h2, by rw [hl]; exact h3, ?_⟩
  intro t' v' h'
  simp only at h'
  rw [getT_setT] at h'
  split at h'
  · rename_i q
    obtain ⟨rfl, _⟩ := q
    rw [hv]; exact h'
  · exact h4 t' v' h'
theorem o14 {x : St} (h : P14 x) : ∃ x1, (partF CS (evF CS 8) noLoops 9 8 18 x).run = some (.normal, x1) ∧ Weaker ⟨setT x.tm 203 (.bool false), x.m, x.nx⟩ x1 := by
  obtain ⟨N, L, i, s, t, p, q, r, rfl, f1, f2, f3⟩ := h
  obtain ⟨z1, g1⟩ := f1.way
  obtain ⟨z2, g2⟩ := f2.way
  obtain ⟨⟨e, x1⟩, h1, h2⟩ := path_end (f := fun (x : Ex × St) => (x.1, getT x.2.tm 203, (x.2.m, x.2.nx, x.2.tm.length, x.2.tm.take 20))) (w14 N L i s t p q r z1 z2 (i == 1)) (by simp only [List.map_append, A2_snd]; rw [g1, g2]; rfl)
  obtain ⟨rfl, h3⟩ := Prod.mk.inj h2
  obtain ⟨h4, h5⟩ := Prod.mk.inj h3
  refine ⟨x1, h1, weak_set (weak_of 20 h5 rfl) ?_⟩
  refine h4.trans ?_
  by_cases c : i = 1
  · simp [c, f3 c]
  · simp [c]

/-! ### The whole -/
noncomputable def LO8 : Loops := fun k s => bif Nat.beq k 2000011 then some (cdec (P11 s), .normal, s) else bif Nat.beq k 1000014 then some (cdec (P14 s), .normal, ⟨setT s.tm 203 (.bool false), s.m, s.nx⟩) else none
theorem keys8 : cutKeysF CS 8 = [1000000, 1000001, 2000002, 1000002, 1000003, 1000004, 2000005, 1000005, 2000006, 1000006, 1000008, 1000008, 1000009, 1000010, 2000011, 1000011, 1000012, 1000013, 1000014, 1000015, 1000016] := by kernel_rfl
noncomputable def it (x : Int) (s t : I3) (n0 n1 : Int) : List Bool := [pkB s.1 s.2.1 s.2.2 n0, pkB t.1 t.2.1 t.2.2 n1, adB s.1 s.2.1 s.2.2 t.1 t.2.1 t.2.2, sbB s.1 s.2.1 s.2.2 t.1 t.2.1 t.2.2, muB s.1 s.2.1 s.2.2 t.1 t.2.1 t.2.2, scB s.1 s.2.1 s.2.2 x]
noncomputable def st11 (N L : List V) (i x : Int) (s t : I3) (n0 n1 : Int) : St := S11 N L i x (pkV s.1 s.2.1 s.2.2 n0) (pkV t.1 t.2.1 t.2.2 n1) s t (adV s.1 s.2.1 s.2.2 t.1 t.2.1 t.2.2) (sbV s.1 s.2.1 s.2.2 t.1 t.2.1 t.2.2) (muV s.1 s.2.1 s.2.2 t.1 t.2.1 t.2.2) (scV s.1 s.2.1 s.2.2 x)
noncomputable def st14 (N L : List V) (i : Int) (s t : I3) : St := S14 N L i s t (adV s.1 s.2.1 s.2.2 t.1 t.2.1 t.2.2) (sbV s.1 s.2.1 s.2.2 t.1 t.2.1 t.2.2) (muV s.1 s.2.1 s.2.2 t.1 t.2.1 t.2.2)
/-! ### What the functions answer has the properties that are asked -/
structure Bg (s : I3) : Prop where
  ok : Ok s.1 s.2.1 s.2.2
  n1 : Near s.1
  n2 : Near s.2.1
  st : s.2.2 ≤ 16777216
theorem F4_of {lo hi st x e : Int} (h : Ok lo hi st) (h1 : Near lo) (h2 : Near hi) (m : Mem lo hi st x) (he : e = 0) : F4 (lo, hi, st, e) x := by
  refine .inl ⟨he, ?_⟩
  have E1 := valid_ok h h1 h2
  have e2 := has_spec h (by unfold Near at h1; omega) (by unfold Near at h2; omega) x
  rw [decide_eq_true m] at e2
  have E2 : Ev (fun _ => span_Has.f lo hi st x) true := by rw [e2]; exact Ev.now _
  exact ⟨evb_eq E1, evv_eq E1, evb_eq E2, evv_eq E2⟩
theorem wr {x : Int} (h : -9223372036854775808 ≤ x ∧ x ≤ 9223372036854775807) : IntKind.i64.wrap x = x := by rw [IntKind.wrap_i64]; omega
theorem F4_sum {a b s c d t m n : Int} (h : Ok a b s) (k : Ok c d t) (hm : Mem a b s m) (hn : Mem c d t n) : F4 (sumR a b s c d t) (m + n) := by
  unfold sumR
  by_cases c0 : Near (a + c) ∧ Near (b + d)
  · rw [if_pos c0]
    obtain ⟨g1, g2⟩ := sum_ok h k
    exact F4_of g1 c0.1 c0.2 (g2 m n hm hn) rfl
  · rw [if_neg c0]; exact .inr (by simp)
theorem near4 {p q u v : Int} (h1 : Near p) (h2 : Near q) (h3 : Near u) (h4 : Near v) : Near (mn4 p q u v) ∧ Near (mx4 p q u v) := by
  constructor
  · rcases mn4_case p q u v with e | e | e | e <;> rw [e] <;> assumption
  · rcases mx4_case p q u v with e | e | e | e <;> rw [e] <;> assumption
theorem gcd3 {s t u x : Int} : x ∣ (gfold 0 [s, t, u] : Int) ↔ x ∣ s ∧ x ∣ t ∧ x ∣ u := by rw [dvd_gcd0]; simp
theorem gcd1 {s x : Int} : x ∣ (gfold 0 [s] : Int) ↔ x ∣ s := by rw [dvd_gcd0]; simp
theorem F4_mul {a b s c d t m n : Int} (h : Ok a b s) (k : Ok c d t) (hm : Mem a b s m) (hn : Mem c d t n) : F4 (mulR a b s c d t) (IntKind.i64.wrap (m * n)) := by
  unfold mulR
  by_cases c0 : Near (a * c) ∧ Near (a * d) ∧ Near (b * c) ∧ Near (b * d)
  · rw [if_pos c0]
    obtain ⟨q1, q2, q3, q4⟩ := c0
    obtain ⟨g1, g2, g3⟩ := gcd3.1 (Int.dvd_refl (gfold 0 [a * t, c * s, s * t] : Int))
    obtain ⟨p1, p2⟩ := prod_ok h k (by omega) g1 g2 g3 rfl rfl
    obtain ⟨r1, r2⟩ := near4 q1 q2 q3 q4
    have M := p2 m n hm hn
    rw [wr (by have := M.1; have := M.2.1; unfold Near at r1 r2; omega)]
    exact F4_of p1 r1 r2 M rfl
  · rw [if_neg c0]; exact .inr (by simp)
theorem F4_sca {a b s k m : Int} (h : Ok a b s) (hm : Mem a b s m) : F4 (scaR a b s k) (IntKind.i64.wrap (m * k)) := by
  unfold scaR
  by_cases c0 : Near (a * k) ∧ Near (b * k)
  · rw [if_pos c0]
    obtain ⟨q1, q3⟩ := c0
    have g := gcd1.1 (Int.dvd_refl (gfold 0 [s * k] : Int))
    have hk : Ok k k 0 := .inl ⟨rfl, rfl⟩
    obtain ⟨p1, p2⟩ := prod_ok (g := (gfold 0 [s * k] : Int)) h hk (by omega) (by rw [Int.mul_zero]; exact Int.dvd_zero _) (by rw [Int.mul_comm k s]; exact g) (by rw [Int.mul_zero]; exact Int.dvd_zero _) rfl rfl
    obtain ⟨r1, r2⟩ := near4 q1 q1 q3 q3
    have M := p2 m k hm ⟨by omega, by omega, by rw [show k - k = 0 by omega]; exact Int.dvd_refl _⟩
    rw [wr (by have := M.1; have := M.2.1; unfold Near at r1 r2; omega)]
    exact F4_of p1 r1 r2 M rfl
  · rw [if_neg c0]; exact .inr (by simp)
theorem F2_sum {a b s c d t : Int} (h : Ok a b s) (k : Ok c d t) : F2 (sumR a b s c d t).2.2.2 (a + c) (b + d) := by
  have hle := h.le; have kle := k.le
  unfold F2 sumR
  by_cases c0 : Near (a + c) ∧ Near (b + d)
  · rw [if_pos c0]; unfold Near at c0; simp only [true_iff]; omega
  · rw [if_neg c0]; unfold Near at c0; simp only [show ((2 : Int) = 0) = False by simp, false_iff]; omega
theorem near_mul {a c : Int} (h1 : -166 ≤ a ∧ a ≤ 166) (h2 : -166 ≤ c ∧ c ≤ 166) : Near (a * c) := by
  have e := Int.natAbs_mul a c
  have : a.natAbs * c.natAbs ≤ 166 * 166 := Nat.mul_le_mul (by omega) (by omega)
  unfold Near; omega
theorem pk_of {s : I3} {i : Int} (h : Bg s) (h0 : 0 ≤ i) (h1 : i ≤ 65535) : pkB s.1 s.2.1 s.2.2 i = true ∧ Mem s.1 s.2.1 s.2.2 (pkV s.1 s.2.1 s.2.2 i) := by
  obtain ⟨p, e, m⟩ := pick_spec h.ok h.n1 h.n2 h0 h1
  have E : Ev (fun _ => warpwrightlaw25_pick.f s.1 s.2.1 s.2.2 i) p := by rw [e]; exact Ev.now _
  exact ⟨evb_eq E, by rw [show pkV s.1 s.2.1 s.2.2 i = p from evv_eq E]; exact m⟩
/-- One round. -/
theorem round (N L : List V) (i x n0 n1 : Int) {s t : I3} (hs : Bg s) (ht : Bg t) (h0 : 0 ≤ n0 ∧ n0 ≤ 65535) (h1 : 0 ≤ n1 ∧ n1 ≤ 65535) (hx : -40000 ≤ x ∧ x ≤ 40000)
    (hi : i = 1 → (-166 ≤ s.1 ∧ s.2.1 ≤ 166) ∧ (-166 ≤ t.1 ∧ t.2.1 ≤ 166)) : it x s t n0 n1 = [true, true, true, true, true, true] ∧ P11 (st11 N L i x s t n0 n1) ∧ P14 (st14 N L i s t) := by
  obtain ⟨k1, m1⟩ := pk_of hs h0.1 h0.2
  obtain ⟨k2, m2⟩ := pk_of ht h1.1 h1.2
  obtain ⟨k3, e3⟩ := ad_of hs.ok ht.ok hs.n1 hs.n2 ht.n1 ht.n2 (by have := hs.st; omega) (by have := ht.st; omega)
  obtain ⟨k4, e4⟩ := sb_of hs.ok ht.ok hs.n1 hs.n2 ht.n1 ht.n2 (by have := hs.st; omega) (by have := ht.st; omega)
  obtain ⟨k5, e5⟩ := mu_of hs.ok ht.ok hs.n1 hs.n2 ht.n1 ht.n2
  obtain ⟨k6, e6⟩ := sc_of (k := x) hs.ok hs.n1 hs.n2 (by omega) (by omega)
  have b1 := hs.n1; have b2 := hs.n2; have b3 := ht.n1; have b4 := ht.n2
  unfold Near at b1 b2 b3 b4
  have u1 := m1.1; have u2 := m1.2.1; have u3 := m2.1; have u4 := m2.2.1
  refine ⟨by unfold it; rw [k1, k2, k3, k4, k5, k6], ?_, ?_⟩
  · refine ⟨N, L, i, x, _, _, s, t, _, _, _, _, rfl, ?_, ?_, ?_, ?_⟩
    · rw [wr (by omega), e3]; exact F4_sum hs.ok ht.ok m1 m2
    · rw [wr (by omega), e4, Int.sub_eq_add_neg]; exact F4_sum hs.ok (Ok.neg ht.ok) m1 (Mem.neg ht.ok m2)
    · rw [e5]; exact F4_mul hs.ok ht.ok m1 m2
    · rw [e6]; exact F4_sca hs.ok m1
  · refine ⟨N, L, i, s, t, _, _, _, rfl, ?_, ?_, ?_⟩
    · rw [wr (by omega), wr (by omega), e3]; exact F2_sum hs.ok ht.ok
    · rw [wr (by omega), wr (by omega), e4, Int.sub_eq_add_neg, Int.sub_eq_add_neg]; exact F2_sum hs.ok (Ok.neg ht.ok)
    · intro q
      obtain ⟨q1, q2⟩ := hi q
      have l1 := hs.ok.le; have l2 := ht.ok.le
      rw [e5]; unfold mulR
      rw [if_pos ⟨near_mul (by omega) (by omega), near_mul (by omega) (by omega), near_mul (by omega) (by omega), near_mul (by omega) (by omega)⟩]
theorem sp_of {a b c : Int} (hb : 0 ≤ b) (hb' : b ≤ 4294967295) (hc : 0 ≤ c) : spB a b c = true ∧ Bg (spV a b c) := by
  obtain ⟨l, u, v, e, h⟩ := span_desc (a := a) hb hb' hc
  have E : Ev (fun _ => warpwrightref25_Span.f a b c) (l, u, v) := by rw [e]; exact Ev.now _
  refine ⟨evb_eq E, ?_⟩
  rw [show spV a b c = (l, u, v) from evv_eq E]
  exact ⟨h.ok, h.near_lo, h.near_hi, h.st24⟩
theorem sm_bg {a b c : Int} (hb : 0 ≤ b) (hc : 0 ≤ c) : smB a b c = true ∧ Bg (smV a b c) ∧ -166 ≤ (smV a b c).1 ∧ (smV a b c).2.1 ≤ 166 := by
  obtain ⟨l, u, v, e, h⟩ := small_spec (a := a) hb hc
  have E : Ev (fun _ => warpwrightref25_Small.f a b c) (l, u, v) := by rw [e]; exact Ev.now _
  refine ⟨evb_eq E, ?_⟩
  rw [show smV a b c = (l, u, v) from evv_eq E]
  have := h.lo40; have := h.hi160; have := h.ok.le
  exact ⟨⟨h.ok, by constructor <;> simp only <;> omega, by constructor <;> simp only <;> omega, by have := h.st9; simp only; omega⟩, by simp only; omega, h.hi160⟩
def N8 (n0 n1 n2 : Int) : List V := [.int .u16 n0, .int .u16 n1, .int .u16 n2]
def L8 (a b c d : I3) : List V := c3 a ++ (c3 b ++ (c3 c ++ c3 d))
noncomputable def x8 (n2 : Int) : Int := IntKind.i64.wrap (IntKind.i64.wrap n2 - 30000)
theorem w8 (x0 x1 x2 y0 y1 y2 n0 n1 n2 : Int) : path (evFL CS (evF CS 8) LO8 9 8 [.agg [.int .i64 x0, .int .u32 x1, .int .u16 x2], .agg [.int .i64 y0, .int .u32 y1, .int .u16 y2], .agg [.int .u16 n0, .int .u16 n1, .int .u16 n2]] [] 0) [(13, true), (2, true), (3, true), (2, true), (39, true), (5, true), (6, true), (3, true), (3, true), (3, true), (9, true), (4, true), (39, true), (5, true), (6, true), (3, true), (3, true), (3, true), (9, true), (4, true)] =
  some ([spB x0 x1 x2, spB y0 y1 y2, smB x0 x1 x2, smB y0 y1 y2] ++ (it (x8 n2) (spV x0 x1 x2) (spV y0 y1 y2) n0 n1 ++
    ([cdec (P11 (st11 (N8 n0 n1 n2) (L8 (spV x0 x1 x2) (spV y0 y1 y2) (smV x0 x1 x2) (smV y0 y1 y2)) 0 (x8 n2) (spV x0 x1 x2) (spV y0 y1 y2) n0 n1)), cdec (P14 (st14 (N8 n0 n1 n2) (L8 (spV x0 x1 x2) (spV y0 y1 y2) (smV x0 x1 x2) (smV y0 y1 y2)) 0 (spV x0 x1 x2) (spV y0 y1 y2)))] ++ (it (x8 n2) (smV x0 x1 x2) (smV y0 y1 y2) n0 n1 ++
    [cdec (P11 (st11 (N8 n0 n1 n2) (L8 (spV x0 x1 x2) (spV y0 y1 y2) (smV x0 x1 x2) (smV y0 y1 y2)) 1 (x8 n2) (smV x0 x1 x2) (smV y0 y1 y2) n0 n1)), cdec (P14 (st14 (N8 n0 n1 n2) (L8 (spV x0 x1 x2) (spV y0 y1 y2) (smV x0 x1 x2) (smV y0 y1 y2)) 1 (smV x0 x1 x2) (smV y0 y1 y2)))]))),
    (.bool true, [], 0)) := by kernel_rfl
theorem law8 {x0 x1 x2 y0 y1 y2 n0 n1 n2 : Int} (hx1 : 0 ≤ x1 ∧ x1 ≤ 4294967295) (hx2 : 0 ≤ x2) (hy1 : 0 ≤ y1 ∧ y1 ≤ 4294967295) (hy2 : 0 ≤ y2) (h0 : 0 ≤ n0 ∧ n0 ≤ 65535) (h1 : 0 ≤ n1 ∧ n1 ≤ 65535) (h2 : 0 ≤ n2 ∧ n2 ≤ 65535) :
    (evFL CS (evF CS 8) LO8 9 8 [.agg [.int .i64 x0, .int .u32 x1, .int .u16 x2], .agg [.int .i64 y0, .int .u32 y1, .int .u16 y2], .agg [.int .u16 n0, .int .u16 n1, .int .u16 n2]] [] 0).run = some (.bool true, [], 0) := by
  refine path_run (l := [(13, true), (2, true), (3, true), (2, true), (39, true), (5, true), (6, true), (3, true), (3, true), (3, true), (9, true), (4, true), (39, true), (5, true), (6, true), (3, true), (3, true), (3, true), (9, true), (4, true)]) ((w8 x0 x1 x2 y0 y1 y2 n0 n1 n2).trans ?_)
  obtain ⟨r1, A⟩ := sp_of (a := x0) hx1.1 hx1.2 hx2
  obtain ⟨r2, B⟩ := sp_of (a := y0) hy1.1 hy1.2 hy2
  obtain ⟨r3, C, C1, C2⟩ := sm_bg (a := x0) hx1.1 hx2
  obtain ⟨r4, D, D1, D2⟩ := sm_bg (a := y0) hy1.1 hy2
  have hx : -40000 ≤ x8 n2 ∧ x8 n2 ≤ 40000 := by
    unfold x8
    rw [wr (x := n2) (by omega), wr (by omega)]; omega
  obtain ⟨q1, q2, q3⟩ := round (N8 n0 n1 n2) (L8 (spV x0 x1 x2) (spV y0 y1 y2) (smV x0 x1 x2) (smV y0 y1 y2)) 0 (x8 n2) n0 n1 A B h0 h1 hx (fun h => by omega)
  obtain ⟨q4, q5, q6⟩ := round (N8 n0 n1 n2) (L8 (spV x0 x1 x2) (spV y0 y1 y2) (smV x0 x1 x2) (smV y0 y1 y2)) 1 (x8 n2) n0 n1 C D h0 h1 hx (fun _ => ⟨⟨C1, C2⟩, ⟨D1, D2⟩⟩)
  rw [r1, r2, r3, r4, q1, q4, cdec_true q2, cdec_true q3, cdec_true q5, cdec_true q6]
  rfl
theorem keyAt {l : List Nat} {k i : Nat} (h : ∀ j, j < l.length → l[j]? = some k → j = i) : ∀ j, l[j]? = some k → j = i :=
  fun j hj => h j (List.getElem?_eq_some_iff.1 hj).1 hj
theorem SpanSums_calls {x0 x1 x2 y0 y1 y2 n0 n1 n2 : Int} (_ : (Lit.int .i64 x0).wf = true) (hx1 : (Lit.int .u32 x1).wf = true) (hx2 : (Lit.int .u16 x2).wf = true)
    (_ : (Lit.int .i64 y0).wf = true) (hy1 : (Lit.int .u32 y1).wf = true) (hy2 : (Lit.int .u16 y2).wf = true)
    (hn0 : (Lit.int .u16 n0).wf = true) (hn1 : (Lit.int .u16 n1).wf = true) (hn2 : (Lit.int .u16 n2).wf = true) (w : World) :
    Calls Try.prog 8 #[.agg #[.int .i64 x0, .int .u32 x1, .int .u16 x2], .agg #[.int .i64 y0, .int .u32 y1, .int .u16 y2], .agg #[.int .u16 n0, .int .u16 n1, .int .u16 n2]] w fun e w' => e = .returned (.bool true) ∧ Below w.heap.size w w' := by
  refine evFL_calls CS_ok (law8 (bounds_u32 hx1) (bounds_u16 hx2).1 (bounds_u32 hy1) (bounds_u16 hy2).1 (bounds_u16 hn0) (bounds_u16 hn1) (bounds_u16 hn2)) ?_ ?_ rfl rfl (fun _ _ _ h => by cases h)
  · intro j hj s0 e s' h
    have hl : (loopsF CS 8).length = 1 := by kernel_rfl
    rw [hl] at hj
    obtain rfl : j = 0 := by omega
    have hk : keyF CS 8 0 = 6 := by kernel_rfl
    rw [hk] at h
    cases h
  · intro j k hk s0 e s' h
    rw [keys8] at hk
    unfold LO8 at h
    cases b1 : Nat.beq k 2000011 with
    | true =>
      obtain rfl := Nat.eq_of_beq_eq_true b1
      obtain rfl := keyAt (i := 14) (by decide) j hk
      rw [b1] at h
      obtain ⟨h1, h2⟩ := Prod.mk.inj (Option.some.inj h)
      obtain ⟨rfl, rfl⟩ := Prod.mk.inj h2
      obtain ⟨x1, h3, h4⟩ := o11 (of_cdec h1)
      exact ⟨x1, h3, h4⟩
    | false =>
      rw [b1] at h
      cases b2 : Nat.beq k 1000014 with
      | true =>
        obtain rfl := Nat.eq_of_beq_eq_true b2
        obtain rfl := keyAt (i := 18) (by decide) j hk
        rw [b2] at h
        obtain ⟨h1, h2⟩ := Prod.mk.inj (Option.some.inj h)
        obtain ⟨rfl, rfl⟩ := Prod.mk.inj h2
        obtain ⟨x1, h3, h4⟩ := o14 (of_cdec h1)
        exact ⟨x1, h3, h4⟩
      | false =>
        rw [b2] at h
        cases h
end Go.Proofs.Yteghmmkhfgkdgaa.SX
