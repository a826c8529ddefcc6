/- The law SpanLeast: what it computes, and that this answers true. No condition. -/
import Derived.Test.YteghmmkhfgkdgaaRefAll
import Derived.Test.YteghmmkhfgkdgaaLawSpanSums
set_option linter.unusedSimpArgs false
set_option linter.unusedVariables false
namespace Go.Proofs.Yteghmmkhfgkdgaa.SX
open Go Go.Ex Go.RowKit Go.Proofs.YteghmmkhfgkdgaaW.PrintWords Go.Proofs.YteghmmkhfgkdgaaW.PrintLast Go.Proofs.YteghmmkhfgkdgaaW.PrintMore Go.Proofs.Yteghmmkhfgkdgaa.SM Go.Proofs.Yteghmmkhfgkdgaa.QS
set_option maxRecDepth 100000

/-! ### Whether a span lies in another one -/
noncomputable def mem3 (g : I3) (n : Int) : Bool := decide (Mem g.1 g.2.1 g.2.2 n)
noncomputable def on9 (g : I3) : Bool := cdec (One g.1 g.2.1 g.2.2)
noncomputable def ins3 (s g : I3) : Bool := mem3 g s.1 && (mem3 g s.2.1 && mem3 g (IntKind.i64.wrap (s.1 + s.2.2)))
noncomputable def p_in : Orc := ⟨20, fun | [.agg [.int .i64 a, .int .i64 b, .int .i64 s], .agg [.int .i64 c, .int .i64 d, .int .i64 t]] => some (on9 (c, d, t), .bool (ins3 (a, b, s) (c, d, t))) | _ => none⟩
theorem p_in_ok : OrcOk Try.prog noG p_in := by
  intro args v h
  simp only [p_in] at h
  split at h
  · rename_i a b s c d t
    obtain ⟨h1, rfl⟩ := Prod.mk.inj (Option.some.inj h)
    obtain ⟨h, hc, hd, _⟩ := of_cdec h1
    have e : warpwrightlaw25_inside.f a b s c d t = some (ins3 (a, b, s) (c, d, t)) := by
      unfold warpwrightlaw25_inside.f
      rw [rhas_spec h hc hd, rhas_spec h hc hd, rhas_spec h hc hd]
      simp only [ins3, mem3, Option.bind_some, IntKind.wrap_i64, wrap64]
      by_cases q1 : Mem c d t a <;> by_cases q2 : Mem c d t b <;> simp [q1, q2]
    exact ⟨_, _, rfl, rfl, fun w _ => warpwrightlaw25_inside.calls a b s c d t _ w e⟩
  · cases h
noncomputable def C9 : Cfg := mkC Try.prog noG eqT [oEx, oSm, p_ad, p_sb, p_mu, p_jn, p_hsr, p_var, p_in]
theorem C9_ok : C9.Ok := mkC_ok mixed (names_of names) eqs (by
  intro o ho
  simp only [List.mem_cons, List.not_mem_nil, or_false] at ho
  rcases ho with rfl | rfl | rfl | rfl | rfl | rfl | rfl | rfl | rfl
  · exact oEx_ok
  · exact oSm_ok
  · exact p_ad_ok
  · exact p_sb_ok
  · exact p_mu_ok
  · exact p_jn_ok
  · exact p_hsr_ok
  · exact p_var_ok
  · exact p_in_ok)

/-! ### States -/
def L12 (a b c d : I3) : List V := c3 a ++ (c3 b ++ (c3 c ++ c3 d))
abbrev I12 := I3 × I3 × I3 × I3
abbrev B4 := Bool × Bool × Bool × Bool
def M9 (s t : I3) (r : I12) (v : B4) (g : I12) : Ex.Mem :=
  [(0, ⟨c3 s, 28, false⟩), (1, ⟨c3 t, 28, false⟩), (2, ⟨L12 r.1 r.2.1 r.2.2.1 r.2.2.2, 28, false⟩), (3, ⟨[.bool v.1, .bool v.2.1, .bool v.2.2.1, .bool v.2.2.2], 4, false⟩), (4, ⟨L12 g.1 g.2.1 g.2.2.1 g.2.2.2, 28, false⟩)]
def T9 : Tm := [none, none, none, none, none, none, none, some (.bool true), some (.ptr 0 0), some (.ptr 1 0), none, some (.slice 2 0 4 3), some (.slice 3 0 4 1), some (.slice 4 0 4 3), none, none]
def S15 (s t : I3) (r : I12) (v : B4) (g : I12) : St := ⟨T9 ++ noneL 252, M9 s t r v g, 5⟩
def S16 (s t : I3) (r : I12) (v : B4) (g : I12) (x : Int) : St := ⟨T9 ++ some (.int .i64 x) :: noneL 251, M9 s t r v g, 5⟩
def S20 (s t : I3) (r : I12) (v : B4) (g : I12) (x y : Int) : St := ⟨T9 ++ some (.int .i64 x) :: some (.int .i64 y) :: noneL 250, M9 s t r v g, 5⟩
def bk (s : St) (b : Nat) : List V := match Ex.look s.m b with | some k => k.cells | none => []
def ci (l : List V) (i : Nat) : Int := match nth l i with | some (.int _ n) => n | _ => 0
def cb (l : List V) (i : Nat) : Bool := match nth l i with | some (.bool b) => b | _ => false
def tr (l : List V) (i : Nat) : I3 := (ci l i, ci l (i + 1), ci l (i + 2))
def tr4 (l : List V) : I12 := (tr l 0, tr l 3, tr l 6, tr l 9)
def b4 (l : List V) : B4 := (cb l 0, cb l 1, cb l 2, cb l 3)
/-- What the inner loop comes to. -/
noncomputable def fi (g : I12) (t : I3) (x y : Int) : B4 :=
  (cdec (∀ n, y ≤ n → Mem t.1 t.2.1 t.2.2 n → Mem g.1.1 g.1.2.1 g.1.2.2 (x + n)), cdec (∀ n, y ≤ n → Mem t.1 t.2.1 t.2.2 n → Mem g.2.1.1 g.2.1.2.1 g.2.1.2.2 (x - n)),
   cdec (∀ n, y ≤ n → Mem t.1 t.2.1 t.2.2 n → Mem g.2.2.1.1 g.2.2.1.2.1 g.2.2.1.2.2 (x * n)), cdec (∀ n, y ≤ n → Mem t.1 t.2.1 t.2.2 n → Mem g.2.2.2.1 g.2.2.2.2.1 g.2.2.2.2.2 n))
def an4 (v u : B4) : B4 := (v.1 && u.1, v.2.1 && u.2.1, v.2.2.1 && u.2.2.1, v.2.2.2 && u.2.2.2)
/-- What the outer loop comes to. -/
noncomputable def fo (g : I12) (s t : I3) (x : Int) : B4 :=
  (cdec (∀ m, x ≤ m → Mem s.1 s.2.1 s.2.2 m → ∀ n, Mem t.1 t.2.1 t.2.2 n → Mem g.1.1 g.1.2.1 g.1.2.2 (m + n)), cdec (∀ m, x ≤ m → Mem s.1 s.2.1 s.2.2 m → ∀ n, Mem t.1 t.2.1 t.2.2 n → Mem g.2.1.1 g.2.1.2.1 g.2.1.2.2 (m - n)),
   cdec (∀ m, x ≤ m → Mem s.1 s.2.1 s.2.2 m → ∀ n, Mem t.1 t.2.1 t.2.2 n → Mem g.2.2.1.1 g.2.2.1.2.1 g.2.2.1.2.2 (m * n)), cdec (∀ m, x ≤ m → Mem s.1 s.2.1 s.2.2 m → Mem g.2.2.2.1 g.2.2.2.2.1 g.2.2.2.2.2 m ∧ ∀ n, Mem t.1 t.2.1 t.2.2 n → Mem g.2.2.2.1 g.2.2.2.2.1 g.2.2.2.2.2 n))
structure F9 (s t : I3) (g : I12) : Prop where
  hs : Ok s.1 s.2.1 s.2.2
  ht : Ok t.1 t.2.1 t.2.2
  s1 : -166 ≤ s.1
  s2 : s.2.1 ≤ 166
  t1 : -166 ≤ t.1
  t2 : t.2.1 ≤ 166
  g0 : One g.1.1 g.1.2.1 g.1.2.2
  g1 : One g.2.1.1 g.2.1.2.1 g.2.1.2.2
  g2 : One g.2.2.1.1 g.2.2.1.2.1 g.2.2.1.2.2
  g3 : One g.2.2.2.1 g.2.2.2.2.1 g.2.2.2.2.2
def P20 (st : St) : Prop := ∃ s t r v g x, st = S20 s t r v g x t.1 ∧ F9 s t g ∧ -166 ≤ x ∧ x ≤ 166
def P16 (st : St) : Prop := ∃ s t r v g, st = S16 s t r v g s.1 ∧ F9 s t g
noncomputable def LO9 : Loops := fun k st =>
  bif Nat.beq k 20 then some (cdec (P20 st), .exit 4, S16 (tr (bk st 0) 0) (tr (bk st 1) 0) (tr4 (bk st 2)) (an4 (b4 (bk st 3)) (fi (tr4 (bk st 4)) (tr (bk st 1) 0) (geti st 16) (geti st 17))) (tr4 (bk st 4)) (geti st 16))
  else bif Nat.beq k 16 then some (cdec (P16 st), .exit 2, S15 (tr (bk st 0) 0) (tr (bk st 1) 0) (tr4 (bk st 2)) (an4 (b4 (bk st 3)) (fo (tr4 (bk st 4)) (tr (bk st 0) 0) (tr (bk st 1) 0) (geti st 16))) (tr4 (bk st 4))) else none

/-! ### Rounds -/
def A9 (n g : Nat) (z : Bool) : List (Nat × Bool) := bif z then [(n, true), (g, true)] else [(n, false)]
noncomputable def K9 (z v : Bool) (g : I3) : List Bool := bif z then [v, on9 g] else [v]
def L9 (z : Bool) : List Bool := bif z then [true, true] else [false]
theorem A9_snd (n g : Nat) (z : Bool) : (A9 n g z).map Prod.snd = L9 z := by cases z <;> rfl
theorem K9_eq {v : Bool} {g : I3} (h : One g.1 g.2.1 g.2.2) : K9 v v g = L9 v := by
  have : on9 g = true := cdec_true h
  cases v <;> simp [K9, L9, this]
def mx1 (s : Int) : Int := if 1 > s then 1 else s
theorem w20a (s t : I3) (r : I12) (v : B4) (g : I12) (x y : Int) : (path (stepF C9 (evF C9 8) LO9 9 9 2 (S20 s t r v g x y)) [(4, false)]).map (fun q => (q.1, (q.2.1, (q.2.2.m, q.2.2.nx, q.2.2.tm.length, q.2.2.tm.take 17)))) =
    some ([decide (y ≤ t.2.1)], (.exit 4, ((S16 s t r v g x).m, (S16 s t r v g x).nx, (S16 s t r v g x).tm.length, (S16 s t r v g x).tm.take 17))) := by kernel_rfl
theorem w20b (s t : I3) (r : I12) (v : B4) (g : I12) (x y : Int) (z0 z1 z2 z3 : Bool) : (path (stepF C9 (evF C9 8) LO9 9 9 2 (S20 s t r v g x y)) ((4, true) :: (A9 7 14 z0 ++ (A9 (bif z0 then 12 else 25) 14 z1 ++ (A9 (bif z1 then 12 else 25) 14 z2 ++ A9 (bif z2 then 12 else 25) 10 z3))))).map (fun q => (q.1, (q.2.1, tidyF C9 9 2 q.2.2))) =
    some (decide (y ≤ t.2.1) :: (K9 z0 v.1 g.1 ++ (K9 z1 v.2.1 g.2.1 ++ (K9 z2 v.2.2.1 g.2.2.1 ++ K9 z3 v.2.2.2 g.2.2.2))),
      (.normal, tidyF C9 9 2 (S20 s t r ((bif z0 then mem3 g.1 (IntKind.i64.wrap (x + y)) else false), (bif z1 then mem3 g.2.1 (IntKind.i64.wrap (x - y)) else false), (bif z2 then mem3 g.2.2.1 (IntKind.i64.wrap (x * y)) else false), (bif z3 then mem3 g.2.2.2 y else false)) g x (IntKind.i64.wrap (y + mx1 t.2.2))))) := by
  cases z0 <;> cases z1 <;> cases z2 <;> cases z3 <;> kernel_rfl
theorem w16a (s t : I3) (r : I12) (v : B4) (g : I12) (x : Int) : (path (stepF C9 (evF C9 8) LO9 9 9 1 (S16 s t r v g x)) [(4, false)]).map (fun q => (q.1, (q.2.1, (q.2.2.m, q.2.2.nx, q.2.2.tm.length, q.2.2.tm.take 16)))) =
    some ([decide (x ≤ s.2.1)], (.exit 2, ((S15 s t r v g).m, (S15 s t r v g).nx, (S15 s t r v g).tm.length, (S15 s t r v g).tm.take 16))) := by kernel_rfl
theorem w16b (s t : I3) (r : I12) (v : B4) (g : I12) (x : Int) (z3 : Bool) : (path (stepF C9 (evF C9 8) LO9 9 9 1 (S16 s t r v g x)) ((4, true) :: (A9 7 10 z3 ++ [(bif z3 then 9 else 18, true)]))).map (fun q => (q.1, (q.2.1, tidyF C9 9 1 q.2.2))) =
    some (decide (x ≤ s.2.1) :: (K9 z3 v.2.2.2 g.2.2.2 ++ [cdec (P20 (S20 s t r (v.1, v.2.1, v.2.2.1, (bif z3 then mem3 g.2.2.2 x else false)) g x t.1))]),
      (.normal, tidyF C9 9 1 (S16 s t r (an4 (v.1, v.2.1, v.2.2.1, (bif z3 then mem3 g.2.2.2 x else false)) (fi g t x t.1)) g (IntKind.i64.wrap (x + mx1 s.2.2))))) := by
  cases z3 <;> kernel_rfl

/-! ### All rounds -/
theorem all_step {c d s y : Int} {p : Int → Prop} (h : Mem c d s y) (s0 : 0 ≤ s) : (∀ n, y ≤ n → Mem c d s n → p n) ↔ (p y ∧ ∀ n, y + mx1 s ≤ n → Mem c d s n → p n) := by
  have hm : 1 ≤ mx1 s := by unfold mx1; split <;> omega
  constructor
  · intro k
    exact ⟨k y (by omega) h, fun n hn m => k n (by omega) m⟩
  · rintro ⟨k1, k2⟩ n hn m
    by_cases e : n = y
    · rw [e]; exact k1
    · refine k2 n ?_ m
      have hd := Int.dvd_sub m.2.2 h.2.2
      rw [show n - c - (y - c) = n - y by omega] at hd
      have := Int.le_of_dvd (by omega) hd
      unfold mx1; split <;> omega
theorem cdec_and {A B C : Prop} [Decidable B] (h : A ↔ (B ∧ C)) : cdec A = (decide B && cdec C) := by
  by_cases b : B <;> by_cases c : C
  · rw [cdec_true (h.2 ⟨b, c⟩), cdec_true c]; simp [b]
  all_goals
    have hn : cdec A = false := by
      cases q : cdec A with
      | false => rfl
      | true => have := h.1 (of_cdec q); exact absurd this (by simp [b, c])
    rw [hn]
  · have hc : cdec C = false := by
      cases q : cdec C with
      | false => rfl
      | true => exact absurd (of_cdec q) c
    rw [hc]; simp
  · simp [b]
  · simp [b]
theorem cdec_iff {A B : Prop} (h : A ↔ B) : cdec A = cdec B := by rw [propext h]
theorem fi_step (g : I12) (t : I3) (x y : Int) (h : Mem t.1 t.2.1 t.2.2 y) (s0 : 0 ≤ t.2.2) : fi g t x y = an4 (mem3 g.1 (x + y), mem3 g.2.1 (x - y), mem3 g.2.2.1 (x * y), mem3 g.2.2.2 y) (fi g t x (y + mx1 t.2.2)) := by
  unfold fi an4 mem3
  simp only
  rw [cdec_and (all_step (p := fun n => Mem g.1.1 g.1.2.1 g.1.2.2 (x + n)) h s0), cdec_and (all_step (p := fun n => Mem g.2.1.1 g.2.1.2.1 g.2.1.2.2 (x - n)) h s0), cdec_and (all_step (p := fun n => Mem g.2.2.1.1 g.2.2.1.2.1 g.2.2.1.2.2 (x * n)) h s0), cdec_and (all_step (p := fun n => Mem g.2.2.2.1 g.2.2.2.2.1 g.2.2.2.2.2 n) h s0)]
theorem fi_end (g : I12) (t : I3) (x y : Int) (h : t.2.1 < y) : fi g t x y = (true, true, true, true) := by
  have k : ∀ p : Int → Prop, ∀ n, y ≤ n → Mem t.1 t.2.1 t.2.2 n → p n := fun p n h1 h2 => by have := h2.2.1; omega
  unfold fi
  rw [cdec_true (k _), cdec_true (k _), cdec_true (k _), cdec_true (k _)]
theorem an4_assoc (a b c : B4) : an4 (an4 a b) c = an4 a (an4 b c) := by unfold an4; simp [Bool.and_assoc]
theorem an4_true (a : B4) : an4 a (true, true, true, true) = a := by unfold an4; simp
theorem cond_and (a b : Bool) : (bif a then b else false) = (a && b) := by cases a <;> rfl
theorem il {s t : I3} {r g : I12} {x : Int} (F : F9 s t g) (hx : -166 ≤ x ∧ x ≤ 166) : ∀ (n : Nat) (y : Int) (v : B4), (t.2.1 + 1 - y).toNat ≤ n → t.1 ≤ y → (y ≤ t.2.1 → t.2.2 ∣ y - t.1) →
    ∃ k s1, (loopN (stepF C9 (evF C9 8) LO9 9 9 2) k (S20 s t r v g x y)).run = some (.exit 4, s1) ∧ Weaker (S16 s t r (an4 v (fi g t x y)) g x) s1 := by
  have s0 := F.ht.st0
  have hm : 1 ≤ mx1 t.2.2 ∧ (t.2.2 = 0 → mx1 t.2.2 = 1) ∧ (1 ≤ t.2.2 → mx1 t.2.2 = t.2.2) := by unfold mx1; split <;> omega
  have hst : t.2.2 ≤ 332 := by
    have := F.t1; have := F.t2
    rcases F.ht with ⟨h1, h2⟩ | ⟨h1, h2, h3⟩
    · omega
    · have := Int.le_of_dvd (by omega) h3; omega
  intro n
  induction n with
  | zero =>
    intro y v hn h1 h2
    have hy : ¬ y ≤ t.2.1 := by omega
    obtain ⟨⟨e, x1⟩, h1, h2⟩ := path_end (f := fun (q : Ex × St) => (q.1, (q.2.m, q.2.nx, q.2.tm.length, q.2.tm.take 17))) (w20a s t r v g x y) (by simp [hy])
    obtain ⟨rfl, h3⟩ := Prod.mk.inj h2
    refine ⟨1, x1, loop_end h1, ?_⟩
    rw [fi_end g t x y (by omega), an4_true]
    exact weak_of 17 h3 rfl
  | succ n ih =>
    intro y v hn h1 h2
    by_cases hy : y ≤ t.2.1
    · have hd := h2 hy
      have M : Mem t.1 t.2.1 t.2.2 y := ⟨h1, hy, hd⟩
      have b1 := F.t1; have b2 := F.t2
      obtain ⟨v0, v1, v2, v3⟩ := v
      obtain ⟨⟨e, x1⟩, h3, h4⟩ := path_end (f := fun (q : Ex × St) => (q.1, tidyF C9 9 2 q.2)) (w20b s t r (v0, v1, v2, v3) g x y v0 v1 v2 v3) (by
        simp only [List.map_cons, List.map_append, A9_snd]
        rw [K9_eq F.g0, K9_eq F.g1, K9_eq F.g2, K9_eq F.g3, decide_eq_true hy])
      obtain ⟨rfl, h5⟩ := Prod.mk.inj h4
      have hxy : -27556 ≤ x * y ∧ x * y ≤ 27556 := by
        have e := Int.natAbs_mul x y
        have : x.natAbs * y.natAbs ≤ 166 * 166 := Nat.mul_le_mul (by omega) (by omega)
        omega
      rw [wr (x := x + y) (by omega), wr (x := x - y) (by omega), wr (x := x * y) (by omega), wr (x := y + mx1 t.2.2) (by omega), cond_and, cond_and, cond_and, cond_and] at h5
      have hnext : y + mx1 t.2.2 ≤ t.2.1 → t.2.2 ∣ y + mx1 t.2.2 - t.1 := by
        intro q
        by_cases z : 1 ≤ t.2.2
        · rw [hm.2.2 z, show y + t.2.2 - t.1 = y - t.1 + t.2.2 by omega]; exact Int.dvd_add hd (Int.dvd_refl _)
        · exfalso
          rcases F.ht with ⟨h1, h2⟩ | ⟨h1, h2, h3⟩ <;> omega
      obtain ⟨k, s1, g1, g2⟩ := ih (y + mx1 t.2.2) (v0 && mem3 g.1 (x + y), v1 && mem3 g.2.1 (x - y), v2 && mem3 g.2.2.1 (x * y), v3 && mem3 g.2.2.2 y) (by omega) (by omega) hnext
      refine ⟨k + 1, s1, loop_next h3 h5 g1, ?_⟩
      rw [fi_step g t x y M s0, ← an4_assoc]
      exact g2
    · obtain ⟨⟨e, x1⟩, h1, h2⟩ := path_end (f := fun (q : Ex × St) => (q.1, (q.2.m, q.2.nx, q.2.tm.length, q.2.tm.take 17))) (w20a s t r v g x y) (by simp [hy])
      obtain ⟨rfl, h3⟩ := Prod.mk.inj h2
      refine ⟨1, x1, loop_end h1, ?_⟩
      rw [fi_end g t x y (by omega), an4_true]
      exact weak_of 17 h3 rfl
theorem fo_step (g : I12) (s t : I3) (x : Int) (h : Mem s.1 s.2.1 s.2.2 x) (s0 : 0 ≤ s.2.2) : fo g s t x = an4 (an4 (true, true, true, mem3 g.2.2.2 x) (fi g t x t.1)) (fo g s t (x + mx1 s.2.2)) := by
  have A : ∀ p : Int → Prop, (∀ n, t.1 ≤ n → Mem t.1 t.2.1 t.2.2 n → p n) ↔ (∀ n, Mem t.1 t.2.1 t.2.2 n → p n) := fun p => ⟨fun k n m => k n m.1 m, fun k n _ m => k n m⟩
  unfold fo fi an4 mem3
  simp only [Bool.true_and]
  have D : ∀ P : Prop, cdec P = @decide P (Classical.propDecidable P) := fun _ => rfl
  have and_c : ∀ {A B C : Prop}, (A ↔ (B ∧ C)) → cdec A = (cdec B && cdec C) := fun h => @cdec_and _ _ _ (Classical.propDecidable _) h
  rw [and_c (all_step (p := fun m => ∀ n, Mem t.1 t.2.1 t.2.2 n → Mem g.1.1 g.1.2.1 g.1.2.2 (m + n)) h s0), and_c (all_step (p := fun m => ∀ n, Mem t.1 t.2.1 t.2.2 n → Mem g.2.1.1 g.2.1.2.1 g.2.1.2.2 (m - n)) h s0),
    and_c (all_step (p := fun m => ∀ n, Mem t.1 t.2.1 t.2.2 n → Mem g.2.2.1.1 g.2.2.1.2.1 g.2.2.1.2.2 (m * n)) h s0), and_c (all_step (p := fun m => Mem g.2.2.2.1 g.2.2.2.2.1 g.2.2.2.2.2 m ∧ ∀ n, Mem t.1 t.2.1 t.2.2 n → Mem g.2.2.2.1 g.2.2.2.2.1 g.2.2.2.2.2 n) h s0),
    cdec_iff (A fun n => Mem g.1.1 g.1.2.1 g.1.2.2 (x + n)), cdec_iff (A fun n => Mem g.2.1.1 g.2.1.2.1 g.2.1.2.2 (x - n)), cdec_iff (A fun n => Mem g.2.2.1.1 g.2.2.1.2.1 g.2.2.1.2.2 (x * n)), cdec_iff (A fun n => Mem g.2.2.2.1 g.2.2.2.2.1 g.2.2.2.2.2 n),
    cdec_and (Iff.rfl : (Mem g.2.2.2.1 g.2.2.2.2.1 g.2.2.2.2.2 x ∧ ∀ n, Mem t.1 t.2.1 t.2.2 n → Mem g.2.2.2.1 g.2.2.2.2.1 g.2.2.2.2.2 n) ↔ _)]
theorem fo_end (g : I12) (s t : I3) (x : Int) (h : s.2.1 < x) : fo g s t x = (true, true, true, true) := by
  have k : ∀ p : Int → Prop, ∀ n, x ≤ n → Mem s.1 s.2.1 s.2.2 n → p n := fun p n h1 h2 => by have := h2.2.1; omega
  unfold fo
  rw [cdec_true (k _), cdec_true (k _), cdec_true (k _), cdec_true (k _)]
theorem p20_eq {s t : I3} {r g : I12} {v : B4} {x : Int} (F : F9 s t g) (hx : -166 ≤ x ∧ x ≤ 166) : cdec (P20 (S20 s t r v g x t.1)) = true := cdec_true ⟨s, t, r, v, g, x, rfl, F, hx⟩
theorem an4_last (a b c d m : Bool) : an4 (a, b, c, d) (true, true, true, m) = (a, b, c, d && m) := by simp [an4]
theorem ol {s t : I3} {r g : I12} (F : F9 s t g) : ∀ (n : Nat) (x : Int) (v : B4), (s.2.1 + 1 - x).toNat ≤ n → s.1 ≤ x → (x ≤ s.2.1 → s.2.2 ∣ x - s.1) →
    ∃ k s1, (loopN (stepF C9 (evF C9 8) LO9 9 9 1) k (S16 s t r v g x)).run = some (.exit 2, s1) ∧ Weaker (S15 s t r (an4 v (fo g s t x)) g) s1 := by
  have s0 := F.hs.st0
  have hm : 1 ≤ mx1 s.2.2 ∧ (s.2.2 = 0 → mx1 s.2.2 = 1) ∧ (1 ≤ s.2.2 → mx1 s.2.2 = s.2.2) := by unfold mx1; split <;> omega
  have hst : s.2.2 ≤ 332 := by
    have := F.s1; have := F.s2
    rcases F.hs with ⟨h1, h2⟩ | ⟨h1, h2, h3⟩
    · omega
    · have := Int.le_of_dvd (by omega) h3; omega
  have fin : ∀ (x : Int) (v : B4), ¬ x ≤ s.2.1 → ∃ k s1, (loopN (stepF C9 (evF C9 8) LO9 9 9 1) k (S16 s t r v g x)).run = some (.exit 2, s1) ∧ Weaker (S15 s t r (an4 v (fo g s t x)) g) s1 := by
    intro x v hx
    obtain ⟨⟨e, x1⟩, h1, h2⟩ := path_end (f := fun (q : Ex × St) => (q.1, (q.2.m, q.2.nx, q.2.tm.length, q.2.tm.take 16))) (w16a s t r v g x) (by simp [hx])
    obtain ⟨rfl, h3⟩ := Prod.mk.inj h2
    refine ⟨1, x1, loop_end h1, ?_⟩
    rw [fo_end g s t x (by omega), an4_true]
    exact weak_of 16 h3 rfl
  intro n
  induction n with
  | zero => intro x v hn h1 h2; exact fin x v (by omega)
  | succ n ih =>
    intro x v hn h1 h2
    by_cases hx : x ≤ s.2.1
    · have hd := h2 hx
      have M : Mem s.1 s.2.1 s.2.2 x := ⟨h1, hx, hd⟩
      have b1 := F.s1; have b2 := F.s2
      obtain ⟨v0, v1, v2, v3⟩ := v
      obtain ⟨⟨e, x1⟩, h3, h4⟩ := path_end (f := fun (q : Ex × St) => (q.1, tidyF C9 9 1 q.2)) (w16b s t r (v0, v1, v2, v3) g x v3) (by
        simp only [List.map_cons, List.map_append, A9_snd, List.map_nil]
        rw [K9_eq F.g3, decide_eq_true hx, p20_eq F (by omega)])
      obtain ⟨rfl, h5⟩ := Prod.mk.inj h4
      rw [wr (x := x + mx1 s.2.2) (by omega), cond_and] at h5
      have hnext : x + mx1 s.2.2 ≤ s.2.1 → s.2.2 ∣ x + mx1 s.2.2 - s.1 := by
        intro q
        by_cases z : 1 ≤ s.2.2
        · rw [hm.2.2 z, show x + s.2.2 - s.1 = x - s.1 + s.2.2 by omega]; exact Int.dvd_add hd (Int.dvd_refl _)
        · exfalso
          rcases F.hs with ⟨h1, h2⟩ | ⟨h1, h2, h3⟩ <;> omega
      obtain ⟨k, s1, g1, g2⟩ := ih (x + mx1 s.2.2) (an4 (v0, v1, v2, v3 && mem3 g.2.2.2 x) (fi g t x t.1)) (by omega) (by omega) hnext
      refine ⟨k + 1, s1, loop_next h3 h5 g1, ?_⟩
      have e : an4 (v0, v1, v2, v3) (fo g s t x) = an4 (an4 (v0, v1, v2, v3 && mem3 g.2.2.2 x) (fi g t x t.1)) (fo g s t (x + mx1 s.2.2)) := by
        rw [fo_step g s t x M s0, ← an4_assoc, ← an4_assoc, an4_last]
      rw [e]; exact g2
    · exact fin x v hx
end Go.Proofs.Yteghmmkhfgkdgaa.SX
