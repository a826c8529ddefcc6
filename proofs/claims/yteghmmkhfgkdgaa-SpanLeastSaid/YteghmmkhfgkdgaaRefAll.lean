/- Several texts in one (Orf, Refm, Refn, Refo, Refp, Refq, Refr, Refs, Orl). No condition. -/
import Derived.Test.YteghmmkhfgkdgaaCalc
import Derived.Test.YteghmmkhfgkdgaaQSx12
set_option linter.unusedSimpArgs false
set_option linter.unusedVariables false
namespace Go.Proofs.Yteghmmkhfgkdgaa.SX
open Go Go.Ex Go.RowKit Go.Proofs.YteghmmkhfgkdgaaW.PrintWords Go.Proofs.Yteghmmkhfgkdgaa.QS
noncomputable def rhsV (x0 x1 x2 x3 : Int) : Bool := evv fun _ => warpwrightref25_Has.f x0 x1 x2 x3
noncomputable def rhsB (x0 x1 x2 x3 : Int) : Bool := evb fun _ => warpwrightref25_Has.f x0 x1 x2 x3
noncomputable def o_rhs : Orc := ⟨27, fun | [.agg [.int .i64 x0, .int .i64 x1, .int .i64 x2], .int .i64 x3] => some (rhsB x0 x1 x2 x3, .bool (rhsV x0 x1 x2 x3)) | _ => none⟩
theorem o_rhs_ok : OrcOk Try.prog noG o_rhs := by
  intro args v h
  simp only [o_rhs] at h
  split at h
  · rename_i x0 x1 x2 x3
    obtain ⟨h1, rfl⟩ := Prod.mk.inj (Option.some.inj h)
    obtain ⟨k, hk⟩ := (evb_ev h1).rounds
    exact ⟨_, _, rfl, rfl, fun w _ => warpwrightref25_Has.calls x0 x1 x2 x3 _ w hk⟩
  · cases h
end Go.Proofs.Yteghmmkhfgkdgaa.SX
namespace Go.Proofs.Yteghmmkhfgkdgaa.SX
open Go Go.Ex Go.RowKit Go.Proofs.YteghmmkhfgkdgaaW.PrintWords Go.Proofs.YteghmmkhfgkdgaaW.PrintLast Go.Proofs.YteghmmkhfgkdgaaW.PrintMore Go.Proofs.Yteghmmkhfgkdgaa.SM Go.Proofs.Yteghmmkhfgkdgaa.QS
set_option maxRecDepth 100000

/-! ### Gcd -/
noncomputable def gdV (x0 x1 : Int) : Int := evv fun k => warpwrightref25_Gcd.f k x0 x1
noncomputable def gdB (x0 x1 : Int) : Bool := evb fun k => warpwrightref25_Gcd.f k x0 x1
noncomputable def o_gd : Orc := ⟨21, fun | [.int .i64 x0, .int .i64 x1] => some (gdB x0 x1, .int .i64 (gdV x0 x1)) | _ => none⟩
theorem o_gd_ok : OrcOk Try.prog noG o_gd := by
  intro args v h
  simp only [o_gd] at h
  split at h
  · rename_i x0 x1
    obtain ⟨h1, rfl⟩ := Prod.mk.inj (Option.some.inj h)
    obtain ⟨k, hk⟩ := (evb_ev h1).rounds
    exact ⟨_, _, rfl, rfl, fun w _ => (warpwrightref25_Gcd.calls k x0 x1 _ w hk).mono fun e w' ⟨h1, h2⟩ => ⟨h1, h2.below⟩⟩
  · cases h

/-! ### Loops, round by round -/
def tidyF (C : Cfg) (f : FuncId) (j : Nat) (s : St) : Option St :=
  match (loopsF C f)[j]? with
  | some p => tidy 0 (live (retsF C f) p.1 p.2 0) s
  | none => none
theorem step_congr {C : Cfg} {call : CallF} {LO : Loops} {fuel : Nat} {f : FuncId} {j : Nat} {x y : St} (h : tidyF C f j x = tidyF C f j y) : stepF C call LO fuel f j x = stepF C call LO fuel f j y := by
  unfold tidyF at h
  unfold stepF stepL
  split at h
  · rename_i p hp
    rw [hp]; simp only [h]
  · rename_i hp
    rw [hp]
theorem loopN_congr {b : St → Tree (Ex × St)} {x y : St} (h : b x = b y) : ∀ k, loopN b k x = loopN b k y
  | 0 => rfl
  | k + 1 => by simp only [loopN, h]
theorem loop_next {C : Cfg} {call : CallF} {LO : Loops} {fuel : Nat} {f : FuncId} {j k : Nat} {s0 s1 s2 : St} {r : Ex × St} (h1 : (stepF C call LO fuel f j s0).run = some (.normal, s1)) (h2 : tidyF C f j s1 = tidyF C f j s2)
    (h3 : (loopN (stepF C call LO fuel f j) k s2).run = some r) : (loopN (stepF C call LO fuel f j) (k + 1) s0).run = some r := by
  simp only [loopN, Tree.run_bind, h1, Option.bind_some]
  rw [loopN_congr (step_congr h2)]; exact h3
theorem loop_end {b : St → Tree (Ex × St)} {s0 s1 : St} {i : Nat} (h1 : (b s0).run = some (.exit i, s1)) : (loopN b 1 s0).run = some (.exit i, s1) := by
  simp only [loopN, Tree.run_bind, h1, Option.bind_some]; rfl
theorem weak_put {s s1 : St} {t : Nat} {v : V} (h : Weaker s s1) (hv : getT s1.tm t = some v) : Weaker ⟨setT s.tm t v, s.m, s.nx⟩ s1 := by
  obtain ⟨h1, h2, h3, h4⟩ := h
  have hl : ∀ (tm : Tm) (t : Nat) (v : V), (setT tm t v).length = tm.length := by
    intro tm
    induction tm with
    | nil => intro t v; simp [setT]
    | cons o tm ih => intro t v; cases t <;> simp [setT, ih]
  refine ⟨h1, h2, by rw [hl]; exact h3, ?_⟩
  intro t' v' h'
  simp only at h'
  rw [getT_setT] at h'
  split at h'
  · rename_i q
    obtain ⟨rfl, _⟩ := q
    rw [hv]; exact h'
  · exact h4 t' v' h'
def geti (s : St) (t : Nat) : Int := match getT s.tm t with | some (.int _ n) => n | _ => 0

/-! ### The product modulo m -/
def S56 (a b m out : Int) : St := ⟨[some (.int .i64 a), some (.int .i64 b), some (.int .i64 m), none, none, none, none, some (.int .i64 out)] ++ noneL 18, [], 0⟩
def Fi56 (x : Int) : St := ⟨setT (noneL 26) 7 (.int .i64 x), [], 0⟩
def Q56 (a b m out : Int) : Prop := 0 ≤ a ∧ a < m ∧ 0 ≤ b ∧ b ≤ 9223372036854775807 ∧ 0 ≤ out ∧ out < m ∧ m ≤ 1099511627776
def P56 (x : St) : Prop := ∃ a b m out, x = S56 a b m out ∧ Q56 a b m out
noncomputable def LO56 : Loops := fun k s => bif Nat.beq k 2 then some (cdec (P56 s), .exit 0, Fi56 ((geti s 7 + geti s 0 * geti s 1) % geti s 2)) else none
theorem w56a (a b m out : Int) : (path (stepF CM (evF CM 9) LO56 9 56 0 (S56 a b m out)) [(2, false)]).map (fun r => (r.1, (r.2.1, getT r.2.2.tm 7, (r.2.2.m, r.2.2.nx, r.2.2.tm.length, r.2.2.tm.take 0)))) = some ([decide (b > 0)], (.exit 0, some (.int .i64 out), ([], 0, 26, []))) := by kernel_rfl
theorem w56b (a b m out : Int) : (path (stepF CM (evF CM 9) LO56 9 56 0 (S56 a b m out)) [(2, true), (5, true), (6, false), (6, false)]).map (fun r => (r.1, (r.2.1, tidyF CM 56 0 r.2.2))) =
  some ([decide (b > 0), Int.tmod b 2 == 1, m == 0, m == 0], (.normal, tidyF CM 56 0 (S56 (Int.tmod (IntKind.i64.wrap (a + a)) m) (IntKind.i64.wrap (Int.tdiv b 2)) m (Int.tmod (IntKind.i64.wrap (out + a)) m)))) := by kernel_rfl
theorem w56c (a b m out : Int) : (path (stepF CM (evF CM 9) LO56 9 56 0 (S56 a b m out)) [(2, true), (5, false), (6, false)]).map (fun r => (r.1, (r.2.1, tidyF CM 56 0 r.2.2))) =
  some ([decide (b > 0), Int.tmod b 2 == 1, m == 0], (.normal, tidyF CM 56 0 (S56 (Int.tmod (IntKind.i64.wrap (a + a)) m) (IntKind.i64.wrap (Int.tdiv b 2)) m out))) := by kernel_rfl
theorem wr' {x : Int} (h : -9223372036854775808 ≤ x ∧ x ≤ 9223372036854775807) : IntKind.i64.wrap x = x := by rw [IntKind.wrap_i64]; omega
theorem mm_loop {m : Int} : ∀ (n : Nat) (a b out : Int), b.toNat = n → Q56 a b m out → ∃ k s1, (loopN (stepF CM (evF CM 9) LO56 9 56 0) k (S56 a b m out)).run = some (.exit 0, s1) ∧ Weaker (Fi56 ((out + a * b) % m)) s1 := by
  intro n
  induction n using Nat.strongRecOn with
  | _ n ih =>
    intro a b out hb hq
    obtain ⟨a0, a1, b0, b1, o0, o1, m2⟩ := hq
    by_cases c : b > 0
    · have td : Int.tdiv b 2 = b / 2 := Int.tdiv_eq_ediv_of_nonneg b0
      have tm : Int.tmod b 2 = b % 2 := Int.tmod_eq_emod_of_nonneg b0
      have ea : Int.tmod (IntKind.i64.wrap (a + a)) m = (a + a) % m := by rw [wr' (by omega)]; exact Int.tmod_eq_emod_of_nonneg (by omega)
      have eo : Int.tmod (IntKind.i64.wrap (out + a)) m = (out + a) % m := by rw [wr' (by omega)]; exact Int.tmod_eq_emod_of_nonneg (by omega)
      have eb : IntKind.i64.wrap (Int.tdiv b 2) = b / 2 := by rw [td]; exact wr' (by omega)
      have f1 := Int.emod_nonneg (a + a) (show m ≠ 0 by omega)
      have f2 := Int.emod_lt_of_pos (a + a) (show 0 < m by omega)
      have f3 := Int.emod_nonneg (out + a) (show m ≠ 0 by omega)
      have f4 := Int.emod_lt_of_pos (out + a) (show 0 < m by omega)
      by_cases c2 : b % 2 = 1
      · obtain ⟨⟨e, x1⟩, h1, h2⟩ := path_end (f := fun (x : Ex × St) => (x.1, tidyF CM 56 0 x.2)) (w56b a b m out) (by
          rw [tm]
          simp only [List.map_cons, List.map_nil, List.cons.injEq, and_true, decide_eq_true_eq, beq_iff_eq, beq_eq_false_iff_ne]
          exact ⟨c, c2, by omega, by omega⟩)
        obtain ⟨rfl, h3⟩ := Prod.mk.inj h2
        rw [ea, eo, eb] at h3
        obtain ⟨k, s1, g1, g2⟩ := ih (b / 2).toNat (by omega) ((a + a) % m) (b / 2) ((out + a) % m) rfl ⟨f1, f2, by omega, by omega, f3, f4, m2⟩
        refine ⟨k + 1, s1, loop_next h1 h3 g1, ?_⟩
        have : ((out + a) % m + (a + a) % m * (b / 2)) % m = (out + a * b) % m := by
          have e1 : (a + a) % m * (b / 2) % m = ((a + a) * (b / 2)) % m := by rw [Int.mul_emod, Int.emod_emod_of_dvd _ (Int.dvd_refl m), ← Int.mul_emod]
          rw [Int.add_emod, e1, Int.emod_emod_of_dvd _ (Int.dvd_refl m), ← Int.add_emod]
          congr 1
          have e2 : b = 2 * (b / 2) + 1 := by omega
          have e3 : a * b = a * (2 * (b / 2) + 1) := by rw [← e2]
          rw [e3, Int.mul_add, Int.mul_one, ← Int.mul_assoc, show a * 2 = a + a by omega]; omega
        rw [this] at g2; exact g2
      · obtain ⟨⟨e, x1⟩, h1, h2⟩ := path_end (f := fun (x : Ex × St) => (x.1, tidyF CM 56 0 x.2)) (w56c a b m out) (by
          rw [tm]
          simp only [List.map_cons, List.map_nil, List.cons.injEq, and_true, decide_eq_true_eq, beq_eq_false_iff_ne]
          exact ⟨c, c2, by omega⟩)
        obtain ⟨rfl, h3⟩ := Prod.mk.inj h2
        rw [ea, eb] at h3
        obtain ⟨k, s1, g1, g2⟩ := ih (b / 2).toNat (by omega) ((a + a) % m) (b / 2) out rfl ⟨f1, f2, by omega, by omega, o0, o1, m2⟩
        refine ⟨k + 1, s1, loop_next h1 h3 g1, ?_⟩
        have : (out + (a + a) % m * (b / 2)) % m = (out + a * b) % m := by
          have e1 : (a + a) % m * (b / 2) % m = ((a + a) * (b / 2)) % m := by rw [Int.mul_emod, Int.emod_emod_of_dvd _ (Int.dvd_refl m), ← Int.mul_emod]
          rw [Int.add_emod, e1, ← Int.add_emod]
          congr 1
          have e2 : b = 2 * (b / 2) := by omega
          have e3 : a * b = a * (2 * (b / 2)) := by rw [← e2]
          rw [e3, ← Int.mul_assoc, show a * 2 = a + a by omega]
        rw [this] at g2; exact g2
    · obtain ⟨⟨e, x1⟩, h1, h2⟩ := path_end (f := fun (x : Ex × St) => (x.1, getT x.2.tm 7, (x.2.m, x.2.nx, x.2.tm.length, x.2.tm.take 0))) (w56a a b m out) (by simp [c])
      obtain ⟨rfl, h3⟩ := Prod.mk.inj h2
      obtain ⟨h4, h5⟩ := Prod.mk.inj h3
      refine ⟨1, x1, loop_end h1, ?_⟩
      have : (out + a * b) % m = out := by rw [show b = 0 by omega, Int.mul_zero, Int.add_zero]; exact Int.emod_eq_of_lt o0 o1
      rw [this]
      exact weak_put (s := ⟨noneL 26, [], 0⟩) (weak_of 0 h5 rfl) h4
/-! ### The inverse modulo m -/
def S57 (m r s u v : Int) : St := ⟨[none, some (.int .i64 m), none, none, none, some (.int .i64 r), some (.int .i64 s), some (.int .i64 u), some (.int .i64 v)] ++ noneL 29, [], 0⟩
def Fi57 (m u : Int) : St := ⟨setT (setT (noneL 38) 1 (.int .i64 m)) 7 (.int .i64 u), [], 0⟩
/-- The rounds of Euclid's algorithm, with one coefficient. -/
def invL : Nat → Int → Int → Int → Int → Int
  | 0, _, _, u, _ => u
  | n + 1, r, s, u, v => if 0 < s then invL n s (r - r / s * s) v (u - r / s * v) else u
def J57 (m r s u v : Int) : Prop := 1 ≤ m ∧ m ≤ 1099511627776 ∧ 0 < r ∧ r ≤ m ∧ 0 ≤ s ∧ s ≤ m ∧ -m ≤ u ∧ u ≤ m ∧ ((u ≤ 0 ∧ 0 ≤ v ∧ v * r - u * s = m) ∨ (0 ≤ u ∧ v ≤ 0 ∧ u * s - v * r = m))
def P57 (x : St) : Prop := ∃ m r s u v, x = S57 m r s u v ∧ J57 m r s u v
noncomputable def LO57 : Loops := fun k s => bif Nat.beq k 3 then some (cdec (P57 s), .exit 0, Fi57 (geti s 1) (invL ((geti s 6).toNat + 1) (geti s 5) (geti s 6) (geti s 7) (geti s 8))) else none
theorem w57a (m r s u v : Int) : (path (stepF CM (evF CM 9) LO57 9 57 0 (S57 m r s u v)) [(2, false)]).map (fun r => (r.1, (r.2.1, getT r.2.2.tm 1, getT r.2.2.tm 7, (r.2.2.m, r.2.2.nx, r.2.2.tm.length, r.2.2.tm.take 0)))) = some ([decide (s > 0)], (.exit 0, some (.int .i64 m), some (.int .i64 u), ([], 0, 38, []))) := by kernel_rfl
theorem w57b (m r s u v : Int) : (path (stepF CM (evF CM 9) LO57 9 57 0 (S57 m r s u v)) [(2, true), (4, false)]).map (fun r => (r.1, (r.2.1, tidyF CM 57 0 r.2.2))) =
  some ([decide (s > 0), s == 0], (.normal, tidyF CM 57 0 (S57 m s (IntKind.i64.wrap (r - IntKind.i64.wrap (IntKind.i64.wrap (Int.tdiv r s) * s))) v (IntKind.i64.wrap (u - IntKind.i64.wrap (IntKind.i64.wrap (Int.tdiv r s) * v)))))) := by kernel_rfl
theorem mul_le_of {v r m : Int} (hv : 0 ≤ v) (hr : 0 < r) (h : v * r ≤ m) : v ≤ m := by
  have := Int.mul_le_mul_of_nonneg_left (show 1 ≤ r by omega) hv
  omega
theorem J57.next {m r s u v : Int} (h : J57 m r s u v) (hs : 0 < s) : J57 m s (r - r / s * s) v (u - r / s * v) ∧ r - r / s * s < s ∧ 0 ≤ r / s ∧ r / s ≤ m ∧ -m ≤ r / s * v ∧ r / s * v ≤ m ∧ -m ≤ v ∧ v ≤ m ∧ 0 ≤ r / s * s ∧ r / s * s ≤ m := by
  obtain ⟨m1, m2, r0, r1, s0, s1, u1, u2, hc⟩ := h
  have e1 := Int.emod_add_mul_ediv r s
  have e2 := Int.emod_nonneg r (show s ≠ 0 by omega)
  have e3 := Int.emod_lt_of_pos r hs
  have q0 : 0 ≤ r / s := Int.ediv_nonneg (by omega) (by omega)
  have q1 : r / s ≤ r := Int.ediv_le_self s (by omega)
  have e4 : s * (r / s) = r / s * s := Int.mul_comm _ _
  have hq : 0 ≤ r / s * s := Int.mul_nonneg q0 (by omega)
  generalize hQ : r / s = q at *
  have key : v * (r - q * s) - (u - q * v) * s = v * r - u * s := by
    rw [Int.mul_sub, Int.sub_mul]
    have : v * (q * s) = q * v * s := by rw [← Int.mul_assoc, Int.mul_comm v q]
    omega
  rcases hc with ⟨c1, c2, c3⟩ | ⟨c1, c2, c3⟩
  · have us : u * s ≤ 0 := Int.mul_nonpos_of_nonpos_of_nonneg c1 s0
    have vr : v * r ≤ m := by omega
    have vm := mul_le_of c2 r0 vr
    have qv0 : 0 ≤ q * v := Int.mul_nonneg q0 c2
    have qv1 : q * v ≤ v * r := by rw [Int.mul_comm]; exact Int.mul_le_mul_of_nonneg_left q1 c2
    refine ⟨⟨m1, m2, hs, s1, by omega, by omega, by omega, by omega, .inr ⟨c2, by omega, by omega⟩⟩, by omega, q0, by omega, by omega, by omega, by omega, by omega, hq, by omega⟩
  · have us : 0 ≤ u * s := Int.mul_nonneg c1 s0
    have vr : (-v) * r ≤ m := by rw [Int.neg_mul]; omega
    have vm := mul_le_of (show 0 ≤ -v by omega) r0 vr
    have qv0 : 0 ≤ q * (-v) := Int.mul_nonneg q0 (by omega)
    have qv1 : q * (-v) ≤ (-v) * r := by rw [Int.mul_comm]; exact Int.mul_le_mul_of_nonneg_left q1 (by omega)
    rw [Int.mul_neg] at qv0 qv1
    rw [Int.neg_mul] at vr qv1
    refine ⟨⟨m1, m2, hs, s1, by omega, by omega, by omega, by omega, .inl ⟨c2, by omega, by omega⟩⟩, by omega, q0, by omega, by omega, by omega, by omega, by omega, hq, by omega⟩
theorem iv_loop {m : Int} : ∀ (n : Nat) (r s u v : Int), s.toNat < n → J57 m r s u v → ∃ k s1, (loopN (stepF CM (evF CM 9) LO57 9 57 0) k (S57 m r s u v)).run = some (.exit 0, s1) ∧ Weaker (Fi57 m (invL n r s u v)) s1 := by
  intro n
  induction n with
  | zero => intro r s u v h; omega
  | succ n ih =>
    intro r s u v hn hj
    by_cases c : s > 0
    · obtain ⟨j1, j2, q0, q1, q2, q3, v1, v2, s1, s2⟩ := hj.next c
      obtain ⟨m1, m2, r0, r1, s0, s1', u1, u2, hc⟩ := hj
      obtain ⟨⟨e, x1⟩, h1, h2⟩ := path_end (f := fun (x : Ex × St) => (x.1, tidyF CM 57 0 x.2)) (w57b m r s u v) (by
        simp only [List.map_cons, List.map_nil, List.cons.injEq, and_true, decide_eq_true_eq, beq_eq_false_iff_ne]
        exact ⟨c, by omega⟩)
      obtain ⟨rfl, h3⟩ := Prod.mk.inj h2
      have td : Int.tdiv r s = r / s := Int.tdiv_eq_ediv_of_nonneg (by omega)
      rw [td, wr' (x := r / s) (by omega), wr' (x := r / s * s) (by omega), wr' (x := r / s * v) (by omega), wr' (x := r - r / s * s) (by omega), wr' (x := u - r / s * v) (by omega)] at h3
      obtain ⟨k, s1, g1, g2⟩ := ih s (r - r / s * s) v (u - r / s * v) (by omega) j1
      refine ⟨k + 1, s1, loop_next h1 h3 g1, ?_⟩
      have : invL (n + 1) r s u v = invL n s (r - r / s * s) v (u - r / s * v) := by simp only [invL]; rw [if_pos c]
      rw [this]; exact g2
    · obtain ⟨⟨e, x1⟩, h1, h2⟩ := path_end (f := fun (x : Ex × St) => (x.1, getT x.2.tm 1, getT x.2.tm 7, (x.2.m, x.2.nx, x.2.tm.length, x.2.tm.take 0))) (w57a m r s u v) (by simp [c])
      obtain ⟨rfl, h3⟩ := Prod.mk.inj h2
      obtain ⟨h4, h5⟩ := Prod.mk.inj h3
      obtain ⟨h6, h7⟩ := Prod.mk.inj h5
      refine ⟨1, x1, loop_end h1, ?_⟩
      have : invL (n + 1) r s u v = u := by simp only [invL]; rw [if_neg c]
      rw [this]
      exact weak_put (s := ⟨setT (noneL 38) 1 (.int .i64 m), [], 0⟩) (weak_put (s := ⟨noneL 38, [], 0⟩) (weak_of 0 h7 rfl) h4) h6
/-- What the inverse is. -/
theorem invL_spec {m a : Int} (ha : Nat.gcd a.natAbs m.natAbs = 1) : ∀ (n : Nat) (r s u v : Int), s.toNat < n → J57 m r s u v → m ∣ u * a - r → m ∣ v * a - s → (∀ x : Int, x ∣ r → x ∣ s → x ∣ m ∧ x ∣ a) → m ∣ invL n r s u v * a - 1 ∧ -m ≤ invL n r s u v ∧ invL n r s u v ≤ m := by
  intro n
  induction n with
  | zero => intro r s u v h; omega
  | succ n ih =>
    intro r s u v hn hj d1 d2 hg
    by_cases c : 0 < s
    · obtain ⟨j1, j2, _⟩ := hj.next c
      simp only [invL]; rw [if_pos c]
      refine ih _ _ _ _ (by have := hj.2.2.2.2.1; omega) j1 d2 ?_ ?_
      · obtain ⟨x, hx⟩ := d1
        obtain ⟨y, hy⟩ := d2
        refine ⟨x - r / s * y, ?_⟩
        rw [Int.mul_sub, Int.sub_mul]
        have e1 : r / s * v * a = r / s * (v * a) := Int.mul_assoc _ _ _
        have e2 : r / s * (v * a) = r / s * (m * y) + r / s * s := by rw [← Int.mul_add]; congr 1; omega
        have e3 : m * (r / s * y) = r / s * (m * y) := Int.mul_left_comm _ _ _
        omega
      · intro x h1 h2
        refine hg x ?_ h1
        have := Int.dvd_add h2 (Int.dvd_trans h1 (Int.dvd_mul_left (r / s) s))
        rwa [show r - r / s * s + r / s * s = r by omega] at this
    · simp only [invL]; rw [if_neg c]
      obtain ⟨m1, m2, r0, r1, s0, s1, u1, u2, _⟩ := hj
      have s00 : s = 0 := by omega
      obtain ⟨g1, g2⟩ := hg r (Int.dvd_refl r) (by rw [s00]; exact Int.dvd_zero r)
      have g3 : r.natAbs ∣ Nat.gcd a.natAbs m.natAbs := Nat.dvd_gcd (Int.natAbs_dvd_natAbs.2 g2) (Int.natAbs_dvd_natAbs.2 g1)
      rw [ha] at g3
      have := Nat.le_of_dvd (by omega) g3
      have r11 : r = 1 := by omega
      rw [r11] at d1
      exact ⟨d1, u1, u2⟩
noncomputable def mmV (a b m : Int) : Int := a * b % m
noncomputable def mmB (a b m : Int) : Bool := cdec (Q56 a b m 0)
noncomputable def o_mm : Orc := ⟨56, fun | [.int .i64 x0, .int .i64 x1, .int .i64 x2] => some (mmB x0 x1 x2, .int .i64 (mmV x0 x1 x2)) | _ => none⟩
noncomputable def ivV (a m : Int) : Int := Int.tmod (IntKind.i64.wrap (Int.tmod (invL ((Int.tmod a m).toNat + 1) m (Int.tmod a m) 0 1) m + m)) m
noncomputable def ivB (a m : Int) : Bool := cdec (0 ≤ a ∧ 1 ≤ m ∧ m ≤ 1099511627776)
noncomputable def o_iv : Orc := ⟨57, fun | [.int .i64 x0, .int .i64 x1] => some (ivB x0 x1, .int .i64 (ivV x0 x1)) | _ => none⟩
end Go.Proofs.Yteghmmkhfgkdgaa.SX
namespace Go.Proofs.Yteghmmkhfgkdgaa.SX
open Go Go.Ex Go.RowKit Go.Proofs.YteghmmkhfgkdgaaW.PrintWords Go.Proofs.YteghmmkhfgkdgaaW.PrintLast Go.Proofs.YteghmmkhfgkdgaaW.PrintMore Go.Proofs.Yteghmmkhfgkdgaa.SM Go.Proofs.Yteghmmkhfgkdgaa.QS
set_option maxRecDepth 100000

theorem w56 (a b m : Int) : path (evFL CM (evF CM 9) LO56 9 56 [.int .i64 a, .int .i64 b, .int .i64 m] [] 0) [(2, true)] = some ([cdec (P56 (S56 a b m 0))], (.int .i64 ((0 + a * b) % m), [], 0)) := by kernel_rfl
theorem k56 : (loopsF CM 56).length = 1 ∧ keyF CM 56 0 = 2 := ⟨by kernel_rfl, by kernel_rfl⟩
theorem k57 : (loopsF CM 57).length = 1 ∧ keyF CM 57 0 = 3 := ⟨by kernel_rfl, by kernel_rfl⟩
theorem ck56 : (cutKeysF CM 56).all (fun k => Nat.blt 999 k) = true := by kernel_rfl
theorem ck57 : (cutKeysF CM 57).all (fun k => Nat.blt 999 k) = true := by kernel_rfl
theorem no_cut {l : List Nat} (h : l.all (fun k => Nat.blt 999 k) = true) {j k i : Nat} (hk : l[j]? = some k) (hi : i < 1000) : Nat.beq k i = false := by
  rw [List.all_eq_true] at h
  have := h k (List.mem_of_getElem? hk)
  have h2 : 999 < k := by simpa using this
  cases hb : Nat.beq k i with
  | false => rfl
  | true => have := Nat.eq_of_beq_eq_true hb; omega
theorem o_mm_ok : OrcOk Try.prog noG o_mm := by
  intro args v h
  simp only [o_mm] at h
  split at h
  · rename_i a b m
    obtain ⟨h1, rfl⟩ := Prod.mk.inj (Option.some.inj h)
    have hq := of_cdec h1
    refine ⟨_, _, rfl, rfl, fun w _ => ?_⟩
    have hr : (evFL CM (evF CM 9) LO56 9 56 [.int .i64 a, .int .i64 b, .int .i64 m] [] 0).run = some (.int .i64 ((0 + a * b) % m), [], 0) :=
      path_run (l := [(2, true)]) ((w56 a b m).trans (by rw [cdec_true ⟨a, b, m, 0, rfl, hq⟩]; rfl))
    rw [Int.zero_add] at hr
    refine evFL_calls CM_ok hr ?_ ?_ rfl rfl (fun _ _ _ h => by cases h)
    · intro j hj s0 e s' h
      rw [k56.1] at hj
      obtain rfl : j = 0 := by omega
      rw [k56.2] at h
      obtain ⟨g1, g2⟩ := Prod.mk.inj (Option.some.inj h)
      obtain ⟨rfl, rfl⟩ := Prod.mk.inj g2
      obtain ⟨a', b', m', out, rfl, hq'⟩ := of_cdec g1
      exact mm_loop _ a' b' out rfl hq'
    · intro j k hk s0 e s' h
      unfold LO56 at h
      rw [no_cut ck56 hk (by omega)] at h
      cases h
  · cases h
theorem w57 (a m : Int) : path (evFL CM (evF CM 9) LO57 9 57 [.int .i64 a, .int .i64 m] [] 0) [(5, false), (5, true), (3, false), (4, false)] = some ([m == 0, cdec (P57 (S57 m m (Int.tmod a m) 0 1)), m == 0, m == 0], (.int .i64 (ivV a m), [], 0)) := by kernel_rfl
theorem o_iv_ok : OrcOk Try.prog noG o_iv := by
  intro args v h
  simp only [o_iv] at h
  split at h
  · rename_i a m
    obtain ⟨h1, rfl⟩ := Prod.mk.inj (Option.some.inj h)
    obtain ⟨a0, m1, m2⟩ := of_cdec h1
    have t1 : Int.tmod a m = a % m := Int.tmod_eq_emod_of_nonneg a0
    have t2 := Int.emod_nonneg a (show m ≠ 0 by omega)
    have t3 := Int.emod_lt_of_pos a (show 0 < m by omega)
    refine ⟨_, _, rfl, rfl, fun w _ => ?_⟩
    have hr : (evFL CM (evF CM 9) LO57 9 57 [.int .i64 a, .int .i64 m] [] 0).run = some (.int .i64 (ivV a m), [], 0) := by
      refine path_run (l := [(5, false), (5, true), (3, false), (4, false)]) ((w57 a m).trans ?_)
      rw [cdec_true ⟨m, m, Int.tmod a m, 0, 1, rfl, m1, m2, by omega, by omega, by omega, by omega, by omega, by omega, .inl ⟨by omega, by omega, by omega⟩⟩]
      have : (m == 0) = false := by simp; omega
      rw [this]; rfl
    refine evFL_calls CM_ok hr ?_ ?_ rfl rfl (fun _ _ _ h => by cases h)
    · intro j hj s0 e s' h
      rw [k57.1] at hj
      obtain rfl : j = 0 := by omega
      rw [k57.2] at h
      obtain ⟨g1, g2⟩ := Prod.mk.inj (Option.some.inj h)
      obtain ⟨rfl, rfl⟩ := Prod.mk.inj g2
      obtain ⟨m', r, s, u, v, rfl, hj'⟩ := of_cdec g1
      exact iv_loop _ r s u v (by show s.toNat < s.toNat + 1; omega) hj'
    · intro j k hk s0 e s' h
      unfold LO57 at h
      rw [no_cut ck57 hk (by omega)] at h
      cases h
  · cases h
/-! ### Made -/
def mdS (lo hi st : Int) : Int := if lo = hi then 0 else st
def o_ma : Orc := ⟨41, fun | [.int .i64 x0, .int .i64 x1, .int .i64 x2] => some (true, .agg [.int .i64 x0, .int .i64 x1, .int .i64 (mdS x0 x1 x2)]) | _ => none⟩
theorem o_ma_ok : OrcOk Try.prog noG o_ma := by
  intro args v h
  simp only [o_ma] at h
  split at h
  · rename_i x0 x1 x2
    obtain ⟨_, rfl⟩ := Prod.mk.inj (Option.some.inj h)
    refine ⟨_, _, rfl, rfl, fun w _ => warpwrightref25_Made.calls x0 x1 x2 _ _ _ w ?_⟩
    unfold warpwrightref25_Made.f mdS
    split
    · rename_i q; rw [q]
    · rfl
  · cases h
/-! ### times -/
noncomputable def tiB (a b : Int) : Bool := cdec (Near a ∧ -9223372036854775808 ≤ b ∧ b ≤ 9223372036854775807)
def tiV (a b : Int) : Int := if Near (a * b) then a * b else 0
def nrV (a b : Int) : Bool := decide (Near (a * b))
noncomputable def o_ti : Orc := ⟨50, fun | [.int .i64 x0, .int .i64 x1] => some (tiB x0 x1, .tuple [.int .i64 (tiV x0 x1), .bool (nrV x0 x1)]) | _ => none⟩
noncomputable def CT : Cfg := mkC Try.prog noG eqT []
theorem CT_ok : CT.Ok := mkC_ok mixed (names_of names) eqs (by intro o ho; cases ho)
theorem e50 (a b : Int) : (evF CT 9 50 [.int .i64 a, .int .i64 b] [] 0).run = 
  bif a != 0 then 
  bif decide (b < 0) then 
  bif decide (a < 0) then 
  bif IntKind.i64.wrap (0 - (if (-4611686018427387904 : Int) > a then -4611686018427387904 else a)) == 0 then none else 
  bif decide (IntKind.i64.wrap (0 - (if (-4611686018427387904 : Int) > b then -4611686018427387904 else b)) > IntKind.i64.wrap (Int.tdiv 1099511627776 (IntKind.i64.wrap (0 - (if (-4611686018427387904 : Int) > a then -4611686018427387904 else a))))) then some (V.tuple [V.int IntKind.i64 0, V.bool false], [], 0) else some (V.tuple [V.int IntKind.i64 (IntKind.i64.wrap (a * b)), V.bool true], [], 0) else 
  bif (if (4611686018427387904 : Int) < a then 4611686018427387904 else a) == 0 then none else 
  bif decide (IntKind.i64.wrap (0 - (if (-4611686018427387904 : Int) > b then -4611686018427387904 else b)) > IntKind.i64.wrap (Int.tdiv 1099511627776 (if (4611686018427387904 : Int) < a then 4611686018427387904 else a))) then some (V.tuple [V.int IntKind.i64 0, V.bool false], [], 0) else some (V.tuple [V.int IntKind.i64 (IntKind.i64.wrap (a * b)), V.bool true], [], 0) else 
  bif decide (a < 0) then 
  bif IntKind.i64.wrap (0 - (if (-4611686018427387904 : Int) > a then -4611686018427387904 else a)) == 0 then none else 
  bif decide ((if (4611686018427387904 : Int) < b then 4611686018427387904 else b) > IntKind.i64.wrap (Int.tdiv 1099511627776 (IntKind.i64.wrap (0 - (if (-4611686018427387904 : Int) > a then -4611686018427387904 else a))))) then some (V.tuple [V.int IntKind.i64 0, V.bool false], [], 0) else some (V.tuple [V.int IntKind.i64 (IntKind.i64.wrap (a * b)), V.bool true], [], 0) else 
  bif (if (4611686018427387904 : Int) < a then 4611686018427387904 else a) == 0 then none else 
  bif decide ((if (4611686018427387904 : Int) < b then 4611686018427387904 else b) > IntKind.i64.wrap (Int.tdiv 1099511627776 (if (4611686018427387904 : Int) < a then 4611686018427387904 else a))) then some (V.tuple [V.int IntKind.i64 0, V.bool false], [], 0) else some (V.tuple [V.int IntKind.i64 (IntKind.i64.wrap (a * b)), V.bool true], [], 0) else some (V.tuple [V.int IntKind.i64 (IntKind.i64.wrap (a * b)), V.bool true], [], 0) := by kernel_rfl
theorem times_core {a b A B : Int} (hA : A = (a.natAbs : Int)) (hB : B = if 4611686018427387904 < (b.natAbs : Int) then 4611686018427387904 else (b.natAbs : Int)) (a0 : a ≠ 0) (ha : Near a) (hb : -9223372036854775808 ≤ b ∧ b ≤ 9223372036854775807) :
    (bif A == 0 then none else bif decide (B > IntKind.i64.wrap (Int.tdiv 1099511627776 A)) then some (V.tuple [V.int IntKind.i64 0, V.bool false], ([] : Mem), 0) else some (V.tuple [V.int IntKind.i64 (IntKind.i64.wrap (a * b)), V.bool true], [], 0)) =
      some (.tuple [.int .i64 (if Near (a * b) then a * b else 0), .bool (decide (Near (a * b)))], [], 0) := by
  obtain ⟨a1, a2⟩ := ha
  have A1 : 1 ≤ A := by omega
  have A2 : A ≤ 1099511627776 := by omega
  have hz : (A == 0) = false := by simp; omega
  have td : Int.tdiv 1099511627776 A = 1099511627776 / A := Int.tdiv_eq_ediv_of_nonneg (by omega)
  have q0 : 0 ≤ 1099511627776 / A := Int.ediv_nonneg (by omega) (by omega)
  have q1 : 1099511627776 / A ≤ 1099511627776 := Int.ediv_le_self A (by omega)
  rw [hz, td, wr' (by omega), cond_false]
  have e : A * (b.natAbs : Int) = ((a * b).natAbs : Int) := by rw [hA, Int.natAbs_mul]; rfl
  have e' : A * (b.natAbs : Int) = (b.natAbs : Int) * A := Int.mul_comm _ _
  by_cases c : (b.natAbs : Int) ≤ 1099511627776 / A
  · have h1 : (b.natAbs : Int) * A ≤ 1099511627776 := (Int.le_ediv_iff_mul_le (by omega)).1 c
    have hN : Near (a * b) := by unfold Near; omega
    have hB' : B = (b.natAbs : Int) := by rw [hB, if_neg (by omega)]
    have hc : decide (B > 1099511627776 / A) = false := decide_eq_false (by omega)
    rw [hc, cond_false, if_pos hN, decide_eq_true hN, wr' (by unfold Near at hN; omega)]
  · have h1 : 1099511627776 < (b.natAbs : Int) * A := by
      rcases Int.lt_or_le 1099511627776 ((b.natAbs : Int) * A) with h | h
      · exact h
      · exact absurd ((Int.le_ediv_iff_mul_le (by omega)).2 h) c
    have hN : ¬ Near (a * b) := by unfold Near; omega
    have hc : decide (B > 1099511627776 / A) = true := decide_eq_true (by rw [hB]; split <;> omega)
    rw [hc, cond_true, if_neg hN, decide_eq_false hN]
theorem e50' {a b : Int} (ha : Near a) (hb : -9223372036854775808 ≤ b ∧ b ≤ 9223372036854775807) : (evF CT 9 50 [.int .i64 a, .int .i64 b] [] 0).run = some (.tuple [.int .i64 (if Near (a * b) then a * b else 0), .bool (decide (Near (a * b)))], [], 0) := by
  rw [e50]
  have ha' := ha
  obtain ⟨a1, a2⟩ := ha
  by_cases a0 : a = 0
  · subst a0
    have hN : Near (0 * b) := by rw [Int.zero_mul]; exact ⟨by omega, by omega⟩
    rw [if_pos hN, decide_eq_true hN]
    simp [IntKind.wrap_i64]
  · have h0 : (a != 0) = true := by simpa using a0
    rw [h0, cond_true]
    have n1 : ∀ x : Int, -9223372036854775808 ≤ x → x < 0 → IntKind.i64.wrap (0 - (if (-4611686018427387904 : Int) > x then -4611686018427387904 else x)) = if 4611686018427387904 < (x.natAbs : Int) then 4611686018427387904 else (x.natAbs : Int) := by
      intro x h1 h2
      rw [wr' (by split <;> omega)]
      split <;> split <;> omega
    have p1 : ∀ x : Int, 0 ≤ x → (if (4611686018427387904 : Int) < x then 4611686018427387904 else x) = if 4611686018427387904 < (x.natAbs : Int) then 4611686018427387904 else (x.natAbs : Int) := by
      intro x h1
      split <;> split <;> omega
    by_cases cb : b < 0 <;> by_cases ca : a < 0
    · rw [decide_eq_true cb, decide_eq_true ca]
      simp only [cond_true, cond_false]
      exact times_core (by rw [n1 a (by omega) ca, if_neg (by omega)]) (n1 b hb.1 cb) a0 ha' hb
    · rw [decide_eq_true cb, decide_eq_false ca]
      simp only [cond_true, cond_false]
      exact times_core (by rw [p1 a (by omega), if_neg (by omega)]) (n1 b hb.1 cb) a0 ha' hb
    · rw [decide_eq_false cb, decide_eq_true ca]
      simp only [cond_true, cond_false]
      exact times_core (by rw [n1 a (by omega) ca, if_neg (by omega)]) (p1 b (by omega)) a0 ha' hb
    · rw [decide_eq_false cb, decide_eq_false ca]
      simp only [cond_true, cond_false]
      exact times_core (by rw [p1 a (by omega), if_neg (by omega)]) (p1 b (by omega)) a0 ha' hb
theorem o_ti_ok : OrcOk Try.prog noG o_ti := by
  intro args v h
  simp only [o_ti] at h
  split at h
  · rename_i a b
    obtain ⟨h1, rfl⟩ := Prod.mk.inj (Option.some.inj h)
    have hq := of_cdec h1
    exact ⟨_, _, rfl, rfl, fun w hw => evF_calls CT_ok (e50' hq.1 hq.2) rfl rfl hw⟩
  · cases h
noncomputable def CR : Cfg := mkC Try.prog noG eqT [o_gd, o_mm, o_iv, o_rhs, o_ma, o_ti]
theorem CR_ok : CR.Ok := mkC_ok mixed (names_of names) eqs (by
  intro o ho
  simp only [List.mem_cons, List.not_mem_nil, or_false] at ho
  rcases ho with rfl | rfl | rfl | rfl | rfl | rfl
  · exact o_gd_ok
  · exact o_mm_ok
  · exact o_iv_ok
  · exact o_rhs_ok
  · exact o_ma_ok
  · exact o_ti_ok)
end Go.Proofs.Yteghmmkhfgkdgaa.SX
namespace Go.Proofs.Yteghmmkhfgkdgaa.SX
open Go Go.Ex Go.RowKit Go.Proofs.YteghmmkhfgkdgaaW.PrintWords Go.Proofs.YteghmmkhfgkdgaaW.PrintLast Go.Proofs.YteghmmkhfgkdgaaW.PrintMore Go.Proofs.Yteghmmkhfgkdgaa.SM Go.Proofs.Yteghmmkhfgkdgaa.QS
set_option maxRecDepth 100000

theorem rgcd_any {x y : Int} (hx : x.natAbs ≤ 4611686018427387904) (hy : y.natAbs ≤ 4611686018427387904) : Ev (fun k => warpwrightref25_Gcd.f k x y) (Nat.gcd x.natAbs y.natAbs : Int) := by
  have L : ∀ x y : Int, 0 ≤ x → 0 ≤ y → Ev (fun k => warpwrightref25_Gcd.j1 k x y) (Nat.gcd x.natAbs y.natAbs : Int) := fun x y h1 h2 => Ev.step (fun k => by simp only [warpwrightref25_Gcd.j1]) (rgcd_l0 _ x y rfl h1 h2)
  have J : ∀ x y : Int, 0 ≤ x → y.natAbs ≤ 4611686018427387904 → Ev (fun k => warpwrightref25_Gcd.j0 k x y) (Nat.gcd x.natAbs y.natAbs : Int) := by
    intro x y h1 h2
    by_cases c : y < 0
    · have := L x (-y) h1 (by omega)
      rw [Int.natAbs_neg] at this
      exact Ev.step (fun k => by simp only [warpwrightref25_Gcd.j0]; rw [if_pos c, w64 (n := -y) (by omega) (by omega)]) this
    · exact Ev.step (fun k => by simp only [warpwrightref25_Gcd.j0]; rw [if_neg c]) (L x y h1 (by omega))
  by_cases c : x < 0
  · have := J (-x) y (by omega) hy
    rw [Int.natAbs_neg] at this
    exact Ev.congr (fun k => by unfold warpwrightref25_Gcd.f; rw [if_pos c, w64 (n := -x) (by omega) (by omega)]) this
  · exact Ev.congr (fun k => by unfold warpwrightref25_Gcd.f; rw [if_neg c]) (J x y (by omega) hy)
theorem gd_of {x y : Int} (hx : x.natAbs ≤ 4611686018427387904) (hy : y.natAbs ≤ 4611686018427387904) : gdB x y = true ∧ gdV x y = (gfold 0 [x, y] : Int) := by
  have E := rgcd_any hx hy
  have e : (gfold 0 [x, y] : Int) = (Nat.gcd x.natAbs y.natAbs : Int) := by simp [gfold]
  rw [e]
  exact ⟨evb_eq E, evv_eq E⟩
theorem mdS_eq (lo hi st : Int) : mdS lo hi st = if lo = hi then 0 else st := rfl

/-! ### Sums and differences -/
theorem e33 (a b s c d t : Int) : (evF CR 9 33 [.agg [.int .i64 a, .int .i64 b, .int .i64 s], .agg [.int .i64 c, .int .i64 d, .int .i64 t]] [] 0).run = 
  bif gdB s t then 
  bif decide (IntKind.i64.wrap (a + c) ≥ -1099511627776) then 
  bif !decide (IntKind.i64.wrap (a + c) ≤ 1099511627776) then some (V.agg [V.int IntKind.i64 0, V.int IntKind.i64 0, V.int IntKind.i64 0, V.int IntKind.i64 2], [], 0) else 
  bif decide (IntKind.i64.wrap (b + d) ≥ -1099511627776) then 
  bif !decide (IntKind.i64.wrap (b + d) ≤ 1099511627776) then some (V.agg [V.int IntKind.i64 0, V.int IntKind.i64 0, V.int IntKind.i64 0, V.int IntKind.i64 2], [], 0) else some (V.agg [V.int IntKind.i64 (IntKind.i64.wrap (a + c)), V.int IntKind.i64 (IntKind.i64.wrap (b + d)), V.int IntKind.i64 (mdS (IntKind.i64.wrap (a + c)) (IntKind.i64.wrap (b + d)) (gdV s t)), V.int IntKind.i64 0], [], 0) else some (V.agg [V.int IntKind.i64 0, V.int IntKind.i64 0, V.int IntKind.i64 0, V.int IntKind.i64 2], [], 0) else some (V.agg [V.int IntKind.i64 0, V.int IntKind.i64 0, V.int IntKind.i64 0, V.int IntKind.i64 2], [], 0) else none := by kernel_rfl
theorem e35 (a b s c d t : Int) : (evF CR 9 35 [.agg [.int .i64 a, .int .i64 b, .int .i64 s], .agg [.int .i64 c, .int .i64 d, .int .i64 t]] [] 0).run = 
  bif gdB s t then 
  bif decide (IntKind.i64.wrap (a - d) ≥ -1099511627776) then 
  bif !decide (IntKind.i64.wrap (a - d) ≤ 1099511627776) then some (V.agg [V.int IntKind.i64 0, V.int IntKind.i64 0, V.int IntKind.i64 0, V.int IntKind.i64 2], [], 0) else 
  bif decide (IntKind.i64.wrap (b - c) ≥ -1099511627776) then 
  bif !decide (IntKind.i64.wrap (b - c) ≤ 1099511627776) then some (V.agg [V.int IntKind.i64 0, V.int IntKind.i64 0, V.int IntKind.i64 0, V.int IntKind.i64 2], [], 0) else some (V.agg [V.int IntKind.i64 (IntKind.i64.wrap (a - d)), V.int IntKind.i64 (IntKind.i64.wrap (b - c)), V.int IntKind.i64 (mdS (IntKind.i64.wrap (a - d)) (IntKind.i64.wrap (b - c)) (gdV s t)), V.int IntKind.i64 0], [], 0) else some (V.agg [V.int IntKind.i64 0, V.int IntKind.i64 0, V.int IntKind.i64 0, V.int IntKind.i64 2], [], 0) else some (V.agg [V.int IntKind.i64 0, V.int IntKind.i64 0, V.int IntKind.i64 0, V.int IntKind.i64 2], [], 0) else none := by kernel_rfl
theorem e38 (a b s c d t : Int) : (evF CR 9 38 [.agg [.int .i64 a, .int .i64 b, .int .i64 s], .agg [.int .i64 c, .int .i64 d, .int .i64 t]] [] 0).run = 
  bif gdB s t then 
  bif gdB (gdV s t) (IntKind.i64.wrap (a - c)) then some (V.agg [V.int IntKind.i64 (if c < a then c else a), V.int IntKind.i64 (if d > b then d else b), V.int IntKind.i64 (mdS (if c < a then c else a) (if d > b then d else b) (gdV (gdV s t) (IntKind.i64.wrap (a - c))))], [], 0) else none else none := by kernel_rfl
theorem e37 (a b s c d t : Int) : (evF CR 9 37 [.agg [.int .i64 a, .int .i64 b, .int .i64 s], .agg [.int .i64 c, .int .i64 d, .int .i64 t]] [] 0).run = 
  bif tiB a c then 
  bif tiB a d then 
  bif tiB b c then 
  bif tiB b d then 
  bif !nrV a c then some (V.agg [V.int IntKind.i64 0, V.int IntKind.i64 0, V.int IntKind.i64 0, V.int IntKind.i64 2], [], 0) else 
  bif !nrV a d then some (V.agg [V.int IntKind.i64 0, V.int IntKind.i64 0, V.int IntKind.i64 0, V.int IntKind.i64 2], [], 0) else 
  bif !nrV b c then some (V.agg [V.int IntKind.i64 0, V.int IntKind.i64 0, V.int IntKind.i64 0, V.int IntKind.i64 2], [], 0) else 
  bif !nrV b d then some (V.agg [V.int IntKind.i64 0, V.int IntKind.i64 0, V.int IntKind.i64 0, V.int IntKind.i64 2], [], 0) else 
  bif gdB (IntKind.i64.wrap (a * t)) (IntKind.i64.wrap (c * s)) then 
  bif gdB (gdV (IntKind.i64.wrap (a * t)) (IntKind.i64.wrap (c * s))) (IntKind.i64.wrap (s * t)) then some (V.agg [V.int IntKind.i64 (if (if tiV b d < tiV b c then tiV b d else tiV b c) < if tiV a d < tiV a c then tiV a d else tiV a c then if tiV b d < tiV b c then tiV b d else tiV b c else if tiV a d < tiV a c then tiV a d else tiV a c), V.int IntKind.i64 (if (if tiV b d > tiV b c then tiV b d else tiV b c) > if tiV a d > tiV a c then tiV a d else tiV a c then if tiV b d > tiV b c then tiV b d else tiV b c else if tiV a d > tiV a c then tiV a d else tiV a c), V.int IntKind.i64 (mdS (if (if tiV b d < tiV b c then tiV b d else tiV b c) < if tiV a d < tiV a c then tiV a d else tiV a c then if tiV b d < tiV b c then tiV b d else tiV b c else if tiV a d < tiV a c then tiV a d else tiV a c) (if (if tiV b d > tiV b c then tiV b d else tiV b c) > if tiV a d > tiV a c then tiV a d else tiV a c then if tiV b d > tiV b c then tiV b d else tiV b c else if tiV a d > tiV a c then tiV a d else tiV a c) (gdV (gdV (IntKind.i64.wrap (a * t)) (IntKind.i64.wrap (c * s))) (IntKind.i64.wrap (s * t)))), V.int IntKind.i64 0], [], 0) else none else none else none else none else none else none := by kernel_rfl
theorem e30 (a b s k : Int) : (evF CR 9 30 [.agg [.int .i64 a, .int .i64 b, .int .i64 s], .int .i64 k] [] 0).run = 
  bif tiB a k then 
  bif tiB b k then 
  bif !nrV a k then some (V.agg [V.int IntKind.i64 0, V.int IntKind.i64 0, V.int IntKind.i64 0, V.int IntKind.i64 2], [], 0) else 
  bif !nrV b k then some (V.agg [V.int IntKind.i64 0, V.int IntKind.i64 0, V.int IntKind.i64 0, V.int IntKind.i64 2], [], 0) else 
  bif decide (IntKind.i64.wrap (s * k) < 0) then some (V.agg [V.int IntKind.i64 (if tiV b k < tiV a k then tiV b k else tiV a k), V.int IntKind.i64 (if tiV b k > tiV a k then tiV b k else tiV a k), V.int IntKind.i64 (mdS (if tiV b k < tiV a k then tiV b k else tiV a k) (if tiV b k > tiV a k then tiV b k else tiV a k) (IntKind.i64.wrap (0 - (if (-4611686018427387904 : Int) > IntKind.i64.wrap (s * k) then -4611686018427387904 else IntKind.i64.wrap (s * k))))), V.int IntKind.i64 0], [], 0) else some (V.agg [V.int IntKind.i64 (if tiV b k < tiV a k then tiV b k else tiV a k), V.int IntKind.i64 (if tiV b k > tiV a k then tiV b k else tiV a k), V.int IntKind.i64 (mdS (if tiV b k < tiV a k then tiV b k else tiV a k) (if tiV b k > tiV a k then tiV b k else tiV a k) (if (4611686018427387904 : Int) < IntKind.i64.wrap (s * k) then 4611686018427387904 else IntKind.i64.wrap (s * k))), V.int IntKind.i64 0], [], 0) else none else none := by kernel_rfl

def A2s (a b s c d t : Int) : Prop := Ok a b s ∧ Ok c d t ∧ Near a ∧ Near b ∧ Near c ∧ Near d ∧ s ≤ 4398046511104 ∧ t ≤ 4398046511104
def q4 (r : Int × Int × Int × Int) : V := .agg [.int .i64 r.1, .int .i64 r.2.1, .int .i64 r.2.2.1, .int .i64 r.2.2.2]
theorem e33' {a b s c d t : Int} (h : A2s a b s c d t) : (evF CR 9 33 [.agg [.int .i64 a, .int .i64 b, .int .i64 s], .agg [.int .i64 c, .int .i64 d, .int .i64 t]] [] 0).run = some (q4 (sumR a b s c d t), [], 0) := by
  obtain ⟨h, k, ⟨a1, a2⟩, ⟨b1, b2⟩, ⟨c1, c2⟩, ⟨d1, d2⟩, hs, ht⟩ := h
  obtain ⟨g1, g2⟩ := gd_of (nat_le h.st0 hs) (nat_le k.st0 ht)
  rw [e33, g1, g2, wr' (x := a + c) (by omega), wr' (x := b + d) (by omega)]
  unfold sumR Near mdS q4
  generalize a + c = x
  generalize b + d = y
  by_cases q1 : -1099511627776 ≤ x <;> by_cases q2 : x ≤ 1099511627776 <;> by_cases q3 : -1099511627776 ≤ y <;> by_cases q4 : y ≤ 1099511627776 <;> simp [q1, q2, q3, q4]
theorem e35' {a b s c d t : Int} (h : A2s a b s c d t) : (evF CR 9 35 [.agg [.int .i64 a, .int .i64 b, .int .i64 s], .agg [.int .i64 c, .int .i64 d, .int .i64 t]] [] 0).run = some (q4 (sumR a b s (-d) (-c) t), [], 0) := by
  obtain ⟨h, k, ⟨a1, a2⟩, ⟨b1, b2⟩, ⟨c1, c2⟩, ⟨d1, d2⟩, hs, ht⟩ := h
  obtain ⟨g1, g2⟩ := gd_of (nat_le h.st0 hs) (nat_le k.st0 ht)
  rw [e35, g1, g2, wr' (x := a - d) (by omega), wr' (x := b - c) (by omega)]
  unfold sumR Near mdS q4
  rw [show a + -d = a - d by omega, show b + -c = b - c by omega]
  generalize a - d = x
  generalize b - c = y
  by_cases q1 : -1099511627776 ≤ x <;> by_cases q2 : x ≤ 1099511627776 <;> by_cases q3 : -1099511627776 ≤ y <;> by_cases q4 : y ≤ 1099511627776 <;> simp [q1, q2, q3, q4]
/-! ### Products -/
theorem gf3 (x y z : Int) : (gfold 0 [(gfold 0 [x, y] : Int), z] : Int) = (gfold 0 [x, y, z] : Int) := by simp [gfold]
theorem gf_le {x y : Int} {B : Nat} (hx : x.natAbs ≤ B) (hy : y.natAbs ≤ B) : ((gfold 0 [x, y] : Int)).natAbs ≤ B := by
  have e : gfold 0 [x, y] = Nat.gcd x.natAbs y.natAbs := by simp [gfold]
  rw [e, Int.natAbs_natCast]
  by_cases c : x.natAbs = 0
  · rw [c, Nat.gcd_zero_left]; exact hy
  · exact Nat.le_trans (Nat.le_of_dvd (by omega) (Nat.gcd_dvd_left _ _)) hx
theorem min4_eq (p q u v : Int) : (if (if v < u then v else u) < (if q < p then q else p) then (if v < u then v else u) else (if q < p then q else p)) = mn4 p q u v := by
  unfold mn4 mn
  (repeat' split) <;> omega
theorem max4_eq (p q u v : Int) : (if (if v > u then v else u) > (if q > p then q else p) then (if v > u then v else u) else (if q > p then q else p)) = mx4 p q u v := by
  unfold mx4 mx
  (repeat' split) <;> omega
theorem near_i64 {n : Int} (h : Near n) : -9223372036854775808 ≤ n ∧ n ≤ 9223372036854775807 := by unfold Near at h; omega
theorem e37' {a b s c d t : Int} (h : A2s a b s c d t) : (evF CR 9 37 [.agg [.int .i64 a, .int .i64 b, .int .i64 s], .agg [.int .i64 c, .int .i64 d, .int .i64 t]] [] 0).run = some (q4 (mulR a b s c d t), [], 0) := by
  obtain ⟨h, k, ha, hb, hc, hd, hs, ht⟩ := h
  have t1 : tiB a c = true := cdec_true ⟨ha, near_i64 hc⟩
  have t2 : tiB a d = true := cdec_true ⟨ha, near_i64 hd⟩
  have t3 : tiB b c = true := cdec_true ⟨hb, near_i64 hc⟩
  have t4 : tiB b d = true := cdec_true ⟨hb, near_i64 hd⟩
  rw [e37, t1, t2, t3, t4]
  simp only [cond_true]
  by_cases n1 : Near (a * c)
  · by_cases n2 : Near (a * d)
    · by_cases n3 : Near (b * c)
      · by_cases n4 : Near (b * d)
        · have ⟨u1, u2⟩ := n1
          have ⟨u3, u4⟩ := n2
          have ⟨u5, u6⟩ := n3
          have ⟨u7, u8⟩ := n4
          have b1 := step_bound (B := 1099511627776) (x := a) k (by omega) u1 u2 u3 u4
          have b2 := step_bound (B := 1099511627776) (x := c) h (by omega) (by rw [Int.mul_comm]; exact u1) (by rw [Int.mul_comm]; exact u2) (by rw [Int.mul_comm]; exact u5) (by rw [Int.mul_comm]; exact u6)
          have b3 := step_bound (B := 1099511627776) (x := d) h (by omega) (by rw [Int.mul_comm]; exact u3) (by rw [Int.mul_comm]; exact u4) (by rw [Int.mul_comm]; exact u7) (by rw [Int.mul_comm]; exact u8)
          have b4 := step_bound (x := s) (B := 2199023255552) k (by omega) (by rw [Int.mul_comm]; omega) (by rw [Int.mul_comm]; omega) (by rw [Int.mul_comm]; omega) (by rw [Int.mul_comm]; omega)
          rw [wr' (x := a * t) (by omega), wr' (x := c * s) (by omega), wr' (x := s * t) (by omega)]
          obtain ⟨g1, g2⟩ := gd_of (x := a * t) (y := c * s) (by omega) (by omega)
          obtain ⟨g3, g4⟩ := gd_of (x := (gfold 0 [a * t, c * s] : Int)) (y := s * t) (gf_le (by omega) (by omega)) (by omega)
          rw [g2, g1, g3, g4, gf3]
          have v1 : tiV a c = a * c := if_pos n1
          have v2 : tiV a d = a * d := if_pos n2
          have v3 : tiV b c = b * c := if_pos n3
          have v4 : tiV b d = b * d := if_pos n4
          have m1 : nrV a c = true := decide_eq_true n1
          have m2 : nrV a d = true := decide_eq_true n2
          have m3 : nrV b c = true := decide_eq_true n3
          have m4 : nrV b d = true := decide_eq_true n4
          rw [v1, v2, v3, v4, m1, m2, m3, m4, min4_eq, max4_eq]
          unfold mulR
          rw [if_pos ⟨n1, n2, n3, n4⟩]
          rfl
        · simp [nrV, n1, n2, n3, n4, mulR, q4]
      · simp [nrV, n1, n2, n3, mulR, q4]
    · simp [nrV, n1, n2, mulR, q4]
  · simp [nrV, n1, mulR, q4]
theorem gf1 (x : Int) : (gfold 0 [x] : Int) = (x.natAbs : Int) := by simp [gfold]
theorem e30' {a b s k : Int} (h : Ok a b s) (ha : Near a) (hb : Near b) (hk : -9223372036854775808 ≤ k ∧ k ≤ 9223372036854775807) : (evF CR 9 30 [.agg [.int .i64 a, .int .i64 b, .int .i64 s], .int .i64 k] [] 0).run = some (q4 (scaR a b s k), [], 0) := by
  have t1 : tiB a k = true := cdec_true ⟨ha, hk⟩
  have t2 : tiB b k = true := cdec_true ⟨hb, hk⟩
  rw [e30, t1, t2]
  simp only [cond_true]
  by_cases n1 : Near (a * k)
  · by_cases n3 : Near (b * k)
    · have ⟨u1, u2⟩ := n1
      have ⟨u5, u6⟩ := n3
      have b2 := step_bound (B := 1099511627776) (x := k) h (by omega) (by rw [Int.mul_comm]; exact u1) (by rw [Int.mul_comm]; exact u2) (by rw [Int.mul_comm]; exact u5) (by rw [Int.mul_comm]; exact u6)
      rw [Int.mul_comm k s] at b2
      rw [wr' (x := s * k) (by omega)]
      have v1 : tiV a k = a * k := if_pos n1
      have v3 : tiV b k = b * k := if_pos n3
      have m1 : nrV a k = true := decide_eq_true n1
      have m3 : nrV b k = true := decide_eq_true n3
      rw [v1, v3, m1, m3]
      unfold scaR
      rw [if_pos (show Near (a * k) ∧ Near (b * k) from ⟨n1, n3⟩), gf1]
      have e1 : (if b * k < a * k then b * k else a * k) = mn4 (a * k) (a * k) (b * k) (b * k) := by unfold mn4 mn; (repeat' split) <;> omega
      have e2 : (if b * k > a * k then b * k else a * k) = mx4 (a * k) (a * k) (b * k) (b * k) := by unfold mx4 mx; (repeat' split) <;> omega
      rw [e1, e2]
      by_cases c : s * k < 0
      · rw [decide_eq_true c, if_neg (show ¬ (-4611686018427387904 : Int) > s * k by omega), wr' (x := 0 - s * k) (by omega), show 0 - s * k = ((s * k).natAbs : Int) by omega]
        rfl
      · rw [decide_eq_false c, if_neg (show ¬ (4611686018427387904 : Int) < s * k by omega)]
        simp only [cond_false, Bool.not_true]
        rw [show ((s * k).natAbs : Int) = s * k by omega]
        rfl
    · simp [nrV, n1, n3, scaR, q4]
  · simp [nrV, n1, scaR, q4]
end Go.Proofs.Yteghmmkhfgkdgaa.SX
namespace Go.Proofs.Yteghmmkhfgkdgaa.SX
open Go Go.Ex Go.RowKit Go.Proofs.YteghmmkhfgkdgaaW.PrintWords Go.Proofs.YteghmmkhfgkdgaaW.PrintLast Go.Proofs.YteghmmkhfgkdgaaW.PrintMore Go.Proofs.Yteghmmkhfgkdgaa.SM Go.Proofs.Yteghmmkhfgkdgaa.QS
set_option maxRecDepth 100000

/-! ### Joins -/
noncomputable def joiR (a b s c d t : Int) : Int × Int × Int := (mn a c, mx b d, if mn a c = mx b d then 0 else (gfold 0 [s, t, a - c] : Int))
def q3 (r : Int × Int × Int) : V := .agg [.int .i64 r.1, .int .i64 r.2.1, .int .i64 r.2.2]
theorem joiR_joins {a b s c d t : Int} (h : Ok a b s) (k : Ok c d t) : Joins a b s c d t (joiR a b s c d t).1 (joiR a b s c d t).2.1 (joiR a b s c d t).2.2 := by
  refine ⟨rfl, rfl, ?_, fun x => ?_⟩
  · unfold joiR; simp only; split <;> omega
  · unfold joiR
    simp only
    by_cases c0 : mn a c = mx b d
    · have hl := h.le; have kl := k.le
      have e : a = b ∧ c = d ∧ a = c := by unfold mn mx at c0; split at c0 <;> split at c0 <;> omega
      obtain ⟨rfl, rfl, rfl⟩ := e
      have hs : s = 0 := by rcases h with h | h <;> omega
      have ht : t = 0 := by rcases k with h | h <;> omega
      rw [if_pos c0, hs, ht, show a - a = 0 by omega]
      simp [Int.dvd_zero]
    · rw [if_neg c0, dvd_gcd0]; simp
theorem jn_joi {a b s c d t : Int} (h : A2s a b s c d t) : jnB a b s c d t = true ∧ jnV a b s c d t = joiR a b s c d t := by
  obtain ⟨h, k, ha, hb, hc, hd, hs, ht⟩ := h
  obtain ⟨l, u, v, E, J⟩ := join_spec h k hs ht (Near.In ha) (Near.In hc)
  refine ⟨evb_eq E, (evv_eq E).trans ?_⟩
  obtain ⟨e1, e2, e3⟩ := Joins.uniq J (joiR_joins h k) rfl rfl (fun _ => Iff.rfl)
  rw [e1, e2, e3]
theorem e38' {a b s c d t : Int} (h : A2s a b s c d t) : (evF CR 9 38 [.agg [.int .i64 a, .int .i64 b, .int .i64 s], .agg [.int .i64 c, .int .i64 d, .int .i64 t]] [] 0).run = some (q3 (joiR a b s c d t), [], 0) := by
  obtain ⟨h, k, ⟨a1, a2⟩, ⟨b1, b2⟩, ⟨c1, c2⟩, ⟨d1, d2⟩, hs, ht⟩ := h
  obtain ⟨g1, g2⟩ := gd_of (nat_le h.st0 hs) (nat_le k.st0 ht)
  obtain ⟨g3, g4⟩ := gd_of (x := (gfold 0 [s, t] : Int)) (y := a - c) (gf_le (nat_le h.st0 hs) (nat_le k.st0 ht)) (by omega)
  rw [e38, wr' (x := a - c) (by omega), g2, g1, g3, g4, gf3]
  rfl

/-! ### Spans of bounds -/
def ofR (a b s : Int) : Int × Int × Int × Int := if Near a ∧ Near b ∧ a ≤ b ∧ 1 ≤ s then (a, b - (b - a) % s, if a = b - (b - a) % s then 0 else s, 0) else (0, 0, 0, 1)
theorem of_ofR (a b s : Int) : warpwrightlaw25_of.f a b s = some (ofR a b s) := by
  unfold warpwrightlaw25_of.f span_Of.f ofR
  rw [near_spec, near_spec]
  simp only [Option.bind_some]
  by_cases h1 : Near a
  · by_cases h2 : Near b
    · by_cases h3 : a ≤ b
      · by_cases h4 : 1 ≤ s
        · have e1 := Int.emod_nonneg (b - a) (show s ≠ 0 by omega)
          have e2 := (show (b - a) % s ≤ b - a by have := Int.emod_add_mul_ediv (b - a) s; have := Int.mul_nonneg (show 0 ≤ s by omega) (Int.ediv_nonneg (show 0 ≤ b - a by omega) (show 0 ≤ s by omega)); omega)
          have ⟨a1, a2⟩ := h1
          have ⟨b1, b2⟩ := h2
          rw [if_pos (decide_eq_true h1), if_pos (decide_eq_true h2), if_neg (by omega), if_neg (by omega), if_neg (by omega), w64 (n := b - a) (by omega) (by omega), Int.tmod_eq_emod_of_nonneg (by omega), w64 (n := b - (b - a) % s) (by omega) (by omega), made_eq, if_pos (show Near a ∧ Near b ∧ a ≤ b ∧ 1 ≤ s from ⟨h1, h2, h3, h4⟩)]
          rfl
        · rw [if_pos (decide_eq_true h1), if_pos (decide_eq_true h2), if_neg (by omega), if_pos (by omega), if_neg (fun q => h4 q.2.2.2)]; rfl
      · rw [if_pos (decide_eq_true h1), if_pos (decide_eq_true h2), if_pos (by omega), if_neg (fun q => h3 q.2.2.1)]; rfl
    · rw [if_pos (decide_eq_true h1), if_neg (by simp [h2]), if_neg (fun q => h2 q.2.1)]; rfl
  · rw [if_neg (by simp [h1]), if_neg (fun q => h1 q.1)]; rfl
theorem e26 (a b s : Int) : (evF CR 9 26 [.int .i64 a, .int .i64 b, .int .i64 s] [] 0).run = 
  bif decide (a ≥ -1099511627776) then 
  bif !decide (a ≤ 1099511627776) then some (V.agg [V.int IntKind.i64 0, V.int IntKind.i64 0, V.int IntKind.i64 0, V.int IntKind.i64 1], [], 0) else 
  bif decide (b ≥ -1099511627776) then 
  bif !decide (b ≤ 1099511627776) then some (V.agg [V.int IntKind.i64 0, V.int IntKind.i64 0, V.int IntKind.i64 0, V.int IntKind.i64 1], [], 0) else 
  bif decide (a > b) then some (V.agg [V.int IntKind.i64 0, V.int IntKind.i64 0, V.int IntKind.i64 0, V.int IntKind.i64 1], [], 0) else 
  bif decide (s < 1) then some (V.agg [V.int IntKind.i64 0, V.int IntKind.i64 0, V.int IntKind.i64 0, V.int IntKind.i64 1], [], 0) else 
  bif s == 0 then none else some (V.agg [V.int IntKind.i64 a, V.int IntKind.i64 (IntKind.i64.wrap (a + IntKind.i64.wrap (IntKind.i64.wrap ((IntKind.i64.wrap (b - a)).tdiv s) * s))), V.int IntKind.i64 (mdS a (IntKind.i64.wrap (a + IntKind.i64.wrap (IntKind.i64.wrap ((IntKind.i64.wrap (b - a)).tdiv s) * s))) s), V.int IntKind.i64 0], [], 0) else some (V.agg [V.int IntKind.i64 0, V.int IntKind.i64 0, V.int IntKind.i64 0, V.int IntKind.i64 1], [], 0) else some (V.agg [V.int IntKind.i64 0, V.int IntKind.i64 0, V.int IntKind.i64 0, V.int IntKind.i64 1], [], 0) := by kernel_rfl
theorem e26' (a b s : Int) : (evF CR 9 26 [.int .i64 a, .int .i64 b, .int .i64 s] [] 0).run = some (q4 (ofR a b s), [], 0) := by
  rw [e26]
  unfold ofR
  by_cases c0 : Near a ∧ Near b ∧ a ≤ b ∧ 1 ≤ s
  · rw [if_pos c0]
    obtain ⟨⟨a1, a2⟩, ⟨b1, b2⟩, h3, h4⟩ := c0
    have e1 := Int.emod_nonneg (b - a) (show s ≠ 0 by omega)
    have e2 := Int.emod_add_mul_ediv (b - a) s
    have e3 : s * ((b - a) / s) = (b - a) / s * s := Int.mul_comm _ _
    have e4 : 0 ≤ (b - a) / s := Int.ediv_nonneg (by omega) (by omega)
    have e5 : (b - a) / s ≤ b - a := Int.ediv_le_self s (by omega)
    have e6 : 0 ≤ (b - a) / s * s := Int.mul_nonneg e4 (by omega)
    rw [wr' (x := b - a) (by omega), Int.tdiv_eq_ediv_of_nonneg (show 0 ≤ b - a by omega), wr' (x := (b - a) / s) (by omega), wr' (x := (b - a) / s * s) (by omega), wr' (x := a + (b - a) / s * s) (by omega), show a + (b - a) / s * s = b - (b - a) % s by omega]
    have d1 : decide (a ≥ -1099511627776) = true := decide_eq_true a1
    have d2 : decide (a ≤ 1099511627776) = true := decide_eq_true a2
    have d3 : decide (b ≥ -1099511627776) = true := decide_eq_true b1
    have d4 : decide (b ≤ 1099511627776) = true := decide_eq_true b2
    have d5 : decide (a > b) = false := decide_eq_false (by omega)
    have d6 : decide (s < 1) = false := decide_eq_false (by omega)
    have d7 : (s == 0) = false := by simp; omega
    rw [d1, d2, d3, d4, d5, d6, d7]
    rfl
  · rw [if_neg c0]
    unfold Near at c0
    have p5 : (a > b) = ¬ (a ≤ b) := propext ⟨by omega, by omega⟩
    have p6 : (s < 1) = ¬ (1 ≤ s) := propext ⟨by omega, by omega⟩
    simp only [p5, p6]
    by_cases q1 : -1099511627776 ≤ a <;> by_cases q2 : a ≤ 1099511627776 <;> by_cases q3 : -1099511627776 ≤ b <;> by_cases q4 : b ≤ 1099511627776 <;> by_cases q5 : a ≤ b <;> by_cases q6 : 1 ≤ s <;>
      first
      | (exfalso; exact c0 ⟨⟨q1, q2⟩, ⟨q3, q4⟩, q5, q6⟩)
      | simp [q1, q2, q3, q4, q5, q6, SX.q4]

/-! ### Remainders -/
def modR (a s m : Int) : Int × Int × Int × Int :=
  if 1 ≤ m ∧ m ≤ 1099511627776 then (a % (Nat.gcd s.natAbs m.natAbs : Int), m - 1 - (m - 1 - a % (Nat.gcd s.natAbs m.natAbs : Int)) % (Nat.gcd s.natAbs m.natAbs : Int), if a % (Nat.gcd s.natAbs m.natAbs : Int) = m - 1 - (m - 1 - a % (Nat.gcd s.natAbs m.natAbs : Int)) % (Nat.gcd s.natAbs m.natAbs : Int) then 0 else (Nat.gcd s.natAbs m.natAbs : Int), 0) else (0, 0, 0, 1)
theorem md_of {a b s m : Int} (h0 : 0 ≤ s) (hs : s ≤ 4398046511104) (ha : Near a) : Ev (fun k => warpwrightlaw25_mod.f k a b s m) (modR a s m) := by
  unfold modR
  by_cases c : 1 ≤ m ∧ m ≤ 1099511627776
  · rw [if_pos c]
    obtain ⟨g, r, st', rfl, _, _, _, rfl, E, rfl⟩ := mod_spec (hi := b) h0 hs ha.In c.1 c.2
    exact E
  · rw [if_neg c]
    refine Ev.congr (f := fun k => (span_Mod.f k a b s m).bind fun x => some (x.1, x.2.1, x.2.2.1, x.2.2.2)) (fun k => by unfold warpwrightlaw25_mod.f; rfl) ?_
    refine Ev.bind (g := fun k => span_Mod.f k a b s m) (a := (0, 0, 0, 1)) ?_ (Ev.now _)
    have key : Ev (fun k => span_Mod.j0 k m true a b s) (0, 0, 0, 1) := Ev.step (f := fun _ => some (0, 0, 0, 1)) (fun k => by simp only [span_Mod.j0, if_true]) (Ev.now _)
    by_cases c1 : m < 1
    · exact Ev.congr (fun k => by unfold span_Mod.f; rw [if_pos c1]) key
    · exact Ev.congr (fun k => by unfold span_Mod.f; rw [if_neg c1, decide_eq_true (by omega)]) key
theorem tm2 {a g : Int} (hg : 1 ≤ g) (hg2 : g ≤ 4398046511104) : Int.tmod (IntKind.i64.wrap (Int.tmod a g + g)) g = a % g := by
  have b := tmod_bound (a := a) (m := g) (by omega)
  rw [wr' (by omega), Int.tmod_eq_emod_of_nonneg (by omega), Int.add_emod_right]
  have : Int.tmod a g = a - g * Int.tdiv a g := by have := Int.tmod_add_mul_tdiv a g; omega
  rw [this, Int.sub_mul_emod_self_left]
theorem e31 (a b s k : Int) : (evF CR 9 31 [.agg [.int .i64 a, .int .i64 b, .int .i64 s], .int .i64 k] [] 0).run = 
  bif decide (k < 1) then some (V.agg [V.int IntKind.i64 0, V.int IntKind.i64 0, V.int IntKind.i64 0, V.int IntKind.i64 1], [], 0) else 
  bif decide (k > 1099511627776) then some (V.agg [V.int IntKind.i64 0, V.int IntKind.i64 0, V.int IntKind.i64 0, V.int IntKind.i64 1], [], 0) else 
  bif s == 0 then 
  bif k == 0 then none else 
  bif k == 0 then none else some (V.agg [V.int IntKind.i64 ((IntKind.i64.wrap (a.tmod k + k)).tmod k), V.int IntKind.i64 ((IntKind.i64.wrap (a.tmod k + k)).tmod k), V.int IntKind.i64 (mdS ((IntKind.i64.wrap (a.tmod k + k)).tmod k) ((IntKind.i64.wrap (a.tmod k + k)).tmod k) 0), V.int IntKind.i64 0], [], 0) else 
  bif gdB s k then 
  bif gdV s k == 0 then none else 
  bif gdV s k == 0 then none else 
  bif gdV s k == 0 then none else some (V.agg [V.int IntKind.i64 ((IntKind.i64.wrap (a.tmod (gdV s k) + gdV s k)).tmod (gdV s k)), V.int IntKind.i64 (IntKind.i64.wrap ((IntKind.i64.wrap (a.tmod (gdV s k) + gdV s k)).tmod (gdV s k) + IntKind.i64.wrap (IntKind.i64.wrap ((IntKind.i64.wrap (IntKind.i64.wrap (k - 1) - (IntKind.i64.wrap (a.tmod (gdV s k) + gdV s k)).tmod (gdV s k))).tdiv (gdV s k)) * gdV s k))), V.int IntKind.i64 (mdS ((IntKind.i64.wrap (a.tmod (gdV s k) + gdV s k)).tmod (gdV s k)) (IntKind.i64.wrap ((IntKind.i64.wrap (a.tmod (gdV s k) + gdV s k)).tmod (gdV s k) + IntKind.i64.wrap (IntKind.i64.wrap ((IntKind.i64.wrap (IntKind.i64.wrap (k - 1) - (IntKind.i64.wrap (a.tmod (gdV s k) + gdV s k)).tmod (gdV s k))).tdiv (gdV s k)) * gdV s k))) (gdV s k)), V.int IntKind.i64 0], [], 0) else none := by kernel_rfl
theorem e31' {a b s k : Int} (h0 : 0 ≤ s) (hs : s ≤ 4398046511104) : (evF CR 9 31 [.agg [.int .i64 a, .int .i64 b, .int .i64 s], .int .i64 k] [] 0).run = some (q4 (modR a s k), [], 0) := by
  rw [e31]
  unfold modR
  by_cases c : 1 ≤ k ∧ k ≤ 1099511627776
  · rw [if_pos c]
    obtain ⟨c1, c2⟩ := c
    have d1 : decide (k < 1) = false := decide_eq_false (by omega)
    have d2 : decide (k > 1099511627776) = false := decide_eq_false (by omega)
    have d3 : (k == 0) = false := by simp; omega
    rw [d1, d2, d3]
    simp only [cond_false]
    by_cases z : s = 0
    · subst z
      have hg : ((Nat.gcd (0 : Int).natAbs k.natAbs : Nat) : Int) = k := by simp; omega
      have f1 := Int.emod_nonneg a (show k ≠ 0 by omega)
      have f2 := Int.emod_lt_of_pos a (show 0 < k by omega)
      have f3 : (k - 1 - a % k) % k = k - 1 - a % k := Int.emod_eq_of_lt (by omega) (by omega)
      rw [hg, tm2 c1 (by omega), f3, show k - 1 - (k - 1 - a % k) = a % k by omega]
      simp [q4, mdS]
    · have d4 : (s == 0) = false := by simpa using z
      obtain ⟨g1, g2⟩ := gd_of (x := s) (y := k) (nat_le h0 hs) (nat_le (by omega) (by omega))
      have eg : (gfold 0 [s, k] : Int) = (Nat.gcd s.natAbs k.natAbs : Int) := by simp [gfold]
      rw [eg] at g2
      have gk : (Nat.gcd s.natAbs k.natAbs : Int) ≤ k := by have := Nat.le_of_dvd (by omega) (Nat.gcd_dvd_right s.natAbs k.natAbs); omega
      have gp : 0 < Nat.gcd s.natAbs k.natAbs := Nat.gcd_pos_of_pos_right _ (by omega)
      rw [d4, g1, g2]
      generalize hG : (Nat.gcd s.natAbs k.natAbs : Int) = g at *
      have hg1 : 1 ≤ g := by omega
      have d5 : (g == 0) = false := by simp; omega
      rw [d5, tm2 hg1 (by omega)]
      have f1 := Int.emod_nonneg a (show g ≠ 0 by omega)
      have f2 := Int.emod_lt_of_pos a (show 0 < g by omega)
      generalize a % g = r at *
      have e2 := Int.emod_add_mul_ediv (k - 1 - r) g
      have e3 : g * ((k - 1 - r) / g) = (k - 1 - r) / g * g := Int.mul_comm _ _
      have e1 := Int.emod_nonneg (k - 1 - r) (show g ≠ 0 by omega)
      have e4 : 0 ≤ (k - 1 - r) / g := Int.ediv_nonneg (by omega) (by omega)
      have e5 : (k - 1 - r) / g ≤ k - 1 - r := Int.ediv_le_self g (by omega)
      have e6 : 0 ≤ (k - 1 - r) / g * g := Int.mul_nonneg e4 (by omega)
      rw [wr' (x := k - 1) (by omega), wr' (x := k - 1 - r) (by omega), Int.tdiv_eq_ediv_of_nonneg (show 0 ≤ k - 1 - r by omega), wr' (x := (k - 1 - r) / g) (by omega), wr' (x := (k - 1 - r) / g * g) (by omega), wr' (x := r + (k - 1 - r) / g * g) (by omega), show r + (k - 1 - r) / g * g = k - 1 - (k - 1 - r) % g by omega]
      rfl
  · rw [if_neg c]
    by_cases c1 : k < 1
    · rw [decide_eq_true c1]; rfl
    · rw [decide_eq_false c1, decide_eq_true (show k > 1099511627776 by omega)]; rfl
end Go.Proofs.Yteghmmkhfgkdgaa.SX
namespace Go.Proofs.Yteghmmkhfgkdgaa.SX
open Go Go.Ex Go.RowKit Go.Proofs.YteghmmkhfgkdgaaW.PrintWords Go.Proofs.YteghmmkhfgkdgaaW.PrintLast Go.Proofs.YteghmmkhfgkdgaaW.PrintMore Go.Proofs.Yteghmmkhfgkdgaa.SM Go.Proofs.Yteghmmkhfgkdgaa.QS
set_option maxRecDepth 100000

def W (n : Int) : Int := IntKind.i64.wrap n
def vM (G t : Int) : Int := W (Int.tdiv t G)
def vX (G M a c : Int) : Int := Int.tmod (W (Int.tmod (W (Int.tdiv (W (c - a)) G)) M + M)) M
noncomputable def vK (G M a s c : Int) : Int := mmV (vX G M a c) (ivV (W (Int.tdiv s G)) M) M
def vE (a s c : Int) : Int := W (Int.tdiv (W (W (W (c - a) + s) - 1)) s)
def vK2 (K M E : Int) : Int := W (K + W (W (Int.tdiv (W (W (W (E - K) + M) - 1)) M) * M))
def vA (a b s d : Int) : Int := W (Int.tdiv (W ((if d < b then d else b) - a)) s)
def vC (A K M : Int) : Int := W (W (Int.tdiv (W (A - K)) M) * M)
def vS (s M C : Int) : Int := W (s * (if 1 > (if C < M then C else M) then 1 else (if C < M then C else M)))
/-- The answer at the end: the first number, the last one, the step. -/
def vR (a s K M A : Int) : V := .agg [.int .i64 (W (a + W (s * K))), .int .i64 (W (a + W (s * W (K + vC A K M)))), .int .i64 (mdS (W (a + W (s * K))) (W (a + W (s * W (K + vC A K M)))) (vS s M (vC A K M))), .bool true]
def v0 : V := .agg [.int .i64 0, .int .i64 0, .int .i64 0, .bool false]
noncomputable def T39 (a b s c d t : Int) : Tree (V × Mem × Nat) := evF CR 9 39 [.agg [.int .i64 a, .int .i64 b, .int .i64 s], .agg [.int .i64 c, .int .i64 d, .int .i64 t]] [] 0
def PB : List (Nat × Bool) := [(7, false), (8, false), (6, true), (8, false), (1, false), (5, false), (8, false), (2, false), (4, false), (4, false), (2, true), (2, true)]
noncomputable def QB (a s c t : Int) : List Bool :=
  [s == 0, t == 0, gdB s t, gdV s t == 0, Int.tmod (W (c - a)) (gdV s t) != 0, gdV s t == 0, gdV s t == 0, vM (gdV s t) t == 0, vM (gdV s t) t == 0, gdV s t == 0, ivB (W (Int.tdiv s (gdV s t))) (vM (gdV s t) t),
    mmB (vX (gdV s t) (vM (gdV s t) t) a c) (ivV (W (Int.tdiv s (gdV s t))) (vM (gdV s t) t)) (vM (gdV s t) t)]
theorem wA1y (a b s c d t : Int) : path (T39 a b s c d t) [(7, true), (16, false), (4, true), (2, false), (5, true), (5, false)] = some ([s == 0, s != 0, rhsB a b s a, !rhsV a b s a, rhsB c d t a, !rhsV c d t a], (.agg [.int .i64 a, .int .i64 a, .int .i64 (mdS a a 0), .bool true], [], 0)) := by kernel_rfl
theorem wA1n (a b s c d t : Int) : path (T39 a b s c d t) [(7, true), (16, false), (4, true), (2, false), (5, true), (5, true)] = some ([s == 0, s != 0, rhsB a b s a, !rhsV a b s a, rhsB c d t a, !rhsV c d t a], (v0, [], 0)) := by kernel_rfl
theorem wA2y (a b s c d t : Int) : path (T39 a b s c d t) [(7, false), (8, true), (7, true), (7, true), (2, false), (5, true), (5, false)] = some ([s == 0, t == 0, s != 0, rhsB a b s c, !rhsV a b s c, rhsB c d t c, !rhsV c d t c], (.agg [.int .i64 c, .int .i64 c, .int .i64 (mdS c c 0), .bool true], [], 0)) := by kernel_rfl
theorem wA2n (a b s c d t : Int) : path (T39 a b s c d t) [(7, false), (8, true), (7, true), (7, true), (2, true)] = some ([s == 0, t == 0, s != 0, rhsB a b s c, !rhsV a b s c], (v0, [], 0)) := by kernel_rfl
theorem wB0 (a b s c d t : Int) : path (T39 a b s c d t) [(7, false), (8, false), (6, true), (8, false), (1, true)] = some ([s == 0, t == 0, gdB s t, gdV s t == 0, Int.tmod (W (c - a)) (gdV s t) != 0], (v0, [], 0)) := by kernel_rfl
/-- How k is found: the second span begins no later; k is great enough; k is raised. -/
def PV : Nat → List (Nat × Bool)
  | 0 => [(7, false), (12, false)]
  | 1 => [(7, true), (13, false), (4, false), (12, false)]
  | _ => [(7, true), (13, false), (4, true), (10, false), (15, false)]
def QV (a s c K M E : Int) : Nat → List Bool
  | 0 => [decide (c > a), s == 0]
  | 1 => [decide (c > a), s == 0, decide (K < E), s == 0]
  | _ => [decide (c > a), s == 0, decide (K < E), M == 0, s == 0]
def vN (K M E : Int) : Nat → Int
  | 0 => K
  | 1 => K
  | _ => vK2 K M E
/-- How it ends: no number; none; the span. -/
def PE : Nat → List (Nat × Bool)
  | 0 => [(10, true)]
  | 1 => [(10, false), (8, true)]
  | _ => [(10, false), (8, false), (6, false)]
def QE (a b d K A M : Int) : Nat → List Bool
  | 0 => [decide ((if d < b then d else b) < a)]
  | 1 => [decide ((if d < b then d else b) < a), decide (K > A)]
  | _ => [decide ((if d < b then d else b) < a), decide (K > A), M == 0]
def vEnd (a s K M A : Int) : Nat → V
  | 0 => v0
  | 1 => v0
  | _ => vR a s K M A
theorem wB (a b s c d t : Int) (i j : Nat) (hi : i = 0 ∨ i = 1 ∨ i = 2) (hj : j = 0 ∨ j = 1 ∨ j = 2) : path (T39 a b s c d t) (PB ++ (PV i ++ PE j)) =
    some (QB a s c t ++ (QV a s c (vK (gdV s t) (vM (gdV s t) t) a s c) (vM (gdV s t) t) (vE a s c) i ++ QE a b d (vN (vK (gdV s t) (vM (gdV s t) t) a s c) (vM (gdV s t) t) (vE a s c) i) (vA a b s d) (vM (gdV s t) t) j),
      (vEnd a s (vN (vK (gdV s t) (vM (gdV s t) t) a s c) (vM (gdV s t) t) (vE a s c) i) (vM (gdV s t) t) (vA a b s d) j, [], 0)) := by
  rcases hi with rfl | rfl | rfl <;> rcases hj with rfl | rfl | rfl <;> kernel_rfl
end Go.Proofs.Yteghmmkhfgkdgaa.SX
namespace Go.Proofs.Yteghmmkhfgkdgaa.SX
open Go Go.Ex Go.RowKit Go.Proofs.YteghmmkhfgkdgaaW.PrintWords Go.Proofs.YteghmmkhfgkdgaaW.PrintLast Go.Proofs.YteghmmkhfgkdgaaW.PrintMore Go.Proofs.Yteghmmkhfgkdgaa.SM Go.Proofs.Yteghmmkhfgkdgaa.QS
set_option maxRecDepth 100000

theorem W_id {n : Int} (h : -9223372036854775808 ≤ n ∧ n ≤ 9223372036854775807) : W n = n := wr' h
theorem iv_spec {a m : Int} (a0 : 0 ≤ a) (m1 : 1 ≤ m) (m2 : m ≤ 1099511627776) (hg : Nat.gcd a.natAbs m.natAbs = 1) : 0 ≤ ivV a m ∧ ivV a m < m ∧ m ∣ a * ivV a m - 1 := by
  have t1 : Int.tmod a m = a % m := Int.tmod_eq_emod_of_nonneg a0
  have t2 := Int.emod_nonneg a (show m ≠ 0 by omega)
  have t3 := Int.emod_lt_of_pos a (show 0 < m by omega)
  have e1 := Int.emod_add_mul_ediv a m
  obtain ⟨d, b1, b2⟩ := invL_spec hg ((a % m).toNat + 1) m (a % m) 0 1 (by omega) ⟨m1, m2, by omega, by omega, t2, by omega, by omega, by omega, .inl ⟨by omega, by omega, by omega⟩⟩
    (by rw [Int.zero_mul]; exact ⟨-1, by rw [Int.mul_neg, Int.mul_one]; omega⟩) (by rw [Int.one_mul]; exact ⟨a / m, by omega⟩)
    (fun x h1 h2 => ⟨h1, by
      have := Int.dvd_add h2 (Int.dvd_trans h1 (Int.dvd_mul_right m (a / m)))
      rwa [e1] at this⟩)
  unfold ivV
  rw [t1, tm2 m1 (by omega)]
  generalize invL ((a % m).toNat + 1) m (a % m) 0 1 = u at *
  have f1 := Int.emod_nonneg u (show m ≠ 0 by omega)
  have f2 := Int.emod_lt_of_pos u (show 0 < m by omega)
  have f3 := Int.emod_add_mul_ediv u m
  refine ⟨f1, f2, ?_⟩
  obtain ⟨z, hz⟩ := d
  refine ⟨z - a * (u / m), ?_⟩
  have e2 : a * u = a * (u % m) + a * (m * (u / m)) := by rw [← Int.mul_add, f3]
  have e3 : a * (m * (u / m)) = m * (a * (u / m)) := Int.mul_left_comm _ _ _
  have e4 : u * a = a * u := Int.mul_comm _ _
  rw [Int.mul_sub]; omega
/-- The parts of two steps by their greatest common divisor. -/
theorem parts {s t : Int} (hs : 0 < s) (ht : 0 < t) : ∃ g s' m, (gfold 0 [s, t] : Int) = g ∧ 0 < g ∧ s = g * s' ∧ t = g * m ∧ 0 < s' ∧ 0 < m ∧ Nat.gcd s'.natAbs m.natAbs = 1 ∧ s' ≤ s ∧ m ≤ t ∧ g ≤ s := by
  obtain ⟨⟨s', h1⟩, ⟨m, h2⟩⟩ := gcd2.1 (Int.dvd_refl (gfold 0 [s, t] : Int))
  have eg : gfold 0 [s, t] = Nat.gcd s.natAbs t.natAbs := by simp [gfold]
  have gp : 0 < Nat.gcd s.natAbs t.natAbs := Nat.gcd_pos_of_pos_left _ (by omega)
  rw [← eg] at gp
  generalize hG : gfold 0 [s, t] = G at *
  have pos : ∀ x y : Int, 0 < x → x = (G : Int) * y → 0 < y ∧ y ≤ x := by
    intro x y hx he
    have y0 : 0 < y := by
      by_cases h : 0 < y
      · exact h
      · have : (G : Int) * y ≤ 0 := Int.mul_nonpos_of_nonneg_of_nonpos (by omega) (by omega)
        omega
    have := Int.mul_le_mul_of_nonneg_right (show (1 : Int) ≤ G by omega) (show 0 ≤ y by omega)
    exact ⟨y0, by omega⟩
  obtain ⟨p1, p2⟩ := pos s s' hs h1
  obtain ⟨p3, p4⟩ := pos t m ht h2
  refine ⟨G, s', m, rfl, by omega, h1, h2, p1, p3, ?_, p2, p4, ?_⟩
  · have n1 : s.natAbs = G * s'.natAbs := by rw [h1, Int.natAbs_mul, Int.natAbs_natCast]
    have n2 : t.natAbs = G * m.natAbs := by rw [h2, Int.natAbs_mul, Int.natAbs_natCast]
    rw [n1, n2, Nat.gcd_mul_left] at eg
    have e : G * Nat.gcd s'.natAbs m.natAbs = G * 1 := by rw [Nat.mul_one]; exact eg.symm
    exact Nat.eq_of_mul_eq_mul_left (by omega) e
  · have := Int.mul_le_mul_of_nonneg_left (show (1 : Int) ≤ s' by omega) (show (0 : Int) ≤ G by omega)
    omega
/-- What stands at the end, for a first k and a last k. -/
theorem vR_meets {a b s c d t m K A : Int} (hs : 0 < s) (hs2 : s ≤ 16777216) (hm : 0 < m) (hm2 : m ≤ 16777216) (ha : Near a) (hK : 0 ≤ K) (hKA : K ≤ A) (hA : A ≤ 4398046511104)
    (H : ∀ n, Mem a b s n ∧ Mem c d t n ↔ ∃ j, n = a + s * j ∧ K ≤ j ∧ j ≤ A ∧ m ∣ j - K) (hAb : s * A ≤ 4398046511104) :
    ∃ lo hi st, vR a s K m A = .agg [.int .i64 lo, .int .i64 hi, .int .i64 st, .bool true] ∧ Meets a b s c d t lo hi st true := by
  obtain ⟨a1, a2⟩ := ha
  obtain ⟨G1, G2, G3, G4⟩ := greatest hm hKA rfl
  have e1 := Int.emod_add_mul_ediv (A - K) m
  have e2 := Int.emod_nonneg (A - K) (show m ≠ 0 by omega)
  have e3 : m * ((A - K) / m) = (A - K) / m * m := Int.mul_comm _ _
  have e4 : 0 ≤ (A - K) / m := Int.ediv_nonneg (by omega) (by omega)
  have e5 : (A - K) / m ≤ A - K := Int.ediv_le_self m (by omega)
  have td : Int.tdiv (A - K) m = (A - K) / m := Int.tdiv_eq_ediv_of_nonneg (by omega)
  have hC : vC A K m = (A - K) / m * m := by unfold vC; rw [W_id (n := A - K) (by omega), td, W_id (n := (A - K) / m) (by omega), W_id (by omega)]
  obtain ⟨S1, S2⟩ := steps (a := a) hs hm G1 G3
  generalize hl : A - (A - K) % m = l at *
  have hl2 : K + vC A K m = l := by rw [hC]; omega
  have sK : 0 ≤ s * K := Int.mul_nonneg (by omega) hK
  have sKl : s * K ≤ s * l := Int.mul_le_mul_of_nonneg_left G1 (by omega)
  have slA : s * l ≤ s * A := Int.mul_le_mul_of_nonneg_left G2 (by omega)
  have sm : 0 ≤ s * m ∧ s * m ≤ 16777216 * 16777216 := ⟨Int.mul_nonneg (by omega) (by omega), Int.mul_le_mul hs2 hm2 (by omega) (by omega)⟩
  have w1 : W (s * K) = s * K := W_id (by omega)
  have w2 : W (a + s * K) = a + s * K := W_id (by omega)
  have w3 : W (K + vC A K m) = l := by rw [hl2]; exact W_id (by omega)
  have w4 : W (s * l) = s * l := W_id (by omega)
  have w5 : W (a + s * l) = a + s * l := W_id (by omega)
  refine ⟨a + s * K, a + s * l, if K < l then s * m else 0, ?_, .inr ⟨rfl, S1, fun n => (S2 n).trans ((H n).trans ?_).symm⟩⟩
  · unfold vR
    rw [w1, w2, w3, w4, w5]
    have hst : mdS (a + s * K) (a + s * l) (vS s m (vC A K m)) = if K < l then s * m else 0 := by
      unfold mdS
      by_cases c : K < l
      · have hlt : s * K < s * l := mul_lt_mul hs c
        rw [if_neg (by omega), if_pos c]
        have hge : m ≤ vC A K m := by
          rw [hC]
          have : 1 ≤ (A - K) / m := by
            by_cases h : 1 ≤ (A - K) / m
            · exact h
            · have : (A - K) / m = 0 := by omega
              rw [this, Int.zero_mul] at hC; omega
          have := Int.mul_le_mul_of_nonneg_right this (show 0 ≤ m by omega)
          omega
        unfold vS
        rw [if_neg (show ¬ vC A K m < m by omega), if_neg (show ¬ (1 > m) by omega)]
        exact W_id (by omega)
      · have : K = l := by omega
        subst this
        rw [if_pos rfl, if_neg (by omega)]
    rw [hst]
  · constructor
    · rintro ⟨j, h1, h2, h3, h4⟩; exact ⟨j, h1, h2, G4 j h3 h4, h4⟩
    · rintro ⟨j, h1, h2, h3, h4⟩; exact ⟨j, h1, h2, by omega, h4⟩
theorem rhs_of {a b s : Int} (h : Ok a b s) (ha : Near a) (hb : Near b) (n : Int) : rhsB a b s n = true ∧ rhsV a b s n = decide (Mem a b s n) := by
  have E : Ev (fun _ => warpwrightref25_Has.f a b s n) (decide (Mem a b s n)) := by rw [rhas_spec h ha hb n]; exact Ev.now _
  exact ⟨evb_eq E, evv_eq E⟩
/-- The numbers of both spans, from the first k on. -/
theorem both_iff {a b s c d t m K F Kn mnv : Int} (hs : 0 < s) (hmn : mnv = if d < b then d else b) (C : ∀ n, (s ∣ n - a ∧ t ∣ n - c) ↔ ∃ j, n = a + s * j ∧ m ∣ j - K) (hF : ∀ j, (0 ≤ j ∧ c ≤ a + s * j) ↔ F ≤ j)
    (hK1 : F ≤ Kn) (hK2 : m ∣ Kn - K) (hK3 : ∀ j, F ≤ j → m ∣ j - K → Kn ≤ j) :
    ∀ n, Mem a b s n ∧ Mem c d t n ↔ ∃ j, n = a + s * j ∧ Kn ≤ j ∧ j ≤ (mnv - a) / s ∧ m ∣ j - Kn := by
  have pos : ∀ j, 0 ≤ j ↔ 0 ≤ s * j := fun j => by
    constructor
    · intro h; exact Int.mul_nonneg (by omega) h
    · intro h
      by_cases q : 0 ≤ j
      · exact q
      · have := mul_lt_mul hs (show j < 0 by omega); rw [Int.mul_zero] at this; omega
  intro n
  constructor
  · rintro ⟨⟨h1, h2, h3⟩, h4, h5, h6⟩
    obtain ⟨j, rfl, hj⟩ := (C n).1 ⟨h3, h6⟩
    have f := (hF j).1 ⟨(pos j).2 (by omega), h4⟩
    refine ⟨j, rfl, hK3 j f hj, (mul_le_iff hs).1 (by rw [hmn]; split <;> omega), ?_⟩
    have := Int.dvd_sub hj hK2
    rwa [show j - K - (Kn - K) = j - Kn by omega] at this
  · rintro ⟨j, rfl, h1, h2, h3⟩
    have g := (mul_le_iff hs).2 h2
    have hj : m ∣ j - K := by
      have := Int.dvd_add h3 hK2
      rwa [show j - Kn + (Kn - K) = j - K by omega] at this
    obtain ⟨c1, c2⟩ := (C _).2 ⟨j, rfl, hj⟩
    obtain ⟨f1, f2⟩ := (hF j).2 (by omega)
    have f3 := (pos j).1 f1
    rw [hmn] at g
    refine ⟨⟨by omega, ?_, c1⟩, f2, ?_, c2⟩
    · split at g <;> omega
    · split at g <;> omega
/-- The ends of a way, once the first k is known. -/
theorem ends {a b s c d t m K F Kn : Int} (h : Ok a b s) (k : Ok c d t) (hs : 0 < s) (hs2 : s ≤ 16777216) (hm : 0 < m) (hm2 : m ≤ 16777216) (ha : Near a) (hb : Near b) (hd : Near d)
    (C : ∀ n, (s ∣ n - a ∧ t ∣ n - c) ↔ ∃ j, n = a + s * j ∧ m ∣ j - K) (hF : ∀ j, (0 ≤ j ∧ c ≤ a + s * j) ↔ F ≤ j)
    (hK0 : 0 ≤ Kn) (hK1 : F ≤ Kn) (hK2 : m ∣ Kn - K) (hK3 : ∀ j, F ≤ j → m ∣ j - K → Kn ≤ j) :
    ∃ j lo hi st is, (j = 0 ∨ j = 1 ∨ j = 2) ∧ QE a b d Kn (vA a b s d) m j = (PE j).map Prod.snd ∧ vEnd a s Kn m (vA a b s d) j = .agg [.int .i64 lo, .int .i64 hi, .int .i64 st, .bool is] ∧ Meets a b s c d t lo hi st is := by
  obtain ⟨a1, a2⟩ := ha
  obtain ⟨b1, b2⟩ := hb
  obtain ⟨d1, d2⟩ := hd
  obtain ⟨mnv, hmn⟩ : ∃ x, x = if d < b then d else b := ⟨_, rfl⟩
  have H := both_iff (d := d) (b := b) hs hmn C hF hK1 hK2 hK3
  have mb : -1099511627776 ≤ mnv ∧ mnv ≤ 1099511627776 := by rw [hmn]; split <;> omega
  by_cases c0 : mnv < a
  · refine ⟨0, 0, 0, 0, false, .inl rfl, ?_, rfl, none_of ?_⟩
    · simp only [QE, PE, List.map_cons, List.map_nil, ← hmn, decide_eq_true c0]
    · rintro n ⟨⟨h1, h2, _⟩, h4, h5, _⟩
      rw [hmn] at c0; split at c0 <;> omega
  · have hA : vA a b s d = (mnv - a) / s := by
      unfold vA
      rw [← hmn, W_id (n := mnv - a) (by omega), Int.tdiv_eq_ediv_of_nonneg (by omega)]
      have := Int.ediv_nonneg (show 0 ≤ mnv - a by omega) (show 0 ≤ s by omega)
      have := Int.ediv_le_self s (show 0 ≤ mnv - a by omega)
      exact W_id (by omega)
    have A0 := Int.ediv_nonneg (show 0 ≤ mnv - a by omega) (show 0 ≤ s by omega)
    have A1 := Int.ediv_le_self s (show 0 ≤ mnv - a by omega)
    have A2 := Int.ediv_mul_le (mnv - a) (show s ≠ 0 by omega)
    rw [Int.mul_comm] at A2
    rw [hA]
    by_cases c1 : Kn > (mnv - a) / s
    · refine ⟨1, 0, 0, 0, false, .inr (.inl rfl), ?_, rfl, none_of ?_⟩
      · simp only [QE, PE, List.map_cons, List.map_nil, ← hmn, decide_eq_false c0, decide_eq_true c1]
      · intro n hn
        obtain ⟨j, _, h2, h3, _⟩ := (H n).1 hn
        omega
    · obtain ⟨lo, hi, st, e, M⟩ := vR_meets (A := (mnv - a) / s) (K := Kn) (d := d) hs hs2 hm hm2 ⟨a1, a2⟩ hK0 (by omega) (by omega) H (by omega)
      refine ⟨2, lo, hi, st, true, .inr (.inr rfl), ?_, e, M⟩
      have : (m == 0) = false := by simp; omega
      simp only [QE, PE, List.map_cons, List.map_nil, ← hmn, decide_eq_false c0, decide_eq_false c1, this]
end Go.Proofs.Yteghmmkhfgkdgaa.SX
namespace Go.Proofs.Yteghmmkhfgkdgaa.SX
open Go Go.Ex Go.RowKit Go.Proofs.YteghmmkhfgkdgaaW.PrintWords Go.Proofs.YteghmmkhfgkdgaaW.PrintLast Go.Proofs.YteghmmkhfgkdgaaW.PrintMore Go.Proofs.Yteghmmkhfgkdgaa.SM Go.Proofs.Yteghmmkhfgkdgaa.QS
set_option maxRecDepth 100000

def MI (a b s c d t : Int) : Prop := ∃ lo hi st is, (T39 a b s c d t).run = some (.agg [.int .i64 lo, .int .i64 hi, .int .i64 st, .bool is], [], 0) ∧ Meets a b s c d t lo hi st is
theorem abs_le_mul {g D x : Int} (hg : 1 ≤ g) (h : x = g * D) (h1 : -4398046511104 ≤ x) (h2 : x ≤ 4398046511104) : -4398046511104 ≤ D ∧ D ≤ 4398046511104 := by
  by_cases q : 0 ≤ D
  · have := Int.mul_le_mul_of_nonneg_right hg q
    omega
  · have := Int.mul_le_mul_of_nonpos_right hg (show D ≤ 0 by omega)
    omega
theorem mi_B {a b s c d t : Int} (h : Ok a b s) (k : Ok c d t) (hs : 0 < s) (ht : 0 < t) (hs2 : s ≤ 16777216) (ht2 : t ≤ 16777216) (ha : Near a) (hb : Near b) (hc : Near c) (hd : Near d) : MI a b s c d t := by
  obtain ⟨g, s', m, eg, g0, es, et, s0', m0, hco, hs', hm', hg'⟩ := parts hs ht
  obtain ⟨gb, gv⟩ := gd_of (x := s) (y := t) (nat_le (by omega) (by omega)) (nat_le (by omega) (by omega))
  rw [eg] at gv
  have ⟨a1, a2⟩ := ha
  have ⟨c1, c2⟩ := hc
  have hM : vM g t = m := by unfold vM; rw [et, Int.mul_tdiv_cancel_left _ (by omega)]; exact W_id (by omega)
  have hS : W (Int.tdiv s g) = s' := by rw [es, Int.mul_tdiv_cancel_left _ (by omega)]; exact W_id (by omega)
  have hca : W (c - a) = c - a := W_id (by omega)
  have z1 : (s == 0) = false := by simp; omega
  have z2 : (t == 0) = false := by simp; omega
  have z3 : (g == 0) = false := by simp; omega
  have z4 : (m == 0) = false := by simp; omega
  by_cases hD : g ∣ c - a
  · obtain ⟨D', hD'⟩ := hD
    have Db := abs_le_mul (by omega) hD' (by omega) (by omega)
    have hX : vX g m a c = D' % m := by
      unfold vX
      rw [hca, hD', Int.mul_tdiv_cancel_left _ (by omega), W_id (n := D') (by omega)]
      exact tm2 (by omega) (by omega)
    obtain ⟨x0, x1, z, hz⟩ := iv_spec (a := s') (m := m) (by omega) (by omega) (by omega) hco
    have hK : vK g m a s c = (D' * ivV s' m) % m := by
      unfold vK mmV
      rw [hX, hS, Int.mul_emod, Int.emod_emod_of_dvd _ (Int.dvd_refl m), ← Int.mul_emod]
    have f1 := Int.emod_nonneg D' (show m ≠ 0 by omega)
    have f2 := Int.emod_lt_of_pos D' (show 0 < m by omega)
    have f3 := Int.emod_nonneg (D' * ivV s' m) (show m ≠ 0 by omega)
    have f4 := Int.emod_lt_of_pos (D' * ivV s' m) (show 0 < m by omega)
    have C := fun n => classes (a := a) (c := c) (x := ivV s' m) (y := -z) es et (by omega) hD' (by rw [Int.mul_neg]; omega) n
    have b1 : ivB s' m = true := cdec_true ⟨by omega, by omega, by omega⟩
    have b2 : mmB (D' % m) (ivV s' m) m = true := cdec_true ⟨f1, f2, x0, by omega, by omega, by omega, by omega⟩
    have hQB : QB a s c t = PB.map Prod.snd := by
      unfold QB
      have t0 : Int.tmod (c - a) g = 0 := (tmod_zero_iff _ _).2 ⟨D', hD'⟩
      rw [gb, gv, hM, hX, hS, hca, t0, z1, z2, z3, z4, b1, b2]
      rfl
    generalize hKK : (D' * ivV s' m) % m = K at *
    have fin : ∀ (i : Nat) (F : Int), (i = 0 ∨ i = 1 ∨ i = 2) → QV a s c K m (vE a s c) i = (PV i).map Prod.snd → (∀ j, (0 ≤ j ∧ c ≤ a + s * j) ↔ F ≤ j) → 0 ≤ vN K m (vE a s c) i → F ≤ vN K m (vE a s c) i → m ∣ vN K m (vE a s c) i - K →
        (∀ j, F ≤ j → m ∣ j - K → vN K m (vE a s c) i ≤ j) → MI a b s c d t := by
      intro i F hi hQV hF k0 k1 k2 k3
      obtain ⟨j, lo, hi', st, is, hj, hQE, hEnd, M⟩ := ends (d := d) h k hs hs2 m0 (by omega) ha hb hd C hF k0 k1 k2 k3
      refine ⟨lo, hi', st, is, path_run (l := PB ++ (PV i ++ PE j)) ((wB a b s c d t i j hi hj).trans ?_), M⟩
      rw [gv, hM, hK, hQB, hQV, hQE, hEnd, List.map_append, List.map_append]
    by_cases cc : c > a
    · have hE : vE a s c = (c - a + s - 1) / s := by
        unfold vE
        rw [hca, W_id (n := c - a + s) (by omega), W_id (n := c - a + s - 1) (by omega), Int.tdiv_eq_ediv_of_nonneg (by omega)]
        have := Int.ediv_nonneg (show 0 ≤ c - a + s - 1 by omega) (show 0 ≤ s by omega)
        have := Int.ediv_le_self s (show 0 ≤ c - a + s - 1 by omega)
        exact W_id (by omega)
      have E0 := Int.ediv_nonneg (show 0 ≤ c - a + s - 1 by omega) (show 0 ≤ s by omega)
      have E1 := Int.ediv_le_self s (show 0 ≤ c - a + s - 1 by omega)
      have hF : ∀ j, (0 ≤ j ∧ c ≤ a + s * j) ↔ (c - a + s - 1) / s ≤ j := fun j => by
        have e := Int.ediv_lt_iff_lt_mul (a := c - a + s - 1) (b := j + 1) (c := s) hs
        rw [Int.add_mul, Int.one_mul, Int.mul_comm j s] at e
        constructor
        · rintro ⟨_, q⟩; have := e.2 (by omega); omega
        · intro q; have := e.1 (by omega); exact ⟨by omega, by omega⟩
      by_cases ck : K < (c - a + s - 1) / s
      · generalize hEE : (c - a + s - 1) / s = E at *
        have w := Int.emod_add_mul_ediv (E - K + m - 1) m
        have w2 := Int.emod_nonneg (E - K + m - 1) (show m ≠ 0 by omega)
        have w3 := Int.emod_lt_of_pos (E - K + m - 1) (show 0 < m by omega)
        have w4 := Int.ediv_nonneg (show 0 ≤ E - K + m - 1 by omega) (show 0 ≤ m by omega)
        have w5 := Int.ediv_le_self m (show 0 ≤ E - K + m - 1 by omega)
        have w6 : m * ((E - K + m - 1) / m) = (E - K + m - 1) / m * m := Int.mul_comm _ _
        have hN : vN K m (vE a s c) 2 = K + (E - K + m - 1) / m * m := by
          show vK2 K m (vE a s c) = _
          unfold vK2
          rw [hE, W_id (n := E - K) (by omega), W_id (n := E - K + m) (by omega), W_id (n := E - K + m - 1) (by omega), Int.tdiv_eq_ediv_of_nonneg (by omega), W_id (n := (E - K + m - 1) / m) (by omega), W_id (n := (E - K + m - 1) / m * m) (by omega)]
          exact W_id (by omega)
        refine fin 2 E (.inr (.inr rfl)) ?_ hF (by rw [hN]; omega) (by rw [hN]; omega) (by rw [hN]; exact ⟨(E - K + m - 1) / m, by omega⟩) ?_
        · simp only [QV, PV, List.map_cons, List.map_nil, hE, decide_eq_true cc, decide_eq_true ck, z1, z4]
        · rw [hN]
          rintro j hj ⟨i, hi⟩
          by_cases q : (E - K + m - 1) / m ≤ i
          · have := Int.mul_le_mul_of_nonneg_left q (show 0 ≤ m by omega)
            omega
          · have := Int.mul_le_mul_of_nonneg_left (show i ≤ (E - K + m - 1) / m - 1 by omega) (show 0 ≤ m by omega)
            rw [Int.mul_sub, Int.mul_one] at this
            omega
      · refine fin 1 ((c - a + s - 1) / s) (.inr (.inl rfl)) ?_ hF f3 (show (c - a + s - 1) / s ≤ K by omega) (show m ∣ K - K by rw [Int.sub_self]; exact Int.dvd_zero _) ?_
        · simp only [QV, PV, List.map_cons, List.map_nil, hE, decide_eq_true cc, decide_eq_false ck, z1]
        · rintro j hj ⟨i, hi⟩
          show K ≤ j
          by_cases q : 0 ≤ i
          · have := Int.mul_nonneg (show 0 ≤ m by omega) q; omega
          · have := Int.mul_le_mul_of_nonneg_left (show i ≤ -1 by omega) (show 0 ≤ m by omega)
            rw [Int.mul_neg, Int.mul_one] at this; omega
    · refine fin 0 0 (.inl rfl) ?_ ?_ f3 (show (0 : Int) ≤ K by omega) (show m ∣ K - K by rw [Int.sub_self]; exact Int.dvd_zero _) ?_
      · simp only [QV, PV, List.map_cons, List.map_nil, decide_eq_false cc, z1]
      · intro j
        constructor
        · exact fun q => q.1
        · intro q; have := Int.mul_nonneg (show 0 ≤ s by omega) q; exact ⟨q, by omega⟩
      · rintro j hj ⟨i, hi⟩
        show K ≤ j
        by_cases q : 0 ≤ i
        · have := Int.mul_nonneg (show 0 ≤ m by omega) q; omega
        · have := Int.mul_le_mul_of_nonneg_left (show i ≤ -1 by omega) (show 0 ≤ m by omega)
          rw [Int.mul_neg, Int.mul_one] at this; omega
  · refine ⟨0, 0, 0, false, path_run (l := [(7, false), (8, false), (6, true), (8, false), (1, true)]) ((wB0 a b s c d t).trans ?_), none_of (no_meet (g := g) ⟨s', es⟩ ⟨m, et⟩ hD)⟩
    have t0 : (Int.tmod (c - a) g != 0) = true := by
      have : Int.tmod (c - a) g ≠ 0 := fun q => hD ((tmod_zero_iff _ _).1 q)
      simpa using this
    rw [gb, gv, hca, t0, z1, z2, z3]
    rfl
theorem one_meets {a b s c d t x : Int} (h1 : Mem a b s x) (h2 : Mem c d t x) (hu : ∀ n, Mem a b s n → Mem c d t n → n = x) : Meets a b s c d t x x 0 true :=
  .inr ⟨rfl, .inl ⟨rfl, rfl⟩, fun n => ⟨fun q => by obtain rfl := mem_single.1 q; exact ⟨h1, h2⟩, fun q => mem_single.2 (hu n q.1 q.2)⟩⟩
/-- MeetIn answers the span of the common elements. -/
theorem mi_run {a b s c d t : Int} (h : Ok a b s) (k : Ok c d t) (hs2 : s ≤ 16777216) (ht2 : t ≤ 16777216) (ha : Near a) (hb : Near b) (hc : Near c) (hd : Near d) : MI a b s c d t := by
  have s0 := h.st0
  have t0 := k.st0
  by_cases zs : s = 0
  · have hab : a = b := by rcases h with q | q <;> omega
    obtain ⟨r1, r2⟩ := rhs_of h ha hb a
    obtain ⟨r3, r4⟩ := rhs_of k hc hd a
    rw [decide_eq_true h.lo_mem] at r2
    have z1 : (s == 0) = true := by simpa using zs
    have z2 : (s != 0) = false := by simp [zs]
    by_cases m : Mem c d t a
    · rw [decide_eq_true m] at r4
      refine ⟨a, a, 0, true, path_run (l := [(7, true), (16, false), (4, true), (2, false), (5, true), (5, false)]) ((wA1y a b s c d t).trans ?_), one_meets h.lo_mem m (fun n q _ => by have := q.1; have := q.2.1; omega)⟩
      rw [r1, r2, r3, r4, z1, z2]
      unfold mdS
      rw [if_pos rfl]; rfl
    · rw [decide_eq_false m] at r4
      refine ⟨0, 0, 0, false, path_run (l := [(7, true), (16, false), (4, true), (2, false), (5, true), (5, true)]) ((wA1n a b s c d t).trans ?_), none_of (fun n q => m (by
        have e : n = a := by have := q.1.1; have := q.1.2.1; omega
        rw [← e]; exact q.2))⟩
      rw [r1, r2, r3, r4, z1, z2]; rfl
  · by_cases zt : t = 0
    · have hcd : c = d := by rcases k with q | q <;> omega
      obtain ⟨r1, r2⟩ := rhs_of h ha hb c
      obtain ⟨r3, r4⟩ := rhs_of k hc hd c
      rw [decide_eq_true k.lo_mem] at r4
      have z1 : (s == 0) = false := by simpa using zs
      have z2 : (s != 0) = true := by simpa using zs
      have z3 : (t == 0) = true := by simpa using zt
      by_cases m : Mem a b s c
      · rw [decide_eq_true m] at r2
        refine ⟨c, c, 0, true, path_run (l := [(7, false), (8, true), (7, true), (7, true), (2, false), (5, true), (5, false)]) ((wA2y a b s c d t).trans ?_), one_meets m k.lo_mem (fun n _ q => by have := q.1; have := q.2.1; omega)⟩
        rw [r1, r2, r3, r4, z1, z2, z3]
        unfold mdS
        rw [if_pos rfl]; rfl
      · rw [decide_eq_false m] at r2
        refine ⟨0, 0, 0, false, path_run (l := [(7, false), (8, true), (7, true), (7, true), (2, true)]) ((wA2n a b s c d t).trans ?_), none_of (fun n q => m (by
          have e : n = c := by have := q.2.1; have := q.2.2.1; omega
          rw [← e]; exact q.1))⟩
        rw [r1, r2, z1, z2, z3]; rfl
    · exact mi_B h k (by omega) (by omega) hs2 ht2 ha hb hc hd
end Go.Proofs.Yteghmmkhfgkdgaa.SX
namespace Go.Proofs.Yteghmmkhfgkdgaa.SX
open Go Go.Ex Go.RowKit Go.Proofs.YteghmmkhfgkdgaaW.PrintWords Go.Proofs.YteghmmkhfgkdgaaW.PrintLast Go.Proofs.YteghmmkhfgkdgaaW.PrintMore Go.Proofs.Yteghmmkhfgkdgaa.SM Go.Proofs.Yteghmmkhfgkdgaa.QS
set_option maxRecDepth 100000

theorem orc_below {o : Orc} (ho : OrcOk Try.prog noG o) {g' : List V → Option (Bool × V)} (hs : ∀ args v, g' args = some (true, v) → o.g args = some (true, v)) : OrcOk Try.prog noG ⟨o.f, g'⟩ := fun args v h => ho args v (hs args v h)
/-- Two spans that the calculations are for. -/
structure Two (a b s c d t : Int) : Prop where
  h : Ok a b s
  k : Ok c d t
  ha : Near a
  hb : Near b
  hc : Near c
  hd : Near d
  hs : s ≤ 16777216
  ht : t ≤ 16777216
theorem Two.a2 {a b s c d t : Int} (w : Two a b s c d t) : A2s a b s c d t := ⟨w.h, w.k, w.ha, w.hb, w.hc, w.hd, by have := w.hs; omega, by have := w.ht; omega⟩
noncomputable def tw (a b s c d t : Int) : Bool := cdec (Two a b s c d t)

noncomputable def p_ad : Orc := ⟨32, fun | [.agg [.int .i64 a, .int .i64 b, .int .i64 s], .agg [.int .i64 c, .int .i64 d, .int .i64 t]] => some (tw a b s c d t, q4 (sumR a b s c d t)) | _ => none⟩
theorem p_ad_ok : OrcOk Try.prog noG p_ad := by
  refine orc_below o_ad_ok (g' := p_ad.g) fun args v h => ?_
  simp only [p_ad] at h
  split at h
  · obtain ⟨h1, rfl⟩ := Prod.mk.inj (Option.some.inj h)
    obtain ⟨h, k, ha, hb, hc, hd, hs, ht⟩ := of_cdec h1
    obtain ⟨e1, e2⟩ := ad_of h k ha hb hc hd (by omega) (by omega)
    simp only [o_ad, e1, e2, q4]
  · cases h
noncomputable def p_sb : Orc := ⟨34, fun | [.agg [.int .i64 a, .int .i64 b, .int .i64 s], .agg [.int .i64 c, .int .i64 d, .int .i64 t]] => some (tw a b s c d t, q4 (sumR a b s (-d) (-c) t)) | _ => none⟩
theorem p_sb_ok : OrcOk Try.prog noG p_sb := by
  refine orc_below o_sb_ok (g' := p_sb.g) fun args v h => ?_
  simp only [p_sb] at h
  split at h
  · obtain ⟨h1, rfl⟩ := Prod.mk.inj (Option.some.inj h)
    obtain ⟨h, k, ha, hb, hc, hd, hs, ht⟩ := of_cdec h1
    obtain ⟨e1, e2⟩ := sb_of h k ha hb hc hd (by omega) (by omega)
    simp only [o_sb, e1, e2, q4]
  · cases h
noncomputable def p_mu : Orc := ⟨36, fun | [.agg [.int .i64 a, .int .i64 b, .int .i64 s], .agg [.int .i64 c, .int .i64 d, .int .i64 t]] => some (tw a b s c d t, q4 (mulR a b s c d t)) | _ => none⟩
theorem p_mu_ok : OrcOk Try.prog noG p_mu := by
  refine orc_below o_mu_ok (g' := p_mu.g) fun args v h => ?_
  simp only [p_mu] at h
  split at h
  · obtain ⟨h1, rfl⟩ := Prod.mk.inj (Option.some.inj h)
    obtain ⟨h, k, ha, hb, hc, hd, hs, ht⟩ := of_cdec h1
    obtain ⟨e1, e2⟩ := mu_of h k ha hb hc hd
    simp only [o_mu, e1, e2, q4]
  · cases h
noncomputable def p_jn : Orc := ⟨23, fun | [.agg [.int .i64 a, .int .i64 b, .int .i64 s], .agg [.int .i64 c, .int .i64 d, .int .i64 t]] => some (tw a b s c d t, q3 (joiR a b s c d t)) | _ => none⟩
theorem p_jn_ok : OrcOk Try.prog noG p_jn := by
  refine orc_below oJn_ok (g' := p_jn.g) fun args v h => ?_
  simp only [p_jn] at h
  split at h
  · obtain ⟨h1, rfl⟩ := Prod.mk.inj (Option.some.inj h)
    obtain ⟨e1, e2⟩ := jn_joi (of_cdec h1).a2
    simp only [oJn, e1, e2, q3]
  · cases h
theorem ref_ok {f : FuncId} {g : List V → Option (Bool × V)} (h : ∀ args v, g args = some (true, v) → ∃ xs y, V.vals args = some xs ∧ v.valT = some y ∧ (evF CR 9 f args [] 0).run = some (v, [], 0)) : OrcOk Try.prog noG ⟨f, g⟩ := by
  intro args v hg
  obtain ⟨xs, y, h1, h2, h3⟩ := h args v hg
  exact ⟨xs, y, h1, h2, fun w hw => evF_calls CR_ok h3 h1 h2 hw⟩
noncomputable def p_adr : Orc := ⟨33, p_ad.g⟩
theorem p_adr_ok : OrcOk Try.prog noG p_adr := ref_ok fun args v h => by
  simp only [p_ad] at h
  split at h
  · obtain ⟨h1, rfl⟩ := Prod.mk.inj (Option.some.inj h)
    exact ⟨_, _, rfl, rfl, e33' (of_cdec h1).a2⟩
  · cases h
noncomputable def p_sbr : Orc := ⟨35, p_sb.g⟩
theorem p_sbr_ok : OrcOk Try.prog noG p_sbr := ref_ok fun args v h => by
  simp only [p_sb] at h
  split at h
  · obtain ⟨h1, rfl⟩ := Prod.mk.inj (Option.some.inj h)
    exact ⟨_, _, rfl, rfl, e35' (of_cdec h1).a2⟩
  · cases h
noncomputable def p_mur : Orc := ⟨37, p_mu.g⟩
theorem p_mur_ok : OrcOk Try.prog noG p_mur := ref_ok fun args v h => by
  simp only [p_mu] at h
  split at h
  · obtain ⟨h1, rfl⟩ := Prod.mk.inj (Option.some.inj h)
    exact ⟨_, _, rfl, rfl, e37' (of_cdec h1).a2⟩
  · cases h
noncomputable def p_jnr : Orc := ⟨38, p_jn.g⟩
theorem p_jnr_ok : OrcOk Try.prog noG p_jnr := ref_ok fun args v h => by
  simp only [p_jn] at h
  split at h
  · obtain ⟨h1, rfl⟩ := Prod.mk.inj (Option.some.inj h)
    exact ⟨_, _, rfl, rfl, e38' (of_cdec h1).a2⟩
  · cases h
/-! ### Products with a number, remainders, spans of bounds -/
def One (a b s : Int) : Prop := Ok a b s ∧ Near a ∧ Near b ∧ s ≤ 16777216
noncomputable def p_sc : Orc := ⟨29, fun | [.agg [.int .i64 a, .int .i64 b, .int .i64 s], .int .i64 k] => some (cdec (One a b s ∧ -9223372036854775808 ≤ k ∧ k ≤ 9223372036854775807), q4 (scaR a b s k)) | _ => none⟩
theorem p_sc_ok : OrcOk Try.prog noG p_sc := by
  refine orc_below o_sc_ok (g' := p_sc.g) fun args v h => ?_
  simp only [p_sc] at h
  split at h
  · obtain ⟨h1, rfl⟩ := Prod.mk.inj (Option.some.inj h)
    obtain ⟨⟨h, ha, hb, _⟩, k1, k2⟩ := of_cdec h1
    obtain ⟨e1, e2⟩ := sc_of h ha hb k1 k2
    simp only [o_sc, e1, e2, q4]
  · cases h
noncomputable def p_scr : Orc := ⟨30, p_sc.g⟩
theorem p_scr_ok : OrcOk Try.prog noG p_scr := ref_ok fun args v h => by
  simp only [p_sc] at h
  split at h
  · obtain ⟨h1, rfl⟩ := Prod.mk.inj (Option.some.inj h)
    obtain ⟨⟨h, ha, hb, _⟩, hk⟩ := of_cdec h1
    exact ⟨_, _, rfl, rfl, e30' h ha hb hk⟩
  · cases h
noncomputable def p_md : Orc := ⟨22, fun | [.agg [.int .i64 a, .int .i64 b, .int .i64 s], .int .i64 k] => some (cdec (One a b s), q4 (modR a s k)) | _ => none⟩
theorem p_md_ok : OrcOk Try.prog noG p_md := by
  intro args v h
  simp only [p_md] at h
  split at h
  · rename_i a b s k
    obtain ⟨h1, rfl⟩ := Prod.mk.inj (Option.some.inj h)
    obtain ⟨h, ha, hb, hs⟩ := of_cdec h1
    obtain ⟨q, hq⟩ := (md_of (b := b) (m := k) h.st0 (by omega) ha).rounds
    exact ⟨_, _, rfl, rfl, fun w _ => warpwrightlaw25_mod.calls q a b s k _ _ _ _ w hq⟩
  · cases h
noncomputable def p_mdr : Orc := ⟨31, p_md.g⟩
theorem p_mdr_ok : OrcOk Try.prog noG p_mdr := ref_ok fun args v h => by
  simp only [p_md] at h
  split at h
  · obtain ⟨h1, rfl⟩ := Prod.mk.inj (Option.some.inj h)
    obtain ⟨h, ha, hb, hs⟩ := of_cdec h1
    exact ⟨_, _, rfl, rfl, e31' h.st0 (by omega)⟩
  · cases h
noncomputable def p_of : Orc := ⟨25, fun | [.int .i64 a, .int .i64 b, .int .i64 s] => some (true, q4 (ofR a b s)) | _ => none⟩
theorem p_of_ok : OrcOk Try.prog noG p_of := by
  intro args v h
  simp only [p_of] at h
  split at h
  · rename_i a b s
    obtain ⟨h1, rfl⟩ := Prod.mk.inj (Option.some.inj h)
    exact ⟨_, _, rfl, rfl, fun w _ => warpwrightlaw25_of.calls a b s _ _ _ _ w (of_ofR a b s)⟩
  · cases h
noncomputable def p_ofr : Orc := ⟨26, p_of.g⟩
theorem p_ofr_ok : OrcOk Try.prog noG p_ofr := ref_ok fun args v h => by
  simp only [p_of] at h
  split at h
  · obtain ⟨h1, rfl⟩ := Prod.mk.inj (Option.some.inj h)
    exact ⟨_, _, rfl, rfl, e26' _ _ _⟩
  · cases h
/-! ### Common elements -/
noncomputable def metR (a b s c d t : Int) : Int × Int × Int × Bool :=
  @dite (Int × Int × Int × Bool) (∃ r : Int × Int × Int × Bool, Meets a b s c d t r.1 r.2.1 r.2.2.1 r.2.2.2) (Classical.propDecidable _) (fun h => h.choose) (fun _ => (0, 0, 0, false))
theorem metR_eq {a b s c d t lo hi st : Int} {is : Bool} (M : Meets a b s c d t lo hi st is) : metR a b s c d t = (lo, hi, st, is) := by
  have hx : ∃ r : Int × Int × Int × Bool, Meets a b s c d t r.1 r.2.1 r.2.2.1 r.2.2.2 := ⟨(lo, hi, st, is), M⟩
  unfold metR
  rw [dif_pos hx]
  obtain ⟨e1, e2, e3, e4⟩ := Meets.uniq hx.choose_spec M
  exact Prod.ext e1 (Prod.ext e2 (Prod.ext e3 e4))
def m4 (r : Int × Int × Int × Bool) : V := .agg [.int .i64 r.1, .int .i64 r.2.1, .int .i64 r.2.2.1, .bool r.2.2.2]
theorem Two.meet {a b s c d t : Int} (w : Two a b s c d t) : Ev (fun q => span_Meet.f q a b s c d t) (metR a b s c d t) := by
  obtain ⟨h, k, ha, hb, hc, hd, hs, ht⟩ := w
  obtain ⟨lo, hi, st, is, E, M⟩ := meet_spec h k (by omega) (by omega) ha.In hb.In hc.In hd.In
  rw [metR_eq M]; exact E
noncomputable def p_mt : Orc := ⟨12, fun | [.agg [.int .i64 a, .int .i64 b, .int .i64 s], .agg [.int .i64 c, .int .i64 d, .int .i64 t]] => some (tw a b s c d t, m4 (metR a b s c d t)) | _ => none⟩
theorem p_mt_ok : OrcOk Try.prog noG p_mt := by
  intro args v h
  simp only [p_mt] at h
  split at h
  · rename_i a b s c d t
    obtain ⟨h1, rfl⟩ := Prod.mk.inj (Option.some.inj h)
    obtain ⟨q, hq⟩ := (lawmeet_spec (Two.meet (of_cdec h1))).rounds
    exact ⟨_, _, rfl, rfl, fun w _ => warpwrightlaw25_meet.calls q a b s c d t _ _ _ _ w hq⟩
  · cases h
noncomputable def p_mtr : Orc := ⟨39, p_mt.g⟩
theorem p_mtr_ok : OrcOk Try.prog noG p_mtr := ref_ok fun args v h => by
  simp only [p_mt] at h
  split at h
  · obtain ⟨h1, rfl⟩ := Prod.mk.inj (Option.some.inj h)
    obtain ⟨h, k, ha, hb, hc, hd, hs, ht⟩ := of_cdec h1
    obtain ⟨lo, hi, st, is, E, M⟩ := mi_run h k hs ht ha hb hc hd
    refine ⟨_, _, rfl, rfl, ?_⟩
    rw [metR_eq M]; exact E
  · cases h
noncomputable def p_ap : Orc := ⟨14, fun | [.agg [.int .i64 a, .int .i64 b, .int .i64 s], .agg [.int .i64 c, .int .i64 d, .int .i64 t]] => some (tw a b s c d t, .bool (!(metR a b s c d t).2.2.2)) | _ => none⟩
theorem p_ap_ok : OrcOk Try.prog noG p_ap := by
  intro args v h
  simp only [p_ap] at h
  split at h
  · rename_i a b s c d t
    obtain ⟨h1, rfl⟩ := Prod.mk.inj (Option.some.inj h)
    obtain ⟨q, hq⟩ := (apart_spec (Two.meet (of_cdec h1))).rounds
    exact ⟨_, _, rfl, rfl, fun w _ => span_Apart.calls q a b s c d t _ w hq⟩
  · cases h
/-! ### Valid, Has, Size -/
theorem valid_any (lo hi st : Int) : Ev (fun k => span_Valid.f k lo hi st) (decide (Vld lo hi st)) := by
  have J : ∀ x, Ev (fun k => span_Valid.j0 k x lo hi st) (if x = true then false else if lo = hi then (st == 0) else if st > 0 then (Int.tmod (wrap64 (hi - lo)) st == 0) else false) := by
    intro x
    refine Ev.step (f := fun _ => some _) (fun k => ?_) (Ev.now _)
    simp only [span_Valid.j0]
    split
    · rfl
    · split
      · rfl
      · split
        · rw [if_neg (by omega)]
        · rfl
  by_cases h1 : Near lo
  · by_cases h2 : Near hi
    · refine Ev.congr (f := fun k => span_Valid.j0 k (decide (lo > hi)) lo hi st) (fun k => by unfold span_Valid.f; rw [near_spec, near_spec, decide_eq_true h1, decide_eq_true h2]; rfl) ?_
      have e := J (decide (lo > hi))
      have hv : (if decide (lo > hi) = true then false else if lo = hi then (st == 0) else if st > 0 then (Int.tmod (wrap64 (hi - lo)) st == 0) else false) = decide (Vld lo hi st) := by
        have ⟨a1, a2⟩ := h1
        have ⟨b1, b2⟩ := h2
        rw [w64 (n := hi - lo) (by omega) (by omega), Bool.eq_iff_iff]
        constructor
        · intro q
          refine decide_eq_true ⟨h1, h2, ?_⟩
          by_cases c1 : lo > hi
          · simp [c1] at q
          · by_cases c2 : lo = hi
            · simp [c2] at q; exact .inl ⟨c2, q⟩
            · by_cases c3 : st > 0
              · simp [c1, c2, c3] at q; exact .inr ⟨by omega, by omega, (tmod_zero_iff _ _).1 q⟩
              · simp [c1, c2, c3] at q
        · intro qq
          obtain ⟨_, _, q | ⟨q1, q2, q3⟩⟩ := of_decide_eq_true qq
          · simp [q.1, q.2]
          · have c1 : ¬ lo > hi := by omega
            have c2 : ¬ lo = hi := by omega
            have c3 : st > 0 := by omega
            simp [c1, c2, c3, (tmod_zero_iff _ _).2 q3]
      rw [hv] at e; exact e
    · refine Ev.congr (f := fun k => span_Valid.j0 k true lo hi st) (fun k => by unfold span_Valid.f; rw [near_spec, near_spec, decide_eq_true h1, decide_eq_false h2]; rfl) ?_
      rw [decide_eq_false (fun q : Vld lo hi st => h2 q.2.1)]
      exact J true
  · refine Ev.congr (f := fun k => span_Valid.j0 k true lo hi st) (fun k => by unfold span_Valid.f; rw [near_spec, decide_eq_false h1]; rfl) ?_
    rw [decide_eq_false (fun q : Vld lo hi st => h1 q.1)]
    exact J true
def p_va : Orc := ⟨15, fun | [.agg [.int .i64 a, .int .i64 b, .int .i64 s]] => some (true, .bool (decide (Vld a b s))) | _ => none⟩
theorem p_va_ok : OrcOk Try.prog noG p_va := by
  intro args v h
  simp only [p_va] at h
  split at h
  · rename_i a b s
    obtain ⟨_, rfl⟩ := Prod.mk.inj (Option.some.inj h)
    obtain ⟨q, hq⟩ := (valid_any a b s).rounds
    exact ⟨_, _, rfl, rfl, fun w _ => span_Valid.calls q a b s _ w hq⟩
  · cases h
def p_var : Orc := ⟨19, p_va.g⟩
theorem p_var_ok : OrcOk Try.prog noG p_var := by
  intro args v h
  simp only [p_var, p_va] at h
  split at h
  · rename_i a b s
    obtain ⟨_, rfl⟩ := Prod.mk.inj (Option.some.inj h)
    obtain ⟨q, hq⟩ := (rvalid_spec a b s).rounds
    exact ⟨_, _, rfl, rfl, fun w _ => warpwrightref25_Valid.calls q a b s _ w hq⟩
  · cases h
noncomputable def p_hs : Orc := ⟨13, fun | [.agg [.int .i64 a, .int .i64 b, .int .i64 s], .int .i64 n] => some (cdec (One a b s), .bool (decide (Mem a b s n))) | _ => none⟩
theorem p_hs_ok : OrcOk Try.prog noG p_hs := by
  intro args v h
  simp only [p_hs] at h
  split at h
  · rename_i a b s n
    obtain ⟨h1, rfl⟩ := Prod.mk.inj (Option.some.inj h)
    obtain ⟨h, ha, hb, _⟩ := of_cdec h1
    exact ⟨_, _, rfl, rfl, fun w _ => span_Has.calls a b s n _ w (has_spec h (by unfold Near at ha; omega) (by unfold Near at hb; omega) n)⟩
  · cases h
noncomputable def p_hsr : Orc := ⟨27, p_hs.g⟩
theorem p_hsr_ok : OrcOk Try.prog noG p_hsr := by
  intro args v h
  simp only [p_hsr, p_hs] at h
  split at h
  · rename_i a b s n
    obtain ⟨h1, rfl⟩ := Prod.mk.inj (Option.some.inj h)
    obtain ⟨h, ha, hb, _⟩ := of_cdec h1
    exact ⟨_, _, rfl, rfl, fun w _ => warpwrightref25_Has.calls a b s n _ w (rhas_spec h ha hb n)⟩
  · cases h
noncomputable def p_sz : Orc := ⟨16, fun | [.agg [.int .i64 a, .int .i64 b, .int .i64 s]] => some (cdec (One a b s), .int .i64 (cnt a b s (b + 1))) | _ => none⟩
theorem p_sz_ok : OrcOk Try.prog noG p_sz := by
  intro args v h
  simp only [p_sz] at h
  split at h
  · rename_i a b s
    obtain ⟨h1, rfl⟩ := Prod.mk.inj (Option.some.inj h)
    obtain ⟨h, ha, hb, _⟩ := of_cdec h1
    exact ⟨_, _, rfl, rfl, fun w _ => span_Size.calls a b s _ w (size_cnt h ha hb (by omega))⟩
  · cases h
noncomputable def p_szr : Orc := ⟨28, p_sz.g⟩
theorem rsize_eq (a b s : Int) : warpwrightref25_Size.f a b s = span_Size.f a b s := by
  unfold warpwrightref25_Size.f span_Size.f
  first
  | rfl
  | (split <;> simp_all)
theorem p_szr_ok : OrcOk Try.prog noG p_szr := by
  intro args v h
  simp only [p_szr, p_sz] at h
  split at h
  · rename_i a b s
    obtain ⟨h1, rfl⟩ := Prod.mk.inj (Option.some.inj h)
    obtain ⟨h, ha, hb, _⟩ := of_cdec h1
    exact ⟨_, _, rfl, rfl, fun w _ => warpwrightref25_Size.calls a b s _ w (by rw [rsize_eq]; exact size_cnt h ha hb (by omega))⟩
  · cases h
/-! ### The configuration of the law -/
noncomputable def C7 : Cfg := mkC Try.prog noG eqT [oEx, oSm, o_sp, p_ad, p_sb, p_mu, p_jn, p_adr, p_sbr, p_mur, p_jnr, p_sc, p_scr, p_md, p_mdr, p_of, p_ofr, p_mt, p_mtr, p_ap, p_va, p_var, p_hs, p_hsr, p_sz, p_szr]
theorem C7_ok : C7.Ok := mkC_ok mixed (names_of names) eqs (by
  intro o ho
  simp only [List.mem_cons, List.not_mem_nil, or_false] at ho
  rcases ho with rfl | rfl | rfl | rfl | rfl | rfl | rfl | rfl | rfl | rfl | rfl | rfl | rfl | rfl | rfl | rfl | rfl | rfl | rfl | rfl | rfl | rfl | rfl | rfl | rfl | rfl
  · exact oEx_ok
  · exact oSm_ok
  · exact o_sp_ok
  · exact p_ad_ok
  · exact p_sb_ok
  · exact p_mu_ok
  · exact p_jn_ok
  · exact p_adr_ok
  · exact p_sbr_ok
  · exact p_mur_ok
  · exact p_jnr_ok
  · exact p_sc_ok
  · exact p_scr_ok
  · exact p_md_ok
  · exact p_mdr_ok
  · exact p_of_ok
  · exact p_ofr_ok
  · exact p_mt_ok
  · exact p_mtr_ok
  · exact p_ap_ok
  · exact p_va_ok
  · exact p_var_ok
  · exact p_hs_ok
  · exact p_hsr_ok
  · exact p_sz_ok
  · exact p_szr_ok)
end Go.Proofs.Yteghmmkhfgkdgaa.SX
