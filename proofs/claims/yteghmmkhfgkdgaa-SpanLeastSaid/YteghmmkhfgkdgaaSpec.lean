/- What the printed functions of the package span compute, said in plain numbers. -/
import Derived.Test.YteghmmkhfgkdgaaMath
import Derived.Test.YteghmmkhfgkdgaaQSx4
import Derived.Test.YteghmmkhfgkdgaaQSx6
import Derived.Laws.Bits64
namespace Go.Proofs.Yteghmmkhfgkdgaa.SM
open Go.RowKit Go.Proofs.YteghmmkhfgkdgaaW.PrintWords Go.Proofs.YteghmmkhfgkdgaaW.PrintLast Go.Proofs.YteghmmkhfgkdgaaW.PrintMore Go.Proofs.Yteghmmkhfgkdgaa.QS

theorem _root_.Go.Proofs.YteghmmkhfgkdgaaW.PrintWords.Ev.now {α : Type} (r : α) : Ev (fun _ => some r) r := ⟨0, fun _ _ => rfl⟩
theorem _root_.Go.Proofs.YteghmmkhfgkdgaaW.PrintWords.Ev.rounds {α : Type} {g : Nat → Option α} {r : α} (h : Ev g r) : ∃ k, g k = some r := h.elim fun K h => ⟨K, h K (Nat.le_refl _)⟩
theorem w64 {n : Int} (h1 : -9223372036854775808 ≤ n) (h2 : n ≤ 9223372036854775807) : wrap64 n = n := by unfold wrap64; omega
theorem u64 {n : Int} (h1 : 0 ≤ n) (h2 : n < 18446744073709551616) : IntKind.u64.wrap n = n := by rw [IntKind.wrap_u64]; omega

theorem has_spec {lo hi st : Int} (h : Ok lo hi st) (h1 : -4611686018427387904 ≤ lo) (h2 : hi ≤ 4611686018427387903) (n : Int) : span_Has.f lo hi st n = some (decide (Mem lo hi st n)) := by
  unfold span_Has.f
  by_cases c1 : lo ≤ n
  · rw [if_pos c1]
    by_cases c2 : n ≤ hi
    · rw [if_pos c2]
      by_cases c3 : n = lo
      · rw [if_pos c3]; subst c3; rw [decide_eq_true h.lo_mem]
      · rw [if_neg c3]
        have hst : st ≠ 0 := by rcases h with h | h <;> omega
        rw [if_neg hst, w64 (by omega) (by omega)]
        congr 1
        rw [Bool.eq_iff_iff]
        simp only [beq_iff_eq, decide_eq_true_eq, tmod_zero_iff]
        exact ⟨fun k => ⟨c1, c2, k⟩, fun k => k.2.2⟩
    · rw [if_neg c2]; rw [decide_eq_false (fun k => c2 k.2.1)]
  · rw [if_neg c1]; rw [decide_eq_false (fun k => c1 k.1)]

theorem floor_spec {a b : Int} (hb : 0 < b) (h1 : -4611686018427387904 ≤ a) (h2 : a ≤ 4611686018427387903) : span_floor.f a b = some (a / b) := by
  unfold span_floor.f
  rw [if_neg (by omega)]
  have hf := floor_pos (a := a) hb
  have q1 : a / b ≤ 4611686018427387903 := by
    by_cases h : 0 ≤ a
    · have := Int.ediv_le_self b h; omega
    · have := Int.ediv_neg_of_neg_of_pos (show a < 0 by omega) hb; omega
  have q2 : -4611686018427387904 ≤ a / b := by
    rw [Int.le_ediv_iff_mul_le hb]
    have : -4611686018427387904 * b ≤ -4611686018427387904 * 1 := Int.mul_le_mul_of_nonpos_left (by omega) (by omega)
    omega
  by_cases c : Int.tmod a b < 0
  · rw [if_pos c] at hf ⊢
    have e : wrap64 (Int.tdiv a b) = Int.tdiv a b := w64 (by omega) (by omega)
    rw [e, w64 (by omega) (by omega), hf]
  · rw [if_neg c] at hf ⊢
    rw [w64 (by omega) (by omega), hf]

theorem rest_spec {a b : Int} (hb : 0 < b) (hB : b ≤ 4611686018427387904) (h1 : -4611686018427387904 ≤ a) (h2 : a ≤ 4611686018427387903) : span_rest.f a b = some (a % b) := by
  unfold span_rest.f
  rw [floor_spec hb h1 h2]
  have e1 := Int.emod_add_mul_ediv a b
  have e2 := Int.emod_nonneg a (show b ≠ 0 by omega)
  have e3 := Int.emod_lt_of_pos a hb
  simp only [Option.bind_some]
  rw [Int.mul_comm (a / b) b, w64 (n := b * (a / b)) (by omega) (by omega), w64 (by omega) (by omega)]
  congr 1; omega

/-! ### The greatest common divisor of a list -/
def gfold (g : Nat) (l : List Int) : Nat := l.foldl (fun a n => Nat.gcd a n.natAbs) g
theorem gcd_step (g n : Int) : Nat.gcd n.natAbs (Int.tmod g n).natAbs = Nat.gcd g.natAbs n.natAbs := by
  rw [Int.natAbs_tmod, Nat.gcd_comm, ← Nat.gcd_rec, Nat.gcd_comm]
theorem gcd_l1 (l : List Int) (len i : Int) (r : Int) (B : Nat) : ∀ (d : Nat) (g n : Int), n.natAbs = d → g.natAbs ≤ B → n.natAbs ≤ B →
    (∀ g' : Int, g'.natAbs = Nat.gcd g.natAbs n.natAbs → g'.natAbs ≤ B → Ev (fun k => span_gcd.l0 k g' l len (wrap64 (i + 1))) r) → Ev (fun k => span_gcd.l1 k g n l len i) r := by
  intro d
  induction d using Nat.strongRecOn with
  | _ d ih =>
    intro g n hd hg hn H
    by_cases c : n = 0
    · subst c
      exact Ev.step (fun k => by simp only [span_gcd.l1, if_true]) (H g (by simp) hg)
    · refine Ev.step (fun k => by simp only [span_gcd.l1]; rw [if_neg c]) ?_
      have hlt : (Int.tmod g n).natAbs < n.natAbs := by rw [Int.natAbs_tmod]; exact Nat.mod_lt _ (by omega)
      refine ih _ (by omega) n _ rfl hn (by omega) ?_
      intro g' e; rw [gcd_step] at e; exact H g' e
theorem mx_abs {g : Int} (h : g.natAbs ≤ 4611686018427387904) : mx g (wrap64 (-g)) = (g.natAbs : Int) := by
  rw [w64 (by omega) (by omega)]; unfold mx; split <;> omega
theorem gcd_l0 (l : List Int) (hl : l.length ≤ 1000) (hb : ∀ n ∈ l, n.natAbs ≤ 4611686018427387904) : ∀ (d i : Nat) (g : Int), i + d = l.length → g.natAbs ≤ 4611686018427387904 →
    Ev (fun k => span_gcd.l0 k g l (l.length : Int) i) (gfold g.natAbs (l.drop i) : Int) := by
  intro d
  induction d with
  | zero =>
    intro i g hi hg
    have e : l.drop i = [] := List.drop_eq_nil_of_le (by omega)
    rw [e]
    refine Ev.step (f := fun _ => some (mx g (wrap64 (-g)))) (fun k => by simp only [span_gcd.l0]; rw [if_neg (by omega)]) ?_
    rw [mx_abs hg]; exact Ev.now _
  | succ d ih =>
    intro i g hi hg
    have hlt : i < l.length := by omega
    have e : l.drop i = l[i] :: l.drop (i + 1) := List.drop_eq_getElem_cons hlt
    rw [e]
    refine Ev.step (fun k => by simp only [span_gcd.l0]; rw [if_pos (by omega), if_pos (by omega), if_pos (by omega)]) ?_
    have er : rd l i = l[i] := by unfold rd; simp [hlt]
    rw [er]
    refine gcd_l1 l _ i _ 4611686018427387904 _ g l[i] rfl hg (hb _ (List.getElem_mem hlt)) ?_
    intro g' e' hB
    rw [show wrap64 ((i : Int) + 1) = ((i + 1 : Nat) : Int) by rw [w64 (by omega) (by omega)]; omega]
    have := ih (i + 1) g' (by omega) hB
    rw [e'] at this; exact this
theorem gcd_spec (l : List Int) (hl : l.length ≤ 1000) (hb : ∀ n ∈ l, n.natAbs ≤ 4611686018427387904) : Ev (fun k => span_gcd.f k l) (gfold 0 l : Int) := by
  have := gcd_l0 l hl hb l.length 0 0 (by omega) (by omega)
  simpa [span_gcd.f] using this

/-! ### The Euclidean algorithm with its coefficients -/
theorem euclid_spec : ∀ (n : Nat) (a b : Int), b.toNat = n → 0 ≤ a → 0 ≤ b → a ≤ 1099511627776 → b ≤ 1099511627776 →
    ∃ g x y : Int, Ev (fun k => span_euclid.f k a b) (g, x, y) ∧ a * x + b * y = g ∧ g ∣ a ∧ g ∣ b ∧ (0 < a → 0 < g) ∧ (0 < b → 0 < g) ∧ (b = 0 → x = 1 ∧ y = 0) ∧
      (1 ≤ b → -b ≤ x ∧ x ≤ b) ∧ (1 ≤ b → -(if 1 ≤ a then a else 1) ≤ y ∧ y ≤ (if 1 ≤ a then a else 1)) := by
  intro n
  induction n using Nat.strongRecOn with
  | _ n ih =>
    intro a b hn ha hb hA hB
    by_cases c : b = 0
    · subst c
      exact ⟨a, 1, 0, Ev.step (fun k => by simp only [span_euclid.f, if_true]) (Ev.now _), by omega, Int.dvd_refl _, Int.dvd_zero _, by omega, by omega, by omega, by omega, by omega⟩
    · have hb' : 0 < b := by omega
      have e0 : Int.tmod a b = a % b := Int.tmod_eq_emod_of_nonneg ha
      have e1 : Int.tdiv a b = a / b := Int.tdiv_eq_ediv_of_nonneg ha
      have e2 := Int.emod_add_mul_ediv a b
      have e3 := Int.emod_nonneg a (show b ≠ 0 by omega)
      have e4 := Int.emod_lt_of_pos a hb'
      have e5 : 0 ≤ a / b := Int.ediv_nonneg ha hb
      have e6 : a / b ≤ a := Int.ediv_le_self b ha
      obtain ⟨g, x, y, hE, hg, g1, g2, g3, g4, g5, g6, g7⟩ := ih (a % b).toNat (by omega) b (a % b) rfl hb e3 hB (by omega)
      have hy : a % b = 0 → y = 0 := fun h => (g5 h).2
      have hx : a % b = 0 → x = 1 := fun h => (g5 h).1
      generalize hr : a % b = r at *
      generalize hq : a / b = q at *
      have yb : 1 ≤ r → -b ≤ y ∧ y ≤ b := fun h => by have := g7 h; rw [if_pos (by omega)] at this; exact this
      have yb' : -b ≤ y ∧ y ≤ b := by
        by_cases h : 1 ≤ r
        · exact yb h
        · have := hy (by omega); omega
      have qy1 : q * y ≤ q * b := Int.mul_le_mul_of_nonneg_left yb'.2 e5
      have qy2 : q * (-b) ≤ q * y := Int.mul_le_mul_of_nonneg_left yb'.1 e5
      rw [Int.mul_neg] at qy2
      have qb : q * b = b * q := Int.mul_comm _ _
      have xr : -(if 1 ≤ r then r else 1) ≤ x ∧ x ≤ (if 1 ≤ r then r else 1) := by
        by_cases h : 1 ≤ r
        · rw [if_pos h]; exact g6 h
        · have := hx (by omega); rw [if_neg h]; omega
      refine ⟨g, y, x - q * y, ?_, ?_, ?_, g1, fun _ => g3 hb', fun _ => g3 hb', fun h => absurd h c, fun _ => yb', fun _ => ?_⟩
      · refine Ev.step (fun k => by simp only [span_euclid.f]; rw [if_neg c, e0, e1]) ?_
        refine Ev.bind hE ?_
        have w1 : wrap64 q = q := w64 (by omega) (by omega)
        have w2 : wrap64 (q * y) = q * y := w64 (by omega) (by omega)
        have w3 : wrap64 (x - q * y) = x - q * y := w64 (by split at xr <;> omega) (by split at xr <;> omega)
        simp only [w1, w2, w3]
        exact Ev.now _
      · have : b * (x - q * y) = b * x - b * q * y := by rw [Int.mul_sub, Int.mul_assoc]
        have h2 : a * y = r * y + b * q * y := by rw [← Int.add_mul]; congr 1; omega
        omega
      · have : g ∣ r + b * q := Int.dvd_add g2 (Int.dvd_trans g1 (Int.dvd_mul_right _ _))
        rwa [e2] at this
      · by_cases h : 1 ≤ r
        · rw [if_pos h] at xr; split <;> omega
        · have h0 : r = 0 := by omega
          have := hy h0; have := hx h0; subst y x
          split <;> omega

/-! ### Products of 64 bits -/
theorem mask32 {x : Int} (h1 : 0 ≤ x) (h2 : x < 18446744073709551616) : Go.bits .and .u64 x 4294967295 = x % 4294967296 :=
  bits_mask .u64 64 (by decide) (fun n a b => u64 a b) 32 (by decide) x h1 h2

theorem mul64_spec {x y : Int} (x0 : 0 ≤ x) (x1 : x < 18446744073709551616) (y0 : 0 ≤ y) (y1 : y < 18446744073709551616) :
    bits_Mul64.f x y = some ((x * y) / 18446744073709551616, (x * y) % 18446744073709551616) := by
  unfold bits_Mul64.f
  rw [mask32 x0 x1, mask32 y0 y1]
  have ex : x = 4294967296 * (x / 4294967296) + x % 4294967296 := by omega
  have ey : y = 4294967296 * (y / 4294967296) + y % 4294967296 := by omega
  have a0 : 0 ≤ x / 4294967296 := by omega
  have a1 : x / 4294967296 ≤ 4294967295 := by omega
  have b0 : 0 ≤ x % 4294967296 := by omega
  have b1 : x % 4294967296 ≤ 4294967295 := by omega
  have c0 : 0 ≤ y / 4294967296 := by omega
  have c1 : y / 4294967296 ≤ 4294967295 := by omega
  have d0 : 0 ≤ y % 4294967296 := by omega
  have d1 : y % 4294967296 ≤ 4294967295 := by omega
  generalize x / 4294967296 = a at *
  generalize x % 4294967296 = b at *
  generalize y / 4294967296 = c at *
  generalize y % 4294967296 = d at *
  have bound : ∀ {p q : Int}, 0 ≤ p → p ≤ 4294967295 → 0 ≤ q → q ≤ 4294967295 → 0 ≤ p * q ∧ p * q ≤ 18446744065119617025 := by
    intro p q p0 p1 q0 q1
    refine ⟨Int.mul_nonneg p0 q0, ?_⟩
    have h1 : p * q ≤ 4294967295 * q := Int.mul_le_mul_of_nonneg_right p1 q0
    omega
  obtain ⟨ac0, ac1⟩ := bound a0 a1 c0 c1
  obtain ⟨ad0, ad1⟩ := bound a0 a1 d0 d1
  obtain ⟨bc0, bc1⟩ := bound b0 b1 c0 c1
  obtain ⟨bd0, bd1⟩ := bound b0 b1 d0 d1
  have exy : x * y = 18446744073709551616 * (a * c) + 4294967296 * (a * d) + 4294967296 * (b * c) + b * d := by
    rw [ex, ey, Int.add_mul, Int.mul_add, Int.mul_add]
    have q1 : 4294967296 * a * (4294967296 * c) = 18446744073709551616 * (a * c) := by
      rw [Int.mul_assoc, Int.mul_left_comm a, ← Int.mul_assoc]; omega
    have q2 : 4294967296 * a * d = 4294967296 * (a * d) := Int.mul_assoc _ _ _
    have q3 : b * (4294967296 * c) = 4294967296 * (b * c) := Int.mul_left_comm _ _ _
    omega
  generalize hac : a * c = ac at *
  generalize had : a * d = ad at *
  generalize hbc : b * c = bc at *
  generalize hbd : b * d = bd at *
  generalize x * y = xy at *
  clear hac had hbc hbd ex ey bound
  rw [u64 (n := bd) bd0 (by omega), u64 (n := ad) ad0 (by omega), u64 (n := ac) ac0 (by omega), u64 (n := bc) bc0 (by omega), u64 (n := ad + bd / 4294967296) (by omega) (by omega)]
  rw [mask32 (by omega) (by omega)]
  have s1 : 0 ≤ (ad + bd / 4294967296) % 4294967296 + bc ∧ (ad + bd / 4294967296) % 4294967296 + bc < 18446744073709551616 := by omega
  rw [u64 (n := (ad + bd / 4294967296) % 4294967296 + bc) s1.1 s1.2]
  have s2 : 0 ≤ ac + (ad + bd / 4294967296) / 4294967296 ∧ ac + (ad + bd / 4294967296) / 4294967296 < 18446744073709551616 := by omega
  rw [u64 (n := ac + (ad + bd / 4294967296) / 4294967296) s2.1 s2.2]
  have s3 : ac + (ad + bd / 4294967296) / 4294967296 + ((ad + bd / 4294967296) % 4294967296 + bc) / 4294967296 = xy / 18446744073709551616 := by omega
  rw [s3, u64 (by omega) (by omega), IntKind.wrap_u64]

theorem mulmod_spec {a b m : Int} (m0 : 0 < m) (m1 : m ≤ 2147483648) (a1 : -4611686018427387904 ≤ a) (a2 : a ≤ 4611686018427387903) (b1 : -4611686018427387904 ≤ b) (b2 : b ≤ 4611686018427387903) :
    span_mulmod.f a b m = some ((a * b) % m) := by
  unfold span_mulmod.f
  rw [rest_spec m0 (by omega) a1 a2]
  simp only [Option.bind_some]
  rw [rest_spec m0 (by omega) b1 b2]
  simp only [Option.bind_some]
  have p0 := Int.emod_nonneg a (show m ≠ 0 by omega)
  have p1 := Int.emod_lt_of_pos a m0
  have q0 := Int.emod_nonneg b (show m ≠ 0 by omega)
  have q1 := Int.emod_lt_of_pos b m0
  have hmul : (a * b) % m = (a % m * (b % m)) % m := Int.mul_emod _ _ _
  generalize a % m = p at *
  generalize b % m = q at *
  have pq0 : 0 ≤ p * q := Int.mul_nonneg p0 q0
  have pq1 : p * q ≤ 2147483648 * q := Int.mul_le_mul_of_nonneg_right (by omega) q0
  rw [u64 p0 (by omega), u64 q0 (by omega), mul64_spec p0 (by omega) q0 (by omega)]
  simp only [Option.bind_some]
  rw [hmul]
  generalize p * q = pq at *
  have h1 : pq / 18446744073709551616 = 0 := by omega
  have h2 : pq % 18446744073709551616 = pq := by omega
  rw [h1, h2, u64 (n := m) (by omega) (by omega)]
  unfold bits_Rem64.f
  rw [if_neg (by omega)]
  unfold bits_Div64.f
  simp only [Int.zero_tmod]
  rw [if_neg (by omega), if_neg (by omega)]
  simp only [if_true, Option.bind_some]
  have r1 : Int.tmod pq m = pq % m := Int.tmod_eq_emod_of_nonneg pq0
  have r2 := Int.emod_nonneg pq (show m ≠ 0 by omega)
  have r3 := Int.emod_lt_of_pos pq m0
  rw [r1, w64 (by omega) (by omega)]
end Go.Proofs.Yteghmmkhfgkdgaa.SM
