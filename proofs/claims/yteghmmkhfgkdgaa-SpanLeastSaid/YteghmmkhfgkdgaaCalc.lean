/- Sums, differences and products of spans: what the printed functions compute, and that it holds what it should. -/
import Derived.Test.YteghmmkhfgkdgaaPth
import Derived.Test.YteghmmkhfgkdgaaRef
import Derived.Test.YteghmmkhfgkdgaaJoin
set_option linter.unusedSimpArgs false
set_option linter.unusedVariables false
namespace Go.Proofs.Yteghmmkhfgkdgaa.SX
open Go Go.Ex Go.RowKit Go.Proofs.YteghmmkhfgkdgaaW.PrintWords Go.Proofs.YteghmmkhfgkdgaaW.PrintLast Go.Proofs.YteghmmkhfgkdgaaW.PrintMore Go.Proofs.Yteghmmkhfgkdgaa.SM Go.Proofs.Yteghmmkhfgkdgaa.QS

theorem made_eq (lo hi st : Int) : span_made.f lo hi st = some (lo, hi, if lo = hi then 0 else st) := by
  unfold span_made.f; split <;> rfl
theorem bounded_eq (lo hi st : Int) : span_bounded.f lo hi st = some (if Near lo ∧ Near hi then (lo, hi, if lo = hi then 0 else st, 0) else (0, 0, 0, 2)) := by
  unfold span_bounded.f
  rw [near_spec, near_spec, made_eq]
  simp only [Option.bind_some]
  by_cases h1 : Near lo <;> by_cases h2 : Near hi <;> simp [h1, h2]

/-- The span with two ends and a step, which is 0 if the ends are one. -/
theorem ok_of {lo hi g : Int} (hle : lo ≤ hi) (g0 : 0 ≤ g) (hd : g ∣ hi - lo) : Ok lo hi (if lo = hi then 0 else g) := by
  by_cases c : lo = hi
  · rw [if_pos c]; exact .inl ⟨c, rfl⟩
  · rw [if_neg c]
    refine .inr ⟨by omega, ?_, hd⟩
    by_cases z : g = 0
    · subst z; have := Int.zero_dvd.1 hd; omega
    · omega
theorem mem_of {lo hi g n : Int} (h1 : lo ≤ n) (h2 : n ≤ hi) (hd : g ∣ n - lo) : Mem lo hi (if lo = hi then 0 else g) n := by
  by_cases c : lo = hi
  · rw [if_pos c]; exact ⟨h1, h2, by rw [show n - lo = 0 by omega]; exact Int.dvd_refl _⟩
  · rw [if_neg c]; exact ⟨h1, h2, hd⟩
theorem Ok.neg {a b s : Int} (h : Ok a b s) : Ok (-b) (-a) s := by
  rcases h with ⟨h1, h2⟩ | ⟨h1, h2, h3⟩
  · exact .inl ⟨by omega, h2⟩
  · exact .inr ⟨by omega, h2, by rw [show -a - -b = b - a by omega]; exact h3⟩
theorem Mem.neg {a b s n : Int} (h : Ok a b s) (m : Mem a b s n) : Mem (-b) (-a) s (-n) := by
  obtain ⟨m1, m2, m3⟩ := m
  refine ⟨by omega, by omega, ?_⟩
  have := Int.dvd_sub h.dvd m3
  rwa [show b - a - (n - a) = -n - -b by omega] at this
theorem gcd2 {s t x : Int} : x ∣ (gfold 0 [s, t] : Int) ↔ x ∣ s ∧ x ∣ t := by rw [dvd_gcd0]; simp
theorem gc_of {l : List Int} (hl : l.length ≤ 1000) (hb : ∀ n ∈ l, n.natAbs ≤ 4611686018427387904) : gcB l = true ∧ gcV l = (gfold 0 l : Int) := ⟨evb_eq (gcd_spec l hl hb), evv_eq (gcd_spec l hl hb)⟩

/-- Sums. -/
theorem sum_ok {a b s c d t : Int} (h : Ok a b s) (k : Ok c d t) : Ok (a + c) (b + d) (if a + c = b + d then 0 else (gfold 0 [s, t] : Int)) ∧ ∀ m n, Mem a b s m → Mem c d t n → Mem (a + c) (b + d) (if a + c = b + d then 0 else (gfold 0 [s, t] : Int)) (m + n) := by
  obtain ⟨g1, g2⟩ := gcd2.1 (Int.dvd_refl (gfold 0 [s, t] : Int))
  have hle := h.le; have kle := k.le
  refine ⟨ok_of (by omega) (by omega) ?_, fun m n hm hn => mem_of (by have := hm.1; have := hn.1; omega) (by have := hm.2.1; have := hn.2.1; omega) ?_⟩
  · have := Int.dvd_add (Int.dvd_trans g1 h.dvd) (Int.dvd_trans g2 k.dvd)
    rwa [show b - a + (d - c) = b + d - (a + c) by omega] at this
  · have := Int.dvd_add (Int.dvd_trans g1 hm.2.2) (Int.dvd_trans g2 hn.2.2)
    rwa [show m - a + (n - c) = m + n - (a + c) by omega] at this

/-- What Add answers. -/
noncomputable def sumR (a b s c d t : Int) : Int × Int × Int × Int := if Near (a + c) ∧ Near (b + d) then (a + c, b + d, if a + c = b + d then 0 else (gfold 0 [s, t] : Int), 0) else (0, 0, 0, 2)
theorem nat_le {s : Int} (h0 : 0 ≤ s) (h : s ≤ 4398046511104) : s.natAbs ≤ 4611686018427387904 := by omega
theorem ad_of {a b s c d t : Int} (h : Ok a b s) (k : Ok c d t) (h1 : Near a) (h2 : Near b) (k1 : Near c) (k2 : Near d) (hs : s ≤ 4398046511104) (ht : t ≤ 4398046511104) : adB a b s c d t = true ∧ adV a b s c d t = sumR a b s c d t := by
  obtain ⟨a1, a2⟩ := h1
  obtain ⟨b1, b2⟩ := h2
  obtain ⟨c1, c2⟩ := k1
  obtain ⟨d1, d2⟩ := k2
  have hg := gcd_spec [s, t] (by simp) (by
    intro n hn
    simp only [List.mem_cons, List.not_mem_nil, or_false] at hn
    rcases hn with rfl | rfl
    · exact nat_le h.st0 hs
    · exact nat_le k.st0 ht)
  have E : Ev (fun q => warpwrightlaw25_add.f q a b s c d t) (sumR a b s c d t) := by
    unfold warpwrightlaw25_add.f span_Add.f
    refine Ev.bind (Ev.bind hg ?_) (Ev.now _)
    rw [w64 (n := a + c) (by omega) (by omega), w64 (n := b + d) (by omega) (by omega), bounded_eq]
    exact Ev.now _
  exact ⟨evb_eq E, evv_eq E⟩
theorem sb_of {a b s c d t : Int} (h : Ok a b s) (k : Ok c d t) (h1 : Near a) (h2 : Near b) (k1 : Near c) (k2 : Near d) (hs : s ≤ 4398046511104) (ht : t ≤ 4398046511104) : sbB a b s c d t = true ∧ sbV a b s c d t = sumR a b s (-d) (-c) t := by
  obtain ⟨a1, a2⟩ := h1
  obtain ⟨b1, b2⟩ := h2
  obtain ⟨c1, c2⟩ := k1
  obtain ⟨d1, d2⟩ := k2
  obtain ⟨g1, g2⟩ := gc_of (l := [s, t]) (by simp) (by
    intro n hn
    simp only [List.mem_cons, List.not_mem_nil, or_false] at hn
    rcases hn with rfl | rfl
    · exact nat_le h.st0 hs
    · exact nat_le k.st0 ht)
  refine ⟨g1, ?_⟩
  have w1 : IntKind.i64.wrap (a - d) = a - d := by rw [IntKind.wrap_i64]; omega
  have w2 : IntKind.i64.wrap (b - c) = b - c := by rw [IntKind.wrap_i64]; omega
  unfold sbV sumR
  rw [w1, w2, g2, show a + -d = a - d by omega, show b + -c = b - c by omega]
  generalize a - d = x
  generalize b - c = y
  unfold Near
  by_cases q1 : -1099511627776 ≤ x <;> by_cases q2 : x ≤ 1099511627776 <;> by_cases q3 : -1099511627776 ≤ y <;> by_cases q4 : y ≤ 1099511627776
  all_goals
    cases q6 : x == y
    · have q5 : ¬ x = y := by simpa using q6
      simp [q1, q2, q3, q4, q5]
    · have q5 : x = y := by simpa using q6
      subst q5
      simp [q1, q2, q3, q4]

/-! ### Products -/
theorem in1_spec {n : Int} (h1 : -9223372036854775808 ≤ n) (h2 : n ≤ 9223372036854775807) : span_product_in1.f n = some (n.natAbs : Int) := by
  unfold span_product_in1.f
  rw [IntKind.wrap_u64, IntKind.wrap_u64]
  split
  · congr 1; omega
  · congr 1; omega
theorem product_spec {a b : Int} (a1 : -9223372036854775808 ≤ a) (a2 : a ≤ 9223372036854775807) (b1 : -9223372036854775808 ≤ b) (b2 : b ≤ 9223372036854775807) :
    span_product.f a b = some (wrap64 (a * b), decide (Near (a * b))) := by
  unfold span_product.f
  rw [in1_spec a1 a2, in1_spec b1 b2]
  simp only [Option.bind_some]
  rw [mul64_spec (by omega) (by omega) (by omega) (by omega)]
  simp only [Option.bind_some]
  have e : (a.natAbs : Int) * (b.natAbs : Int) = ((a * b).natAbs : Int) := by rw [Int.natAbs_mul]; rfl
  rw [e]
  generalize a * b = p
  by_cases c : ((p.natAbs : Int)) / 18446744073709551616 = 0
  · rw [if_pos c]
    congr 2
    by_cases hN : Near p
    · rw [decide_eq_true hN]; unfold Near at hN; exact decide_eq_true (by omega)
    · rw [decide_eq_false hN]; unfold Near at hN; exact decide_eq_false (by omega)
  · rw [if_neg c]
    congr 2
    have : ¬ Near p := by unfold Near; omega
    rw [decide_eq_false this]
def mn4 (p q u v : Int) : Int := mn (mn (mn p q) u) v
def mx4 (p q u v : Int) : Int := mx (mx (mx p q) u) v
theorem mul_lin {a b m n : Int} (h1 : a ≤ m) (h2 : m ≤ b) : mn (a * n) (b * n) ≤ m * n ∧ m * n ≤ mx (a * n) (b * n) := by
  by_cases h : 0 ≤ n
  · have e1 := Int.mul_le_mul_of_nonneg_right h1 h
    have e2 := Int.mul_le_mul_of_nonneg_right h2 h
    unfold mn mx; constructor <;> split <;> omega
  · have e1 := Int.mul_le_mul_of_nonpos_right h1 (show n ≤ 0 by omega)
    have e2 := Int.mul_le_mul_of_nonpos_right h2 (show n ≤ 0 by omega)
    unfold mn mx; constructor <;> split <;> omega
theorem mul_box {a b c d m n : Int} (h1 : a ≤ m) (h2 : m ≤ b) (h3 : c ≤ n) (h4 : n ≤ d) : mn4 (a * c) (a * d) (b * c) (b * d) ≤ m * n ∧ m * n ≤ mx4 (a * c) (a * d) (b * c) (b * d) := by
  have e1 := mul_lin (n := n) h1 h2
  have e2 := mul_lin (n := a) h3 h4
  have e3 := mul_lin (n := b) h3 h4
  rw [Int.mul_comm n a, Int.mul_comm c a, Int.mul_comm d a] at e2
  rw [Int.mul_comm n b, Int.mul_comm c b, Int.mul_comm d b] at e3
  generalize m * n = z at *
  generalize a * n = z1 at *
  generalize b * n = z2 at *
  generalize a * c = p at *
  generalize a * d = q at *
  generalize b * c = u at *
  generalize b * d = v at *
  unfold mn4 mx4 mn mx at *
  constructor <;> (repeat' split at *) <;> omega
/-- Each product is the product of the least elements, up to multiples of g. -/
theorem mul_cls {a s c t g m n : Int} (hm : s ∣ m - a) (hn : t ∣ n - c) (g1 : g ∣ a * t) (g2 : g ∣ c * s) (g3 : g ∣ s * t) : g ∣ m * n - a * c := by
  obtain ⟨i, hi⟩ := hm
  obtain ⟨j, hj⟩ := hn
  have e : m * n - a * c = a * t * j + c * s * i + s * t * (i * j) := by
    obtain rfl : m = a + s * i := by omega
    obtain rfl : n = c + t * j := by omega
    rw [Int.add_mul, Int.mul_add, Int.mul_add]
    have q1 : a * (t * j) = a * t * j := (Int.mul_assoc _ _ _).symm
    have q2 : s * i * c = c * s * i := by rw [Int.mul_comm, Int.mul_assoc]
    have q3 : s * i * (t * j) = s * t * (i * j) := by rw [Int.mul_assoc, Int.mul_assoc, Int.mul_left_comm i t j]
    omega
  rw [e]
  exact Int.dvd_add (Int.dvd_add (Int.dvd_trans g1 (Int.dvd_mul_right _ _)) (Int.dvd_trans g2 (Int.dvd_mul_right _ _))) (Int.dvd_trans g3 (Int.dvd_mul_right _ _))
theorem mn4_case (p q u v : Int) : mn4 p q u v = p ∨ mn4 p q u v = q ∨ mn4 p q u v = u ∨ mn4 p q u v = v := by
  unfold mn4 mn
  (repeat' split) <;> simp
theorem mx4_case (p q u v : Int) : mx4 p q u v = p ∨ mx4 p q u v = q ∨ mx4 p q u v = u ∨ mx4 p q u v = v := by
  unfold mx4 mx
  (repeat' split) <;> simp
theorem prod_ok {a b s c d t g : Int} (h : Ok a b s) (k : Ok c d t) (g0 : 0 ≤ g) (g1 : g ∣ a * t) (g2 : g ∣ c * s) (g3 : g ∣ s * t) {lo hi : Int} (hlo : lo = mn4 (a * c) (a * d) (b * c) (b * d)) (hhi : hi = mx4 (a * c) (a * d) (b * c) (b * d)) :
    Ok lo hi (if lo = hi then 0 else g) ∧ ∀ m n, Mem a b s m → Mem c d t n → Mem lo hi (if lo = hi then 0 else g) (m * n) := by
  have C : ∀ m n, Mem a b s m → Mem c d t n → g ∣ m * n - a * c := fun m n hm hn => mul_cls hm.2.2 hn.2.2 g1 g2 g3
  have L : g ∣ lo - a * c := by
    rw [hlo]
    rcases mn4_case (a * c) (a * d) (b * c) (b * d) with e | e | e | e <;> rw [e]
    · exact C _ _ h.lo_mem k.lo_mem
    · exact C _ _ h.lo_mem k.hi_mem
    · exact C _ _ h.hi_mem k.lo_mem
    · exact C _ _ h.hi_mem k.hi_mem
  have H : g ∣ hi - a * c := by
    rw [hhi]
    rcases mx4_case (a * c) (a * d) (b * c) (b * d) with e | e | e | e <;> rw [e]
    · exact C _ _ h.lo_mem k.lo_mem
    · exact C _ _ h.lo_mem k.hi_mem
    · exact C _ _ h.hi_mem k.lo_mem
    · exact C _ _ h.hi_mem k.hi_mem
  have B : ∀ m n, Mem a b s m → Mem c d t n → lo ≤ m * n ∧ m * n ≤ hi := fun m n hm hn => by
    have := mul_box hm.1 hm.2.1 hn.1 hn.2.1
    rw [hlo, hhi]; exact this
  have D := Int.dvd_sub H L
  rw [show hi - a * c - (lo - a * c) = hi - lo by omega] at D
  refine ⟨ok_of (by have := B _ _ h.lo_mem k.lo_mem; omega) g0 D, fun m n hm hn => mem_of (B m n hm hn).1 (B m n hm hn).2 ?_⟩
  have := Int.dvd_sub (C m n hm hn) L
  rwa [show m * n - a * c - (lo - a * c) = m * n - lo by omega] at this
theorem products_eq {a b c d : Int} (s t : Int) (ha : Near a) (hb : Near b) (c1 : -9223372036854775808 ≤ c) (c2 : c ≤ 9223372036854775807) (d1 : -9223372036854775808 ≤ d) (d2 : d ≤ 9223372036854775807) :
    ∃ lo hi, span_products.f a b s c d t = some (lo, hi, ((decide (Near (a * c)) && decide (Near (a * d))) && decide (Near (b * c))) && decide (Near (b * d))) ∧
      (Near (a * c) → Near (a * d) → Near (b * c) → Near (b * d) → lo = mn4 (a * c) (a * d) (b * c) (b * d) ∧ hi = mx4 (a * c) (a * d) (b * c) (b * d)) := by
  have i1 : -9223372036854775808 ≤ a ∧ a ≤ 9223372036854775807 := by unfold Near at ha; omega
  have i2 : -9223372036854775808 ≤ b ∧ b ≤ 9223372036854775807 := by unfold Near at hb; omega
  refine ⟨mn (mn (mn (mn 1099511627776 (wrap64 (a * c))) (wrap64 (a * d))) (wrap64 (b * c))) (wrap64 (b * d)), mx (mx (mx (mx (-1099511627776) (wrap64 (a * c))) (wrap64 (a * d))) (wrap64 (b * c))) (wrap64 (b * d)), ?_, ?_⟩
  · unfold span_products.f
    rw [product_spec i1.1 i1.2 c1 c2, product_spec i1.1 i1.2 d1 d2, product_spec i2.1 i2.2 c1 c2, product_spec i2.1 i2.2 d1 d2]
    simp only [Option.bind_some]
  · intro n1 n2 n3 n4
    unfold Near at n1 n2 n3 n4
    rw [w64 (n := a * c) (by omega) (by omega), w64 (n := a * d) (by omega) (by omega), w64 (n := b * c) (by omega) (by omega), w64 (n := b * d) (by omega) (by omega)]
    generalize a * c = p at *
    generalize a * d = q at *
    generalize b * c = u at *
    generalize b * d = v at *
    unfold mn4 mx4
    rw [show mn 1099511627776 p = p by unfold mn; split <;> omega, show mx (-1099511627776) p = p by unfold mx; split <;> omega]
    exact ⟨rfl, rfl⟩
/-- A multiple of a step lies between those of the ends. -/
theorem step_bound {x c d t B : Int} (k : Ok c d t) (hB : 0 ≤ B) (h1 : -B ≤ x * c) (h2 : x * c ≤ B) (h3 : -B ≤ x * d) (h4 : x * d ≤ B) : -(2 * B) ≤ x * t ∧ x * t ≤ 2 * B := by
  rcases k with ⟨_, q⟩ | ⟨q1, q2, z, hz⟩
  · rw [q, Int.mul_zero]; omega
  · have hz1 : 1 ≤ z := by
      by_cases h : 1 ≤ z
      · exact h
      · have : t * z ≤ 0 := Int.mul_nonpos_of_nonneg_of_nonpos (by omega) (by omega)
        omega
    have e : x * t * z = x * d - x * c := by rw [Int.mul_assoc, ← hz, Int.mul_sub]
    generalize x * t = y at *
    by_cases hy : 0 ≤ y
    · have := Int.mul_le_mul_of_nonneg_left hz1 hy
      rw [Int.mul_one] at this; omega
    · have := Int.mul_le_mul_of_nonpos_left (show y ≤ 0 by omega) hz1
      rw [Int.mul_one] at this; omega
/-- What Mul answers. -/
noncomputable def mulR (a b s c d t : Int) : Int × Int × Int × Int :=
  if Near (a * c) ∧ Near (a * d) ∧ Near (b * c) ∧ Near (b * d) then (mn4 (a * c) (a * d) (b * c) (b * d), mx4 (a * c) (a * d) (b * c) (b * d), if mn4 (a * c) (a * d) (b * c) (b * d) = mx4 (a * c) (a * d) (b * c) (b * d) then 0 else (gfold 0 [a * t, c * s, s * t] : Int), 0) else (0, 0, 0, 2)
theorem mu_of {a b s c d t : Int} (h : Ok a b s) (k : Ok c d t) (h1 : Near a) (h2 : Near b) (k1 : Near c) (k2 : Near d) : muB a b s c d t = true ∧ muV a b s c d t = mulR a b s c d t := by
  obtain ⟨lo, hi, hp, hn⟩ := products_eq (a := a) (b := b) (c := c) (d := d) s t h1 h2 (by unfold Near at k1; omega) (by unfold Near at k1; omega) (by unfold Near at k2; omega) (by unfold Near at k2; omega)
  have E : Ev (fun q => warpwrightlaw25_mul.f q a b s c d t) (mulR a b s c d t) := by
    unfold warpwrightlaw25_mul.f span_Mul.f mulR
    rw [hp]
    simp only [Option.bind_some]
    by_cases c0 : Near (a * c) ∧ Near (a * d) ∧ Near (b * c) ∧ Near (b * d)
    · obtain ⟨n1, n2, n3, n4⟩ := c0
      obtain ⟨rfl, rfl⟩ := hn n1 n2 n3 n4
      rw [if_pos (show Near (a * c) ∧ Near (a * d) ∧ Near (b * c) ∧ Near (b * d) from ⟨n1, n2, n3, n4⟩)]
      obtain ⟨u1, u2⟩ := n1
      obtain ⟨u3, u4⟩ := n2
      obtain ⟨u5, u6⟩ := n3
      obtain ⟨u7, u8⟩ := n4
      have b1 := step_bound (B := 1099511627776) (x := a) k (by omega) u1 u2 u3 u4
      have b2 := step_bound (B := 1099511627776) (x := c) h (by omega) (by rw [Int.mul_comm]; exact u1) (by rw [Int.mul_comm]; exact u2) (by rw [Int.mul_comm]; exact u5) (by rw [Int.mul_comm]; exact u6)
      have b3 := step_bound (B := 1099511627776) (x := d) h (by omega) (by rw [Int.mul_comm]; exact u3) (by rw [Int.mul_comm]; exact u4) (by rw [Int.mul_comm]; exact u7) (by rw [Int.mul_comm]; exact u8)
      have b4 := step_bound (x := s) (B := 2199023255552) k (by omega) (by rw [Int.mul_comm]; omega) (by rw [Int.mul_comm]; omega) (by rw [Int.mul_comm]; omega) (by rw [Int.mul_comm]; omega)
      have hg := gcd_spec [a * t, c * s, s * t] (by simp) (by
        intro n hn
        simp only [List.mem_cons, List.not_mem_nil, or_false] at hn
        rcases hn with rfl | rfl | rfl <;> omega)
      have e1 : Ev (fun q => (span_gcd.f q [a * t, c * s, s * t]).bind fun t251 => (span_made.f (mn4 (a * c) (a * d) (b * c) (b * d)) (mx4 (a * c) (a * d) (b * c) (b * d)) t251).bind fun bt252 => some (bt252.1, bt252.2.1, bt252.2.2, (0 : Int))) ((mn4 (a * c) (a * d) (b * c) (b * d)), (mx4 (a * c) (a * d) (b * c) (b * d)), if (mn4 (a * c) (a * d) (b * c) (b * d)) = (mx4 (a * c) (a * d) (b * c) (b * d)) then 0 else (gfold 0 [a * t, c * s, s * t] : Int), 0) := by
        refine Ev.bind hg ?_
        rw [made_eq]; exact Ev.now _
      refine Ev.congr (f := fun q => (((span_gcd.f q [a * t, c * s, s * t]).bind fun t251 => (span_made.f (mn4 (a * c) (a * d) (b * c) (b * d)) (mx4 (a * c) (a * d) (b * c) (b * d)) t251).bind fun bt252 => some (bt252.1, bt252.2.1, bt252.2.2, (0 : Int))).bind fun bt258 => some (bt258.1, bt258.2.1, bt258.2.2.1, bt258.2.2.2))) (fun q => ?_) ?_
      · rw [if_pos (by simp [Near, *]), w64 (n := a * t) (by omega) (by omega), w64 (n := c * s) (by omega) (by omega), w64 (n := s * t) (by omega) (by omega)]
      · exact Ev.bind e1 (Ev.now _)
    · rw [if_neg c0]
      refine Ev.congr (f := fun _ => some (0, 0, 0, 2)) (fun q => ?_) (Ev.now _)
      rw [if_neg]
      · rfl
      · intro q
        apply c0
        simpa [and_assoc] using q
  exact ⟨evb_eq E, evv_eq E⟩
/-- What Scale answers. -/
noncomputable def scaR (a b s k : Int) : Int × Int × Int × Int :=
  if Near (a * k) ∧ Near (b * k) then (mn4 (a * k) (a * k) (b * k) (b * k), mx4 (a * k) (a * k) (b * k) (b * k), if mn4 (a * k) (a * k) (b * k) (b * k) = mx4 (a * k) (a * k) (b * k) (b * k) then 0 else (gfold 0 [s * k] : Int), 0) else (0, 0, 0, 2)
theorem sc_of {a b s k : Int} (h : Ok a b s) (h1 : Near a) (h2 : Near b) (k1 : -9223372036854775808 ≤ k) (k2 : k ≤ 9223372036854775807) : scB a b s k = true ∧ scV a b s k = scaR a b s k := by
  obtain ⟨lo, hi, hp, hn⟩ := products_eq (a := a) (b := b) (c := k) (d := k) s 0 h1 h2 k1 k2 k1 k2
  have E : Ev (fun q => warpwrightlaw25_scale.f q a b s k) (scaR a b s k) := by
    unfold warpwrightlaw25_scale.f span_Scale.f scaR
    rw [hp]
    simp only [Option.bind_some]
    by_cases c0 : Near (a * k) ∧ Near (b * k)
    · obtain ⟨n1, n2⟩ := c0
      obtain ⟨rfl, rfl⟩ := hn n1 n1 n2 n2
      rw [if_pos (show Near (a * k) ∧ Near (b * k) from ⟨n1, n2⟩)]
      obtain ⟨u1, u2⟩ := n1
      obtain ⟨u5, u6⟩ := n2
      have b2 := step_bound (B := 1099511627776) (x := k) h (by omega) (by rw [Int.mul_comm]; exact u1) (by rw [Int.mul_comm]; exact u2) (by rw [Int.mul_comm]; exact u5) (by rw [Int.mul_comm]; exact u6)
      rw [Int.mul_comm k s] at b2
      have hg := gcd_spec [s * k] (by simp) (by
        intro n hn
        simp only [List.mem_cons, List.not_mem_nil, or_false] at hn
        subst hn; omega)
      have e1 : Ev (fun q => (span_gcd.f q [s * k]).bind fun t251 => (span_made.f (mn4 (a * k) (a * k) (b * k) (b * k)) (mx4 (a * k) (a * k) (b * k) (b * k)) t251).bind fun bt252 => some (bt252.1, bt252.2.1, bt252.2.2, (0 : Int))) ((mn4 (a * k) (a * k) (b * k) (b * k)), (mx4 (a * k) (a * k) (b * k) (b * k)), if (mn4 (a * k) (a * k) (b * k) (b * k)) = (mx4 (a * k) (a * k) (b * k) (b * k)) then 0 else (gfold 0 [s * k] : Int), 0) := by
        refine Ev.bind hg ?_
        rw [made_eq]; exact Ev.now _
      refine Ev.congr (f := fun q => (((span_gcd.f q [s * k]).bind fun t251 => (span_made.f (mn4 (a * k) (a * k) (b * k) (b * k)) (mx4 (a * k) (a * k) (b * k) (b * k)) t251).bind fun bt252 => some (bt252.1, bt252.2.1, bt252.2.2, (0 : Int))).bind fun bt258 => some (bt258.1, bt258.2.1, bt258.2.2.1, bt258.2.2.2))) (fun q => ?_) ?_
      · rw [if_pos (by simp [Near, *]), w64 (n := s * k) (by omega) (by omega)]
      · exact Ev.bind e1 (Ev.now _)
    · rw [if_neg c0]
      refine Ev.congr (f := fun _ => some (0, 0, 0, 2)) (fun q => ?_) (Ev.now _)
      rw [if_neg]
      · rfl
      · intro q
        apply c0
        simp only [Bool.and_eq_true, decide_eq_true_eq] at q
        exact ⟨q.1.1.1, q.2⟩
  exact ⟨evb_eq E, evv_eq E⟩
end Go.Proofs.Yteghmmkhfgkdgaa.SX
