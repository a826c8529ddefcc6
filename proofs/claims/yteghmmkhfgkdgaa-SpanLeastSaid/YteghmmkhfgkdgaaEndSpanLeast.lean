/- The law SpanLeast answers true. No condition. -/
import Derived.Test.YteghmmkhfgkdgaaPureSpanLeast
set_option linter.unusedSimpArgs false
set_option linter.unusedVariables false
namespace Go.Proofs.Yteghmmkhfgkdgaa.SX
open Go Go.Ex Go.RowKit Go.Proofs.YteghmmkhfgkdgaaW.PrintWords Go.Proofs.YteghmmkhfgkdgaaW.PrintLast Go.Proofs.YteghmmkhfgkdgaaW.PrintMore Go.Proofs.Yteghmmkhfgkdgaa.SM Go.Proofs.Yteghmmkhfgkdgaa.QS
set_option maxRecDepth 100000

noncomputable def r9 (s t : I3) : I12 := (tri (sumR s.1 s.2.1 s.2.2 t.1 t.2.1 t.2.2), tri (sumR s.1 s.2.1 s.2.2 (-t.2.1) (-t.1) t.2.2), tri (mulR s.1 s.2.1 s.2.2 t.1 t.2.1 t.2.2), joiR s.1 s.2.1 s.2.2 t.1 t.2.1 t.2.2)
noncomputable def g9 (s t : I3) (p q : Int) : I12 := (gR (r9 s t).1 p q, gR (r9 s t).2.1 p q, gR (r9 s t).2.2.1 p q, gR (r9 s t).2.2.2 p q)
def t4 : B4 := (true, true, true, true)
def p9 (z1 : Int) : Int := IntKind.i64.wrap (IntKind.i64.wrap (Int.tmod z1 12) + 1)
def q9 (z2 : Int) : Int := IntKind.i64.wrap (IntKind.i64.wrap (Int.tmod z2 40) + 1)
noncomputable def tws9 (s t : I3) : Bool := cdec (Two s.1 s.2.1 s.2.2 t.1 t.2.1 t.2.2)
noncomputable def qs9 (s t : I3) (p q : Int) : List Bool :=
  [!(va9 (r9 s t).1), on9 (g9 s t p q).1, !((an4 t4 (fo (g9 s t p q) s t s.1)).1 == ins3 (r9 s t).1 (g9 s t p q).1),
   !(va9 (r9 s t).2.1), on9 (g9 s t p q).2.1, !((an4 t4 (fo (g9 s t p q) s t s.1)).2.1 == ins3 (r9 s t).2.1 (g9 s t p q).2.1),
   !(va9 (r9 s t).2.2.1), on9 (g9 s t p q).2.2.1, !((an4 t4 (fo (g9 s t p q) s t s.1)).2.2.1 == ins3 (r9 s t).2.2.1 (g9 s t p q).2.2.1),
   !(va9 (r9 s t).2.2.2), on9 (g9 s t p q).2.2.2, !((an4 t4 (fo (g9 s t p q) s t s.1)).2.2.2 == ins3 (r9 s t).2.2.2 (g9 s t p q).2.2.2),
   (r9 s t).1.1 == IntKind.i64.wrap (s.1 + t.1), (r9 s t).1.2.1 == IntKind.i64.wrap (s.2.1 + t.2.1), (r9 s t).2.1.1 == IntKind.i64.wrap (s.1 - t.2.1), (r9 s t).2.1.2.1 == IntKind.i64.wrap (s.2.1 - t.1),
   (r9 s t).2.2.2.1 == (if t.1 < s.1 then t.1 else s.1), (r9 s t).2.2.2.2.1 == (if t.2.1 > s.2.1 then t.2.1 else s.2.1)]
where va9 (o : I3) : Bool := decide (Vld o.1 o.2.1 o.2.2)
def way9 : List (Nat × Bool) := [(13, true), (2, true), (15, true), (4, true), (4, true), (4, true), (180, true), (14, false), (28, true), (6, false), (17, false), (28, true), (6, false), (17, false), (28, true), (6, false), (17, false), (28, true), (6, false), (20, true), (24, true), (24, true), (27, true), (24, true), (24, true)]
theorem w99 (x0 x1 x2 y0 y1 y2 z0 z1 z2 : Int) : path (evFL C9 (evF C9 8) LO9 9 9 [.agg [.int .i64 x0, .int .u32 x1, .int .u16 x2], .agg [.int .i64 y0, .int .u32 y1, .int .u16 y2], .agg [.int .i64 z0, .int .u32 z1, .int .u16 z2]] [] 0) way9 =
  some ([smB x0 x1 x2, smB y0 y1 y2, tws9 (smV x0 x1 x2) (smV y0 y1 y2), tws9 (smV x0 x1 x2) (smV y0 y1 y2), tws9 (smV x0 x1 x2) (smV y0 y1 y2), tws9 (smV x0 x1 x2) (smV y0 y1 y2),
    cdec (P16 (S16 (smV x0 x1 x2) (smV y0 y1 y2) (r9 (smV x0 x1 x2) (smV y0 y1 y2)) t4 (g9 (smV x0 x1 x2) (smV y0 y1 y2) (p9 z1) (q9 z2)) (smV x0 x1 x2).1))] ++ qs9 (smV x0 x1 x2) (smV y0 y1 y2) (p9 z1) (q9 z2),
    (.bool true, [], 0)) := by kernel_rfl

theorem Bg.sm {s : I3} (h : Bg s) (h1 : -166 ≤ s.1) (h2 : s.2.1 ≤ 166) : Sm s := ⟨h.ok, h1, h2⟩
theorem two9 {s t : I3} (h : Bg s) (k : Bg t) : tws9 s t = true := cdec_true ⟨h.ok, k.ok, h.n1, h.n2, k.n1, k.n2, h.st, k.st⟩
theorem p9_bd {z : Int} (h : 0 ≤ z ∧ z ≤ 4294967295) : 1 ≤ p9 z ∧ p9 z ≤ 12 := by
  have e : Int.tmod z 12 = z % 12 := Int.tmod_eq_emod_of_nonneg h.1
  unfold p9
  rw [e, wr (x := z % 12) (by omega), wr (by omega)]; omega
theorem q9_bd {z : Int} (h : 0 ≤ z ∧ z ≤ 65535) : 1 ≤ q9 z ∧ q9 z ≤ 40 := by
  have e : Int.tmod z 40 = z % 40 := Int.tmod_eq_emod_of_nonneg h.1
  unfold q9
  rw [e, wr (x := z % 40) (by omega), wr (by omega)]; omega
theorem va_res {r : I3} (h : Res r) : decide (Vld r.1 r.2.1 r.2.2) = true := by
  have := h.lo; have := h.hi; have := h.ok.le
  exact decide_eq_true ⟨by unfold Near; omega, by unfold Near; omega, h.ok⟩
theorem t4_an (a : B4) : an4 t4 a = a := by unfold an4 t4; simp
theorem qs9_eq {s t : I3} {p q : Int} (hs : Sm s) (ht : Sm t) (hp : 1 ≤ p ∧ p ≤ 12) (hq : 1 ≤ q ∧ q ≤ 40) :
    qs9 s t p q = [false, true, false, false, true, false, false, true, false, false, true, false, true, true, true, true, true, true] := by
  have R0 := sum_res hs ht
  have R1 : Res (tri (sumR s.1 s.2.1 s.2.2 (-t.2.1) (-t.1) t.2.2)) := sum_res hs ht.neg
  have R2 := (mul_res hs ht).1
  have R3 := joi_res hs ht
  have k0 := sum_key hs ht hp hq
  have k1 := sub_key hs ht hp hq
  have k2 := mul_key hs ht hp hq
  have k3 := joi_key hs ht hp hq
  have o0 : on9 (gR (tri (sumR s.1 s.2.1 s.2.2 t.1 t.2.1 t.2.2)) p q) = true := cdec_true (gR_one R0 hp hq)
  have o1 : on9 (gR (tri (sumR s.1 s.2.1 s.2.2 (-t.2.1) (-t.1) t.2.2)) p q) = true := cdec_true (gR_one R1 hp hq)
  have o2 : on9 (gR (tri (mulR s.1 s.2.1 s.2.2 t.1 t.2.1 t.2.2)) p q) = true := cdec_true (gR_one R2 hp hq)
  have o3 : on9 (gR (joiR s.1 s.2.1 s.2.2 t.1 t.2.1 t.2.2) p q) = true := cdec_true (gR_one R3 hp hq)
  have b1 := hs.lo; have b2 := hs.hi; have b3 := ht.lo; have b4 := ht.hi; have b5 := hs.ok.le; have b6 := ht.ok.le
  have e0 := sum_eq hs ht
  have e1 : tri (sumR s.1 s.2.1 s.2.2 (-t.2.1) (-t.1) t.2.2) = (s.1 + -t.2.1, s.2.1 + -t.1, if s.1 + -t.2.1 = s.2.1 + -t.1 then 0 else (gfold 0 [s.2.2, t.2.2] : Int)) := sum_eq hs ht.neg
  unfold qs9 qs9.va9 r9 g9 r9
  rw [t4_an]
  unfold fo
  simp only
  rw [k0, k1, k2, k3, o0, o1, o2, o3, va_res R0, va_res R1, va_res R2, va_res R3, wr (x := s.1 + t.1) (by omega), wr (x := s.2.1 + t.2.1) (by omega), wr (x := s.1 - t.2.1) (by omega), wr (x := s.2.1 - t.1) (by omega)]
  have f1 : ((tri (sumR s.1 s.2.1 s.2.2 t.1 t.2.1 t.2.2)).1 == s.1 + t.1) = true := by rw [e0]; simp
  have f2 : ((tri (sumR s.1 s.2.1 s.2.2 t.1 t.2.1 t.2.2)).2.1 == s.2.1 + t.2.1) = true := by rw [e0]; simp
  have f3 : ((tri (sumR s.1 s.2.1 s.2.2 (-t.2.1) (-t.1) t.2.2)).1 == s.1 - t.2.1) = true := by rw [e1]; simp [Int.sub_eq_add_neg]
  have f4 : ((tri (sumR s.1 s.2.1 s.2.2 (-t.2.1) (-t.1) t.2.2)).2.1 == s.2.1 - t.1) = true := by rw [e1]; simp [Int.sub_eq_add_neg]
  have f5 : ((joiR s.1 s.2.1 s.2.2 t.1 t.2.1 t.2.2).1 == (if t.1 < s.1 then t.1 else s.1)) = true := by unfold joiR mn; simp
  have f6 : ((joiR s.1 s.2.1 s.2.2 t.1 t.2.1 t.2.2).2.1 == (if t.2.1 > s.2.1 then t.2.1 else s.2.1)) = true := by
    unfold joiR mx
    simp only [gt_iff_lt, beq_iff_eq]
  rw [f1, f2, f3, f4, f5, f6]
  simp
theorem law9 {x0 x1 x2 y0 y1 y2 z0 z1 z2 : Int} (hx1 : 0 ≤ x1 ∧ x1 ≤ 4294967295) (hx2 : 0 ≤ x2) (hy1 : 0 ≤ y1 ∧ y1 ≤ 4294967295) (hy2 : 0 ≤ y2) (hz1 : 0 ≤ z1 ∧ z1 ≤ 4294967295) (hz2 : 0 ≤ z2 ∧ z2 ≤ 65535) :
    (evFL C9 (evF C9 8) LO9 9 9 [.agg [.int .i64 x0, .int .u32 x1, .int .u16 x2], .agg [.int .i64 y0, .int .u32 y1, .int .u16 y2], .agg [.int .i64 z0, .int .u32 z1, .int .u16 z2]] [] 0).run = some (.bool true, [], 0) := by
  refine path_run (l := way9) ((w99 x0 x1 x2 y0 y1 y2 z0 z1 z2).trans ?_)
  obtain ⟨r3, C, C1, C2⟩ := sm_bg (a := x0) hx1.1 hx2
  obtain ⟨r4, D, D1, D2⟩ := sm_bg (a := y0) hy1.1 hy2
  have hs := C.sm C1 C2
  have ht := D.sm D1 D2
  have hp := p9_bd hz1
  have hq := q9_bd hz2
  have R0 := sum_res hs ht
  have R1 : Res (tri (sumR (smV x0 x1 x2).1 (smV x0 x1 x2).2.1 (smV x0 x1 x2).2.2 (-(smV y0 y1 y2).2.1) (-(smV y0 y1 y2).1) (smV y0 y1 y2).2.2)) := sum_res hs ht.neg
  have F : F9 (smV x0 x1 x2) (smV y0 y1 y2) (g9 (smV x0 x1 x2) (smV y0 y1 y2) (p9 z1) (q9 z2)) := ⟨hs.ok, ht.ok, hs.lo, hs.hi, ht.lo, ht.hi, gR_one R0 hp hq, gR_one R1 hp hq, gR_one (mul_res hs ht).1 hp hq, gR_one (joi_res hs ht) hp hq⟩
  have P : cdec (P16 (S16 (smV x0 x1 x2) (smV y0 y1 y2) (r9 (smV x0 x1 x2) (smV y0 y1 y2)) t4 (g9 (smV x0 x1 x2) (smV y0 y1 y2) (p9 z1) (q9 z2)) (smV x0 x1 x2).1)) = true := cdec_true ⟨_, _, _, _, _, rfl, F⟩
  rw [r3, r4, two9 C D, P, qs9_eq hs ht hp hq]
  rfl
theorem keys9 : cutKeysF C9 9 = [1000000, 1000001, 2000002, 1000002, 1000003, 1000004, 1000005, 1000006, 1000007, 1000008, 2000009, 1000009, 2000010, 1000010, 1000012, 1000012, 1000013, 2000015, 1000015, 2000016, 1000016, 1000018, 1000018, 1000019, 2000020, 1000020, 1000022, 1000022, 1000023, 1000024, 2000026, 1000026, 2000027, 1000027, 1000029, 1000029, 1000030, 1000031, 1000032] := by kernel_rfl
theorem SpanLeast_calls {x0 x1 x2 y0 y1 y2 z0 z1 z2 : Int} (_ : (Lit.int .i64 x0).wf = true) (hx1 : (Lit.int .u32 x1).wf = true) (hx2 : (Lit.int .u16 x2).wf = true)
    (_ : (Lit.int .i64 y0).wf = true) (hy1 : (Lit.int .u32 y1).wf = true) (hy2 : (Lit.int .u16 y2).wf = true)
    (_ : (Lit.int .i64 z0).wf = true) (hz1 : (Lit.int .u32 z1).wf = true) (hz2 : (Lit.int .u16 z2).wf = true) (w : World) :
    Calls Try.prog 9 #[.agg #[.int .i64 x0, .int .u32 x1, .int .u16 x2], .agg #[.int .i64 y0, .int .u32 y1, .int .u16 y2], .agg #[.int .i64 z0, .int .u32 z1, .int .u16 z2]] w fun e w' => e = .returned (.bool true) ∧ Below w.heap.size w w' := by
  refine evFL_calls C9_ok (law9 (bounds_u32 hx1) (bounds_u16 hx2).1 (bounds_u32 hy1) (bounds_u16 hy2).1 (bounds_u32 hz1) (bounds_u16 hz2)) ?_ ?_ rfl rfl (fun _ _ _ h => by cases h)
  · intro j hj s0 e s' h
    have hl : (loopsF C9 9).length = 4 := by kernel_rfl
    rw [hl] at hj
    have hk0 : keyF C9 9 0 = 10 := by kernel_rfl
    have hk1 : keyF C9 9 1 = 16 := by kernel_rfl
    have hk2 : keyF C9 9 2 = 20 := by kernel_rfl
    have hk3 : keyF C9 9 3 = 27 := by kernel_rfl
    obtain rfl | rfl | rfl | rfl : j = 0 ∨ j = 1 ∨ j = 2 ∨ j = 3 := by omega
    · rw [hk0] at h; cases h
    · rw [hk1] at h
      obtain ⟨h1, h2⟩ := Prod.mk.inj (Option.some.inj h)
      obtain ⟨rfl, rfl⟩ := Prod.mk.inj h2
      obtain ⟨s, t, r, v, g, rfl, F⟩ := of_cdec h1
      exact ol (r := r) F _ s.1 v (Nat.le_refl _) (Int.le_refl _) (fun _ => by rw [Int.sub_self]; exact Int.dvd_zero _)
    · rw [hk2] at h
      obtain ⟨h1, h2⟩ := Prod.mk.inj (Option.some.inj h)
      obtain ⟨rfl, rfl⟩ := Prod.mk.inj h2
      obtain ⟨s, t, r, v, g, x, rfl, F, hx⟩ := of_cdec h1
      exact il (r := r) F hx _ t.1 v (Nat.le_refl _) (Int.le_refl _) (fun _ => by rw [Int.sub_self]; exact Int.dvd_zero _)
    · rw [hk3] at h; cases h
  · intro j k hk s0 e s' h
    rw [keys9] at hk
    have hm := List.mem_iff_getElem?.2 ⟨j, hk⟩
    unfold LO9 at h
    cases b1 : Nat.beq k 20 with
    | true =>
      obtain rfl := Nat.eq_of_beq_eq_true b1
      simp at hm
    | false =>
      rw [b1] at h
      cases b2 : Nat.beq k 16 with
      | true =>
        obtain rfl := Nat.eq_of_beq_eq_true b2
        simp at hm
      | false =>
        rw [b2] at h
        cases h
end Go.Proofs.Yteghmmkhfgkdgaa.SX
