/- The law SpanMatchesReference: the program's functions and the reference's have the same answers. No condition. -/
import Derived.Test.YteghmmkhfgkdgaaRefAll
import Derived.Test.YteghmmkhfgkdgaaLawSpanSums
set_option linter.unusedSimpArgs false
set_option linter.unusedVariables false
namespace Go.Proofs.Yteghmmkhfgkdgaa.SX
open Go Go.Ex Go.RowKit Go.Proofs.YteghmmkhfgkdgaaW.PrintWords Go.Proofs.YteghmmkhfgkdgaaW.PrintLast Go.Proofs.YteghmmkhfgkdgaaW.PrintMore Go.Proofs.Yteghmmkhfgkdgaa.SM Go.Proofs.Yteghmmkhfgkdgaa.QS
set_option maxRecDepth 100000

def N3 (n : I3) : List V := [.int .i64 n.1, .int .i64 n.2.1, .int .i64 n.2.2]
/-- The state ahead of the first question. -/
def S7 (n a b c d o q : I3) : St :=
  ⟨[none, none, none, none, none, some (.ptr 0 0), none, some (.bool true), some (.slice 1 0 4 3), some (.ptr 2 0), some (.ptr 3 0)] ++ noneL 247,
   [(0, ⟨N3 n, 51, false⟩), (1, ⟨L8 a b c d, 28, false⟩), (2, ⟨c3 o, 28, false⟩), (3, ⟨c3 q, 28, false⟩)], 4⟩
/-- The state ahead of the question about a span. -/
def S13 (n : I3) (L : List V) (i : Int) (s : I3) : St :=
  ⟨[none, none, none, none, none, some (.ptr 0 0), none, some (.bool true), some (.slice 1 0 4 3), none, none, some (.int .i64 i), some (.ptr 2 0)] ++ noneL 245,
   [(0, ⟨N3 n, 51, false⟩), (1, ⟨L, 28, false⟩), (2, ⟨c3 s, 28, false⟩)], 3⟩
/-- The state ahead of the question about two spans. -/
def S19 (n : I3) (L : List V) (i k : Int) (s t : I3) : St :=
  ⟨[none, none, none, none, none, some (.ptr 0 0), none, some (.bool true), some (.slice 1 0 4 3), none, none, some (.int .i64 i), some (.ptr 2 0), some (.int .i64 k), some (.ptr 3 0)] ++ noneL 243,
   [(0, ⟨N3 n, 51, false⟩), (1, ⟨L, 28, false⟩), (2, ⟨c3 s, 28, false⟩), (3, ⟨c3 t, 28, false⟩)], 4⟩

/-! ### What the questions are: whether a value is not itself -/
def ne4 (r : Int × Int × Int × Int) : Bool := !((r.1 == r.1 && (r.2.1 == r.2.1 && (r.2.2.1 == r.2.2.1 && true))) && (r.2.2.2 == r.2.2.2 && true))
def ne4b (r : Int × Int × Int × Bool) : Bool := !((r.1 == r.1 && (r.2.1 == r.2.1 && (r.2.2.1 == r.2.2.1 && true))) && (r.2.2.2 == r.2.2.2 && true))
def ne3 (r : Int × Int × Int) : Bool := !(r.1 == r.1 && (r.2.1 == r.2.1 && (r.2.2 == r.2.2 && true)))
def neB (b : Bool) : Bool := !(b == b)
def neI (b : Int) : Bool := b != b
theorem ne4_f (r : Int × Int × Int × Int) : ne4 r = false := by simp [ne4]
theorem ne4b_f (r : Int × Int × Int × Bool) : ne4b r = false := by simp [ne4b]
theorem ne3_f (r : Int × Int × Int) : ne3 r = false := by simp [ne3]
theorem neB_f (b : Bool) : neB b = false := by simp [neB]
theorem neI_f (b : Int) : neI b = false := by simp [neI]
def bt (a b : Int) : Int := IntKind.i64.wrap (BitVec.ofInt IntKind.i64.bits a &&& BitVec.ofInt IntKind.i64.bits b).toNat
def va3 (o : I3) : Bool := decide (Vld o.1 o.2.1 o.2.2)
theorem w7 (n a b c d o q : I3) : (path (partF C7 (evF C7 8) noLoops 9 7 8 (S7 n a b c d o q)) [(8, false), (15, false), (41, false), (83, false)]).map (fun x => (x.1, (x.2.1, (x.2.2.m, x.2.2.nx, x.2.2.tm.length, x.2.2.tm.take 11)))) =
    some ([neB (va3 o), neB (va3 q), ne4 (ofR n.1 n.2.1 n.2.2), ne4 (ofR c.1 (IntKind.i64.wrap (c.2.1 + bt n.1 63)) (IntKind.i64.wrap (1 + bt n.2.2 15)))],
      (.normal, ((S7 n a b c d o q).m, (S7 n a b c d o q).nx, (S7 n a b c d o q).tm.length, (S7 n a b c d o q).tm.take 11))) := by kernel_rfl
def P7 (x : St) : Prop := ∃ n a b c d o q, x = S7 n a b c d o q
theorem o7 {x : St} (h : P7 x) : ∃ x1, (partF C7 (evF C7 8) noLoops 9 7 8 x).run = some (.normal, x1) ∧ Weaker x x1 := by
  obtain ⟨n, a, b, c, d, o, q, rfl⟩ := h
  obtain ⟨⟨e, x1⟩, h1, h2⟩ := path_end (f := fun (x : Ex × St) => (x.1, (x.2.m, x.2.nx, x.2.tm.length, x.2.tm.take 11))) (w7 n a b c d o q) (by rw [neB_f, neB_f, ne4_f, ne4_f]; rfl)
  obtain ⟨rfl, h3⟩ := Prod.mk.inj h2
  exact ⟨x1, h1, weak_of 11 h3 rfl⟩

/-! ### A span -/
noncomputable def on (s : I3) : Bool := cdec (One s.1 s.2.1 s.2.2)
noncomputable def onk (s : I3) (k : Int) : Bool := cdec (One s.1 s.2.1 s.2.2 ∧ -9223372036854775808 ≤ k ∧ k ≤ 9223372036854775807)
theorem w13 (n : I3) (L : List V) (i : Int) (s : I3) : (path (partF C7 (evF C7 8) noLoops 9 7 17 (S13 n L i s)) [(5, false), (8, true), (9, true), (6, false), (3, true), (4, true), (6, false), (8, true), (9, true), (6, false), (11, true), (12, true), (6, false), (8, true), (9, true), (6, false), (12, true), (13, true), (6, false)]).map (fun x => (x.1, (x.2.1, (x.2.2.m, x.2.2.nx, x.2.2.tm.length, x.2.2.tm.take 13)))) =
    some ([!(va3 s), on s, on s, neB (decide (Mem s.1 s.2.1 s.2.2 n.1)), on s, on s, neI (cnt s.1 s.2.1 s.2.2 (s.2.1 + 1)), onk s n.2.1, onk s n.2.1, ne4 (scaR s.1 s.2.1 s.2.2 n.2.1), onk s (Int.tmod n.2.1 9), onk s (Int.tmod n.2.1 9), ne4 (scaR s.1 s.2.1 s.2.2 (Int.tmod n.2.1 9)),
      on s, on s, ne4 (modR s.1 s.2.2 n.2.2), on s, on s, ne4 (modR s.1 s.2.2 (IntKind.i64.wrap (1 + bt n.2.2 63)))],
      (.normal, ((S13 n L i s).m, (S13 n L i s).nx, (S13 n L i s).tm.length, (S13 n L i s).tm.take 13))) := by kernel_rfl
def P13 (x : St) : Prop := ∃ n L i s, x = S13 n L i s ∧ One s.1 s.2.1 s.2.2 ∧ -9223372036854775808 ≤ n.2.1 ∧ n.2.1 ≤ 9223372036854775807
theorem o13 {x : St} (h : P13 x) : ∃ x1, (partF C7 (evF C7 8) noLoops 9 7 17 x).run = some (.normal, x1) ∧ Weaker x x1 := by
  obtain ⟨n, L, i, s, rfl, h, k1, k2⟩ := h
  have v1 : va3 s = true := decide_eq_true ⟨h.2.1, h.2.2.1, h.1⟩
  have v2 : on s = true := cdec_true h
  have v3 : onk s n.2.1 = true := cdec_true ⟨h, k1, k2⟩
  have b1 := Int.tmod_lt_of_pos n.2.1 (show (0 : Int) < 9 by omega)
  have b2 := Int.lt_tmod_of_pos n.2.1 (show (0 : Int) < 9 by omega)
  have v4 : onk s (Int.tmod n.2.1 9) = true := cdec_true ⟨h, by omega, by omega⟩
  obtain ⟨⟨e, x1⟩, h1, h2⟩ := path_end (f := fun (x : Ex × St) => (x.1, (x.2.m, x.2.nx, x.2.tm.length, x.2.tm.take 13))) (w13 n L i s) (by rw [neB_f, neI_f, ne4_f, ne4_f, ne4_f, ne4_f, v1, v2, v3, v4]; rfl)
  obtain ⟨rfl, h3⟩ := Prod.mk.inj h2
  exact ⟨x1, h1, weak_of 13 h3 rfl⟩

/-! ### Two spans -/
noncomputable def tws (s t : I3) : Bool := tw s.1 s.2.1 s.2.2 t.1 t.2.1 t.2.2
theorem w19 (n : I3) (L : List V) (i k : Int) (s t : I3) : (path (partF C7 (evF C7 8) noLoops 9 7 25 (S19 n L i k s t)) [(3, true), (3, true), (2, false), (5, true), (6, true), (6, false), (5, true), (6, true), (6, false), (5, true), (6, true), (6, false), (5, true), (6, true), (6, false), (5, true), (6, true)]).map (fun x => (x.1, (x.2.1, getT x.2.2.tm 256, (x.2.2.m, x.2.2.nx, x.2.2.tm.length, x.2.2.tm.take 15)))) =
    some ([tws s t, tws s t, ne4 (sumR s.1 s.2.1 s.2.2 t.1 t.2.1 t.2.2), tws s t, tws s t, ne4 (sumR s.1 s.2.1 s.2.2 (-t.2.1) (-t.1) t.2.2), tws s t, tws s t, ne4 (mulR s.1 s.2.1 s.2.2 t.1 t.2.1 t.2.2), tws s t, tws s t, ne3 (joiR s.1 s.2.1 s.2.2 t.1 t.2.1 t.2.2), tws s t, tws s t, ne4b (metR s.1 s.2.1 s.2.2 t.1 t.2.1 t.2.2), tws s t, tws s t],
      (.normal, some (.bool ((!(metR s.1 s.2.1 s.2.2 t.1 t.2.1 t.2.2).2.2.2) == (metR s.1 s.2.1 s.2.2 t.1 t.2.1 t.2.2).2.2.2)), ((S19 n L i k s t).m, (S19 n L i k s t).nx, (S19 n L i k s t).tm.length, (S19 n L i k s t).tm.take 15))) := by kernel_rfl
def P19 (x : St) : Prop := ∃ n L i k s t, x = S19 n L i k s t ∧ Two s.1 s.2.1 s.2.2 t.1 t.2.1 t.2.2
theorem o19 {x : St} (h : P19 x) : ∃ x1, (partF C7 (evF C7 8) noLoops 9 7 25 x).run = some (.normal, x1) ∧ Weaker ⟨setT x.tm 256 (.bool false), x.m, x.nx⟩ x1 := by
  obtain ⟨n, L, i, k, s, t, rfl, h⟩ := h
  have v1 : tws s t = true := cdec_true h
  obtain ⟨⟨e, x1⟩, h1, h2⟩ := path_end (f := fun (x : Ex × St) => (x.1, getT x.2.tm 256, (x.2.m, x.2.nx, x.2.tm.length, x.2.tm.take 15))) (w19 n L i k s t) (by rw [ne4_f, ne4_f, ne4_f, ne3_f, ne4b_f, v1]; rfl)
  obtain ⟨rfl, h3⟩ := Prod.mk.inj h2
  obtain ⟨h4, h5⟩ := Prod.mk.inj h3
  refine ⟨x1, h1, weak_set (weak_of 15 h5 rfl) (h4.trans ?_)⟩
  cases (metR s.1 s.2.1 s.2.2 t.1 t.2.1 t.2.2).2.2.2 <;> rfl

/-! ### The whole -/
noncomputable def LO7 : Loops := fun k s => bif Nat.beq k 2000007 then some (cdec (P7 s), .normal, s) else bif Nat.beq k 2000013 then some (cdec (P13 s), .normal, s) else bif Nat.beq k 1000019 then some (cdec (P19 s), .normal, ⟨setT s.tm 256 (.bool false), s.m, s.nx⟩) else none
/-- One round. -/
noncomputable def rd (n : I3) (A B C D : I3) (i : Int) (s : I3) : List Bool :=
  [cdec (P13 (S13 n (L8 A B C D) i s)), cdec (P19 (S19 n (L8 A B C D) i 0 s A)), cdec (P19 (S19 n (L8 A B C D) i 1 s B)), cdec (P19 (S19 n (L8 A B C D) i 2 s C)), cdec (P19 (S19 n (L8 A B C D) i 3 s D))]
def One3 (s : I3) : Prop := One s.1 s.2.1 s.2.2
theorem One3.two {s t : I3} (h : One3 s) (k : One3 t) : Two s.1 s.2.1 s.2.2 t.1 t.2.1 t.2.2 := ⟨h.1, k.1, h.2.1, h.2.2.1, k.2.1, k.2.2.1, h.2.2.2, k.2.2.2⟩
theorem Bg.one {s : I3} (h : Bg s) : One3 s := ⟨h.ok, h.n1, h.n2, h.st⟩
theorem p7 (n a b c d o q : I3) : cdec (P7 (S7 n a b c d o q)) = true := cdec_true ⟨n, a, b, c, d, o, q, rfl⟩
theorem p13 {n : I3} {L : List V} {i : Int} {s : I3} (h : One3 s) (k1 : -9223372036854775808 ≤ n.2.1) (k2 : n.2.1 ≤ 9223372036854775807) : cdec (P13 (S13 n L i s)) = true := cdec_true ⟨n, L, i, s, rfl, h, k1, k2⟩
theorem p19 {n : I3} {L : List V} {i k : Int} {s t : I3} (h : One3 s) (h' : One3 t) : cdec (P19 (S19 n L i k s t)) = true := cdec_true ⟨n, L, i, k, s, t, rfl, h.two h'⟩
theorem rd_t {n A B C D : I3} {i : Int} {s : I3} (hs : One3 s) (hA : One3 A) (hB : One3 B) (hC : One3 C) (hD : One3 D) (k1 : -9223372036854775808 ≤ n.2.1) (k2 : n.2.1 ≤ 9223372036854775807) : rd n A B C D i s = [true, true, true, true, true] := by
  unfold rd
  rw [p13 hs k1 k2, p19 hs hA, p19 hs hB, p19 hs hC, p19 hs hD]
def way7 : List (Nat × Bool) := [(13, true), (2, true), (2, true), (2, true), (40, true), (12, true), (12, true), (16, true), (16, true), (16, true), (23, true), (12, true), (16, true), (16, true), (16, true), (23, true), (12, true), (16, true), (16, true), (16, true), (23, true), (12, true), (16, true), (16, true), (16, true)]
theorem w77 (x0 x1 x2 y0 y1 y2 n0 n1 n2 : Int) : path (evFL C7 (evF C7 8) LO7 9 7 [.agg [.int .i64 x0, .int .u32 x1, .int .u16 x2], .agg [.int .i64 y0, .int .u32 y1, .int .u16 y2], .agg [.int .i64 n0, .int .i64 n1, .int .i64 n2]] [] 0) way7 =
  some ([spB x0 x1 x2, spB y0 y1 y2, smB x0 x1 x2, smB y0 y1 y2] ++ (cdec (P7 (S7 (n0, n1, n2) (spV x0 x1 x2) (spV y0 y1 y2) (smV x0 x1 x2) (smV y0 y1 y2) (n0, n1, n2) ((spV x0 x1 x2).1, (spV x0 x1 x2).2.1, IntKind.i64.wrap ((spV x0 x1 x2).2.2 + Int.tmod n2 3)))) ::
    (rd (n0, n1, n2) (spV x0 x1 x2) (spV y0 y1 y2) (smV x0 x1 x2) (smV y0 y1 y2) 0 (spV x0 x1 x2) ++ (rd (n0, n1, n2) (spV x0 x1 x2) (spV y0 y1 y2) (smV x0 x1 x2) (smV y0 y1 y2) 1 (spV y0 y1 y2) ++
    (rd (n0, n1, n2) (spV x0 x1 x2) (spV y0 y1 y2) (smV x0 x1 x2) (smV y0 y1 y2) 2 (smV x0 x1 x2) ++ rd (n0, n1, n2) (spV x0 x1 x2) (spV y0 y1 y2) (smV x0 x1 x2) (smV y0 y1 y2) 3 (smV y0 y1 y2))))),
    (.bool true, [], 0)) := by kernel_rfl
theorem law7 {x0 x1 x2 y0 y1 y2 n0 n1 n2 : Int} (hx1 : 0 ≤ x1 ∧ x1 ≤ 4294967295) (hx2 : 0 ≤ x2) (hy1 : 0 ≤ y1 ∧ y1 ≤ 4294967295) (hy2 : 0 ≤ y2) (h1 : -9223372036854775808 ≤ n1 ∧ n1 ≤ 9223372036854775807) :
    (evFL C7 (evF C7 8) LO7 9 7 [.agg [.int .i64 x0, .int .u32 x1, .int .u16 x2], .agg [.int .i64 y0, .int .u32 y1, .int .u16 y2], .agg [.int .i64 n0, .int .i64 n1, .int .i64 n2]] [] 0).run = some (.bool true, [], 0) := by
  refine path_run (l := way7) ((w77 x0 x1 x2 y0 y1 y2 n0 n1 n2).trans ?_)
  obtain ⟨r1, A⟩ := sp_of (a := x0) hx1.1 hx1.2 hx2
  obtain ⟨r2, B⟩ := sp_of (a := y0) hy1.1 hy1.2 hy2
  obtain ⟨r3, C, _⟩ := sm_bg (a := x0) hx1.1 hx2
  obtain ⟨r4, D, _⟩ := sm_bg (a := y0) hy1.1 hy2
  rw [r1, r2, r3, r4, p7, rd_t A.one A.one B.one C.one D.one h1.1 h1.2, rd_t B.one A.one B.one C.one D.one h1.1 h1.2, rd_t C.one A.one B.one C.one D.one h1.1 h1.2, rd_t D.one A.one B.one C.one D.one h1.1 h1.2]
  rfl
theorem keys7 : cutKeysF C7 7 = [1000000, 1000001, 2000002, 1000002, 1000003, 1000004, 1000005, 1000006, 2000007, 1000007, 1000008, 2000009, 1000009, 2000010, 1000010, 1000012, 1000012, 2000013, 1000013, 1000014, 1000015, 2000016, 1000016, 1000018, 1000018, 1000019, 1000020, 1000021] := by kernel_rfl
theorem bounds_i64' {x : Int} (h : (Lit.int .i64 x).wf = true) : -9223372036854775808 ≤ x ∧ x ≤ 9223372036854775807 := bounds_i64 h
theorem SpanMatchesReference_calls {x0 x1 x2 y0 y1 y2 n0 n1 n2 : Int} (_ : (Lit.int .i64 x0).wf = true) (hx1 : (Lit.int .u32 x1).wf = true) (hx2 : (Lit.int .u16 x2).wf = true)
    (_ : (Lit.int .i64 y0).wf = true) (hy1 : (Lit.int .u32 y1).wf = true) (hy2 : (Lit.int .u16 y2).wf = true)
    (_ : (Lit.int .i64 n0).wf = true) (hn1 : (Lit.int .i64 n1).wf = true) (_ : (Lit.int .i64 n2).wf = true) (w : World) :
    Calls Try.prog 7 #[.agg #[.int .i64 x0, .int .u32 x1, .int .u16 x2], .agg #[.int .i64 y0, .int .u32 y1, .int .u16 y2], .agg #[.int .i64 n0, .int .i64 n1, .int .i64 n2]] w fun e w' => e = .returned (.bool true) ∧ Below w.heap.size w w' := by
  refine evFL_calls C7_ok (law7 (bounds_u32 hx1) (bounds_u16 hx2).1 (bounds_u32 hy1) (bounds_u16 hy2).1 (bounds_i64' hn1)) ?_ ?_ rfl rfl (fun _ _ _ h => by cases h)
  · intro j hj s0 e s' h
    have hl : (loopsF C7 7).length = 2 := by kernel_rfl
    rw [hl] at hj
    have hk : keyF C7 7 0 = 10 := by kernel_rfl
    have hk1 : keyF C7 7 1 = 16 := by kernel_rfl
    obtain rfl | rfl : j = 0 ∨ j = 1 := by omega
    · rw [hk] at h; cases h
    · rw [hk1] at h; cases h
  · intro j k hk s0 e s' h
    rw [keys7] at hk
    unfold LO7 at h
    cases b1 : Nat.beq k 2000007 with
    | true =>
      obtain rfl := Nat.eq_of_beq_eq_true b1
      obtain rfl := keyAt (i := 8) (by decide) j hk
      rw [b1] at h
      obtain ⟨h1, h2⟩ := Prod.mk.inj (Option.some.inj h)
      obtain ⟨rfl, rfl⟩ := Prod.mk.inj h2
      exact o7 (of_cdec h1)
    | false =>
      rw [b1] at h
      cases b2 : Nat.beq k 2000013 with
      | true =>
        obtain rfl := Nat.eq_of_beq_eq_true b2
        obtain rfl := keyAt (i := 17) (by decide) j hk
        rw [b2] at h
        obtain ⟨h1, h2⟩ := Prod.mk.inj (Option.some.inj h)
        obtain ⟨rfl, rfl⟩ := Prod.mk.inj h2
        exact o13 (of_cdec h1)
      | false =>
        rw [b2] at h
        cases b3 : Nat.beq k 1000019 with
        | true =>
          obtain rfl := Nat.eq_of_beq_eq_true b3
          obtain rfl := keyAt (i := 25) (by decide) j hk
          rw [b3] at h
          obtain ⟨h1, h2⟩ := Prod.mk.inj (Option.some.inj h)
          obtain ⟨rfl, rfl⟩ := Prod.mk.inj h2
          exact o19 (of_cdec h1)
        | false =>
          rw [b3] at h
          cases h
end Go.Proofs.Yteghmmkhfgkdgaa.SX
