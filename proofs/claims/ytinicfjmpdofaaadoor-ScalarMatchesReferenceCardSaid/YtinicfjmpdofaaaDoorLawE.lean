/- The law ScalarMatchesReference: that it answers true, and its call. No condition. -/
import Derived.Test.YtinicfjmpdofaaaDoorLawD
set_option linter.unusedVariables false
set_option linter.unusedSimpArgs false
namespace Go.Proofs.YtinicfjmpdofaaaDoor.SX
open Go Go.Ex Go.RowKit
set_option maxRecDepth 100000

theorem eU_t (k a : Int) : eU k a = true := by unfold eU; simp
theorem eB_t (k a b : Int) : eB k a b = true := by unfold eB; simp
theorem endG_normal {C : Cfg} {f : FuncId} {j n i : Nat} {s t : St} (h : (endG C f j n (.normal, s)).2 = some (t, i)) : tidyF C f j s = some t := by
  unfold endG at h
  simp only at h
  split at h
  · rename_i u hu
    obtain ⟨rfl, _⟩ := Prod.mk.inj (Option.some.inj h)
    exact hu
  · cases h
theorem matches_loop {op a b : Int} (ha : I32 a) (hb : I32 b) : ∀ (n : Nat) (k : Int), (31 - k).toNat = n → -1 ≤ k → k ≤ 31 →
    ∃ m s1, (loopN (stepF C5 (evF C5 24) LO3 24 3 0) m (S3 op a b k)).run = some (.exit 0, s1) ∧ Weaker ⟨H3 op a b ++ noneL 47, [], 0⟩ s1 := by
  intro n
  have hi : FI a = true := cdec_true ha
  have hl : FL a b = true := FL_t ha hb
  induction n with
  | zero =>
    intro k hk h1 h2
    obtain rfl : k = 31 := by omega
    have h := st3 op a b 31
    rw [decide_eq_false (by omega)] at h
    obtain ⟨s, hs, he⟩ := endG_run h
    obtain ⟨he, hlen⟩ := Prod.mk.inj (Option.some.inj he)
    refine ⟨1, s, loop_end hs, weak_of 8 ?_ rfl⟩
    obtain ⟨tm, m, nx⟩ := s
    injection he with e1 e2 e3
    simp only at e1 e2 e3 hlen ⊢
    rw [e1, e2, e3, hlen]; rfl
  | succ n ih =>
    intro k hk h1 h2
    have h := st3 op a b k
    rw [decide_eq_true (show k ≤ 30 by omega), hi, hl, eU_t, eB_t] at h
    obtain ⟨s, hs, he⟩ := endG_run h
    have ht := endG_normal he
    have ew : wr64 (k + 1) = k + 1 := w64_id (by omega)
    rw [ew] at ht
    obtain ⟨m, s1, g1, g2⟩ := ih (k + 1) (by omega) (by omega) (by omega)
    exact ⟨m + 1, s1, loop_next hs (ht.trans (tidy3 op a b (k + 1)).symm) g1, g2⟩
theorem matches_run {op a b : Int} (ha : I32 a) (hb : I32 b) : (evFL C5 (evF C5 24) LO3 24 3 [.int .i64 op, .int .i32 a, .int .i32 b] [] 0).run = fT := by
  rw [l3, cdec_true ⟨op, a, b, -1, rfl, ha, hb, by omega, by omega⟩]
  have hi : FI a = true := cdec_true ha
  have hl : FL a b = true := FL_t ha hb
  unfold fin3
  rw [hi, hl, eU_t, eB_t]; rfl
theorem ck3 : (cutKeysF C5 3).all (fun k => Nat.blt 999 k) = true := by kernel_rfl
theorem no_cut {l : List Nat} (h : l.all (fun k => Nat.blt 999 k) = true) {j k i : Nat} (hk : l[j]? = some k) (hi : i < 1000) : Nat.beq k i = false := by
  rw [List.all_eq_true] at h
  have := h k (List.mem_of_getElem? hk)
  have h2 : 999 < k := by simpa using this
  cases hb : Nat.beq k i with
  | false => rfl
  | true => have := Nat.eq_of_beq_eq_true hb; omega
theorem matches_calls {op a b : Int} (ho : (Lit.int .i64 op).wf = true) (ha : (Lit.int .i32 a).wf = true) (hb : (Lit.int .i32 b).wf = true) (w : World) :
    Calls Tryd.prog 3 #[.int .i64 op, .int .i32 a, .int .i32 b] w fun e w' => e = .returned (.bool true) ∧ Below w.heap.size w w' := by
  refine evFL_calls C5_ok (matches_run (i32_wf ha) (i32_wf hb)) ?_ ?_ rfl rfl (noG_rel w)
  · intro j hj s0 e s' h
    rw [k3.1] at hj
    obtain rfl : j = 0 := by omega
    rw [k3.2] at h
    obtain ⟨g1, g2⟩ := Prod.mk.inj (Option.some.inj h)
    obtain ⟨rfl, rfl⟩ := Prod.mk.inj g2
    obtain ⟨op', a', b', k', rfl, h1, h2, h3, h4⟩ := of_cdec g1
    exact matches_loop h1 h2 _ k' rfl h3 h4
  · intro j k hk s0 e s' h
    unfold LO3 at h
    rw [no_cut ck3 hk (by omega)] at h
    cases h
end Go.Proofs.YtinicfjmpdofaaaDoor.SX
