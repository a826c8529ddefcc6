/- The law ScalarMatchesReference: what a round of its loop computes. No condition. -/
import Derived.Test.YtinicfjmpdofaaaDoorRefE
set_option linter.unusedVariables false
set_option linter.unusedSimpArgs false
namespace Go.Proofs.YtinicfjmpdofaaaDoor.SX
open Go Go.Ex Go.RowKit
set_option maxRecDepth 100000

/-! ### Loops, round by round -/
def tidyF (C : Cfg) (f : FuncId) (j : Nat) (s : St) : Option St :=
  match (loopsF C f)[j]? with
  | some p => tidy 0 (live (retsF C f) p.1 p.2 0) s
  | none => none
theorem step_congr {C : Cfg} {call : CallF} {LO : Loops} {fuel : Nat} {f : FuncId} {j : Nat} {x y : St} (h : tidyF C f j x = tidyF C f j y) : stepF C call LO fuel f j x = stepF C call LO fuel f j y := by
  unfold tidyF at h
  unfold stepF stepL
  split at h
  · rename_i p hp
    rw [hp]; simp only [h]
  · rename_i hp
    rw [hp]
theorem loopN_congr {b : St → Tree (Ex × St)} {x y : St} (h : b x = b y) : ∀ k, loopN b k x = loopN b k y
  | 0 => rfl
  | k + 1 => by simp only [loopN, h]
theorem loop_next {C : Cfg} {call : CallF} {LO : Loops} {fuel : Nat} {f : FuncId} {j k : Nat} {s0 s1 s2 : St} {r : Ex × St} (h1 : (stepF C call LO fuel f j s0).run = some (.normal, s1)) (h2 : tidyF C f j s1 = tidyF C f j s2)
    (h3 : (loopN (stepF C call LO fuel f j) k s2).run = some r) : (loopN (stepF C call LO fuel f j) (k + 1) s0).run = some r := by
  simp only [loopN, Tree.run_bind, h1, Option.bind_some]
  rw [loopN_congr (step_congr h2)]; exact h3
theorem loop_end {b : St → Tree (Ex × St)} {s0 s1 : St} {i : Nat} (h1 : (b s0).run = some (.exit i, s1)) : (loopN b 1 s0).run = some (.exit i, s1) := by
  simp only [loopN, Tree.run_bind, h1, Option.bind_some]; rfl
/-- The end of a round, looked at. -/
def endG (C : Cfg) (f : FuncId) (j n : Nat) (r : Ex × St) : Ex × Option (St × Nat) :=
  match r.1 with
  | .normal => (.normal, match tidyF C f j r.2 with | some s => some (s, 0) | none => none)
  | .exit i => (.exit i, some (⟨r.2.tm.take n, r.2.m, r.2.nx⟩, r.2.tm.length))
  | .ret => (.ret, none)
theorem endG_run {C : Cfg} {f : FuncId} {j n : Nat} {T : Tree (Ex × St)} {e : Ex} {o : Option (St × Nat)} (h : (T.bind fun r => .ret (endG C f j n r)).run = some (e, o)) : ∃ s, T.run = some (e, s) ∧ (endG C f j n (e, s)).2 = o := by
  rw [Tree.run_bind] at h
  cases hT : T.run with
  | none => rw [hT] at h; cases h
  | some r =>
    rw [hT] at h
    obtain ⟨e1, s⟩ := r
    have h' : endG C f j n (e1, s) = (e, o) := Option.some.inj h
    have he : (endG C f j n (e1, s)).1 = e1 := by cases e1 <;> rfl
    rw [h'] at he
    simp only at he
    subst he
    exact ⟨s, rfl, by rw [h']⟩

noncomputable def FI (a : Int) : Bool := cdec (I32 a)
def eU (k a : Int) : Bool := (unV k a == unV k a) && ((unE k == unE k) && true)
def eB (k a b : Int) : Bool := (binV k a b == binV k a b) && ((binE k == binE k) && true)
def H3 (op a b : Int) : Tm := [some (.int .i64 op), some (.int .i32 a), some (.int .i32 b), none, none, none, none, some (.bool true)]
def S3 (op a b k : Int) : St := ⟨H3 op a b ++ (some (.int .i64 k) :: noneL 46), [], 0⟩
def P3 (x : St) : Prop := ∃ op a b k, x = S3 op a b k ∧ I32 a ∧ I32 b ∧ -1 ≤ k ∧ k ≤ 31
noncomputable def LO3 : Loops := fun k s => bif Nat.beq k 5 then some (cdec (P3 s), .exit 0, ⟨s.tm.take 8 ++ noneL 47, [], 0⟩) else none
theorem k3 : (loopsF C5 3).length = 1 ∧ keyF C5 3 0 = 5 := ⟨by kernel_rfl, by kernel_rfl⟩
theorem tidy3 (op a b k : Int) : tidyF C5 3 0 (S3 op a b k) = some (S3 op a b k) := by kernel_rfl
theorem st3 (op a b k : Int) : ((stepF C5 (evF C5 24) LO3 24 3 0 (S3 op a b k)).bind fun r => .ret (endG C5 3 0 8 r)).run =
    bif decide (k ≤ 30) then (bif FI a then bif !(eU k a) then some (.ret, none) else bif FL a b then bif FL a b then bif !(eB k a b) then some (.ret, none) else some (.normal, some (S3 op a b (wr64 (k + 1)), 0)) else none else none else none)
    else some (.exit 0, some (⟨H3 op a b, [], 0⟩, 55)) := by kernel_rfl
noncomputable def fin3 (op a b : Int) : Option (V × Mem × Nat) :=
  bif FI a then bif eU op a then bif FL a b then bif FL a b then bif eB op a b then fT else fF else none else none else fF else none
theorem l3 (op a b : Int) : (evFL C5 (evF C5 24) LO3 24 3 [.int .i64 op, .int .i32 a, .int .i32 b] [] 0).run = bif cdec (P3 (S3 op a b (-1))) then fin3 op a b else none := by kernel_rfl
end Go.Proofs.YtinicfjmpdofaaaDoor.SX
