/- A way through a tree of branches: what it asks, and what stands at its end. -/
import Derived.Test.YtinicfjmpdofaaaDoorEx2
set_option linter.unusedVariables false
namespace Go.Proofs.YtinicfjmpdofaaaDoor.SX
open Go Go.Ex Go.RowKit

/-- Past questions that are settled. -/
def skip {α : Type} : Nat → Tree α → Tree α
  | 0, T => T
  | n + 1, T => match T with
    | .ite c a b => match c with
      | true => skip n a
      | false => skip n b
    | T => T
def path {α : Type} : Tree α → List (Nat × Bool) → Option (List Bool × α)
  | T, [] => match skip 1000 T with
    | .ret x => some ([], x)
    | _ => none
  | T, (k, t) :: l => match skip k T with
    | .ite c a b => match t with
      | true => match path a l with | some (cs, x) => some (c :: cs, x) | none => none
      | false => match path b l with | some (cs, x) => some (c :: cs, x) | none => none
    | _ => none
theorem skip_run {α : Type} : ∀ (n : Nat) (T : Tree α), (skip n T).run = T.run
  | 0, T => rfl
  | n + 1, .fail => rfl
  | n + 1, .ret _ => rfl
  | n + 1, .ite c a b => by
    cases c
    · simp only [skip]; rw [skip_run n b]; rfl
    · simp only [skip]; rw [skip_run n a]; rfl
theorem path_run {α : Type} : ∀ {l : List (Nat × Bool)} {T : Tree α} {x : α}, path T l = some (l.map Prod.snd, x) → T.run = some x
  | [], T, x, h => by
    unfold path at h
    rw [← skip_run 1000 T]
    split at h
    · rename_i y hy
      rw [hy]
      obtain ⟨_, rfl⟩ := Prod.mk.inj (Option.some.inj h)
      rfl
    · cases h
  | (k, t) :: l, T, x, h => by
    unfold path at h
    rw [← skip_run k T]
    split at h
    · rename_i c a b hs
      rw [hs]
      cases t with
      | true =>
        simp only at h
        split at h
        · rename_i cs y hp
          obtain ⟨h1, rfl⟩ := Prod.mk.inj (Option.some.inj h)
          simp only [List.map_cons, List.cons.injEq] at h1
          obtain ⟨rfl, rfl⟩ := h1
          rw [Tree.run_ite, if_pos rfl]; exact path_run hp
        · cases h
      | false =>
        simp only at h
        split at h
        · rename_i cs y hp
          obtain ⟨h1, rfl⟩ := Prod.mk.inj (Option.some.inj h)
          simp only [List.map_cons, List.cons.injEq] at h1
          obtain ⟨rfl, rfl⟩ := h1
          rw [Tree.run_ite, if_neg (by simp)]; exact path_run hp
        · cases h
    · cases h
/-- The end of a way, looked at through a function. -/
theorem path_end {α β : Type} {T : Tree α} {l : List (Nat × Bool)} {cs : List Bool} {f : α → β} {b : β} (h : (path T l).map (fun r => (r.1, f r.2)) = some (cs, b)) (e : cs = l.map Prod.snd) : ∃ x, T.run = some x ∧ f x = b := by
  cases hp : path T l with
  | none => rw [hp] at h; cases h
  | some r =>
    obtain ⟨cs', x⟩ := r
    rw [hp] at h
    obtain ⟨h1, h2⟩ := Prod.mk.inj (Option.some.inj h)
    subst e
    simp only at h1 h2
    subst h1
    exact ⟨x, path_run hp, h2⟩
/-- Only the first temporaries count. -/
theorem weak_of {s s1 : St} (k : Nat) (h : (s1.m, s1.nx, s1.tm.length, s1.tm.take k) = (s.m, s.nx, s.tm.length, s.tm.take k)) (hn : s.tm.drop k = noneL (s.tm.length - k)) : Weaker s s1 := by
  obtain ⟨h1, h2⟩ := Prod.mk.inj h
  obtain ⟨h2, h3⟩ := Prod.mk.inj h2
  obtain ⟨h3, h4⟩ := Prod.mk.inj h3
  refine ⟨h1.symm, h2.symm, Nat.le_of_eq h3.symm, ?_⟩
  intro t v hv
  have g : ∀ (tm : Tm) (t : Nat), getT tm t = (tm[t]?).join := by
    intro tm
    induction tm with
    | nil => intro t; cases t <;> simp [getT]
    | cons o tm ih => intro t; cases t with
      | zero => simp [getT]
      | succ t => simp [getT, ih]
  rw [g] at hv ⊢
  rcases Nat.lt_or_ge t k with hlt | hge
  · rw [← List.getElem?_take_of_lt hlt] at hv ⊢
    rw [h4]; exact hv
  · exfalso
    have e : s.tm[t]? = (s.tm.drop k)[t - k]? := by rw [List.getElem?_drop]; congr 1; omega
    rw [e, hn] at hv
    have hnone : ∀ (n j : Nat), (noneL n : List (Option V))[j]? = none ∨ (noneL n : List (Option V))[j]? = some none := by
      intro n
      induction n with
      | zero => intro j; left; simp [noneL]
      | succ n ih => intro j; cases j with
        | zero => right; simp [noneL]
        | succ j => simpa [noneL] using ih j
    rcases hnone (s.tm.length - k) (t - k) with q | q <;> rw [q] at hv <;> cases hv
noncomputable def cdec (P : Prop) : Bool := @decide P (Classical.propDecidable P)
theorem cdec_true {P : Prop} (h : P) : cdec P = true := @decide_eq_true P (Classical.propDecidable P) h
theorem of_cdec {P : Prop} (h : cdec P = true) : P := @of_decide_eq_true P (Classical.propDecidable P) h
def skel {α : Type} (T : Tree α) : Option Unit := (T.bind fun _ => .ret ()).run
end Go.Proofs.YtinicfjmpdofaaaDoor.SX
