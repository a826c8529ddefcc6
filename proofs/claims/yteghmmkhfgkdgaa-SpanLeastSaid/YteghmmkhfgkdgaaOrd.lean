/- Contracts of functions that are told a slice of whole numbers, and those of the span program's calculating functions, in the evaluator's form. -/
import Derived.Test.YteghmmkhfgkdgaaOrc
namespace Go.Proofs.Yteghmmkhfgkdgaa.SX
open Go Go.Ex Go.RowKit Go.Proofs.YteghmmkhfgkdgaaW.PrintWords Go.Proofs.Yteghmmkhfgkdgaa.QS

/-- A function's contract that looks at memory. -/
structure MOrc where
  f : FuncId
  g : List V → Mem → Option (Bool × V)
def morcs : List MOrc → FuncId → List V → Mem → Option (Bool × V)
  | [], _, _, _ => none
  | o :: os, f, args, m => bif Nat.beq o.f f then o.g args m else morcs os f args m
def MOrcOk (P : Program) (o : MOrc) : Prop :=
  ∀ (C : Cfg), C.P = P → ∀ args m v, o.g args m = some (true, v) → ∀ y, v.valT = some y → ∀ w ι xs, Sim C ι (Go.Ex.look m) w → V.relL ι args xs → Calls P o.f xs.toArray w fun e w' => e = .returned y ∧ Below w.heap.size w w'
def memO (o : Orc) : MOrc := ⟨o.f, fun args _ => o.g args⟩
def mkM (P : Program) (G : Nat → Option (List V × TypeId)) (eqT : TypeId → Bool) (os : List MOrc) : Cfg := ⟨P, G, morcs os, eqT⟩
theorem morcs_some {os : List MOrc} {f : FuncId} {args : List V} {m : Mem} {r : Bool × V} (h : morcs os f args m = some r) : ∃ o ∈ os, o.f = f ∧ o.g args m = some r := by
  induction os with
  | nil => simp [morcs] at h
  | cons o os ih =>
    simp only [morcs] at h
    cases hb : Nat.beq o.f f with
    | true => rw [hb] at h; exact ⟨o, by simp, Nat.eq_of_beq_eq_true hb, h⟩
    | false =>
      rw [hb] at h
      obtain ⟨o', h1, h2⟩ := ih h
      exact ⟨o', by simp [h1], h2⟩
theorem mkM_ok {P : Program} {G : Nat → Option (List V × TypeId)} {eqT : TypeId → Bool} {os : List MOrc} (hm : P.follows .mixedOrders = true) (hn : ∀ (f : Nat) (fn : Func), P.funcs[f]? = some fn → fn.body.isSome = true → (fn.name == "runtime.NumGoroutine") = false)
    (he : ∀ t, eqT t = true → P.stoodInHeld t = false ∧ P.eqGuardType P.depth t = false) (ho : ∀ o ∈ os, MOrcOk P o) : (mkM P G eqT os).Ok := by
  refine ⟨hm, hn, he, ?_⟩
  intro f args m v h y hy w ι xs _ hs hr
  obtain ⟨o, h1, rfl, h3⟩ := morcs_some h
  exact ho o h1 (mkM P G eqT os) rfl args m v h3 y hy w ι xs hs hr
theorem mem_ok {P : Program} {o : Orc} (h : OrcOk P noG o) : MOrcOk P (memO o) := by
  intro C hP args m v hg y hy w ι xs hs hr
  obtain ⟨xs', y', k1, k2, k3⟩ := h args v hg
  obtain rfl := vals_rel k1 hr
  rw [hy] at k2
  obtain rfl := Option.some.inj k2
  exact k3 w (fun _ _ _ h => by cases h)

/-- Whole numbers of 64 bits. -/
def i64s : List V → Option (List Int)
  | [] => some []
  | .int .i64 n :: r => match i64s r with | some l => some (n :: l) | none => none
  | _ :: _ => none
theorem i64s_nth {ι : Inj} : ∀ {cs : List V} {l : List Int} {xs : List Value}, i64s cs = some l → V.relL ι cs xs → xs = l.map (Value.int .i64)
  | [], l, xs, h, hr => by simp only [i64s, Option.some.injEq] at h; subst h; exact hr
  | .int .i64 n :: r, l, xs, h, hr => by
    simp only [i64s] at h
    split at h
    · rename_i l' hl
      obtain rfl := Option.some.inj h
      obtain ⟨x, ys, rfl, h1, h2⟩ := hr
      obtain rfl : x = .int .i64 n := h1
      rw [i64s_nth hl h2]; rfl
    · cases h
noncomputable def gcV (l : List Int) : Int := evv fun k => span_gcd.f k l
noncomputable def gcB (l : List Int) : Bool := evb fun k => span_gcd.f k l
noncomputable def oGc : MOrc := ⟨47, fun args m => match args with
  | [.slice b off len sz] => match Go.Ex.look m b with
    | some k => match i64s (takeV len (dropV off k.cells)) with
      | some l => bif Nat.beq sz 1 && Nat.beq l.length len && Nat.ble len 1000 then some (gcB l, .int .i64 (gcV l)) else none
      | none => none
    | none => none
  | _ => none⟩
theorem oGc_ok : MOrcOk Try.prog oGc := by
  intro C hP args m v h y hy w ι xs hs hr
  simp only [oGc] at h
  split at h
  · rename_i b off len sz
    split at h
    · rename_i k hk
      split at h
      · rename_i l hl
        cases hb : (Nat.beq sz 1 && Nat.beq l.length len && Nat.ble len 1000) with
        | false => rw [hb] at h; cases h
        | true =>
          rw [hb] at h
          simp only [Bool.and_eq_true] at hb
          obtain ⟨⟨hsz, hlen⟩, hle⟩ := hb
          obtain rfl := Nat.eq_of_beq_eq_true hsz
          obtain rfl := Nat.eq_of_beq_eq_true hlen
          have hle := Nat.le_of_ble_eq_true hle
          obtain ⟨h1, rfl⟩ := Prod.mk.inj (Option.some.inj h)
          obtain ⟨q, hq⟩ := (evb_ev h1).rounds
          obtain ⟨x, xs', rfl, hx, hx'⟩ := hr
          obtain rfl : xs' = [] := hx'
          obtain ⟨lc, a, cap, hι, hoff, rfl, hal⟩ := hx
          obtain ⟨lc', hι', pre, ys, zs, ws, fr, hh, hpre, hrel, _, _, _⟩ := hs.blk b k hk
          rw [hι] at hι'
          obtain rfl := Option.some.inj hι'
          have hxs := i64s_nth hl (relL_take (relL_drop hrel))
          obtain rfl := Option.some.inj hy
          have hC : Kd.C (Kd.int .i64) w (some a) l.length l := by
            refine ⟨rfl, by omega, fun h0 => ⟨a, rfl, fun j p hj => ⟨[.int .i64 p], rfl, rfl, ?_⟩⟩⟩
            intro i u hu
            have hjl : j < l.length := (List.getElem?_eq_some_iff.1 hj).1
            have hi : i = 0 := by
              cases i with
              | zero => rfl
              | succ i => simp at hu
            subst hi
            obtain rfl := Option.some.inj hu
            rcases hal with ⟨rfl, _⟩ | ⟨h3, _⟩
            · have e1 : ys[off + j]? = some (.int .i64 p) := by
                have e2 : (List.take l.length (List.drop off ys))[j]? = some (.int .i64 p) := by rw [hxs, List.getElem?_map, hj]; rfl
                rw [List.getElem?_take_of_lt hjl, List.getElem?_drop] at e2
                exact e2
              have e3 : (pre ++ (ys ++ (zs ++ ws)))[lc.base + (off + j)]? = some (.int .i64 p) := by
                rw [← hpre, List.getElem?_append_right (by omega), Nat.add_sub_cancel_left]
                rw [List.getElem?_append_left (List.getElem?_eq_some_iff.1 e1).1]; exact e1
              have e4 : (Addr.add (⟨lc.r, lc.base + off * 1, none⟩ : Addr) (j * (Kd.int .i64).sz + 0)) = ⟨lc.r, lc.base + (off + j), none⟩ := by
                have : j * (Kd.int .i64).sz + 0 = j := by show j * 1 + 0 = j; omega
                rw [this]
                unfold Addr.add
                split
                · subst_vars; simp
                · simp; omega
              rw [e4]
              simp only [World.cell?, hh, Option.isSome_none, Bool.false_eq_true]
              rw [List.getElem?_toArray]; exact e3
            · omega
          have hcap : l.length ≤ cap := by rcases hal with ⟨_, rfl⟩ | ⟨h3, h4, _⟩ <;> omega
          exact span_gcd.calls q (some a) cap l _ w hC hcap hq
      · cases h
    · cases h
  · cases h
end Go.Proofs.Yteghmmkhfgkdgaa.SX
