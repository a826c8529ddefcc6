-- Written by a program of this session (pp.py) over the kit's printer; Lean checks it.
import Derived.Test.YteghmmkhfgkdgaaProg
import Derived.Below
import Derived.Deep.Draws
import Derived.Deep.AppendLies
import Derived.Maps.AppendAt
import Derived.OwnWalk
import Derived.Laws.BytesArg
import Derived.Laws.MakeOwn
import Derived.Laws.OwnMore
import Derived.Deep.OwnRows
import Derived.Tactics
import Derived.Lib.ConvBytes
import Derived.Laws.Slices
import Derived.WalkKit
import Derived.KernelRfl
import Derived.RowKit3
import Derived.Deep.LoopGhost
import Derived.Deep.QuietTactic
import Derived.BigQuiet
import Derived.WideLaws
import Derived.Deep.DeepCutAuto
import Derived.Deep.CutBlock
import Derived.Deep.RegionHeld3
import Derived.Laws.Rows
import Derived.Lib.AppendStr
import Derived.ArgAppend
import Derived.Laws.IdiomCopy
import Derived.OrdersHeld
import Derived.Laws.BitsLemmas
import Derived.RowKit
import Derived.Test.YteghmmkhfgkdgaaWWords
import Derived.Test.YteghmmkhfgkdgaaWLast
import Derived.Test.YteghmmkhfgkdgaaWTab
import Derived.Test.YteghmmkhfgkdgaaWFour
import Derived.Test.YteghmmkhfgkdgaaWQPut
import Derived.Test.YteghmmkhfgkdgaaWApart
import Derived.Test.YteghmmkhfgkdgaaWArr
import Derived.Test.YteghmmkhfgkdgaaWZeros
import Derived.Test.YteghmmkhfgkdgaaWFoot
import Derived.Test.YteghmmkhfgkdgaaWKept
import Derived.Test.YteghmmkhfgkdgaaWShare
import Derived.Test.YteghmmkhfgkdgaaWN
import Derived.Test.YteghmmkhfgkdgaaWFootNe
import Derived.Test.YteghmmkhfgkdgaaWAt
import Derived.Test.YteghmmkhfgkdgaaWEqStruct
import Derived.Test.YteghmmkhfgkdgaaWRepsOne
import Derived.Test.YteghmmkhfgkdgaaWInv
import Derived.Test.YteghmmkhfgkdgaaWInvWords
import Derived.Test.YteghmmkhfgkdgaaWGuard
import Derived.Test.YteghmmkhfgkdgaaWNEv
import Derived.Test.YteghmmkhfgkdgaaWMore
namespace Go.Proofs.Yteghmmkhfgkdgaa.QS
open Go.RowKit Go.Proofs.YteghmmkhfgkdgaaW.PrintWords Go.Proofs.YteghmmkhfgkdgaaW.PrintLast Go.Proofs.YteghmmkhfgkdgaaW.PrintMore
attribute [local go_sem] max2_int min2_int max_two min_two max_three min_three max_four min_four   -- for this text's walks alone
set_option linter.unusedVariables false
set_option linter.unusedSimpArgs false



def errW : Option Int → Value
 | none => .nilIface
 | some c => .iface 0 (.int .i64 c)
theorem errW_none : errW none = .nilIface := rfl
theorem errW_some (c : Int) : errW (some c) = .iface 0 (.int .i64 c) := rfl

theorem info2 : (Try.prog.info? 2).map (fun i => (i.zero, i.size, i.bytes)) = some (some (.int .i64 0), 1, 8) := by kernel_rfl
theorem info4 : (Try.prog.info? 4).map (fun i => (i.zero, i.size, i.bytes)) = some (some (.bool false), 1, 1) := by kernel_rfl
theorem info28 : (Try.prog.info? 28).map (fun i => (i.zero, i.size, i.bytes)) = some (some (.agg #[(.int .i64 0), (.int .i64 0), (.int .i64 0)]), 3, 24) := by kernel_rfl
theorem info57 : (Try.prog.info? 57).map (fun i => (i.zero, i.size, i.bytes)) = some (some (.agg #[(.int .i64 0), (.int .i64 0), (.int .i64 0), (.int .i64 0), (.int .i64 0), (.int .i64 0)]), 6, 48) := by kernel_rfl
-- the values' own types
/-! #### struct type 28 -/
structure S28 where
 f0 : Int
 f1 : Int
 f2 : Int
def z28 : S28 := ⟨(0 : Int), (0 : Int), (0 : Int)⟩
def k28 : Kd S28 := Kd.iso (Kd.pair (Kd.int .i64) (Kd.pair (Kd.int .i64) (Kd.int .i64))) (fun x : S28 => (x.f0, x.f1, x.f2))
theorem k28_open {w : World} {x : S28} {cs : List Value} (h : k28.K w x cs) : cs = [.int .i64 x.f0, .int .i64 x.f1, .int .i64 x.f2] := by
 obtain ⟨_, _, rfl, rfl, ⟨_, _, rfl, rfl, rfl⟩⟩ := h
 exact rfl
theorem k28_openM {w : World} {base : Nat} {ok : Nat → Prop} {x : S28} {cs : List Value} (h : k28.M w base ok x cs) : cs = [.int .i64 x.f0, .int .i64 x.f1, .int .i64 x.f2] := by
 obtain ⟨_, _, rfl, rfl, ⟨_, _, rfl, rfl, rfl⟩⟩ := h
 exact rfl
theorem k28_mk (w : World) (x : S28)  : k28.K w x [.int .i64 x.f0, .int .i64 x.f1, .int .i64 x.f2] := ⟨[.int .i64 x.f0], [.int .i64 x.f1, .int .i64 x.f2], rfl, rfl, ⟨[.int .i64 x.f1], [.int .i64 x.f2], rfl, rfl, rfl⟩⟩
theorem k28_mkM (w : World) (base : Nat) (ok : Nat → Prop) (x : S28)  : k28.M w base ok x [.int .i64 x.f0, .int .i64 x.f1, .int .i64 x.f2] := ⟨[.int .i64 x.f0], [.int .i64 x.f1, .int .i64 x.f2], rfl, rfl, ⟨[.int .i64 x.f1], [.int .i64 x.f2], rfl, rfl, rfl⟩⟩
def rd_T28 (xs : List S28) (i : Int) : S28 := xs.getD i.toNat z28
theorem at_T28 {w : World} {A : Option Addr} {n : Nat} {xs : List S28} (h : Kd.C k28 w A n xs) (i : Int) (h0 : 0 ≤ i) (h1 : i < n) : ∃ ad , A = some ad ∧ w.cell? (ad.add (i.toNat * 3)) = some (.int .i64 (rd_T28 xs i).f0) ∧ w.cell? ⟨(ad.add (i.toNat * 3)).block, (ad.add (i.toNat * 3)).off + 1, none⟩ = some (.int .i64 (rd_T28 xs i).f1) ∧ w.cell? ⟨(ad.add (i.toNat * 3)).block, (ad.add (i.toNat * 3)).off + 2, none⟩ = some (.int .i64 (rd_T28 xs i).f2) := by
 obtain ⟨ad, c, e, _, hK, hc0⟩ := Kd.C_get h z28 i h0 h1
 have hc : ∀ j u, c[j]? = some u → w.cell? (ad.add (i.toNat * 3 + j)) = some u := hc0
 obtain rfl := k28_open hK
 exact ⟨ad, e, hc 0 _ rfl, by rw [← add_field _ _ 1 (by omega)]; exact hc 1 _ rfl, by rw [← add_field _ _ 2 (by omega)]; exact hc 2 _ rfl⟩

/-! #### struct type 57 -/
structure S57 where
 f0 : S28
 f1 : S28
def z57 : S57 := ⟨z28, z28⟩
def k57 : Kd S57 := Kd.iso (Kd.pair k28 k28) (fun x : S57 => (x.f0, x.f1))
theorem k57_open {w : World} {x : S57} {cs : List Value} (h : k57.K w x cs) : cs = [.int .i64 x.f0.f0, .int .i64 x.f0.f1, .int .i64 x.f0.f2, .int .i64 x.f1.f0, .int .i64 x.f1.f1, .int .i64 x.f1.f2] := by
 obtain ⟨_, _, rfl, s0, s3⟩ := h
 obtain rfl := k28_open s0
 obtain rfl := k28_open s3
 exact rfl
theorem k57_openM {w : World} {base : Nat} {ok : Nat → Prop} {x : S57} {cs : List Value} (h : k57.M w base ok x cs) : cs = [.int .i64 x.f0.f0, .int .i64 x.f0.f1, .int .i64 x.f0.f2, .int .i64 x.f1.f0, .int .i64 x.f1.f1, .int .i64 x.f1.f2] := by
 obtain ⟨_, _, rfl, s0, s3⟩ := h
 obtain rfl := k28_openM s0
 obtain rfl := k28_openM s3
 exact rfl
theorem k57_mk (w : World) (x : S57)  : k57.K w x [.int .i64 x.f0.f0, .int .i64 x.f0.f1, .int .i64 x.f0.f2, .int .i64 x.f1.f0, .int .i64 x.f1.f1, .int .i64 x.f1.f2] := ⟨[.int .i64 x.f0.f0, .int .i64 x.f0.f1, .int .i64 x.f0.f2], [.int .i64 x.f1.f0, .int .i64 x.f1.f1, .int .i64 x.f1.f2], rfl, (k28_mk w x.f0 ), (k28_mk w x.f1 )⟩
theorem k57_mkM (w : World) (base : Nat) (ok : Nat → Prop) (x : S57)  : k57.M w base ok x [.int .i64 x.f0.f0, .int .i64 x.f0.f1, .int .i64 x.f0.f2, .int .i64 x.f1.f0, .int .i64 x.f1.f1, .int .i64 x.f1.f2] := ⟨[.int .i64 x.f0.f0, .int .i64 x.f0.f1, .int .i64 x.f0.f2], [.int .i64 x.f1.f0, .int .i64 x.f1.f1, .int .i64 x.f1.f2], rfl, (k28_mkM w base ok x.f0 ), (k28_mkM w base ok x.f1 )⟩
def rd_T57 (xs : List S57) (i : Int) : S57 := xs.getD i.toNat z57
theorem at_T57 {w : World} {A : Option Addr} {n : Nat} {xs : List S57} (h : Kd.C k57 w A n xs) (i : Int) (h0 : 0 ≤ i) (h1 : i < n) : ∃ ad , A = some ad ∧ w.cell? (ad.add (i.toNat * 6)) = some (.int .i64 (rd_T57 xs i).f0.f0) ∧ w.cell? ⟨(ad.add (i.toNat * 6)).block, (ad.add (i.toNat * 6)).off + 1, none⟩ = some (.int .i64 (rd_T57 xs i).f0.f1) ∧ w.cell? ⟨(ad.add (i.toNat * 6)).block, (ad.add (i.toNat * 6)).off + 2, none⟩ = some (.int .i64 (rd_T57 xs i).f0.f2) ∧ w.cell? ⟨(ad.add (i.toNat * 6)).block, (ad.add (i.toNat * 6)).off + 3, none⟩ = some (.int .i64 (rd_T57 xs i).f1.f0) ∧ w.cell? ⟨(ad.add (i.toNat * 6)).block, (ad.add (i.toNat * 6)).off + 4, none⟩ = some (.int .i64 (rd_T57 xs i).f1.f1) ∧ w.cell? ⟨(ad.add (i.toNat * 6)).block, (ad.add (i.toNat * 6)).off + 5, none⟩ = some (.int .i64 (rd_T57 xs i).f1.f2) := by
 obtain ⟨ad, c, e, _, hK, hc0⟩ := Kd.C_get h z57 i h0 h1
 have hc : ∀ j u, c[j]? = some u → w.cell? (ad.add (i.toNat * 6 + j)) = some u := hc0
 obtain rfl := k57_open hK
 exact ⟨ad, e, hc 0 _ rfl, by rw [← add_field _ _ 1 (by omega)]; exact hc 1 _ rfl, by rw [← add_field _ _ 2 (by omega)]; exact hc 2 _ rfl, by rw [← add_field _ _ 3 (by omega)]; exact hc 3 _ rfl, by rw [← add_field _ _ 4 (by omega)]; exact hc 4 _ rfl, by rw [← add_field _ _ 5 (by omega)]; exact hc 5 _ rfl⟩

/-- Short names for what the walks write again and again. -/
theorem bk_ {P Q : Prop} (h : Aside0 P) (f : P → Q := by intro h_; (with_reducible repeat (first | refine blk_drewN ?_ _ | refine blk_drew ?_ | refine blk_alloc ?_ _)); exact h_) : Q := f h.out
theorem bl_ {P Q : Prop} (h : Aside0 P) (f : P → Q := by intro h_; repeat (first | (with_reducible first | exact h_ | apply below_alloc | apply pw_below_drewN | apply below_drew1 | refine below_set ?_ (Aside0.out (by assumption))) | exact h_)) : Q := f h.out
theorem bb_ {w w0 w' : World} {g : Nat} {o : Obj} (h : Aside0 (w0.heap[g]? = some o)) (hb : Below w.heap.size w w') (f : w0.heap[g]? = some o → w.heap[g]? = some o := by intro h_; (with_reducible repeat (first | refine blk_drewN ?_ _ | refine blk_drew ?_ | refine blk_alloc ?_ _)); exact h_) : w'.heap[g]? = some o := blk_below (f h.out) hb
theorem nl_ {w w0 : World} {g g' : Nat} {o : Obj} (hg : g' = w.heap.size) (h : Aside0 (w0.heap[g]? = some o)) (f : w0.heap[g]? = some o → w.heap[g]? = some o := by intro h_; (with_reducible repeat (first | refine blk_drewN ?_ _ | refine blk_drew ?_ | refine blk_alloc ?_ _)); exact h_) : g ≠ g' := by rw [hg]; exact Nat.ne_of_lt (blk_lt (f h.out))
theorem ng_ {w w0 : World} {g g' : Nat} {o : Obj} (hg : g' = w.heap.size) (h : Aside0 (w0.heap[g]? = some o)) (f : w0.heap[g]? = some o → w.heap[g]? = some o := by intro h_; (with_reducible repeat (first | refine blk_drewN ?_ _ | refine blk_drew ?_ | refine blk_alloc ?_ _)); exact h_) : g' ≠ g := by rw [hg]; exact Nat.ne_of_gt (blk_lt (f h.out))
def bm_ (n m : Nat) : Array Bool := ((List.range n).map fun i => m.testBit i).toArray
theorem am_ {P : Prop} (h : P := by (try simp only [List.map_toArray, List.map_cons, List.map_nil]); first | done | rfl | (simp only [List.length_drop, List.length_take]; rfl)) : P := h

end Go.Proofs.Yteghmmkhfgkdgaa.QS
