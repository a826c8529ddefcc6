/- The law SpanOrder: what it computes, and that this answers true. -/
import Derived.Test.YteghmmkhfgkdgaaOrc
import Derived.Test.YteghmmkhfgkdgaaRef
import Derived.Test.YteghmmkhfgkdgaaJoin
import Derived.OpenShut
namespace Go.Proofs.Yteghmmkhfgkdgaa.SX
open Go Go.Ex Go.RowKit Go.Proofs.YteghmmkhfgkdgaaW.PrintWords Go.Proofs.Yteghmmkhfgkdgaa.SM Go.Proofs.Yteghmmkhfgkdgaa.QS
set_option maxRecDepth 100000

/-- What the law computes from three spans. -/
noncomputable def T5 (a1 a2 a3 b1 b2 b3 c1 c2 c3 : Int) : Option (V × Mem × Nat) :=
 bif jnB a1 a2 a3 b1 b2 b3 then
 bif jnB b1 b2 b3 a1 a2 a3 then
 bif !((jnV a1 a2 a3 b1 b2 b3).1 == (jnV b1 b2 b3 a1 a2 a3).1 && ((jnV a1 a2 a3 b1 b2 b3).2.1 == (jnV b1 b2 b3 a1 a2 a3).2.1 && ((jnV a1 a2 a3 b1 b2 b3).2.2 == (jnV b1 b2 b3 a1 a2 a3).2.2 && true))) then
 some (V.bool false, [], 0)
 else bif jnB a1 a2 a3 a1 a2 a3 then
 bif !((jnV a1 a2 a3 a1 a2 a3).1 == a1 && ((jnV a1 a2 a3 a1 a2 a3).2.1 == a2 && ((jnV a1 a2 a3 a1 a2 a3).2.2 == a3 && true))) then
 some (V.bool false, [], 0)
 else bif mtB a1 a2 a3 a1 a2 a3 then
 bif !((mtV a1 a2 a3 a1 a2 a3).1 == a1 && ((mtV a1 a2 a3 a1 a2 a3).2.1 == a2 && ((mtV a1 a2 a3 a1 a2 a3).2.2.1 == a3 && true)) && ((mtV a1 a2 a3 a1 a2 a3).2.2.2 == true && true)) then
 some (V.bool false, [], 0)
 else bif jnB (jnV a1 a2 a3 b1 b2 b3).1 (jnV a1 a2 a3 b1 b2 b3).2.1 (jnV a1 a2 a3 b1 b2 b3).2.2 c1 c2 c3 then
 bif jnB b1 b2 b3 c1 c2 c3 then
 bif jnB a1 a2 a3 (jnV b1 b2 b3 c1 c2 c3).1 (jnV b1 b2 b3 c1 c2 c3).2.1 (jnV b1 b2 b3 c1 c2 c3).2.2 then
 bif !((jnV (jnV a1 a2 a3 b1 b2 b3).1 (jnV a1 a2 a3 b1 b2 b3).2.1 (jnV a1 a2 a3 b1 b2 b3).2.2 c1 c2 c3).1 == (jnV a1 a2 a3 (jnV b1 b2 b3 c1 c2 c3).1 (jnV b1 b2 b3 c1 c2 c3).2.1 (jnV b1 b2 b3 c1 c2 c3).2.2).1 && ((jnV (jnV a1 a2 a3 b1 b2 b3).1 (jnV a1 a2 a3 b1 b2 b3).2.1 (jnV a1 a2 a3 b1 b2 b3).2.2 c1 c2 c3).2.1 == (jnV a1 a2 a3 (jnV b1 b2 b3 c1 c2 c3).1 (jnV b1 b2 b3 c1 c2 c3).2.1 (jnV b1 b2 b3 c1 c2 c3).2.2).2.1 && ((jnV (jnV a1 a2 a3 b1 b2 b3).1 (jnV a1 a2 a3 b1 b2 b3).2.1 (jnV a1 a2 a3 b1 b2 b3).2.2 c1 c2 c3).2.2 == (jnV a1 a2 a3 (jnV b1 b2 b3 c1 c2 c3).1 (jnV b1 b2 b3 c1 c2 c3).2.1 (jnV b1 b2 b3 c1 c2 c3).2.2).2.2 && true))) then
 some (V.bool false, [], 0)
 else bif mtB a1 a2 a3 (jnV a1 a2 a3 b1 b2 b3).1 (jnV a1 a2 a3 b1 b2 b3).2.1 (jnV a1 a2 a3 b1 b2 b3).2.2 then
 bif !((mtV a1 a2 a3 (jnV a1 a2 a3 b1 b2 b3).1 (jnV a1 a2 a3 b1 b2 b3).2.1 (jnV a1 a2 a3 b1 b2 b3).2.2).1 == a1 && ((mtV a1 a2 a3 (jnV a1 a2 a3 b1 b2 b3).1 (jnV a1 a2 a3 b1 b2 b3).2.1 (jnV a1 a2 a3 b1 b2 b3).2.2).2.1 == a2 && ((mtV a1 a2 a3 (jnV a1 a2 a3 b1 b2 b3).1 (jnV a1 a2 a3 b1 b2 b3).2.1 (jnV a1 a2 a3 b1 b2 b3).2.2).2.2.1 == a3 && true)) && ((mtV a1 a2 a3 (jnV a1 a2 a3 b1 b2 b3).1 (jnV a1 a2 a3 b1 b2 b3).2.1 (jnV a1 a2 a3 b1 b2 b3).2.2).2.2.2 == true && true)) then
 some (V.bool false, [], 0)
 else bif inB a1 a2 a3 (jnV a1 a2 a3 b1 b2 b3).1 (jnV a1 a2 a3 b1 b2 b3).2.1 (jnV a1 a2 a3 b1 b2 b3).2.2 then
 bif !inV a1 a2 a3 (jnV a1 a2 a3 b1 b2 b3).1 (jnV a1 a2 a3 b1 b2 b3).2.1 (jnV a1 a2 a3 b1 b2 b3).2.2 then
 some (V.bool false, [], 0)
 else bif inB b1 b2 b3 (jnV a1 a2 a3 b1 b2 b3).1 (jnV a1 a2 a3 b1 b2 b3).2.1 (jnV a1 a2 a3 b1 b2 b3).2.2 then
 bif !inV b1 b2 b3 (jnV a1 a2 a3 b1 b2 b3).1 (jnV a1 a2 a3 b1 b2 b3).2.1 (jnV a1 a2 a3 b1 b2 b3).2.2 then
 some (V.bool false, [], 0)
 else bif mtB a1 a2 a3 b1 b2 b3 then
 bif mtB b1 b2 b3 c1 c2 c3 then
 bif (mtV a1 a2 a3 b1 b2 b3).2.2.2 then
 bif jnB a1 a2 a3 (mtV a1 a2 a3 b1 b2 b3).1 (mtV a1 a2 a3 b1 b2 b3).2.1 (mtV a1 a2 a3 b1 b2 b3).2.2.1 then
 bif !((jnV a1 a2 a3 (mtV a1 a2 a3 b1 b2 b3).1 (mtV a1 a2 a3 b1 b2 b3).2.1 (mtV a1 a2 a3 b1 b2 b3).2.2.1).1 == a1 && ((jnV a1 a2 a3 (mtV a1 a2 a3 b1 b2 b3).1 (mtV a1 a2 a3 b1 b2 b3).2.1 (mtV a1 a2 a3 b1 b2 b3).2.2.1).2.1 == a2 && ((jnV a1 a2 a3 (mtV a1 a2 a3 b1 b2 b3).1 (mtV a1 a2 a3 b1 b2 b3).2.1 (mtV a1 a2 a3 b1 b2 b3).2.2.1).2.2 == a3 && true))) then
 some (V.bool false, [], 0)
 else bif mtB a1 a2 a3 (mtV a1 a2 a3 b1 b2 b3).1 (mtV a1 a2 a3 b1 b2 b3).2.1 (mtV a1 a2 a3 b1 b2 b3).2.2.1 then
 bif !((mtV a1 a2 a3 (mtV a1 a2 a3 b1 b2 b3).1 (mtV a1 a2 a3 b1 b2 b3).2.1 (mtV a1 a2 a3 b1 b2 b3).2.2.1).1 == (mtV a1 a2 a3 b1 b2 b3).1 && ((mtV a1 a2 a3 (mtV a1 a2 a3 b1 b2 b3).1 (mtV a1 a2 a3 b1 b2 b3).2.1 (mtV a1 a2 a3 b1 b2 b3).2.2.1).2.1 == (mtV a1 a2 a3 b1 b2 b3).2.1 && ((mtV a1 a2 a3 (mtV a1 a2 a3 b1 b2 b3).1 (mtV a1 a2 a3 b1 b2 b3).2.1 (mtV a1 a2 a3 b1 b2 b3).2.2.1).2.2.1 == (mtV a1 a2 a3 b1 b2 b3).2.2.1 && true)) && ((mtV a1 a2 a3 (mtV a1 a2 a3 b1 b2 b3).1 (mtV a1 a2 a3 b1 b2 b3).2.1 (mtV a1 a2 a3 b1 b2 b3).2.2.1).2.2.2 == (mtV a1 a2 a3 b1 b2 b3).2.2.2 && true)) then
 some (V.bool false, [], 0)
 else bif (mtV a1 a2 a3 b1 b2 b3).2.2.2 then
 bif mtB (mtV a1 a2 a3 b1 b2 b3).1 (mtV a1 a2 a3 b1 b2 b3).2.1 (mtV a1 a2 a3 b1 b2 b3).2.2.1 c1 c2 c3 then
 bif (mtV b1 b2 b3 c1 c2 c3).2.2.2 then
 bif mtB a1 a2 a3 (mtV b1 b2 b3 c1 c2 c3).1 (mtV b1 b2 b3 c1 c2 c3).2.1 (mtV b1 b2 b3 c1 c2 c3).2.2.1 then
 bif (mtV (mtV a1 a2 a3 b1 b2 b3).1 (mtV a1 a2 a3 b1 b2 b3).2.1 (mtV a1 a2 a3 b1 b2 b3).2.2.1 c1 c2 c3).1 == (mtV a1 a2 a3 (mtV b1 b2 b3 c1 c2 c3).1 (mtV b1 b2 b3 c1 c2 c3).2.1 (mtV b1 b2 b3 c1 c2 c3).2.2.1).1 && ((mtV (mtV a1 a2 a3 b1 b2 b3).1 (mtV a1 a2 a3 b1 b2 b3).2.1 (mtV a1 a2 a3 b1 b2 b3).2.2.1 c1 c2 c3).2.1 == (mtV a1 a2 a3 (mtV b1 b2 b3 c1 c2 c3).1 (mtV b1 b2 b3 c1 c2 c3).2.1 (mtV b1 b2 b3 c1 c2 c3).2.2.1).2.1 && ((mtV (mtV a1 a2 a3 b1 b2 b3).1 (mtV a1 a2 a3 b1 b2 b3).2.1 (mtV a1 a2 a3 b1 b2 b3).2.2.1 c1 c2 c3).2.2.1 == (mtV a1 a2 a3 (mtV b1 b2 b3 c1 c2 c3).1 (mtV b1 b2 b3 c1 c2 c3).2.1 (mtV b1 b2 b3 c1 c2 c3).2.2.1).2.2.1 && true)) && ((mtV (mtV a1 a2 a3 b1 b2 b3).1 (mtV a1 a2 a3 b1 b2 b3).2.1 (mtV a1 a2 a3 b1 b2 b3).2.2.1 c1 c2 c3).2.2.2 == (mtV a1 a2 a3 (mtV b1 b2 b3 c1 c2 c3).1 (mtV b1 b2 b3 c1 c2 c3).2.1 (mtV b1 b2 b3 c1 c2 c3).2.2.1).2.2.2 && true) then
 some (V.bool true, [], 0)
 else some (V.bool false, [], 0)
 else none
 else bif (mtV (mtV a1 a2 a3 b1 b2 b3).1 (mtV a1 a2 a3 b1 b2 b3).2.1 (mtV a1 a2 a3 b1 b2 b3).2.2.1 c1 c2 c3).1 == 0 && ((mtV (mtV a1 a2 a3 b1 b2 b3).1 (mtV a1 a2 a3 b1 b2 b3).2.1 (mtV a1 a2 a3 b1 b2 b3).2.2.1 c1 c2 c3).2.1 == 0 && ((mtV (mtV a1 a2 a3 b1 b2 b3).1 (mtV a1 a2 a3 b1 b2 b3).2.1 (mtV a1 a2 a3 b1 b2 b3).2.2.1 c1 c2 c3).2.2.1 == 0 && true)) && ((mtV (mtV a1 a2 a3 b1 b2 b3).1 (mtV a1 a2 a3 b1 b2 b3).2.1 (mtV a1 a2 a3 b1 b2 b3).2.2.1 c1 c2 c3).2.2.2 == false && true) then
 some (V.bool true, [], 0)
 else some (V.bool false, [], 0)
 else none
 else bif (mtV b1 b2 b3 c1 c2 c3).2.2.2 then
 bif mtB a1 a2 a3 (mtV b1 b2 b3 c1 c2 c3).1 (mtV b1 b2 b3 c1 c2 c3).2.1 (mtV b1 b2 b3 c1 c2 c3).2.2.1 then
 bif 0 == (mtV a1 a2 a3 (mtV b1 b2 b3 c1 c2 c3).1 (mtV b1 b2 b3 c1 c2 c3).2.1 (mtV b1 b2 b3 c1 c2 c3).2.2.1).1 && (0 == (mtV a1 a2 a3 (mtV b1 b2 b3 c1 c2 c3).1 (mtV b1 b2 b3 c1 c2 c3).2.1 (mtV b1 b2 b3 c1 c2 c3).2.2.1).2.1 && (0 == (mtV a1 a2 a3 (mtV b1 b2 b3 c1 c2 c3).1 (mtV b1 b2 b3 c1 c2 c3).2.1 (mtV b1 b2 b3 c1 c2 c3).2.2.1).2.2.1 && true)) && (false == (mtV a1 a2 a3 (mtV b1 b2 b3 c1 c2 c3).1 (mtV b1 b2 b3 c1 c2 c3).2.1 (mtV b1 b2 b3 c1 c2 c3).2.2.1).2.2.2 && true) then
 some (V.bool true, [], 0)
 else some (V.bool false, [], 0)
 else none
 else some (V.bool true, [], 0)
 else none
 else none
 else bif (mtV a1 a2 a3 b1 b2 b3).2.2.2 then
 bif mtB (mtV a1 a2 a3 b1 b2 b3).1 (mtV a1 a2 a3 b1 b2 b3).2.1 (mtV a1 a2 a3 b1 b2 b3).2.2.1 c1 c2 c3 then
 bif (mtV b1 b2 b3 c1 c2 c3).2.2.2 then
 bif mtB a1 a2 a3 (mtV b1 b2 b3 c1 c2 c3).1 (mtV b1 b2 b3 c1 c2 c3).2.1 (mtV b1 b2 b3 c1 c2 c3).2.2.1 then
 bif (mtV (mtV a1 a2 a3 b1 b2 b3).1 (mtV a1 a2 a3 b1 b2 b3).2.1 (mtV a1 a2 a3 b1 b2 b3).2.2.1 c1 c2 c3).1 == (mtV a1 a2 a3 (mtV b1 b2 b3 c1 c2 c3).1 (mtV b1 b2 b3 c1 c2 c3).2.1 (mtV b1 b2 b3 c1 c2 c3).2.2.1).1 && ((mtV (mtV a1 a2 a3 b1 b2 b3).1 (mtV a1 a2 a3 b1 b2 b3).2.1 (mtV a1 a2 a3 b1 b2 b3).2.2.1 c1 c2 c3).2.1 == (mtV a1 a2 a3 (mtV b1 b2 b3 c1 c2 c3).1 (mtV b1 b2 b3 c1 c2 c3).2.1 (mtV b1 b2 b3 c1 c2 c3).2.2.1).2.1 && ((mtV (mtV a1 a2 a3 b1 b2 b3).1 (mtV a1 a2 a3 b1 b2 b3).2.1 (mtV a1 a2 a3 b1 b2 b3).2.2.1 c1 c2 c3).2.2.1 == (mtV a1 a2 a3 (mtV b1 b2 b3 c1 c2 c3).1 (mtV b1 b2 b3 c1 c2 c3).2.1 (mtV b1 b2 b3 c1 c2 c3).2.2.1).2.2.1 && true)) && ((mtV (mtV a1 a2 a3 b1 b2 b3).1 (mtV a1 a2 a3 b1 b2 b3).2.1 (mtV a1 a2 a3 b1 b2 b3).2.2.1 c1 c2 c3).2.2.2 == (mtV a1 a2 a3 (mtV b1 b2 b3 c1 c2 c3).1 (mtV b1 b2 b3 c1 c2 c3).2.1 (mtV b1 b2 b3 c1 c2 c3).2.2.1).2.2.2 && true) then
 some (V.bool true, [], 0)
 else some (V.bool false, [], 0)
 else none
 else bif (mtV (mtV a1 a2 a3 b1 b2 b3).1 (mtV a1 a2 a3 b1 b2 b3).2.1 (mtV a1 a2 a3 b1 b2 b3).2.2.1 c1 c2 c3).1 == 0 && ((mtV (mtV a1 a2 a3 b1 b2 b3).1 (mtV a1 a2 a3 b1 b2 b3).2.1 (mtV a1 a2 a3 b1 b2 b3).2.2.1 c1 c2 c3).2.1 == 0 && ((mtV (mtV a1 a2 a3 b1 b2 b3).1 (mtV a1 a2 a3 b1 b2 b3).2.1 (mtV a1 a2 a3 b1 b2 b3).2.2.1 c1 c2 c3).2.2.1 == 0 && true)) && ((mtV (mtV a1 a2 a3 b1 b2 b3).1 (mtV a1 a2 a3 b1 b2 b3).2.1 (mtV a1 a2 a3 b1 b2 b3).2.2.1 c1 c2 c3).2.2.2 == false && true) then
 some (V.bool true, [], 0)
 else some (V.bool false, [], 0)
 else none
 else bif (mtV b1 b2 b3 c1 c2 c3).2.2.2 then
 bif mtB a1 a2 a3 (mtV b1 b2 b3 c1 c2 c3).1 (mtV b1 b2 b3 c1 c2 c3).2.1 (mtV b1 b2 b3 c1 c2 c3).2.2.1 then
 bif 0 == (mtV a1 a2 a3 (mtV b1 b2 b3 c1 c2 c3).1 (mtV b1 b2 b3 c1 c2 c3).2.1 (mtV b1 b2 b3 c1 c2 c3).2.2.1).1 && (0 == (mtV a1 a2 a3 (mtV b1 b2 b3 c1 c2 c3).1 (mtV b1 b2 b3 c1 c2 c3).2.1 (mtV b1 b2 b3 c1 c2 c3).2.2.1).2.1 && (0 == (mtV a1 a2 a3 (mtV b1 b2 b3 c1 c2 c3).1 (mtV b1 b2 b3 c1 c2 c3).2.1 (mtV b1 b2 b3 c1 c2 c3).2.2.1).2.2.1 && true)) && (false == (mtV a1 a2 a3 (mtV b1 b2 b3 c1 c2 c3).1 (mtV b1 b2 b3 c1 c2 c3).2.1 (mtV b1 b2 b3 c1 c2 c3).2.2.1).2.2.2 && true) then
 some (V.bool true, [], 0)
 else some (V.bool false, [], 0)
 else none
 else some (V.bool true, [], 0)
 else none
 else none
 else none
 else none
 else none
 else none
 else none
 else none
 else none
 else none
 else none
 else none
theorem e5 (x0 x1 x2 y0 y1 y2 z0 z1 z2 : Int) : (evF CO 9 5 [.agg [.int .i64 x0, .int .u32 x1, .int .u16 x2], .agg [.int .i64 y0, .int .u32 y1, .int .u16 y2], .agg [.int .i64 z0, .int .u32 z1, .int .u16 z2]] [] 0).run =
  bif smB x0 x1 x2 then bif smB y0 y1 y2 then bif smB z0 z1 z2 then T5 (smV x0 x1 x2).1 (smV x0 x1 x2).2.1 (smV x0 x1 x2).2.2 (smV y0 y1 y2).1 (smV y0 y1 y2).2.1 (smV y0 y1 y2).2.2 (smV z0 z1 z2).1 (smV z0 z1 z2).2.1 (smV z0 z1 z2).2.2
  else none else none else none := by kernel_rfl

/-- A span with small ends. -/
structure Bd (lo hi st : Int) : Prop where
  ok : Ok lo hi st
  l40 : -40 ≤ lo
  h166 : hi ≤ 166
theorem Bd.st {a b s : Int} (h : Bd a b s) : s ≤ 206 := by
  have := h.l40; have := h.h166
  rcases h.ok with q | ⟨q1, q2, q3⟩
  · omega
  · have := dvd_le q3 (by omega); omega
theorem Bd.nl {a b s : Int} (h : Bd a b s) : Near a := by have := h.l40; have := h.h166; have := h.ok.le; constructor <;> omega
theorem Bd.nh {a b s : Int} (h : Bd a b s) : Near b := by have := h.l40; have := h.h166; have := h.ok.le; constructor <;> omega
theorem sml_bd {a b s : Int} (h : Sml a b s) : Bd a b s := ⟨h.ok, h.lo40, h.hi160⟩
theorem sm_of {a b c : Int} (hb : 0 ≤ b) (hc : 0 ≤ c) : ∃ l u v, smB a b c = true ∧ smV a b c = (l, u, v) ∧ Bd l u v := by
  obtain ⟨l, u, v, e, h⟩ := small_spec (a := a) hb hc
  have E : Ev (fun _ => warpwrightref25_Small.f a b c) (l, u, v) := by rw [e]; exact Ev.now _
  exact ⟨l, u, v, evb_eq E, evv_eq E, sml_bd h⟩
theorem jn_of {a b s c d t : Int} (h : Bd a b s) (k : Bd c d t) : ∃ l u v, jnB a b s c d t = true ∧ jnV a b s c d t = (l, u, v) ∧ Joins a b s c d t l u v ∧ Bd l u v := by
  obtain ⟨l, u, v, E, J⟩ := join_spec h.ok k.ok (by have := h.st; omega) (by have := k.st; omega) h.nl.In k.nl.In
  have := h.l40; have := h.h166; have := k.l40; have := k.h166
  refine ⟨l, u, v, evb_eq E, evv_eq E, J, J.ok h.ok k.ok, ?_, ?_⟩
  · rw [J.lo_eq]; unfold mn; split <;> omega
  · rw [J.hi_eq]; unfold mx; split <;> omega
theorem mt_of {a b s c d t : Int} (h : Bd a b s) (k : Bd c d t) : ∃ l u v i, mtB a b s c d t = true ∧ mtV a b s c d t = (l, u, v, i) ∧ Meets a b s c d t l u v i ∧ (i = true → Bd l u v) := by
  obtain ⟨l, u, v, i, E, M⟩ := meet_spec h.ok k.ok (by have := h.st; omega) (by have := k.st; omega) h.nl.In h.nh.In k.nl.In k.nh.In
  have E := lawmeet_spec E
  refine ⟨l, u, v, i, evb_eq E, evv_eq E, M, ?_⟩
  rintro rfl
  rcases M with ⟨q, _⟩ | ⟨_, hok, hm⟩
  · cases q
  · have := ((hm _).1 hok.lo_mem).1.1; have := ((hm _).1 hok.hi_mem).1.2.1; have := h.l40; have := h.h166
    exact ⟨hok, by omega, by omega⟩
theorem in_of {a b s c d t : Int} (h : Bd a b s) (k : Bd c d t) (hs : ∀ n, Mem a b s n → Mem c d t n) : inB a b s c d t = true ∧ inV a b s c d t = true := by
  have e := inside_spec h.ok k.ok h.nl h.nh k.nl k.nh hs
  have E : Ev (fun _ => warpwrightlaw25_inside.f a b s c d t) true := by rw [e]; exact Ev.now _
  exact ⟨evb_eq E, evv_eq E⟩
/-- The span of the numbers with a property, or none. -/
def Spans (P : Int → Prop) (lo hi st : Int) (is : Bool) : Prop :=
  (is = false ∧ lo = 0 ∧ hi = 0 ∧ st = 0 ∧ ∀ n, ¬ P n) ∨ (is = true ∧ Ok lo hi st ∧ ∀ n, Mem lo hi st n ↔ P n)
theorem Spans.uniq {P : Int → Prop} {lo hi st lo' hi' st' : Int} {is is' : Bool} (h : Spans P lo hi st is) (k : Spans P lo' hi' st' is') : lo = lo' ∧ hi = hi' ∧ st = st' ∧ is = is' := by
  rcases h with ⟨h1, h2, h3, h4, h5⟩ | ⟨h1, h2, h3⟩ <;> rcases k with ⟨k1, k2, k3, k4, k5⟩ | ⟨k1, k2, k3⟩
  · exact ⟨by omega, by omega, by omega, by rw [h1, k1]⟩
  · exact absurd ((k3 _).1 k2.lo_mem) (h5 _)
  · exact absurd ((h3 _).1 h2.lo_mem) (k5 _)
  · obtain ⟨e1, e2, e3⟩ := ext h2 k2 (fun n => (h3 n).trans (k3 n).symm)
    exact ⟨e1, e2, e3, by rw [h1, k1]⟩
theorem spans_of {P : Int → Prop} {a b s c d t lo hi st : Int} {is : Bool} (h : Meets a b s c d t lo hi st is) (e : ∀ n, Mem a b s n ∧ Mem c d t n ↔ P n) : Spans P lo hi st is := by
  rcases h with ⟨h1, h2, h3, h4, h5⟩ | ⟨h1, h2, h3⟩
  · exact .inl ⟨h1, h2, h3, h4, fun n q => h5 n ((e n).2 q)⟩
  · exact .inr ⟨h1, h2, fun n => (h3 n).trans (e n)⟩
theorem dvd_mn1 {x a b c : Int} (h : x ∣ a - b) : x ∣ mn a b - c ↔ x ∣ b - c := by
  unfold mn
  split
  · exact Iff.rfl
  · constructor
    · intro q; have := Int.dvd_sub q h; rwa [show a - c - (a - b) = b - c by omega] at this
    · intro q; have := Int.dvd_add q h; rwa [show b - c + (a - b) = a - c by omega] at this
theorem dvd_mn2 {x a b c : Int} (h : x ∣ b - c) : x ∣ a - mn b c ↔ x ∣ a - b := by
  unfold mn
  split
  · constructor
    · intro q; have := Int.dvd_sub q h; rwa [show a - c - (b - c) = a - b by omega] at this
    · intro q; have := Int.dvd_add q h; rwa [show a - b + (b - c) = a - c by omega] at this
  · exact Iff.rfl
theorem Joins.assoc {a b s c d t e f r l1 u1 v1 l2 u2 v2 l3 u3 v3 l4 u4 v4 : Int} (j1 : Joins a b s c d t l1 u1 v1) (j2 : Joins l1 u1 v1 e f r l2 u2 v2) (j3 : Joins c d t e f r l3 u3 v3) (j4 : Joins a b s l3 u3 v3 l4 u4 v4) :
    l2 = l4 ∧ u2 = u4 ∧ v2 = v4 := by
  refine Joins.uniq j2 j4 ?_ ?_ fun x => ?_
  · rw [j1.lo_eq, j3.lo_eq]; unfold mn; repeat' split
    all_goals omega
  · rw [j1.hi_eq, j3.hi_eq]; unfold mx; repeat' split
    all_goals omega
  · rw [j1.dvd, j3.dvd, j1.lo_eq, j3.lo_eq]
    constructor
    · rintro ⟨⟨p1, p2, p3⟩, p4, p5⟩
      have p6 := (dvd_mn1 p3).1 p5
      exact ⟨p1, ⟨p2, p4, p6⟩, (dvd_mn2 p6).2 p3⟩
    · rintro ⟨p1, ⟨p2, p4, p6⟩, p3⟩
      have p5 := (dvd_mn2 p6).1 p3
      exact ⟨⟨p1, p2, p5⟩, p4, (dvd_mn1 p5).2 p6⟩
theorem meets_sub {a b s c d t l u v : Int} {i : Bool} (h : Ok a b s) (M : Meets a b s c d t l u v i) (hs : ∀ n, Mem a b s n → Mem c d t n) : l = a ∧ u = b ∧ v = s ∧ i = true :=
  Meets.uniq M (.inr ⟨rfl, h, fun n => ⟨fun q => ⟨q, hs n q⟩, fun q => q.1⟩⟩)

/-- The tree's last part. -/
noncomputable def TL5 (a1 a2 a3 c1 c2 c3 t1 t2 t3 u1 u2 u3 : Int) (i3 i4 : Bool) : Option (V × Mem × Nat) :=
 bif i3 then
 bif mtB t1 t2 t3 c1 c2 c3 then
 bif i4 then
 bif mtB a1 a2 a3 u1 u2 u3 then
 bif (mtV t1 t2 t3 c1 c2 c3).1 == (mtV a1 a2 a3 u1 u2 u3).1 && ((mtV t1 t2 t3 c1 c2 c3).2.1 == (mtV a1 a2 a3 u1 u2 u3).2.1 && ((mtV t1 t2 t3 c1 c2 c3).2.2.1 == (mtV a1 a2 a3 u1 u2 u3).2.2.1)) && ((mtV t1 t2 t3 c1 c2 c3).2.2.2 == (mtV a1 a2 a3 u1 u2 u3).2.2.2) then
 some (V.bool true, [], 0)
 else some (V.bool false, [], 0)
 else none
 else bif (mtV t1 t2 t3 c1 c2 c3).1 == 0 && ((mtV t1 t2 t3 c1 c2 c3).2.1 == 0 && ((mtV t1 t2 t3 c1 c2 c3).2.2.1 == 0)) && ((mtV t1 t2 t3 c1 c2 c3).2.2.2 == false) then
 some (V.bool true, [], 0)
 else some (V.bool false, [], 0)
 else none
 else bif i4 then
 bif mtB a1 a2 a3 u1 u2 u3 then
 bif 0 == (mtV a1 a2 a3 u1 u2 u3).1 && (0 == (mtV a1 a2 a3 u1 u2 u3).2.1 && (0 == (mtV a1 a2 a3 u1 u2 u3).2.2.1)) && (false == (mtV a1 a2 a3 u1 u2 u3).2.2.2) then
 some (V.bool true, [], 0)
 else some (V.bool false, [], 0)
 else none
 else some (V.bool true, [], 0)
/-- The last part: three meets, in both orders. -/
theorem tail_true {a1 a2 a3 b1 b2 b3 c1 c2 c3 t1 t2 t3 u1 u2 u3 : Int} {i3 i4 : Bool} (A : Bd a1 a2 a3) (C : Bd c1 c2 c3)
    (M : Meets a1 a2 a3 b1 b2 b3 t1 t2 t3 i3) (D : i3 = true → Bd t1 t2 t3) (N : Meets b1 b2 b3 c1 c2 c3 u1 u2 u3 i4) (E : i4 = true → Bd u1 u2 u3) : TL5 a1 a2 a3 c1 c2 c3 t1 t2 t3 u1 u2 u3 i3 i4 = some (.bool true, [], 0) := by
  unfold TL5
  let P := fun n => Mem a1 a2 a3 n ∧ Mem b1 b2 b3 n ∧ Mem c1 c2 c3 n
  have hL : i3 = false → Spans P 0 0 0 false := by
    rintro rfl
    rcases M with ⟨_, _, _, _, h⟩ | ⟨q, _⟩
    · exact .inl ⟨rfl, rfl, rfl, rfl, fun n q => h n ⟨q.1, q.2.1⟩⟩
    · cases q
  have hR : i4 = false → Spans P 0 0 0 false := by
    rintro rfl
    rcases N with ⟨_, _, _, _, h⟩ | ⟨q, _⟩
    · exact .inl ⟨rfl, rfl, rfl, rfl, fun n q => h n ⟨q.2.1, q.2.2⟩⟩
    · cases q
  cases i3
  · cases i4
    · rfl
    · obtain ⟨x1, x2, x3, j, p, e, X, _⟩ := mt_of A (E rfl)
      rcases N with ⟨q, _⟩ | ⟨_, hok, hm⟩
      · cases q
      obtain ⟨q1, q2, q3, q4⟩ := Spans.uniq (hL rfl) (spans_of (P := P) X (fun n => and_congr_right fun _ => hm n))
      simp only [p, e, ← q1, ← q2, ← q3, ← q4, cond_true, cond_false]; rfl
  · obtain ⟨x1, x2, x3, j, p, e, X, _⟩ := mt_of (D rfl) C
    rcases M with ⟨q, _⟩ | ⟨_, hok, hm⟩
    · cases q
    have L := spans_of (P := P) X (fun n => by rw [hm n, and_assoc])
    cases i4
    · obtain ⟨q1, q2, q3, q4⟩ := Spans.uniq L (hR rfl)
      simp only [p, e, q1, q2, q3, q4, cond_true, cond_false]; rfl
    · obtain ⟨y1, y2, y3, i, p', e', Y, _⟩ := mt_of A (E rfl)
      rcases N with ⟨q, _⟩ | ⟨_, hok', hm'⟩
      · cases q
      obtain ⟨q1, q2, q3, q4⟩ := Spans.uniq L (spans_of (P := P) Y (fun n => and_congr_right fun _ => hm' n))
      subst q1 q2 q3 q4
      simp [p, e, p', e']
theorem T5_true {a1 a2 a3 b1 b2 b3 c1 c2 c3 : Int} (A : Bd a1 a2 a3) (B : Bd b1 b2 b3) (C : Bd c1 c2 c3) : T5 a1 a2 a3 b1 b2 b3 c1 c2 c3 = some (.bool true, [], 0) := by
  obtain ⟨l1, l2, l3, r1, e1, J1, D1⟩ := jn_of A B
  obtain ⟨m1, m2, m3, r2, e2, J2, D2⟩ := jn_of B A
  obtain ⟨q1, q2, q3⟩ := Joins.uniq J2 J1.symm rfl rfl (fun x => Iff.rfl)
  subst q1 q2 q3
  obtain ⟨n1, n2, n3, r3, e3, J3, D3⟩ := jn_of A A
  obtain ⟨q1, q2, q3⟩ := Joins.sub A.ok A.ok J3 (fun n h => h)
  subst q1 q2 q3
  obtain ⟨p1, p2, p3, i1, r4, e4, M4, D4⟩ := mt_of A A
  obtain ⟨q1, q2, q3, q4⟩ := meets_sub A.ok M4 (fun n h => h)
  subst q1 q2 q3 q4
  obtain ⟨f1, f2, f3, r5, e5, J5, D5⟩ := jn_of D2 C
  obtain ⟨g1, g2, g3, r6, e6, J6, D6⟩ := jn_of B C
  obtain ⟨k1, k2, k3, r7, e7, J7, D7⟩ := jn_of A D6
  obtain ⟨q1, q2, q3⟩ := Joins.assoc J1 J5 J6 J7
  subst q1 q2 q3
  obtain ⟨s1, s2, s3, i2, r8, e8, M8, D8⟩ := mt_of A D2
  obtain ⟨q1, q2, q3, q4⟩ := meets_sub A.ok M8 (fun n h => J1.mem h)
  subst q1 q2 q3 q4
  obtain ⟨r9, e9⟩ := in_of A D2 (fun n h => J1.mem h)
  obtain ⟨r10, e10⟩ := in_of B D2 (fun n h => J2.mem h)
  obtain ⟨t1, t2, t3, i3, r11, e11, M11, D11⟩ := mt_of A B
  obtain ⟨u1, u2, u3, i4, r12, e12, M12, D12⟩ := mt_of B C
  unfold T5
  simp only [r1, e1, r2, e2, r3, e3, r4, e4, r5, e5, r6, e6, r7, e7, r8, e8, r9, e9, r10, e10, r11, e11, r12, e12, cond_true, cond_false, beq_self_eq_true, Bool.and_true, Bool.and_self, Bool.not_true]
  have TT := tail_true A C M11 D11 M12 D12
  cases i3
  · unfold TL5 at TT
    simpa only [cond_true, cond_false] using TT
  · have D := D11 rfl
    rcases M11 with ⟨q, _⟩ | ⟨_, hok, hm⟩
    · cases q
    obtain ⟨v1, v2, v3, r13, e13, J13, D13⟩ := jn_of A D
    obtain ⟨q1, q2, q3⟩ := Joins.sub A.ok D.ok J13 (fun n h => ((hm n).1 h).1)
    subst q1 q2 q3
    obtain ⟨w1, w2, w3, i5, r14, e14, M14, D14⟩ := mt_of A D
    obtain ⟨q1, q2, q3, q4⟩ := meets_sub D.ok M14.symm (fun n h => ((hm n).1 h).1)
    subst q1 q2 q3 q4
    simp only [r13, e13, r14, e14, cond_true, cond_false, beq_self_eq_true, Bool.and_self, Bool.not_true]
    unfold TL5 at TT
    simpa only [cond_true, cond_false] using TT
theorem law5 {x0 x1 x2 y0 y1 y2 z0 z1 z2 : Int} (hx1 : 0 ≤ x1) (hx2 : 0 ≤ x2) (hy1 : 0 ≤ y1) (hy2 : 0 ≤ y2) (hz1 : 0 ≤ z1) (hz2 : 0 ≤ z2) :
    (evF CO 9 5 [.agg [.int .i64 x0, .int .u32 x1, .int .u16 x2], .agg [.int .i64 y0, .int .u32 y1, .int .u16 y2], .agg [.int .i64 z0, .int .u32 z1, .int .u16 z2]] [] 0).run = some (.bool true, [], 0) := by
  obtain ⟨a1, a2, a3, r1, e1, A⟩ := sm_of (a := x0) hx1 hx2
  obtain ⟨b1, b2, b3, r2, e2, B⟩ := sm_of (a := y0) hy1 hy2
  obtain ⟨c1, c2, c3, r3, e3, C⟩ := sm_of (a := z0) hz1 hz2
  rw [e5]
  simp only [e1, e2, e3, r1, r2, r3, cond_true]
  exact T5_true A B C
theorem gNo (w : World) : GRel noG w := fun _ _ _ h => by cases h
theorem SpanOrder_calls {x0 x1 x2 y0 y1 y2 z0 z1 z2 : Int} (_ : (Lit.int .i64 x0).wf = true) (hx1 : (Lit.int .u32 x1).wf = true) (hx2 : (Lit.int .u16 x2).wf = true)
    (_ : (Lit.int .i64 y0).wf = true) (hy1 : (Lit.int .u32 y1).wf = true) (hy2 : (Lit.int .u16 y2).wf = true)
    (_ : (Lit.int .i64 z0).wf = true) (hz1 : (Lit.int .u32 z1).wf = true) (hz2 : (Lit.int .u16 z2).wf = true) (w : World) :
    Calls Try.prog 5 #[.agg #[.int .i64 x0, .int .u32 x1, .int .u16 x2], .agg #[.int .i64 y0, .int .u32 y1, .int .u16 y2], .agg #[.int .i64 z0, .int .u32 z1, .int .u16 z2]] w fun e w' => e = .returned (.bool true) ∧ Below w.heap.size w w' :=
  evF_calls CO_ok (law5 (bounds_u32 hx1).1 (bounds_u16 hx2).1 (bounds_u32 hy1).1 (bounds_u16 hy2).1 (bounds_u32 hz1).1 (bounds_u16 hz2).1) rfl rfl (gNo w)

end Go.Proofs.Yteghmmkhfgkdgaa.SX
