/- Contracts of the printed functions, in the evaluator's form. -/
import Derived.Test.YteghmmkhfgkdgaaOrd
import Derived.Test.YteghmmkhfgkdgaaQSx8
namespace Go.Proofs.Yteghmmkhfgkdgaa.SX
open Go Go.Ex Go.RowKit Go.Proofs.YteghmmkhfgkdgaaW.PrintWords Go.Proofs.Yteghmmkhfgkdgaa.QS
noncomputable def spV (x0 x1 x2 : Int) : Int × Int × Int := evv fun _ => warpwrightref25_Span.f x0 x1 x2
noncomputable def spB (x0 x1 x2 : Int) : Bool := evb fun _ => warpwrightref25_Span.f x0 x1 x2
noncomputable def o_sp : Orc := ⟨17, fun | [.agg [.int .i64 x0, .int .u32 x1, .int .u16 x2]] => some (spB x0 x1 x2, .agg [.int .i64 (spV x0 x1 x2).1, .int .i64 (spV x0 x1 x2).2.1, .int .i64 (spV x0 x1 x2).2.2]) | _ => none⟩
theorem o_sp_ok : OrcOk Try.prog noG o_sp := by
  intro args v h
  simp only [o_sp] at h
  split at h
  · rename_i x0 x1 x2
    obtain ⟨h1, rfl⟩ := Prod.mk.inj (Option.some.inj h)
    obtain ⟨k, hk⟩ := (evb_ev h1).rounds
    exact ⟨_, _, rfl, rfl, fun w _ => warpwrightref25_Span.calls x0 x1 x2 _ _ _ w hk⟩
  · cases h
noncomputable def pkV (x0 x1 x2 x3 : Int) : Int := evv fun _ => warpwrightlaw25_pick.f x0 x1 x2 x3
noncomputable def pkB (x0 x1 x2 x3 : Int) : Bool := evb fun _ => warpwrightlaw25_pick.f x0 x1 x2 x3
noncomputable def o_pk : Orc := ⟨18, fun | [.agg [.int .i64 x0, .int .i64 x1, .int .i64 x2], .int .u16 x3] => some (pkB x0 x1 x2 x3, .int .i64 (pkV x0 x1 x2 x3)) | _ => none⟩
theorem o_pk_ok : OrcOk Try.prog noG o_pk := by
  intro args v h
  simp only [o_pk] at h
  split at h
  · rename_i x0 x1 x2 x3
    obtain ⟨h1, rfl⟩ := Prod.mk.inj (Option.some.inj h)
    obtain ⟨k, hk⟩ := (evb_ev h1).rounds
    exact ⟨_, _, rfl, rfl, fun w _ => warpwrightlaw25_pick.calls x0 x1 x2 x3 _ w hk⟩
  · cases h
noncomputable def adV (x0 x1 x2 x3 x4 x5 : Int) : Int × Int × Int × Int := evv fun k => warpwrightlaw25_add.f k x0 x1 x2 x3 x4 x5
noncomputable def adB (x0 x1 x2 x3 x4 x5 : Int) : Bool := evb fun k => warpwrightlaw25_add.f k x0 x1 x2 x3 x4 x5
noncomputable def o_ad : Orc := ⟨32, fun | [.agg [.int .i64 x0, .int .i64 x1, .int .i64 x2], .agg [.int .i64 x3, .int .i64 x4, .int .i64 x5]] => some (adB x0 x1 x2 x3 x4 x5, .agg [.int .i64 (adV x0 x1 x2 x3 x4 x5).1, .int .i64 (adV x0 x1 x2 x3 x4 x5).2.1, .int .i64 (adV x0 x1 x2 x3 x4 x5).2.2.1, .int .i64 (adV x0 x1 x2 x3 x4 x5).2.2.2]) | _ => none⟩
theorem o_ad_ok : OrcOk Try.prog noG o_ad := by
  intro args v h
  simp only [o_ad] at h
  split at h
  · rename_i x0 x1 x2 x3 x4 x5
    obtain ⟨h1, rfl⟩ := Prod.mk.inj (Option.some.inj h)
    obtain ⟨k, hk⟩ := (evb_ev h1).rounds
    exact ⟨_, _, rfl, rfl, fun w _ => warpwrightlaw25_add.calls k x0 x1 x2 x3 x4 x5 _ _ _ _ w hk⟩
  · cases h
noncomputable def muV (x0 x1 x2 x3 x4 x5 : Int) : Int × Int × Int × Int := evv fun k => warpwrightlaw25_mul.f k x0 x1 x2 x3 x4 x5
noncomputable def muB (x0 x1 x2 x3 x4 x5 : Int) : Bool := evb fun k => warpwrightlaw25_mul.f k x0 x1 x2 x3 x4 x5
noncomputable def o_mu : Orc := ⟨36, fun | [.agg [.int .i64 x0, .int .i64 x1, .int .i64 x2], .agg [.int .i64 x3, .int .i64 x4, .int .i64 x5]] => some (muB x0 x1 x2 x3 x4 x5, .agg [.int .i64 (muV x0 x1 x2 x3 x4 x5).1, .int .i64 (muV x0 x1 x2 x3 x4 x5).2.1, .int .i64 (muV x0 x1 x2 x3 x4 x5).2.2.1, .int .i64 (muV x0 x1 x2 x3 x4 x5).2.2.2]) | _ => none⟩
theorem o_mu_ok : OrcOk Try.prog noG o_mu := by
  intro args v h
  simp only [o_mu] at h
  split at h
  · rename_i x0 x1 x2 x3 x4 x5
    obtain ⟨h1, rfl⟩ := Prod.mk.inj (Option.some.inj h)
    obtain ⟨k, hk⟩ := (evb_ev h1).rounds
    exact ⟨_, _, rfl, rfl, fun w _ => warpwrightlaw25_mul.calls k x0 x1 x2 x3 x4 x5 _ _ _ _ w hk⟩
  · cases h
noncomputable def scV (x0 x1 x2 x3 : Int) : Int × Int × Int × Int := evv fun k => warpwrightlaw25_scale.f k x0 x1 x2 x3
noncomputable def scB (x0 x1 x2 x3 : Int) : Bool := evb fun k => warpwrightlaw25_scale.f k x0 x1 x2 x3
noncomputable def o_sc : Orc := ⟨29, fun | [.agg [.int .i64 x0, .int .i64 x1, .int .i64 x2], .int .i64 x3] => some (scB x0 x1 x2 x3, .agg [.int .i64 (scV x0 x1 x2 x3).1, .int .i64 (scV x0 x1 x2 x3).2.1, .int .i64 (scV x0 x1 x2 x3).2.2.1, .int .i64 (scV x0 x1 x2 x3).2.2.2]) | _ => none⟩
theorem o_sc_ok : OrcOk Try.prog noG o_sc := by
  intro args v h
  simp only [o_sc] at h
  split at h
  · rename_i x0 x1 x2 x3
    obtain ⟨h1, rfl⟩ := Prod.mk.inj (Option.some.inj h)
    obtain ⟨k, hk⟩ := (evb_ev h1).rounds
    exact ⟨_, _, rfl, rfl, fun w _ => warpwrightlaw25_scale.calls k x0 x1 x2 x3 _ _ _ _ w hk⟩
  · cases h
noncomputable def vaV (x0 x1 x2 : Int) : Bool := evv fun k => span_Valid.f k x0 x1 x2
noncomputable def vaB (x0 x1 x2 : Int) : Bool := evb fun k => span_Valid.f k x0 x1 x2
noncomputable def o_va : Orc := ⟨15, fun | [.agg [.int .i64 x0, .int .i64 x1, .int .i64 x2]] => some (vaB x0 x1 x2, .bool (vaV x0 x1 x2)) | _ => none⟩
theorem o_va_ok : OrcOk Try.prog noG o_va := by
  intro args v h
  simp only [o_va] at h
  split at h
  · rename_i x0 x1 x2
    obtain ⟨h1, rfl⟩ := Prod.mk.inj (Option.some.inj h)
    obtain ⟨k, hk⟩ := (evb_ev h1).rounds
    exact ⟨_, _, rfl, rfl, fun w _ => span_Valid.calls k x0 x1 x2 _ w hk⟩
  · cases h
noncomputable def hsV (x0 x1 x2 x3 : Int) : Bool := evv fun _ => span_Has.f x0 x1 x2 x3
noncomputable def hsB (x0 x1 x2 x3 : Int) : Bool := evb fun _ => span_Has.f x0 x1 x2 x3
noncomputable def o_hs : Orc := ⟨13, fun | [.agg [.int .i64 x0, .int .i64 x1, .int .i64 x2], .int .i64 x3] => some (hsB x0 x1 x2 x3, .bool (hsV x0 x1 x2 x3)) | _ => none⟩
theorem o_hs_ok : OrcOk Try.prog noG o_hs := by
  intro args v h
  simp only [o_hs] at h
  split at h
  · rename_i x0 x1 x2 x3
    obtain ⟨h1, rfl⟩ := Prod.mk.inj (Option.some.inj h)
    obtain ⟨k, hk⟩ := (evb_ev h1).rounds
    exact ⟨_, _, rfl, rfl, fun w _ => span_Has.calls x0 x1 x2 x3 _ w hk⟩
  · cases h
set_option maxRecDepth 100000
theorem mem_all {l : List Orc} (h : ∀ o ∈ l, OrcOk Try.prog noG o) : ∀ o ∈ l.map memO, MOrcOk Try.prog o := by
  intro o ho
  obtain ⟨q, hq, rfl⟩ := List.mem_map.1 ho
  exact mem_ok (h q hq)
noncomputable def CM : Cfg := mkM Try.prog noG eqT [oGc]
theorem CM_ok : CM.Ok := mkM_ok mixed (names_of names) eqs (by
  intro o ho
  simp only [List.mem_cons, List.not_mem_nil, or_false] at ho
  subst ho
  exact oGc_ok)
/-- The differences. -/
noncomputable def sbV (a b s c d t : Int) : Int × Int × Int × Int :=
  bif decide (-1099511627776 ≤ IntKind.i64.wrap (a - d)) then bif !decide (IntKind.i64.wrap (a - d) ≤ 1099511627776) then (0, 0, 0, 2)
  else bif decide (-1099511627776 ≤ IntKind.i64.wrap (b - c)) then bif !decide (IntKind.i64.wrap (b - c) ≤ 1099511627776) then (0, 0, 0, 2)
  else bif IntKind.i64.wrap (a - d) == IntKind.i64.wrap (b - c) then (IntKind.i64.wrap (a - d), IntKind.i64.wrap (b - c), 0, 0)
  else (IntKind.i64.wrap (a - d), IntKind.i64.wrap (b - c), gcV [s, t], 0) else (0, 0, 0, 2) else (0, 0, 0, 2)
noncomputable def sbB (_a _b s _c _d t : Int) : Bool := gcB [s, t]
theorem e34 (a b s c d t : Int) : (evF CM 9 34 [.agg [.int .i64 a, .int .i64 b, .int .i64 s], .agg [.int .i64 c, .int .i64 d, .int .i64 t]] [] 0).run =
  bif gcB [s, t] then bif decide (-1099511627776 ≤ IntKind.i64.wrap (a - d)) then bif !decide (IntKind.i64.wrap (a - d) ≤ 1099511627776) then some (.agg [.int .i64 0, .int .i64 0, .int .i64 0, .int .i64 2], [], 0)
  else bif decide (-1099511627776 ≤ IntKind.i64.wrap (b - c)) then bif !decide (IntKind.i64.wrap (b - c) ≤ 1099511627776) then some (.agg [.int .i64 0, .int .i64 0, .int .i64 0, .int .i64 2], [], 0)
  else bif IntKind.i64.wrap (a - d) == IntKind.i64.wrap (b - c) then some (.agg [.int .i64 (IntKind.i64.wrap (a - d)), .int .i64 (IntKind.i64.wrap (b - c)), .int .i64 0, .int .i64 0], [], 0)
  else some (.agg [.int .i64 (IntKind.i64.wrap (a - d)), .int .i64 (IntKind.i64.wrap (b - c)), .int .i64 (gcV [s, t]), .int .i64 0], [], 0)
  else some (.agg [.int .i64 0, .int .i64 0, .int .i64 0, .int .i64 2], [], 0) else some (.agg [.int .i64 0, .int .i64 0, .int .i64 0, .int .i64 2], [], 0) else none := by kernel_rfl
theorem bif_push {α β : Type} (f : α → β) (b : Bool) (x y : α) : f (bif b then x else y) = bif b then f x else f y := by cases b <;> rfl
theorem e34' {a b s c d t : Int} (h : sbB a b s c d t = true) : (evF CM 9 34 [.agg [.int .i64 a, .int .i64 b, .int .i64 s], .agg [.int .i64 c, .int .i64 d, .int .i64 t]] [] 0).run =
  some (.agg [.int .i64 (sbV a b s c d t).1, .int .i64 (sbV a b s c d t).2.1, .int .i64 (sbV a b s c d t).2.2.1, .int .i64 (sbV a b s c d t).2.2.2], [], 0) := by
  rw [e34, show gcB [s, t] = true from h]
  unfold sbV
  simp only [cond_true]
  cases decide (-1099511627776 ≤ IntKind.i64.wrap (a - d)) <;> cases decide (IntKind.i64.wrap (a - d) ≤ 1099511627776) <;> cases decide (-1099511627776 ≤ IntKind.i64.wrap (b - c)) <;> cases decide (IntKind.i64.wrap (b - c) ≤ 1099511627776) <;>
    cases IntKind.i64.wrap (a - d) == IntKind.i64.wrap (b - c) <;> rfl
noncomputable def o_sb : Orc := ⟨34, fun | [.agg [.int .i64 x0, .int .i64 x1, .int .i64 x2], .agg [.int .i64 x3, .int .i64 x4, .int .i64 x5]] => some (sbB x0 x1 x2 x3 x4 x5, .agg [.int .i64 (sbV x0 x1 x2 x3 x4 x5).1, .int .i64 (sbV x0 x1 x2 x3 x4 x5).2.1, .int .i64 (sbV x0 x1 x2 x3 x4 x5).2.2.1, .int .i64 (sbV x0 x1 x2 x3 x4 x5).2.2.2]) | _ => none⟩
theorem o_sb_ok : OrcOk Try.prog noG o_sb := by
  intro args v h
  simp only [o_sb] at h
  split at h
  · rename_i x0 x1 x2 x3 x4 x5
    obtain ⟨h1, rfl⟩ := Prod.mk.inj (Option.some.inj h)
    exact ⟨_, _, rfl, rfl, fun w hw => evF_calls CM_ok (e34' h1) rfl rfl hw⟩
  · cases h
noncomputable def CS : Cfg := mkC Try.prog noG eqT [oEx, oSm, o_sp, o_pk, o_ad, o_sb, o_mu, o_sc, o_va, o_hs]
theorem CS_ok : CS.Ok := mkC_ok mixed (names_of names) eqs (by
  intro o ho
  simp only [List.mem_cons, List.not_mem_nil, or_false] at ho
  rcases ho with rfl | rfl | rfl | rfl | rfl | rfl | rfl | rfl | rfl | rfl
  · exact oEx_ok
  · exact oSm_ok
  · exact o_sp_ok
  · exact o_pk_ok
  · exact o_ad_ok
  · exact o_sb_ok
  · exact o_mu_ok
  · exact o_sc_ok
  · exact o_va_ok
  · exact o_hs_ok)
end Go.Proofs.Yteghmmkhfgkdgaa.SX
