/- An evaluator of Go functions in the model's form, and the proof that a call comes to what it answers, whatever the memory and the orders (part 2). No condition. -/
import Derived.Test.YtinicfjmpdofaaaDoorEx1
import Derived.Tactics
set_option linter.unusedVariables false
set_option linter.unusedSimpArgs false
namespace Go.Ex
open Go Go.RowKit

theorem retO_run {nx : Nat} {v : Option V} {e : Eff} (h : (retO nx v).run = some e) : ∃ u, v = some u ∧ e = pureE nx u := by
  unfold retO at h
  split at h
  · simp [Tree.run] at h; exact ⟨_, rfl, h.symm⟩
  · simp [Tree.run] at h
theorem retV_run {nx : Nat} {t : Tree V} {e : Eff} (h : (retV nx t).run = some e) : ∃ u, t.run = some u ∧ e = pureE nx u := by
  unfold retV at h
  rw [Tree.run_bind] at h
  cases hu : t.run with
  | none => rw [hu] at h; cases h
  | some u => rw [hu] at h; simp [Tree.run] at h; exact ⟨u, rfl, h.symm⟩

theorem evMax_rel {P : Program} {ι : Inj} {vs : List V} {v : V} {xs : List Value} (h : evMax vs = some v) (r : V.relL ι vs xs) (w : World) : ∃ y, (Builtin.max_ #[] 0 xs.toArray).run P w = .ok y w ∧ v.rel ι y := by
  unfold evMax at h
  split at h
  · cases h
  · rename_i x rest
    obtain ⟨x', xs', rfl, rx, r⟩ := r
    simp only [Builtin.max_]
    have key : ∀ (rest : List V) (x : V) (x' : Value) (xs' : List Value), evMax.go x rest = some v → x.rel ι x' → V.relL ι rest xs' → ∃ y, (xs'.foldlM Builtin.max2 x' : Sem Value).run P w = .ok y w ∧ v.rel ι y := by
      intro rest
      induction rest with
      | nil => intro x x' xs' h rx r; have r' : xs' = [] := r; subst r'; simp [evMax.go] at h; subst h; exact ⟨x', by simp, rx⟩
      | cons z rest ih =>
        intro x x' xs' h rx r
        obtain ⟨z', xs'', rfl, rz, r⟩ := r
        unfold evMax.go at h
        split at h
        · rename_i hc; cases hc
        · rename_i k a k' b ys hc
          obtain ⟨rfl, rfl⟩ := List.cons.inj hc
          have rx' : x' = _ := rx; have rz' : z' = _ := rz; subst rx' rz'
          obtain ⟨y, h1, h2⟩ := ih _ _ _ h rfl r
          exact ⟨y, by simpa [Builtin.max2] using h1, h2⟩
        · cases h
    simpa using key rest x x' xs' h rx r
theorem evMin_rel {P : Program} {ι : Inj} {vs : List V} {v : V} {xs : List Value} (h : evMin vs = some v) (r : V.relL ι vs xs) (w : World) : ∃ y, (Builtin.min_ #[] 0 xs.toArray).run P w = .ok y w ∧ v.rel ι y := by
  unfold evMin at h
  split at h
  · cases h
  · rename_i x rest
    obtain ⟨x', xs', rfl, rx, r⟩ := r
    simp only [Builtin.min_]
    have key : ∀ (rest : List V) (x : V) (x' : Value) (xs' : List Value), evMin.go x rest = some v → x.rel ι x' → V.relL ι rest xs' → ∃ y, (xs'.foldlM Builtin.min2 x' : Sem Value).run P w = .ok y w ∧ v.rel ι y := by
      intro rest
      induction rest with
      | nil => intro x x' xs' h rx r; have r' : xs' = [] := r; subst r'; simp [evMin.go] at h; subst h; exact ⟨x', by simp, rx⟩
      | cons z rest ih =>
        intro x x' xs' h rx r
        obtain ⟨z', xs'', rfl, rz, r⟩ := r
        unfold evMin.go at h
        split at h
        · rename_i hc; cases hc
        · rename_i k a k' b ys hc
          obtain ⟨rfl, rfl⟩ := List.cons.inj hc
          have rx' : x' = _ := rx; have rz' : z' = _ := rz; subst rx' rz'
          obtain ⟨y, h1, h2⟩ := ih _ _ _ h rfl r
          exact ⟨y, by simpa [Builtin.min2] using h1, h2⟩
        · cases h
    simpa using key rest x x' xs' h rx r
theorem evLen_rel {P : Program} {ι : Inj} {t : TypeId} {v u : V} {x : Value} {ts : Array TypeId} {ty : TypeId} {args : Array Value} (h : evLen P t v = some u) (r : v.rel ι x) (ht : ts[0]? = some t) (ha : args[0]? = some x) (w : World) : ∃ y, (Builtin.len_ ts ty args).run P w = .ok y w ∧ u.rel ι y := by
  unfold evLen at h
  unfold Builtin.len_
  split at h
  · rename_i hu; obtain rfl := Option.some.inj h; have r' : x = _ := r; subst r'
    exact ⟨_, by simp only [ht, ha, Sem.run_bind, run_und hu, Result.andThen_ok, Sem.run_pure]; rfl, rfl⟩
  · rename_i n e hu; obtain rfl := Option.some.inj h
    exact ⟨_, by simp only [ht, ha, Sem.run_bind, run_und hu, Result.andThen_ok, Sem.run_pure]; rfl, rfl⟩
  · rename_i hu; obtain rfl := Option.some.inj h; obtain ⟨_, _, _, _, _, rfl, _⟩ := r
    exact ⟨_, by simp only [ht, ha, Sem.run_bind, run_und hu, Result.andThen_ok, Sem.run_pure]; rfl, rfl⟩
  · rename_i hu; obtain rfl := Option.some.inj h; have r' : x = _ := r; subst r'
    exact ⟨_, by simp only [ht, ha, Sem.run_bind, run_und hu, Result.andThen_ok, Sem.run_pure]; rfl, rfl⟩
  · cases h

theorem run_evLoad {C : Cfg} {ι : Inj} {m : Mem} {M : MemF} {w : World} {t : TypeId} {p v : V} {p' : Value} (h : evLoad C m t p = some v) (hs : Sim C ι M w) (hM : ∀ b ∈ idsV p, M b = look m b) (rp : p.rel ι p') : ∃ y, (Instr.loadAt t p').run C.P w = .ok y w ∧ v.rel ι y := by
  unfold evLoad at h
  split at h
  · rename_i b off
    split at h
    · rename_i k hk
      obtain ⟨l, h1, rfl⟩ := rp
      obtain ⟨l2, g1, g2⟩ := hs.blk b k (by rw [hM b (by simp [idsV]), hk])
      rw [h1] at g1; obtain rfl := Option.some.inj g1
      obtain ⟨y, k1, k2⟩ := run_readV (P := C.P) (t := t) (fun j v hj => g2.cell hj) h
      exact ⟨y, by simpa [Instr.loadAt, Instr.sureAddr] using k1, k2⟩
    · cases h
  · rename_i g off
    split at h
    · rename_i cs et hg
      have rp' : p' = _ := rp; subst rp'
      obtain ⟨xs, fr, g1, g2⟩ := hs.glob g cs et hg
      obtain ⟨y, k1, k2⟩ := run_readV (P := C.P) (ι := ι) (w := w) (r := g) (base := 0) (t := t) (fun j v hj => by
        obtain ⟨x, q1, q2⟩ := relL_nth g2 hj
        exact ⟨x, by simp [World.cell?, g1, q1], rel_mono (by intro _ _ h; cases h) _ _ q2⟩) h
      exact ⟨y, by simpa [Instr.loadAt, Instr.sureAddr] using k1, k2⟩
    · cases h
  · cases h

theorem run_evStore {C : Cfg} {ι : Inj} {m : Mem} {M : MemF} {w : World} {nx : Nat} {t : TypeId} {p v : V} {p' v' : Value} {e : Eff} (h : (evStore C m nx t p v).run = some e) (hd : ∀ b l, ι b = some l → b < nx) (hs : Sim C ι M w) (hM : ∀ b ∈ idsV p, M b = look m b) (rp : p.rel ι p') (rv : v.rel ι v') :
    ∃ w', (Instr.storeAt t p' v').run C.P w = .ok () w' ∧ Good C nx M ι w e.v (updF M e.upd) e.nx undef w' := by
  unfold evStore at h
  split at h
  · rename_i b off
    split at h
    · rename_i k hk
      cases hro : k.ro with
      | true => simp [hro, Tree.run] at h
      | false =>
        simp only [hro, cond_false] at h
        split at h
        · rename_i cs hcs
          simp [Tree.run] at h; subst h
          unfold writeV at hcs
          split at hcs
          · rename_i n hn
            cases hb : (Nat.beq v.cells.length n && allOne v.cells && Nat.ble (off + n) k.cells.length) with
            | false => simp [hb] at hcs
            | true =>
              simp only [hb, cond_true] at hcs
              obtain rfl := Option.some.inj hcs
              simp only [Bool.and_eq_true] at hb
              obtain ⟨⟨hb1, hb2⟩, hb3⟩ := hb
              have hl := Nat.eq_of_beq_eq_true hb1
              have hle := Nat.le_of_ble_eq_true hb3
              obtain ⟨l, h1, rfl⟩ := rp
              have hMb : M b = some k := by rw [hM b (by simp [idsV]), hk]
              obtain ⟨l2, g1, g2⟩ := hs.blk b k hMb
              rw [h1] at g1; obtain rfl := Option.some.inj g1
              obtain ⟨pre, xs, ys, zs, fr, q1, q2, q3, q4, q5, q6⟩ := g2
              have rc := cells_rel rv
              have lx := relL_length q3
              have lc := relL_length rc
              have hsz : v'.cells.size = n := by rw [← Array.length_toList, lc, hl]
              let A := pre ++ (xs ++ (ys ++ zs))
              have hA : A.length = pre.length + xs.length + ys.length + zs.length := by simp [A]; omega
              have hone : ∀ y ∈ v'.cells.toList, y.oneCell' = true := by
                intro y hy
                obtain ⟨j, hj, rfl⟩ := List.getElem_of_mem hy
                have hj' : j < v.cells.length := by rw [← lc]; exact hj
                obtain ⟨u, hu'⟩ := nth_lt hj'
                obtain ⟨y, p1, p2⟩ := relL_nth rc hu'
                rw [List.getElem?_eq_getElem hj] at p1
                obtain rfl := Option.some.inj p1
                exact one_rel (allOne_nth hb2 hu') p2
              have hst := run_storeCells (P := C.P) v'.cells.toList 0 w l.r (l.base + off) A k.elem fr q1 (by simp only [Array.length_toList, hsz]; omega) (fun o o1 o2 => q5 o (by omega) (by simp only [Array.length_toList, hsz] at o2; omega)) hone
              simp only [Nat.add_zero, Array.length_toList, hsz] at hst
              refine ⟨_, by simpa [Instr.storeAt, Instr.sureAddr, storeVar, run_sizeOf hn, hsz] using hst, ?_⟩
              refine good_write (b' := b) (l' := l) (k' := ⟨takeV off k.cells ++ (v.cells ++ dropV (off + n) k.cells), k.elem, false⟩) (ι' := ι) hd (Nat.le_refl _) hs hMb hro h1 rfl ?_ (.inl rfl) (fun _ _ => rfl) (fun _ _ h => h) h1 rfl ?_ _ _ (show V.rel ι (.tuple []) undef from ⟨[], rfl, rfl⟩)
              · intro c kc hc
                simp only [updF, lookU] at hc
                by_cases hcb : c = b
                · subst hcb; simp at hc; exact .inl ⟨rfl, hc.symm⟩
                · rw [beqF (Ne.symm hcb)] at hc; exact .inr ⟨hcb, hcb, by simpa using hc⟩
              · refine ⟨pre, xs.take off ++ (v'.cells.toList ++ xs.drop (off + n)), ys, zs, fr, ?_, q2, relL_append (relL_take q3) (relL_append rc (relL_drop q3)), ?_, q5, ?_⟩
                · rw [setBlk_heap]
                  simp only [lt_of_heap q1, and_self, if_true, Option.some.injEq]
                  have e : A.take (l.base + off) ++ (v'.cells.toList ++ A.drop (l.base + off + n)) = pre ++ (xs.take off ++ (v'.cells.toList ++ xs.drop (off + n)) ++ (ys ++ zs)) := by
                    have e1 : A.take (l.base + off) = pre ++ xs.take off := by
                      rw [← q2, List.take_length_add_append, List.take_append_of_le_length (by omega)]
                    have e2 : A.drop (l.base + off + n) = xs.drop (off + n) ++ (ys ++ zs) := by
                      rw [← q2, Nat.add_assoc, List.drop_append, List.drop_eq_nil_of_le (by omega), List.nil_append, show pre.length + (off + n) - pre.length = off + n by omega, List.drop_append_of_le_length (by omega)]
                    rw [e1, e2]; simp
                  rw [e]
                · simp only [List.length_append, List.length_take, List.length_drop, Array.length_toList, hsz]
                  rw [← q4]; omega
                · rw [allOne_append, allOne_append, allOne_take q6, hb2, allOne_drop q6]; rfl
          · cases hcs
        · simp [Tree.run] at h
    · simp [Tree.run] at h
  · simp [Tree.run] at h

theorem rep_sum (n : Nat) (z : Array Value) (h : z.size ≠ 0 ∨ n = 0) : (Array.range (n * z.size)).map (fun i => z[i % z.size]!) = ((List.range (n * z.toList.length)).map fun i => z.toList.toArray[i % z.toList.length]!).toArray := by
  rw [range_map]
  simp

section
variable {C : Cfg} {ι : Inj} {w : World} {a : Act} {Q : Exit → Act → World → Prop} {o : Oper} {n : Nat} {M : MemF} {e : Eff}

theorem op_val {x : Value} {w' : World} (h : (execOp a.eval o).run C.P w = .ok (.value x) w') (g : Good C n M ι w e.v (updF M e.upd) e.nx x w') :
    o.wp C.P a w (fun a' w' => ∃ x, a' = a.put o.dst x ∧ Good C n M ι w e.v (updF M e.upd) e.nx x w') Q := by
  unfold Oper.wp
  rw [h]
  exact ⟨x, rfl, g⟩
theorem op_skip {w' : World} (h : (execOp a.eval o).run C.P w = .ok .skip w') (g : Good C n M ι w e.v (updF M e.upd) e.nx undef w') :
    o.wp C.P a w (fun a' w' => ∃ x, a' = a.put o.dst x ∧ Good C n M ι w e.v (updF M e.upd) e.nx x w') Q := by
  unfold Oper.wp
  rw [h]
  exact ⟨undef, rfl, g⟩
theorem op_pure (hd : ∀ b l, ι b = some l → b < n) (hs : Sim C ι M w) {v : V} (he : e = pureE n v) {x : Value} (h : (execOp a.eval o).run C.P w = .ok (.value x) w) (hv : v.rel ι x) :
    o.wp C.P a w (fun a' w' => ∃ x, a' = a.put o.dst x ∧ Good C n M ι w e.v (updF M e.upd) e.nx x w') Q := by
  subst he
  exact op_val h (good_pure hd hs hv)
end

theorem lookU_append (us vs : Upd) (c : Nat) : lookU (us ++ vs) c = match lookU us c with | some u => some u | none => lookU vs c := by
  induction us with
  | nil => rfl
  | cons p us ih =>
    obtain ⟨i, u⟩ := p
    simp only [List.cons_append, lookU]
    cases Nat.beq i c <;> simp [ih]
theorem lookU_oldU (out : Mem) (c : Nat) : ∀ R : List Nat, lookU (oldU out R) c = if c ∈ R then some (look out c) else none
  | [] => rfl
  | b :: bs => by
    simp only [oldU, lookU]
    by_cases h : b = c
    · subst h; simp
    · rw [beqF h, cond_false, lookU_oldU out c bs]
      simp [Ne.symm h]
theorem lookU_freshU (nx : Nat) (c : Nat) : ∀ (m : Mem) (u : Option Blk), lookU (freshU nx m) c = some u → nx ≤ c ∧ u = look m c
  | [], u, h => by simp [freshU, lookU] at h
  | (i, k) :: m, u, h => by
    simp only [freshU] at h
    cases hb : Nat.ble nx i with
    | true =>
      have hle := Nat.le_of_ble_eq_true hb
      simp only [hb, cond_true, lookU] at h
      by_cases hc : i = c
      · subst hc; simp at h; subst h; exact ⟨hle, by simp [look]⟩
      · rw [beqF hc] at h
        obtain ⟨h1, h2⟩ := lookU_freshU nx c m u (by simpa using h)
        exact ⟨h1, by rw [h2]; simp [look, beqF hc]⟩
    | false =>
      simp only [hb, cond_false] at h
      obtain ⟨h1, h2⟩ := lookU_freshU nx c m u h
      have hni : ¬ nx ≤ i := fun hh => by rw [Nat.ble_eq_true_of_le hh] at hb; cases hb
      have hc : i ≠ c := by intro e; subst e; exact hni h1
      exact ⟨h1, by rw [h2]; simp [look, beqF hc]⟩

theorem zero_row (n : Nat) (z : Array Value) (h : z.size ≠ 0) : (Array.range (n * z.size)).map (fun i => z[i % z.size]!) = ((List.range (n * z.toList.length)).map fun i => z.toList.toArray[i % z.toList.length]!).toArray := by
  rw [range_map]
  simp
theorem range0 {α : Type} (f : Nat → α) : (Array.range 0).map f = #[] := by
  apply Array.ext'
  simp
theorem run_bs {P : Program} {t elem : TypeId} {len sz : Nat} {parts : Array (Nat × Value)} {zx : Value} {ys : Array Value} {w : World} (hu : P.underlying t = some (.slice elem)) (hsz : sizeB P elem = some (sz + 1)) (hz : (zeroValue elem).run P w = .ok zx w) (lz : zx.cells.size = sz + 1)
    (hle : len * (sz + 1) ≤ 2 ^ 24) (hf : Instr.fill (fun i => some (i * (sz + 1), sz + 1)) ((List.range (len * zx.cells.toList.length)).map fun i => zx.cells.toList.toArray[i % zx.cells.toList.length]!).toArray parts.toList = some ys) :
    (Instr.buildSlice t len parts).run P w = .ok (.slice (some ⟨w.heap.size, 0, none⟩) len len) (w.alloc (.cells ys elem)) := by
  have e0 : ¬ (len * (sz + 1) > 2 ^ 24) := by omega
  simp only [Instr.buildSlice, Sem.run_bind, run_und hu, Result.andThen_ok, run_sizeOf hsz]
  rw [if_neg e0]
  by_cases h0 : len * (sz + 1) = 0
  · have hl : len = 0 := by rcases Nat.mul_eq_zero.mp h0 with h | h <;> omega
    subst hl
    simp only [Nat.zero_mul, List.range_zero, List.map_nil] at hf
    simp [range0, hf, newRow]
  · rw [if_neg h0]
    rw [← zero_row len zx.cells (by omega), lz] at hf
    simp [hz, lz, hf, newRow]
theorem run_ms {P : Program} {t elem : TypeId} {ln cn : Int} {i : TypeInfo} {sz : Nat} {zx : Value} {w : World} (hu : P.underlying t = some (.slice elem)) (hi : P.info? elem = some i) (hsz : i.size = sz + 1) (hz : (zeroValue elem).run P w = .ok zx w) (lz : zx.cells.size = sz + 1)
    (b1 : 0 ≤ ln) (b2 : ln ≤ cn) (b3 : (i.bytes : Int) * cn ≤ 2 ^ 48) (b4 : cn < 2 ^ 62) :
    (Instr.makeSlice t (.int .i64 ln) (.int .i64 cn)).run P w = .ok (.slice (some ⟨w.heap.size, 0, none⟩) ln.toNat cn.toNat) (w.alloc (.cells ((List.range (cn.toNat * zx.cells.toList.length)).map fun i => zx.cells.toList.toArray[i % zx.cells.toList.length]!).toArray elem)) := by
  have hszB : sizeB P elem = some (sz + 1) := by simp [sizeB, hi, hsz]
  have wl : IntKind.i64.wrap ln = ln := by simp [IntKind.wrap, IntKind.bits, IntKind.signed]; omega
  have wc : IntKind.i64.wrap cn = cn := by simp [IntKind.wrap, IntKind.bits, IntKind.signed]; omega
  have c1 : ((decide (cn < 0) || decide ((i.bytes : Int) * cn > 2 ^ 48)) || decide (ln < 0) || decide (ln > cn)) = false := by
    simp only [Bool.or_eq_false_iff, decide_eq_false_iff_not]
    omega
  rw [← zero_row cn.toNat zx.cells (by omega), lz]
  simp only [Instr.makeSlice, Sem.run_bind, run_und hu, Result.andThen_ok, asInt, asIntOf, Sem.run_pure, run_info hi, wl, wc]
  rw [if_neg (by simpa using c1)]
  by_cases h0 : cn.toNat * (sz + 1) = 0
  · have hl : cn.toNat = 0 := by rcases Nat.mul_eq_zero.mp h0 with h | h <;> omega
    simp [run_sizeOf hszB, hl, newRow, range0]
  · simp [run_sizeOf hszB, newRow, hz, lz]
    exact fun h => absurd h h0
theorem op_sound {C : Cfg} (hC : C.Ok) {call : CallF} (hcall : CallSound C call) {ev : Operand → Option V} {m : Mem} {nx : Nat} {e : Eff} {o : Oper} {a : Act} {ι : Inj} {w : World} {Q : Exit → Act → World → Prop}
    (h : (evEff C call ev m nx o.op).run = some e) (hev : ∀ x v, ev x = some v → v.rel ι (a.eval x)) (hd : ∀ b l, ι b = some l → b < nx) (hs : Sim C ι (restrF m (foot ev m 1000 o.op)) w) :
    o.wp C.P a w (fun a' w' => ∃ x, a' = a.put o.dst x ∧ Good C nx (restrF m (foot ev m 1000 o.op)) ι w e.v (updF (restrF m (foot ev m 1000 o.op)) e.upd) e.nx x w') Q := by
  obtain ⟨dst, op, type, pos, after, guard⟩ := o
  cases op <;> simp only [evEff] at h
  case move x =>
    obtain ⟨u, h1, h2⟩ := retO_run h
    exact op_pure hd hs h2 (by simp [execOp]) (hev _ _ h1)
  case assign x =>
    obtain ⟨u, h1, h2⟩ := retO_run h
    exact op_pure hd hs h2 (by simp [execOp]) (hev _ _ h1)
  case pick c x y =>
    split at h
    · rename_i t va vb h1 h2 h3
      have hc : a.eval c = .bool t := hev _ _ h1
      rw [Tree.run_ite] at h
      split at h
      · rename_i ht; simp [Tree.run] at h
        exact op_pure hd hs h.symm (by simp [execOp, hc, asBool, ht]) (hev _ _ h2)
      · rename_i ht; simp [Tree.run] at h
        exact op_pure hd hs h.symm (by simp [execOp, hc, asBool, ht]) (hev _ _ h3)
    · simp [Tree.run] at h
  case alloc t =>
    split at h
    · rename_i z hz
      obtain ⟨zx, k1, k2⟩ := run_zero hz w
      have g := run_newE h hd hs (cells_rel (k2 ι)) (.pointer (some ⟨w.heap.size, 0, none⟩)) ⟨⟨w.heap.size, 0, 1⟩, by simp [addI], rfl⟩
      refine op_val ?_ g
      simp [execOp, Instr.alloc, k1, newVar, newRow]
    · simp [Tree.run] at h
  case box t x =>
    split at h
    · rename_i v hv
      have g := run_newE h hd hs (cells_rel (hev _ _ hv)) (.pointer (some ⟨w.heap.size, 0, none⟩)) ⟨⟨w.heap.size, 0, 1⟩, by simp [addI], rfl⟩
      refine op_val ?_ g
      simp [execOp, Instr.box, newVar, newRow]
    · simp [Tree.run] at h
  case build t ps =>
    split at h
    · rename_i vs hv
      obtain ⟨u, h1, h2⟩ := retO_run h
      have rp := partsV_rel hev hv
      obtain ⟨z, k1, k2⟩ := run_evBuild (ps' := ps.map fun (i, x) => (i, a.eval x)) h1 (by simpa using rp) w
      exact op_pure hd hs h2 (x := z) (by simp only [execOp, Sem.run_bind, k1, Result.andThen_ok]; rfl) k2
    · simp [Tree.run] at h
  case buildSlice t len ps =>
    split at h
    · rename_i vs hv
      have rp := partsV_rel hev hv
      unfold evBuildSlice at h
      split at h
      · rename_i elem hu
        split at h
        · rename_i sz z hsz hz
          cases hb : (Nat.ble (len * (sz + 1)) (2 ^ 24) && Nat.beq z.cells.length (sz + 1)) with
          | false => simp [hb, Tree.run] at h
          | true =>
            rw [hb] at h
            simp only [cond_true] at h
            simp only [Bool.and_eq_true] at hb
            have hle := Nat.le_of_ble_eq_true hb.1
            have hzl := Nat.eq_of_beq_eq_true hb.2
            split at h
            · rename_i cs hcs
              obtain ⟨zx, k1, k2⟩ := run_zero hz w
              have rz := cells_rel (k2 ι)
              have lz : zx.cells.toList.length = sz + 1 := by rw [relL_length rz, hzl]
              have lz' : zx.cells.size = sz + 1 := by simpa using lz
              obtain ⟨ys, k3, k4⟩ := fillV_rel (place' := fun i => some (i * (sz + 1), sz + 1)) (fun i p hi => hi) hcs (rep_rel rz len) (ps' := (ps.map fun (i, x) => (i, a.eval x)).toList) (by simpa using rp)
              have g := run_newE h hd hs k4 (.slice (some ⟨w.heap.size, 0, none⟩) len len) ⟨⟨w.heap.size, 0, len⟩, _, _, by simp [addI], by simp, rfl, .inl ⟨by simp, by simp⟩⟩
              refine op_val ?_ g
              have := run_bs hu hsz k1 lz' hle k3
              simp only [execOp, Sem.run_bind, this, Result.andThen_ok, Sem.run_pure]
            · simp [Tree.run] at h
        · simp [Tree.run] at h
      · simp [Tree.run] at h
    · simp [Tree.run] at h
  case load t x =>
    split at h
    · rename_i p hp
      obtain ⟨u, h1, h2⟩ := retO_run h
      obtain ⟨y, k1, k2⟩ := run_evLoad h1 hs (fun b hb => by simp [restrF, foot, hp, hb]) (hev _ _ hp)
      exact op_pure hd hs h2 (x := y) (by simp only [execOp, Sem.run_bind, k1, Result.andThen_ok]; rfl) k2
    · simp [Tree.run] at h
  case store t x y =>
    split at h
    · rename_i p v hp hv
      obtain ⟨w', k1, k2⟩ := run_evStore h hd hs (fun b hb => by simp [restrF, foot, hp, hb]) (hev _ _ hp) (hev _ _ hv)
      exact op_skip (by simp only [execOp, Sem.run_bind, k1, Result.andThen_ok]; rfl) k2
    · simp [Tree.run] at h
  case nilCheck x =>
    split at h
    · rename_i b off hv
      simp [Tree.run] at h
      have r := hev _ _ hv
      obtain ⟨l, h1, h2⟩ := r
      exact op_pure hd hs h.symm (x := a.eval x) (by simp [execOp, h2]) ⟨l, h1, h2⟩
    · rename_i b off hv
      simp [Tree.run] at h
      have r : a.eval x = _ := hev _ _ hv
      exact op_pure hd hs h.symm (x := a.eval x) (by simp [execOp, r]) r
    · rename_i f hv
      simp [Tree.run] at h
      have r := hev _ _ hv
      obtain ⟨ys, h1, h2⟩ := r
      have h2' : ys = [] := h2
      subst h2'
      exact op_pure hd hs h.symm (x := a.eval x) (by simp [execOp, h1]) ⟨[], h1, rfl⟩
    · simp [Tree.run] at h
  case binOp op t x y yt =>
    split at h
    · rename_i va vb h1 h2
      obtain ⟨u, h3, h4⟩ := retV_run h
      obtain ⟨z, k1, k2⟩ := run_evBin hC x y h3 (hev _ _ h1) (hev _ _ h2) w
      refine op_pure hd hs h4 (x := z) ?_ k2
      simp only [execOp]
      rw [Sem.run_bind, k1]
      rfl
    · simp [Tree.run] at h
  case unOp uop t x =>
    split at h
    · rename_i va h1
      obtain ⟨u, h3, h4⟩ := retV_run h
      obtain ⟨z, k1, k2⟩ := run_evUn (P := C.P) h3 (hev _ _ h1) w
      exact op_pure hd hs h4 (x := z) (by simp only [execOp, Sem.run_bind, k1, Result.andThen_ok]; rfl) k2
    · simp [Tree.run] at h
  case convert s t x =>
    split at h
    · rename_i va h1
      unfold evConvM at h
      split at h
      · rename_i sd el b hsrc hdst
        split at h
        · rename_i hel hsz
          simp [Tree.run] at h
          have r : a.eval x = _ := hev _ _ h1
          have k1 := Lib.run_convert_string_bytes (P := C.P) w s t el b hsrc hdst hel
          subst h
          refine op_val (e := ⟨.slice nx 0 b.size 1, [(nx, some ⟨b.data.toList.map fun c => .int .u8 (c.toNat : Int), el, false⟩)], nx + 1⟩) (x := .slice (some ⟨w.heap.size, 0, none⟩) b.size (grownCap w b.size 0 el)) (w' := Lib.bytesWorld w el b) (by simp only [execOp, Sem.run_bind, r, k1, Result.andThen_ok]; rfl) ?_
          have hgc : b.size ≤ grownCap w b.size 0 el := by simp only [grownCap, Question.cut]; omega
          have hrel : V.relL ι (b.data.toList.map fun c => V.int .u8 (c.toNat : Int)) (b.data.toList.map fun c => Value.int .u8 (c.toNat : Int)) := by
            generalize b.data.toList = l
            induction l with
            | nil => rfl
            | cons c l ih => exact ⟨_, _, rfl, rfl, ih⟩
          have hone : allOne (b.data.toList.map fun c => V.int .u8 (c.toNat : Int)) = true := by
            generalize b.data.toList = l
            induction l with
            | nil => rfl
            | cons c l ih => simp [allOne, V.one, ih]
          have hbs : b.data.toList.length = b.size := Array.length_toList
          have hcl : (Lib.bytesCells w el b) = ((b.data.toList.map fun c => Value.int .u8 (c.toNat : Int)) ++ List.replicate (grownCap w b.size 0 el - b.size) (Value.int .u8 0)).toArray := by
            apply Array.ext'
            simp [Lib.bytesCells]
          have hcs : (Lib.bytesCells w el b).size = grownCap w b.size 0 el := by rw [hcl, List.size_toArray, List.length_append, List.length_map, List.length_replicate, hbs]; omega
          refine good_new hd hs (k := ⟨b.data.toList.map fun c => .int .u8 (c.toNat : Int), el, false⟩) (c := grownCap w b.size 0 el) (xs := b.data.toList.map fun c => Value.int .u8 (c.toNat : Int)) (ys := List.replicate (grownCap w b.size 0 el - b.size) (Value.int .u8 0)) hrel ?_ hone rfl (.slice nx 0 b.size 1) (.slice (some ⟨w.heap.size, 0, none⟩) b.size (grownCap w b.size 0 el))
            ⟨⟨w.heap.size, 0, grownCap w b.size 0 el⟩, _, _, by simp [addI], by simpa using hgc, rfl, .inl ⟨by simp, by simp⟩⟩ (fr := (grownCap w b.size 0 el, grownCap w b.size 0 el + 1)) rfl rfl rfl (by rw [Lib.bytesWorld_size]; omega) ?_ ?_
          · rw [cellsOf_sizeB hsz]; simp only [List.length_map, List.length_replicate, hbs]; omega
          · intro i
            by_cases hi : i = w.heap.size
            · subst hi
              rw [if_pos rfl, Lib.bytesWorld_at_new, hcs, hcl]
            · rw [if_neg hi]
              rcases Nat.lt_or_ge i w.heap.size with hlt | hge
              · exact Lib.bytesWorld_at_old w el b i hlt
              · rw [Array.getElem?_eq_none (by rw [Lib.bytesWorld_size]; omega), Array.getElem?_eq_none hge]
          · intro o ho
            rw [cellsOf_sizeB hsz] at ho
            simp only
            omega
        · simp [Tree.run] at h
      · obtain ⟨u, h3, h4⟩ := retV_run h
        obtain ⟨z, k1, k2⟩ := run_evConv h3 (hev _ _ h1) w
        exact op_pure hd hs h4 (x := z) (by simp only [execOp, Sem.run_bind, k1, Result.andThen_ok]; rfl) k2
    · simp [Tree.run] at h
  case makeInterface t x =>
    split at h
    · rename_i d v hu hv
      split at h
      · simp [Tree.run] at h
      · rename_i hni
        simp [Tree.run] at h
        refine op_pure hd hs h.symm (x := .iface t (a.eval x)) ?_ ⟨a.eval x, rfl, hev _ _ hv⟩
        simp only [execOp, Instr.makeInterface, Sem.run_bind, run_und hu, Result.andThen_ok]
        cases d <;> first | rfl | exact absurd rfl (hni _)
    · simp [Tree.run] at h
  case makeFunc fn first caps =>
    split at h
    · rename_i f vs h1 h2
      simp [Tree.run] at h
      have hf : first = #[] := by cases first; simp at h1; rw [h1]
      subst hf
      have r := evL_rel hev h2
      exact op_pure hd hs h.symm (x := .func (.func f) #[] (caps.map a.eval)) (by simp [execOp, Instr.makeFunc]) ⟨caps.toList.map a.eval, by rw [show caps.map a.eval = (caps.toList.map a.eval).toArray from Array.ext' (by simp)], r⟩
    · simp [Tree.run] at h
  case makeSlice t l c =>
    split at h
    · rename_i vl vc h1 h2
      unfold evMakeSlice at h
      split at h
      · rename_i ln cn elem hu
        split at h
        · rename_i i z hi hz
          split at h
          · rename_i sz hsz
            cases hb : (Nat.beq z.cells.length (sz + 1) && allOne z.cells) with
            | false => simp [hb, Tree.run] at h
            | true =>
              rw [hb] at h
              simp only [cond_true] at h
              simp only [Bool.and_eq_true] at hb
              have hzl := Nat.eq_of_beq_eq_true hb.1
              rw [Tree.run_ite] at h
              split at h
              · rename_i hbd
                obtain ⟨b1, b2, b3, b4⟩ := of_decide_eq_true hbd
                simp [Tree.run] at h
                have rl : a.eval l = _ := hev _ _ h1
                have rc : a.eval c = _ := hev _ _ h2
                obtain ⟨zx, k1, k2⟩ := run_zero hz w
                have rz := cells_rel (k2 ι)
                have lz : zx.cells.toList.length = sz + 1 := by rw [relL_length rz, hzl]
                have lz' : zx.cells.size = sz + 1 := by simpa using lz
                have hszB : sizeB C.P elem = some (sz + 1) := by simp [sizeB, hi, hsz]
                have rr := rep_rel rz cn.toNat
                have g := good_alloc hd hs (k := ⟨repV cn.toNat z.cells, elem, false⟩) (c := cn.toNat) (ys := []) rr (by simp [cellsOf_sizeB hszB, lz']) (allOne_rep hb.2 _) rfl (.slice nx 0 ln.toNat (sz + 1)) (.slice (some ⟨w.heap.size, 0, none⟩) ln.toNat cn.toNat)
                  ⟨⟨w.heap.size, 0, cn.toNat⟩, _, _, by simp [addI], by simp; omega, rfl, .inl ⟨by simp, by simp⟩⟩
                subst h
                refine op_val (e := ⟨.slice nx 0 ln.toNat (sz + 1), [(nx, some ⟨repV cn.toNat z.cells, elem, false⟩)], nx + 1⟩) ?_ g
                have := run_ms hu hi hsz k1 lz' b1 b2 b3 b4
                simp only [execOp, Sem.run_bind, rl, rc, this, Result.andThen_ok, Sem.run_pure, List.append_nil]
              · simp [Tree.run] at h
          · simp [Tree.run] at h
        · simp [Tree.run] at h
      · simp [Tree.run] at h
    · simp [Tree.run] at h
  case slice t x lo hi mx =>
    split at h
    · rename_i v hv
      split at h
      · rename_i l hh hl hhi
        obtain ⟨u, h3, h4⟩ := retV_run h
        obtain ⟨z, k1, k2⟩ := run_evSlice (ρ := a.eval) hev h3 (hev _ _ hv) hl hhi w
        refine op_pure hd hs h4 (x := z) ?_ k2
        simp only [execOp, Option.map_none, Sem.run_bind, k1, Result.andThen_ok]; rfl
      · simp [Tree.run] at h
    · simp [Tree.run] at h
  case fieldAddr t x f =>
    split at h
    · rename_i v hv
      obtain ⟨u, h3, h4⟩ := retO_run h
      obtain ⟨z, k1, k2⟩ := run_evFieldAddr h3 (hev _ _ hv) w
      exact op_pure hd hs h4 (x := z) (by simp only [execOp, Sem.run_bind, k1, Result.andThen_ok]; rfl) k2
    · simp [Tree.run] at h
  case field t x f =>
    split at h
    · rename_i v hv
      obtain ⟨u, h3, h4⟩ := retO_run h
      obtain ⟨z, k1, k2⟩ := run_evField h3 (hev _ _ hv) w
      exact op_pure hd hs h4 (x := z) (by simp only [execOp, Sem.run_bind, k1, Result.andThen_ok]; rfl) k2
    · simp [Tree.run] at h
  case indexAddr t x i =>
    split at h
    · rename_i v j hv hj
      obtain ⟨u, h3, h4⟩ := retV_run h
      obtain ⟨z, k1, k2⟩ := run_evIndexAddr h3 (hev _ _ hv) (hev _ _ hj) w
      exact op_pure hd hs h4 (x := z) (by simp only [execOp, Sem.run_bind, k1, Result.andThen_ok]; rfl) k2
    · simp [Tree.run] at h
  case index t x i =>
    split at h
    · rename_i v j hv hj
      obtain ⟨u, h3, h4⟩ := retV_run h
      obtain ⟨z, k1, k2⟩ := run_evIndex h3 (hev _ _ hv) (hev _ _ hj) w
      exact op_pure hd hs h4 (x := z) (by simp only [execOp, Sem.run_bind, k1, Result.andThen_ok]; rfl) k2
    · simp [Tree.run] at h
  case extract x i =>
    split at h
    · rename_i v hv
      obtain ⟨u, h3, h4⟩ := retO_run h
      obtain ⟨z, k1, k2⟩ := run_evExtract (P := C.P) h3 (hev _ _ hv) w
      exact op_pure hd hs h4 (x := z) (by simp only [execOp, Sem.run_bind, k1, Result.andThen_ok]; rfl) k2
    · simp [Tree.run] at h
  case call c =>
    obtain ⟨callee, args, argTypes⟩ := c
    cases callee
    case value f =>
      simp only at h
      split at h
      · rename_i g caps vs hf hv
        cases hbd : hasBody C.P g with
        | false => simp [hbd, Tree.run] at h
        | true =>
          simp only [hbd, cond_true] at h
          unfold evCall at h
          rw [Tree.run_bind] at h
          cases hc : (call g (vs ++ caps) (restrL m (reach m 1000 (idsL caps ++ idsL vs) [])) nx).run with
          | none => rw [hc] at h; cases h
          | some r =>
            obtain ⟨v, out, nx'⟩ := r
            rw [hc] at h
            simp [Tree.run] at h
            subst h
            have r1 := evL_rel hev hv
            obtain ⟨ys, e1, r2⟩ := hev _ _ hf
            have hfoot : foot ev m 1000 (Op.call ⟨.value f, args, argTypes⟩) = reach m 1000 (idsL caps ++ idsL vs) [] := by simp [foot, hf, hv, idsV]
            simp only [hfoot] at hs ⊢
            generalize reach m 1000 (idsL caps ++ idsL vs) [] = R at *
            have hlook : look (restrL m R) = restrF m R := funext fun b => look_restrL m R b
            have hcs := hcall g (vs ++ caps) (restrL m R) nx v out nx' hc w ι (args.toList.map a.eval ++ ys) hd (relL_append r1 r2) (by rw [hlook]; exact hs)
            unfold hasBody at hbd
            split at hbd
            case h_2 => cases hbd
            rename_i fn hfn
            have hng := hC.noNG g fn hfn hbd
            have hrun : (execOp a.eval ⟨dst, .call ⟨.value f, args, argTypes⟩, type, pos, after, guard⟩).run C.P w = .ok (.enter g (args.toList.map a.eval ++ ys).toArray) w := by
              have hbn : fn.body.isNone = false := by cases hb2 : fn.body <;> simp [hb2] at hbd ⊢
              simp only [execOp, resolve, e1, Deferred.ofValue, Sem.run_bind, Sem.run_pure, Result.andThen_ok, invoke, callFunc, run_program, hfn]
              simp only [hng, Bool.false_eq_true, if_false, hbn, Sem.run_pure]
              congr 3
              apply Array.ext'
              simp
            unfold Oper.wp
            rw [hrun, Oper.upon_enter]
            refine hcs.mono ?_
            rintro e w' ⟨x, rfl, hg⟩
            refine ⟨x, rfl, ?_⟩
            rw [hlook] at hg
            refine good_sub hg ?_
            intro b k hb
            simp only [updF, lookU_append, lookU_oldU] at hb
            by_cases hbR : b ∈ R
            · simpa [hbR] using hb
            · rw [if_neg hbR] at hb
              simp only at hb
              cases hlu : lookU (freshU nx out) b with
              | some u =>
                rw [hlu] at hb
                obtain ⟨_, q2⟩ := lookU_freshU nx b out u hlu
                rw [← q2]; exact hb
              | none => rw [hlu] at hb; simp [restrF, hbR] at hb
      · simp [Tree.run] at h
    case builtin b =>
      simp only at h
      split at h
      · rename_i vs hv
        have r := evL_rel hev hv
        have ex : ∀ s : Sem Value, ∀ x w', s.run C.P w = .ok x w' → (∀ cs, builtin b argTypes type cs (args.map a.eval) = (do pure (.value (← s)))) →
            (execOp a.eval ⟨dst, .call ⟨.builtin b, args, argTypes⟩, type, pos, after, guard⟩).run C.P w = .ok (.value x) w' := by
          intro s x w' h1 h2
          simp only [execOp, resolve, Sem.run_bind, Sem.run_pure, Result.andThen_ok, invoke, h2, h1]
        have ha : (args.map a.eval) = (args.toList.map a.eval).toArray := Array.ext' (by simp)
        unfold evBuiltin at h
        split at h
        · rename_i t ts x xs hts
          obtain ⟨x', xs', e1, rx, _⟩ := r
          split at h
          · rename_i u hu
            simp [Tree.run] at h
            have ht0 : argTypes[0]? = some t := by rw [← Array.getElem?_toList, hts]; rfl
            obtain ⟨y, k1, k2⟩ := evLen_rel (ts := argTypes) (ty := type) (args := args.map a.eval) hu rx ht0 (by rw [ha, e1]; rfl) w
            exact op_pure hd hs h.symm (x := y) (ex _ y w k1 (fun _ => rfl)) k2
          · simp [Tree.run] at h
        · split at h
          · rename_i u hu
            simp [Tree.run] at h
            obtain ⟨y, k1, k2⟩ := evMax_rel (P := C.P) hu r w
            exact op_pure hd hs h.symm (x := y) (ex _ y w (by rw [ha]; exact k1) (fun _ => rfl)) k2
          · simp [Tree.run] at h
        · split at h
          · rename_i u hu
            simp [Tree.run] at h
            obtain ⟨y, k1, k2⟩ := evMin_rel (P := C.P) hu r w
            exact op_pure hd hs h.symm (x := y) (ex _ y w (by rw [ha]; exact k1) (fun _ => rfl)) k2
          · simp [Tree.run] at h
        · rename_i t u ts s x xs hts
          obtain ⟨s', ys', e1, rs, x', xs', e2, rx, _⟩ := r
          have ht0 : argTypes[0]? = some t := by rw [← Array.getElem?_toList, hts]; rfl
          have ht1 : argTypes[1]? = some u := by rw [← Array.getElem?_toList, hts]; rfl
          obtain ⟨y, w', k1, k2⟩ := run_append (ty := type) (ts := argTypes) (args := args.map a.eval) h hd hs (fun b hb => by
            have : b ∈ foot ev m 1000 (Op.call ⟨.builtin .append, args, argTypes⟩) := by
              simp only [foot, hv, idsL]
              simp only [List.mem_append] at hb ⊢
              rcases hb with hb | hb
              · exact .inl hb
              · exact .inr (.inl hb)
            simp [restrF, this]) rs rx ht0 ht1 (by rw [ha, e1]; rfl) (by rw [ha, e1, e2]; rfl)
          exact op_val (ex _ y w' k1 (fun _ => rfl)) k2
        · simp [Tree.run] at h
      · simp [Tree.run] at h
    case invoke => simp [Tree.run] at h
  all_goals simp [Tree.run] at h

def restrM (M : MemF) (R : List Nat) : MemF := fun b => if b ∈ R then M b else none
theorem Fp_restr {M : MemF} {R : List Nat} {ι : Inj} {r : Nat} (h : Fp (restrM M R) ι r) : Fp M ι r := by
  obtain ⟨b, k, l, h1, h2⟩ := h
  unfold restrM at h1
  split at h1
  · exact ⟨b, k, l, h1, h2⟩
  · cases h1

/-- A step in a part of memory is a step in the whole. -/
theorem merge {C : Cfg} {n : Nat} {M : MemF} {R : List Nat} {ι ι' : Inj} {w : World} {us : Upd} {w' : World} (hext : ∀ b l, ι b = some l → ι' b = some l) (hs : Sim C ι M w) (p : Prog n (restrM M R) ι w (updF (restrM M R) us) ι' w') (h5 : Sim C ι' (updF (restrM M R) us) w') :
    Prog n M ι w (updF M us) ι' w' ∧ Sim C ι' (updF M us) w' := by
  obtain ⟨p1, ⟨q1, q2, q3, q4, q5⟩, p3, p4, p5⟩ := p
  -- a block is of the part, or it is as it was
  have key : ∀ b k, updF M us b = some k → updF (restrM M R) us b = some k ∨ (b ∉ R ∧ M b = some k ∧ ι' b = ι b) := by
    intro b k hb
    unfold updF at hb ⊢
    cases hl : lookU us b with
    | some u => rw [hl] at hb; exact .inl hb
    | none =>
      rw [hl] at hb
      by_cases hR : b ∈ R
      · exact .inl (by simpa [restrM, hR] using hb)
      · obtain ⟨l, g1, _⟩ := hs.blk b k hb
        exact .inr ⟨hR, hb, by rw [g1]; exact hext b l g1⟩
  have hout : ∀ b k l, b ∉ R → M b = some k → ι b = some l → ¬ Fp (restrM M R) ι l.r := by
    rintro b k l hR hb hl ⟨b2, k2, l2, g1, g2, g3, g4⟩
    unfold restrM at g1
    split at g1
    · rename_i hR2
      exact hR (by rw [← hs.inj b2 b k2 k l2 l g1 g2 hb g3 hl g4]; exact hR2)
    · cases g1
  refine ⟨⟨p1, ⟨q1, q2, q3, q4, fun k hk hF => q5 k hk (fun hh => hF (Fp_restr hh))⟩, ?_, ?_, ?_⟩, ⟨h5.glob, ?_, ?_, ?_⟩⟩
  · intro b k l g1 g2 g3
    rcases key b k g1 with g1 | ⟨_, g1, g4⟩
    · exact (p3 b k l g1 g2 g3).imp Fp_restr id
    · rw [g4] at g3; exact .inl ⟨b, k, l, g1, g2, g3, rfl⟩
  · intro b k hb g1
    rcases key b k g1 with g1 | ⟨_, g1, _⟩
    · obtain ⟨k0, f1, f2⟩ := p4 b k hb g1
      unfold restrM at f1
      split at f1
      · exact ⟨k0, f1, f2⟩
      · cases f1
    · exact ⟨k, g1, rfl⟩
  · intro b k g1 g2
    rcases key b k g1 with g1 | ⟨_, g1, g4⟩
    · obtain ⟨b0, k0, f1, f2⟩ := p5 b k g1 g2
      unfold restrM at f1
      split at f1
      · exact ⟨b0, k0, f1, f2⟩
      · cases f1
    · exact ⟨b, k, g1, g2, g4⟩
  · intro b k g1
    rcases key b k g1 with g1 | ⟨hR, g1, g4⟩
    · exact h5.blk b k g1
    · obtain ⟨l, f1, f2⟩ := hs.blk b k g1
      exact ⟨l, hext b l f1, f2.mono hext (q5 _ f2.lt (hout b k l hR g1 f1))⟩
  · intro b b' k k' l l' g1 g2 g3 g4 g5 g6
    rcases key b k g1 with f1 | ⟨hR, f1, fι⟩ <;> rcases key b' k' g3 with f3 | ⟨hR', f3, fι'⟩
    · exact h5.inj b b' k k' l l' f1 g2 f3 g4 g5 g6
    · exfalso
      rw [fι'] at g5
      have hlt : l'.r < w.heap.size := by
        obtain ⟨l2, e1, e2⟩ := hs.blk b' k' f3
        rw [g5] at e1; obtain rfl := Option.some.inj e1
        exact e2.lt
      rcases p3 b k l f1 g2 g4 with hF | hF
      · rw [g6] at hF; exact hout b' k' l' hR' f3 g5 hF
      · omega
    · exfalso
      rw [fι] at g4
      have hlt : l.r < w.heap.size := by
        obtain ⟨l2, e1, e2⟩ := hs.blk b k f1
        rw [g4] at e1; obtain rfl := Option.some.inj e1
        exact e2.lt
      cases hro : k'.ro with
      | false =>
        rcases p3 b' k' l' f3 hro g5 with hF | hF
        · rw [← g6] at hF; exact hout b k l hR f1 g4 hF
        · omega
      | true =>
        obtain ⟨b0, k0, e1, e2, e4⟩ := p5 b' k' f3 hro
        unfold restrM at e1
        split at e1
        · rename_i hR2
          rw [e4] at g5
          exact hR (by rw [hs.inj b b0 k k0 l l' f1 g2 e1 g4 g5 g6]; exact hR2)
        · cases e1
    · rw [fι] at g4; rw [fι'] at g5
      exact hs.inj b b' k k' l l' f1 g2 f3 g4 g5 g6
  · intro b k l g1 g2 g3
    rcases key b k g1 with g1 | ⟨_, g1, g4⟩
    · exact h5.gsep b k l g1 g2 g3
    · rw [g4] at g3; exact hs.gsep b k l g1 g2 g3
theorem good_merge {C : Cfg} {n : Nat} {M : MemF} {R : List Nat} {ι : Inj} {w : World} {v : V} {us : Upd} {n' : Nat} {x : Value} {w' : World} (hd : ∀ b l, ι b = some l → b < n) (hs : Sim C ι M w) (h : Good C n (restrM M R) ι w v (updF (restrM M R) us) n' x w') :
    Good C n M ι w v (updF M us) n' x w' := by
  obtain ⟨ι', p, h2, h3, h4, h5⟩ := h
  obtain ⟨p', h5'⟩ := merge (fun b l hb => by rw [p.ext b (hd b l hb)]; exact hb) hs p h5
  exact ⟨ι', p', h2, h3, h4, h5'⟩

/-! ### Temporaries -/
theorem getT_setT : ∀ (tm : Tm) (d t : Nat) (v : V), getT (setT tm d v) t = if t = d ∧ d < tm.length then some v else getT tm t
  | [], d, t, v => by simp [setT, getT]
  | x :: xs, 0, 0, v => by simp [setT, getT]
  | x :: xs, 0, t + 1, v => by simp [setT, getT]
  | x :: xs, d + 1, 0, v => by simp [setT, getT]
  | x :: xs, d + 1, t + 1, v => by simp [setT, getT, getT_setT xs d t v]
theorem setT_length : ∀ (tm : Tm) (d : Nat) (v : V), (setT tm d v).length = tm.length
  | [], _, _ => rfl
  | _ :: _, 0, _ => rfl
  | _ :: xs, d + 1, v => by simp [setT, setT_length xs d v]

structure SSim (C : Cfg) (ι : Inj) (s : St) (a : Act) (w : World) : Prop where
  tms : ∀ t v, getT s.tm t = some v → ∃ x, a.tmps[t]? = some x ∧ v.rel ι x
  len : s.tm.length ≤ a.tmps.size
  dom : ∀ b l, ι b = some l → b < s.nx
  mem : Sim C ι (look s.m) w
  defs : a.defers = []

theorem SSim.ev {C : Cfg} {ι : Inj} {s : St} {a : Act} {w : World} (h : SSim C ι s a w) : ∀ x v, evO s.tm x = some v → v.rel ι (a.eval x) := by
  intro x v hv
  cases x with
  | tmp t =>
    obtain ⟨y, h1, h2⟩ := h.tms t v hv
    simpa [Act.eval, Array.getD_eq_getD_getElem?, h1] using h2
  | const c => exact ofVal_rel hv
  | global g => simp [evO] at hv; subst hv; rfl
  | func f => simp [evO] at hv; subst hv; exact ⟨[], rfl, rfl⟩

theorem SSim.put {C : Cfg} {ι ι' : Inj} {s : St} {a : Act} {w w' : World} {v : V} {x : Value} {m' : Mem} {n' : Nat} (h : SSim C ι s a w) (hext : ∀ b l, ι b = some l → ι' b = some l) (hd : ∀ b l, ι' b = some l → b < n') (hv : v.rel ι' x) (hm : Sim C ι' (look m') w') (dst : Option Tmp) :
    SSim C ι' ⟨putT s.tm dst v, m', n'⟩ (a.put dst x) w' := by
  cases dst with
  | none => exact ⟨fun t u hu => let ⟨y, h1, h2⟩ := h.tms t u hu; ⟨y, h1, rel_mono hext _ _ h2⟩, h.len, hd, hm, h.defs⟩
  | some d =>
    refine ⟨fun t u hu => ?_, by simpa [putT, setT_length, Act.put] using h.len, hd, hm, h.defs⟩
    simp only [putT, getT_setT] at hu
    simp only [Act.put, Array.getElem?_setIfInBounds]
    split at hu
    · rename_i hc
      obtain rfl := Option.some.inj hu
      have := h.len
      rw [if_pos hc.1.symm, if_pos (by omega)]
      exact ⟨x, rfl, hv⟩
    · rename_i hc
      obtain ⟨y, h1, h2⟩ := h.tms t u hu
      by_cases hdt : d = t
      · subst hdt
        have h3 : ¬ d < s.tm.length := fun hh => hc ⟨rfl, hh⟩
        have hlen : ∀ (tm : Tm) (t : Nat) (u : V), getT tm t = some u → t < tm.length := by
          intro tm
          induction tm with
          | nil => intro t u h; simp [getT] at h
          | cons y ys ih => intro t u h; cases t with
            | zero => simp
            | succ t => simp [getT] at h; simpa using ih t u h
        exact absurd (hlen _ _ _ hu) h3
      · rw [if_neg hdt]
        exact ⟨y, h1, rel_mono hext _ _ h2⟩

theorem nthO_get : ∀ (l : List Oper) (i : Nat), nthO l i = l[i]?
  | [], i => by simp [nthO]
  | x :: xs, 0 => rfl
  | x :: xs, i + 1 => by simp [nthO, nthO_get xs i]

theorem want_sound {C : Cfg} {ι : Inj} {s : St} {a : Act} {w : World} (h : SSim C ι s a w) {ops : Array Oper} {o : Oper} {b : Bool} (hw : wantT ops.toList s.tm o = some b) : Region.wanted o (yielded ops a.tmps) = b := by
  unfold wantT at hw
  unfold Region.wanted
  split at hw
  · rename_i hg; rw [hg]; exact Option.some.inj hw
  · rename_i j want hg
    rw [hg]
    simp only
    split at hw
    · rename_i oj hj
      rw [nthO_get] at hj
      have hj' : ops[j]? = some oj := by simpa using hj
      split at hw
      · rename_i d hd
        split at hw
        · rename_i c hc
          obtain rfl := Option.some.inj hw
          obtain ⟨x, h1, h2⟩ := h.tms d _ hc
          have h2' : x = .bool c := h2
          subst h2'
          simp only [yielded, hj', Option.bind_some, hd, h1]
          cases c <;> cases want <;> rfl
        · rename_i hc
          obtain rfl := Option.some.inj hw
          obtain ⟨x, h1, ys, rfl, h2⟩ := h.tms d _ hc
          simp only [yielded, hj', Option.bind_some, hd, h1]
          rfl
        · cases hw
      · cases hw
    · cases hw

/-- One operation, in the whole memory. -/
theorem evOp_sound {C : Cfg} (hC : C.Ok) {call : CallF} (hcall : CallSound C call) {ops : Array Oper} {s : St} {o : Oper} {r : Rec} {ι : Inj} {a : Act} {w : World} {Q : Exit → Act → World → Prop} (h : (evOp C call ops.toList s o).run = some r) (hs : SSim C ι s a w)
    {K : Act → World → Prop} (hK : ∀ ι' a' w', SSim C ι' ⟨putT s.tm o.dst r.e.v, appU s.m r.e.upd, r.e.nx⟩ a' w' → Prog s.nx (look s.m) ι w (look (appU s.m r.e.upd)) ι' w' → s.nx ≤ r.e.nx → K a' w') :
    if Region.wanted o (yielded ops a.tmps) then o.wp C.P a w K Q else K (a.put o.dst undef) w := by
  unfold evOp at h
  split at h
  · rename_i wb hw
    rw [want_sound hs hw]
    rw [Tree.run_ite] at h
    cases wb with
    | true =>
      simp only [if_true] at h ⊢
      rw [Tree.run_bind] at h
      cases he : (evEff C call (evO s.tm) s.m s.nx o.op).run with
      | none => rw [he] at h; cases h
      | some e =>
        rw [he] at h
        simp [Tree.run] at h
        subst h
        have hl : restrF s.m (foot (evO s.tm) s.m 1000 o.op) = restrM (look s.m) (foot (evO s.tm) s.m 1000 o.op) := rfl
        have := op_sound (Q := Q) hC hcall he hs.ev hs.dom (hs.mem.sub (fun b k hb => by unfold restrF at hb; split at hb; exact hb; cases hb))
        refine Oper.wp_mono ?_ this
        rintro a' w' ⟨x, rfl, hg⟩
        rw [hl] at hg
        obtain ⟨ι', p, hn, hd, hv, hm⟩ := good_merge hs.dom hs.mem hg
        have hlk : look (appU s.m e.upd) = updF (look s.m) e.upd := funext fun b => look_appU s.m e.upd b
        rw [← hlk] at hm p
        exact hK ι' _ w' (hs.put (fun b l hb => by rw [p.ext b (hs.dom b l hb)]; exact hb) hd hv hm o.dst) p hn
    | false =>
      simp only [Bool.false_eq_true, if_false] at h ⊢
      simp [Tree.run] at h
      subst h
      exact hK ι _ w (hs.put (fun _ _ h => h) hs.dom (show V.rel ι (.tuple []) undef from ⟨[], rfl, rfl⟩) hs.mem o.dst) (Prog.refl _ _ _ _) (Nat.le_refl _)
  · simp [Tree.run] at h

/-- A list of operations, in its order. -/
theorem evOps_sound {C : Cfg} (hC : C.Ok) {call : CallF} (hcall : CallSound C call) {ops : Array Oper} {Q : Exit → Act → World → Prop} : ∀ (rest : List Oper) (s : St) (recs : List Rec) (s' : St) (recs' : List Rec) (ι : Inj) (a : Act) (w : World),
    (evOps C call ops.toList rest s recs).run = some (s', recs') → SSim C ι s a w →
    (∀ ι' a' w', SSim C ι' s' a' w' → Prog s.nx (look s.m) ι w (look s'.m) ι' w' → s.nx ≤ s'.nx → Q .normal a' w') → wpList C.P ops Q rest a w
  | [], s, recs, s', recs', ι, a, w, h, hs, hQ => by
    simp [evOps, Tree.run] at h
    obtain ⟨rfl, rfl⟩ := h
    exact hQ ι a w hs (Prog.refl _ _ _ _) (Nat.le_refl _)
  | o :: rest, s, recs, s', recs', ι, a, w, h, hs, hQ => by
    simp only [evOps, splitL_run, Tree.run_bind] at h
    cases hr : (evOp C call ops.toList s o).run with
    | none => rw [hr] at h; cases h
    | some r =>
      rw [hr] at h
      simp only [Option.bind_some] at h
      refine wpList_step fun K hK => ?_
      refine evOp_sound hC hcall hr hs fun ι' a' w' hs' p hn => hK _ _ ?_
      exact evOps_sound hC hcall rest _ _ _ _ ι' a' w' h hs' fun ι2 a2 w2 hs2 p2 hn2 => hQ ι2 a2 w2 hs2 (p.trans hn p2) (Nat.le_trans hn hn2)

/-! ### What is in a place when some of the operations have been carried out -/
def cur {α : Type} : List (Option α) → (Nat → Bool) → Nat → α → α
  | [], _, _, x => x
  | w :: ws, S, i, x => cur ws S (i + 1) (if S i then w.getD x else x)
theorem cur_congr {α : Type} : ∀ (ws : List (Option α)) (S S' : Nat → Bool) (i : Nat) (x : α), (∀ k y, ws[k]? = some (some y) → S (i + k) = S' (i + k)) → cur ws S i x = cur ws S' i x
  | [], _, _, _, _, _ => rfl
  | w :: ws, S, S', i, x, h => by
    have e : (if S i then w.getD x else x) = (if S' i then w.getD x else x) := by
      cases w with
      | none => simp
      | some y => rw [show S i = S' i from h 0 y rfl]
    simp only [cur, e]
    exact cur_congr ws S S' (i + 1) _ fun k y hk => by
      have := h (k + 1) y (by simpa using hk)
      rwa [show i + (k + 1) = i + 1 + k by omega] at this
theorem cur_none {α : Type} : ∀ (ws : List (Option α)) (S : Nat → Bool) (i : Nat) (x : α), (∀ k, S (i + k) = false) → cur ws S i x = x
  | [], _, _, _, _ => rfl
  | w :: ws, S, i, x, h => by
    have : S i = false := h 0
    simp only [cur, this, Bool.false_eq_true, if_false]
    exact cur_none ws S (i + 1) x fun k => by rw [show i + 1 + k = i + (k + 1) by omega]; exact h (k + 1)
theorem cur_quiet {α : Type} : ∀ (ws : List (Option α)) (S : Nat → Bool) (i : Nat) (x : α), (∀ k y, ws[k]? = some (some y) → S (i + k) = false) → cur ws S i x = x
  | [], _, _, _, _ => rfl
  | w :: ws, S, i, x, h => by
    have e : (if S i then w.getD x else x) = x := by
      cases w with
      | none => simp
      | some y => rw [show S i = false from h 0 y rfl]; simp
    simp only [cur, e]
    exact cur_quiet ws S (i + 1) x fun k y hk => by
      have := h (k + 1) y (by simpa using hk)
      rwa [show i + (k + 1) = i + 1 + k by omega] at this
theorem cur_insert {α : Type} : ∀ (ws : List (Option α)) (S : Nat → Bool) (i k0 : Nat) (x y : α), S (i + k0) = true → ws[k0]? = some (some y) → (∀ k z, k0 < k → ws[k]? = some (some z) → S (i + k) = false) → cur ws S i x = y
  | [], _, _, _, _, _, _, h, _ => by simp at h
  | w :: ws, S, i, 0, x, y, hS, h, hl => by
    simp at h; subst h
    simp only [cur, show S i = true from hS, if_true, Option.getD_some]
    exact cur_quiet ws S (i + 1) y fun k z hk => by
      have := hl (k + 1) z (by omega) (by simpa using hk)
      rwa [show i + (k + 1) = i + 1 + k by omega] at this
  | w :: ws, S, i, k0 + 1, x, y, hS, h, hl => by
    simp only [cur]
    exact cur_insert ws S (i + 1) k0 _ y (by rwa [show i + 1 + k0 = i + (k0 + 1) by omega]) (by simpa using h) fun k z hk hz => by
      have := hl (k + 1) z (by omega) (by simpa using hz)
      rwa [show i + (k + 1) = i + 1 + k by omega] at this

def wsT (t N : Nat) : List Oper → List Rec → List (Option (Option V))
  | o :: os, r :: rs => (if o.dst = some t ∧ t < N then some (some r.e.v) else none) :: wsT t N os rs
  | _, _ => []
def wsM (b : Nat) : List Rec → List (Option (Option Blk))
  | [] => []
  | r :: rs => lookU r.e.upd b :: wsM b rs
theorem wsT_get (t N : Nat) : ∀ (os : List Oper) (rs : List Rec) (k : Nat) (o : Oper) (r : Rec), os[k]? = some o → rs[k]? = some r → (wsT t N os rs)[k]? = some (if o.dst = some t ∧ t < N then some (some r.e.v) else none)
  | [], _, _, _, _, h, _ => by simp at h
  | _ :: _, [], _, _, _, _, h => by simp at h
  | _ :: _, _ :: _, 0, _, _, h, k => by simp at h k; subst h k; rfl
  | _ :: os, _ :: rs, k + 1, o, r, h, g => by simpa [wsT] using wsT_get t N os rs k o r (by simpa using h) (by simpa using g)
theorem wsT_some (t N : Nat) : ∀ (os : List Oper) (rs : List Rec) (k : Nat) (y : Option V), (wsT t N os rs)[k]? = some (some y) → ∃ o r, os[k]? = some o ∧ rs[k]? = some r ∧ o.dst = some t
  | [], _, _, _, h => by simp [wsT] at h
  | _ :: _, [], _, _, h => by simp [wsT] at h
  | o :: _, r :: _, 0, y, h => by
    simp [wsT] at h
    exact ⟨o, r, rfl, rfl, h.1.1⟩
  | _ :: os, _ :: rs, k + 1, y, h => by simpa [wsT] using wsT_some t N os rs k y (by simpa [wsT] using h)
theorem wsM_get (b : Nat) : ∀ (rs : List Rec) (k : Nat), (wsM b rs)[k]? = (rs[k]?).map fun r => lookU r.e.upd b
  | [], k => by simp [wsM]
  | r :: rs, 0 => by simp [wsM]
  | r :: rs, k + 1 => by simpa [wsM] using wsM_get b rs k

def after (s : St) (o : Oper) (r : Rec) : St := ⟨putT s.tm o.dst r.e.v, appU s.m r.e.upd, r.e.nx⟩
def lexSt : List Oper → List Rec → St → Nat → St
  | _, _, s, 0 => s
  | o :: os, r :: rs, s, k + 1 => lexSt os rs (after s o r) k
  | _, _, s, _ + 1 => s
theorem putT_length (tm : Tm) (d : Option Tmp) (v : V) : (putT tm d v).length = tm.length := by cases d <;> simp [putT, setT_length]
theorem getT_putT (tm : Tm) (d : Option Tmp) (v : V) (t : Nat) : getT (putT tm d v) t = if d = some t ∧ t < tm.length then some v else getT tm t := by
  cases d with
  | none => simp [putT]
  | some d =>
    simp only [putT, getT_setT, Option.some.injEq]
    by_cases h : t = d
    · subst h; simp
    · simp [h, Ne.symm h]
theorem lexT (t N : Nat) : ∀ (os : List Oper) (rs : List Rec) (s : St) (k i : Nat), s.tm.length = N → getT (lexSt os rs s k).tm t = cur (wsT t N os rs) (fun j => decide (j < i + k)) i (getT s.tm t)
  | os, rs, s, 0, i, _ => by
    rw [cur_none]
    · cases os <;> rfl
    · intro k; simp
  | [], rs, s, k + 1, i, _ => by simp [lexSt, wsT, cur]
  | _ :: _, [], s, k + 1, i, _ => by simp [lexSt, wsT, cur]
  | o :: os, r :: rs, s, k + 1, i, hN => by
    simp only [lexSt, wsT, cur]
    rw [lexT t N os rs (after s o r) k (i + 1) (by simp [after, putT_length, hN])]
    simp only [after, getT_putT, hN]
    rw [if_pos (show decide (i < i + (k + 1)) = true by simp)]
    have e : (if o.dst = some t ∧ t < N then some r.e.v else getT s.tm t) = (if o.dst = some t ∧ t < N then some (some r.e.v) else none).getD (getT s.tm t) := by split <;> rfl
    rw [e, show i + 1 + k = i + (k + 1) by omega]
theorem lexM (b : Nat) : ∀ (os : List Oper) (rs : List Rec) (s : St) (k i : Nat), os.length = rs.length → look (lexSt os rs s k).m b = cur (wsM b rs) (fun j => decide (j < i + k)) i (look s.m b)
  | os, rs, s, 0, i, _ => by
    rw [cur_none]
    · cases os <;> rfl
    · intro k; simp
  | [], [], s, k + 1, i, _ => by simp [lexSt, wsM, cur]
  | [], _ :: _, s, k + 1, i, h => by simp at h
  | _ :: _, [], s, k + 1, i, h => by simp at h
  | o :: os, r :: rs, s, k + 1, i, h => by
    simp only [lexSt, wsM, cur]
    rw [lexM b os rs (after s o r) k (i + 1) (by simpa using h)]
    simp only [after, look_appU]
    rw [if_pos (show decide (i < i + (k + 1)) = true by simp), show i + 1 + k = i + (k + 1) by omega]
    cases lookU r.e.upd b <;> rfl

/-- The run of the evaluator over a list of operations, one by one. -/
theorem evOps_trace {C : Cfg} {call : CallF} {ops : List Oper} : ∀ (rest : List Oper) (s : St) (recs : List Rec) (s' : St) (recs' : List Rec), (evOps C call ops rest s recs).run = some (s', recs') →
    ∃ rs, recs' = recs ++ rs ∧ rs.length = rest.length ∧ s' = lexSt rest rs s rest.length ∧ ∀ k o r, rest[k]? = some o → rs[k]? = some r → (evOp C call ops (lexSt rest rs s k) o).run = some r
  | [], s, recs, s', recs', h => by
    simp [evOps, Tree.run] at h
    obtain ⟨rfl, rfl⟩ := h
    exact ⟨[], by simp, rfl, rfl, by simp⟩
  | o :: rest, s, recs, s', recs', h => by
    simp only [evOps, splitL_run, Tree.run_bind] at h
    cases hr : (evOp C call ops s o).run with
    | none => rw [hr] at h; cases h
    | some r =>
      rw [hr] at h
      simp only [Option.bind_some] at h
      obtain ⟨rs, h1, h2, h3, h4⟩ := evOps_trace rest _ _ _ _ h
      refine ⟨r :: rs, by simp [h1], by simp [h2], h3, ?_⟩
      intro k o' r' hk hk'
      cases k with
      | zero => simp at hk hk'; subst hk hk'; exact hr
      | succ k => exact h4 k o' r' (by simpa using hk) (by simpa using hk')

/-! ### Something comes of an operation -/
theorem oper_exists {P : Program} {o : Oper} {a : Act} {w : World} {K : Act → World → Prop} (h : o.wp P a w K (fun _ _ _ => False)) : ∃ a' w', K a' w' := by
  unfold Oper.wp at h
  generalize (execOp a.eval o).run P w = r at h
  cases r with
  | halt x w' => cases x <;> simp only [Oper.upon] at h
  | ok n w' =>
    cases n <;> simp only [Oper.upon] at h
    case value v => exact ⟨_, _, h⟩
    case skip => exact ⟨_, _, h⟩
    case defer d => exact ⟨_, _, h⟩
    case enter f args =>
      obtain ⟨e, w'', fr, hR, _⟩ := h []
      cases e with
      | returned v => exact ⟨_, _, hR⟩
      | panicked c => exact hR.elim
      | outgrown => obtain ⟨_, _, hh⟩ := hR; exact hh.elim
    case row row args =>
      obtain ⟨v, w'', hR, _⟩ := h default []
      exact ⟨_, _, hR⟩

theorem lex_exists {C : Cfg} (hC : C.Ok) {call : CallF} (hcall : CallSound C call) {ops : Array Oper} : ∀ (rest : List Oper) (rs : List Rec) (s : St) (ι : Inj) (a : Act) (w : World), rs.length = rest.length → SSim C ι s a w →
    (∀ k o r, rest[k]? = some o → rs[k]? = some r → (evOp C call ops.toList (lexSt rest rs s k) o).run = some r) → ∀ k, k ≤ rest.length → (∃ ι' a' w', SSim C ι' (lexSt rest rs s k) a' w') ∧ ∀ j, j ≤ k → (lexSt rest rs s j).nx ≤ (lexSt rest rs s k).nx
  | rest, rs, s, ι, a, w, hl, hs, h, 0, _ => by
    have e : lexSt rest rs s 0 = s := by cases rest <;> rfl
    rw [e]
    exact ⟨⟨ι, a, w, hs⟩, fun j hj => by obtain rfl : j = 0 := by omega
                                         rw [e]; exact Nat.le_refl _⟩
  | [], rs, s, ι, a, w, hl, hs, h, k + 1, hk => by simp at hk
  | _ :: _, [], s, ι, a, w, hl, hs, h, k + 1, hk => by simp at hl
  | o :: rest, r :: rs, s, ι, a, w, hl, hs, h, k + 1, hk => by
    have hr := h 0 o r rfl rfl
    have hx : ∃ ι' a' w', SSim C ι' (after s o r) a' w' ∧ s.nx ≤ (after s o r).nx := by
      have hop := evOp_sound (Q := fun _ _ _ => False) hC hcall hr hs (K := fun a' w' => ∃ ι', SSim C ι' (after s o r) a' w' ∧ s.nx ≤ (after s o r).nx) (fun ι' a' w' h1 _ h3 => ⟨ι', h1, h3⟩)
      split at hop
      · obtain ⟨a', w', ι', h1, h2⟩ := oper_exists hop
        exact ⟨ι', a', w', h1, h2⟩
      · obtain ⟨ι', h1, h2⟩ := hop
        exact ⟨ι', _, _, h1, h2⟩
    obtain ⟨ι', a', w', h1, h2⟩ := hx
    obtain ⟨g1, g2⟩ := lex_exists hC hcall rest rs (after s o r) ι' a' w' (by simpa using hl) h1 (fun k o' r' hk hk' => h (k + 1) o' r' (by simpa using hk) (by simpa using hk')) k (by simpa using hk)
    refine ⟨g1, fun j hj => ?_⟩
    cases j with
    | zero =>
      have := g2 0 (Nat.zero_le _)
      have e : lexSt rest rs (after s o r) 0 = after s o r := by cases rest <;> rfl
      rw [e] at this
      exact Nat.le_trans h2 this
    | succ j => exact g2 j (by omega)

theorem evL_congr {ev ev' : Operand → Option V} : ∀ {xs : List Operand}, (∀ x ∈ xs, ev x = ev' x) → evL ev xs = evL ev' xs
  | [], _ => rfl
  | x :: xs, h => by simp only [evL, h x (by simp), evL_congr (xs := xs) (fun y hy => h y (by simp [hy]))]
theorem partsV_congr {ev ev' : Operand → Option V} : ∀ {ps : List (Nat × Operand)}, (∀ p ∈ ps, ev p.2 = ev' p.2) → partsV ev ps = partsV ev' ps
  | [], _ => rfl
  | (i, x) :: ps, h => by
    have h1 : ev x = ev' x := h (i, x) (by simp)
    simp only [partsV, h1, partsV_congr (ps := ps) (fun y hy => h y (by simp [hy]))]
theorem optV_congr {ev ev' : Operand → Option V} {o : Option Operand} (h : ∀ x ∈ o.toArray, ev x = ev' x) : optV ev o = optV ev' o := by
  cases o with
  | none => rfl
  | some x => simp only [optV, h x (by simp)]

theorem evEff_congr {C : Cfg} {call : CallF} {ev ev' : Operand → Option V} {m : Mem} {nx : Nat} {op : Op} (h : ∀ x ∈ op.operands, ev x = ev' x) : evEff C call ev m nx op = evEff C call ev' m nx op ∧ foot ev m 1000 op = foot ev' m 1000 op := by
  cases op <;> simp only [Op.operands] at h <;> simp only [evEff, foot, and_true] <;> (try rfl)
  case pick c a b => rw [h c (by simp), h a (by simp), h b (by simp)]
  case build t ps => rw [partsV_congr (ev := ev) (ev' := ev') (fun p hp => h p.2 (by simpa using ⟨p.1, Array.mem_toList_iff.mp hp⟩))]
  case buildSlice t n ps => rw [partsV_congr (ev := ev) (ev' := ev') (fun p hp => h p.2 (by simpa using ⟨p.1, Array.mem_toList_iff.mp hp⟩))]
  case makeFunc fn first caps => rw [evL_congr (ev := ev) (ev' := ev') (fun x hx => h x (by simp only [Array.mem_append]; right; simpa using hx))]
  case slice t x lo hi mx =>
    rw [h x (by simp), optV_congr (ev := ev) (ev' := ev') (o := lo) (fun y hy => h y (by simp only [Array.mem_append]; left; left; right; exact hy)), optV_congr (ev := ev) (ev' := ev') (o := hi) (fun y hy => h y (by simp only [Array.mem_append]; left; right; exact hy))]
  case call c =>
    obtain ⟨callee, args, ts⟩ := c
    have ha : evL ev args.toList = evL ev' args.toList := evL_congr fun x hx => h x (by simp only [Call.operands, Array.mem_append]; right; simpa using hx)
    cases callee with
    | value f =>
      have hf : ev f = ev' f := h f (by simp [Call.operands])
      simp only [ha, hf]; exact ⟨trivial, trivial⟩
    | builtin b => cases b <;> simp only [ha] <;> exact ⟨trivial, trivial⟩
    | invoke r n => exact ⟨rfl, rfl⟩
  all_goals first
    | (rw [h _ (by simp)]; done)
    | (rw [h _ (by simp)]; exact ⟨rfl, rfl⟩)
    | (rename_i x y; rw [h x (by simp), h y (by simp)]; done)
    | (rename_i x y; rw [h x (by simp), h y (by simp)]; exact ⟨rfl, rfl⟩)
    | (rename_i x y z; rw [h x (by simp), h y (by simp)]; done)
    | (rename_i x y z; rw [h y (by simp), h z (by simp)]; done)
    | (rename_i x y z u; rw [h y (by simp), h z (by simp)]; done)
    | skip

/-! ### What the checks say -/
theorem maskAt_get : ∀ (ms : List Nat) (i : Nat), maskAt ms i = (ms[i]?).getD 0
  | [], i => by simp [maskAt]
  | x :: xs, 0 => rfl
  | x :: xs, i + 1 => by simp [maskAt, maskAt_get xs i]
theorem maskE_bit {ms : List Nat} {j : Nat} : ∀ {es : List Edge}, (maskE ms es).testBit j = true → ∃ e ∈ es, Region.binds .any e = true ∧ (j = e.on ∨ (maskAt ms e.on).testBit j = true)
  | [], h => by simp [maskE] at h
  | e :: es, h => by
    simp only [maskE] at h
    cases hb : Region.binds .any e with
    | false =>
      rw [hb] at h
      obtain ⟨e', h1, h2⟩ := maskE_bit (es := es) h
      exact ⟨e', by simp [h1], h2⟩
    | true =>
      rw [hb] at h
      simp only [cond_true, Nat.testBit_or, Bool.or_eq_true, Nat.testBit_two_pow] at h
      rcases h with (h | h) | h
      · exact ⟨e, by simp, hb, .inl (by simp at h; exact h.symm)⟩
      · exact ⟨e, by simp, hb, .inr h⟩
      · obtain ⟨e', h1, h2⟩ := maskE_bit (es := es) h
        exact ⟨e', by simp [h1], h2⟩
theorem masksOk_spec {ms : List Nat} : ∀ {l : List Oper} {i0 : Nat}, masksOk ms l i0 = true → ∀ k o, l[k]? = some o → maskAt ms (i0 + k) = maskE ms o.after.toList ∧ ∀ e ∈ o.after.toList, Region.binds .any e = true → e.on < i0 + k
  | [], _, _, k, o, h => by simp at h
  | x :: xs, i0, h, 0, o, hk => by
    simp at hk; subst hk
    simp only [masksOk, Bool.and_eq_true, List.all_eq_true, Bool.or_eq_true, Bool.not_eq_true'] at h
    refine ⟨Nat.eq_of_beq_eq_true h.1.1, fun e he hb => ?_⟩
    rcases h.1.2 e he with h' | h'
    · rw [hb] at h'; cases h'
    · exact Nat.blt_eq.mp h'
  | x :: xs, i0, h, k + 1, o, hk => by
    simp only [masksOk, Bool.and_eq_true] at h
    have := masksOk_spec h.2 k o (by simpa using hk)
    rwa [show i0 + 1 + k = i0 + (k + 1) by omega] at this
theorem indepOne_spec {ops : List Oper} {ms : List Nat} {i : Nat} {o : Oper} {r : Rec} : ∀ {ps : List Oper} {qs : List Rec} {j0 : Nat}, indepOne ops ms i o r ps qs j0 = true → ∀ k p q, ps[k]? = some p → qs[k]? = some q →
    (maskAt ms (j0 + k)).testBit i = true ∨ (apartT ops o p = true ∧ apartM r q = true)
  | [], [], _, _, k, p, q, h, _ => by simp at h
  | [], _ :: _, _, h, _, _, _, _, _ => by simp [indepOne] at h
  | _ :: _, [], _, h, _, _, _, _, _ => by simp [indepOne] at h
  | x :: xs, y :: ys, j0, h, 0, p, q, hp, hq => by
    simp at hp hq; subst hp hq
    simp only [indepOne, Bool.and_eq_true, Bool.or_eq_true] at h
    exact h.1
  | x :: xs, y :: ys, j0, h, k + 1, p, q, hp, hq => by
    simp only [indepOne, Bool.and_eq_true] at h
    have := indepOne_spec h.2 k p q (by simpa using hp) (by simpa using hq)
    rwa [show j0 + 1 + k = j0 + (k + 1) by omega] at this
theorem indepAll_spec {ops : List Oper} {ms : List Nat} : ∀ {ps : List Oper} {qs : List Rec} {i0 : Nat}, indepAll ops ms ps qs i0 = true → ∀ i o r, ps[i]? = some o → qs[i]? = some r → recOk r = true ∧
    ∀ j p q, i < j → ps[j]? = some p → qs[j]? = some q → (maskAt ms (i0 + j)).testBit (i0 + i) = true ∨ (apartT ops o p = true ∧ apartM r q = true)
  | [], [], _, _, i, o, r, h, _ => by simp at h
  | [], _ :: _, _, h, _, _, _, _, _ => by simp [indepAll] at h
  | _ :: _, [], _, h, _, _, _, _, _ => by simp [indepAll] at h
  | x :: xs, y :: ys, i0, h, 0, o, r, ho, hr => by
    simp at ho hr; subst ho hr
    simp only [indepAll, Bool.and_eq_true] at h
    refine ⟨h.1.1, fun j p q hj hp hq => ?_⟩
    obtain ⟨j, rfl⟩ : ∃ j', j = j' + 1 := ⟨j - 1, by omega⟩
    have := indepOne_spec h.1.2 j p q (by simpa using hp) (by simpa using hq)
    rwa [show i0 + 1 + j = i0 + (j + 1) by omega] at this
  | x :: xs, y :: ys, i0, h, i + 1, o, r, ho, hr => by
    simp only [indepAll, Bool.and_eq_true] at h
    obtain ⟨h1, h2⟩ := indepAll_spec h.2 i o r (by simpa using ho) (by simpa using hr)
    refine ⟨h1, fun j p q hj hp hq => ?_⟩
    obtain ⟨j, rfl⟩ : ∃ j', j = j' + 1 := ⟨j - 1, by omega⟩
    have := h2 j p q (by omega) (by simpa using hp) (by simpa using hq)
    rwa [show i0 + 1 + j = i0 + (j + 1) by omega, show i0 + 1 + i = i0 + (i + 1) by omega] at this
theorem dstIn_iff {d : Option Tmp} {l : List Tmp} : dstIn d l = true ↔ ∃ t, d = some t ∧ t ∈ l := by
  cases d with
  | none => simp [dstIn]
  | some t => simp [dstIn, memN_iff]
theorem apartT_spec {ops : List Oper} {x y : Oper} (h : apartT ops x y = true) : (∀ t, x.dst = some t → t ∉ looks ops y) ∧ (∀ t, y.dst = some t → t ∉ looks ops x) ∧ (∀ t, x.dst = some t → y.dst ≠ some t) := by
  simp only [apartT, Bool.and_eq_true, Bool.not_eq_true'] at h
  refine ⟨fun t ht hm => ?_, fun t ht hm => ?_, fun t ht hy => ?_⟩
  · have := dstIn_iff.mpr ⟨t, ht, hm⟩; rw [h.1.1] at this; cases this
  · have := dstIn_iff.mpr ⟨t, ht, hm⟩; rw [h.1.2] at this; cases this
  · have h3 := h.2
    rw [ht, hy] at h3
    simp at h3
theorem disj_spec : ∀ {xs ys : List Nat}, disj xs ys = true → ∀ b, b ∈ xs → b ∉ ys
  | [], _, _, b, h => by simp at h
  | x :: xs, ys, h, b, hb => by
    simp only [disj, Bool.and_eq_true, Bool.not_eq_true'] at h
    rcases List.mem_cons.mp hb with rfl | hb
    · intro hy; have := memN_iff.mpr hy; rw [h.1] at this; cases this
    · exact disj_spec h.2 b hb
theorem notIn_spec {a n : Nat} : ∀ {l : List Nat}, notIn a n l = true → ∀ b ∈ l, ¬ (a ≤ b ∧ b < n)
  | [], _, b, h => by simp at h
  | x :: xs, h, b, hb => by
    simp only [notIn, Bool.and_eq_true, Bool.not_eq_true', Bool.and_eq_false_iff] at h
    rcases List.mem_cons.mp hb with rfl | hb
    · rintro ⟨h1, h2⟩
      rcases h.1 with h' | h'
      · rw [Nat.ble_eq_true_of_le h1] at h'; cases h'
      · have := Nat.blt_eq.mpr h2; rw [h'] at this; cases this
    · exact notIn_spec h.2 b hb
theorem below_spec {n : Nat} : ∀ {l : List Nat}, below n l = true → ∀ b ∈ l, b < n
  | [], _, b, h => by simp at h
  | x :: xs, h, b, hb => by
    simp only [below, Bool.and_eq_true] at h
    rcases List.mem_cons.mp hb with rfl | hb
    · exact Nat.blt_eq.mp h.1
    · exact below_spec h.2 b hb
theorem keysBelow_spec {n : Nat} : ∀ {us : Upd}, keysBelow n us = true → ∀ b u, lookU us b = some u → b < n
  | [], _, b, u, h => by simp [lookU] at h
  | (i, k) :: us, h, b, u, hb => by
    simp only [keysBelow, Bool.and_eq_true] at h
    simp only [lookU] at hb
    by_cases hi : i = b
    · subst hi; exact Nat.blt_eq.mp h.1
    · rw [beqF hi] at hb; exact keysBelow_spec h.2 b u hb
theorem keysU_mem {n : Nat} : ∀ {us : Upd} {b : Nat} {u : Option Blk}, lookU us b = some u → b < n → b ∈ keysU n us
  | [], b, u, h, _ => by simp [lookU] at h
  | (i, k) :: us, b, u, hb, hn => by
    simp only [lookU] at hb
    simp only [keysU]
    by_cases hi : i = b
    · subst hi; rw [Nat.blt_eq.mpr hn]; simp
    · rw [beqF hi] at hb
      have := keysU_mem (us := us) hb hn
      cases Nat.blt i n <;> simp [this]

theorem want_sound' {ι : Inj} {tm : Tm} {a : Act} {ops : Array Oper} {o : Oper} (hT : ∀ t ∈ looks ops.toList o, ∀ v, getT tm t = some v → ∃ x, a.tmps[t]? = some x ∧ v.rel ι x) {b : Bool} (hw : wantT ops.toList tm o = some b) : Region.wanted o (yielded ops a.tmps) = b := by
  unfold wantT at hw
  unfold Region.wanted
  split at hw
  · rename_i hg; rw [hg]; exact Option.some.inj hw
  · rename_i j want hg
    rw [hg]
    simp only
    split at hw
    · rename_i oj hj
      have hj0 := hj
      rw [nthO_get] at hj
      have hj' : ops[j]? = some oj := by simpa using hj
      split at hw
      · rename_i d hd
        have hlk : d ∈ looks ops.toList o := by
          unfold looks
          rw [hg]
          simp only [hj0, hd]
          simp
        split at hw
        · rename_i c hc
          obtain rfl := Option.some.inj hw
          obtain ⟨x, h1, h2⟩ := hT d hlk _ hc
          have h2' : x = .bool c := h2
          subst h2'
          simp only [yielded, hj', Option.bind_some, hd, h1]
          cases c <;> cases want <;> rfl
        · rename_i hc
          obtain rfl := Option.some.inj hw
          obtain ⟨x, h1, ys, rfl, h2⟩ := hT d hlk _ hc
          simp only [yielded, hj', Option.bind_some, hd, h1]
          rfl
        · cases hw
      · cases hw
    · cases hw

/-- Sim, the numbers from n on left out. -/
def cutI (ι : Inj) (n : Nat) : Inj := fun b => if b < n then ι b else none
theorem Sim.cut {C : Cfg} {ι : Inj} {M : MemF} {w : World} {n : Nat} (h : Sim C ι M w) (hb : ∀ b k, M b = some k → b < n ∧ V.underL n k.cells = true) : Sim C (cutI ι n) M w := by
  have he : ∀ b, b < n → ι b = cutI ι n b := fun b hb => by simp [cutI, hb]
  refine ⟨h.glob, fun b k hk => ?_, fun b b' k k' l l' h1 h2 h3 h4 h5 h6 => ?_, fun b k l h1 h2 h3 => ?_⟩
  · obtain ⟨l, g1, pre, xs, ys, zs, fr, g2, g3, g4, g5⟩ := h.blk b k hk
    obtain ⟨q1, q2⟩ := hb b k hk
    exact ⟨l, by rw [← he b q1]; exact g1, pre, xs, ys, zs, fr, g2, g3, relL_under he _ _ q2 g4, g5⟩
  · rw [← he b (hb b k h1).1] at h4
    rw [← he b' (hb b' k' h3).1] at h5
    exact h.inj b b' k k' l l' h1 h2 h3 h4 h5 h6
  · rw [← he b (hb b k h1).1] at h3
    exact h.gsep b k l h1 h2 h3
theorem Sim.ext {C : Cfg} {ι ι' : Inj} {M : MemF} {w : World} (h : Sim C ι M w) (he : ∀ b l, ι b = some l → ι' b = some l) : Sim C ι' M w := by
  have hb : ∀ b k l, M b = some k → ι' b = some l → ι b = some l := fun b k l hk hl => by
    obtain ⟨l0, g1, _⟩ := h.blk b k hk
    have := he b l0 g1
    rw [hl] at this
    obtain rfl := Option.some.inj this
    exact g1
  exact ⟨h.glob, fun b k hk => let ⟨l, g1, g2⟩ := h.blk b k hk; ⟨l, he b l g1, g2.mono he rfl⟩, fun b b' k k' l l' h1 h2 h3 h4 h5 => h.inj b b' k k' l l' h1 h2 h3 (hb b k l h1 h4) (hb b' k' l' h3 h5), fun b k l h1 h2 h3 => h.gsep b k l h1 h2 (hb b k l h1 h3)⟩

theorem under_of_ssim {C : Cfg} {ι : Inj} {s : St} {a : Act} {w : World} (h : SSim C ι s a w) : (∀ t v, getT s.tm t = some v → v.under s.nx = true) ∧ ∀ b k, look s.m b = some k → b < s.nx ∧ V.underL s.nx k.cells = true := by
  refine ⟨fun t v hv => let ⟨x, h1, h2⟩ := h.tms t v hv; under_rel h.dom v x h2, fun b k hk => ?_⟩
  obtain ⟨l, g1, pre, xs, ys, zs, fr, g2, g3, g4, g5⟩ := h.mem.blk b k hk
  exact ⟨h.dom b l g1, underL_rel h.dom _ _ g4⟩

section
variable {C : Cfg} {call : CallF} {ops : Array Oper} {rs : List Rec} {s : St} {ι0 : Inj} {w0 : World}

/-- What is true when some of the operations have been carried out. -/
structure RInv (C : Cfg) (ops : Array Oper) (rs : List Rec) (s : St) (ι0 : Inj) (w0 : World) (listed : Array Bool) (ι : Inj) (a : Act) (w : World) : Prop where
  size : listed.size = ops.size
  closed : ∀ i o, ops.toList[i]? = some o → listed.getD i true = true → ∀ e ∈ o.after.toList, Region.binds .any e = true → listed.getD e.on true = true
  tms : ∀ t v, cur (wsT t s.tm.length ops.toList rs) (fun i => listed.getD i true) 0 (getT s.tm t) = some v → ∃ x, a.tmps[t]? = some x ∧ v.rel ι x
  len : s.tm.length ≤ a.tmps.size
  defs : a.defers = []
  dom : ∀ b l, ι b = some l → b < s.nx ∨ ∃ i r, i < ops.size ∧ listed.getD i true = true ∧ rs[i]? = some r ∧ r.a ≤ b ∧ b < r.e.nx
  prog : Prog s.nx (look s.m) ι0 w0 (fun b => cur (wsM b rs) (fun i => listed.getD i true) 0 (look s.m b)) ι w
  mem : Sim C ι (fun b => cur (wsM b rs) (fun i => listed.getD i true) 0 (look s.m b)) w

theorem getT_lt : ∀ {tm : Tm} {t : Nat} {u : V}, getT tm t = some u → t < tm.length
  | [], t, u, h => by simp [getT] at h
  | y :: ys, 0, u, _ => by simp
  | y :: ys, t + 1, u, h => by simp [getT] at h; simpa using getT_lt h
theorem cur_wsT_lt {t N : Nat} {os : List Oper} {rs : List Rec} {S : Nat → Bool} {tm : Tm} {v : V} (hN : tm.length = N) (h : cur (wsT t N os rs) S 0 (getT tm t) = some v) : t < N := by
  rcases Nat.lt_or_ge t N with h' | h'
  · exact h'
  · exfalso
    have hg : getT tm t = none := by
      cases hh : getT tm t with
      | none => rfl
      | some u => have := getT_lt hh; omega
    have : ∀ (os : List Oper) (rs : List Rec) (i : Nat), cur (wsT t N os rs) S i (none : Option V) = none := by
      intro os
      induction os with
      | nil => intro rs i; simp [wsT, cur]
      | cons o os ih =>
        intro rs i
        cases rs with
        | nil => simp [wsT, cur]
        | cons r rs =>
          simp only [wsT, cur, show ¬ (o.dst = some t ∧ t < N) from by rintro ⟨_, h⟩; omega, if_false, Option.getD_none, ite_self]
          exact ih rs (i + 1)
    rw [hg, this] at h
    cases h

theorem step_region (hC : C.Ok) (hcall : CallSound C call) (hlen : rs.length = ops.toList.length)
    (htr : ∀ k o r, ops.toList[k]? = some o → rs[k]? = some r → (evOp C call ops.toList (lexSt ops.toList rs s k) o).run = some r)
    (hlex : ∀ k, k ≤ ops.toList.length → (∃ ι' a' w', SSim C ι' (lexSt ops.toList rs s k) a' w') ∧ ∀ j, j ≤ k → (lexSt ops.toList rs s j).nx ≤ (lexSt ops.toList rs s k).nx)
    {ms : List Nat} (hms : masksOk ms ops.toList 0 = true) (hind : indepAll ops.toList ms ops.toList rs 0 = true) {listed : Array Bool} {ι : Inj} {a : Act} {w : World} (inv : RInv C ops rs s ι0 w0 listed ι a w)
    {i : Nat} (hi : i ∈ Region.ready .any ops listed) {Q : Exit → Act → World → Prop} {K : Act → World → Prop} (hK : ∀ ι' a' w', RInv C ops rs s ι0 w0 (listed.setIfInBounds i true) ι' a' w' → K a' w') : wpOp C.P ops Q i K a w := by
  obtain ⟨hun, o, ho, hdeps⟩ := mem_ready.1 hi
  have hoL : ops.toList[i]? = some o := by simpa using ho
  have hin : i < ops.toList.length := by
    rcases Nat.lt_or_ge i ops.toList.length with h | h
    · exact h
    · rw [List.getElem?_eq_none h] at hoL; cases hoL
  have hin' : i < ops.size := by simpa using hin
  obtain ⟨r, hr⟩ : ∃ r, rs[i]? = some r := by
    rw [← hlen] at hin
    exact ⟨rs[i], List.getElem?_eq_getElem hin⟩
  have hev0 := htr i o r hoL hr
  -- ancestors have been carried out
  have hanc : ∀ j o', ops.toList[j]? = some o' → (∀ e ∈ o'.after.toList, Region.binds .any e = true → listed.getD e.on true = true) → ∀ q, (maskAt ms j).testBit q = true → listed.getD q true = true := by
    intro j
    induction j using Nat.strongRecOn with
    | _ j ih =>
      intro o' ho' hd q hq
      obtain ⟨h1, h2⟩ := masksOk_spec hms j o' ho'
      simp only [Nat.zero_add] at h1 h2
      rw [h1] at hq
      obtain ⟨e, he, hb, hq⟩ := maskE_bit hq
      have hlt := h2 e he hb
      have hl := hd e he hb
      rcases hq with rfl | hq
      · exact hl
      · have hjn : j < ops.toList.length := by
          rcases Nat.lt_or_ge j ops.toList.length with h | h
          · exact h
          · rw [List.getElem?_eq_none h] at ho'; cases ho'
        have hen : e.on < ops.toList.length := by omega
        exact ih e.on hlt ops.toList[e.on] (List.getElem?_eq_getElem hen) (inv.closed e.on _ (List.getElem?_eq_getElem hen) hl) q hq
  have hnone : ∀ j, listed.getD j false = true → listed.getD j true = true := by
    intro j h
    rcases Nat.lt_or_ge j listed.size with h' | h'
    · simp [h'] at h ⊢; exact h
    · simp [Array.getElem?_eq_none h'] at h
  have hdeps' : ∀ e ∈ o.after.toList, Region.binds .any e = true → listed.getD e.on true = true := fun e he hb => hnone _ (hdeps e (by simpa using he) hb)
  -- the operations that have not been carried out and stand ahead are apart, and so are those that have been and stand behind
  have hpast : ∀ (k : Nat) (p : Oper) (q : Rec), k < i → listed.getD k true = false → ops.toList[k]? = some p → rs[k]? = some q → apartT ops.toList p o = true ∧ apartM q r = true := by
    intro k p q hk hS hp hq
    have := (indepAll_spec hind k p q hp hq).2 i o r hk hoL hr
    simp only [Nat.zero_add] at this
    rcases this with h | h
    · have := hanc i o hoL hdeps' k h; rw [hS] at this; cases this
    · exact h
  have hfut : ∀ (k : Nat) (p : Oper) (q : Rec), i < k → listed.getD k true = true → ops.toList[k]? = some p → rs[k]? = some q → apartT ops.toList o p = true ∧ apartM r q = true := by
    intro k p q hk hS hp hq
    have := (indepAll_spec hind i o r hoL hr).2 k p q hk hp hq
    simp only [Nat.zero_add] at this
    rcases this with h | h
    · have := hanc k p hp (inv.closed k p hp hS) i h
      have hun' : listed.getD i true = false := hun
      rw [hun'] at this; cases this
    · exact h
  have hrok : ∀ (k : Nat) (q : Rec), rs[k]? = some q → recOk q = true := fun k q hq => by
    have hk : k < ops.toList.length := by
      rw [← hlen]
      rcases Nat.lt_or_ge k rs.length with h | h
      · exact h
      · rw [List.getElem?_eq_none h] at hq; cases hq
    exact (indepAll_spec hind k _ q (List.getElem?_eq_getElem hk) hq).1
  -- the numbers
  have hra : ∀ (k : Nat) (p : Oper) (q : Rec), ops.toList[k]? = some p → rs[k]? = some q → q.a = (lexSt ops.toList rs s k).nx ∧ q.e.nx = (lexSt ops.toList rs s (k + 1)).nx := by
    intro k p q hp hq
    have h := htr k p q hp hq
    have ha : q.a = (lexSt ops.toList rs s k).nx := by
      unfold evOp at h
      split at h
      · rw [Tree.run_ite] at h
        split at h
        · rw [Tree.run_bind] at h
          cases he : (evEff C call (evO (lexSt ops.toList rs s k).tm) (lexSt ops.toList rs s k).m (lexSt ops.toList rs s k).nx p.op).run with
          | none => rw [he] at h; cases h
          | some e => rw [he] at h; simp [Tree.run] at h; subst h; rfl
        · simp [Tree.run] at h; subst h; rfl
      · simp [Tree.run] at h
    refine ⟨ha, ?_⟩
    have key : ∀ (os : List Oper) (rs : List Rec) (s : St) (k : Nat), os[k]? = some p → rs[k]? = some q → (lexSt os rs s (k + 1)).nx = q.e.nx := by
      intro os
      induction os with
      | nil => intro rs s k h; simp at h
      | cons x xs ih =>
        intro rs s k h1 h2
        cases rs with
        | nil => simp at h2
        | cons y ys =>
          cases k with
          | zero =>
            simp at h1 h2; subst h1 h2
            simp only [lexSt]
            cases xs <;> simp [lexSt, after]
          | succ k => simpa [lexSt] using ih ys (after s x y) k (by simpa using h1) (by simpa using h2)
    exact (key ops.toList rs s k hp hq).symm
  have hmono : ∀ (k : Nat) (p : Oper) (q : Rec) (k' : Nat) (p' : Oper) (q' : Rec), k < k' → ops.toList[k]? = some p → rs[k]? = some q → ops.toList[k']? = some p' → rs[k']? = some q' → q.e.nx ≤ q'.a := by
    intro k p q k' p' q' hk hp hq hp' hq'
    rw [(hra k p q hp hq).2, (hra k' p' q' hp' hq').1]
    have : k' < ops.toList.length := by
      rcases Nat.lt_or_ge k' ops.toList.length with h | h
      · exact h
      · rw [List.getElem?_eq_none h] at hp'; cases hp'
    exact (hlex k' (by omega)).2 (k + 1) (by omega)
  have hanx : r.a ≤ r.e.nx := by
    rw [(hra i o r hoL hr).1, (hra i o r hoL hr).2]
    exact (hlex (i + 1) (by omega)).2 i (by omega)
  have hs0 : s.nx ≤ r.a := by
    rw [(hra i o r hoL hr).1]
    have := (hlex i (by omega)).2 0 (by omega)
    have e0 : lexSt ops.toList rs s 0 = s := by cases ops.toList <;> rfl
    rwa [e0] at this
  -- temporaries that are looked at hold what they held in the order of the text
  have hlexT : ∀ t, getT (lexSt ops.toList rs s i).tm t = cur (wsT t s.tm.length ops.toList rs) (fun j => decide (j < 0 + i)) 0 (getT s.tm t) := fun t => lexT t _ _ _ _ i 0 rfl
  have hlexM : ∀ b, look (lexSt ops.toList rs s i).m b = cur (wsM b rs) (fun j => decide (j < 0 + i)) 0 (look s.m b) := fun b => lexM b _ _ _ i 0 hlen.symm
  have hrec : ∀ (k : Nat) (p : Oper), ops.toList[k]? = some p → ∃ q : Rec, rs[k]? = some q := fun k p hp => by
    have : k < rs.length := by
      rw [hlen]
      rcases Nat.lt_or_ge k ops.toList.length with h | h
      · exact h
      · rw [List.getElem?_eq_none h] at hp; cases hp
    exact ⟨_, List.getElem?_eq_getElem this⟩
  have hopr : ∀ (k : Nat) (q : Rec), rs[k]? = some q → ∃ p : Oper, ops.toList[k]? = some p := fun k q hq => by
    have : k < ops.toList.length := by
      rw [← hlen]
      rcases Nat.lt_or_ge k rs.length with h | h
      · exact h
      · rw [List.getElem?_eq_none h] at hq; cases hq
    exact ⟨_, List.getElem?_eq_getElem this⟩
  have hT : ∀ t ∈ looks ops.toList o, cur (wsT t s.tm.length ops.toList rs) (fun i => listed.getD i true) 0 (getT s.tm t) = getT (lexSt ops.toList rs s i).tm t := by
    intro t ht
    rw [hlexT]
    apply cur_congr
    intro k y hy
    obtain ⟨p, q, hp, hq, hd⟩ := wsT_some _ _ _ _ _ _ hy
    simp only [Nat.zero_add]
    rcases Nat.lt_trichotomy k i with h | h | h
    · rw [decide_eq_true h]
      cases hS : listed.getD k true with
      | true => rfl
      | false => exact absurd ht ((apartT_spec (hpast k p q h hS hp hq).1).1 t hd)
    · subst h; rw [show listed.getD k true = false from hun]; simp
    · rw [decide_eq_false (by omega)]
      cases hS : listed.getD k true with
      | false => rfl
      | true => exact absurd ht ((apartT_spec (hfut k p q h hS hp hq).1).2.1 t hd)
  -- a key of an operation: old or its own
  have hkey : ∀ (k : Nat) (p : Oper) (q : Rec) (b : Nat) (u : Option Blk), ops.toList[k]? = some p → rs[k]? = some q → lookU q.e.upd b = some u → b ∈ keysU q.a q.e.upd ∨ (q.a ≤ b ∧ b < q.e.nx) := by
    intro k p q b u hp hq hu
    rcases Nat.lt_or_ge b q.a with h | h
    · exact .inl (keysU_mem hu h)
    · have := hrok k q hq
      simp only [recOk, Bool.and_eq_true] at this
      exact .inr ⟨h, keysBelow_spec this.2 b u hu⟩
  have hMR : ∀ b ∈ r.R, cur (wsM b rs) (fun i => listed.getD i true) 0 (look s.m b) = look (lexSt ops.toList rs s i).m b := by
    intro b hb
    have hba : b < r.a := by
      have := hrok i r hr
      simp only [recOk, Bool.and_eq_true] at this
      exact below_spec this.1 b hb
    rw [hlexM]
    apply cur_congr
    intro k y hy
    rw [wsM_get] at hy
    cases hq : rs[k]? with
    | none => rw [hq] at hy; cases hy
    | some q =>
      rw [hq] at hy
      simp at hy
      obtain ⟨p, hp⟩ := hopr k q hq
      simp only [Nat.zero_add]
      rcases Nat.lt_trichotomy k i with h | h | h
      · rw [decide_eq_true h]
        cases hS : listed.getD k true with
        | true => rfl
        | false =>
          have hm := (hpast k p q h hS hp hq).2
          simp only [apartM, Bool.and_eq_true] at hm
          rcases hkey k p q b y hp hq hy with h' | h'
          · exact absurd hb (disj_spec hm.1.1.1.1 b h')
          · exact absurd h' (notIn_spec hm.1.2 b hb)
      · subst h; rw [show listed.getD k true = false from hun]; simp
      · rw [decide_eq_false (by omega)]
        cases hS : listed.getD k true with
        | false => rfl
        | true =>
          have hm := (hfut k p q h hS hp hq).2
          simp only [apartM, Bool.and_eq_true] at hm
          rcases hkey k p q b y hp hq hy with h' | h'
          · exact absurd hb (disj_spec hm.1.1.1.2 b h')
          · have := hmono i o r k p q h hoL hr hp hq; omega
  -- later operations that have been carried out do not write what this one writes
  have hMW : ∀ b u, lookU r.e.upd b = some u → ∀ k z, i < k → (wsM b rs)[k]? = some (some z) → listed.getD k true = false := by
    intro b u hu k z hk hz
    rw [wsM_get] at hz
    cases hq : rs[k]? with
    | none => rw [hq] at hz; cases hz
    | some q =>
      rw [hq] at hz
      simp at hz
      obtain ⟨p, hp⟩ := hopr k q hq
      cases hS : listed.getD k true with
      | false => rfl
      | true =>
        exfalso
        have hm := (hfut k p q hk hS hp hq).2
        simp only [apartM, Bool.and_eq_true] at hm
        have hle := hmono i o r k p q hk hoL hr hp hq
        rcases hkey k p q b z hp hq hz with h' | h'
        · rcases hkey i o r b u hoL hr hu with h2 | h2
          · exact disj_spec hm.1.1.2 b h2 h'
          · exact notIn_spec hm.2 b h' h2
        · rcases hkey i o r b u hoL hr hu with h2 | h2
          · have : b < r.a := by
              have hmem : ∀ (us : Upd) (n : Nat), b ∈ keysU n us → b < n := by
                intro us n
                induction us with
                | nil => simp [keysU]
                | cons x us ih =>
                  obtain ⟨j, uu⟩ := x
                  simp only [keysU]
                  cases hb : Nat.blt j n with
                  | false => simpa using ih
                  | true =>
                    simp only [cond_true, List.mem_cons]
                    rintro (rfl | h)
                    · exact Nat.blt_eq.mp hb
                    · exact ih h
              exact hmem _ _ h2
            omega
          · omega
  have hTW : ∀ t, o.dst = some t → ∀ k z, i < k → (wsT t s.tm.length ops.toList rs)[k]? = some (some z) → listed.getD k true = false := by
    intro t ht k z hk hz
    obtain ⟨p, q, hp, hq, hd⟩ := wsT_some _ _ _ _ _ _ hz
    cases hS : listed.getD k true with
    | false => rfl
    | true => exact absurd hd ((apartT_spec (hfut k p q hk hS hp hq).1).2.2 t ht)
  -- the sets
  have hS' : ∀ j, (listed.setIfInBounds i true).getD j true = if j = i then true else listed.getD j true := by
    intro j
    by_cases hj : j = i
    · subst hj; rw [if_pos rfl]
      have : j < listed.size := by rw [inv.size]; exact hin'
      simp [this]
    · rw [if_neg hj]
      exact getD_set_ne true (Ne.symm hj)
  have hM' : (fun b => cur (wsM b rs) (fun j => (listed.setIfInBounds i true).getD j true) 0 (look s.m b)) = updF (fun b => cur (wsM b rs) (fun j => listed.getD j true) 0 (look s.m b)) r.e.upd := by
    funext b
    unfold updF
    cases hu : lookU r.e.upd b with
    | some u =>
      exact cur_insert _ _ 0 i _ u (by rw [Nat.zero_add, hS', if_pos rfl]) (by rw [wsM_get, hr, Option.map_some, hu]) (fun k z hk hz => by
        rw [Nat.zero_add, hS', if_neg (by omega)]
        exact hMW b u hu k z hk hz)
    | none =>
      apply cur_congr
      intro k y hy
      rw [Nat.zero_add, hS', if_neg]
      rintro rfl
      rw [wsM_get, hr, Option.map_some, hu] at hy
      cases hy
  have hfin : ∀ ι' x w', (∀ b l, ι b = some l → ι' b = some l) → V.rel ι' r.e.v x → (∀ b l, ι' b = some l → b < s.nx ∨ (∃ i r, i < ops.size ∧ listed.getD i true = true ∧ rs[i]? = some r ∧ r.a ≤ b ∧ b < r.e.nx) ∨ (r.a ≤ b ∧ b < r.e.nx)) →
      Prog s.nx (look s.m) ι0 w0 (updF (fun b => cur (wsM b rs) (fun j => listed.getD j true) 0 (look s.m b)) r.e.upd) ι' w' → Sim C ι' (updF (fun b => cur (wsM b rs) (fun j => listed.getD j true) 0 (look s.m b)) r.e.upd) w' → K (a.put o.dst x) w' := by
    intro ι' x w' hext hx hdom hp hm
    refine hK ι' _ w' ⟨by simp [inv.size], ?_, ?_, ?_, ?_, ?_, by rw [hM']; exact hp, by rw [hM']; exact hm⟩
    · intro j p hp hS e he hb
      rw [hS'] at hS ⊢
      split at hS
      · rename_i hj; subst hj
        rw [hoL] at hp; obtain rfl := Option.some.inj hp
        split
        · rfl
        · exact hdeps' e he hb
      · split
        · rfl
        · exact inv.closed j p hp hS e he hb
    · intro t v hv
      have htN := cur_wsT_lt rfl hv
      by_cases hd : o.dst = some t
      · have hc : cur (wsT t s.tm.length ops.toList rs) (fun j => (listed.setIfInBounds i true).getD j true) 0 (getT s.tm t) = some r.e.v :=
          cur_insert _ _ 0 i _ _ (by rw [Nat.zero_add, hS', if_pos rfl]) (by rw [wsT_get _ _ _ _ _ _ _ hoL hr, if_pos ⟨hd, htN⟩]) (fun k z hk hz => by
            rw [Nat.zero_add, hS', if_neg (by omega)]
            exact hTW t hd k z hk hz)
        rw [hc] at hv
        obtain rfl := Option.some.inj hv
        refine ⟨x, ?_, hx⟩
        have := inv.len
        simp only [hd, Act.put, Array.getElem?_setIfInBounds, if_true]
        rw [if_pos (by omega)]
      · have hc : cur (wsT t s.tm.length ops.toList rs) (fun j => (listed.setIfInBounds i true).getD j true) 0 (getT s.tm t) = cur (wsT t s.tm.length ops.toList rs) (fun j => listed.getD j true) 0 (getT s.tm t) := by
          apply cur_congr
          intro k y hy
          rw [Nat.zero_add, hS', if_neg]
          rintro rfl
          obtain ⟨p, q, hp, hq, hdk⟩ := wsT_some _ _ _ _ _ _ hy
          rw [hoL] at hp; obtain rfl := Option.some.inj hp
          exact hd hdk
        rw [hc] at hv
        obtain ⟨y, h1, h2⟩ := inv.tms t v hv
        refine ⟨y, ?_, rel_mono hext _ _ h2⟩
        cases hdd : o.dst with
        | none => exact h1
        | some d =>
          simp only [Act.put, Array.getElem?_setIfInBounds]
          rw [if_neg (by intro e; exact hd (by rw [hdd, e]))]
          exact h1
    · have := inv.len
      cases o.dst <;> simpa [Act.put] using this
    · have := inv.defs
      cases o.dst <;> simpa [Act.put] using this
    · intro b l hb
      rcases hdom b l hb with h | ⟨j, q, h0, h1, h2⟩ | h
      · exact .inl h
      · exact .inr ⟨j, q, h0, by rw [hS']; split; rfl; exact h1, h2⟩
      · exact .inr ⟨i, r, hin', by rw [hS', if_pos rfl], hr, h⟩
  -- the operation
  have hwf := under_of_ssim (hlex i (by omega)).1.choose_spec.choose_spec.choose_spec
  have hrelT : ∀ t ∈ looks ops.toList o, ∀ v, getT (lexSt ops.toList rs s i).tm t = some v → ∃ x, a.tmps[t]? = some x ∧ v.rel ι x := by
    intro t ht v hv
    rw [← hT t ht] at hv
    exact inv.tms t v hv
  have hra' := (hra i o r hoL hr).1
  unfold wpOp
  rw [ho]
  simp only
  unfold evOp at hev0
  split at hev0
  case h_2 => simp [Tree.run] at hev0
  rename_i wb hw
  rw [want_sound' hrelT hw]
  rw [Tree.run_ite] at hev0
  cases wb with
  | false =>
    simp only [Bool.false_eq_true, if_false] at hev0 ⊢
    simp [Tree.run] at hev0
    have hup : r.e.upd = [] := by rw [← hev0]; rfl
    have hv : r.e.v = .tuple [] := by rw [← hev0]; rfl
    refine hfin ι undef w (fun _ _ h => h) (by rw [hv]; exact ⟨[], rfl, rfl⟩) (fun b l hb => (inv.dom b l hb).imp id .inl) ?_ ?_
    · rw [hup]; exact inv.prog
    · rw [hup]; exact inv.mem
  | true =>
    simp only [if_true] at hev0 ⊢
    rw [Tree.run_bind] at hev0
    cases he : (evEff C call (evO (lexSt ops.toList rs s i).tm) (lexSt ops.toList rs s i).m (lexSt ops.toList rs s i).nx o.op).run with
    | none => rw [he] at hev0; cases hev0
    | some e =>
      rw [he] at hev0
      simp [Tree.run] at hev0
      refine .inl ?_
      -- the evaluation of the operands, of those that are looked at
      let ev' : Operand → Option V := fun x => match x with | .tmp t => if t ∈ looks ops.toList o then getT (lexSt ops.toList rs s i).tm t else none | x => evO (lexSt ops.toList rs s i).tm x
      have hcongr := evEff_congr (C := C) (call := call) (ev := evO (lexSt ops.toList rs s i).tm) (ev' := ev') (m := (lexSt ops.toList rs s i).m) (nx := (lexSt ops.toList rs s i).nx) (op := o.op) (by
        intro x hx
        cases x with
        | tmp t =>
          have : t ∈ looks ops.toList o := by
            unfold looks
            apply List.mem_append_left
            exact List.mem_filterMap.2 ⟨.tmp t, by simpa using hx, rfl⟩
          simp only [ev', this, if_true, evO]
        | _ => rfl)
      rw [hcongr.1] at he
      have hR : r.R = foot ev' (lexSt ops.toList rs s i).m 1000 o.op := by rw [← hcongr.2, ← hev0]
      have hre : r.e = e := by rw [← hev0]
      have hMr : restrF (lexSt ops.toList rs s i).m (foot ev' (lexSt ops.toList rs s i).m 1000 o.op) = restrM (fun b => cur (wsM b rs) (fun j => listed.getD j true) 0 (look s.m b)) r.R := by
        funext b
        unfold restrF restrM
        rw [hR]
        split
        · rename_i hb; rw [← hR] at hb; exact (hMR b hb).symm
        · rfl
      have hun2 : ∀ b k, restrF (lexSt ops.toList rs s i).m (foot ev' (lexSt ops.toList rs s i).m 1000 o.op) b = some k → b < (lexSt ops.toList rs s i).nx ∧ V.underL (lexSt ops.toList rs s i).nx k.cells = true := by
        intro b k hb
        unfold restrF at hb
        split at hb
        · exact hwf.2 b k hb
        · cases hb
      have hsim0 : Sim C ι (restrM (fun b => cur (wsM b rs) (fun j => listed.getD j true) 0 (look s.m b)) r.R) w := inv.mem.sub fun b k hb => by
        unfold restrM at hb; split at hb
        · exact hb
        · cases hb
      have hsim1 : Sim C (cutI ι (lexSt ops.toList rs s i).nx) (restrF (lexSt ops.toList rs s i).m (foot ev' (lexSt ops.toList rs s i).m 1000 o.op)) w := by
        refine Sim.cut ?_ hun2
        rw [hMr]; exact hsim0
      have hevr : ∀ x v, ev' x = some v → v.rel (cutI ι (lexSt ops.toList rs s i).nx) (a.eval x) := by
        intro x v hx
        cases x with
        | tmp t =>
          simp only [ev'] at hx
          split at hx
          · rename_i ht
            obtain ⟨y, h1, h2⟩ := hrelT t ht v hx
            have h3 := rel_under (ι' := cutI ι (lexSt ops.toList rs s i).nx) (n := (lexSt ops.toList rs s i).nx) (fun b hb => by simp [cutI, hb]) v y (hwf.1 t v hx) h2
            simpa [Act.eval, Array.getD_eq_getD_getElem?, h1] using h3
          · cases hx
        | const c => exact ofVal_rel hx
        | global g => simp [ev', evO] at hx; subst hx; rfl
        | func f => simp [ev', evO] at hx; subst hx; exact ⟨[], rfl, rfl⟩
      have hcd : ∀ b l, cutI ι (lexSt ops.toList rs s i).nx b = some l → b < (lexSt ops.toList rs s i).nx := by
        intro b l hb
        unfold cutI at hb
        split at hb
        · assumption
        · cases hb
      have hop := op_sound (Q := Q) hC hcall he hevr hcd hsim1
      refine Oper.wp_mono ?_ hop
      rintro a' w' ⟨x, rfl, ι2, p, hn2, hd2, hx, hm2⟩
      rw [hMr] at p hm2
      -- the numbers of the blocks, put together
      have hnx : e.nx = r.e.nx := by rw [hre]
      let ι' : Inj := fun b => if r.a ≤ b ∧ b < r.e.nx then ι2 b else ι b
      have hιnone : ∀ b, r.a ≤ b → b < r.e.nx → ι b = none := by
        intro b h1 h2
        cases hb : ι b with
        | none => rfl
        | some l =>
          exfalso
          rcases inv.dom b l hb with h | ⟨j, q, h0, hSj, hq, h3, h4⟩
          · omega
          · obtain ⟨pj, hpj⟩ := hopr j q hq
            rcases Nat.lt_trichotomy j i with h | h | h
            · have := hmono j pj q i o r h hpj hq hoL hr; omega
            · subst h
              have : listed.getD j true = false := hun
              rw [this] at hSj; cases hSj
            · have := hmono i o r j pj q h hoL hr hpj hq; omega
      have hext1 : ∀ b l, ι b = some l → ι' b = some l := by
        intro b l hb
        simp only [ι']
        split
        · rename_i h; rw [hιnone b h.1 h.2] at hb; cases hb
        · exact hb
      have hext2 : ∀ b l, ι2 b = some l → ι' b = some l := by
        intro b l hb
        simp only [ι']
        have hlt := hd2 b l hb
        rw [hnx] at hlt
        split
        · exact hb
        · rename_i h
          have hba : b < r.a := by omega
          have := p.ext b (by rw [← hra']; exact hba)
          rw [this] at hb
          unfold cutI at hb
          split at hb
          · exact hb
          · cases hb
      have hag : ∀ b, b < (lexSt ops.toList rs s i).nx → ι' b = ι b := by
        intro b hb
        simp only [ι']
        rw [if_neg (by rw [hra']; omega)]
      have hFp : ∀ q, Fp (restrM (fun b => cur (wsM b rs) (fun j => listed.getD j true) 0 (look s.m b)) r.R) (cutI ι (lexSt ops.toList rs s i).nx) q ↔ Fp (restrM (fun b => cur (wsM b rs) (fun j => listed.getD j true) 0 (look s.m b)) r.R) ι q := by
        intro q
        constructor
        · rintro ⟨b, k, l, h1, h2, h3, h4⟩
          refine ⟨b, k, l, h1, h2, ?_, h4⟩
          unfold cutI at h3
          split at h3
          · exact h3
          · cases h3
        · rintro ⟨b, k, l, h1, h2, h3, h4⟩
          refine ⟨b, k, l, h1, h2, ?_, h4⟩
          rw [← hMr] at h1
          simp [cutI, (hun2 b k h1).1, h3]
      have hsim2 : Sim C ι' (updF (restrM (fun b => cur (wsM b rs) (fun j => listed.getD j true) 0 (look s.m b)) r.R) e.upd) w' := hm2.ext hext2
      have p' : Prog s.nx (restrM (fun b => cur (wsM b rs) (fun j => listed.getD j true) 0 (look s.m b)) r.R) ι w (updF (restrM (fun b => cur (wsM b rs) (fun j => listed.getD j true) 0 (look s.m b)) r.R) e.upd) ι' w' := by
        refine ⟨fun b hb => hag b (by rw [← hra']; omega), ⟨p.frame.os, p.frame.tape, p.frame.output, p.frame.size, fun k hk hF => p.frame.block k hk (fun hh => hF ((hFp k).mp hh))⟩, ?_, fun b k hb h1 => p.old b k (by rw [← hra']; omega) h1, ?_⟩
        intro b k l h1 h2 h3
        obtain ⟨l2, g1, _⟩ := hm2.blk b k h1
        have := hext2 b l2 g1
        rw [h3] at this; obtain rfl := Option.some.inj this
        exact (p.news b k l h1 h2 g1).imp (hFp _).mp id
        intro b k h1 h2
        obtain ⟨b0, k0, q1, q2, q3⟩ := p.ros b k h1 h2
        refine ⟨b0, k0, q1, q2, ?_⟩
        obtain ⟨l2, g1, _⟩ := hm2.blk b k h1
        rw [hext2 b l2 g1]
        rw [g1] at q3
        rw [q3]
        rw [← hMr] at q1
        simp [cutI, (hun2 b0 k0 q1).1]
      obtain ⟨pm, hmm⟩ := merge hext1 inv.mem p' hsim2
      rw [← hre] at pm hmm
      refine hfin ι' x w' hext1 (by rw [hre]; exact rel_mono hext2 _ _ hx) ?_ (inv.prog.trans (Nat.le_refl _) pm) hmm
      intro b l hb
      simp only [ι'] at hb
      split at hb
      · rename_i h; exact .inr (.inr h)
      · exact (inv.dom b l hb).imp id .inl
end

theorem Prog.mono {n n' : Nat} {M M' : MemF} {ι ι' : Inj} {w w' : World} (h : n ≤ n') (p : Prog n' M ι w M' ι' w') : Prog n M ι w M' ι' w' :=
  ⟨fun b hb => p.ext b (by omega), p.frame, p.news, fun b k hb => p.old b k (by omega), p.ros⟩

/-- What a piece of code leaves. -/
def Post (C : Cfg) (own : Nat) (s : St) (ι : Inj) (w : World) (s' : St) (a' : Act) (w' : World) : Prop :=
  ∃ ι', SSim C ι' s' a' w' ∧ Prog own (look s.m) ι w (look s'.m) ι' w' ∧ own ≤ s'.nx

theorem countP_lt {p p' : Nat → Bool} {i : Nat} : ∀ {l : List Nat}, i ∈ l → (∀ j, p' j = true → p j = true) → p i = true → p' i = false → l.countP p' < l.countP p
  | [], h, _, _, _ => by simp at h
  | x :: xs, h, hm, h1, h2 => by
    have hle : xs.countP p' ≤ xs.countP p := List.countP_mono_left fun j _ hj => hm j hj
    simp only [List.countP_cons]
    rcases List.mem_cons.mp h with rfl | h
    · rw [h1, h2]; simp; omega
    · have := countP_lt h hm h1 h2
      cases hp' : p' x with
      | false => simp; omega
      | true => rw [hm x hp']; simp; omega

theorem wsT_lt {t N : Nat} {os : List Oper} {rs : List Rec} {k : Nat} {y : Option V} (h : (wsT t N os rs)[k]? = some (some y)) : k < os.length := by
  obtain ⟨o, r, h1, _⟩ := wsT_some _ _ _ _ _ _ h
  rcases Nat.lt_or_ge k os.length with h' | h'
  · exact h'
  · rw [List.getElem?_eq_none h'] at h1; cases h1
theorem wsM_lt {b : Nat} {rs : List Rec} {k : Nat} {y : Option Blk} (h : (wsM b rs)[k]? = some (some y)) : k < rs.length := by
  rw [wsM_get] at h
  rcases Nat.lt_or_ge k rs.length with h' | h'
  · exact h'
  · rw [List.getElem?_eq_none h'] at h; cases h

theorem evRegion_sound {C : Cfg} (hC : C.Ok) {call : CallF} (hcall : CallSound C call) {ops : Array Oper} {id : Nat} {draw : Bool} {s s' : St} {ι : Inj} {a : Act} {w : World} (h : (evRegion C call ops.toList draw s).run = some s') (hs : SSim C ι s a w) :
    (Code.region id ops draw).wp C.P (fun ex a' w' => ex = .normal ∧ Post C s.nx s ι w s' a' w') a w := by
  unfold evRegion at h
  rw [Tree.run_bind] at h
  cases he : (evOps C call ops.toList ops.toList s []).run with
  | none => rw [he] at h; cases h
  | some r =>
    obtain ⟨s1, recs⟩ := r
    rw [he] at h
    simp only [Option.bind_some] at h
    cases draw with
    | false =>
      simp [Tree.run] at h
      subst h
      exact wp_region_list (evOps_sound hC hcall ops.toList s [] s1 recs ι a w he hs fun ι' a' w' h1 h2 h3 => ⟨rfl, ι', h1, h2, h3⟩)
    | true =>
      simp only [cond_true] at h
      rw [Tree.run_ite] at h
      split at h
      case isFalse => simp [Tree.run] at h
      rename_i hchk
      simp [Tree.run] at h
      subst h
      simp only [Bool.and_eq_true] at hchk
      obtain ⟨hms, hind⟩ := hchk
      obtain ⟨rs, h1, hlen, h3, htr⟩ := evOps_trace _ _ _ _ _ he
      simp only [List.nil_append] at h1
      subst h1
      have hlex := fun k hk => lex_exists hC hcall ops.toList recs s ι a w hlen hs htr k hk
      refine wp_region_any hC.mixed ?_
      -- from any state of the region
      have key : ∀ (fuel : Nat) (listed : Array Bool) (ι' : Inj) (a' : Act) (w' : World), RInv C ops recs s ι w listed ι' a' w' → (List.range ops.size).countP (fun j => !listed.getD j true) ≤ fuel →
          wpAny C.P .any ops (fun ex a' w' => ex = .normal ∧ Post C s.nx s ι w s1 a' w') fuel listed a' w' := by
        have hall : ∀ (listed : Array Bool) (ι' : Inj) (a' : Act) (w' : World), RInv C ops recs s ι w listed ι' a' w' → Region.ready .any ops listed = [] → Post C s.nx s ι w s1 a' w' := by
          intro listed ι' a' w' inv hr
          have hl : ∀ i, i < ops.size → listed.getD i true = true := by
            intro i
            induction i using Nat.strongRecOn with
            | _ i ih =>
              intro hi
              cases hc : listed.getD i true with
              | true => rfl
              | false =>
                exfalso
                have hmem : i ∈ Region.ready .any ops listed := by
                  refine mem_ready.2 ⟨hc, ops[i], by simp [hi], fun e he hb => ?_⟩
                  have hoi : ops.toList[i]? = some ops[i] := by simp [hi]
                  have hlt := (masksOk_spec hms i ops[i] hoi).2 e (by simpa using he) hb
                  simp only [Nat.zero_add] at hlt
                  have := ih e.on hlt (by omega)
                  have hsz : e.on < listed.size := by rw [inv.size]; omega
                  simp [hsz] at this ⊢; exact this
                rw [hr] at hmem; cases hmem
          have hn : ops.toList.length = ops.size := by simp
          have hTn : ∀ t, getT s1.tm t = cur (wsT t s.tm.length ops.toList recs) (fun i => listed.getD i true) 0 (getT s.tm t) := by
            intro t
            rw [h3, lexT t s.tm.length _ _ _ _ 0 rfl]
            apply cur_congr
            intro k y hk
            have := wsT_lt hk
            simp only [Nat.zero_add]
            rw [hl k (by omega), decide_eq_true this]
          have hMn : look s1.m = fun b => cur (wsM b recs) (fun i => listed.getD i true) 0 (look s.m b) := by
            funext b
            rw [h3, lexM b _ _ _ _ 0 hlen.symm]
            apply cur_congr
            intro k y hk
            have := wsM_lt hk
            simp only [Nat.zero_add]
            rw [hl k (by omega), decide_eq_true (by omega)]
          have htl : s1.tm.length = s.tm.length := by
            rw [h3]
            have : ∀ (os : List Oper) (rs : List Rec) (s : St) (k : Nat), (lexSt os rs s k).tm.length = s.tm.length := by
              intro os
              induction os with
              | nil => intro rs s k; cases k <;> rfl
              | cons o os ih =>
                intro rs s k
                cases k with
                | zero => rfl
                | succ k => cases rs with
                  | nil => rfl
                  | cons r rs => simp only [lexSt]; rw [ih]; simp [after, putT_length]
            exact this _ _ _ _
          have hnx : s.nx ≤ s1.nx := by
            rw [h3]
            have := (hlex ops.toList.length (Nat.le_refl _)).2 0 (Nat.zero_le _)
            have e0 : lexSt ops.toList recs s 0 = s := by cases ops.toList <;> rfl
            rwa [e0] at this
          refine ⟨ι', ⟨fun t v hv => inv.tms t v (by rw [← hTn]; exact hv), by rw [htl]; exact inv.len, ?_, by rw [hMn]; exact inv.mem, inv.defs⟩, by rw [hMn]; exact inv.prog, hnx⟩
          intro b l hb
          rcases inv.dom b l hb with h | ⟨i, r, hi, _, hr, _, h⟩
          · omega
          · have hop : ∃ o, ops.toList[i]? = some o := ⟨ops[i], by simp [hi]⟩
            obtain ⟨o, ho⟩ := hop
            have hr1 : r.e.nx = (lexSt ops.toList recs s (i + 1)).nx := by
              have kk : ∀ (os : List Oper) (rs : List Rec) (s : St) (k : Nat), os[k]? = some o → rs[k]? = some r → (lexSt os rs s (k + 1)).nx = r.e.nx := by
                intro os
                induction os with
                | nil => intro rs s k h; simp at h
                | cons x xs ih =>
                  intro rs s k h1 h2
                  cases rs with
                  | nil => simp at h2
                  | cons y ys =>
                    cases k with
                    | zero =>
                      simp at h1 h2; subst h1 h2
                      simp only [lexSt]
                      cases xs <;> simp [lexSt, after]
                    | succ k => simpa [lexSt] using ih ys (after s x y) k (by simpa using h1) (by simpa using h2)
              exact (kk ops.toList recs s i ho hr).symm
            have := (hlex ops.toList.length (Nat.le_refl _)).2 (i + 1) (by omega)
            rw [← hr1, ← h3] at this
            omega
        intro fuel
        induction fuel with
        | zero =>
          intro listed ι' a' w' inv hc
          have hr : Region.ready .any ops listed = [] := by
            cases hh : Region.ready .any ops listed with
            | nil => rfl
            | cons i is =>
              exfalso
              have hi : i ∈ Region.ready .any ops listed := by rw [hh]; simp
              obtain ⟨hun, o, ho, _⟩ := mem_ready.1 hi
              have hin : i < ops.size := by
                rcases Nat.lt_or_ge i ops.size with h | h
                · exact h
                · rw [Array.getElem?_eq_none h] at ho; cases ho
              have : 0 < (List.range ops.size).countP (fun j => !listed.getD j true) := List.countP_pos_iff.mpr ⟨i, by simpa using hin, by
                show (!listed.getD i true) = true
                rw [show listed.getD i true = false from hun]; rfl⟩
              omega
          exact ⟨hr, rfl, hall listed ι' a' w' inv hr⟩
        | succ fuel ih =>
          intro listed ι' a' w' inv hc
          refine ⟨fun hr => ⟨rfl, hall listed ι' a' w' inv hr⟩, fun i hi => ?_⟩
          refine step_region hC hcall hlen htr hlex hms hind inv hi fun ι2 a2 w2 inv2 => ih _ ι2 a2 w2 inv2 ?_
          obtain ⟨hun, o, ho, _⟩ := mem_ready.1 hi
          have hin : i < ops.size := by
            rcases Nat.lt_or_ge i ops.size with h | h
            · exact h
            · rw [Array.getElem?_eq_none h] at ho; cases ho
          have hlt := countP_lt (p := fun j => !listed.getD j true) (p' := fun j => !(listed.setIfInBounds i true).getD j true) (i := i) (l := List.range ops.size) (by simpa using hin) (by
            intro j hj
            by_cases hij : j = i
            · subst hij
              show (!listed.getD j true) = true
              rw [show listed.getD j true = false from hun]; rfl
            · have e := getD_set_ne (listed := listed) true (Ne.symm hij)
              show (!listed.getD j true) = true
              rw [← e]; exact hj) (by
              show (!listed.getD i true) = true
              rw [show listed.getD i true = false from hun]; rfl) (by
              have hsz : i < listed.size := by rw [inv.size]; exact hin
              simp [hsz])
          omega
      refine key ops.size _ ι a _ ⟨by simp, ?_, ?_, hs.len, hs.defs, fun b l hb => .inl (hs.dom b l hb), ?_, ?_⟩ ?_
      · intro i o ho hS
        have hi : i < ops.size := by
          rcases Nat.lt_or_ge i ops.size with h | h
          · exact h
          · rw [List.getElem?_eq_none (by simpa using h)] at ho; cases ho
        simp [hi] at hS
      · intro t v hv
        rw [cur_quiet] at hv
        · exact hs.tms t v hv
        · intro k y hk
          have := wsT_lt hk
          simp at this
          simp [this]
      · have e : (fun b => cur (wsM b recs) (fun i => (Array.replicate ops.size false).getD i true) 0 (look s.m b)) = look s.m := by
          funext b
          apply cur_quiet
          intro k y hk
          have := wsM_lt hk
          rw [hlen] at this
          simp at this
          simp [this]
        rw [e]
        have := Prog.refl s.nx (look s.m) ι w
        exact ⟨this.ext, ⟨rfl, rfl, rfl, Nat.le_refl _, fun _ _ _ => rfl⟩, this.news, this.old, this.ros⟩
      · have e : (fun b => cur (wsM b recs) (fun i => (Array.replicate ops.size false).getD i true) 0 (look s.m b)) = look s.m := by
          funext b
          apply cur_quiet
          intro k y hk
          have := wsM_lt hk
          rw [hlen] at this
          simp at this
          simp [this]
        rw [e]
        exact sim_heap (w := w) rfl hs.mem
      · exact Nat.le_trans List.countP_le_length (by simp)

/-! ### Tidying -/
def tidyI (own : Nat) (l : List Nat) (ι : Inj) : Inj := fun b => if b < own then ι b else match l[b - own]? with | some b0 => ι b0 | none => none
theorem newId_go {b b' : Nat} : ∀ {l : List Nat} {n : Nat}, newId.go b n l = some b' → n ≤ b' ∧ l[b' - n]? = some b
  | [], n, h => by simp [newId.go] at h
  | x :: xs, n, h => by
    simp only [newId.go] at h
    by_cases hx : x = b
    · subst hx; simp at h; subst h; simp
    · rw [beqF hx] at h
      obtain ⟨h1, h2⟩ := newId_go (l := xs) (n := n + 1) h
      refine ⟨by omega, ?_⟩
      rw [show b' - n = (b' - (n + 1)) + 1 by omega]
      simpa using h2
theorem newId_spec {own b b' : Nat} {l : List Nat} (h : newId own l b = some b') : (b < own ∧ b' = b) ∨ (own ≤ b' ∧ l[b' - own]? = some b) := by
  unfold newId at h
  cases hb : Nat.blt b own with
  | true => rw [hb] at h; simp at h; exact .inl ⟨Nat.blt_eq.mp hb, h.symm⟩
  | false => rw [hb] at h; exact .inr (newId_go h)
theorem tidyI_new {own b b' : Nat} {l : List Nat} {ι : Inj} (h : newId own l b = some b') : tidyI own l ι b' = ι b := by
  rcases newId_spec h with ⟨h1, rfl⟩ | ⟨h1, h2⟩
  · simp [tidyI, h1]
  · simp [tidyI, Nat.not_lt.mpr h1, h2]

mutual
theorem renV_rel {own : Nat} {l : List Nat} {ι : Inj} : ∀ (v v' : V) (x : Value), renV own l v = some v' → v.rel ι x → v'.rel (tidyI own l ι) x
  | .bool _, _, _, h, r => by simp [renV] at h; subst h; exact r
  | .int _ _, _, _, h, r => by simp [renV] at h; subst h; exact r
  | .str _, _, _, h, r => by simp [renV] at h; subst h; exact r
  | .ptr b off, _, _, h, ⟨lc, h1, h2⟩ => by
    simp only [renV] at h
    split at h
    · rename_i b' hb; obtain rfl := Option.some.inj h; exact ⟨lc, by rw [tidyI_new hb]; exact h1, h2⟩
    · cases h
  | .gptr _ _, _, _, h, r => by simp [renV] at h; subst h; exact r
  | .nilptr, _, _, h, r => by simp [renV] at h; subst h; exact r
  | .slice b off len sz, _, _, h, ⟨lc, a, c, h1, h2⟩ => by
    simp only [renV] at h
    split at h
    · rename_i b' hb; obtain rfl := Option.some.inj h; exact ⟨lc, a, c, by rw [tidyI_new hb]; exact h1, h2⟩
    · cases h
  | .nilslice, _, _, h, r => by simp [renV] at h; subst h; exact r
  | .func _ cs, _, _, h, ⟨ys, h1, h2⟩ => by
    simp only [renV] at h
    split at h
    · rename_i vs hv; obtain rfl := Option.some.inj h; exact ⟨ys, h1, renL_rel cs vs ys hv h2⟩
    · cases h
  | .nilfunc, _, _, h, r => by simp [renV] at h; subst h; exact r
  | .iface _ v, _, _, h, ⟨y, h1, h2⟩ => by
    simp only [renV] at h
    split at h
    · rename_i u hv; obtain rfl := Option.some.inj h; exact ⟨y, h1, renV_rel v u y hv h2⟩
    · cases h
  | .niliface, _, _, h, r => by simp [renV] at h; subst h; exact r
  | .any, _, _, h, r => by simp [renV] at h; subst h; exact r
  | .agg vs, _, _, h, ⟨ys, h1, h2⟩ => by
    simp only [renV] at h
    split at h
    · rename_i us hv; obtain rfl := Option.some.inj h; exact ⟨ys, h1, renL_rel vs us ys hv h2⟩
    · cases h
  | .tuple vs, _, _, h, ⟨ys, h1, h2⟩ => by
    simp only [renV] at h
    split at h
    · rename_i us hv; obtain rfl := Option.some.inj h; exact ⟨ys, h1, renL_rel vs us ys hv h2⟩
    · cases h
theorem renL_rel {own : Nat} {l : List Nat} {ι : Inj} : ∀ (vs us : List V) (xs : List Value), renL own l vs = some us → V.relL ι vs xs → V.relL (tidyI own l ι) us xs
  | [], _, _, h, r => by simp [renL] at h; subst h; exact r
  | v :: vs, _, _, h, ⟨x, xs, h1, h2, h3⟩ => by
    simp only [renL] at h
    split at h
    · rename_i u us hu hus; obtain rfl := Option.some.inj h; exact ⟨x, xs, h1, renV_rel v u x hu h2, renL_rel vs us xs hus h3⟩
    · cases h
end
theorem renV_one {own : Nat} {l : List Nat} {v v' : V} (h : renV own l v = some v') : v'.one = v.one := by
  cases v <;> simp only [renV] at h <;> first
    | (obtain rfl := Option.some.inj h; rfl)
    | (split at h <;> first | (obtain rfl := Option.some.inj h; rfl) | cases h)
theorem renL_one {own : Nat} {l : List Nat} : ∀ {vs us : List V}, renL own l vs = some us → allOne us = allOne vs
  | [], _, h => by simp [renL] at h; subst h; rfl
  | v :: vs, _, h => by
    simp only [renL] at h
    split at h
    · rename_i u us hu hus; obtain rfl := Option.some.inj h; simp [allOne, renV_one hu, renL_one hus]
    · cases h
theorem getT_maskTm : ∀ (tm : Tm) (L t : Nat) (v : V), getT (maskTm tm L) t = some v → getT tm t = some v
  | [], _, _, _, h => by simp [maskTm, getT] at h
  | x :: xs, L, 0, v, h => by
    simp only [maskTm, getT] at h ⊢
    cases hb : Nat.beq (L % 2) 1 <;> rw [hb] at h <;> simp at h
    exact h
  | x :: xs, L, t + 1, v, h => by
    simp only [maskTm, getT] at h ⊢
    exact getT_maskTm xs (L / 2) t v h
theorem maskTm_length : ∀ (tm : Tm) (L : Nat), (maskTm tm L).length = tm.length
  | [], _ => rfl
  | _ :: xs, L => by simp [maskTm, maskTm_length xs]
theorem getT_renT {own : Nat} {l : List Nat} : ∀ (tm : Tm) (t : Nat) (v : V), getT (renT own l tm) t = some v → ∃ u, getT tm t = some u ∧ renV own l u = some v
  | [], _, _, h => by simp [renT, getT] at h
  | some x :: xs, 0, v, h => ⟨x, rfl, by simpa [renT, getT] using h⟩
  | none :: xs, 0, v, h => by simp [renT, getT] at h
  | some x :: xs, t + 1, v, h => by simp only [renT, getT] at h ⊢; exact getT_renT xs t v h
  | none :: xs, t + 1, v, h => by simp only [renT, getT] at h ⊢; exact getT_renT xs t v h
theorem renT_length {own : Nat} {l : List Nat} : ∀ (tm : Tm), (renT own l tm).length = tm.length
  | [] => rfl
  | some _ :: xs => by simp [renT, renT_length xs]
  | none :: xs => by simp [renT, renT_length xs]

/-- What a tidied memory holds. -/
def TidyRel (own : Nat) (l : List Nat) (m : Mem) (b : Nat) (k' : Blk) : Prop :=
  ∃ b0 k, look m b0 = some k ∧ newId own l b0 = some b ∧ renL own l k.cells = some k'.cells ∧ k'.elem = k.elem ∧ k'.ro = k.ro
theorem renOld_spec {own : Nat} {l : List Nat} : ∀ {m m' : Mem}, renOld own l m = some m' → ∀ b k', look m' b = some k' → b < own ∧ ∃ k, look m b = some k ∧ renL own l k.cells = some k'.cells ∧ k'.elem = k.elem ∧ k'.ro = k.ro
  | [], m', h, b, k', hb => by simp [renOld] at h; subst h; simp [look] at hb
  | (i, k) :: m, m', h, b, k', hb => by
    simp only [renOld] at h
    cases hi : Nat.blt i own with
    | true =>
      rw [hi] at h
      simp only [cond_true] at h
      split at h
      · rename_i cs m1 hcs hm1
        obtain rfl := Option.some.inj h
        simp only [look] at hb ⊢
        by_cases hib : i = b
        · subst hib
          simp at hb
          subst hb
          exact ⟨Nat.blt_eq.mp hi, k, by simp, hcs, rfl, rfl⟩
        · rw [beqF hib] at hb ⊢
          exact renOld_spec hm1 b k' hb
      · cases h
    | false =>
      rw [hi] at h
      obtain ⟨h1, k0, h2, h3⟩ := renOld_spec (m := m) h b k' hb
      refine ⟨h1, k0, ?_, h3⟩
      have : i ≠ b := by rintro rfl; rw [Nat.blt_eq.mpr h1] at hi; cases hi
      simp only [look, beqF this]
      exact h2
theorem renNew_spec {own : Nat} {l : List Nat} {m : Mem} : ∀ {bs : List Nat} {n : Nat} {m' : Mem}, renNew own l m bs n = some m' → ∀ b k', look m' b = some k' → TidyRel own l m b k'
  | [], n, m', h, b, k', hb => by simp [renNew] at h; subst h; simp [look] at hb
  | b0 :: bs, n, m', h, b, k', hb => by
    simp only [renNew] at h
    split at h
    · rename_i k n' hk hn
      cases hq : Nat.beq n' n with
      | false => rw [hq] at h; cases h
      | true =>
        rw [hq] at h
        obtain rfl := Nat.eq_of_beq_eq_true hq
        simp only [cond_true] at h
        split at h
        · rename_i cs m1 hcs hm1
          obtain rfl := Option.some.inj h
          simp only [look] at hb
          by_cases hib : n' = b
          · subst hib
            simp at hb
            subst hb
            exact ⟨b0, k, hk, hn, hcs, rfl, rfl⟩
          · rw [beqF hib] at hb
            exact renNew_spec hm1 b k' hb
        · cases h
    · cases h
theorem look_append (m1 m2 : Mem) (b : Nat) : look (m1 ++ m2) b = match look m1 b with | some k => some k | none => look m2 b := by
  induction m1 with
  | nil => rfl
  | cons p m1 ih =>
    obtain ⟨i, k⟩ := p
    simp only [List.cons_append, look]
    cases Nat.beq i b <;> simp [ih]

theorem tidy_core {C : Cfg} {own : Nat} {l : List Nat} {ι : Inj} {s : St} {a : Act} {w : World} {tm' : Tm} {m' : Mem} (hs : SSim C ι s a w) (hm : ∀ b k', look m' b = some k' → TidyRel own l s.m b k') (keep : Nat) (ht : tm' = renT own l (maskTm s.tm keep)) :
    ∃ ι', SSim C ι' ⟨tm', m', own + l.length⟩ a w ∧ Prog own (look s.m) ι w (look m') ι' w := by
  have hnew : ∀ b0 b, newId own l b0 = some b → tidyI own l ι b = ι b0 := fun b0 b h => tidyI_new h
  have hinv : ∀ b b0 b1, newId own l b0 = some b → newId own l b1 = some b → b0 = b1 := by
    intro b b0 b1 h0 h1
    rcases newId_spec h0 with ⟨p1, rfl⟩ | ⟨p1, p2⟩ <;> rcases newId_spec h1 with ⟨q1, q2⟩ | ⟨q1, q2⟩
    · exact q2
    · omega
    · omega
    · rw [p2] at q2; exact Option.some.inj q2
  refine ⟨tidyI own l ι, ⟨?_, ?_, ?_, ⟨hs.mem.glob, ?_, ?_, ?_⟩, hs.defs⟩, ⟨?_, Frame'.refl _ _, ?_, ?_, ?_⟩⟩
  · intro t v hv
    simp only [ht] at hv
    obtain ⟨u, h1, h2⟩ := getT_renT _ _ _ hv
    obtain ⟨x, h3, h4⟩ := hs.tms t u (getT_maskTm _ _ _ _ h1)
    exact ⟨x, h3, renV_rel u v x h2 h4⟩
  · simp only [ht, renT_length, maskTm_length]; exact hs.len
  · intro b lc hb
    unfold tidyI at hb
    split at hb
    · show b < own + l.length; omega
    · split at hb
      · rename_i b0 h
        have : b - own < l.length := by
          rcases Nat.lt_or_ge (b - own) l.length with h' | h'
          · exact h'
          · rw [List.getElem?_eq_none h'] at h; cases h
        show b < own + l.length
        omega
      · cases hb
  · intro b k' hb
    obtain ⟨b0, k, h1, h2, h3, h4, h5⟩ := hm b k' hb
    obtain ⟨lc, g1, pre, xs, ys, zs, fr, q1, q2, q3, q4, q5, q6⟩ := hs.mem.blk b0 k h1
    refine ⟨lc, by rw [hnew b0 b h2]; exact g1, pre, xs, ys, zs, fr, by rw [h4]; exact q1, q2, renL_rel _ _ _ h3 q3, by rw [h4]; exact q4, by rw [h4]; exact q5, by rw [renL_one h3]; exact q6⟩
  · intro b b' k k' lc lc' g1 g2 g3 g4 g5 g6
    obtain ⟨b0, k0, h1, h2, h3, h4, h5⟩ := hm b k g1
    obtain ⟨b1, k1, f1, f2, f3, f4, f5⟩ := hm b' k' g3
    rw [hnew b0 b h2] at g4
    rw [hnew b1 b' f2] at g5
    have e := hs.mem.inj b0 b1 k0 k1 lc lc' h1 (by rw [← h5]; exact g2) f1 g4 g5 g6
    subst e
    rw [h2] at f2
    exact Option.some.inj f2
  · intro b k lc g1 g2 g3
    obtain ⟨b0, k0, h1, h2, h3, h4, h5⟩ := hm b k g1
    rw [hnew b0 b h2] at g3
    exact hs.mem.gsep b0 k0 lc h1 (by rw [← h5]; exact g2) g3
  · intro b hb; simp [tidyI, hb]
  · intro b k lc g1 g2 g3
    obtain ⟨b0, k0, h1, h2, h3, h4, h5⟩ := hm b k g1
    rw [hnew b0 b h2] at g3
    exact .inl ⟨b0, k0, lc, h1, by rw [← h5]; exact g2, g3, rfl⟩
  · intro b k hb g1
    obtain ⟨b0, k0, h1, h2, h3, h4, h5⟩ := hm b k g1
    rcases newId_spec h2 with ⟨p1, rfl⟩ | ⟨p1, p2⟩
    · exact ⟨k0, h1, h5.symm⟩
    · omega
  · intro b k g1 g2
    obtain ⟨b0, k0, h1, h2, h3, h4, h5⟩ := hm b k g1
    exact ⟨b0, k0, h1, by rw [← h5]; exact g2, hnew b0 b h2⟩

theorem tidy_sound {C : Cfg} {own keep : Nat} {s s' : St} {ι : Inj} {a : Act} {w : World} (h : tidy own keep s = some s') (hs : SSim C ι s a w) : Post C own s ι w s' a w := by
  unfold tidy at h
  simp only at h
  split at h
  · rename_i hm
    obtain rfl := Option.some.inj h
    obtain ⟨ι', h1, h2⟩ := tidy_core (own := own) (l := []) (m' := []) hs (fun b k' hb => by simp [look] at hb) keep rfl
    exact ⟨ι', h1, by rw [hm]; rw [hm] at h2; exact h2, Nat.le_refl _⟩
  · split at h
    · rename_i m1 m2 h1 h2
      obtain rfl := Option.some.inj h
      obtain ⟨ι', g1, g2⟩ := tidy_core (own := own) (m' := m1 ++ m2) hs (fun b k' hb => by
        rw [look_append] at hb
        cases hl : look m1 b with
        | some k =>
          rw [hl] at hb
          obtain rfl := Option.some.inj hb
          obtain ⟨q1, k0, q2, q3⟩ := renOld_spec h1 b k hl
          exact ⟨b, k0, q2, by simp [newId, Nat.blt_eq.mpr q1], q3⟩
        | none =>
          rw [hl] at hb
          exact renNew_spec h2 b k' hb) keep rfl
      exact ⟨ι', g1, g2, Nat.le_add_right _ _⟩
    · cases h

def Ex.toExit : Ex → Exit
  | .normal => .normal
  | .exit id => .exit id
  | .ret => .ret

theorem Post.trans {C : Cfg} {own : Nat} {s s1 s2 : St} {ι : Inj} {w w1 : World} {a1 a2 : Act} {w2 : World} {ι1 : Inj} (p : Prog own (look s.m) ι w (look s1.m) ι1 w1) (h : Post C own s1 ι1 w1 s2 a2 w2) : Post C own s ι w s2 a2 w2 := by
  obtain ⟨ι2, h1, h2, h3⟩ := h
  exact ⟨ι2, h1, p.trans (Nat.le_refl _) h2, h3⟩

/-- A state that tells less than another one. -/
def Weaker (s' s : St) : Prop := s'.m = s.m ∧ s'.nx = s.nx ∧ s'.tm.length ≤ s.tm.length ∧ ∀ t v, getT s'.tm t = some v → getT s.tm t = some v
def LoopOk (C : Cfg) (call : CallF) (LO : Loops) (fuel own rets : Nat) (p : Code × List (Nat × Nat)) : Prop :=
  ∀ s0 e s', LO (keyOf p.1) s0 = some (true, e, s') → ∃ n s1, (loopN (stepL C call LO fuel own rets p.1 p.2) n s0).run = some (e, s1) ∧ Weaker s' s1
def CutOk (C : Cfg) (call : CallF) (LO : Loops) (fuel own rets : Nat) (p : Code × List (Nat × Nat) × Nat) : Prop :=
  ∀ s0 e s', LO (cutKey p.1) s0 = some (true, e, s') → ∃ s1, (evC C call LO fuel own rets p.1 p.2.1 p.2.2 s0).run = some (e, s1) ∧ Weaker s' s1
theorem Weaker.ssim {C : Cfg} {ι : Inj} {s' s : St} {a : Act} {w : World} (h : Weaker s' s) (hs : SSim C ι s a w) : SSim C ι s' a w := by
  obtain ⟨h1, h2, h3, h4⟩ := h
  exact ⟨fun t v hv => hs.tms t v (h4 t v hv), Nat.le_trans h3 hs.len, by rw [h2]; exact hs.dom, by rw [h1]; exact hs.mem, hs.defs⟩

theorem evC_sound {C : Cfg} (hC : C.Ok) {call : CallF} (hcall : CallSound C call) {LO : Loops} {fuel own rets : Nat} : ∀ (c : Code) (X : List (Nat × Nat)) (L : Nat) (s : St) (e : Ex) (s' : St) (ι : Inj) (a : Act) (w : World),
    (∀ p ∈ loopsOf rets c X L, LoopOk C call LO fuel own rets p) → (∀ p ∈ cutsOf rets c X L, CutOk C call LO fuel own rets p) → (evC C call LO fuel own rets c X L s).run = some (e, s') → own ≤ s.nx → SSim C ι s a w → c.wp C.P (fun ex a' w' => ex = e.toExit ∧ Post C own s ι w s' a' w') a w := by
  intro c
  induction c with
  | skip =>
    intro X L s e s' ι a w hL hK h ho hs
    simp [evC, Tree.run] at h
    obtain ⟨rfl, rfl⟩ := h
    exact wp_skip ⟨rfl, ι, hs, Prog.refl _ _ _ _, ho⟩
  | region id ops draw =>
    intro X L s e s' ι a w hL hK h ho hs
    simp only [evC, Tree.run_bind] at h
    cases hr : (evRegion C call ops.toList draw s).run with
    | none => rw [hr] at h; cases h
    | some s1 =>
      rw [hr] at h
      simp [Tree.run] at h
      obtain ⟨rfl, rfl⟩ := h
      refine wp_mono (evRegion_sound hC hcall hr hs) ?_
      rintro ex a' w' ⟨rfl, ι', h1, h2, h3⟩
      exact ⟨rfl, ι', h1, h2.mono ho, by omega⟩
  | seq x y ihx ihy =>
    intro X L s e s' ι a w hL hK h ho hs
    simp only [evC, Tree.run_bind] at h
    have first : ∀ e1 s1, (bif (LO (cutKey x) noSt).isSome then cutA LO own (live rets x X (live rets y X L)) x s else evC C call LO fuel own rets x X (live rets y X L) s).run = some (e1, s1) →
        x.wp C.P (fun ex a' w' => ex = e1.toExit ∧ Post C own s ι w s1 a' w') a w := by
      intro e1 s1 h1
      cases hb : (LO (cutKey x) noSt).isSome with
      | false =>
        rw [hb] at h1
        exact ihx _ _ _ _ _ _ _ _ (fun p hp => hL p (by simp [loopsOf, hp])) (fun p hp => hK p (by simp [cutsOf, hp])) h1 ho hs
      | true =>
        rw [hb] at h1
        simp only [cond_true, cutA] at h1
        cases ht : tidy own (live rets x X (live rets y X L)) s with
        | none => rw [ht] at h1; simp [Tree.run] at h1
        | some s0 =>
          rw [ht] at h1
          simp only at h1
          obtain ⟨ι0, hs0, hp0, ho0⟩ := tidy_sound ht hs
          split at h1
          · rename_i pre e2 s2 hlo
            rw [Tree.run_ite] at h1
            split at h1
            case isFalse => simp [Tree.run] at h1
            rename_i hpre
            simp [Tree.run] at h1
            obtain ⟨rfl, rfl⟩ := h1
            subst hpre
            obtain ⟨s3, h4, h5⟩ := hK (x, X, live rets y X L) (by simp [cutsOf]) s0 e2 s2 hlo
            refine wp_mono (ihx _ _ _ _ _ _ _ _ (fun p hp => hL p (by simp [loopsOf, hp])) (fun p hp => hK p (by simp [cutsOf, hp])) h4 ho0 hs0) ?_
            rintro ex a' w' ⟨rfl, ι', g1, g2, g3⟩
            exact ⟨rfl, ι', h5.ssim g1, by rw [h5.1]; exact hp0.trans (Nat.le_refl _) g2, by rw [h5.2.1]; exact g3⟩
          · simp [Tree.run] at h1
    cases hr : (bif (LO (cutKey x) noSt).isSome then cutA LO own (live rets x X (live rets y X L)) x s else evC C call LO fuel own rets x X (live rets y X L) s).run with
    | none => rw [hr] at h; cases h
    | some r =>
      obtain ⟨e1, s1⟩ := r
      rw [hr] at h
      simp only [Option.bind_some] at h
      refine wp_seq (wp_mono (first e1 s1 hr) ?_)
      rintro ex a1 w1 ⟨rfl, ι1, h1, h2, h3⟩
      cases e1 with
      | normal =>
        refine wp_mono (ihy _ _ _ _ _ _ _ _ (fun p hp => hL p (by simp [loopsOf, hp])) (fun p hp => hK p (by simp [cutsOf, hp])) h h3 h1) ?_
        rintro ex a2 w2 ⟨rfl, hp⟩
        exact ⟨rfl, hp.trans (a1 := a1) h2⟩
      | exit id =>
        simp [Tree.run] at h
        obtain ⟨rfl, rfl⟩ := h
        exact ⟨rfl, ι1, h1, h2, h3⟩
      | ret =>
        simp [Tree.run] at h
        obtain ⟨rfl, rfl⟩ := h
        exact ⟨rfl, ι1, h1, h2, h3⟩
  | cond c x y ihx ihy =>
    intro X L s e s' ι a w hL hK h ho hs
    simp only [evC, splitL_run] at h
    split at h
    · rename_i t hc
      have hb : a.eval c = .bool t := hs.ev _ _ hc
      rw [Tree.run_ite] at h
      refine wp_cond hb ?_
      cases t with
      | true => exact ihx _ _ _ _ _ _ _ _ (fun p hp => hL p (by simp [loopsOf, hp])) (fun p hp => hK p (by simp [cutsOf, hp])) h ho hs
      | false => exact ihy _ _ _ _ _ _ _ _ (fun p hp => hL p (by simp [loopsOf, hp])) (fun p hp => hK p (by simp [cutsOf, hp])) h ho hs
    · simp [Tree.run] at h
  | block id b ih =>
    intro X L s e s' ι a w hL hK h ho hs
    simp only [evC, Tree.run_bind] at h
    cases hr : (evC C call LO fuel own rets b ((id, L) :: X) L s).run with
    | none => rw [hr] at h; cases h
    | some r =>
      obtain ⟨e1, s1⟩ := r
      rw [hr] at h
      simp only [Option.bind_some] at h
      refine wp_block (wp_mono (ih _ _ _ _ _ _ _ _ (fun p hp => hL p (by simpa [loopsOf] using hp)) (fun p hp => hK p (by simpa [cutsOf] using hp)) hr ho hs) ?_)
      rintro ex a1 w1 ⟨rfl, hp⟩
      cases e1 with
      | normal => simp [Tree.run] at h; obtain ⟨rfl, rfl⟩ := h; exact ⟨rfl, hp⟩
      | ret => simp [Tree.run] at h; obtain ⟨rfl, rfl⟩ := h; exact ⟨rfl, hp⟩
      | exit id' =>
        simp only at h
        by_cases hid : id' = id
        · subst hid
          simp [Tree.run] at h; obtain ⟨rfl, rfl⟩ := h
          simp only [Ex.toExit, Exit.inBlock, if_true]
          exact ⟨trivial, hp⟩
        · rw [beqF hid] at h
          simp [Tree.run] at h; obtain ⟨rfl, rfl⟩ := h
          simp only [Ex.toExit, Exit.inBlock, if_neg hid]
          exact ⟨trivial, hp⟩
  | loop b ih =>
    intro X L s e s' ι a w hL hK h ho hs
    simp only [evC] at h
    have key : ∀ (e : Ex) (s' : St) (n : Nat) (s1 : St) (ι1 : Inj) (a1 : Act) (w1 : World), (loopN (stepL C call LO fuel own rets b X) n s1).run = some (e, s') → SSim C ι1 s1 a1 w1 → Prog own (look s.m) ι w (look s1.m) ι1 w1 → own ≤ s1.nx →
        Code.rounds C.P b (fun ex a' w' => ex = e.toExit ∧ Post C own s ι w s' a' w') n a1 w1 := by
      intro e s' n
      induction n with
      | zero => intro s1 ι1 a1 w1 h _ _ _; simp [loopN, Tree.run] at h
      | succ n ihn =>
        intro s1 ι1 a1 w1 h hs1 hp1 ho1
        simp only [loopN, Tree.run_bind, stepL] at h
        cases ht : tidy own (live rets b X 0) s1 with
        | none => rw [ht] at h; simp [Tree.run] at h
        | some s2 =>
          rw [ht] at h
          simp only at h
          obtain ⟨ι2, hs2, hp2, ho2⟩ := tidy_sound ht hs1
          cases hr : (evC C call LO fuel own rets b X (live rets b X 0) s2).run with
          | none => rw [hr] at h; cases h
          | some r =>
            obtain ⟨e3, s3⟩ := r
            rw [hr] at h
            simp only [Option.bind_some] at h
            rw [rounds_succ]
            refine wp_mono (ih _ _ _ _ _ _ _ _ (fun p hp => hL p (by simp [loopsOf, hp])) (fun p hp => hK p (by simp [cutsOf, hp])) hr ho2 hs2) ?_
            rintro ex a3 w3 ⟨rfl, ι3, hs3, hp3, ho3⟩
            have hp : Prog own (look s.m) ι w (look s3.m) ι3 w3 := hp1.trans (Nat.le_refl _) (hp2.trans (Nat.le_refl _) hp3)
            cases e3 with
            | normal => exact ihn s3 ι3 a3 w3 h hs3 hp ho3
            | exit id => simp [Tree.run] at h; obtain ⟨rfl, rfl⟩ := h; exact ⟨rfl, ι3, hs3, hp, ho3⟩
            | ret => simp [Tree.run] at h; obtain ⟨rfl, rfl⟩ := h; exact ⟨rfl, ι3, hs3, hp, ho3⟩
    cases ht0 : tidy own (live rets b X 0) s with
    | none => rw [ht0] at h; simp [Tree.run] at h
    | some s0 =>
      rw [ht0] at h
      simp only at h
      obtain ⟨ι0, hs0, hp0, ho0⟩ := tidy_sound ht0 hs
      split at h
      · rename_i pre e2 s2 hlo
        rw [Tree.run_ite] at h
        split at h
        case isFalse => simp [Tree.run] at h
        rename_i hpre
        simp [Tree.run] at h
        obtain ⟨rfl, rfl⟩ := h
        subst hpre
        obtain ⟨n, s1, h1, h2⟩ := hL (b, X) (by simp [loopsOf]) s0 e2 s2 hlo
        refine wp_mono (wp_loop_rounds n (key e2 s1 n s0 ι0 a w h1 hs0 hp0 ho0)) ?_
        rintro ex a' w' ⟨rfl, ι', g1, g2, g3⟩
        exact ⟨rfl, ι', h2.ssim g1, by rw [h2.1]; exact g2, by rw [h2.2.1]; exact g3⟩
      · exact wp_loop_rounds fuel (key e s' fuel s0 ι0 a w h hs0 hp0 ho0)
  | exit id =>
    intro X L s e s' ι a w hL hK h ho hs
    simp [evC, Tree.run] at h
    obtain ⟨rfl, rfl⟩ := h
    exact wp_exit ⟨rfl, ι, hs, Prog.refl _ _ _ _, ho⟩
  | scope b ih =>
    intro X L s e s' ι a w hL hK h ho hs
    simp only [evC] at h
    refine wp_scope_straight (wp_mono (ih _ _ _ _ _ _ _ _ (fun p hp => hL p (by simpa [loopsOf] using hp)) (fun p hp => hK p (by simpa [cutsOf] using hp)) h ho hs) ?_)
    rintro ex a1 w1 ⟨rfl, hp⟩
    cases e <;> exact ⟨rfl, hp⟩
  | ret =>
    intro X L s e s' ι a w hL hK h ho hs
    simp [evC, Tree.run] at h
    obtain ⟨rfl, rfl⟩ := h
    exact wp_ret ⟨rfl, ι, hs, Prog.refl _ _ _ _, ho⟩
  | _ => intro X L s e s' ι a w hL hK h ho hs; simp [evC, Tree.run] at h

/-! ### Calls -/
theorem getT_someL : ∀ (args : List V) (n t : Nat) (v : V), getT (someL args ++ noneL n) t = some v → nth args t = some v
  | [], n, t, v, h => by
    exfalso
    have : ∀ (n t : Nat), getT (noneL n) t = none := by
      intro n
      induction n with
      | zero => intro t; rfl
      | succ n ih => intro t; cases t with
        | zero => rfl
        | succ t => exact ih t
    simp [someL, this] at h
  | x :: xs, n, 0, v, h => by simpa [someL, getT, nth] using h
  | x :: xs, n, t + 1, v, h => by simp only [someL, List.cons_append, getT] at h; simpa [nth] using getT_someL xs n t v h
theorem someL_length : ∀ (args : List V), (someL args).length = args.length
  | [] => rfl
  | _ :: xs => by simp [someL, someL_length xs]
theorem noneL_length : ∀ (n : Nat), (noneL n).length = n
  | 0 => rfl
  | n + 1 => by simp [noneL, noneL_length n]

def resF (tmps : Array Value) : ResultVar → Sem Value
  | .tmp t => pure (tmps.getD t undef)
  | .cell p t => do loadVar t (← asAddr (tmps.getD p undef))
theorem evRes_sound {C : Cfg} {ι : Inj} {s : St} {a : Act} {w : World} (hs : SSim C ι s a w) : ∀ (rs : List ResultVar) (vs : List V), evRes C s rs = some vs →
    ∃ xs, (rs.mapM (resF a.tmps)).run C.P w = .ok xs w ∧ V.relL ι vs xs
  | [], vs, h => by simp [evRes] at h; subst h; exact ⟨[], by simp, rfl⟩
  | .tmp t :: rs, vs, h => by
    simp only [evRes] at h
    split at h
    · rename_i v us h1 h2
      obtain rfl := Option.some.inj h
      obtain ⟨x, g1, g2⟩ := hs.tms t v h1
      obtain ⟨xs, k1, k2⟩ := evRes_sound hs rs us h2
      refine ⟨x :: xs, ?_, x, xs, rfl, g2, k2⟩
      have e : a.tmps.getD t undef = x := by simp [g1]
      simp only [List.mapM_cons, resF, Sem.run_bind, Sem.run_pure, Result.andThen_ok, k1, e]
    · cases h
  | .cell t ty :: rs, vs, h => by
    simp only [evRes] at h
    split at h
    · rename_i p us h1 h2
      split at h
      · rename_i v hl
        obtain rfl := Option.some.inj h
        obtain ⟨x, g1, g2⟩ := hs.tms t p h1
        obtain ⟨xs, k1, k2⟩ := evRes_sound hs rs us h2
        obtain ⟨y, q1, q2⟩ := run_evLoad hl hs.mem (fun _ _ => rfl) g2
        have hx : ∃ ad, x = .pointer (some ad) := by
          unfold evLoad at hl
          split at hl
          · obtain ⟨l, _, hx⟩ := g2; exact ⟨_, hx⟩
          · exact ⟨_, g2⟩
          · cases hl
        obtain ⟨ad, rfl⟩ := hx
        simp only [Instr.loadAt, Instr.sureAddr, Sem.run_bind, Sem.run_pure, Result.andThen_ok] at q1
        refine ⟨y :: xs, ?_, y, xs, rfl, q2, k2⟩
        have e : a.tmps.getD t undef = .pointer (some ad) := by simp [g1]
        simp only [List.mapM_cons, resF, Sem.run_bind, Sem.run_pure, e, asAddr, Result.andThen_ok, q1, k1]
      · cases h
    · cases h

mutual
theorem under_ids {n : Nat} : ∀ (v : V), (∀ b ∈ idsV v, b < n) → v.under n = true
  | .ptr b _, h => Nat.blt_eq.mpr (h b (by simp [idsV]))
  | .slice b _ _ _, h => Nat.blt_eq.mpr (h b (by simp [idsV]))
  | .func _ cs, h => underL_ids cs h
  | .iface _ v, h => under_ids v h
  | .agg vs, h => underL_ids vs h
  | .tuple vs, h => underL_ids vs h
  | .bool _, _ => rfl
  | .int _ _, _ => rfl
  | .str _, _ => rfl
  | .gptr _ _, _ => rfl
  | .nilptr, _ => rfl
  | .nilslice, _ => rfl
  | .nilfunc, _ => rfl
  | .niliface, _ => rfl
  | .any, _ => rfl
theorem underL_ids {n : Nat} : ∀ (vs : List V), (∀ b ∈ idsL vs, b < n) → V.underL n vs = true
  | [], _ => rfl
  | v :: vs, h => by
    simp only [V.underL, Bool.and_eq_true]
    exact ⟨under_ids v fun b hb => h b (by simp [idsL, hb]), underL_ids vs fun b hb => h b (by simp [idsL, hb])⟩
end
theorem allUnder_spec {n : Nat} : ∀ {l : List Nat}, allUnder n l = true → ∀ b ∈ l, b < n
  | [], _, b, h => by simp at h
  | x :: xs, h, b, hb => by
    simp only [allUnder, Bool.and_eq_true] at h
    rcases List.mem_cons.mp hb with rfl | hb
    · exact Nat.blt_eq.mp h.1
    · exact allUnder_spec h.2 b hb
theorem look_keepOld (own b : Nat) : ∀ (m : Mem), look (keepOld own m) b = if b < own then look m b else none
  | [] => by simp [keepOld, look]
  | (i, k) :: m => by
    simp only [keepOld]
    cases hi : Nat.blt i own with
    | true =>
      simp only [cond_true, look]
      by_cases hib : i = b
      · subst hib; simp [Nat.blt_eq.mp hi]
      · simp [beqF hib, look_keepOld own b m]
    | false =>
      simp only [cond_false, look, look_keepOld own b m]
      split
      · rename_i hb
        have : i ≠ b := by rintro rfl; rw [Nat.blt_eq.mpr hb] at hi; cases hi
        simp [beqF this]
      · rfl
theorem idsM_mem {own : Nat} : ∀ {m : Mem} {b : Nat} {k : Blk}, look m b = some k → b < own → ∀ c ∈ idsL k.cells, c ∈ idsM own m
  | [], b, k, h, _ => by simp [look] at h
  | (i, k0) :: m, b, k, h, hb => by
    intro c hc
    simp only [look] at h
    simp only [idsM]
    by_cases hib : i = b
    · subst hib
      simp at h; subst h
      rw [Nat.blt_eq.mpr hb]
      simp [hc]
    · rw [beqF hib] at h
      have := idsM_mem (own := own) h hb c hc
      cases Nat.blt i own <;> simp [this]

theorem leave_sound {C : Cfg} {own : Nat} {s : St} {M : MemF} {ι ι' : Inj} {w w' : World} {a : Act} {v : V} {x : Value} (hs : SSim C ι' s a w') (p : Prog own M ι w (look s.m) ι' w') (ho : own ≤ s.nx) (hv : v.rel ι' x) :
    Good C own M ι w v (look (leave own v s.m s.nx).1) (leave own v s.m s.nx).2 x w' := by
  unfold leave
  cases hb : (V.under own v && allUnder own (idsM own s.m)) with
  | false => exact ⟨ι', p, ho, hs.dom, hv, hs.mem⟩
  | true =>
    simp only [Bool.and_eq_true] at hb
    simp only [cond_true]
    have hsub : ∀ b k, look (keepOld own s.m) b = some k → look s.m b = some k ∧ b < own := by
      intro b k h
      rw [look_keepOld] at h
      split at h
      · exact ⟨h, by assumption⟩
      · cases h
    have hcut : ∀ b l, cutI ι' own b = some l → ι' b = some l ∧ b < own := by
      intro b l h
      unfold cutI at h
      split at h
      · exact ⟨h, by assumption⟩
      · cases h
    have he : ∀ b, b < own → ι' b = cutI ι' own b := fun b hb => by simp [cutI, hb]
    refine ⟨cutI ι' own, ⟨fun b hb => by rw [← he b hb]; exact p.ext b hb, p.frame, ?_, ?_, ?_⟩, Nat.le_refl _, fun b l h => (hcut b l h).2, rel_under he v x hb.1 hv, Sim.cut (hs.mem.sub fun b k h => (hsub b k h).1) ?_⟩
    · intro b k l h1 h2 h3
      exact p.news b k l (hsub b k h1).1 h2 (hcut b l h3).1
    · intro b k hb h1
      exact p.old b k hb (hsub b k h1).1
    · intro b k h1 h2
      obtain ⟨b0, k0, q1, q2, q3⟩ := p.ros b k (hsub b k h1).1 h2
      exact ⟨b0, k0, q1, q2, by rw [← he b (hsub b k h1).2]; exact q3⟩
    · intro b k h1
      obtain ⟨g1, g2⟩ := hsub b k h1
      exact ⟨g2, underL_ids _ fun c hc => allUnder_spec hb.2 c (idsM_mem g1 g2 c hc)⟩

theorem evFL_sound {C : Cfg} (hC : C.Ok) {call : CallF} (hcall : CallSound C call) {LO : Loops} {fuel : Nat} {f : FuncId} {args : List V} {m : Mem} {nx : Nat} {v : V} {m' : Mem} {nx' : Nat}
    (hL : ∀ fn c, C.P.funcs[f]? = some fn → fn.body = some c → ∀ p ∈ loopsOf (retBits fn.results.toList) c [] (retBits fn.results.toList), LoopOk C call LO fuel nx (retBits fn.results.toList) p)
    (hK : ∀ fn c, C.P.funcs[f]? = some fn → fn.body = some c → ∀ p ∈ cutsOf (retBits fn.results.toList) c [] (retBits fn.results.toList), CutOk C call LO fuel nx (retBits fn.results.toList) p)
    (h : (evFL C call LO fuel f args m nx).run = some (v, m', nx')) (w : World) (ι : Inj) (xs : List Value) (hd : ∀ b l, ι b = some l → b < nx) (hr : V.relL ι args xs) (hs : Sim C ι (look m) w) :
    Calls C.P f xs.toArray w fun e w' => ∃ x, e = .returned x ∧ Good C nx (look m) ι w v (look m') nx' x w' := by
      unfold evFL at h
      split at h
      case h_2 => simp [Tree.run] at h
      rename_i fn hfn
      split at h
      case h_2 => simp [Tree.run] at h
      rename_i c hc
      rw [Tree.run_bind] at h
      cases he : (evC C call LO fuel nx (retBits fn.results.toList) c [] (retBits fn.results.toList) ⟨someL args ++ noneL (fn.ntmps - args.length), m, nx⟩).run with
      | none => rw [he] at h; cases h
      | some r =>
        obtain ⟨e, s1⟩ := r
        rw [he] at h
        simp only [Option.bind_some] at h
        have hl := relL_length hr
        have hss : SSim C ι ⟨someL args ++ noneL (fn.ntmps - args.length), m, nx⟩ { tmps := xs.toArray ++ Array.replicate (fn.ntmps - xs.toArray.size) undef, defers := [] } w := by
          refine ⟨?_, ?_, hd, hs, rfl⟩
          · intro t u hu
            have := getT_someL args _ t u hu
            obtain ⟨x, h1, h2⟩ := relL_nth hr this
            refine ⟨x, ?_, h2⟩
            have hlt : t < xs.length := by
              rcases Nat.lt_or_ge t xs.length with h' | h'
              · exact h'
              · rw [List.getElem?_eq_none h'] at h1; cases h1
            rw [Array.getElem?_append_left (by simpa using hlt)]
            simpa using h1
          · simp [someL_length, noneL_length, hl]
        have hw := evC_sound hC hcall c [] (retBits fn.results.toList) _ e s1 ι _ w (hL fn c hfn hc) (hK fn c hfn hc) he (Nat.le_refl _) hss
        refine calls_of_wp hfn hc (wp_mono hw ?_)
        rintro ex a1 w1 ⟨rfl, ι1, h1, h2, h3⟩
        have hres : e ≠ .normal → e ≠ .ret → False := by
          intro g1 g2
          cases e with
          | normal => exact g1 rfl
          | ret => exact g2 rfl
          | exit id => simp [Tree.run] at h
        have fin : a1.defers = [] ∧ ∃ y, (results fn a1.tmps).run C.P w1 = .ok y w1 ∧ ∃ x, Ending.returned y = .returned x ∧ Good C nx (look m) ι w v (look m') nx' x w1 := by
          refine ⟨h1.defs, ?_⟩
          have hh : ∃ vs, evRes C s1 fn.results.toList = some vs ∧ ((∃ u, vs = [u] ∧ v = u) ∨ ((∀ u, vs ≠ [u]) ∧ v = .tuple vs)) ∧ m' = (leave nx v s1.m s1.nx).1 ∧ nx' = (leave nx v s1.m s1.nx).2 := by
            have hcase : e = .normal ∨ e = .ret := by
              cases e with
              | normal => exact .inl rfl
              | ret => exact .inr rfl
              | exit id => exact (hres (by simp) (by simp)).elim
            have h' : (match evRes C s1 fn.results.toList with
                | some [v] => let r := leave nx v s1.m s1.nx; Tree.ret (v, r.1, r.2)
                | some vs => let r := leave nx (.tuple vs) s1.m s1.nx; .ret (.tuple vs, r.1, r.2)
                | none => .fail).run = some (v, m', nx') := by
              rcases hcase with rfl | rfl <;> exact h
            split at h'
            · rename_i u hu
              simp [Tree.run] at h'
              obtain ⟨rfl, rfl, rfl⟩ := h'
              exact ⟨_, hu, .inl ⟨_, rfl, rfl⟩, rfl, rfl⟩
            · rename_i vs hn hu
              simp [Tree.run] at h'
              obtain ⟨rfl, rfl, rfl⟩ := h'
              exact ⟨_, hu, .inr ⟨fun u e => hn u e, rfl⟩, rfl, rfl⟩
            · simp [Tree.run] at h'
          obtain ⟨vs, hvs, hv, rfl, rfl⟩ := hh
          obtain ⟨zs, k1, k2⟩ := evRes_sound h1 _ _ hvs
          have hlz := relL_length k2
          have hrun : (results fn a1.tmps).run C.P w1 = .ok (if h : zs.toArray.size = 1 then zs.toArray[0] else .tuple zs.toArray) w1 := by
            have e : results fn a1.tmps = (do let vs ← fn.results.mapM (resF a1.tmps); pure (if h : vs.size = 1 then vs[0] else .tuple vs)) := by
              unfold results
              congr 2
            rw [e, Sem.run_bind, Array.mapM_eq_mapM_toList, Sem.run_map, k1]
            rfl
          rcases hv with ⟨u, rfl, rfl⟩ | ⟨hne, rfl⟩
          · obtain ⟨z, zs', rfl, rz, rn⟩ := k2
            have rn' : zs' = [] := rn
            subst rn'
            refine ⟨z, by rw [hrun]; simp, z, rfl, leave_sound h1 h2 h3 rz⟩
          · have hne1 : zs.toArray.size ≠ 1 := by
              simp only [List.size_toArray, hlz]
              intro hl1
              obtain ⟨u, hu⟩ := List.length_eq_one_iff.mp hl1
              exact hne u hu
            refine ⟨.tuple zs.toArray, by rw [hrun, dif_neg hne1], _, rfl, leave_sound h1 h2 h3 ⟨zs, rfl, k2⟩⟩
        cases e with
        | exit id => exact (hres (by simp) (by simp)).elim
        | normal => exact fin
        | ret => exact fin

theorem evF_sound {C : Cfg} (hC : C.Ok) : ∀ n, CallSound C (evF C n)
  | 0 => by intro f args m nx v m' nx' h; simp [evF, Tree.run] at h
  | n + 1 => by
    intro f args m nx v m' nx' h w ι xs hd hr hs
    simp only [evF] at h
    split at h
    · rename_i pre u ho
      rw [Tree.run_ite] at h
      split at h
      case isFalse => simp [Tree.run] at h
      · rename_i hpre
        simp [Tree.run] at h
        obtain ⟨rfl, rfl, rfl⟩ := h
        subst hpre
        refine (hC.orc f args m u ho w ι xs (fun b l hb => ⟨_, hd b l hb⟩) hs hr).mono ?_
        rintro e w' ⟨y, rfl, hy, hbel⟩
        have hblk : ∀ b k l, look m b = some k → ι b = some l → w'.heap[l.r]? = w.heap[l.r]? := by
          intro b k l h1 h2
          obtain ⟨l2, g1, g2⟩ := hs.blk b k h1
          rw [h2] at g1; obtain rfl := Option.some.inj g1
          exact hbel.block _ g2.lt
        refine ⟨y, rfl, ι, ⟨fun _ _ => rfl, ⟨hbel.os, hbel.tape, hbel.output, hbel.size, fun k hk _ => hbel.block k hk⟩, fun b k l h1 h2 h3 => .inl ⟨b, k, l, h1, h2, h3, rfl⟩, fun b k _ h1 => ⟨k, h1, rfl⟩, fun b k h1 h2 => ⟨b, k, h1, h2, rfl⟩⟩, Nat.le_refl _, hd, rel_mono (by intro _ _ h; cases h) _ _ hy, ⟨hs.glob.keep fun g c hg => hbel.block g (hs.glob.lt hg), ?_, hs.inj, hs.gsep⟩⟩
        intro b k h1
        obtain ⟨l, g1, g2⟩ := hs.blk b k h1
        exact ⟨l, g1, g2.mono (fun _ _ h => h) (hblk b k l h1 g1)⟩
    · exact evFL_sound hC (evF_sound hC n) (fun fn c _ _ p _ s0 e s' hlo => by simp [noLoops] at hlo) (fun fn c _ _ p _ s0 e s' hlo => by simp [noLoops] at hlo) h w ι xs hd hr hs

theorem vals_relL {ι : Inj} : ∀ {args : List V} {xs : List Value}, V.vals args = some xs → V.relL ι args xs
  | [], xs, h => by simp [V.vals] at h; subst h; rfl
  | a :: as, xs, h => by
    unfold V.vals at h
    split at h
    · rename_i h1 h2; obtain rfl := Option.some.inj h; exact ⟨_, _, rfl, rel_val h1, vals_relL h2⟩
    · cases h
theorem valsL_eq {ι : Inj} : ∀ {vs : List V} {us zs : List Value}, V.valT.valsL vs = some zs → V.relL ι vs us → us = zs
  | [], us, zs, h, r => by simp [V.valT.valsL] at h; subst h; exact r
  | v :: vs, us, zs, h, r => by
    obtain ⟨x, xs, rfl, r1, r2⟩ := r
    unfold V.valT.valsL at h
    split at h
    · rename_i h1 h2; obtain rfl := Option.some.inj h; rw [val_rel h1 r1, valsL_eq h2 r2]
    · cases h
theorem valT_eq {ι : Inj} {v : V} {x y : Value} (h : v.valT = some y) (r : v.rel ι x) : x = y := by
  unfold V.valT at h
  split at h
  · split at h
    · rename_i zs hz
      obtain rfl := Option.some.inj h
      obtain ⟨us, rfl, ru⟩ := r
      rw [valsL_eq hz ru]
    · cases h
  · exact val_rel h r
theorem below_of_prog {n : Nat} {ι ι' : Inj} {M' : MemF} {w w' : World} (p : Prog n (look []) ι w M' ι' w') : Below w.heap.size w w' :=
  ⟨p.frame.os, p.frame.tape, p.frame.output, p.frame.size, fun k hk => p.frame.block k hk (by rintro ⟨b, kb, l, hb, _⟩; simp [look] at hb)⟩
theorem sim_nil {C : Cfg} {ι : Inj} {w : World} (hG : GRel C.G w) : Sim C ι (look []) w :=
  ⟨hG, fun b k hb => by simp [look] at hb, fun b b' k k' l l' hb => by simp [look] at hb, fun b k l hb => by simp [look] at hb⟩

/-- **What the evaluator answers for a function that is told plain values, the call returns, whatever the memory and the orders; nothing that was there is changed.** -/
theorem evF_calls {C : Cfg} (hC : C.Ok) {n : Nat} {f : FuncId} {args : List V} {v : V} {m' : Mem} {nx' : Nat} (h : (evF C n f args [] 0).run = some (v, m', nx')) {xs : List Value} (hx : V.vals args = some xs) {y : Value} (hy : v.valT = some y) {w : World} (hG : GRel C.G w) :
    Calls C.P f xs.toArray w fun e w' => e = .returned y ∧ Below w.heap.size w w' := by
  refine (evF_sound hC n f args [] 0 v m' nx' h w (fun _ => none) xs (fun _ _ h => by cases h) (vals_relL hx) (sim_nil hG)).mono ?_
  rintro e w' ⟨x, rfl, ι', p, _, _, hv, _⟩
  exact ⟨by rw [valT_eq hy hv], below_of_prog p⟩

/-- The loops of a function, by their place. -/
def loopsF (C : Cfg) (f : FuncId) : List (Code × List (Nat × Nat)) :=
  match C.P.funcs[f]? with
  | some fn => match fn.body with
    | some c => loopsOf (retBits fn.results.toList) c [] (retBits fn.results.toList)
    | none => []
  | none => []
def retsF (C : Cfg) (f : FuncId) : Nat := match C.P.funcs[f]? with | some fn => retBits fn.results.toList | none => 0
/-- One round of a function's loop number j. -/
def stepF (C : Cfg) (call : CallF) (LO : Loops) (fuel : Nat) (f : FuncId) (j : Nat) (s : St) : Tree (Ex × St) :=
  match (loopsF C f)[j]? with
  | some p => stepL C call LO fuel 0 (retsF C f) p.1 p.2 s
  | none => .fail
def keyF (C : Cfg) (f : FuncId) (j : Nat) : Nat := match (loopsF C f)[j]? with | some p => keyOf p.1 | none => 0

def cutsF (C : Cfg) (f : FuncId) : List (Code × List (Nat × Nat) × Nat) :=
  match C.P.funcs[f]? with
  | some fn => match fn.body with
    | some c => cutsOf (retBits fn.results.toList) c [] (retBits fn.results.toList)
    | none => []
  | none => []
/-- A function's part number j. -/
def partF (C : Cfg) (call : CallF) (LO : Loops) (fuel : Nat) (f : FuncId) (j : Nat) (s : St) : Tree (Ex × St) :=
  match (cutsF C f)[j]? with
  | some p => evC C call LO fuel 0 (retsF C f) p.1 p.2.1 p.2.2 s
  | none => .fail
/-- The names of a function's parts. -/
def cutKeysF (C : Cfg) (f : FuncId) : List Nat := (cutsF C f).map fun p => cutKey p.1

/-- The same with what is known of the function's loops. -/
theorem evFL_calls {C : Cfg} (hC : C.Ok) {n fuel : Nat} {LO : Loops} {f : FuncId} {args : List V} {v : V} {m' : Mem} {nx' : Nat} (h : (evFL C (evF C n) LO fuel f args [] 0).run = some (v, m', nx'))
    (hL : ∀ j, j < (loopsF C f).length → ∀ s0 e s', LO (keyF C f j) s0 = some (true, e, s') → ∃ k s1, (loopN (stepF C (evF C n) LO fuel f j) k s0).run = some (e, s1) ∧ Weaker s' s1)
    (hK : ∀ j k, (cutKeysF C f)[j]? = some k → ∀ s0 e s', LO k s0 = some (true, e, s') → ∃ s1, (partF C (evF C n) LO fuel f j s0).run = some (e, s1) ∧ Weaker s' s1)
    {xs : List Value} (hx : V.vals args = some xs) {y : Value} (hy : v.valT = some y) {w : World} (hG : GRel C.G w) :
    Calls C.P f xs.toArray w fun e w' => e = .returned y ∧ Below w.heap.size w w' := by
  refine (evFL_sound hC (evF_sound hC n) (LO := LO) (fuel := fuel) ?_ ?_ h w (fun _ => none) xs (fun _ _ h => by cases h) (vals_relL hx) (sim_nil hG)).mono ?_
  · intro fn c hfn hc p hp s0 e s' hlo
    obtain ⟨j, hj, rfl⟩ := List.getElem_of_mem hp
    have hLf : loopsF C f = loopsOf (retBits fn.results.toList) c [] (retBits fn.results.toList) := by unfold loopsF; simp only [hfn, hc]
    have hRf : retsF C f = retBits fn.results.toList := by unfold retsF; simp only [hfn]
    have hj' : (loopsF C f)[j]? = some ((loopsOf (retBits fn.results.toList) c [] (retBits fn.results.toList))[j]) := by rw [hLf]; exact List.getElem?_eq_getElem hj
    have := hL j (by rw [hLf]; exact hj) s0 e s' (by unfold keyF; rw [hj']; exact hlo)
    have es : stepF C (evF C n) LO fuel f j = stepL C (evF C n) LO fuel 0 (retBits fn.results.toList) ((loopsOf (retBits fn.results.toList) c [] (retBits fn.results.toList))[j]).1 ((loopsOf (retBits fn.results.toList) c [] (retBits fn.results.toList))[j]).2 := by
      funext s
      unfold stepF
      rw [hj', hRf]
    rw [es] at this
    exact this
  · intro fn c hfn hc p hp s0 e s' hlo
    obtain ⟨j, hj, rfl⟩ := List.getElem_of_mem hp
    have hLf : cutsF C f = cutsOf (retBits fn.results.toList) c [] (retBits fn.results.toList) := by unfold cutsF; simp only [hfn, hc]
    have hRf : retsF C f = retBits fn.results.toList := by unfold retsF; simp only [hfn]
    have hj' : (cutsF C f)[j]? = some ((cutsOf (retBits fn.results.toList) c [] (retBits fn.results.toList))[j]) := by rw [hLf]; exact List.getElem?_eq_getElem hj
    have := hK j _ (by unfold cutKeysF; rw [List.getElem?_map, hj']; rfl) s0 e s' hlo
    unfold partF at this
    rw [hj', hRf] at this
    exact this
  · rintro e w' ⟨x, rfl, ι', p, _, _, hv, _⟩
    exact ⟨by rw [valT_eq hy hv], below_of_prog p⟩

structure Orc where
  f : FuncId
  g : List V → Option (Bool × V)
def orcs : List Orc → FuncId → List V → Mem → Option (Bool × V)
  | [], _, _, _ => none
  | o :: os, f, args, m => bif Nat.beq o.f f then o.g args else orcs os f args m
def OrcOk (P : Program) (G : Nat → Option (List V × TypeId)) (o : Orc) : Prop :=
  ∀ args v, o.g args = some (true, v) → ∃ xs, V.vals args = some xs ∧ ∀ w, GRel G w → Calls P o.f xs.toArray w fun e w' => ∃ y, e = .returned y ∧ v.rel (fun _ => none) y ∧ Below w.heap.size w w'
/-- A contract whose value is plain. -/
theorem orc_plain {P : Program} {G : Nat → Option (List V × TypeId)} {o : Orc} (h : ∀ args v, o.g args = some (true, v) → ∃ xs y, V.vals args = some xs ∧ v.valT = some y ∧ ∀ w, GRel G w → Calls P o.f xs.toArray w fun e w' => e = .returned y ∧ Below w.heap.size w w') : OrcOk P G o := by
  intro args v hg
  obtain ⟨xs, y, h1, h2, h3⟩ := h args v hg
  exact ⟨xs, h1, fun w hw => (h3 w hw).mono fun e w' ⟨e1, e2⟩ => ⟨y, e1, rel_valT h2, e2⟩⟩
def mkC (P : Program) (G : Nat → Option (List V × TypeId)) (eqT : TypeId → Bool) (os : List Orc) : Cfg := ⟨P, G, orcs os, eqT⟩
theorem orcs_some {os : List Orc} {f : FuncId} {args : List V} {m : Mem} {r : Bool × V} (h : orcs os f args m = some r) : ∃ o ∈ os, o.f = f ∧ o.g args = some r := by
  induction os with
  | nil => simp [orcs] at h
  | cons o os ih =>
    simp only [orcs] at h
    cases hb : Nat.beq o.f f with
    | true => rw [hb] at h; exact ⟨o, by simp, Nat.eq_of_beq_eq_true hb, h⟩
    | false =>
      rw [hb] at h
      obtain ⟨o', h1, h2⟩ := ih h
      exact ⟨o', by simp [h1], h2⟩
theorem mkC_ok {P : Program} {G : Nat → Option (List V × TypeId)} {eqT : TypeId → Bool} {os : List Orc} (hm : P.follows .mixedOrders = true) (hn : ∀ (f : Nat) (fn : Func), P.funcs[f]? = some fn → fn.body.isSome = true → (fn.name == "runtime.NumGoroutine") = false)
    (he : ∀ t, eqT t = true → P.stoodInHeld t = false ∧ P.eqGuardType P.depth t = false) (ho : ∀ o ∈ os, OrcOk P G o) : (mkC P G eqT os).Ok := by
  refine ⟨hm, hn, he, ?_⟩
  intro f args m v h w ι xs _ hs hr
  obtain ⟨o, h1, rfl, h3⟩ := orcs_some h
  obtain ⟨xs', k1, k3⟩ := ho o h1 args v h3
  obtain rfl := vals_rel k1 hr
  exact k3 w hs.glob
/-- No function of a program bears a name, asked function by function. -/
theorem names_of {P : Program} (h : (P.funcs.toList.all fun fn => !(fn.name == "runtime.NumGoroutine")) = true) : ∀ (f : Nat) (fn : Func), P.funcs[f]? = some fn → fn.body.isSome = true → (fn.name == "runtime.NumGoroutine") = false := by
  intro f fn hf _
  rw [List.all_eq_true] at h
  have := h fn (by rw [Array.mem_toList_iff]; exact Array.mem_of_getElem? hf)
  simpa using this
end Go.Ex
