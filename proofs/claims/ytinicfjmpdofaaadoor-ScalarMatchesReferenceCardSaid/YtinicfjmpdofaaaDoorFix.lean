/- The text of a fixed-point number, as the program writes it. No condition but the number's size. -/
import Derived.Test.YtinicfjmpdofaaaDoorBld
import Derived.Test.YtinicfjmpdofaaaDoorShf
import Derived.Test.YtinicfjmpdofaaaDoorNum
import Derived.BigCall
set_option linter.unusedVariables false
namespace Go.Proofs.YtinicfjmpdofaaaDoor.BL
open Go Go.RowKit Go.Proofs.YtinicfjmpdofaaaDoor.SX

theorem fmt (x : Int) (k : Nat) (hx : x = k) (hk : k < 100) (w : World) : Calls Tryd.prog 60 #[.int .i64 x, .int .i64 10] w fun e w' => e = .returned (.string ⟨(Lib.decDigits k).toArray⟩) ∧ w' = w := by
  subst hx; exact Tryd.strconv_FormatInt_10_small k hk w
def Inv (w : World) (target : List UInt8) (j : Nat) (fb : Bool) (acc : List UInt8) (wr : World) : Prop :=
  j < 65536 ∧ Lib.IsBuilder 85 5 w.heap.size w.heap.size (Lib.byteCells acc) wr ∧ Below w.heap.size w wr ∧ ∃ fuel, acc ++ (if fb = true ∨ 0 < j then fracF fuel j else []) = target ∧ 65536 ∣ j * 2 ^ fuel ∧ (fb = true → 1 ≤ fuel) ∧ acc.length + fuel ≤ 1000 ∧ acc ≠ []
def stepsF : Nat → Nat → Nat
  | 0, _ => 0
  | k + 1, j => if j = 0 then 0 else stepsF k (j * 10 % 65536) + 1
def mu (j : Nat) (fb : Bool) : Nat := 2 * stepsF 17 j + (if fb then 1 else 0)
def boolOf : Value → Bool
  | .bool b => b
  | _ => false

theorem decF_eq : ∀ (k n : Nat), n < 10 ^ (k + 1) → decF (k + 1) n = Lib.decDigits n := by
  intro k
  induction k with
  | zero =>
    intro n h
    rw [Lib.decDigits, dif_pos (by simpa using h)]
    unfold decF
    rw [show Nat.blt n 10 = true from Nat.blt_eq.mpr (by simpa using h)]; rfl
  | succ k ih =>
    intro n h
    unfold decF
    by_cases c : n < 10
    · rw [show Nat.blt n 10 = true from Nat.blt_eq.mpr c, Lib.decDigits, dif_pos c]; rfl
    · rw [show Nat.blt n 10 = false by cases q : Nat.blt n 10 with | false => rfl | true => exact absurd (Nat.blt_eq.mp q) c]
      rw [Lib.decDigits, dif_neg c, cond_false, ih (n / 10) (by rw [Nat.div_lt_iff_lt_mul (by decide)]; rw [Nat.pow_succ] at h; exact h)]
theorem decF_length : ∀ (k n : Nat), (decF k n).length ≤ k := by
  intro k
  induction k with
  | zero => intro n; simp [decF]
  | succ k ih =>
    intro n
    unfold decF
    cases Nat.blt n 10 with
    | true => simp
    | false => have := ih (n / 10); simp; omega
theorem fixL_neg {n : Int} (h : n < 0) : fixL n = 45 :: fixN n.natAbs := by
  cases n with
  | ofNat m => exact absurd (Int.natCast_nonneg m) (Int.not_le.2 h)
  | negSucc m => rfl
theorem fixL_pos {n : Int} (h : 0 ≤ n) : fixL n = fixN n.natAbs := by
  cases n with
  | ofNat m => rfl
  | negSucc m => omega
theorem mask16 {x : Int} (h1 : 0 ≤ x) (h2 : x ≤ 9223372036854775807) : Go.bits .and .i64 x 65535 = x % 65536 := by
  obtain ⟨m, rfl⟩ : ∃ m : Nat, x = m := ⟨x.toNat, by omega⟩
  have e : (BitVec.ofInt 64 (m : Int) &&& BitVec.ofInt 64 65535).toNat = m % 65536 := by
    rw [BitVec.toNat_and, BitVec.toNat_ofInt, BitVec.toNat_ofInt]
    have a : ((m : Int) % (2 ^ 64 : Nat)).toNat = m := by omega
    have b : ((65535 : Int) % (2 ^ 64 : Nat)).toNat = 2 ^ 16 - 1 := by decide
    rw [a, b, Nat.and_two_pow_sub_one_eq_mod]
  unfold Go.bits
  first
  | (show IntKind.i64.wrap _ = _; rw [e, IntKind.wrap_i64]; omega)
  | (simp only []; rw [show IntKind.i64.bits = 64 from rfl, e, IntKind.wrap_i64]; omega)
theorem dvd_next {j k : Nat} (h : 65536 ∣ j * 2 ^ (k + 1)) : 65536 ∣ (j * 10 % 65536) * 2 ^ k := by
  have e : j * 10 = 65536 * (j * 10 / 65536) + j * 10 % 65536 := (Nat.div_add_mod _ _).symm
  have e2 : j * 10 * 2 ^ k = 5 * (j * 2 ^ (k + 1)) := by
    rw [Nat.pow_succ]
    have : 2 ^ k * 2 = 2 * 2 ^ k := Nat.mul_comm _ _
    rw [this, ← Nat.mul_assoc j 2, ← Nat.mul_assoc 5]
    congr 1; omega
  have d1 : 65536 ∣ j * 10 * 2 ^ k := by rw [e2]; exact Nat.dvd_mul_left_of_dvd h 5
  rw [e, Nat.add_mul] at d1
  refine (Nat.dvd_add_right ?_).1 d1
  rw [Nat.mul_assoc]; exact Nat.dvd_mul_right _ _
theorem stepsF_succ (k : Nat) {j : Nat} (c : j ≠ 0) : stepsF (k + 1) j = stepsF k (j * 10 % 65536) + 1 := by simp [stepsF, c]
theorem steps_more : ∀ (k j : Nat), j < 65536 → 65536 ∣ j * 2 ^ k → stepsF (k + 1) j = stepsF k j := by
  intro k
  induction k with
  | zero =>
    intro j h1 h2
    have : j = 0 := by
      rcases Nat.eq_zero_or_pos j with q | q
      · exact q
      · have := Nat.le_of_dvd q (by simpa using h2); omega
    subst this; rfl
  | succ k ih =>
    intro j h1 h2
    by_cases c : j = 0
    · subst c; rfl
    · rw [stepsF_succ _ c, stepsF_succ _ c, ih _ (Nat.mod_lt _ (by decide)) (dvd_next h2)]
theorem mu_down {j : Nat} {fb : Bool} (hj : j < 65536) (hc : fb = true ∨ 0 < j) : mu (j * 10 % 65536) false < mu j fb := by
  unfold mu
  simp only [Bool.false_eq_true, if_false, Nat.add_zero]
  have hm : j * 10 % 65536 < 65536 := Nat.mod_lt _ (by decide)
  have e := steps_more 16 _ hm (Nat.dvd_mul_left 65536 (j * 10 % 65536))
  by_cases h0 : j = 0
  · subst h0
    rcases hc with rfl | hc
    · simp [stepsF]
    · omega
  · have e2 : stepsF 17 j = stepsF 16 (j * 10 % 65536) + 1 := stepsF_succ 16 h0
    have e3 : stepsF 17 (j * 10 % 65536) = stepsF 16 (j * 10 % 65536) := e
    rw [e2, e3]; split <;> omega

abbrev B8 (w : World) := Lib.BuilderAt 85 5 w.heap.size w.heap.size (.pointer (some ⟨w.heap.size, 0, none⟩))
theorem inv_start {w w3 : World} (pre : List UInt8) (m : Nat) {bs : List Value} (hI : B8 w bs w3) (e : bs = Lib.byteCells (pre ++ Lib.decDigits (m / 65536) ++ [46])) (hb : Below w.heap.size w w3) (hm : m < 65536 * 10 ^ 20) (hp : pre.length ≤ 1) {T : List UInt8} (hT : T = pre ++ fixN m) :
    Inv w T (m % 65536) true (pre ++ Lib.decDigits (m / 65536) ++ [46]) w3 := by
  subst e hT
  have hd : decF 20 (m / 65536) = Lib.decDigits (m / 65536) := decF_eq 19 _ (by omega)
  refine ⟨Nat.mod_lt _ (by decide), .inr hI, hb, 17, ?_, ?_, fun _ => by decide, ?_, by simp⟩
  · rw [if_pos (.inl rfl)]
    unfold fixN
    rw [hd]; simp
  · exact Nat.dvd_trans (show 65536 ∣ 2 ^ 17 by decide) (Nat.dvd_mul_left _ _)
  · have := decF_length 20 (m / 65536)
    rw [hd] at this
    simp; omega
theorem inv_step {w wr w2 : World} {T acc : List UInt8} {j : Nat} {fb : Bool} {c : Int} (h : Inv w T j fb acc wr) (hc : fb = true ∨ 0 < j) (hI : B8 w (Lib.byteCells acc ++ [.int .u8 c]) w2) (hb : Below w.heap.size wr w2) (he : c = ((48 + j * 10 / 65536 : Nat) : Int)) :
    Inv w T (j * 10 % 65536) false (acc ++ [UInt8.ofNat (48 + j * 10 / 65536)]) w2 := by
  obtain ⟨hj, _, hb0, fuel, e, hd, hf, hl, hne⟩ := h
  have hfu : 1 ≤ fuel := by
    rcases hc with hc | hc
    · exact hf hc
    · rcases Nat.eq_zero_or_pos fuel with q | q
      · subst q
        have := Nat.le_of_dvd hc (by simpa using hd); omega
      · exact q
  obtain ⟨k, rfl⟩ : ∃ k, fuel = k + 1 := ⟨fuel - 1, by omega⟩
  have hdig : 48 + j * 10 / 65536 < 256 := by omega
  refine ⟨Nat.mod_lt _ (by decide), .inr ?_, hb0.trans hb, k, ?_, dvd_next hd, (by intro q; cases q), by simp; omega, by simp⟩
  · have ec : Lib.byteCells (acc ++ [UInt8.ofNat (48 + j * 10 / 65536)]) = Lib.byteCells acc ++ [.int .u8 c] := by
      rw [Lib.byteCells_append, he]
      have : (UInt8.ofNat (48 + j * 10 / 65536)).toNat = 48 + j * 10 / 65536 := by simp; omega
      simp only [Lib.byteCells, List.map_cons, List.map_nil, this]
    rw [ec]; exact hI
  · rw [if_pos hc] at e
    have ef : fracF (k + 1) j = UInt8.ofNat (48 + j * 10 / 65536) :: (bif Nat.beq (j * 10 % 65536) 0 then [] else fracF k (j * 10 % 65536)) := rfl
    rw [← e, ef, List.append_assoc]
    congr 1
    show _ :: _ = _ :: _
    congr 1
    by_cases z : j * 10 % 65536 = 0
    · rw [z]; simp [Nat.beq]
    · rw [if_pos (.inr (by omega))]
      have : Nat.beq (j * 10 % 65536) 0 = false := by cases q : Nat.beq (j * 10 % 65536) 0 with | false => rfl | true => exact absurd (Nat.eq_of_beq_eq_true q) z
      rw [this, cond_false]; rfl
theorem inv_end {w wr : World} {T acc : List UInt8} {j : Nat} {fb : Bool} (h : Inv w T j fb acc wr) (hc : ¬ (fb = true ∨ 0 < j)) : acc = T ∧ acc ≠ [] := by
  obtain ⟨_, _, _, fuel, e, _, _, _, hne⟩ := h
  rw [if_neg hc, List.append_nil] at e
  exact ⟨e, hne⟩

theorem round_end {w wr w2 : World} {T acc : List UInt8} {j : Nat} {fb : Bool} (h : Inv w T j fb acc wr) (hc : fb = true ∨ 0 < j) (hI : B8 w (Lib.byteCells acc ++ [.int .u8 (48 + (j : Int) * 10 / 65536)]) w2) (hb : Below w.heap.size wr w2) :
    (∃ (j_1 : Nat) (fb : Bool) (acc : List UInt8), Value.int .i64 (Go.bits .and .i64 ((j : Int) * 10) 65535) = Value.int .i64 (j_1 : Int) ∧ Value.bool false = Value.bool fb ∧ Hid (Inv w T j_1 fb acc w2)) ∧
    mu (intOf (Value.int .i64 (Go.bits .and .i64 ((j : Int) * 10) 65535))).toNat (boolOf (Value.bool false)) < mu (intOf (Value.int .i64 (j : Int))).toNat (boolOf (Value.bool fb)) := by
  have hj := h.1
  have em : Go.bits .and .i64 ((j : Int) * 10) 65535 = ((j * 10 % 65536 : Nat) : Int) := by rw [mask16 (by omega) (by omega)]; omega
  rw [em]
  refine ⟨⟨_, false, _, rfl, rfl, Lib.hid (inv_step h hc hI hb (by omega))⟩, ?_⟩
  have e : ∀ k : Nat, (intOf (Value.int .i64 (k : Int))).toNat = k := fun k => by simp [intOf]
  rw [e, e]
  exact mu_down hj hc
theorem digs_len {k : Nat} (h : k < 10 ^ 20) : (Lib.decDigits k).length ≤ 20 := by
  rw [← decF_eq 19 k h]; exact decF_length 20 k
set_option maxHeartbeats 4000000 in
set_option maxRecDepth 100000 in
theorem fixed_walk (n : Int) (h1 : -6553600 < n) (h2 : n < 6553600) (w : World) :
    Calls Tryd.prog 49 #[.int .i64 n] w fun e w' => e = .returned (.string ⟨⟨fixL n⟩⟩) ∧ Below w.heap.size w w' := by
  have hI0 : Lib.IsBuilder 85 5 w.heap.size w.heap.size [] (w.alloc (.cells #[.pointer none, .slice none 0 0] 85)) := Lib.fresh_isBuilder 85 5 w
  have hb0 : Below w.heap.size w (w.alloc (.cells #[.pointer none, .slice none 0 0] 85)) := (Below.refl _ w).alloc (Nat.le_refl _) _
  have hdl := digs_len (k := n.natAbs / 65536) (by omega)
  have hdlen : ∀ z : Nat, z ≤ 1 → z + (ByteArray.mk (Lib.decDigits (n.natAbs / 65536)).toArray).size ≤ 140737488355328 := by
    intro z hz
    have : (ByteArray.mk (Lib.decDigits (n.natAbs / 65536)).toArray).size = (Lib.decDigits (n.natAbs / 65536)).length := by simp [ByteArray.size]
    omega
  have hdlen2 : ∀ (bs : List Value), bs.length ≤ 1 → (bs ++ Lib.strCells (ByteArray.mk (Lib.decDigits (n.natAbs / 65536)).toArray)).length + 1 ≤ 140737488355328 := by
    intro bs hz
    have e : (ByteArray.mk (Lib.decDigits (n.natAbs / 65536)).toArray).data.toList.length = (Lib.decDigits (n.natAbs / 65536)).length := by simp
    rw [Lib.strCells_eq, List.length_append, Lib.byteCells_length, e]
    omega
  by_cases hn : n < 0
  · go_enter Tryd.func49, Tryd.ntmps49
    go_wp2_with (first
      | (go_at_call 58; refine (wb w.heap.size w.heap.size _ _ _ hI0 (by simp) (by have := hb0.size; omega)).mono ?_; rintro e W1 ⟨rfl, hI1, hb1⟩; refine Hid.out ?_))
    refine Lib.hid ?_
    have s1 := hb1.size
    have s0 := hb0.size
    go_wp2_with (first
      | (go_at_call 60; refine (fmt _ (n.natAbs / 65536) (by omega) (by omega) _).mono ?_; rintro e W2 ⟨rfl, rfl⟩; refine Hid.out ?_))
    refine Lib.hid ?_
    go_wp2_with (first
      | (go_at_call 59; refine (ws w.heap.size w.heap.size _ _ _ (.inr hI1) (hdlen _ (by simp)) (by omega)).mono ?_))
    rintro e W2 ⟨rfl, hI2, hb2⟩
    have s2 := hb2.size
    go_wp2_with (first
      | (go_at_call 58; refine (wb w.heap.size w.heap.size _ _ _ (.inr hI2) (hdlen2 _ (by simp)) (by omega)).mono ?_))
    rintro e W3 ⟨rfl, hI3, hb3⟩
    have s3 := hb3.size
    have hstart : ∃ (j : Nat) (fb : Bool) (acc : List UInt8), Value.int .i64 (Go.bits .and .i64 (-n) 65535) = .int .i64 j ∧ Value.bool true = .bool fb ∧ Hid (Inv w (fixL n) j fb acc W3) := by
      refine ⟨n.natAbs % 65536, true, _, ?_, rfl, Lib.hid (inv_start [45] n.natAbs hI3 ?_ ((hb0.trans hb1).trans (hb2.trans hb3)) (by omega) (by simp) (fixL_neg hn))⟩
      · rw [mask16 (by omega) (by omega)]; congr 1; omega
      · rw [Lib.strCells_eq]; simp [Lib.byteCells]
    go_wp2
    go_loopw [4, 5] (fun r f wr => ∃ (j : Nat) (fb : Bool) (acc : List UInt8), r = .int .i64 j ∧ f = .bool fb ∧ Hid (Inv w (fixL n) j fb acc wr)) (fun r f _ => mu (intOf r).toNat (boolOf f))
    case atStart => exact hstart
    case round =>
      obtain ⟨j, fb, acc, rfl, rfl, hinv⟩ := hrel
      have hinv := hinv.out
      have hj := hinv.1
      have hI := hinv.2.1
      have hbw := hinv.2.2.1
      have hlen : acc.length ≤ 1000 := by obtain ⟨_, _, _, _, _, _, _, hl, _⟩ := hinv; omega
      have hsz := hbw.size
      by_cases hc : fb = true ∨ 0 < j
      · have hfb : fb = false → 0 < j := fun q => hc.elim (fun h => by rw [q] at h; cases h) id
        have hwb : ∀ c : Int, Calls Tryd.prog 58 #[.pointer (some ⟨w.heap.size, 0, none⟩), .int .u8 c] wr _ := fun c => wb w.heap.size w.heap.size _ c wr hI (by rw [Lib.byteCells_length]; omega) hsz
        clear hI0 hI1 hI2 hI3
        cases fb with
        | true =>
          go_wp2_with (go_at_call 58; refine (hwb _).mono ?_; rintro e W5 ⟨rfl, hI5, hb5⟩)
          exact round_end hinv (.inl rfl) hI5 hb5
        | false =>
          have hj0 := hfb rfl
          go_wp2_with (go_at_call 58; refine (hwb _).mono ?_; rintro e W5 ⟨rfl, hI5, hb5⟩)
          exact round_end hinv (.inr hj0) hI5 hb5
      · have hfb : fb = false := Bool.eq_false_iff.2 fun h => hc (.inl h)
        have hj0 : j = 0 := Nat.eq_zero_of_not_pos fun h => hc (.inr h)
        obtain ⟨hT, hne⟩ := inv_end hinv hc
        subst hfb hj0
        go_wp2_with (go_at_call 61; refine (Tryd.Builder_String w.heap.size w.heap.size acc wr hI hne).mono ?_; rintro e W4 ⟨rfl, hb4⟩)
        go_wp2
        go_ret
        exact ⟨rfl, hbw.trans hb4⟩
  · go_enter Tryd.func49, Tryd.ntmps49
    have s0 := hb0.size
    go_wp2_with (first
      | (go_at_call 60; refine (fmt _ (n.natAbs / 65536) (by omega) (by omega) _).mono ?_; rintro e W2 ⟨rfl, rfl⟩; refine Hid.out ?_))
    refine Lib.hid ?_
    go_wp2_with (first
      | (go_at_call 59; refine (ws w.heap.size w.heap.size _ _ _ hI0 (hdlen _ (by simp)) (by omega)).mono ?_))
    rintro e W2 ⟨rfl, hI2, hb2⟩
    have s2 := hb2.size
    go_wp2_with (first
      | (go_at_call 58; refine (wb w.heap.size w.heap.size _ _ _ (.inr hI2) (hdlen2 _ (by simp)) (by omega)).mono ?_))
    rintro e W3 ⟨rfl, hI3, hb3⟩
    have s3 := hb3.size
    have hstart : ∃ (j : Nat) (fb : Bool) (acc : List UInt8), Value.int .i64 (Go.bits .and .i64 n 65535) = .int .i64 j ∧ Value.bool true = .bool fb ∧ Hid (Inv w (fixL n) j fb acc W3) := by
      refine ⟨n.natAbs % 65536, true, _, ?_, rfl, Lib.hid (inv_start [] n.natAbs hI3 ?_ (hb0.trans (hb2.trans hb3)) (by omega) (by simp) (fixL_pos (by omega)))⟩
      · rw [mask16 (by omega) (by omega)]; congr 1; omega
      · rw [Lib.strCells_eq]; simp [Lib.byteCells]
    go_wp2
    go_loopw [4, 5] (fun r f wr => ∃ (j : Nat) (fb : Bool) (acc : List UInt8), r = .int .i64 j ∧ f = .bool fb ∧ Hid (Inv w (fixL n) j fb acc wr)) (fun r f _ => mu (intOf r).toNat (boolOf f))
    case atStart => exact hstart
    case round =>
      obtain ⟨j, fb, acc, rfl, rfl, hinv⟩ := hrel
      have hinv := hinv.out
      have hj := hinv.1
      have hI := hinv.2.1
      have hbw := hinv.2.2.1
      have hlen : acc.length ≤ 1000 := by obtain ⟨_, _, _, _, _, _, _, hl, _⟩ := hinv; omega
      have hsz := hbw.size
      by_cases hc : fb = true ∨ 0 < j
      · have hfb : fb = false → 0 < j := fun q => hc.elim (fun h => by rw [q] at h; cases h) id
        have hwb : ∀ c : Int, Calls Tryd.prog 58 #[.pointer (some ⟨w.heap.size, 0, none⟩), .int .u8 c] wr _ := fun c => wb w.heap.size w.heap.size _ c wr hI (by rw [Lib.byteCells_length]; omega) hsz
        clear hI0 hI2 hI3
        cases fb with
        | true =>
          go_wp2_with (go_at_call 58; refine (hwb _).mono ?_; rintro e W5 ⟨rfl, hI5, hb5⟩)
          exact round_end hinv (.inl rfl) hI5 hb5
        | false =>
          have hj0 := hfb rfl
          go_wp2_with (go_at_call 58; refine (hwb _).mono ?_; rintro e W5 ⟨rfl, hI5, hb5⟩)
          exact round_end hinv (.inr hj0) hI5 hb5
      · have hfb : fb = false := Bool.eq_false_iff.2 fun h => hc (.inl h)
        have hj0 : j = 0 := Nat.eq_zero_of_not_pos fun h => hc (.inr h)
        obtain ⟨hT, hne⟩ := inv_end hinv hc
        subst hfb hj0
        go_wp2_with (go_at_call 61; refine (Tryd.Builder_String w.heap.size w.heap.size acc wr hI hne).mono ?_; rintro e W4 ⟨rfl, hb4⟩)
        go_wp2
        go_ret
        exact ⟨rfl, hbw.trans hb4⟩
end Go.Proofs.YtinicfjmpdofaaaDoor.BL
