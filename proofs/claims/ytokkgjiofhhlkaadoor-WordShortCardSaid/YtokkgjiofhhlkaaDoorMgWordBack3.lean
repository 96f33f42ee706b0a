/- Parts of the proof of the law WordBack, in one text: Utf, Ev, PureChars, PureKnown, PureDec, Alph, B64, B64b, B64a, B64c. -/
import Derived.Lib.RuneBytes
import Derived.Lib.OthersKept
import Derived.Laws.RangeAny
import Derived.Test.YtokkgjiofhhlkaaDoorWWords
import Derived.Test.YtokkgjiofhhlkaaDoorMgWordBack1
import Derived.Test.YtokkgjiofhhlkaaDoorMgWordBack2
import Derived.Test.YtokkgjiofhhlkaaDoorMgWordBack0
import Derived.Deep.RegionWith
import Derived.Deep.DeepCutAuto
import Derived.Deep.Heap
import Derived.BigQuiet
import Derived.BigRegion
import Derived.Lib.BufferKept
import Derived.Laws.BitsAllLaws
import Derived.Lib.SmallJoins
namespace Go.Proofs.YtokkgjiofhhlkaaDoor
set_option linter.unusedVariables false
set_option linter.unusedSimpArgs false
def byteAt (l : List UInt8) (j : Nat) : Nat := (l.getD j 0).toNat
def contAt (l : List UInt8) (j : Nat) : Bool := decide (j < l.length) && byteAt l j / 64 == 2
def uDec (l : List UInt8) : Nat × Nat :=
  if byteAt l 0 < 128 then (byteAt l 0, 1)
  else if byteAt l 0 / 32 == 6 && contAt l 1 then
    if byteAt l 0 % 32 * 64 + byteAt l 1 % 64 ≥ 128 then (byteAt l 0 % 32 * 64 + byteAt l 1 % 64, 2) else (65533, 1)
  else if byteAt l 0 / 16 == 14 && contAt l 1 && contAt l 2 then
    if byteAt l 0 % 16 * 4096 + byteAt l 1 % 64 * 64 + byteAt l 2 % 64 ≥ 2048 && Utf8.valid ((byteAt l 0 % 16 * 4096 + byteAt l 1 % 64 * 64 + byteAt l 2 % 64 : Nat) : Int) then (byteAt l 0 % 16 * 4096 + byteAt l 1 % 64 * 64 + byteAt l 2 % 64, 3) else (65533, 1)
  else if byteAt l 0 / 8 == 30 && contAt l 1 && contAt l 2 && contAt l 3 then
    if byteAt l 0 % 8 * 262144 + byteAt l 1 % 64 * 4096 + byteAt l 2 % 64 * 64 + byteAt l 3 % 64 ≥ 65536 && Utf8.valid ((byteAt l 0 % 8 * 262144 + byteAt l 1 % 64 * 4096 + byteAt l 2 % 64 * 64 + byteAt l 3 % 64 : Nat) : Int) then (byteAt l 0 % 8 * 262144 + byteAt l 1 % 64 * 4096 + byteAt l 2 % 64 * 64 + byteAt l 3 % 64, 4) else (65533, 1)
  else (65533, 1)
theorem decode_list (s : ByteArray) (i : Nat) : Utf8.decode s i = uDec (s.data.toList.drop i) := by
  have hg : ∀ k, (s.get! (i + k)).toNat = byteAt (s.data.toList.drop i) k := by
    intro k
    simp only [byteAt, List.getD_eq_getElem?_getD, List.getElem?_drop, ByteArray.get!]
    rw [Array.getElem?_toList]
    simp [getElem!_def]
    cases s.data[i + k]? <;> rfl
  have hc : ∀ k, (decide (i + k < s.size) && byteAt (s.data.toList.drop i) k / 64 == 2) = contAt (s.data.toList.drop i) k := by
    intro k
    simp only [contAt, List.length_drop, Array.length_toList]
    congr 1
    simp only [ByteArray.size, decide_eq_decide]
    omega
  simp only [Utf8.decode, hg, hc]
  simp only [uDec, Utf8.runeError]
theorem byte_back {x : Int} {a : UInt8} (h : x = (a.toNat : Int)) : x.toNat.toUInt8 = a := by
  subst h
  simp
theorem byteAt_lt (l : List UInt8) (j : Nat) : byteAt l j < 256 := UInt8.toNat_lt _
theorem valid_iff (r : Int) : Utf8.valid r = true ↔ (0 ≤ r ∧ r < 55296) ∨ (57344 ≤ r ∧ r ≤ 1114111) := by
  simp only [Utf8.valid, Bool.or_eq_true, Bool.and_eq_true, decide_eq_true_eq]
theorem enc_one {r : Int} (h0 : 0 ≤ r) (h1 : r ≤ 127) : Lib.encodeRune r = [r.toNat.toUInt8] := by
  simp [Lib.encodeRune, Lib.encodeRuneZ_one h0 h1]
theorem enc_two {r : Int} (h0 : 128 ≤ r) (h1 : r ≤ 2047) : Lib.encodeRune r = [(192 + r / 64).toNat.toUInt8, (128 + r % 64).toNat.toUInt8] := by
  simp [Lib.encodeRune, Lib.encodeRuneZ_two h0 h1]
theorem enc_three {r : Int} (h : (2048 ≤ r ∧ r < 55296) ∨ (57343 < r ∧ r ≤ 65535)) : Lib.encodeRune r = [(224 + r / 4096).toNat.toUInt8, (128 + r / 64 % 64).toNat.toUInt8, (128 + r % 64).toNat.toUInt8] := by
  simp [Lib.encodeRune, Lib.encodeRuneZ_three h]
theorem enc_four {r : Int} (h0 : 65536 ≤ r) (h1 : r ≤ 1114111) : Lib.encodeRune r = [(240 + r / 262144).toNat.toUInt8, (128 + r / 4096 % 64).toNat.toUInt8, (128 + r / 64 % 64).toNat.toUInt8, (128 + r % 64).toNat.toUInt8] := by
  simp [Lib.encodeRune, Lib.encodeRuneZ_four h0 h1]
theorem enc_bad {r : Int} (h : r < 0 ∨ (55296 ≤ r ∧ r ≤ 57343) ∨ 1114111 < r) : Lib.encodeRune r = [239, 191, 189] := by
  simp [Lib.encodeRune, Lib.encodeRuneZ_bad h]
theorem enc_65533 : Lib.encodeRune 65533 = [239, 191, 189] := by decide
theorem toU8 {x : Int} (h0 : 0 ≤ x) (h1 : x < 256) : (x.toNat.toUInt8).toNat = x.toNat := by
  show (UInt8.ofNat x.toNat).toNat = _
  rw [UInt8.toNat_ofNat']; omega
def wholeL (l : List UInt8) : Nat := if (uDec l).2 = 1 ∧ 128 ≤ byteAt l 0 then 0 else (uDec l).2
theorem ex2 {a : UInt8} {r : List UInt8} (h : 2 < (a :: r).length) : ∃ b c r', r = b :: c :: r' := by
  match r, h with
  | b :: c :: r', _ => exact ⟨b, c, r', rfl⟩
theorem ex3 {a : UInt8} {r : List UInt8} (h : 3 < (a :: r).length) : ∃ b c d r', r = b :: c :: d :: r' := by
  match r, h with
  | b :: c :: d :: r', _ => exact ⟨b, c, d, r', rfl⟩
theorem contAt_iff (l : List UInt8) (j : Nat) : contAt l j = true ↔ j < l.length ∧ byteAt l j / 64 = 2 := by
  simp [contAt]
theorem dec_cases (l : List UInt8) (hl : l ≠ []) :
    (wholeL l = 0 ∧ uDec l = (65533, 1) ∧ 128 ≤ byteAt l 0) ∨
    (wholeL l = (uDec l).2 ∧ 0 < (uDec l).2 ∧ (uDec l).2 ≤ 4 ∧ (uDec l).2 ≤ l.length ∧ Utf8.valid (uDec l).1 = true ∧ Lib.encodeRune (uDec l).1 = l.take (uDec l).2) := by
  obtain ⟨a, r, rfl⟩ := List.exists_cons_of_ne_nil hl
  by_cases h0 : byteAt (a :: r) 0 < 128
  · right
    have e : uDec (a :: r) = (byteAt (a :: r) 0, 1) := by simp only [uDec, if_pos h0]
    have hw : wholeL (a :: r) = 1 := by unfold wholeL; rw [e, if_neg (by omega)]
    have ha : byteAt (a :: r) 0 = a.toNat := rfl
    rw [hw, e]
    refine ⟨rfl, by omega, by omega, by simp, ?_, ?_⟩
    · rw [valid_iff]; simp only; omega
    · rw [enc_one (by simp) (by simp only; omega)]; simp [ha]
  · have bad : uDec (a :: r) = (65533, 1) → (wholeL (a :: r) = 0 ∧ uDec (a :: r) = (65533, 1) ∧ 128 ≤ byteAt (a :: r) 0) := fun e =>
      ⟨by unfold wholeL; rw [e, if_pos ⟨rfl, by omega⟩], e, by omega⟩
    have good : ∀ n w, uDec (a :: r) = (n, w) → 1 < w → wholeL (a :: r) = w := fun n w e hw => by
      unfold wholeL; rw [e, if_neg (by simp only; omega)]
    by_cases h2 : byteAt (a :: r) 0 / 32 = 6 ∧ contAt (a :: r) 1 = true
    · obtain ⟨c0, c1⟩ := h2
      by_cases h3 : byteAt (a :: r) 0 % 32 * 64 + byteAt (a :: r) 1 % 64 ≥ 128
      · right
        have e : uDec (a :: r) = (byteAt (a :: r) 0 % 32 * 64 + byteAt (a :: r) 1 % 64, 2) := by
          simp only [uDec, if_neg h0, c0, c1, beq_self_eq_true, Bool.and_self, if_true, if_pos h3]
        rw [good _ _ e (by omega), e]
        rw [contAt_iff] at c1
        match r, c1, e, h3, c0, h0 with
        | b :: r, c1, e, h3, c0, h0 =>
          have ha : byteAt (a :: b :: r) 0 = a.toNat := rfl
          have hb : byteAt (a :: b :: r) 1 = b.toNat := rfl
          have := UInt8.toNat_lt a; have := UInt8.toNat_lt b
          rw [ha, hb]
          refine ⟨rfl, by omega, by omega, by simp, ?_, ?_⟩
          · rw [valid_iff]; simp only; omega
          · rw [enc_two (by simp only; omega) (by simp only; omega)]
            rw [byte_back (a := a) (by simp only; omega), byte_back (a := b) (by simp only; omega)]
            rfl
      · left
        exact bad (by simp only [uDec, if_neg h0, c0, c1, beq_self_eq_true, Bool.and_self, if_true, if_neg h3])
    · have n2 : (byteAt (a :: r) 0 / 32 == 6 && contAt (a :: r) 1) = false := by
        cases hh : (byteAt (a :: r) 0 / 32 == 6 && contAt (a :: r) 1) with
        | false => rfl
        | true => simp only [Bool.and_eq_true, beq_iff_eq] at hh; exact absurd hh h2
      by_cases h4 : byteAt (a :: r) 0 / 16 = 14 ∧ contAt (a :: r) 1 = true ∧ contAt (a :: r) 2 = true
      · obtain ⟨c0, c1, c2⟩ := h4
        by_cases h5 : (decide (byteAt (a :: r) 0 % 16 * 4096 + byteAt (a :: r) 1 % 64 * 64 + byteAt (a :: r) 2 % 64 ≥ 2048) && Utf8.valid ((byteAt (a :: r) 0 % 16 * 4096 + byteAt (a :: r) 1 % 64 * 64 + byteAt (a :: r) 2 % 64 : Nat) : Int)) = true
        · right
          have e : uDec (a :: r) = (byteAt (a :: r) 0 % 16 * 4096 + byteAt (a :: r) 1 % 64 * 64 + byteAt (a :: r) 2 % 64, 3) := by
            simp only [uDec, if_neg h0, n2, Bool.false_eq_true, if_false]
            rw [if_pos (by simp [c0, c1, c2]), if_pos h5]
          rw [good _ _ e (by omega), e]
          rw [contAt_iff] at c1 c2
          simp only [Bool.and_eq_true, decide_eq_true_eq] at h5
          obtain ⟨h5, h6⟩ := h5
          obtain ⟨b, c, r, rfl⟩ := ex2 c2.1
          · skip
            have ha : byteAt (a :: b :: c :: r) 0 = a.toNat := rfl
            have hb : byteAt (a :: b :: c :: r) 1 = b.toNat := rfl
            have hc : byteAt (a :: b :: c :: r) 2 = c.toNat := rfl
            have := UInt8.toNat_lt a; have := UInt8.toNat_lt b; have := UInt8.toNat_lt c
            simp only [ha, hb, hc] at *
            refine ⟨trivial, by omega, by omega, by simp, h6, ?_⟩
            rw [valid_iff] at h6
            rw [enc_three (by omega)]
            rw [byte_back (a := a) (by omega), byte_back (a := b) (by omega), byte_back (a := c) (by omega)]
            rfl
        · left
          exact bad (by
            simp only [uDec, if_neg h0, n2, Bool.false_eq_true, if_false]
            rw [if_pos (by simp [c0, c1, c2]), if_neg h5])
      · have n4 : (byteAt (a :: r) 0 / 16 == 14 && contAt (a :: r) 1 && contAt (a :: r) 2) = false := by
          cases hh : (byteAt (a :: r) 0 / 16 == 14 && contAt (a :: r) 1 && contAt (a :: r) 2) with
          | false => rfl
          | true => simp only [Bool.and_eq_true, beq_iff_eq] at hh; exact absurd ⟨hh.1.1, hh.1.2, hh.2⟩ h4
        by_cases h6 : byteAt (a :: r) 0 / 8 = 30 ∧ contAt (a :: r) 1 = true ∧ contAt (a :: r) 2 = true ∧ contAt (a :: r) 3 = true
        · obtain ⟨c0, c1, c2, c3⟩ := h6
          by_cases h7 : (decide (byteAt (a :: r) 0 % 8 * 262144 + byteAt (a :: r) 1 % 64 * 4096 + byteAt (a :: r) 2 % 64 * 64 + byteAt (a :: r) 3 % 64 ≥ 65536) && Utf8.valid ((byteAt (a :: r) 0 % 8 * 262144 + byteAt (a :: r) 1 % 64 * 4096 + byteAt (a :: r) 2 % 64 * 64 + byteAt (a :: r) 3 % 64 : Nat) : Int)) = true
          · right
            have e : uDec (a :: r) = (byteAt (a :: r) 0 % 8 * 262144 + byteAt (a :: r) 1 % 64 * 4096 + byteAt (a :: r) 2 % 64 * 64 + byteAt (a :: r) 3 % 64, 4) := by
              simp only [uDec, if_neg h0, n2, n4, Bool.false_eq_true, if_false]
              rw [if_pos (by simp [c0, c1, c2, c3]), if_pos h7]
            rw [good _ _ e (by omega), e]
            rw [contAt_iff] at c1 c2 c3
            simp only [Bool.and_eq_true, decide_eq_true_eq] at h7
            obtain ⟨h7, h8⟩ := h7
            obtain ⟨b, c, d, r, rfl⟩ := ex3 c3.1
            · skip
              have ha : byteAt (a :: b :: c :: d :: r) 0 = a.toNat := rfl
              have hb : byteAt (a :: b :: c :: d :: r) 1 = b.toNat := rfl
              have hc : byteAt (a :: b :: c :: d :: r) 2 = c.toNat := rfl
              have hd : byteAt (a :: b :: c :: d :: r) 3 = d.toNat := rfl
              have := UInt8.toNat_lt a; have := UInt8.toNat_lt b; have := UInt8.toNat_lt c; have := UInt8.toNat_lt d
              simp only [ha, hb, hc, hd] at *
              refine ⟨trivial, by omega, by omega, by simp, h8, ?_⟩
              rw [valid_iff] at h8
              rw [enc_four (by omega) (by omega)]
              rw [byte_back (a := a) (by omega), byte_back (a := b) (by omega), byte_back (a := c) (by omega), byte_back (a := d) (by omega)]
              rfl
          · left
            exact bad (by
              simp only [uDec, if_neg h0, n2, n4, Bool.false_eq_true, if_false]
              rw [if_pos (by simp [c0, c1, c2, c3]), if_neg h7])
        · left
          have n6 : (byteAt (a :: r) 0 / 8 == 30 && contAt (a :: r) 1 && contAt (a :: r) 2 && contAt (a :: r) 3) = false := by
            cases hh : (byteAt (a :: r) 0 / 8 == 30 && contAt (a :: r) 1 && contAt (a :: r) 2 && contAt (a :: r) 3) with
            | false => rfl
            | true => simp only [Bool.and_eq_true, beq_iff_eq] at hh; exact absurd ⟨hh.1.1.1, hh.1.1.2, hh.1.2, hh.2⟩ h6
          exact bad (by simp only [uDec, if_neg h0, n2, n4, n6, Bool.false_eq_true, if_false])
def runeOf (r : Int) : Nat := if Utf8.valid r = true then r.toNat else 65533
theorem enc_runeOf (r : Int) : Lib.encodeRune (runeOf r) = Lib.encodeRune r := by
  unfold runeOf
  split
  · rename_i h
    rw [valid_iff] at h
    rw [Int.toNat_of_nonneg (by omega)]
  · rename_i h
    rw [valid_iff] at h
    rw [enc_bad (r := r) (by omega)]
    exact enc_65533
theorem dec_enc_valid (r : Int) (h : Utf8.valid r = true) (rest : List UInt8) :
    uDec (Lib.encodeRune r ++ rest) = (r.toNat, (Lib.encodeRune r).length) ∧ (128 ≤ r.toNat → 1 < (Lib.encodeRune r).length) := by
  have hv := h
  rw [valid_iff] at h
  by_cases c1 : r ≤ 127
  · rw [enc_one (by omega) c1]
    have h0 : byteAt ([r.toNat.toUInt8] ++ rest) 0 = r.toNat := by
      show (r.toNat.toUInt8).toNat = _
      rw [toU8 (by omega) (by omega)]
    refine ⟨?_, fun hh => by omega⟩
    simp only [uDec, h0]
    rw [if_pos (by omega)]
    rfl
  · by_cases c2 : r ≤ 2047
    · rw [enc_two (by omega) c2]
      have h0 : byteAt ([(192 + r / 64).toNat.toUInt8, (128 + r % 64).toNat.toUInt8] ++ rest) 0 = (192 + r / 64).toNat := by
        show ((192 + r / 64).toNat.toUInt8).toNat = _
        rw [toU8 (by omega) (by omega)]
      have h1 : byteAt ([(192 + r / 64).toNat.toUInt8, (128 + r % 64).toNat.toUInt8] ++ rest) 1 = (128 + r % 64).toNat := by
        show ((128 + r % 64).toNat.toUInt8).toNat = _
        rw [toU8 (by omega) (by omega)]
      have k1 : contAt ([(192 + r / 64).toNat.toUInt8, (128 + r % 64).toNat.toUInt8] ++ rest) 1 = true := by
        rw [contAt_iff]; exact ⟨by simp, by rw [h1]; omega⟩
      refine ⟨?_, fun _ => by simp⟩
      simp only [uDec, h0, h1, k1]
      rw [if_neg (by omega), if_pos (by simp; omega), if_pos (by omega)]
      refine Prod.ext ?_ rfl
      show (192 + r / 64).toNat % 32 * 64 + (128 + r % 64).toNat % 64 = _
      omega
    · by_cases c3 : r ≤ 65535
      · rw [enc_three (by omega)]
        generalize hL : [(224 + r / 4096).toNat.toUInt8, (128 + r / 64 % 64).toNat.toUInt8, (128 + r % 64).toNat.toUInt8] ++ rest = L
        have h0 : byteAt L 0 = (224 + r / 4096).toNat := by
          rw [← hL]; show ((224 + r / 4096).toNat.toUInt8).toNat = _
          rw [toU8 (by omega) (by omega)]
        have h1 : byteAt L 1 = (128 + r / 64 % 64).toNat := by
          rw [← hL]; show ((128 + r / 64 % 64).toNat.toUInt8).toNat = _
          rw [toU8 (by omega) (by omega)]
        have h2 : byteAt L 2 = (128 + r % 64).toNat := by
          rw [← hL]; show ((128 + r % 64).toNat.toUInt8).toNat = _
          rw [toU8 (by omega) (by omega)]
        have hl : 3 ≤ L.length := by rw [← hL]; simp
        have k1 : contAt L 1 = true := by rw [contAt_iff]; exact ⟨by omega, by rw [h1]; omega⟩
        have k2 : contAt L 2 = true := by rw [contAt_iff]; exact ⟨by omega, by rw [h2]; omega⟩
        have e : (224 + r / 4096).toNat % 16 * 4096 + (128 + r / 64 % 64).toNat % 64 * 64 + (128 + r % 64).toNat % 64 = r.toNat := by omega
        refine ⟨?_, fun _ => by simp⟩
        simp only [uDec, h0, h1, h2, k1, k2, e]
        rw [if_neg (by omega), if_neg (by simp; omega), if_pos (by simp; omega), if_pos (by rw [Int.toNat_of_nonneg (by omega), hv]; simp; omega)]
        rfl
      · rw [enc_four (by omega) (by omega)]
        generalize hL : [(240 + r / 262144).toNat.toUInt8, (128 + r / 4096 % 64).toNat.toUInt8, (128 + r / 64 % 64).toNat.toUInt8, (128 + r % 64).toNat.toUInt8] ++ rest = L
        have h0 : byteAt L 0 = (240 + r / 262144).toNat := by
          rw [← hL]; show ((240 + r / 262144).toNat.toUInt8).toNat = _
          rw [toU8 (by omega) (by omega)]
        have h1 : byteAt L 1 = (128 + r / 4096 % 64).toNat := by
          rw [← hL]; show ((128 + r / 4096 % 64).toNat.toUInt8).toNat = _
          rw [toU8 (by omega) (by omega)]
        have h2 : byteAt L 2 = (128 + r / 64 % 64).toNat := by
          rw [← hL]; show ((128 + r / 64 % 64).toNat.toUInt8).toNat = _
          rw [toU8 (by omega) (by omega)]
        have h3 : byteAt L 3 = (128 + r % 64).toNat := by
          rw [← hL]; show ((128 + r % 64).toNat.toUInt8).toNat = _
          rw [toU8 (by omega) (by omega)]
        have hl : 4 ≤ L.length := by rw [← hL]; simp
        have k1 : contAt L 1 = true := by rw [contAt_iff]; exact ⟨by omega, by rw [h1]; omega⟩
        have k2 : contAt L 2 = true := by rw [contAt_iff]; exact ⟨by omega, by rw [h2]; omega⟩
        have k3 : contAt L 3 = true := by rw [contAt_iff]; exact ⟨by omega, by rw [h3]; omega⟩
        have e : (240 + r / 262144).toNat % 8 * 262144 + (128 + r / 4096 % 64).toNat % 64 * 4096 + (128 + r / 64 % 64).toNat % 64 * 64 + (128 + r % 64).toNat % 64 = r.toNat := by omega
        refine ⟨?_, fun _ => by simp⟩
        simp only [uDec, h0, h1, h2, h3, k1, k2, k3, e]
        rw [if_neg (by omega), if_neg (by simp; omega), if_neg (by simp; omega), if_pos (by simp; omega), if_pos (by rw [Int.toNat_of_nonneg (by omega), hv]; simp; omega)]
        rfl
theorem enc_ne (r : Int) : Lib.encodeRune r ≠ [] := by
  intro h
  have := Lib.encodeRuneZ_length r
  have h2 := congrArg List.length h
  simp [Lib.encodeRune] at h2
  rw [h2] at this
  simp at this
theorem enc_len (r : Int) : 1 ≤ (Lib.encodeRune r).length ∧ (Lib.encodeRune r).length ≤ 4 := by
  have := Lib.encodeRuneZ_length r
  simpa [Lib.encodeRune] using this
theorem valid_runeOf (r : Int) : Utf8.valid (runeOf r) = true := by
  unfold runeOf
  split
  · rename_i h; rw [valid_iff] at h ⊢; omega
  · decide
theorem dec_enc (r : Int) (rest : List UInt8) : uDec (Lib.encodeRune r ++ rest) = (runeOf r, (Lib.encodeRune r).length) := by
  have h := (dec_enc_valid (runeOf r) (valid_runeOf r) rest).1
  rw [enc_runeOf] at h
  simpa using h
theorem whole_enc (r : Int) (rest : List UInt8) : wholeL (Lib.encodeRune r ++ rest) = (Lib.encodeRune r).length := by
  have h := dec_enc r rest
  have h2 := (dec_enc_valid (runeOf r) (valid_runeOf r) rest).2
  rw [enc_runeOf] at h2
  unfold wholeL
  rw [h, if_neg]
  rintro ⟨h3, h4⟩
  simp only at h3
  have h5 : byteAt (Lib.encodeRune r ++ rest) 0 < 128 ∨ 128 ≤ runeOf r := by
    by_cases hc : runeOf r < 128
    · left
      have : Lib.encodeRune r = [((runeOf r : Int)).toNat.toUInt8] := by
        rw [← enc_runeOf r, enc_one (by omega) (by omega)]
      rw [this]
      show (((runeOf r : Int)).toNat.toUInt8).toNat < 128
      rw [toU8 (by omega) (by omega)]; omega
    · right; omega
  rcases h5 with h5 | h5
  · omega
  · have := h2 (by simpa using h5); omega
def Val (l : List UInt8) : Prop := ∃ rs : List Int, l = rs.flatMap Lib.encodeRune
theorem Val.nil : Val [] := ⟨[], rfl⟩
theorem Val.enc (r : Int) : Val (Lib.encodeRune r) := ⟨[r], by simp⟩
theorem Val.append {a b : List UInt8} (ha : Val a) (hb : Val b) : Val (a ++ b) := by
  obtain ⟨x, rfl⟩ := ha; obtain ⟨y, rfl⟩ := hb; exact ⟨x ++ y, by simp⟩
def valL : Nat → List UInt8 → List UInt8
  | 0, _ => []
  | n + 1, l => if l = [] then [] else Lib.encodeRune (uDec l).1 ++ valL n (l.drop (uDec l).2)
theorem dec_width (l : List UInt8) (hl : l ≠ []) : 1 ≤ (uDec l).2 ∧ (uDec l).2 ≤ l.length := by
  rcases dec_cases l hl with ⟨_, h, _⟩ | ⟨_, h1, _, h2, _⟩
  · rw [h]; have := List.length_pos_iff.2 hl; exact ⟨Nat.le_refl _, this⟩
  · exact ⟨h1, h2⟩
theorem valL_more : ∀ (n : Nat) (l : List UInt8), l.length ≤ n → ∀ m, n ≤ m → valL m l = valL n l := by
  intro n
  induction n with
  | zero =>
    intro l hl m hm
    obtain rfl : l = [] := List.eq_nil_of_length_eq_zero (by omega)
    cases m <;> simp [valL]
  | succ n ih =>
    intro l hl m hm
    obtain ⟨m, rfl⟩ : ∃ q, m = q + 1 := ⟨m - 1, by omega⟩
    by_cases h : l = []
    · simp [valL, h]
    · simp only [valL, if_neg h]
      have := dec_width l h
      rw [ih _ (by rw [List.length_drop]; omega) m (by omega)]
theorem valL_Val : ∀ (n : Nat) (l : List UInt8), Val (valL n l) := by
  intro n
  induction n with
  | zero => intro l; exact Val.nil
  | succ n ih =>
    intro l
    simp only [valL]
    split
    · exact Val.nil
    · exact (Val.enc _).append (ih _)
theorem valL_stays : ∀ (n : Nat) (l : List UInt8), Val l → l.length ≤ n → valL n l = l := by
  intro n
  induction n with
  | zero =>
    intro l _ hl
    obtain rfl : l = [] := List.eq_nil_of_length_eq_zero (by omega)
    rfl
  | succ n ih =>
    intro l hv hl
    obtain ⟨rs, rfl⟩ := hv
    cases rs with
    | nil => simp [valL]
    | cons r rs =>
      have e : (r :: rs).flatMap Lib.encodeRune = Lib.encodeRune r ++ rs.flatMap Lib.encodeRune := by simp
      rw [e] at hl ⊢
      have hne : Lib.encodeRune r ++ rs.flatMap Lib.encodeRune ≠ [] := by simp [enc_ne]
      simp only [valL, if_neg hne]
      rw [dec_enc, enc_runeOf]
      simp only [List.drop_left]
      have := enc_len r
      rw [ih _ ⟨rs, rfl⟩ (by rw [List.length_append] at hl; omega)]
theorem valL_len : ∀ (n : Nat) (l : List UInt8), (valL n l).length ≤ 3 * l.length := by
  intro n
  induction n with
  | zero => intro l; simp [valL]
  | succ n ih =>
    intro l
    simp only [valL]
    split
    · simp
    · rename_i h
      have h1 := ih (l.drop (uDec l).2)
      have hw := dec_width l h
      rw [List.length_append]
      rw [List.length_drop] at h1
      rcases dec_cases l h with ⟨_, h2, _⟩ | ⟨_, _, _, h3, _, h4⟩
      · rw [h2] at h1 hw ⊢
        have : (Lib.encodeRune ((65533, 1) : Nat × Nat).1).length = 3 := by decide
        simp only at *
        omega
      · rw [h4, List.length_take]; omega
theorem whole_of {l : List UInt8} {n w : Nat} (e : uDec l = (n, w)) : wholeL l = if w = 1 ∧ 128 ≤ byteAt l 0 then 0 else w := by
  unfold wholeL; rw [e]
theorem whole_low (l : List UInt8) (h : byteAt l 0 < 128) : wholeL l = 1 := by
  rw [whole_of (n := byteAt l 0) (w := 1) (by unfold uDec; rw [if_pos h]), if_neg (by omega)]
theorem whole_none (l : List UInt8) (h : (128 ≤ byteAt l 0 ∧ byteAt l 0 < 192) ∨ 248 ≤ byteAt l 0) : wholeL l = 0 := by
  have h256 := byteAt_lt l 0
  rw [whole_of (n := 65533) (w := 1) (by
    unfold uDec
    rw [if_neg (by omega), if_neg (by simp; omega), if_neg (by simp; omega), if_neg (by simp; omega)]), if_pos (by omega)]
theorem whole_two (l : List UInt8) (h : 192 ≤ byteAt l 0 ∧ byteAt l 0 < 224) :
    wholeL l = if contAt l 1 = true ∧ byteAt l 0 % 32 * 64 + byteAt l 1 % 64 ≥ 128 then 2 else 0 := by
  by_cases c1 : contAt l 1 = true
  · by_cases c2 : byteAt l 0 % 32 * 64 + byteAt l 1 % 64 ≥ 128
    · rw [if_pos ⟨c1, c2⟩, whole_of (n := byteAt l 0 % 32 * 64 + byteAt l 1 % 64) (w := 2) (by
        unfold uDec; rw [if_neg (by omega), if_pos (by simp [c1]; omega), if_pos c2])]; simp
    · rw [if_neg (fun hh => c2 hh.2), whole_of (n := 65533) (w := 1) (by
        unfold uDec; rw [if_neg (by omega), if_pos (by simp [c1]; omega), if_neg c2]), if_pos (by omega)]
  · rw [if_neg (fun hh => c1 hh.1), whole_of (n := 65533) (w := 1) (by
      unfold uDec; rw [if_neg (by omega), if_neg (by simp [c1]), if_neg (by simp; omega), if_neg (by simp; omega)]), if_pos (by omega)]
theorem whole_three (l : List UInt8) (h : 224 ≤ byteAt l 0 ∧ byteAt l 0 < 240) :
    wholeL l = if contAt l 1 = true ∧ contAt l 2 = true ∧ byteAt l 0 % 16 * 4096 + byteAt l 1 % 64 * 64 + byteAt l 2 % 64 ≥ 2048 ∧ Utf8.valid ((byteAt l 0 % 16 * 4096 + byteAt l 1 % 64 * 64 + byteAt l 2 % 64 : Nat) : Int) = true then 3 else 0 := by
  by_cases c1 : contAt l 1 = true ∧ contAt l 2 = true
  · by_cases c2 : byteAt l 0 % 16 * 4096 + byteAt l 1 % 64 * 64 + byteAt l 2 % 64 ≥ 2048 ∧ Utf8.valid ((byteAt l 0 % 16 * 4096 + byteAt l 1 % 64 * 64 + byteAt l 2 % 64 : Nat) : Int) = true
    · rw [if_pos ⟨c1.1, c1.2, c2⟩, whole_of (n := byteAt l 0 % 16 * 4096 + byteAt l 1 % 64 * 64 + byteAt l 2 % 64) (w := 3) (by
        unfold uDec; rw [if_neg (by omega), if_neg (by simp; omega), if_pos (by simp [c1.1, c1.2]; omega), if_pos (by rw [c2.2]; simp only [Bool.and_true, decide_eq_true_eq]; exact c2.1)])]; simp
    · rw [if_neg (fun hh => c2 hh.2.2), whole_of (n := 65533) (w := 1) (by
        unfold uDec; rw [if_neg (by omega), if_neg (by simp; omega), if_pos (by simp [c1.1, c1.2]; omega), if_neg (by rw [Bool.and_eq_true, decide_eq_true_eq]; exact c2)]), if_pos (by omega)]
  · rw [if_neg (fun hh => c1 ⟨hh.1, hh.2.1⟩), whole_of (n := 65533) (w := 1) (by
      unfold uDec; rw [if_neg (by omega), if_neg (by simp; omega), if_neg (by rw [Bool.and_eq_true, Bool.and_eq_true]; exact fun hh => c1 ⟨hh.1.2, hh.2⟩), if_neg (by simp; omega)]), if_pos (by omega)]
theorem whole_four (l : List UInt8) (h : 240 ≤ byteAt l 0 ∧ byteAt l 0 < 248) :
    wholeL l = if contAt l 1 = true ∧ contAt l 2 = true ∧ contAt l 3 = true ∧ byteAt l 0 % 8 * 262144 + byteAt l 1 % 64 * 4096 + byteAt l 2 % 64 * 64 + byteAt l 3 % 64 ≥ 65536 ∧ Utf8.valid ((byteAt l 0 % 8 * 262144 + byteAt l 1 % 64 * 4096 + byteAt l 2 % 64 * 64 + byteAt l 3 % 64 : Nat) : Int) = true then 4 else 0 := by
  by_cases c1 : contAt l 1 = true ∧ contAt l 2 = true ∧ contAt l 3 = true
  · by_cases c2 : byteAt l 0 % 8 * 262144 + byteAt l 1 % 64 * 4096 + byteAt l 2 % 64 * 64 + byteAt l 3 % 64 ≥ 65536 ∧ Utf8.valid ((byteAt l 0 % 8 * 262144 + byteAt l 1 % 64 * 4096 + byteAt l 2 % 64 * 64 + byteAt l 3 % 64 : Nat) : Int) = true
    · rw [if_pos ⟨c1.1, c1.2.1, c1.2.2, c2⟩, whole_of (n := byteAt l 0 % 8 * 262144 + byteAt l 1 % 64 * 4096 + byteAt l 2 % 64 * 64 + byteAt l 3 % 64) (w := 4) (by
        unfold uDec; rw [if_neg (by omega), if_neg (by simp; omega), if_neg (by simp; omega), if_pos (by simp [c1.1, c1.2.1, c1.2.2]; omega), if_pos (by rw [c2.2]; simp only [Bool.and_true, decide_eq_true_eq]; exact c2.1)])]; simp
    · rw [if_neg (fun hh => c2 hh.2.2.2), whole_of (n := 65533) (w := 1) (by
        unfold uDec; rw [if_neg (by omega), if_neg (by simp; omega), if_neg (by simp; omega), if_pos (by simp [c1.1, c1.2.1, c1.2.2]; omega), if_neg (by rw [Bool.and_eq_true, decide_eq_true_eq]; exact c2)]), if_pos (by omega)]
  · rw [if_neg (fun hh => c1 ⟨hh.1, hh.2.1, hh.2.2.1⟩), whole_of (n := 65533) (w := 1) (by
      unfold uDec; rw [if_neg (by omega), if_neg (by simp; omega), if_neg (by simp; omega), if_neg (by rw [Bool.and_eq_true, Bool.and_eq_true, Bool.and_eq_true]; exact fun hh => c1 ⟨hh.1.1.2, hh.1.2, hh.2⟩)]), if_pos (by omega)]
end Go.Proofs.YtokkgjiofhhlkaaDoor
namespace Go.Proofs.YtokkgjiofhhlkaaDoor.Pure
open Go.RowKit Go.Proofs.YtokkgjiofhhlkaaDoorW.PrintWords
set_option linter.unusedVariables false
set_option linter.unusedSimpArgs false
theorem w64 {x : Int} (h0 : -9223372036854775808 ≤ x) (h1 : x ≤ 9223372036854775807) : wrap64 x = x := by unfold wrap64; omega
def intsOf (l : List UInt8) : List Int := l.map fun b => (b.toNat : Int)
theorem intsOf_append (a b : List UInt8) : intsOf (a ++ b) = intsOf a ++ intsOf b := by simp [intsOf]
theorem intsOf_length (a : List UInt8) : (intsOf a).length = a.length := by simp [intsOf]
theorem bytesOf_ints (s : ByteArray) : bytesOf s = intsOf s.data.toList := rfl
theorem strOf_ints (l : List UInt8) : strOfNums (intsOf l) = ⟨l.toArray⟩ := by
  simp only [strOfNums, intsOf, List.map_map]
  congr 2
  conv => rhs; rw [← List.map_id l]
  apply List.map_congr_left
  intro x _
  simp
theorem sizeL (s : ByteArray) : s.data.toList.length = s.size := by simp
theorem toList_eq (s : ByteArray) : s.toList = s.data.toList := ByteArray.toList_eq s
theorem mk_toList (l : List UInt8) : (⟨l.toArray⟩ : ByteArray).data.toList = l := rfl
theorem mk_size (l : List UInt8) : (⟨l.toArray⟩ : ByteArray).size = l.length := by simp [ByteArray.size]
theorem extract_list (s : ByteArray) (i j : Nat) : (s.extract i j).data.toList = (s.data.toList.take j).drop i := by
  simp [List.drop_take]
theorem mk_back (s : ByteArray) : (⟨s.data.toList.toArray⟩ : ByteArray) = s := by
  apply ByteArray.ext; simp
theorem ba_ext {s t : ByteArray} (h : s.data.toList = t.data.toList) : s = t := by
  apply ByteArray.ext; exact Array.ext' h
theorem bt_range (s : ByteArray) (i : Int) : 0 ≤ bt s i ∧ bt s i < 256 := by
  unfold bt
  split
  · have := UInt8.toNat_lt (s[i.toNat]); omega
  · omega
theorem bt_get (s : ByteArray) (i : Nat) (h : i < s.data.toList.length) : bt s (i : Int) = (s.data.toList[i].toNat : Int) := by
  unfold bt
  have h2 : i < s.size := by simpa using h
  rw [dif_pos (by simpa using h2)]
  rfl
theorem Ev.round {α : Type} {g f : Nat → Option α} {r : α} (h : ∀ k, g (k + 1) = f k) (k : Ev f r) : Ev g r := Ev.step h k
theorem Ev.pos {α : Type} {c : Prop} [Decidable c] {g f : Nat → Option α} {r : α} (h : c) (k : Ev g r) : Ev (fun n => if c then g n else f n) r := by
  refine Ev.congr (fun n => ?_) k; exact if_pos h
theorem Ev.neg {α : Type} {c : Prop} [Decidable c] {g f : Nat → Option α} {r : α} (h : ¬ c) (k : Ev f r) : Ev (fun n => if c then g n else f n) r := by
  refine Ev.congr (fun n => ?_) k; exact if_neg h
theorem Ev.got {α β : Type} {x : Option α} {a : α} {f : Nat → α → Option β} {r : β} (h : x = some a) (k : Ev (fun n => f n a) r) : Ev (fun n => x.bind (f n)) r := by
  subst h; exact k
end Go.Proofs.YtokkgjiofhhlkaaDoor.Pure
namespace Go.Proofs.YtokkgjiofhhlkaaDoor.Pure
open Go.RowKit Go.Proofs.YtokkgjiofhhlkaaDoor.C Go.Proofs.YtokkgjiofhhlkaaDoorW.PrintWords Go.Proofs.YtokkgjiofhhlkaaDoorW.PrintLast
set_option linter.unusedVariables false
set_option linter.unusedSimpArgs false
theorem bt_byteAt (s : ByteArray) (at_ j : Nat) : bt s ((at_ : Int) + (j : Int)) = byteAt (s.data.toList.drop at_) j := by
  unfold bt byteAt
  rw [List.getD_eq_getElem?_getD, List.getElem?_drop]
  have e : ((at_ : Int) + (j : Int)).toNat = at_ + j := by omega
  split
  · rename_i h
    rw [e] at h
    have h2 : at_ + j < s.data.toList.length := by simpa using h
    rw [List.getElem?_eq_getElem h2]
    simp only [Option.getD_some, e]
    rfl
  · rename_i h
    rw [e] at h
    have h2 : s.data.toList.length ≤ at_ + j := by simpa using h
    rw [List.getElem?_eq_none h2]
    rfl
section whole
variable (s : ByteArray) (hs : s.size ≤ 140737488351232)
include hs
theorem l0_step (k : Nat) (a n least v i : Int) (h0 : 0 ≤ a) (hi : 0 ≤ i) (hin : i < n) (ha : a + i < s.size) (hv : 0 ≤ v) (hv2 : v ≤ 1000000000) :
    muslinref04_Whole.l0 (k + 1) s a n least v i = if bt s (a + i) < 128 ∨ bt s (a + i) > 191 then some 0 else muslinref04_Whole.l0 k s a n least (64 * v + bt s (a + i) - 128) (i + 1) := by
  have hb := bt_range s (a + i)
  simp only [muslinref04_Whole.l0]
  rw [w64 (x := a + i) (by omega) (by omega), w64 (x := bt s (a + i)) (by omega) (by omega), if_pos hin, if_pos (by omega), if_pos ha,
    w64 (x := 64 * v) (by omega) (by omega), w64 (x := 64 * v + bt s (a + i)) (by omega) (by omega), w64 (x := 64 * v + bt s (a + i) - 128) (by omega) (by omega), w64 (x := i + 1) (by omega) (by omega)]
  by_cases c1 : bt s (a + i) < 128
  · rw [if_pos c1, if_pos (.inl c1)]
  · rw [if_neg c1]
    by_cases c2 : bt s (a + i) > 191
    · rw [if_pos c2, if_pos (.inr c2)]
    · rw [if_neg c2, if_neg (by omega)]
omit hs in
theorem l0_end (k : Nat) (a n least v i : Int) (hin : ¬ i < n) :
    muslinref04_Whole.l0 (k + 1) s a n least v i = if v < least ∨ v > 1114111 ∨ (v ≥ 55296 ∧ v ≤ 57343) then some 0 else some n := by
  simp only [muslinref04_Whole.l0]
  rw [if_neg hin]
  by_cases c1 : v < least
  · rw [if_pos c1, if_pos (.inl c1)]
  · rw [if_neg c1]
    by_cases c2 : v > 1114111
    · rw [if_pos c2, if_pos (.inr (.inl c2))]
    · rw [if_neg c2]
      by_cases c3 : v ≥ 55296
      · rw [if_pos c3]
        by_cases c4 : v ≤ 57343
        · rw [if_pos c4, if_pos (.inr (.inr ⟨c3, c4⟩))]
        · rw [if_neg c4, if_neg (by omega)]
      · rw [if_neg c3, if_neg (by omega)]
theorem whole_is (a : Nat) (ha : a < s.size) : Ev (fun k => muslinref04_Whole.f k s a) (wholeL (s.data.toList.drop a) : Int) := by
  have hb0 : bt s (a : Int) = byteAt (s.data.toList.drop a) 0 := by simpa using bt_byteAt s a 0
  have hb1 : bt s ((a : Int) + 1) = byteAt (s.data.toList.drop a) 1 := by simpa using bt_byteAt s a 1
  have hb2 : bt s ((a : Int) + 2) = byteAt (s.data.toList.drop a) 2 := by simpa using bt_byteAt s a 2
  have hb3 : bt s ((a : Int) + 3) = byteAt (s.data.toList.drop a) 3 := by simpa using bt_byteAt s a 3
  have hlen : (s.data.toList.drop a).length = s.size - a := by simp
  generalize hl : s.data.toList.drop a = l at *
  have r0 := byteAt_lt l 0
  have r1 := byteAt_lt l 1
  have r2 := byteAt_lt l 2
  have r3 := byteAt_lt l 3
  refine ⟨10, fun k hk => ?_⟩
  obtain ⟨m, rfl⟩ : ∃ m, k = m + 1 + 1 + 1 + 1 + 1 + 1 + 1 + 1 + 1 + 1 := ⟨k - 10, by omega⟩
  show muslinref04_Whole.f (m + 1 + 1 + 1 + 1 + 1 + 1 + 1 + 1 + 1 + 1) s a = _
  unfold muslinref04_Whole.f
  rw [if_pos (by omega), if_pos (by omega), hb0, w64 (x := (byteAt l 0 : Int)) (by omega) (by omega)]
  by_cases c0 : byteAt l 0 < 128
  · rw [if_pos (by omega), whole_low l c0]; rfl
  rw [if_neg (by omega)]
  by_cases c1 : byteAt l 0 < 192
  · rw [if_neg (by omega), whole_none l (by omega)]
    rw [muslinref04_Whole.j0, if_neg Bool.false_ne_true, if_neg (by omega), muslinref04_Whole.j1, if_neg Bool.false_ne_true, if_neg (by omega)]; rfl
  rw [if_pos (by omega)]
  by_cases c2 : byteAt l 0 < 224
  · rw [decide_eq_true (by omega : (byteAt l 0 : Int) < 224), whole_two l (by omega)]
    rw [muslinref04_Whole.j0, if_pos rfl, muslinref04_Whole.j2]
    rw [w64 (x := (byteAt l 0 : Int) - 192) (by omega) (by omega), w64 (x := (a : Int) + 2) (by omega) (by omega)]
    by_cases d : (a : Int) + 2 > s.size
    · rw [if_pos d, if_neg (by rw [contAt_iff]; omega)]; rfl
    rw [if_neg d, l0_step s hs _ a 2 128 _ 1 (by omega) (by omega) (by omega) (by omega) (by omega) (by omega), l0_end s _ a 2 128 _ (1 + 1) (by omega), hb1]
    simp only [contAt_iff]
    split
    · rename_i h1; rw [if_neg (by omega)]; rfl
    · split
      · rename_i h1 h2; rw [if_neg (by omega)]; rfl
      · rename_i h1 h2; rw [if_pos (by omega)]; rfl
  rw [decide_eq_false (by omega : ¬ (byteAt l 0 : Int) < 224)]
  by_cases c3 : byteAt l 0 < 240
  · rw [whole_three l (by omega)]
    rw [muslinref04_Whole.j0, if_neg Bool.false_ne_true, if_pos (by omega), decide_eq_true (by omega : (byteAt l 0 : Int) < 240), muslinref04_Whole.j1, if_pos rfl, muslinref04_Whole.j2]
    rw [w64 (x := (byteAt l 0 : Int) - 224) (by omega) (by omega), w64 (x := (a : Int) + 3) (by omega) (by omega)]
    by_cases d : (a : Int) + 3 > s.size
    · rw [if_pos d, if_neg (by rw [contAt_iff, contAt_iff]; omega)]; rfl
    rw [if_neg d, l0_step s hs _ a 3 2048 _ 1 (by omega) (by omega) (by omega) (by omega) (by omega) (by omega), hb1]
    simp only [contAt_iff, valid_iff]
    split
    · rename_i h1; rw [if_neg (by omega)]; rfl
    · rename_i h1
      rw [show ((1 : Int) + 1) = 2 from rfl, l0_step s hs _ a 3 2048 _ 2 (by omega) (by omega) (by omega) (by omega) (by omega) (by omega), hb2]
      split
      · rename_i h2; rw [if_neg (by omega)]; rfl
      · rename_i h2
        rw [l0_end s _ a 3 2048 _ (2 + 1) (by omega)]
        split
        · rename_i h3; rw [if_neg (by omega)]; rfl
        · rename_i h3; rw [if_pos (by omega)]; rfl
  by_cases c4 : byteAt l 0 < 248
  · rw [whole_four l (by omega)]
    rw [muslinref04_Whole.j0, if_neg Bool.false_ne_true, if_pos (by omega), decide_eq_false (by omega : ¬ (byteAt l 0 : Int) < 240), muslinref04_Whole.j1, if_neg Bool.false_ne_true, if_pos (by omega), if_pos (by omega), muslinref04_Whole.j2]
    rw [w64 (x := (byteAt l 0 : Int) - 240) (by omega) (by omega), w64 (x := (a : Int) + 4) (by omega) (by omega)]
    by_cases d : (a : Int) + 4 > s.size
    · rw [if_pos d, if_neg (by rw [contAt_iff, contAt_iff, contAt_iff]; omega)]; rfl
    rw [if_neg d, l0_step s hs _ a 4 65536 _ 1 (by omega) (by omega) (by omega) (by omega) (by omega) (by omega), hb1]
    simp only [contAt_iff, valid_iff]
    split
    · rename_i h1; rw [if_neg (by omega)]; rfl
    · rename_i h1
      rw [show ((1 : Int) + 1) = 2 from rfl, l0_step s hs _ a 4 65536 _ 2 (by omega) (by omega) (by omega) (by omega) (by omega) (by omega), hb2]
      split
      · rename_i h2; rw [if_neg (by omega)]; rfl
      · rename_i h2
        rw [show ((2 : Int) + 1) = 3 from rfl, l0_step s hs _ a 4 65536 _ 3 (by omega) (by omega) (by omega) (by omega) (by omega) (by omega), hb3]
        split
        · rename_i h3; rw [if_neg (by omega)]; rfl
        · rename_i h3
          rw [l0_end s _ a 4 65536 _ (3 + 1) (by omega)]
          split
          · rename_i h4; rw [if_neg (by omega)]; rfl
          · rename_i h4; rw [if_pos (by omega)]; rfl
  rw [whole_none l (by omega)]
  rw [muslinref04_Whole.j0, if_neg Bool.false_ne_true, if_pos (by omega), decide_eq_false (by omega : ¬ (byteAt l 0 : Int) < 240), muslinref04_Whole.j1, if_neg Bool.false_ne_true, if_pos (by omega), if_neg (by omega)]; rfl
end whole
theorem validFrom_valL (s : ByteArray) : ∀ (fuel pos : Nat), validFrom s fuel pos = valL fuel (s.data.toList.drop pos) := by
  intro fuel
  induction fuel with
  | zero => intro pos; rfl
  | succ n ih =>
    intro pos
    simp only [validFrom, valL]
    by_cases h : pos < s.size
    · rw [if_pos h, if_neg (by intro h2; have := congrArg List.length h2; simp at this; omega), decode_list, ih, List.drop_drop]
    · rw [if_neg h, if_pos (List.drop_eq_nil_of_le (by rw [sizeL]; omega))]
def vl (l : List UInt8) : List UInt8 := valL l.length l
theorem validS_eq (s : ByteArray) : validS s = ⟨(vl s.data.toList).toArray⟩ := by
  unfold validS vl
  rw [validFrom_valL, List.drop_zero, sizeL]
theorem vl_nil : vl [] = [] := rfl
theorem vl_cons (l : List UInt8) (h : l ≠ []) : vl l = Lib.encodeRune (uDec l).1 ++ vl (l.drop (uDec l).2) := by
  have hw := dec_width l h
  have e : vl l = valL (l.length - 1 + 1) l := by unfold vl; congr 1; omega
  rw [e]
  simp only [valL, if_neg h]
  unfold vl
  rw [valL_more _ _ (Nat.le_refl _) (l.length - 1) (by rw [List.length_drop]; omega)]
theorem valid_loop (s : ByteArray) (hs : s.size ≤ 35184372088832) : ∀ (n pos : Nat) (acc : List UInt8), s.size - pos ≤ n → pos ≤ s.size → acc.length + 3 * (s.size - pos) < 140737488355328 →
    Ev (fun k => muslinref04_Valid.l0 k s (intsOf acc) pos) (⟨(acc ++ vl (s.data.toList.drop pos)).toArray⟩ : ByteArray) := by
  intro n
  induction n with
  | zero =>
    intro pos acc h1 h2 h3
    refine Ev.round (fun k => by rw [muslinref04_Valid.l0]) ?_
    refine Ev.neg (by omega) ?_
    rw [strOf_ints, List.drop_eq_nil_of_le (by rw [sizeL]; omega), vl_nil, List.append_nil]
    exact Ev.now _
  | succ n ih =>
    intro pos acc h1 h2 h3
    refine Ev.round (fun k => by rw [muslinref04_Valid.l0]) ?_
    by_cases hp : pos < s.size
    · refine Ev.pos (by omega) ?_
      refine Ev.bind (whole_is s (by omega) pos hp) ?_
      have hne : s.data.toList.drop pos ≠ [] := by intro h; have := congrArg List.length h; simp at this; omega
      rw [vl_cons _ hne]
      rcases dec_cases _ hne with ⟨e0, e1, _⟩ | ⟨e0, e1, e2, e3, e4, e5⟩
      · rw [e0, e1]
        refine Ev.pos rfl ?_
        refine Ev.pos (by rw [intsOf_length]; omega) ?_
        have hb : intsOf acc ++ bytesOf (⟨#[239, 191, 189]⟩ : ByteArray) = intsOf (acc ++ [239, 191, 189]) := by rw [intsOf_append]; rfl
        rw [hb, w64 (by omega) (by omega)]
        have := ih (pos + 1) (acc ++ [239, 191, 189]) (by omega) (by omega) (by simp; omega)
        simp only [List.drop_drop]
        rw [show Lib.encodeRune ((65533 : Nat) : Int) = [239, 191, 189] from enc_65533, ← List.append_assoc]
        exact this
      · have hl : (s.data.toList.drop pos).length = s.size - pos := by simp
        rw [e0]
        refine Ev.neg (by omega) ?_
        refine Ev.pos (by omega) ?_
        have hw : wrap64 ((pos : Int) + (((uDec (s.data.toList.drop pos)).2 : Nat) : Int)) = ((pos + (uDec (s.data.toList.drop pos)).2 : Nat) : Int) := by rw [w64 (by omega) (by omega)]; omega
        rw [hw]
        refine Ev.pos (by omega) ?_
        refine Ev.pos (by omega) ?_
        have hx : (s.extract ((pos : Nat) : Int).toNat ((pos + (uDec (s.data.toList.drop pos)).2 : Nat) : Int).toNat).data.toList = (s.data.toList.drop pos).take (uDec (s.data.toList.drop pos)).2 := by
          rw [extract_list, Int.toNat_natCast, Int.toNat_natCast, List.drop_take, Nat.add_sub_cancel_left]
        have hxs : (s.extract ((pos : Nat) : Int).toNat ((pos + (uDec (s.data.toList.drop pos)).2 : Nat) : Int).toNat).size = (uDec (s.data.toList.drop pos)).2 := by
          rw [← sizeL, hx, List.length_take]; omega
        refine Ev.pos (by rw [intsOf_length, hxs]; omega) ?_
        rw [bytesOf_ints, hx, ← intsOf_append]
        have := ih (pos + (uDec (s.data.toList.drop pos)).2) (acc ++ (s.data.toList.drop pos).take (uDec (s.data.toList.drop pos)).2) (by omega) (by omega) (by rw [List.length_append, List.length_take]; omega)
        rw [e5, ← List.append_assoc, List.drop_drop]
        exact this
    · refine Ev.neg (by omega) ?_
      rw [strOf_ints, List.drop_eq_nil_of_le (by rw [sizeL]; omega), vl_nil, List.append_nil]
      exact Ev.now _
theorem refValid_is (s : ByteArray) (hs : s.size ≤ 35184372088832) : Ev (fun k => muslinref04_Valid.f k s) (validS s) := by
  rw [validS_eq]
  exact valid_loop s hs s.size 0 [] (by omega) (by omega) (by simp; omega)
end Go.Proofs.YtokkgjiofhhlkaaDoor.Pure
namespace Go.Proofs.YtokkgjiofhhlkaaDoor.Pure
open Go.RowKit Go.Proofs.YtokkgjiofhhlkaaDoor.C Go.Proofs.YtokkgjiofhhlkaaDoorW.PrintWords Go.Proofs.YtokkgjiofhhlkaaDoorW.PrintLast
set_option linter.unusedVariables false
set_option linter.unusedSimpArgs false
def knownL (t : List UInt8) : ByteArray × Bool :=
  if t = [117, 116, 102, 45, 56] ∨ t = [117, 116, 102, 56] ∨ t = [117, 110, 105, 99, 111, 100, 101, 45, 49, 45, 49, 45, 117, 116, 102, 45, 56] then ((⟨#[117, 116, 102, 45, 56]⟩ : ByteArray), true)
  else if t = [119, 105, 110, 100, 111, 119, 115, 45, 49, 50, 53, 50] ∨ t = [99, 112, 49, 50, 53, 50] ∨ t = [117, 115, 45, 97, 115, 99, 105, 105] ∨ t = [97, 115, 99, 105, 105] ∨ t = [105, 115, 111, 45, 56, 56, 53, 57, 45, 49] ∨ t = [105, 115, 111, 56, 56, 53, 57, 45, 49] ∨ t = [108, 97, 116, 105, 110, 49] ∨ t = [108, 49] then ((⟨#[119, 105, 110, 100, 111, 119, 115, 45, 49, 50, 53, 50]⟩ : ByteArray), true)
  else if t = [117, 116, 102, 45, 49, 54, 108, 101] ∨ t = [117, 116, 102, 45, 49, 54] ∨ t = [117, 110, 105, 99, 111, 100, 101] ∨ t = [117, 99, 115, 45, 50] then ((⟨#[117, 116, 102, 45, 49, 54, 108, 101]⟩ : ByteArray), true)
  else if t = [117, 116, 102, 45, 49, 54, 98, 101] ∨ t = [117, 110, 105, 99, 111, 100, 101, 102, 102, 102, 101] then ((⟨#[117, 116, 102, 45, 49, 54, 98, 101]⟩ : ByteArray), true)
  else ((⟨#[]⟩ : ByteArray), false)
set_option maxHeartbeats 1000000 in
theorem chars_Known_tail (t : ByteArray) : Ev (fun k => if t.toList = ([117, 116, 102, 45, 56] : List UInt8) then chars_Known.j0 k t (t.toList == ([117, 116, 102, 45, 56] : List UInt8)) else if t.toList = ([117, 116, 102, 56] : List UInt8) then chars_Known.j0 k t (t.toList == ([117, 116, 102, 56] : List UInt8)) else chars_Known.j0 k t (t.toList == ([117, 110, 105, 99, 111, 100, 101, 45, 49, 45, 49, 45, 117, 116, 102, 45, 56] : List UInt8))) (knownL t.data.toList) := by
  rw [← toList_eq]
  refine Ev.of (k := 3) (fun k => ?_) ?_
  · intro r h
    have m := fun x y => (chars_Known.mono_l k).1 x y
    split at h
    · rename_i c; rw [if_pos c]; exact m _ _ _ h
    · rename_i c; rw [if_neg c]
      split at h
      · rename_i c2; rw [if_pos c2]; exact m _ _ _ h
      · rename_i c2; rw [if_neg c2]; exact m _ _ _ h
  by_cases h0 : t.toList = [117, 116, 102, 45, 56]
  · simp [chars_Known.j0, chars_Known.j1, chars_Known.j2, h0, knownL]
  by_cases h1 : t.toList = [117, 116, 102, 56]
  · simp [chars_Known.j0, chars_Known.j1, chars_Known.j2, h1, knownL]
  by_cases h2 : t.toList = [117, 110, 105, 99, 111, 100, 101, 45, 49, 45, 49, 45, 117, 116, 102, 45, 56]
  · simp [chars_Known.j0, chars_Known.j1, chars_Known.j2, h2, knownL]
  by_cases h3 : t.toList = [119, 105, 110, 100, 111, 119, 115, 45, 49, 50, 53, 50]
  · simp [chars_Known.j0, chars_Known.j1, chars_Known.j2, h3, knownL]
  by_cases h4 : t.toList = [99, 112, 49, 50, 53, 50]
  · simp [chars_Known.j0, chars_Known.j1, chars_Known.j2, h4, knownL]
  by_cases h5 : t.toList = [117, 115, 45, 97, 115, 99, 105, 105]
  · simp [chars_Known.j0, chars_Known.j1, chars_Known.j2, h5, knownL]
  by_cases h6 : t.toList = [97, 115, 99, 105, 105]
  · simp [chars_Known.j0, chars_Known.j1, chars_Known.j2, h6, knownL]
  by_cases h7 : t.toList = [105, 115, 111, 45, 56, 56, 53, 57, 45, 49]
  · simp [chars_Known.j0, chars_Known.j1, chars_Known.j2, h7, knownL]
  by_cases h8 : t.toList = [105, 115, 111, 56, 56, 53, 57, 45, 49]
  · simp [chars_Known.j0, chars_Known.j1, chars_Known.j2, h8, knownL]
  by_cases h9 : t.toList = [108, 97, 116, 105, 110, 49]
  · simp [chars_Known.j0, chars_Known.j1, chars_Known.j2, h9, knownL]
  by_cases h10 : t.toList = [108, 49]
  · simp [chars_Known.j0, chars_Known.j1, chars_Known.j2, h10, knownL]
  by_cases h11 : t.toList = [117, 116, 102, 45, 49, 54, 108, 101]
  · simp [chars_Known.j0, chars_Known.j1, chars_Known.j2, h11, knownL]
  by_cases h12 : t.toList = [117, 116, 102, 45, 49, 54]
  · simp [chars_Known.j0, chars_Known.j1, chars_Known.j2, h12, knownL]
  by_cases h13 : t.toList = [117, 110, 105, 99, 111, 100, 101]
  · simp [chars_Known.j0, chars_Known.j1, chars_Known.j2, h13, knownL]
  by_cases h14 : t.toList = [117, 99, 115, 45, 50]
  · simp [chars_Known.j0, chars_Known.j1, chars_Known.j2, h14, knownL]
  by_cases h15 : t.toList = [117, 116, 102, 45, 49, 54, 98, 101]
  · simp [chars_Known.j0, chars_Known.j1, chars_Known.j2, h15, knownL]
  by_cases h16 : t.toList = [117, 110, 105, 99, 111, 100, 101, 102, 102, 102, 101]
  · simp [chars_Known.j0, chars_Known.j1, chars_Known.j2, h16, knownL]
  simp [chars_Known.j0, chars_Known.j1, chars_Known.j2, knownL, h0, h1, h2, h3, h4, h5, h6, h7, h8, h9, h10, h11, h12, h13, h14, h15, h16]
def rdrop (p : UInt8 → Bool) (l : List UInt8) : List UInt8 := (l.reverse.dropWhile p).reverse
theorem rdrop_cons (p : UInt8 → Bool) (x : UInt8) (xs : List UInt8) : rdrop p (x :: xs) = if rdrop p xs = [] then (if p x then [] else [x]) else x :: rdrop p xs := by
  unfold rdrop
  rw [List.reverse_cons, List.dropWhile_append]
  by_cases h : xs.reverse.dropWhile p = []
  · simp only [h, List.isEmpty_nil, if_true, List.reverse_nil]
    by_cases hx : p x = true
    · simp [hx]
    · simp [hx]
  · have h2 : (xs.reverse.dropWhile p).isEmpty = false := by
      cases hh : xs.reverse.dropWhile p with
      | nil => exact absurd hh h
      | cons a b => rfl
    simp [h2, h]
theorem drop_rdrop (p : UInt8 → Bool) : ∀ l : List UInt8, (rdrop p l).dropWhile p = rdrop p (l.dropWhile p) := by
  intro l
  induction l with
  | nil => rfl
  | cons x xs ih =>
    rw [rdrop_cons]
    by_cases hx : p x = true
    · rw [List.dropWhile_cons_of_pos hx, ← ih]
      by_cases h : rdrop p xs = []
      · rw [if_pos h, if_pos hx, h]
      · rw [if_neg h, List.dropWhile_cons_of_pos hx]
    · rw [List.dropWhile_cons_of_neg hx, rdrop_cons]
      by_cases h : rdrop p xs = []
      · rw [if_pos h, if_neg hx, List.dropWhile_cons_of_neg hx]
      · rw [if_neg h, List.dropWhile_cons_of_neg hx]
def isSp (c : UInt8) : Bool := [32, 9, 10, 12, 13].contains c
theorem trimS_sp (l : List UInt8) : Lib.trimS l [32, 9, 10, 12, 13] = rdrop isSp (l.dropWhile isSp) := by
  rw [← drop_rdrop]; rfl
def labelL (a : ByteArray) : List UInt8 := (rdrop isSp (a.data.toList.dropWhile isSp)).map lowC
theorem trim_got (a : ByteArray) (h : a.size ≤ 9223372036854775000) : strings_Trim.f a (⟨#[32, 9, 10, 12, 13]⟩ : ByteArray) = some ⟨(rdrop isSp (a.data.toList.dropWhile isSp)).toArray⟩ := by
  unfold strings_Trim.f
  rw [if_pos ⟨by omega, by decide, by decide⟩]
  rw [show (⟨#[32, 9, 10, 12, 13]⟩ : ByteArray).data.toList = [32, 9, 10, 12, 13] from rfl, trimS_sp]
theorem rdrop_len (p : UInt8 → Bool) (l : List UInt8) : (rdrop p l).length ≤ l.length := by
  unfold rdrop
  rw [List.length_reverse]
  have := (List.dropWhile_sublist (p := p) (l := l.reverse)).length_le
  simpa using this
theorem known_is (a : ByteArray) (h : a.size ≤ 5000) : Ev (fun k => chars_Known.f k a) (knownL (labelL a)) := by
  unfold chars_Known.f
  refine Ev.got (trim_got a (by omega)) ?_
  have h1 := rdrop_len isSp (a.data.toList.dropWhile isSp)
  have h2 := (List.dropWhile_sublist (p := isSp) (l := a.data.toList)).length_le
  rw [sizeL] at h2
  refine Ev.got (x := chars_small.f _) (guard_of (by rw [mk_size]; omega)) ?_
  exact chars_Known_tail _
end Go.Proofs.YtokkgjiofhhlkaaDoor.Pure
namespace Go.Proofs.YtokkgjiofhhlkaaDoor.Pure
open Go.RowKit Go.Proofs.YtokkgjiofhhlkaaDoor.C Go.Proofs.YtokkgjiofhhlkaaDoorW.PrintWords Go.Proofs.YtokkgjiofhhlkaaDoorW.PrintLast
set_option linter.unusedVariables false
set_option linter.unusedSimpArgs false
def nUtf : ByteArray := ⟨#[117, 116, 102, 45, 56]⟩
def nLat : ByteArray := ⟨#[119, 105, 110, 100, 111, 119, 115, 45, 49, 50, 53, 50]⟩
def nLe : ByteArray := ⟨#[117, 116, 102, 45, 49, 54, 108, 101]⟩
def nBe : ByteArray := ⟨#[117, 116, 102, 45, 49, 54, 98, 101]⟩
def nNone : ByteArray := ⟨#[]⟩
theorem known_cases (t : List UInt8) : knownL t = (nUtf, true) ∨ knownL t = (nLat, true) ∨ knownL t = (nLe, true) ∨ knownL t = (nBe, true) ∨ knownL t = (nNone, false) := by
  unfold knownL
  split
  · exact .inl rfl
  · split
    · exact .inr (.inl rfl)
    · split
      · exact .inr (.inr (.inl rfl))
      · split
        · exact .inr (.inr (.inr (.inl rfl)))
        · exact .inr (.inr (.inr (.inr rfl)))
def decL (n : ByteArray) (l : List UInt8) : List UInt8 :=
  if n.data.toList = nLat.data.toList then singlesL l else if n.data.toList = nLe.data.toList then dblL uLE l else if n.data.toList = nBe.data.toList then dblL uBE l else vl l
theorem nameEq {n : ByteArray} {l : List UInt8} (h : n.data.toList = l) : n.toList = l := by rw [toList_eq]; exact h
theorem nameNe {n : ByteArray} {l : List UInt8} (h : n.data.toList ≠ l) : ¬ n.toList = l := by rw [toList_eq]; exact h
theorem decode_is (a s : ByteArray) (ha : a.size ≤ 5000) (hs : s.size ≤ 11000000) : Ev (fun k => chars_Decode.f k a s) ((⟨(decL (knownL (labelL a)).1 s.data.toList).toArray⟩ : ByteArray), (knownL (labelL a)).2) := by
  unfold chars_Decode.f
  refine Ev.bind (known_is a ha) ?_
  have h5 : s.size ≤ 35184372088832 := by omega
  have hv : Ev (fun _ => (chars_Valid.f s).bind fun t => some (t, (knownL (labelL a)).2)) ((⟨(vl s.data.toList).toArray⟩ : ByteArray), (knownL (labelL a)).2) := by
    refine Ev.got (x := chars_Valid.f s) (guard_of h5) ?_
    rw [validS_eq]; exact Ev.now _
  rcases known_cases (labelL a) with h | h | h | h | h
  · rw [h] at hv ⊢
    refine Ev.neg (nameNe (by decide)) ?_
    refine Ev.neg (nameNe (by decide)) ?_
    refine Ev.neg (nameNe (by decide)) ?_
    exact hv
  · rw [h]
    refine Ev.pos (nameEq (by decide)) ?_
    refine Ev.got (x := chars_singles.f s) (guard_of h5) ?_
    exact Ev.now _
  · rw [h]
    refine Ev.neg (nameNe (by decide)) ?_
    refine Ev.pos (nameEq (by decide)) ?_
    refine Ev.got (x := chars_doubles.f s 0 8) (guard_of ⟨h5, .inl ⟨rfl, rfl⟩⟩) ?_
    exact Ev.now _
  · rw [h]
    refine Ev.neg (nameNe (by decide)) ?_
    refine Ev.neg (nameNe (by decide)) ?_
    refine Ev.pos (nameEq (by decide)) ?_
    refine Ev.got (x := chars_doubles.f s 8 0) (guard_of ⟨h5, .inr ⟨rfl, rfl⟩⟩) ?_
    exact Ev.now _
  · rw [h] at hv ⊢
    refine Ev.neg (nameNe (by decide)) ?_
    refine Ev.neg (nameNe (by decide)) ?_
    refine Ev.neg (nameNe (by decide)) ?_
    exact hv
theorem vl_Val (l : List UInt8) : Val (vl l) := valL_Val _ _
theorem singles_Val (l : List UInt8) : Val (singlesL l) := ⟨l.map hiC, by simp [singlesL, List.flatMap_map]⟩
theorem dblL_Val (u : UInt8 → UInt8 → Int) : ∀ (n : Nat) (l : List UInt8), l.length ≤ n → Val (dblL u l) := by
  intro n
  induction n with
  | zero => intro l h; obtain rfl : l = [] := List.eq_nil_of_length_eq_zero (by omega); exact Val.nil
  | succ n ih =>
    intro l h
    match l with
    | [] => exact Val.nil
    | [a] => exact Val.enc _
    | [a, b] => exact Val.enc _
    | [a, b, c] => exact (Val.enc _).append (Val.enc _)
    | a :: b :: c :: d :: r =>
      simp only [dblL]
      split
      · exact (Val.enc _).append (ih _ (by simp at h; omega))
      · exact (Val.enc _).append (ih _ (by simp at h ⊢; omega))
theorem decL_Val (n : ByteArray) (l : List UInt8) : Val (decL n l) := by
  unfold decL
  split
  · exact singles_Val _
  · split
    · exact dblL_Val _ _ _ (Nat.le_refl _)
    · split
      · exact dblL_Val _ _ _ (Nat.le_refl _)
      · exact vl_Val _
theorem enc_len3 (r : Int) (h : r ≤ 65535) : (Lib.encodeRune r).length ≤ 3 := by
  simp only [Lib.encodeRune, List.length_map, Lib.encodeRuneZ]
  split
  · simp
  · split
    · simp
    · split
      · simp
      · split
        · omega
        · simp
theorem singles_len (l : List UInt8) : (singlesL l).length ≤ 3 * l.length := by
  induction l with
  | nil => simp [singlesL]
  | cons c r ih =>
    have h := enc_len3 (hiC c) (hiC_range c).2
    have e : singlesL (c :: r) = Lib.encodeRune (hiC c) ++ singlesL r := by simp [singlesL]
    rw [e, List.length_append, List.length_cons]; omega
theorem dblL_len (u : UInt8 → UInt8 → Int) (hu : ∀ a b, u a b ≤ 65535) : ∀ (n : Nat) (l : List UInt8), l.length ≤ n → (dblL u l).length ≤ 3 * l.length := by
  intro n
  induction n with
  | zero => intro l h; obtain rfl : l = [] := List.eq_nil_of_length_eq_zero (by omega); simp [dblL]
  | succ n ih =>
    intro l h
    match l with
    | [] => simp [dblL]
    | [a] => simp only [dblL]; exact enc_len3 _ (by omega)
    | [a, b] => simp only [dblL]; have := enc_len3 _ (hu a b); simp; omega
    | [a, b, c] => simp only [dblL]; have := enc_len3 _ (hu a b); have := enc_len3 65533 (by omega); simp; omega
    | a :: b :: c :: d :: r =>
      simp only [dblL]
      split
      · have := ih r (by simp at h; omega)
        have := (enc_len (65536 + (u a b - 55296) * 1024 + u c d - 56320)).2
        rw [List.length_append]; simp only [List.length_cons]; omega
      · have := ih (c :: d :: r) (by simp at h ⊢; omega)
        have := enc_len3 _ (hu a b)
        rw [List.length_append]; simp only [List.length_cons] at *; omega
theorem decL_len (n : ByteArray) (l : List UInt8) : (decL n l).length ≤ 3 * l.length := by
  unfold decL
  split
  · exact singles_len _
  · split
    · exact dblL_len _ (fun a b => (uLE_range a b).2) _ _ (Nat.le_refl _)
    · split
      · exact dblL_len _ (fun a b => (uBE_range a b).2) _ _ (Nat.le_refl _)
      · exact valL_len _ _
end Go.Proofs.YtokkgjiofhhlkaaDoor.Pure
namespace Go.Proofs.YtokkgjiofhhlkaaDoor.Alph
open Go.RowKit Go.Lib Go.Proofs.YtokkgjiofhhlkaaDoor Go.Proofs.YtokkgjiofhhlkaaDoor.C Go.Proofs.YtokkgjiofhhlkaaDoor.Pure
set_option linter.unusedVariables false
theorem known_c (a : ByteArray) (ha : a.size ≤ 5000) (w : World) : Calls Tryd.prog 22 #[.string a] w fun e w' => e = .returned (.tuple #[.string (knownL (labelL a)).1, .bool (knownL (labelL a)).2]) ∧ Below w.heap.size w w' := by
  obtain ⟨r, h⟩ := known_is a ha
  exact chars_Known.calls r a _ _ w (h r (Nat.le_refl _))
theorem decode_c (a s : ByteArray) (ha : a.size ≤ 5000) (hs : s.size ≤ 11000000) (w : World) (hGl : Glob w) : Calls Tryd.prog 25 #[.string a, .string s] w fun e w' => e = .returned (.tuple #[.string ⟨(decL (knownL (labelL a)).1 s.data.toList).toArray⟩, .bool (knownL (labelL a)).2]) ∧ Below w.heap.size w w' := by
  obtain ⟨r, h⟩ := decode_is a s ha hs
  exact chars_Decode.calls r a s _ _ w hGl (h r (Nat.le_refl _))
theorem refValid_c (s : ByteArray) (hs : s.size ≤ 35184372088832) (w : World) : Calls Tryd.prog 18 #[.string s] w fun e w' => e = .returned (.string (validS s)) ∧ Below w.heap.size w w' := by
  obtain ⟨r, h⟩ := refValid_is s hs
  exact muslinref04_Valid.calls r s _ w (h r (Nat.le_refl _))
end Go.Proofs.YtokkgjiofhhlkaaDoor.Alph
namespace Go.Proofs.YtokkgjiofhhlkaaDoor
open Go.RowKit Go.Lib Go.Proofs.YtokkgjiofhhlkaaDoor.Pure
set_option linter.unusedVariables false
def chars_Known.f (a : ByteArray) : Option (ByteArray × Bool) := if a.size ≤ 5000 then some (knownL (labelL a)) else none
theorem chars_Known.calls (a r1 : ByteArray) (r2 : Bool) (w : World) (h : chars_Known.f a = some (r1, r2)) :
    Calls Tryd.prog 22 #[.string a] w fun e w' => e = .returned (.tuple #[.string r1, .bool r2]) ∧ Below w.heap.size w w' := by
  obtain ⟨h1, h2⟩ := of_guard h
  have := Alph.known_c a h1 w
  rw [h2] at this; exact this
def chars_Decode.f (a s : ByteArray) : Option (ByteArray × Bool) := if a.size ≤ 5000 ∧ s.size ≤ 11000000 then some (⟨(decL (knownL (labelL a)).1 s.data.toList).toArray⟩, (knownL (labelL a)).2) else none
theorem chars_Decode.calls (a s r1 : ByteArray) (r2 : Bool) (w : World) (hGl : Glob w) (h : chars_Decode.f a s = some (r1, r2)) :
    Calls Tryd.prog 25 #[.string a, .string s] w fun e w' => e = .returned (.tuple #[.string r1, .bool r2]) ∧ Below w.heap.size w w' := by
  obtain ⟨⟨h1, h2⟩, h3⟩ := of_guard h
  injection h3 with h4 h5
  subst h4 h5
  exact Alph.decode_c a s h1 h2 w hGl
def muslinref04_Valid.f (s : ByteArray) : Option ByteArray := if s.size ≤ 35184372088832 then some ⟨(vl s.data.toList).toArray⟩ else none
theorem muslinref04_Valid.calls (s r : ByteArray) (w : World) (h : muslinref04_Valid.f s = some r) :
    Calls Tryd.prog 18 #[.string s] w fun e w' => e = .returned (.string r) ∧ Below w.heap.size w w' := by
  obtain ⟨h1, h2⟩ := of_guard h
  have := Alph.refValid_c s h1 w
  rw [validS_eq, h2] at this; exact this
def muslinref04_Whole.f (s : ByteArray) (a : Int) : Option Int := if 0 ≤ a ∧ a < (s.size : Int) ∧ s.size ≤ 35184372088832 then some (wholeL (s.data.toList.drop a.toNat) : Int) else none
theorem muslinref04_Whole.calls (s : ByteArray) (a r : Int) (w : World) (h : muslinref04_Whole.f s a = some r) :
    Calls Tryd.prog 42 #[.string s, .int .i64 a] w fun e w' => e = .returned (.int .i64 r) ∧ Below w.heap.size w w' := by
  obtain ⟨⟨h0, h1, h2⟩, rfl⟩ := of_guard h
  obtain ⟨n, rfl⟩ : ∃ n : Nat, a = (n : Int) := ⟨a.toNat, by omega⟩
  obtain ⟨r, h⟩ := whole_is s (by omega) n (by omega)
  exact (C.muslinref04_Whole.calls r s (n : Int) _ w (h r (Nat.le_refl _))).mono (by rintro e w' ⟨rfl, n, rfl⟩; exact ⟨rfl, bdrewN (Below.refl _ _) n⟩)
end Go.Proofs.YtokkgjiofhhlkaaDoor
namespace Go.Proofs.YtokkgjiofhhlkaaDoor.B64
open Go.RowKit Go.Lib Go.Proofs.YtokkgjiofhhlkaaDoor Go.Proofs.YtokkgjiofhhlkaaDoor.Row
set_option linter.unusedVariables false
set_option linter.unusedSimpArgs false
structure Gat (M : Nat) (F T : Int) (ov : Value) (all bits : Int) (w : World) : Prop where
  b0 : w.heap[M]? = some (.cells #[.int .i64 F] 3 (0, 0))
  b1 : w.heap[M + 1]? = some (.cells #[.int .i64 T] 3 (0, 0))
  b2 : w.heap[M + 2]? = some (.cells #[ov] 56 (0, 0))
  b3 : w.heap[M + 3]? = some (.cells #[.int .i64 all] 3 (0, 0))
  b4 : w.heap[M + 4]? = some (.cells #[.int .i64 bits] 3 (0, 0))
theorem Gat.kept {M : Nat} {F T : Int} {ov : Value} {all bits : Int} {w w' : World} {E : Nat} (h : Gat M F T ov all bits w) (hE : E < M) (hk : OthersKept 5 (some E) w w') : Gat M F T ov all bits w' := by
  have key : ∀ k (cs : Array Value) t, t ≠ 5 → E < k → w.heap[k]? = some (.cells cs t (0, 0)) → w'.heap[k]? = some (.cells cs t (0, 0)) := by
    intro k cs t ht hk1 h1
    refine hk k _ h1 (by simp <;> omega) ?_
    intro c fz e
    injection e with _ e2 _
    exact ht e2
  exact ⟨key _ _ _ (by decide) (by omega) h.b0, key _ _ _ (by decide) (by omega) h.b1, key _ _ _ (by decide) (by omega) h.b2, key _ _ _ (by decide) (by omega) h.b3, key _ _ _ (by decide) (by omega) h.b4⟩
theorem Gat.drewN {M : Nat} {F T : Int} {ov : Value} {all bits : Int} {w : World} (h : Gat M F T ov all bits w) (n : Nat) : Gat M F T ov all bits (w.drewN n) := ⟨h.b0, h.b1, h.b2, h.b3, h.b4⟩
abbrev gatV (M : Nat) : Value := .func (.func 82) #[] #[.pointer (some ⟨M + 3, 0, none⟩), .pointer (some ⟨M, 0, none⟩), .pointer (some ⟨M + 4, 0, none⟩), .pointer (some ⟨M + 1, 0, none⟩), .pointer (some ⟨M + 2, 0, none⟩)]
theorem al_new (w : World) (o : Obj) : (w.alloc o).heap[w.heap.size]? = some o := by
  exact Deep.blk_alloc_new w o
theorem al_new1 (w : World) (o : Obj) (k : Nat) (h : k = w.heap.size) : (w.alloc o).heap[k]? = some o := by subst h; exact al_new w o
abbrev outV (g E : Nat) : Value := .func (.func g) #[] #[.pointer (some ⟨E, 0, none⟩)]
set_option maxRecDepth 100000 in
set_option maxHeartbeats 4000000 in
theorem gather_c (F T : Int) (g E : Nat) (w : World) :
    Calls Tryd.prog 49 #[.int .i64 F, .int .i64 T, outV g E] w fun e w' => e = .returned (gatV w.heap.size) ∧ Below w.heap.size w w' ∧ Gat w.heap.size F T (outV g E) 0 0 w' ∧ OthersKept 5 none w w' ∧ w'.heap.size = w.heap.size + 5 := by
  have hmf : ∀ (fn : Fn) (first cap : Array Value) (w : World), (Instr.makeFunc fn first cap).run Tryd.prog w = .ok (.func fn first cap) w := fun _ _ _ _ => rfl
  unfold outV
  go_enter Tryd.func49, Tryd.ntmps49
  go_wp2_with fail
  go_ret
  have old : ∀ (v : World) (o : Obj) (k : Nat) x, k < v.heap.size → v.heap[k]? = some x → (v.alloc o).heap[k]? = some x := fun v o k x hk h => (Below.heap_alloc v o k hk).trans h
  refine ⟨rfl, ((((((Below.refl _ w).alloc (Nat.le_refl _) _).alloc (by simp) _).alloc (by simp <;> omega) _).alloc (by simp <;> omega) _).alloc (by simp <;> omega) _), ⟨?_, ?_, ?_, ?_, ?_⟩, ((((((OthersKept.refl _ _ w).alloc _).alloc _).alloc _).alloc _).alloc _), by simp⟩
  · exact old _ _ _ _ (by simp <;> omega) (old _ _ _ _ (by simp <;> omega) (old _ _ _ _ (by simp <;> omega) (old _ _ _ _ (by simp) (al_new1 _ _ _ rfl))))
  · exact old _ _ _ _ (by simp <;> omega) (old _ _ _ _ (by simp <;> omega) (old _ _ _ _ (by simp) (al_new1 _ _ _ (by simp))))
  · exact old _ _ _ _ (by simp <;> omega) (old _ _ _ _ (by simp) (al_new1 _ _ _ (by simp)))
  · exact old _ _ _ _ (by simp) (al_new1 _ _ _ (by simp))
  · exact al_new1 _ _ _ (by simp)
structure Sink (B E g T : Nat) (K : List Nat → World → Prop) (L : Nat) : Prop where
  call : ∀ (l : List Nat) (n : Nat) (w : World), K l w → n < 2 ^ T → l.length ≤ L → B ≤ w.heap.size →
    Calls Tryd.prog g #[.int .i64 (n : Int), .pointer (some ⟨E, 0, none⟩)] w fun e w' => e = .returned (.tuple #[]) ∧ K (l ++ [n]) w' ∧ Below B w w' ∧ OthersKept 5 (some E) w w'
  set : ∀ (l : List Nat) (w : World) (k : Nat) (cs : Array Value) (v : Value), K l w → k ≠ E → w.heap[k]? = some (.cells cs 3 (0, 0)) → K l (w.setCell ⟨k, 0, none⟩ v)
  drew : ∀ (l : List Nat) (w : World) (n : Nat), K l w → K l (w.drewN n)
theorem Gat.setAll {M : Nat} {F T : Int} {ov : Value} {all bits : Int} {w : World} (h : Gat M F T ov all bits w) (x : Int) : Gat M F T ov x bits (w.setCell ⟨M + 3, 0, none⟩ (.int .i64 x)) := by
  have ne : ∀ k, k ≠ M + 3 → (w.setCell ⟨M + 3, 0, none⟩ (.int .i64 x)).heap[k]? = w.heap[k]? := fun k hk => Deep.blk_setCell_other w ⟨M + 3, 0, none⟩ _ k hk
  refine ⟨(ne _ (by omega)).trans h.b0, (ne _ (by omega)).trans h.b1, (ne _ (by omega)).trans h.b2, ?_, (ne _ (by omega)).trans h.b4⟩
  exact Joins.block_setCell h.b3 _
theorem Gat.setBits {M : Nat} {F T : Int} {ov : Value} {all bits : Int} {w : World} (h : Gat M F T ov all bits w) (x : Int) : Gat M F T ov all x (w.setCell ⟨M + 4, 0, none⟩ (.int .i64 x)) := by
  have ne : ∀ k, k ≠ M + 4 → (w.setCell ⟨M + 4, 0, none⟩ (.int .i64 x)).heap[k]? = w.heap[k]? := fun k hk => Deep.blk_setCell_other w ⟨M + 4, 0, none⟩ _ k hk
  refine ⟨(ne _ (by omega)).trans h.b0, (ne _ (by omega)).trans h.b1, (ne _ (by omega)).trans h.b2, (ne _ (by omega)).trans h.b3, ?_⟩
  exact Joins.block_setCell h.b4 _
theorem wraps_i64 (n : Int) (h0 : 0 ≤ n) (h1 : n < 2 ^ 62) : IntKind.i64.wrap n = n := by rw [IntKind.wrap_i64]; omega
theorem orand6 (a n : Nat) (ha : a < 65536) (hn : n < 2 ^ 6) : bits BinOp.and .i64 (bits BinOp.or .i64 ((a : Int) * 64) (n : Int)) 65535 = (((a * 2 ^ 6 + n) % 65536 : Nat) : Int) := by
  have e1 : (a : Int) * 64 = ((a * 64 : Nat) : Int) := by omega
  rw [e1, (bits_nat .i64 62 (by decide) wraps_i64 (a * 64) n (by omega) (by omega)).2, nat_join 6 _ _ (by omega) (by omega)]
  have := bits_mask .i64 62 (by decide) wraps_i64 16 (by decide) ((a * 64 + n : Nat) : Int) (by omega) (by omega)
  rw [show ((2 : Int) ^ 16 - 1) = 65535 by decide] at this
  rw [this]
  omega
theorem orand8 (a n : Nat) (ha : a < 65536) (hn : n < 2 ^ 8) : bits BinOp.and .i64 (bits BinOp.or .i64 ((a : Int) * 256) (n : Int)) 65535 = (((a * 2 ^ 8 + n) % 65536 : Nat) : Int) := by
  have e1 : (a : Int) * 256 = ((a * 256 : Nat) : Int) := by omega
  rw [e1, (bits_nat .i64 62 (by decide) wraps_i64 (a * 256) n (by omega) (by omega)).2, nat_join 8 _ _ (by omega) (by omega)]
  have := bits_mask .i64 62 (by decide) wraps_i64 16 (by decide) ((a * 256 + n : Nat) : Int) (by omega) (by omega)
  rw [show ((2 : Int) ^ 16 - 1) = 65535 by decide] at this
  rw [this]
  omega
def emit (T a : Nat) : Nat → Nat → List Nat
  | 0, _ => []
  | k + 1, b => if T ≤ b then (a / 2 ^ (b - T)) % 2 ^ T :: emit T a k (b - T) else []
end Go.Proofs.YtokkgjiofhhlkaaDoor.B64
namespace Go.Proofs.YtokkgjiofhhlkaaDoor.B64
open Go.RowKit Go.Lib Go.Proofs.YtokkgjiofhhlkaaDoor Go.Proofs.YtokkgjiofhhlkaaDoor.Row
set_option linter.unusedVariables false
set_option linter.unusedSimpArgs false
set_option maxRecDepth 100000 in
set_option maxHeartbeats 8000000 in
theorem gat8_c (B E M L : Nat) (K : List Nat → World → Prop) (S : Sink B E 73 6 K (L + 2)) (l : List Nat) (a b n : Nat) (w : World)
    (hK : K l w) (hG : Gat M 8 6 (outV 73 E) a b w) (ha : a < 65536) (hb : b < 6) (hn : n < 2 ^ 8) (hl : l.length ≤ L) (hE : E < M) (hB : B ≤ E) (hBW : B ≤ w.heap.size) :
    Calls Tryd.prog 82 #[.int .i64 (n : Int), .pointer (some ⟨M + 3, 0, none⟩), .pointer (some ⟨M, 0, none⟩), .pointer (some ⟨M + 4, 0, none⟩), .pointer (some ⟨M + 1, 0, none⟩), .pointer (some ⟨M + 2, 0, none⟩)] w
      fun e w' => e = .returned (.int .i64 (((b + 8) % 6 : Nat) : Int)) ∧ K (l ++ emit 6 ((a * 2 ^ 8 + n) % 65536) 2 (b + 8)) w' ∧ Gat M 8 6 (outV 73 E) (((a * 2 ^ 8 + n) % 65536 : Nat) : Int) (((b + 8) % 6 : Nat) : Int) w' ∧ Below B w w' := by
  have hG : Gat M 8 6 (outV 73 E) a b w := hG
  have c0 := Joins.cell_of_block hG.b0 0
  have c1 := Joins.cell_of_block hG.b1 0
  have c2 := Joins.cell_of_block hG.b2 0
  have c3 := Joins.cell_of_block hG.b3 0
  have c4 := Joins.cell_of_block hG.b4 0
  have u3 := Joins.unfrozen_of_block hG.b3 0
  have u4 := Joins.unfrozen_of_block hG.b4 0
  simp at c0 c1 c2 c3 c4
  go_enter Tryd.func82, Tryd.ntmps82
  go_upto_region 1 with fail
  go_region
  rw [orand8 a n ha hn]
  generalize hAA : (a * 2 ^ 8 + n) % 65536 = A
  have hA : A < 65536 := by omega
  have G2 : Gat M 8 6 (outV 73 E) (A : Int) ((b + 8 : Nat) : Int) (((w.setCell ⟨M + 3, 0, none⟩ (.int .i64 (A : Int))).setCell ⟨M + 4, 0, none⟩ (.int .i64 ((b : Int) + 8))).drew) := by
    rw [show ((b + 8 : Nat) : Int) = (b : Int) + 8 by omega]
    exact (((hG.setAll (A : Int)).setBits ((b : Int) + 8))).drewN 1
  have K2 : K l (((w.setCell ⟨M + 3, 0, none⟩ (.int .i64 (A : Int))).setCell ⟨M + 4, 0, none⟩ (.int .i64 ((b : Int) + 8))).drew) := S.drew _ _ 1 (S.set _ _ _ _ _ (S.set _ _ _ _ _ hK (by omega) hG.b3) (by omega) (hG.setAll (A : Int)).b4)
  have B2 : Below B w (((w.setCell ⟨M + 3, 0, none⟩ (.int .i64 (A : Int))).setCell ⟨M + 4, 0, none⟩ (.int .i64 ((b : Int) + 8))).drew) := (((Below.refl B w).setCell (p := ⟨M + 3, 0, none⟩) (by show B ≤ M + 3; omega) _).setCell (p := ⟨M + 4, 0, none⟩) (by show B ≤ M + 4; omega) _).drew
  generalize World.drew _ = w2 at G2 K2 B2 ⊢
  clear c0 c1 c2 c3 c4 u3 u4 hK hG
  have HS := Lib.hid S
  clear S
  go_wp2
  go_loopw [] (fun wr => ∃ (k b' : Nat) (l' : List Nat), l' ++ emit 6 A k b' = l ++ emit 6 A 2 (b + 8) ∧ b' % 6 = (b + 8) % 6 ∧ b' < (k + 1) * 6 ∧ b' ≤ 13 ∧ l'.length + k ≤ L + 2 ∧ Gat M 8 6 (outV 73 E) (A : Int) (b' : Int) wr ∧ K l' wr ∧ Below B w wr) (fun wr => (RowKit.intOf ((wr.cell? ⟨M + 4, 0, none⟩).getD .nilFunc)).toNat)
  case atStart => exact ⟨2, b + 8, l, rfl, rfl, by omega, by omega, by omega, G2, K2, B2⟩
  case round =>
    obtain ⟨k, b', l', e1, e2, e3, e4, e5, G3, K3, B3⟩ := hrel
    have c1 := Joins.cell_of_block G3.b1 0
    have c2 := Joins.cell_of_block G3.b2 0
    have c3 := Joins.cell_of_block G3.b3 0
    have c4 := Joins.cell_of_block G3.b4 0
    have u4 := Joins.unfrozen_of_block G3.b4 0
    simp at c1 c2 c3 c4
    have HM := Lib.hid c4
    by_cases hT : 6 ≤ b'
    · obtain ⟨k, rfl⟩ : ∃ j, k = j + 1 := ⟨k - 1, by omega⟩
      have hT2 : (6 : Int) ≤ (b' : Int) := by omega
      have G4 : Gat M 8 6 (outV 73 E) (A : Int) ((b' - 6 : Nat) : Int) (wr.setCell ⟨M + 4, 0, none⟩ (.int .i64 ((b' : Int) - 6))) := by
        rw [show ((b' - 6 : Nat) : Int) = (b' : Int) - 6 by omega]
        exact G3.setBits _
      have K4 : K l' (wr.setCell ⟨M + 4, 0, none⟩ (.int .i64 ((b' : Int) - 6))) := HS.out.set _ _ _ _ _ K3 (by omega) G3.b4
      have B4 : Below B w (wr.setCell ⟨M + 4, 0, none⟩ (.int .i64 ((b' : Int) - 6))) := B3.setCell (p := ⟨M + 4, 0, none⟩) (by show B ≤ M + 4; omega) _
      go_upto_region 4 with fail
      obtain ⟨b2, hb2, hb3⟩ : ∃ b2 : Nat, b' = b2 + 6 ∧ b2 ≤ 7 := ⟨b' - 6, by omega, by omega⟩
      subst hb2
      rw [show b2 + 6 - 6 = b2 by omega] at G4
      generalize World.setCell wr _ _ = w4 at G4 K4 B4 ⊢
      clear G3 K3 B3 c1 c2 c3 c4 u4
      have c1 := Joins.cell_of_block G4.b1 0
      have c2 := Joins.cell_of_block G4.b2 0
      have c3 := Joins.cell_of_block G4.b3 0
      have c4 := Joins.cell_of_block G4.b4 0
      simp at c1 c2 c3 c4
      unfold outV at c2
      obtain ⟨q, hq⟩ : ∃ q, q = A / 2 ^ b2 := ⟨_, rfl⟩
      have hq2 : q ≤ A := by rw [hq]; exact Nat.div_le_self _ _
      have e9 : (A : Int) / 2 ^ b2 = (q : Int) := by rw [hq, Int.natCast_ediv]; simp
      have e9b : (A : Int) / 2 ^ b2 % 64 = ((q % 2 ^ 6 : Nat) : Int) := by rw [e9]; omega
      have hx : bits BinOp.and .i64 ((A : Int) / 2 ^ b2) (IntKind.i64.wrap (IntKind.i64.wrap 64 - 1)) = (A : Int) / 2 ^ b2 % 64 := by
        rw [show (IntKind.i64.wrap (IntKind.i64.wrap 64 - 1)) = (2 : Int) ^ 6 - 1 by decide, e9]
        exact bits_mask .i64 62 (by decide) wraps_i64 6 (by decide) (q : Int) (by omega) (by omega)
      have HC := Lib.hid (HS.out.call l' (q % 2 ^ 6) (w4.drew) (HS.out.drew _ _ 1 K4) (Nat.mod_lt _ (by decide)) (by omega) (Nat.le_trans hBW (by simpa using B4.size)))
      have EM : Hid ((l' ++ [q % 2 ^ 6]) ++ emit 6 A k b2 = l ++ emit 6 A 2 (b + 8)) := Lib.hid (by
        rw [← e1]
        have : emit 6 A (k + 1) (b2 + 6) = (A / 2 ^ b2) % 2 ^ 6 :: emit 6 A k b2 := by
          simp only [emit]
          rw [if_pos (by omega), show b2 + 6 - 6 = b2 by omega]
        rw [this, hq, List.append_assoc]
        rfl)
      clear e1
      have E9 := Lib.hid e9b
      have HX := Lib.hid hx
      clear e9 e9b hq hq2 hx
      go_region_with (go_at_call 73; rw [HX.out, E9.out]; refine (HC.out).mono ?_; rintro e w5 ⟨rfl, K5, B5, O5⟩)
      all_goals
        have hG5 : Gat M 8 6 (outV 73 E) (A : Int) (b2 : Int) w5 := (G4.drewN 1).kept hE O5
        have hm5 := Joins.cell_of_block hG5.b4 0
        simp at hm5
        have hm3 := HM.out
        go_wp2_with fail
        go_roundw
        case rel => exact ⟨k, b2, l' ++ [q % 2 ^ 6], EM.out, by omega, by omega, by omega, by simp; omega, hG5, K5, B4.drew.trans B5⟩
        case measure => rw [hm5, hm3]; simp [RowKit.intOf]; omega
    · have hT2 : ¬ (6 : Int) ≤ (b' : Int) := by omega
      go_wp2
      go_ret
      have e6 : emit 6 A k b' = [] := by cases k with
        | zero => rfl
        | succ k => simp only [emit]; rw [if_neg hT]
      rw [e6, List.append_nil] at e1
      subst e1
      have e7 : (b' : Int) = ((b : Int) + 8) % 6 := by omega
      rw [← e7]
      exact ⟨rfl, K3, G3, B3⟩
end Go.Proofs.YtokkgjiofhhlkaaDoor.B64
namespace Go.Proofs.YtokkgjiofhhlkaaDoor.B64
open Go.RowKit Go.Lib Go.Proofs.YtokkgjiofhhlkaaDoor Go.Proofs.YtokkgjiofhhlkaaDoor.Row
set_option linter.unusedVariables false
set_option linter.unusedSimpArgs false
set_option maxRecDepth 100000 in
set_option maxHeartbeats 8000000 in
theorem gat6_c (B E M L : Nat) (K : List Nat → World → Prop) (S : Sink B E 50 8 K (L + 2)) (l : List Nat) (a b n : Nat) (w : World)
    (hK : K l w) (hG : Gat M 6 8 (outV 50 E) a b w) (ha : a < 65536) (hb : b < 8) (hn : n < 2 ^ 6) (hl : l.length ≤ L) (hE : E < M) (hB : B ≤ E) (hBW : B ≤ w.heap.size) :
    Calls Tryd.prog 82 #[.int .i64 (n : Int), .pointer (some ⟨M + 3, 0, none⟩), .pointer (some ⟨M, 0, none⟩), .pointer (some ⟨M + 4, 0, none⟩), .pointer (some ⟨M + 1, 0, none⟩), .pointer (some ⟨M + 2, 0, none⟩)] w
      fun e w' => e = .returned (.int .i64 (((b + 6) % 8 : Nat) : Int)) ∧ K (l ++ emit 8 ((a * 2 ^ 6 + n) % 65536) 2 (b + 6)) w' ∧ Gat M 6 8 (outV 50 E) (((a * 2 ^ 6 + n) % 65536 : Nat) : Int) (((b + 6) % 8 : Nat) : Int) w' ∧ Below B w w' := by
  have hG : Gat M 6 8 (outV 50 E) a b w := hG
  have c0 := Joins.cell_of_block hG.b0 0
  have c1 := Joins.cell_of_block hG.b1 0
  have c2 := Joins.cell_of_block hG.b2 0
  have c3 := Joins.cell_of_block hG.b3 0
  have c4 := Joins.cell_of_block hG.b4 0
  have u3 := Joins.unfrozen_of_block hG.b3 0
  have u4 := Joins.unfrozen_of_block hG.b4 0
  simp at c0 c1 c2 c3 c4
  go_enter Tryd.func82, Tryd.ntmps82
  go_upto_region 1 with fail
  go_region
  rw [orand6 a n ha hn]
  generalize hAA : (a * 2 ^ 6 + n) % 65536 = A
  have hA : A < 65536 := by omega
  have G2 : Gat M 6 8 (outV 50 E) (A : Int) ((b + 6 : Nat) : Int) (((w.setCell ⟨M + 3, 0, none⟩ (.int .i64 (A : Int))).setCell ⟨M + 4, 0, none⟩ (.int .i64 ((b : Int) + 6))).drew) := by
    rw [show ((b + 6 : Nat) : Int) = (b : Int) + 6 by omega]
    exact (((hG.setAll (A : Int)).setBits ((b : Int) + 6))).drewN 1
  have K2 : K l (((w.setCell ⟨M + 3, 0, none⟩ (.int .i64 (A : Int))).setCell ⟨M + 4, 0, none⟩ (.int .i64 ((b : Int) + 6))).drew) := S.drew _ _ 1 (S.set _ _ _ _ _ (S.set _ _ _ _ _ hK (by omega) hG.b3) (by omega) (hG.setAll (A : Int)).b4)
  have B2 : Below B w (((w.setCell ⟨M + 3, 0, none⟩ (.int .i64 (A : Int))).setCell ⟨M + 4, 0, none⟩ (.int .i64 ((b : Int) + 6))).drew) := (((Below.refl B w).setCell (p := ⟨M + 3, 0, none⟩) (by show B ≤ M + 3; omega) _).setCell (p := ⟨M + 4, 0, none⟩) (by show B ≤ M + 4; omega) _).drew
  generalize World.drew _ = w2 at G2 K2 B2 ⊢
  clear c0 c1 c2 c3 c4 u3 u4 hK hG
  have HS := Lib.hid S
  clear S
  go_wp2
  go_loopw [] (fun wr => ∃ (k b' : Nat) (l' : List Nat), l' ++ emit 8 A k b' = l ++ emit 8 A 2 (b + 6) ∧ b' % 8 = (b + 6) % 8 ∧ b' < (k + 1) * 8 ∧ b' ≤ 13 ∧ l'.length + k ≤ L + 2 ∧ Gat M 6 8 (outV 50 E) (A : Int) (b' : Int) wr ∧ K l' wr ∧ Below B w wr) (fun wr => (RowKit.intOf ((wr.cell? ⟨M + 4, 0, none⟩).getD .nilFunc)).toNat)
  case atStart => exact ⟨2, b + 6, l, rfl, rfl, by omega, by omega, by omega, G2, K2, B2⟩
  case round =>
    obtain ⟨k, b', l', e1, e2, e3, e4, e5, G3, K3, B3⟩ := hrel
    have c1 := Joins.cell_of_block G3.b1 0
    have c2 := Joins.cell_of_block G3.b2 0
    have c3 := Joins.cell_of_block G3.b3 0
    have c4 := Joins.cell_of_block G3.b4 0
    have u4 := Joins.unfrozen_of_block G3.b4 0
    simp at c1 c2 c3 c4
    have HM := Lib.hid c4
    by_cases hT : 8 ≤ b'
    · obtain ⟨k, rfl⟩ : ∃ j, k = j + 1 := ⟨k - 1, by omega⟩
      have hT2 : (8 : Int) ≤ (b' : Int) := by omega
      have G4 : Gat M 6 8 (outV 50 E) (A : Int) ((b' - 8 : Nat) : Int) (wr.setCell ⟨M + 4, 0, none⟩ (.int .i64 ((b' : Int) - 8))) := by
        rw [show ((b' - 8 : Nat) : Int) = (b' : Int) - 8 by omega]
        exact G3.setBits _
      have K4 : K l' (wr.setCell ⟨M + 4, 0, none⟩ (.int .i64 ((b' : Int) - 8))) := HS.out.set _ _ _ _ _ K3 (by omega) G3.b4
      have B4 : Below B w (wr.setCell ⟨M + 4, 0, none⟩ (.int .i64 ((b' : Int) - 8))) := B3.setCell (p := ⟨M + 4, 0, none⟩) (by show B ≤ M + 4; omega) _
      go_upto_region 4 with fail
      obtain ⟨b2, hb2, hb3⟩ : ∃ b2 : Nat, b' = b2 + 8 ∧ b2 ≤ 5 := ⟨b' - 8, by omega, by omega⟩
      subst hb2
      rw [show b2 + 8 - 8 = b2 by omega] at G4
      generalize World.setCell wr _ _ = w4 at G4 K4 B4 ⊢
      clear G3 K3 B3 c1 c2 c3 c4 u4
      have c1 := Joins.cell_of_block G4.b1 0
      have c2 := Joins.cell_of_block G4.b2 0
      have c3 := Joins.cell_of_block G4.b3 0
      have c4 := Joins.cell_of_block G4.b4 0
      simp at c1 c2 c3 c4
      unfold outV at c2
      obtain ⟨q, hq⟩ : ∃ q, q = A / 2 ^ b2 := ⟨_, rfl⟩
      have hq2 : q ≤ A := by rw [hq]; exact Nat.div_le_self _ _
      have e9 : (A : Int) / 2 ^ b2 = (q : Int) := by rw [hq, Int.natCast_ediv]; simp
      have e9b : (A : Int) / 2 ^ b2 % 256 = ((q % 2 ^ 8 : Nat) : Int) := by rw [e9]; omega
      have hx : bits BinOp.and .i64 ((A : Int) / 2 ^ b2) (IntKind.i64.wrap (IntKind.i64.wrap 256 - 1)) = (A : Int) / 2 ^ b2 % 256 := by
        rw [show (IntKind.i64.wrap (IntKind.i64.wrap 256 - 1)) = (2 : Int) ^ 8 - 1 by decide, e9]
        exact bits_mask .i64 62 (by decide) wraps_i64 8 (by decide) (q : Int) (by omega) (by omega)
      have HC := Lib.hid (HS.out.call l' (q % 2 ^ 8) (w4.drew) (HS.out.drew _ _ 1 K4) (Nat.mod_lt _ (by decide)) (by omega) (Nat.le_trans hBW (by simpa using B4.size)))
      have EM : Hid ((l' ++ [q % 2 ^ 8]) ++ emit 8 A k b2 = l ++ emit 8 A 2 (b + 6)) := Lib.hid (by
        rw [← e1]
        have : emit 8 A (k + 1) (b2 + 8) = (A / 2 ^ b2) % 2 ^ 8 :: emit 8 A k b2 := by
          simp only [emit]
          rw [if_pos (by omega), show b2 + 8 - 8 = b2 by omega]
        rw [this, hq, List.append_assoc]
        rfl)
      clear e1
      have E9 := Lib.hid e9b
      have HX := Lib.hid hx
      clear e9 e9b hq hq2 hx
      go_region_with (go_at_call 50; rw [HX.out, E9.out]; refine (HC.out).mono ?_; rintro e w5 ⟨rfl, K5, B5, O5⟩)
      all_goals
        have hG5 : Gat M 6 8 (outV 50 E) (A : Int) (b2 : Int) w5 := (G4.drewN 1).kept hE O5
        have hm5 := Joins.cell_of_block hG5.b4 0
        simp at hm5
        have hm3 := HM.out
        go_wp2_with fail
        go_roundw
        case rel => exact ⟨k, b2, l' ++ [q % 2 ^ 8], EM.out, by omega, by omega, by omega, by simp; omega, hG5, K5, B4.drew.trans B5⟩
        case measure => rw [hm5, hm3]; simp [RowKit.intOf]; omega
    · have hT2 : ¬ (8 : Int) ≤ (b' : Int) := by omega
      go_wp2
      go_ret
      have e6 : emit 8 A k b' = [] := by cases k with
        | zero => rfl
        | succ k => simp only [emit]; rw [if_neg hT]
      rw [e6, List.append_nil] at e1
      subst e1
      have e7 : (b' : Int) = ((b : Int) + 6) % 8 := by omega
      rw [← e7]
      exact ⟨rfl, K3, G3, B3⟩
end Go.Proofs.YtokkgjiofhhlkaaDoor.B64
namespace Go.Proofs.YtokkgjiofhhlkaaDoor.B64
open Go.RowKit Go.Lib Go.Proofs.YtokkgjiofhhlkaaDoor Go.Proofs.YtokkgjiofhhlkaaDoor.Row
set_option linter.unusedVariables false
set_option linter.unusedSimpArgs false
def lettersB : ByteArray := ⟨#[65, 66, 67, 68, 69, 70, 71, 72, 73, 74, 75, 76, 77, 78, 79, 80, 81, 82, 83, 84, 85, 86, 87, 88, 89, 90, 97, 98, 99, 100, 101, 102, 103, 104, 105, 106, 107, 108, 109, 110, 111, 112, 113, 114, 115, 116, 117, 118, 119, 120, 121, 122, 48, 49, 50, 51, 52, 53, 54, 55, 56, 57, 43, 47]⟩
def lettersL : List UInt8 := [65, 66, 67, 68, 69, 70, 71, 72, 73, 74, 75, 76, 77, 78, 79, 80, 81, 82, 83, 84, 85, 86, 87, 88, 89, 90, 97, 98, 99, 100, 101, 102, 103, 104, 105, 106, 107, 108, 109, 110, 111, 112, 113, 114, 115, 116, 117, 118, 119, 120, 121, 122, 48, 49, 50, 51, 52, 53, 54, 55, 56, 57, 43, 47]
def letterC (n : Nat) : UInt8 := lettersL.getD n 0
theorem rowF_set {w : World} {B n k : Nat} {v x : Value} {xs : List Value} {cs : Array Value} (h : w.ownsRowF B 5 1 v n xs) (hk : w.heap[k]? = some (.cells cs 3 (0, 0))) : (w.setCell ⟨k, 0, none⟩ x).ownsRowF B 5 1 v n xs := by
  refine ⟨h.1, h.2.elim Or.inl fun ⟨g, cap, cur, fz, hv, hg, hh, r⟩ => Or.inr ⟨g, cap, cur, fz, hv, hg, ?_, r⟩⟩
  rw [Deep.blk_setCell_other w ⟨k, 0, none⟩ x g (by
    rintro rfl
    rw [hh] at hk
    injection hk with hk
    injection hk with _ e2 _
    exact absurd e2 (by decide))]
  exact hh
theorem row_set {w : World} {B n k : Nat} {v x : Value} {xs : List Value} {cs : Array Value} (h : w.ownsRow B 5 1 v n xs) (hk : w.heap[k]? = some (.cells cs 3 (0, 0))) : (w.setCell ⟨k, 0, none⟩ x).ownsRow B 5 1 v n xs := by
  refine ⟨h.1, h.2.elim Or.inl fun ⟨g, cap, cur, hv, hg, hh, r⟩ => Or.inr ⟨g, cap, cur, hv, hg, ?_, r⟩⟩
  rw [Deep.blk_setCell_other w ⟨k, 0, none⟩ x g (by
    rintro rfl
    rw [hh] at hk
    injection hk with hk
    injection hk with _ e2 _
    exact absurd e2 (by decide))]
  exact hh
def EncK (B E : Nat) (l : List Nat) (w : World) : Prop := IsBuilderF 39 5 B E (byteCells (l.map letterC)) w
theorem EncK.set {B E : Nat} {l : List Nat} {w : World} {k : Nat} {cs : Array Value} {v : Value} (h : EncK B E l w) (hne : k ≠ E) (hk : w.heap[k]? = some (.cells cs 3 (0, 0))) : EncK B E l (w.setCell ⟨k, 0, none⟩ v) := by
  have key : ∀ p, BuilderAtF 39 5 B E p (byteCells (l.map letterC)) w → BuilderAtF 39 5 B E p (byteCells (l.map letterC)) (w.setCell ⟨k, 0, none⟩ v) := by
    rintro p ⟨hB, u, hb, ho, hn⟩
    exact ⟨hB, u, (Deep.blk_setCell_other w ⟨k, 0, none⟩ v E (by show E ≠ k; omega)).trans hb, rowF_set ho hk, hn⟩
  exact h.elim (fun h => .inl (key _ h)) (fun h => .inr (key _ h))
theorem letters_get (n : Nat) (h : n < 64) (h2 : n < lettersB.size) : lettersB[n] = letterC n := by
  have key : ∀ m : Fin 64, lettersB.data.toList[m.val]? = some (letterC m.val) := by decide +kernel
  have := key ⟨n, h⟩
  have h3 : n < lettersB.data.toList.length := by simpa using h2
  rw [List.getElem?_eq_getElem h3] at this
  exact Option.some.inj this
set_option maxRecDepth 100000 in
set_option maxHeartbeats 4000000 in
theorem enc_sink (B E L : Nat) (hL : L ≤ 11000000) : Sink B E 73 6 (EncK B E) L where
  set := fun l w k cs v h hne hk => h.set hne hk
  drew := fun l w n h => h
  call := by
    intro l n w hK hn hl hB
    have hKK := Lib.hid hK
    have hlen : (byteCells (l.map letterC)).length = l.length := by simp [byteCells]
    have WB := Lib.hid (fun c => Bld.WriteByte_k B E _ c w hK (by omega) hB)
    clear hK
    have hn2 : n < 64 := hn
    go_enter Tryd.func73, Tryd.ntmps73
    go_wp2_with (go_at_call 53; refine (WB.out _).mono ?_; rintro e w1 ⟨rfl, h1, b1, k1⟩)
    go_end0
    refine ⟨rfl, ?_, b1, k1⟩
    have e : byteCells ((l ++ [n]).map letterC) = byteCells (l.map letterC) ++ [.int .u8 ((letterC n).toNat : Int)] := by simp [byteCells]
    show IsBuilderF _ _ _ _ (byteCells ((l ++ [n]).map letterC)) _
    rw [e, ← letters_get n hn2 hn2]
    exact h1
def DecK (B E : Nat) (l : List Nat) (w : World) : Prop := B ≤ E ∧ ∃ v, w.heap[E]? = some (.cells #[v] 37 (0, 0)) ∧ w.ownsRow B 5 1 v l.length (byteCells (l.map Nat.toUInt8))
theorem DecK.set {B E : Nat} {l : List Nat} {w : World} {k : Nat} {cs : Array Value} {v : Value} (h : DecK B E l w) (hne : k ≠ E) (hk : w.heap[k]? = some (.cells cs 3 (0, 0))) : DecK B E l (w.setCell ⟨k, 0, none⟩ v) := by
  obtain ⟨hB, u, h1, h2⟩ := h
  exact ⟨hB, u, (Deep.blk_setCell_other w ⟨k, 0, none⟩ v E (by show E ≠ k; omega)).trans h1, row_set h2 hk⟩
set_option maxRecDepth 100000 in
set_option maxHeartbeats 4000000 in
theorem dec_sink (B E L : Nat) (hL : L ≤ 11000000) : Sink B E 50 8 (DecK B E) L where
  set := fun l w k cs v h hne hk => h.set hne hk
  drew := fun l w n h => h
  call := by
    intro l n w hK hn hl hB
    obtain ⟨hBE, v, hv, hown⟩ := hK
    obtain ⟨i0, hi, hz0, hz1, hz2⟩ := info_parts Bld.infoByte
    have c0 := Joins.cell_of_block hv 0
    have u0 := Joins.unfrozen_of_block hv 0
    simp at c0
    have hn2 : n < 256 := hn
    have hlen : (byteCells (l.map Nat.toUInt8)).length = l.length := by simp [byteCells]
    have HO := Lib.hid hown; have HV := Lib.hid hv
    clear hown hv
    go_enter Tryd.func50, Tryd.ntmps50
    go_wp2_with (at_builtin; refine wpList_append_own _ rfl (.tmp 3) (.tmp 6) 37 rfl B 5 i0 (.int .u8 0) 1 1 Tryd.underlying37 hi hz0 hz1 hz2 rfl (by decide) _ _ _ rfl (HO.out.alloc _) ⟨w.heap.size, 0, none⟩ 1 1 [.int .u8 (n : Int)] rfl rfl ?c1 ?c2 ?c3 ?c4 ?c5 ?_)
    case c1 =>
      intro j u hj
      match j, hj with
      | 0, hj => simp at hj; subst hj; simp [Addr.add]
    case c2 => intro u hu; simp at hu; subst hu; rfl
    case c3 => simp only [maxLen]; omega
    case c4 => omega
    case c5 => simp; omega
    intro v1 w1 hown1 hgr1 _
    have hlt : E < w.heap.size := (Array.getElem?_eq_some_iff.1 HV.out).1
    have hne : some E ≠ v.ownBlock := by
      intro e
      obtain ⟨c, fz, hc⟩ := Lib.ownsRowF_kind (World.ownsRowF_of HO.out) E e.symm
      rw [HV.out] at hc
      injection hc with hc
      injection hc with _ e2 _
      exact absurd e2 (by decide)
    have hE1 : w1.heap[E]? = some (.cells #[v] 37 (0, 0)) := by
      rw [hgr1.block E (by simp; omega) hne, Lib.alloc_old w _ E hlt]
      exact HV.out
    have d0 : w1.cell? ⟨E, 0, none⟩ = some v := by rw [Joins.cell_of_block hE1]; rfl
    have f0 : w1.frozen? ⟨E, 0, none⟩ = false := Joins.unfrozen_of_block hE1 0
    obtain ⟨g, cap, rfl⟩ : ∃ g cap, v1 = .slice (some ⟨g, 0, none⟩) (l.length + 1) cap := by
      rcases hown1.2 with ⟨_, h0⟩ | ⟨g, cap, cur, hv, _⟩
      · omega
      · exact ⟨g, cap, hv⟩
    go_wp2
    go_end0
    have hb1 : Below B w w1 := (((Below.refl B w).alloc hB _).grown hgr1 (by simp; omega) (fun k hk => ((World.ownsRowF_of HO.out).lt k hk).1))
    have hset : (w1.setCell ⟨E, 0, none⟩ (.slice (some ⟨g, 0, none⟩) (l.length + 1) cap)).heap[E]? = some (.cells #[.slice (some ⟨g, 0, none⟩) (l.length + 1) cap] 37 (0, 0)) := Joins.block_setCell hE1 _
    have hgE : g ≠ E := by
      rintro rfl
      rcases hown1.2 with ⟨hv, _⟩ | ⟨g2, cap2, cur, hv, _, hh, _⟩
      · cases hv
      · cases hv
        rw [hE1] at hh
        injection hh with hc
        injection hc with _ e2 _
        exact absurd e2 (by decide)
    refine ⟨rfl, ⟨hBE, _, hset, ?_⟩, hb1.setCell (p := ⟨E, 0, none⟩) hBE _, (((OthersKept.refl _ _ w).alloc _).grown hgr1 (Lib.ownsRowF_kind (World.ownsRowF_of (HO.out.alloc _)))).setCell ⟨E, 0, none⟩ rfl _⟩
    have e : byteCells ((l ++ [n]).map Nat.toUInt8) = byteCells (l.map Nat.toUInt8) ++ [.int .u8 (n : Int)] := by
      have h1 : ((n.toUInt8).toNat : Int) = (n : Int) := by
        rw [show n.toUInt8 = UInt8.ofNat n from rfl, UInt8.toNat_ofNat']; omega
      simp [byteCells, h1]
      omega
    rw [e, List.length_append]
    refine ⟨hown1.1, hown1.2.elim Or.inl fun ⟨g2, cap2, cur, hv, hg, hh, r⟩ => Or.inr ⟨g2, cap2, cur, hv, hg, ?_, r⟩⟩
    rw [Deep.blk_setCell_other w1 ⟨E, 0, none⟩ _ g2 (by cases hv; exact hgE)]
    exact hh
end Go.Proofs.YtokkgjiofhhlkaaDoor.B64
