/- UTF-8 on lists of bytes: one sequence read, a text made valid, what is valid stays: plain Lean, no program. -/
import Derived.Lib.RuneBytes
import Derived.Lib.OthersKept
import Derived.Laws.RangeAny
namespace Go.Proofs.YtjmeoplajfmieaaDoor
set_option linter.unusedVariables false
set_option linter.unusedSimpArgs false

def byteAt (l : List UInt8) (j : Nat) : Nat := (l.getD j 0).toNat
def contAt (l : List UInt8) (j : Nat) : Bool := decide (j < l.length) && byteAt l j / 64 == 2
/-- The rune that a list begins with, and its width (as Go reads strings). -/
def uDec (l : List UInt8) : Nat × Nat :=
  if byteAt l 0 < 128 then (byteAt l 0, 1)
  else if byteAt l 0 / 32 == 6 && contAt l 1 then
    if byteAt l 0 % 32 * 64 + byteAt l 1 % 64 ≥ 128 then (byteAt l 0 % 32 * 64 + byteAt l 1 % 64, 2) else (65533, 1)
  else if byteAt l 0 / 16 == 14 && contAt l 1 && contAt l 2 then
    if byteAt l 0 % 16 * 4096 + byteAt l 1 % 64 * 64 + byteAt l 2 % 64 ≥ 2048 && Utf8.valid ((byteAt l 0 % 16 * 4096 + byteAt l 1 % 64 * 64 + byteAt l 2 % 64 : Nat) : Int) then (byteAt l 0 % 16 * 4096 + byteAt l 1 % 64 * 64 + byteAt l 2 % 64, 3) else (65533, 1)
  else if byteAt l 0 / 8 == 30 && contAt l 1 && contAt l 2 && contAt l 3 then
    if byteAt l 0 % 8 * 262144 + byteAt l 1 % 64 * 4096 + byteAt l 2 % 64 * 64 + byteAt l 3 % 64 ≥ 65536 && Utf8.valid ((byteAt l 0 % 8 * 262144 + byteAt l 1 % 64 * 4096 + byteAt l 2 % 64 * 64 + byteAt l 3 % 64 : Nat) : Int) then (byteAt l 0 % 8 * 262144 + byteAt l 1 % 64 * 4096 + byteAt l 2 % 64 * 64 + byteAt l 3 % 64, 4) else (65533, 1)
  else (65533, 1)
theorem decode_list (s : ByteArray) (i : Nat) : Utf8.decode s i = uDec (s.data.toList.drop i) := by
  have hg : ∀ k, (s.get! (i + k)).toNat = byteAt (s.data.toList.drop i) k := by
    intro k
    simp only [byteAt, List.getD_eq_getElem?_getD, List.getElem?_drop, ByteArray.get!]
    rw [Array.getElem?_toList]
    simp [getElem!_def]
    cases s.data[i + k]? <;> rfl
  have hc : ∀ k, (decide (i + k < s.size) && byteAt (s.data.toList.drop i) k / 64 == 2) = contAt (s.data.toList.drop i) k := by
    intro k
    simp only [contAt, List.length_drop, Array.length_toList]
    congr 1
    simp only [ByteArray.size, decide_eq_decide]
    omega
  simp only [Utf8.decode, hg, hc]
  simp only [uDec, Utf8.runeError]

theorem byte_back {x : Int} {a : UInt8} (h : x = (a.toNat : Int)) : x.toNat.toUInt8 = a := by
  subst h
  simp
theorem byteAt_lt (l : List UInt8) (j : Nat) : byteAt l j < 256 := UInt8.toNat_lt _
theorem valid_iff (r : Int) : Utf8.valid r = true ↔ (0 ≤ r ∧ r < 55296) ∨ (57344 ≤ r ∧ r ≤ 1114111) := by
  simp only [Utf8.valid, Bool.or_eq_true, Bool.and_eq_true, decide_eq_true_eq]
theorem enc_one {r : Int} (h0 : 0 ≤ r) (h1 : r ≤ 127) : Lib.encodeRune r = [r.toNat.toUInt8] := by
  simp [Lib.encodeRune, Lib.encodeRuneZ_one h0 h1]
theorem enc_two {r : Int} (h0 : 128 ≤ r) (h1 : r ≤ 2047) : Lib.encodeRune r = [(192 + r / 64).toNat.toUInt8, (128 + r % 64).toNat.toUInt8] := by
  simp [Lib.encodeRune, Lib.encodeRuneZ_two h0 h1]
theorem enc_three {r : Int} (h : (2048 ≤ r ∧ r < 55296) ∨ (57343 < r ∧ r ≤ 65535)) : Lib.encodeRune r = [(224 + r / 4096).toNat.toUInt8, (128 + r / 64 % 64).toNat.toUInt8, (128 + r % 64).toNat.toUInt8] := by
  simp [Lib.encodeRune, Lib.encodeRuneZ_three h]
theorem enc_four {r : Int} (h0 : 65536 ≤ r) (h1 : r ≤ 1114111) : Lib.encodeRune r = [(240 + r / 262144).toNat.toUInt8, (128 + r / 4096 % 64).toNat.toUInt8, (128 + r / 64 % 64).toNat.toUInt8, (128 + r % 64).toNat.toUInt8] := by
  simp [Lib.encodeRune, Lib.encodeRuneZ_four h0 h1]
theorem enc_bad {r : Int} (h : r < 0 ∨ (55296 ≤ r ∧ r ≤ 57343) ∨ 1114111 < r) : Lib.encodeRune r = [239, 191, 189] := by
  simp [Lib.encodeRune, Lib.encodeRuneZ_bad h]
theorem enc_65533 : Lib.encodeRune 65533 = [239, 191, 189] := by decide
theorem toU8 {x : Int} (h0 : 0 ≤ x) (h1 : x < 256) : (x.toNat.toUInt8).toNat = x.toNat := by
  show (UInt8.ofNat x.toNat).toNat = _
  rw [UInt8.toNat_ofNat']; omega
/-- How many bytes the whole sequence has that a list begins with; 0: it begins with none. -/
def wholeL (l : List UInt8) : Nat := if (uDec l).2 = 1 ∧ 128 ≤ byteAt l 0 then 0 else (uDec l).2

theorem ex2 {a : UInt8} {r : List UInt8} (h : 2 < (a :: r).length) : ∃ b c r', r = b :: c :: r' := by
  match r, h with
  | b :: c :: r', _ => exact ⟨b, c, r', rfl⟩
theorem ex3 {a : UInt8} {r : List UInt8} (h : 3 < (a :: r).length) : ∃ b c d r', r = b :: c :: d :: r' := by
  match r, h with
  | b :: c :: d :: r', _ => exact ⟨b, c, d, r', rfl⟩
theorem contAt_iff (l : List UInt8) (j : Nat) : contAt l j = true ↔ j < l.length ∧ byteAt l j / 64 = 2 := by
  simp [contAt]
/-- What is read is what stands there, or the bad sign of one byte. -/
theorem dec_cases (l : List UInt8) (hl : l ≠ []) :
    (wholeL l = 0 ∧ uDec l = (65533, 1) ∧ 128 ≤ byteAt l 0) ∨
    (wholeL l = (uDec l).2 ∧ 0 < (uDec l).2 ∧ (uDec l).2 ≤ 4 ∧ (uDec l).2 ≤ l.length ∧ Utf8.valid (uDec l).1 = true ∧ Lib.encodeRune (uDec l).1 = l.take (uDec l).2) := by
  obtain ⟨a, r, rfl⟩ := List.exists_cons_of_ne_nil hl
  by_cases h0 : byteAt (a :: r) 0 < 128
  · right
    have e : uDec (a :: r) = (byteAt (a :: r) 0, 1) := by simp only [uDec, if_pos h0]
    have hw : wholeL (a :: r) = 1 := by unfold wholeL; rw [e, if_neg (by omega)]
    have ha : byteAt (a :: r) 0 = a.toNat := rfl
    rw [hw, e]
    refine ⟨rfl, by omega, by omega, by simp, ?_, ?_⟩
    · rw [valid_iff]; simp only; omega
    · rw [enc_one (by simp) (by simp only; omega)]; simp [ha]
  · have bad : uDec (a :: r) = (65533, 1) → (wholeL (a :: r) = 0 ∧ uDec (a :: r) = (65533, 1) ∧ 128 ≤ byteAt (a :: r) 0) := fun e =>
      ⟨by unfold wholeL; rw [e, if_pos ⟨rfl, by omega⟩], e, by omega⟩
    have good : ∀ n w, uDec (a :: r) = (n, w) → 1 < w → wholeL (a :: r) = w := fun n w e hw => by
      unfold wholeL; rw [e, if_neg (by simp only; omega)]
    by_cases h2 : byteAt (a :: r) 0 / 32 = 6 ∧ contAt (a :: r) 1 = true
    · obtain ⟨c0, c1⟩ := h2
      by_cases h3 : byteAt (a :: r) 0 % 32 * 64 + byteAt (a :: r) 1 % 64 ≥ 128
      · right
        have e : uDec (a :: r) = (byteAt (a :: r) 0 % 32 * 64 + byteAt (a :: r) 1 % 64, 2) := by
          simp only [uDec, if_neg h0, c0, c1, beq_self_eq_true, Bool.and_self, if_true, if_pos h3]
        rw [good _ _ e (by omega), e]
        rw [contAt_iff] at c1
        match r, c1, e, h3, c0, h0 with
        | b :: r, c1, e, h3, c0, h0 =>
          have ha : byteAt (a :: b :: r) 0 = a.toNat := rfl
          have hb : byteAt (a :: b :: r) 1 = b.toNat := rfl
          have := UInt8.toNat_lt a; have := UInt8.toNat_lt b
          rw [ha, hb]
          refine ⟨rfl, by omega, by omega, by simp, ?_, ?_⟩
          · rw [valid_iff]; simp only; omega
          · rw [enc_two (by simp only; omega) (by simp only; omega)]
            rw [byte_back (a := a) (by simp only; omega), byte_back (a := b) (by simp only; omega)]
            rfl
      · left
        exact bad (by simp only [uDec, if_neg h0, c0, c1, beq_self_eq_true, Bool.and_self, if_true, if_neg h3])
    · have n2 : (byteAt (a :: r) 0 / 32 == 6 && contAt (a :: r) 1) = false := by
        cases hh : (byteAt (a :: r) 0 / 32 == 6 && contAt (a :: r) 1) with
        | false => rfl
        | true => simp only [Bool.and_eq_true, beq_iff_eq] at hh; exact absurd hh h2
      by_cases h4 : byteAt (a :: r) 0 / 16 = 14 ∧ contAt (a :: r) 1 = true ∧ contAt (a :: r) 2 = true
      · obtain ⟨c0, c1, c2⟩ := h4
        by_cases h5 : (decide (byteAt (a :: r) 0 % 16 * 4096 + byteAt (a :: r) 1 % 64 * 64 + byteAt (a :: r) 2 % 64 ≥ 2048) && Utf8.valid ((byteAt (a :: r) 0 % 16 * 4096 + byteAt (a :: r) 1 % 64 * 64 + byteAt (a :: r) 2 % 64 : Nat) : Int)) = true
        · right
          have e : uDec (a :: r) = (byteAt (a :: r) 0 % 16 * 4096 + byteAt (a :: r) 1 % 64 * 64 + byteAt (a :: r) 2 % 64, 3) := by
            simp only [uDec, if_neg h0, n2, Bool.false_eq_true, if_false]
            rw [if_pos (by simp [c0, c1, c2]), if_pos h5]
          rw [good _ _ e (by omega), e]
          rw [contAt_iff] at c1 c2
          simp only [Bool.and_eq_true, decide_eq_true_eq] at h5
          obtain ⟨h5, h6⟩ := h5
          obtain ⟨b, c, r, rfl⟩ := ex2 c2.1
          · skip
            have ha : byteAt (a :: b :: c :: r) 0 = a.toNat := rfl
            have hb : byteAt (a :: b :: c :: r) 1 = b.toNat := rfl
            have hc : byteAt (a :: b :: c :: r) 2 = c.toNat := rfl
            have := UInt8.toNat_lt a; have := UInt8.toNat_lt b; have := UInt8.toNat_lt c
            simp only [ha, hb, hc] at *
            refine ⟨trivial, by omega, by omega, by simp, h6, ?_⟩
            rw [valid_iff] at h6
            rw [enc_three (by omega)]
            rw [byte_back (a := a) (by omega), byte_back (a := b) (by omega), byte_back (a := c) (by omega)]
            rfl
        · left
          exact bad (by
            simp only [uDec, if_neg h0, n2, Bool.false_eq_true, if_false]
            rw [if_pos (by simp [c0, c1, c2]), if_neg h5])
      · have n4 : (byteAt (a :: r) 0 / 16 == 14 && contAt (a :: r) 1 && contAt (a :: r) 2) = false := by
          cases hh : (byteAt (a :: r) 0 / 16 == 14 && contAt (a :: r) 1 && contAt (a :: r) 2) with
          | false => rfl
          | true => simp only [Bool.and_eq_true, beq_iff_eq] at hh; exact absurd ⟨hh.1.1, hh.1.2, hh.2⟩ h4
        by_cases h6 : byteAt (a :: r) 0 / 8 = 30 ∧ contAt (a :: r) 1 = true ∧ contAt (a :: r) 2 = true ∧ contAt (a :: r) 3 = true
        · obtain ⟨c0, c1, c2, c3⟩ := h6
          by_cases h7 : (decide (byteAt (a :: r) 0 % 8 * 262144 + byteAt (a :: r) 1 % 64 * 4096 + byteAt (a :: r) 2 % 64 * 64 + byteAt (a :: r) 3 % 64 ≥ 65536) && Utf8.valid ((byteAt (a :: r) 0 % 8 * 262144 + byteAt (a :: r) 1 % 64 * 4096 + byteAt (a :: r) 2 % 64 * 64 + byteAt (a :: r) 3 % 64 : Nat) : Int)) = true
          · right
            have e : uDec (a :: r) = (byteAt (a :: r) 0 % 8 * 262144 + byteAt (a :: r) 1 % 64 * 4096 + byteAt (a :: r) 2 % 64 * 64 + byteAt (a :: r) 3 % 64, 4) := by
              simp only [uDec, if_neg h0, n2, n4, Bool.false_eq_true, if_false]
              rw [if_pos (by simp [c0, c1, c2, c3]), if_pos h7]
            rw [good _ _ e (by omega), e]
            rw [contAt_iff] at c1 c2 c3
            simp only [Bool.and_eq_true, decide_eq_true_eq] at h7
            obtain ⟨h7, h8⟩ := h7
            obtain ⟨b, c, d, r, rfl⟩ := ex3 c3.1
            · skip
              have ha : byteAt (a :: b :: c :: d :: r) 0 = a.toNat := rfl
              have hb : byteAt (a :: b :: c :: d :: r) 1 = b.toNat := rfl
              have hc : byteAt (a :: b :: c :: d :: r) 2 = c.toNat := rfl
              have hd : byteAt (a :: b :: c :: d :: r) 3 = d.toNat := rfl
              have := UInt8.toNat_lt a; have := UInt8.toNat_lt b; have := UInt8.toNat_lt c; have := UInt8.toNat_lt d
              simp only [ha, hb, hc, hd] at *
              refine ⟨trivial, by omega, by omega, by simp, h8, ?_⟩
              rw [valid_iff] at h8
              rw [enc_four (by omega) (by omega)]
              rw [byte_back (a := a) (by omega), byte_back (a := b) (by omega), byte_back (a := c) (by omega), byte_back (a := d) (by omega)]
              rfl
          · left
            exact bad (by
              simp only [uDec, if_neg h0, n2, n4, Bool.false_eq_true, if_false]
              rw [if_pos (by simp [c0, c1, c2, c3]), if_neg h7])
        · left
          have n6 : (byteAt (a :: r) 0 / 8 == 30 && contAt (a :: r) 1 && contAt (a :: r) 2 && contAt (a :: r) 3) = false := by
            cases hh : (byteAt (a :: r) 0 / 8 == 30 && contAt (a :: r) 1 && contAt (a :: r) 2 && contAt (a :: r) 3) with
            | false => rfl
            | true => simp only [Bool.and_eq_true, beq_iff_eq] at hh; exact absurd ⟨hh.1.1.1, hh.1.1.2, hh.1.2, hh.2⟩ h6
          exact bad (by simp only [uDec, if_neg h0, n2, n4, n6, Bool.false_eq_true, if_false])

/-- The rune that goes in for a number. -/
def runeOf (r : Int) : Nat := if Utf8.valid r = true then r.toNat else 65533
theorem enc_runeOf (r : Int) : Lib.encodeRune (runeOf r) = Lib.encodeRune r := by
  unfold runeOf
  split
  · rename_i h
    rw [valid_iff] at h
    rw [Int.toNat_of_nonneg (by omega)]
  · rename_i h
    rw [valid_iff] at h
    rw [enc_bad (r := r) (by omega)]
    exact enc_65533
theorem u8a (n : Nat) (h : n < 256) : ((n : Int).toNat.toUInt8).toNat = n := by
  rw [toU8 (by omega) (by omega)]; omega
/-- What is written is read. -/
theorem dec_enc_valid (r : Int) (h : Utf8.valid r = true) (rest : List UInt8) :
    uDec (Lib.encodeRune r ++ rest) = (r.toNat, (Lib.encodeRune r).length) ∧ (128 ≤ r.toNat → 1 < (Lib.encodeRune r).length) := by
  have hv := h
  rw [valid_iff] at h
  by_cases c1 : r ≤ 127
  · rw [enc_one (by omega) c1]
    have h0 : byteAt ([r.toNat.toUInt8] ++ rest) 0 = r.toNat := by
      show (r.toNat.toUInt8).toNat = _
      rw [toU8 (by omega) (by omega)]
    refine ⟨?_, fun hh => by omega⟩
    simp only [uDec, h0]
    rw [if_pos (by omega)]
    rfl
  · by_cases c2 : r ≤ 2047
    · rw [enc_two (by omega) c2]
      have h0 : byteAt ([(192 + r / 64).toNat.toUInt8, (128 + r % 64).toNat.toUInt8] ++ rest) 0 = (192 + r / 64).toNat := by
        show ((192 + r / 64).toNat.toUInt8).toNat = _
        rw [toU8 (by omega) (by omega)]
      have h1 : byteAt ([(192 + r / 64).toNat.toUInt8, (128 + r % 64).toNat.toUInt8] ++ rest) 1 = (128 + r % 64).toNat := by
        show ((128 + r % 64).toNat.toUInt8).toNat = _
        rw [toU8 (by omega) (by omega)]
      have k1 : contAt ([(192 + r / 64).toNat.toUInt8, (128 + r % 64).toNat.toUInt8] ++ rest) 1 = true := by
        rw [contAt_iff]; exact ⟨by simp, by rw [h1]; omega⟩
      refine ⟨?_, fun _ => by simp⟩
      simp only [uDec, h0, h1, k1]
      rw [if_neg (by omega), if_pos (by simp; omega), if_pos (by omega)]
      refine Prod.ext ?_ rfl
      show (192 + r / 64).toNat % 32 * 64 + (128 + r % 64).toNat % 64 = _
      omega
    · by_cases c3 : r ≤ 65535
      · rw [enc_three (by omega)]
        generalize hL : [(224 + r / 4096).toNat.toUInt8, (128 + r / 64 % 64).toNat.toUInt8, (128 + r % 64).toNat.toUInt8] ++ rest = L
        have h0 : byteAt L 0 = (224 + r / 4096).toNat := by
          rw [← hL]; show ((224 + r / 4096).toNat.toUInt8).toNat = _
          rw [toU8 (by omega) (by omega)]
        have h1 : byteAt L 1 = (128 + r / 64 % 64).toNat := by
          rw [← hL]; show ((128 + r / 64 % 64).toNat.toUInt8).toNat = _
          rw [toU8 (by omega) (by omega)]
        have h2 : byteAt L 2 = (128 + r % 64).toNat := by
          rw [← hL]; show ((128 + r % 64).toNat.toUInt8).toNat = _
          rw [toU8 (by omega) (by omega)]
        have hl : 3 ≤ L.length := by rw [← hL]; simp
        have k1 : contAt L 1 = true := by rw [contAt_iff]; exact ⟨by omega, by rw [h1]; omega⟩
        have k2 : contAt L 2 = true := by rw [contAt_iff]; exact ⟨by omega, by rw [h2]; omega⟩
        have e : (224 + r / 4096).toNat % 16 * 4096 + (128 + r / 64 % 64).toNat % 64 * 64 + (128 + r % 64).toNat % 64 = r.toNat := by omega
        refine ⟨?_, fun _ => by simp⟩
        simp only [uDec, h0, h1, h2, k1, k2, e]
        rw [if_neg (by omega), if_neg (by simp; omega), if_pos (by simp; omega), if_pos (by rw [Int.toNat_of_nonneg (by omega), hv]; simp; omega)]
        rfl
      · rw [enc_four (by omega) (by omega)]
        generalize hL : [(240 + r / 262144).toNat.toUInt8, (128 + r / 4096 % 64).toNat.toUInt8, (128 + r / 64 % 64).toNat.toUInt8, (128 + r % 64).toNat.toUInt8] ++ rest = L
        have h0 : byteAt L 0 = (240 + r / 262144).toNat := by
          rw [← hL]; show ((240 + r / 262144).toNat.toUInt8).toNat = _
          rw [toU8 (by omega) (by omega)]
        have h1 : byteAt L 1 = (128 + r / 4096 % 64).toNat := by
          rw [← hL]; show ((128 + r / 4096 % 64).toNat.toUInt8).toNat = _
          rw [toU8 (by omega) (by omega)]
        have h2 : byteAt L 2 = (128 + r / 64 % 64).toNat := by
          rw [← hL]; show ((128 + r / 64 % 64).toNat.toUInt8).toNat = _
          rw [toU8 (by omega) (by omega)]
        have h3 : byteAt L 3 = (128 + r % 64).toNat := by
          rw [← hL]; show ((128 + r % 64).toNat.toUInt8).toNat = _
          rw [toU8 (by omega) (by omega)]
        have hl : 4 ≤ L.length := by rw [← hL]; simp
        have k1 : contAt L 1 = true := by rw [contAt_iff]; exact ⟨by omega, by rw [h1]; omega⟩
        have k2 : contAt L 2 = true := by rw [contAt_iff]; exact ⟨by omega, by rw [h2]; omega⟩
        have k3 : contAt L 3 = true := by rw [contAt_iff]; exact ⟨by omega, by rw [h3]; omega⟩
        have e : (240 + r / 262144).toNat % 8 * 262144 + (128 + r / 4096 % 64).toNat % 64 * 4096 + (128 + r / 64 % 64).toNat % 64 * 64 + (128 + r % 64).toNat % 64 = r.toNat := by omega
        refine ⟨?_, fun _ => by simp⟩
        simp only [uDec, h0, h1, h2, h3, k1, k2, k3, e]
        rw [if_neg (by omega), if_neg (by simp; omega), if_neg (by simp; omega), if_pos (by simp; omega), if_pos (by rw [Int.toNat_of_nonneg (by omega), hv]; simp; omega)]
        rfl
theorem enc_ne (r : Int) : Lib.encodeRune r ≠ [] := by
  intro h
  have := Lib.encodeRuneZ_length r
  have h2 := congrArg List.length h
  simp [Lib.encodeRune] at h2
  rw [h2] at this
  simp at this
theorem enc_len (r : Int) : 1 ≤ (Lib.encodeRune r).length ∧ (Lib.encodeRune r).length ≤ 4 := by
  have := Lib.encodeRuneZ_length r
  simpa [Lib.encodeRune] using this
theorem valid_runeOf (r : Int) : Utf8.valid (runeOf r) = true := by
  unfold runeOf
  split
  · rename_i h; rw [valid_iff] at h ⊢; omega
  · decide
theorem dec_enc (r : Int) (rest : List UInt8) : uDec (Lib.encodeRune r ++ rest) = (runeOf r, (Lib.encodeRune r).length) := by
  have h := (dec_enc_valid (runeOf r) (valid_runeOf r) rest).1
  rw [enc_runeOf] at h
  simpa using h
theorem whole_enc (r : Int) (rest : List UInt8) : wholeL (Lib.encodeRune r ++ rest) = (Lib.encodeRune r).length := by
  have h := dec_enc r rest
  have h2 := (dec_enc_valid (runeOf r) (valid_runeOf r) rest).2
  rw [enc_runeOf] at h2
  unfold wholeL
  rw [h, if_neg]
  rintro ⟨h3, h4⟩
  simp only at h3
  have h5 : byteAt (Lib.encodeRune r ++ rest) 0 < 128 ∨ 128 ≤ runeOf r := by
    by_cases hc : runeOf r < 128
    · left
      have : Lib.encodeRune r = [((runeOf r : Int)).toNat.toUInt8] := by
        rw [← enc_runeOf r, enc_one (by omega) (by omega)]
      rw [this]
      show (((runeOf r : Int)).toNat.toUInt8).toNat < 128
      rw [toU8 (by omega) (by omega)]; omega
    · right; omega
  rcases h5 with h5 | h5
  · omega
  · have := h2 (by simpa using h5); omega

/-- Runes one behind the other. -/
def Val (l : List UInt8) : Prop := ∃ rs : List Int, l = rs.flatMap Lib.encodeRune
theorem Val.nil : Val [] := ⟨[], rfl⟩
theorem Val.enc (r : Int) : Val (Lib.encodeRune r) := ⟨[r], by simp⟩
theorem Val.append {a b : List UInt8} (ha : Val a) (hb : Val b) : Val (a ++ b) := by
  obtain ⟨x, rfl⟩ := ha; obtain ⟨y, rfl⟩ := hb; exact ⟨x ++ y, by simp⟩
/-- A text made valid: each sequence anew. -/
def valL : Nat → List UInt8 → List UInt8
  | 0, _ => []
  | n + 1, l => if l = [] then [] else Lib.encodeRune (uDec l).1 ++ valL n (l.drop (uDec l).2)
theorem dec_width (l : List UInt8) (hl : l ≠ []) : 1 ≤ (uDec l).2 ∧ (uDec l).2 ≤ l.length := by
  rcases dec_cases l hl with ⟨_, h, _⟩ | ⟨_, h1, _, h2, _⟩
  · rw [h]; have := List.length_pos_iff.2 hl; exact ⟨Nat.le_refl _, this⟩
  · exact ⟨h1, h2⟩
theorem valL_more : ∀ (n : Nat) (l : List UInt8), l.length ≤ n → ∀ m, n ≤ m → valL m l = valL n l := by
  intro n
  induction n with
  | zero =>
    intro l hl m hm
    obtain rfl : l = [] := List.eq_nil_of_length_eq_zero (by omega)
    cases m <;> simp [valL]
  | succ n ih =>
    intro l hl m hm
    obtain ⟨m, rfl⟩ : ∃ q, m = q + 1 := ⟨m - 1, by omega⟩
    by_cases h : l = []
    · simp [valL, h]
    · simp only [valL, if_neg h]
      have := dec_width l h
      rw [ih _ (by rw [List.length_drop]; omega) m (by omega)]
theorem valL_Val : ∀ (n : Nat) (l : List UInt8), Val (valL n l) := by
  intro n
  induction n with
  | zero => intro l; exact Val.nil
  | succ n ih =>
    intro l
    simp only [valL]
    split
    · exact Val.nil
    · exact (Val.enc _).append (ih _)
/-- What is valid stays. -/
theorem valL_stays : ∀ (n : Nat) (l : List UInt8), Val l → l.length ≤ n → valL n l = l := by
  intro n
  induction n with
  | zero =>
    intro l _ hl
    obtain rfl : l = [] := List.eq_nil_of_length_eq_zero (by omega)
    rfl
  | succ n ih =>
    intro l hv hl
    obtain ⟨rs, rfl⟩ := hv
    cases rs with
    | nil => simp [valL]
    | cons r rs =>
      have e : (r :: rs).flatMap Lib.encodeRune = Lib.encodeRune r ++ rs.flatMap Lib.encodeRune := by simp
      rw [e] at hl ⊢
      have hne : Lib.encodeRune r ++ rs.flatMap Lib.encodeRune ≠ [] := by simp [enc_ne]
      simp only [valL, if_neg hne]
      rw [dec_enc, enc_runeOf]
      simp only [List.drop_left]
      have := enc_len r
      rw [ih _ ⟨rs, rfl⟩ (by rw [List.length_append] at hl; omega)]
theorem valL_len : ∀ (n : Nat) (l : List UInt8), (valL n l).length ≤ 3 * l.length := by
  intro n
  induction n with
  | zero => intro l; simp [valL]
  | succ n ih =>
    intro l
    simp only [valL]
    split
    · simp
    · rename_i h
      have h1 := ih (l.drop (uDec l).2)
      have hw := dec_width l h
      rw [List.length_append]
      rw [List.length_drop] at h1
      rcases dec_cases l h with ⟨_, h2, _⟩ | ⟨_, _, _, h3, _, h4⟩
      · rw [h2] at h1 hw ⊢
        have : (Lib.encodeRune ((65533, 1) : Nat × Nat).1).length = 3 := by decide
        simp only at *
        omega
      · rw [h4, List.length_take]; omega

theorem whole_of {l : List UInt8} {n w : Nat} (e : uDec l = (n, w)) : wholeL l = if w = 1 ∧ 128 ≤ byteAt l 0 then 0 else w := by
  unfold wholeL; rw [e]
theorem whole_low (l : List UInt8) (h : byteAt l 0 < 128) : wholeL l = 1 := by
  rw [whole_of (n := byteAt l 0) (w := 1) (by unfold uDec; rw [if_pos h]), if_neg (by omega)]
theorem whole_none (l : List UInt8) (h : (128 ≤ byteAt l 0 ∧ byteAt l 0 < 192) ∨ 248 ≤ byteAt l 0) : wholeL l = 0 := by
  have h256 := byteAt_lt l 0
  rw [whole_of (n := 65533) (w := 1) (by
    unfold uDec
    rw [if_neg (by omega), if_neg (by simp; omega), if_neg (by simp; omega), if_neg (by simp; omega)]), if_pos (by omega)]
theorem whole_two (l : List UInt8) (h : 192 ≤ byteAt l 0 ∧ byteAt l 0 < 224) :
    wholeL l = if contAt l 1 = true ∧ byteAt l 0 % 32 * 64 + byteAt l 1 % 64 ≥ 128 then 2 else 0 := by
  by_cases c1 : contAt l 1 = true
  · by_cases c2 : byteAt l 0 % 32 * 64 + byteAt l 1 % 64 ≥ 128
    · rw [if_pos ⟨c1, c2⟩, whole_of (n := byteAt l 0 % 32 * 64 + byteAt l 1 % 64) (w := 2) (by
        unfold uDec; rw [if_neg (by omega), if_pos (by simp [c1]; omega), if_pos c2])]; simp
    · rw [if_neg (fun hh => c2 hh.2), whole_of (n := 65533) (w := 1) (by
        unfold uDec; rw [if_neg (by omega), if_pos (by simp [c1]; omega), if_neg c2]), if_pos (by omega)]
  · rw [if_neg (fun hh => c1 hh.1), whole_of (n := 65533) (w := 1) (by
      unfold uDec; rw [if_neg (by omega), if_neg (by simp [c1]), if_neg (by simp; omega), if_neg (by simp; omega)]), if_pos (by omega)]
theorem whole_three (l : List UInt8) (h : 224 ≤ byteAt l 0 ∧ byteAt l 0 < 240) :
    wholeL l = if contAt l 1 = true ∧ contAt l 2 = true ∧ byteAt l 0 % 16 * 4096 + byteAt l 1 % 64 * 64 + byteAt l 2 % 64 ≥ 2048 ∧ Utf8.valid ((byteAt l 0 % 16 * 4096 + byteAt l 1 % 64 * 64 + byteAt l 2 % 64 : Nat) : Int) = true then 3 else 0 := by
  by_cases c1 : contAt l 1 = true ∧ contAt l 2 = true
  · by_cases c2 : byteAt l 0 % 16 * 4096 + byteAt l 1 % 64 * 64 + byteAt l 2 % 64 ≥ 2048 ∧ Utf8.valid ((byteAt l 0 % 16 * 4096 + byteAt l 1 % 64 * 64 + byteAt l 2 % 64 : Nat) : Int) = true
    · rw [if_pos ⟨c1.1, c1.2, c2⟩, whole_of (n := byteAt l 0 % 16 * 4096 + byteAt l 1 % 64 * 64 + byteAt l 2 % 64) (w := 3) (by
        unfold uDec; rw [if_neg (by omega), if_neg (by simp; omega), if_pos (by simp [c1.1, c1.2]; omega), if_pos (by rw [c2.2]; simp only [Bool.and_true, decide_eq_true_eq]; exact c2.1)])]; simp
    · rw [if_neg (fun hh => c2 hh.2.2), whole_of (n := 65533) (w := 1) (by
        unfold uDec; rw [if_neg (by omega), if_neg (by simp; omega), if_pos (by simp [c1.1, c1.2]; omega), if_neg (by rw [Bool.and_eq_true, decide_eq_true_eq]; exact c2)]), if_pos (by omega)]
  · rw [if_neg (fun hh => c1 ⟨hh.1, hh.2.1⟩), whole_of (n := 65533) (w := 1) (by
      unfold uDec; rw [if_neg (by omega), if_neg (by simp; omega), if_neg (by rw [Bool.and_eq_true, Bool.and_eq_true]; exact fun hh => c1 ⟨hh.1.2, hh.2⟩), if_neg (by simp; omega)]), if_pos (by omega)]
theorem whole_four (l : List UInt8) (h : 240 ≤ byteAt l 0 ∧ byteAt l 0 < 248) :
    wholeL l = if contAt l 1 = true ∧ contAt l 2 = true ∧ contAt l 3 = true ∧ byteAt l 0 % 8 * 262144 + byteAt l 1 % 64 * 4096 + byteAt l 2 % 64 * 64 + byteAt l 3 % 64 ≥ 65536 ∧ Utf8.valid ((byteAt l 0 % 8 * 262144 + byteAt l 1 % 64 * 4096 + byteAt l 2 % 64 * 64 + byteAt l 3 % 64 : Nat) : Int) = true then 4 else 0 := by
  by_cases c1 : contAt l 1 = true ∧ contAt l 2 = true ∧ contAt l 3 = true
  · by_cases c2 : byteAt l 0 % 8 * 262144 + byteAt l 1 % 64 * 4096 + byteAt l 2 % 64 * 64 + byteAt l 3 % 64 ≥ 65536 ∧ Utf8.valid ((byteAt l 0 % 8 * 262144 + byteAt l 1 % 64 * 4096 + byteAt l 2 % 64 * 64 + byteAt l 3 % 64 : Nat) : Int) = true
    · rw [if_pos ⟨c1.1, c1.2.1, c1.2.2, c2⟩, whole_of (n := byteAt l 0 % 8 * 262144 + byteAt l 1 % 64 * 4096 + byteAt l 2 % 64 * 64 + byteAt l 3 % 64) (w := 4) (by
        unfold uDec; rw [if_neg (by omega), if_neg (by simp; omega), if_neg (by simp; omega), if_pos (by simp [c1.1, c1.2.1, c1.2.2]; omega), if_pos (by rw [c2.2]; simp only [Bool.and_true, decide_eq_true_eq]; exact c2.1)])]; simp
    · rw [if_neg (fun hh => c2 hh.2.2.2), whole_of (n := 65533) (w := 1) (by
        unfold uDec; rw [if_neg (by omega), if_neg (by simp; omega), if_neg (by simp; omega), if_pos (by simp [c1.1, c1.2.1, c1.2.2]; omega), if_neg (by rw [Bool.and_eq_true, decide_eq_true_eq]; exact c2)]), if_pos (by omega)]
  · rw [if_neg (fun hh => c1 ⟨hh.1, hh.2.1, hh.2.2.1⟩), whole_of (n := 65533) (w := 1) (by
      unfold uDec; rw [if_neg (by omega), if_neg (by simp; omega), if_neg (by simp; omega), if_neg (by rw [Bool.and_eq_true, Bool.and_eq_true, Bool.and_eq_true]; exact fun hh => c1 ⟨hh.1.1.2, hh.1.2, hh.2⟩)]), if_pos (by omega)]
end Go.Proofs.YtjmeoplajfmieaaDoor
