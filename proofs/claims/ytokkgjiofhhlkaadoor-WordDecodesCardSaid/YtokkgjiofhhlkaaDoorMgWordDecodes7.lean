/- Parts of the proof of the law WordDecodes, in one text: Utf, Ev, PureChars, PureKnown, PureDec, Alph. -/
import Derived.Test.YtokkgjiofhhlkaaDoorMgWordDecodes6
import Derived.Lib.RuneBytes
import Derived.Laws.RangeAny
set_option linter.unusedVariables false
set_option linter.unusedSimpArgs false
namespace Go.Proofs.YtokkgjiofhhlkaaDoor
set_option linter.unusedVariables false
set_option linter.unusedSimpArgs false
def byteAt (l : List UInt8) (j : Nat) : Nat := (l.getD j 0).toNat
def contAt (l : List UInt8) (j : Nat) : Bool := decide (j < l.length) && byteAt l j / 64 == 2
def uDec (l : List UInt8) : Nat × Nat :=
  if byteAt l 0 < 128 then (byteAt l 0, 1)
  else if byteAt l 0 / 32 == 6 && contAt l 1 then
    if byteAt l 0 % 32 * 64 + byteAt l 1 % 64 ≥ 128 then (byteAt l 0 % 32 * 64 + byteAt l 1 % 64, 2) else (65533, 1)
  else if byteAt l 0 / 16 == 14 && contAt l 1 && contAt l 2 then
    if byteAt l 0 % 16 * 4096 + byteAt l 1 % 64 * 64 + byteAt l 2 % 64 ≥ 2048 && Utf8.valid ((byteAt l 0 % 16 * 4096 + byteAt l 1 % 64 * 64 + byteAt l 2 % 64 : Nat) : Int) then (byteAt l 0 % 16 * 4096 + byteAt l 1 % 64 * 64 + byteAt l 2 % 64, 3) else (65533, 1)
  else if byteAt l 0 / 8 == 30 && contAt l 1 && contAt l 2 && contAt l 3 then
    if byteAt l 0 % 8 * 262144 + byteAt l 1 % 64 * 4096 + byteAt l 2 % 64 * 64 + byteAt l 3 % 64 ≥ 65536 && Utf8.valid ((byteAt l 0 % 8 * 262144 + byteAt l 1 % 64 * 4096 + byteAt l 2 % 64 * 64 + byteAt l 3 % 64 : Nat) : Int) then (byteAt l 0 % 8 * 262144 + byteAt l 1 % 64 * 4096 + byteAt l 2 % 64 * 64 + byteAt l 3 % 64, 4) else (65533, 1)
  else (65533, 1)
theorem decode_list (s : ByteArray) (i : Nat) : Utf8.decode s i = uDec (s.data.toList.drop i) := by
  have hg : ∀ k, (s.get! (i + k)).toNat = byteAt (s.data.toList.drop i) k := by
    intro k
    simp only [byteAt, List.getD_eq_getElem?_getD, List.getElem?_drop, ByteArray.get!]
    rw [Array.getElem?_toList]
    simp [getElem!_def]
    cases s.data[i + k]? <;> rfl
  have hc : ∀ k, (decide (i + k < s.size) && byteAt (s.data.toList.drop i) k / 64 == 2) = contAt (s.data.toList.drop i) k := by
    intro k
    simp only [contAt, List.length_drop, Array.length_toList]
    congr 1
    simp only [ByteArray.size, decide_eq_decide]
    omega
  simp only [Utf8.decode, hg, hc]
  simp only [uDec, Utf8.runeError]
theorem byte_back {x : Int} {a : UInt8} (h : x = (a.toNat : Int)) : x.toNat.toUInt8 = a := by
  subst h
  simp
theorem byteAt_lt (l : List UInt8) (j : Nat) : byteAt l j < 256 := UInt8.toNat_lt _
theorem valid_iff (r : Int) : Utf8.valid r = true ↔ (0 ≤ r ∧ r < 55296) ∨ (57344 ≤ r ∧ r ≤ 1114111) := by
  simp only [Utf8.valid, Bool.or_eq_true, Bool.and_eq_true, decide_eq_true_eq]
theorem enc_one {r : Int} (h0 : 0 ≤ r) (h1 : r ≤ 127) : Lib.encodeRune r = [r.toNat.toUInt8] := by
  simp [Lib.encodeRune, Lib.encodeRuneZ_one h0 h1]
theorem enc_two {r : Int} (h0 : 128 ≤ r) (h1 : r ≤ 2047) : Lib.encodeRune r = [(192 + r / 64).toNat.toUInt8, (128 + r % 64).toNat.toUInt8] := by
  simp [Lib.encodeRune, Lib.encodeRuneZ_two h0 h1]
theorem enc_three {r : Int} (h : (2048 ≤ r ∧ r < 55296) ∨ (57343 < r ∧ r ≤ 65535)) : Lib.encodeRune r = [(224 + r / 4096).toNat.toUInt8, (128 + r / 64 % 64).toNat.toUInt8, (128 + r % 64).toNat.toUInt8] := by
  simp [Lib.encodeRune, Lib.encodeRuneZ_three h]
theorem enc_four {r : Int} (h0 : 65536 ≤ r) (h1 : r ≤ 1114111) : Lib.encodeRune r = [(240 + r / 262144).toNat.toUInt8, (128 + r / 4096 % 64).toNat.toUInt8, (128 + r / 64 % 64).toNat.toUInt8, (128 + r % 64).toNat.toUInt8] := by
  simp [Lib.encodeRune, Lib.encodeRuneZ_four h0 h1]
theorem enc_bad {r : Int} (h : r < 0 ∨ (55296 ≤ r ∧ r ≤ 57343) ∨ 1114111 < r) : Lib.encodeRune r = [239, 191, 189] := by
  simp [Lib.encodeRune, Lib.encodeRuneZ_bad h]
theorem enc_65533 : Lib.encodeRune 65533 = [239, 191, 189] := by decide
theorem toU8 {x : Int} (h0 : 0 ≤ x) (h1 : x < 256) : (x.toNat.toUInt8).toNat = x.toNat := by
  show (UInt8.ofNat x.toNat).toNat = _
  rw [UInt8.toNat_ofNat']; omega
def wholeL (l : List UInt8) : Nat := if (uDec l).2 = 1 ∧ 128 ≤ byteAt l 0 then 0 else (uDec l).2
theorem ex2 {a : UInt8} {r : List UInt8} (h : 2 < (a :: r).length) : ∃ b c r', r = b :: c :: r' := by
  match r, h with
  | b :: c :: r', _ => exact ⟨b, c, r', rfl⟩
theorem ex3 {a : UInt8} {r : List UInt8} (h : 3 < (a :: r).length) : ∃ b c d r', r = b :: c :: d :: r' := by
  match r, h with
  | b :: c :: d :: r', _ => exact ⟨b, c, d, r', rfl⟩
theorem contAt_iff (l : List UInt8) (j : Nat) : contAt l j = true ↔ j < l.length ∧ byteAt l j / 64 = 2 := by
  simp [contAt]
theorem dec_cases (l : List UInt8) (hl : l ≠ []) :
    (wholeL l = 0 ∧ uDec l = (65533, 1) ∧ 128 ≤ byteAt l 0) ∨
    (wholeL l = (uDec l).2 ∧ 0 < (uDec l).2 ∧ (uDec l).2 ≤ 4 ∧ (uDec l).2 ≤ l.length ∧ Utf8.valid (uDec l).1 = true ∧ Lib.encodeRune (uDec l).1 = l.take (uDec l).2) := by
  obtain ⟨a, r, rfl⟩ := List.exists_cons_of_ne_nil hl
  by_cases h0 : byteAt (a :: r) 0 < 128
  · right
    have e : uDec (a :: r) = (byteAt (a :: r) 0, 1) := by simp only [uDec, if_pos h0]
    have hw : wholeL (a :: r) = 1 := by unfold wholeL; rw [e, if_neg (by omega)]
    have ha : byteAt (a :: r) 0 = a.toNat := rfl
    rw [hw, e]
    refine ⟨rfl, by omega, by omega, by simp, ?_, ?_⟩
    · rw [valid_iff]; simp only; omega
    · rw [enc_one (by simp) (by simp only; omega)]; simp [ha]
  · have bad : uDec (a :: r) = (65533, 1) → (wholeL (a :: r) = 0 ∧ uDec (a :: r) = (65533, 1) ∧ 128 ≤ byteAt (a :: r) 0) := fun e =>
      ⟨by unfold wholeL; rw [e, if_pos ⟨rfl, by omega⟩], e, by omega⟩
    have good : ∀ n w, uDec (a :: r) = (n, w) → 1 < w → wholeL (a :: r) = w := fun n w e hw => by
      unfold wholeL; rw [e, if_neg (by simp only; omega)]
    by_cases h2 : byteAt (a :: r) 0 / 32 = 6 ∧ contAt (a :: r) 1 = true
    · obtain ⟨c0, c1⟩ := h2
      by_cases h3 : byteAt (a :: r) 0 % 32 * 64 + byteAt (a :: r) 1 % 64 ≥ 128
      · right
        have e : uDec (a :: r) = (byteAt (a :: r) 0 % 32 * 64 + byteAt (a :: r) 1 % 64, 2) := by
          simp only [uDec, if_neg h0, c0, c1, beq_self_eq_true, Bool.and_self, if_true, if_pos h3]
        rw [good _ _ e (by omega), e]
        rw [contAt_iff] at c1
        match r, c1, e, h3, c0, h0 with
        | b :: r, c1, e, h3, c0, h0 =>
          have ha : byteAt (a :: b :: r) 0 = a.toNat := rfl
          have hb : byteAt (a :: b :: r) 1 = b.toNat := rfl
          have := UInt8.toNat_lt a; have := UInt8.toNat_lt b
          rw [ha, hb]
          refine ⟨rfl, by omega, by omega, by simp, ?_, ?_⟩
          · rw [valid_iff]; simp only; omega
          · rw [enc_two (by simp only; omega) (by simp only; omega)]
            rw [byte_back (a := a) (by simp only; omega), byte_back (a := b) (by simp only; omega)]
            rfl
      · left
        exact bad (by simp only [uDec, if_neg h0, c0, c1, beq_self_eq_true, Bool.and_self, if_true, if_neg h3])
    · have n2 : (byteAt (a :: r) 0 / 32 == 6 && contAt (a :: r) 1) = false := by
        cases hh : (byteAt (a :: r) 0 / 32 == 6 && contAt (a :: r) 1) with
        | false => rfl
        | true => simp only [Bool.and_eq_true, beq_iff_eq] at hh; exact absurd hh h2
      by_cases h4 : byteAt (a :: r) 0 / 16 = 14 ∧ contAt (a :: r) 1 = true ∧ contAt (a :: r) 2 = true
      · obtain ⟨c0, c1, c2⟩ := h4
        by_cases h5 : (decide (byteAt (a :: r) 0 % 16 * 4096 + byteAt (a :: r) 1 % 64 * 64 + byteAt (a :: r) 2 % 64 ≥ 2048) && Utf8.valid ((byteAt (a :: r) 0 % 16 * 4096 + byteAt (a :: r) 1 % 64 * 64 + byteAt (a :: r) 2 % 64 : Nat) : Int)) = true
        · right
          have e : uDec (a :: r) = (byteAt (a :: r) 0 % 16 * 4096 + byteAt (a :: r) 1 % 64 * 64 + byteAt (a :: r) 2 % 64, 3) := by
            simp only [uDec, if_neg h0, n2, Bool.false_eq_true, if_false]
            rw [if_pos (by simp [c0, c1, c2]), if_pos h5]
          rw [good _ _ e (by omega), e]
          rw [contAt_iff] at c1 c2
          simp only [Bool.and_eq_true, decide_eq_true_eq] at h5
          obtain ⟨h5, h6⟩ := h5
          obtain ⟨b, c, r, rfl⟩ := ex2 c2.1
          · skip
            have ha : byteAt (a :: b :: c :: r) 0 = a.toNat := rfl
            have hb : byteAt (a :: b :: c :: r) 1 = b.toNat := rfl
            have hc : byteAt (a :: b :: c :: r) 2 = c.toNat := rfl
            have := UInt8.toNat_lt a; have := UInt8.toNat_lt b; have := UInt8.toNat_lt c
            simp only [ha, hb, hc] at *
            refine ⟨trivial, by omega, by omega, by simp, h6, ?_⟩
            rw [valid_iff] at h6
            rw [enc_three (by omega)]
            rw [byte_back (a := a) (by omega), byte_back (a := b) (by omega), byte_back (a := c) (by omega)]
            rfl
        · left
          exact bad (by
            simp only [uDec, if_neg h0, n2, Bool.false_eq_true, if_false]
            rw [if_pos (by simp [c0, c1, c2]), if_neg h5])
      · have n4 : (byteAt (a :: r) 0 / 16 == 14 && contAt (a :: r) 1 && contAt (a :: r) 2) = false := by
          cases hh : (byteAt (a :: r) 0 / 16 == 14 && contAt (a :: r) 1 && contAt (a :: r) 2) with
          | false => rfl
          | true => simp only [Bool.and_eq_true, beq_iff_eq] at hh; exact absurd ⟨hh.1.1, hh.1.2, hh.2⟩ h4
        by_cases h6 : byteAt (a :: r) 0 / 8 = 30 ∧ contAt (a :: r) 1 = true ∧ contAt (a :: r) 2 = true ∧ contAt (a :: r) 3 = true
        · obtain ⟨c0, c1, c2, c3⟩ := h6
          by_cases h7 : (decide (byteAt (a :: r) 0 % 8 * 262144 + byteAt (a :: r) 1 % 64 * 4096 + byteAt (a :: r) 2 % 64 * 64 + byteAt (a :: r) 3 % 64 ≥ 65536) && Utf8.valid ((byteAt (a :: r) 0 % 8 * 262144 + byteAt (a :: r) 1 % 64 * 4096 + byteAt (a :: r) 2 % 64 * 64 + byteAt (a :: r) 3 % 64 : Nat) : Int)) = true
          · right
            have e : uDec (a :: r) = (byteAt (a :: r) 0 % 8 * 262144 + byteAt (a :: r) 1 % 64 * 4096 + byteAt (a :: r) 2 % 64 * 64 + byteAt (a :: r) 3 % 64, 4) := by
              simp only [uDec, if_neg h0, n2, n4, Bool.false_eq_true, if_false]
              rw [if_pos (by simp [c0, c1, c2, c3]), if_pos h7]
            rw [good _ _ e (by omega), e]
            rw [contAt_iff] at c1 c2 c3
            simp only [Bool.and_eq_true, decide_eq_true_eq] at h7
            obtain ⟨h7, h8⟩ := h7
            obtain ⟨b, c, d, r, rfl⟩ := ex3 c3.1
            · skip
              have ha : byteAt (a :: b :: c :: d :: r) 0 = a.toNat := rfl
              have hb : byteAt (a :: b :: c :: d :: r) 1 = b.toNat := rfl
              have hc : byteAt (a :: b :: c :: d :: r) 2 = c.toNat := rfl
              have hd : byteAt (a :: b :: c :: d :: r) 3 = d.toNat := rfl
              have := UInt8.toNat_lt a; have := UInt8.toNat_lt b; have := UInt8.toNat_lt c; have := UInt8.toNat_lt d
              simp only [ha, hb, hc, hd] at *
              refine ⟨trivial, by omega, by omega, by simp, h8, ?_⟩
              rw [valid_iff] at h8
              rw [enc_four (by omega) (by omega)]
              rw [byte_back (a := a) (by omega), byte_back (a := b) (by omega), byte_back (a := c) (by omega), byte_back (a := d) (by omega)]
              rfl
          · left
            exact bad (by
              simp only [uDec, if_neg h0, n2, n4, Bool.false_eq_true, if_false]
              rw [if_pos (by simp [c0, c1, c2, c3]), if_neg h7])
        · left
          have n6 : (byteAt (a :: r) 0 / 8 == 30 && contAt (a :: r) 1 && contAt (a :: r) 2 && contAt (a :: r) 3) = false := by
            cases hh : (byteAt (a :: r) 0 / 8 == 30 && contAt (a :: r) 1 && contAt (a :: r) 2 && contAt (a :: r) 3) with
            | false => rfl
            | true => simp only [Bool.and_eq_true, beq_iff_eq] at hh; exact absurd ⟨hh.1.1.1, hh.1.1.2, hh.1.2, hh.2⟩ h6
          exact bad (by simp only [uDec, if_neg h0, n2, n4, n6, Bool.false_eq_true, if_false])
theorem enc_ne (r : Int) : Lib.encodeRune r ≠ [] := by
  intro h
  have := Lib.encodeRuneZ_length r
  have h2 := congrArg List.length h
  simp [Lib.encodeRune] at h2
  rw [h2] at this
  simp at this
theorem enc_len (r : Int) : 1 ≤ (Lib.encodeRune r).length ∧ (Lib.encodeRune r).length ≤ 4 := by
  have := Lib.encodeRuneZ_length r
  simpa [Lib.encodeRune] using this
def Val (l : List UInt8) : Prop := ∃ rs : List Int, l = rs.flatMap Lib.encodeRune
theorem Val.nil : Val [] := ⟨[], rfl⟩
def valL : Nat → List UInt8 → List UInt8
  | 0, _ => []
  | n + 1, l => if l = [] then [] else Lib.encodeRune (uDec l).1 ++ valL n (l.drop (uDec l).2)
theorem dec_width (l : List UInt8) (hl : l ≠ []) : 1 ≤ (uDec l).2 ∧ (uDec l).2 ≤ l.length := by
  rcases dec_cases l hl with ⟨_, h, _⟩ | ⟨_, h1, _, h2, _⟩
  · rw [h]; have := List.length_pos_iff.2 hl; exact ⟨Nat.le_refl _, this⟩
  · exact ⟨h1, h2⟩
theorem valL_more : ∀ (n : Nat) (l : List UInt8), l.length ≤ n → ∀ m, n ≤ m → valL m l = valL n l := by
  intro n
  induction n with
  | zero =>
    intro l hl m hm
    obtain rfl : l = [] := List.eq_nil_of_length_eq_zero (by omega)
    cases m <;> simp [valL]
  | succ n ih =>
    intro l hl m hm
    obtain ⟨m, rfl⟩ : ∃ q, m = q + 1 := ⟨m - 1, by omega⟩
    by_cases h : l = []
    · simp [valL, h]
    · simp only [valL, if_neg h]
      have := dec_width l h
      rw [ih _ (by rw [List.length_drop]; omega) m (by omega)]
theorem valL_len : ∀ (n : Nat) (l : List UInt8), (valL n l).length ≤ 3 * l.length := by
  intro n
  induction n with
  | zero => intro l; simp [valL]
  | succ n ih =>
    intro l
    simp only [valL]
    split
    · simp
    · rename_i h
      have h1 := ih (l.drop (uDec l).2)
      have hw := dec_width l h
      rw [List.length_append]
      rw [List.length_drop] at h1
      rcases dec_cases l h with ⟨_, h2, _⟩ | ⟨_, _, _, h3, _, h4⟩
      · rw [h2] at h1 hw ⊢
        have : (Lib.encodeRune ((65533, 1) : Nat × Nat).1).length = 3 := by decide
        simp only at *
        omega
      · rw [h4, List.length_take]; omega
theorem whole_of {l : List UInt8} {n w : Nat} (e : uDec l = (n, w)) : wholeL l = if w = 1 ∧ 128 ≤ byteAt l 0 then 0 else w := by
  unfold wholeL; rw [e]
theorem whole_low (l : List UInt8) (h : byteAt l 0 < 128) : wholeL l = 1 := by
  rw [whole_of (n := byteAt l 0) (w := 1) (by unfold uDec; rw [if_pos h]), if_neg (by omega)]
theorem whole_none (l : List UInt8) (h : (128 ≤ byteAt l 0 ∧ byteAt l 0 < 192) ∨ 248 ≤ byteAt l 0) : wholeL l = 0 := by
  have h256 := byteAt_lt l 0
  rw [whole_of (n := 65533) (w := 1) (by
    unfold uDec
    rw [if_neg (by omega), if_neg (by simp; omega), if_neg (by simp; omega), if_neg (by simp; omega)]), if_pos (by omega)]
theorem whole_two (l : List UInt8) (h : 192 ≤ byteAt l 0 ∧ byteAt l 0 < 224) :
    wholeL l = if contAt l 1 = true ∧ byteAt l 0 % 32 * 64 + byteAt l 1 % 64 ≥ 128 then 2 else 0 := by
  by_cases c1 : contAt l 1 = true
  · by_cases c2 : byteAt l 0 % 32 * 64 + byteAt l 1 % 64 ≥ 128
    · rw [if_pos ⟨c1, c2⟩, whole_of (n := byteAt l 0 % 32 * 64 + byteAt l 1 % 64) (w := 2) (by
        unfold uDec; rw [if_neg (by omega), if_pos (by simp [c1]; omega), if_pos c2])]; simp
    · rw [if_neg (fun hh => c2 hh.2), whole_of (n := 65533) (w := 1) (by
        unfold uDec; rw [if_neg (by omega), if_pos (by simp [c1]; omega), if_neg c2]), if_pos (by omega)]
  · rw [if_neg (fun hh => c1 hh.1), whole_of (n := 65533) (w := 1) (by
      unfold uDec; rw [if_neg (by omega), if_neg (by simp [c1]), if_neg (by simp; omega), if_neg (by simp; omega)]), if_pos (by omega)]
theorem whole_three (l : List UInt8) (h : 224 ≤ byteAt l 0 ∧ byteAt l 0 < 240) :
    wholeL l = if contAt l 1 = true ∧ contAt l 2 = true ∧ byteAt l 0 % 16 * 4096 + byteAt l 1 % 64 * 64 + byteAt l 2 % 64 ≥ 2048 ∧ Utf8.valid ((byteAt l 0 % 16 * 4096 + byteAt l 1 % 64 * 64 + byteAt l 2 % 64 : Nat) : Int) = true then 3 else 0 := by
  by_cases c1 : contAt l 1 = true ∧ contAt l 2 = true
  · by_cases c2 : byteAt l 0 % 16 * 4096 + byteAt l 1 % 64 * 64 + byteAt l 2 % 64 ≥ 2048 ∧ Utf8.valid ((byteAt l 0 % 16 * 4096 + byteAt l 1 % 64 * 64 + byteAt l 2 % 64 : Nat) : Int) = true
    · rw [if_pos ⟨c1.1, c1.2, c2⟩, whole_of (n := byteAt l 0 % 16 * 4096 + byteAt l 1 % 64 * 64 + byteAt l 2 % 64) (w := 3) (by
        unfold uDec; rw [if_neg (by omega), if_neg (by simp; omega), if_pos (by simp [c1.1, c1.2]; omega), if_pos (by rw [c2.2]; simp only [Bool.and_true, decide_eq_true_eq]; exact c2.1)])]; simp
    · rw [if_neg (fun hh => c2 hh.2.2), whole_of (n := 65533) (w := 1) (by
        unfold uDec; rw [if_neg (by omega), if_neg (by simp; omega), if_pos (by simp [c1.1, c1.2]; omega), if_neg (by rw [Bool.and_eq_true, decide_eq_true_eq]; exact c2)]), if_pos (by omega)]
  · rw [if_neg (fun hh => c1 ⟨hh.1, hh.2.1⟩), whole_of (n := 65533) (w := 1) (by
      unfold uDec; rw [if_neg (by omega), if_neg (by simp; omega), if_neg (by rw [Bool.and_eq_true, Bool.and_eq_true]; exact fun hh => c1 ⟨hh.1.2, hh.2⟩), if_neg (by simp; omega)]), if_pos (by omega)]
theorem whole_four (l : List UInt8) (h : 240 ≤ byteAt l 0 ∧ byteAt l 0 < 248) :
    wholeL l = if contAt l 1 = true ∧ contAt l 2 = true ∧ contAt l 3 = true ∧ byteAt l 0 % 8 * 262144 + byteAt l 1 % 64 * 4096 + byteAt l 2 % 64 * 64 + byteAt l 3 % 64 ≥ 65536 ∧ Utf8.valid ((byteAt l 0 % 8 * 262144 + byteAt l 1 % 64 * 4096 + byteAt l 2 % 64 * 64 + byteAt l 3 % 64 : Nat) : Int) = true then 4 else 0 := by
  by_cases c1 : contAt l 1 = true ∧ contAt l 2 = true ∧ contAt l 3 = true
  · by_cases c2 : byteAt l 0 % 8 * 262144 + byteAt l 1 % 64 * 4096 + byteAt l 2 % 64 * 64 + byteAt l 3 % 64 ≥ 65536 ∧ Utf8.valid ((byteAt l 0 % 8 * 262144 + byteAt l 1 % 64 * 4096 + byteAt l 2 % 64 * 64 + byteAt l 3 % 64 : Nat) : Int) = true
    · rw [if_pos ⟨c1.1, c1.2.1, c1.2.2, c2⟩, whole_of (n := byteAt l 0 % 8 * 262144 + byteAt l 1 % 64 * 4096 + byteAt l 2 % 64 * 64 + byteAt l 3 % 64) (w := 4) (by
        unfold uDec; rw [if_neg (by omega), if_neg (by simp; omega), if_neg (by simp; omega), if_pos (by simp [c1.1, c1.2.1, c1.2.2]; omega), if_pos (by rw [c2.2]; simp only [Bool.and_true, decide_eq_true_eq]; exact c2.1)])]; simp
    · rw [if_neg (fun hh => c2 hh.2.2.2), whole_of (n := 65533) (w := 1) (by
        unfold uDec; rw [if_neg (by omega), if_neg (by simp; omega), if_neg (by simp; omega), if_pos (by simp [c1.1, c1.2.1, c1.2.2]; omega), if_neg (by rw [Bool.and_eq_true, decide_eq_true_eq]; exact c2)]), if_pos (by omega)]
  · rw [if_neg (fun hh => c1 ⟨hh.1, hh.2.1, hh.2.2.1⟩), whole_of (n := 65533) (w := 1) (by
      unfold uDec; rw [if_neg (by omega), if_neg (by simp; omega), if_neg (by simp; omega), if_neg (by rw [Bool.and_eq_true, Bool.and_eq_true, Bool.and_eq_true]; exact fun hh => c1 ⟨hh.1.1.2, hh.1.2, hh.2⟩)]), if_pos (by omega)]
end Go.Proofs.YtokkgjiofhhlkaaDoor
namespace Go.Proofs.YtokkgjiofhhlkaaDoor.Pure
open Go.RowKit Go.Proofs.YtokkgjiofhhlkaaDoorW.PrintWords
set_option linter.unusedVariables false
set_option linter.unusedSimpArgs false
theorem w64 {x : Int} (h0 : -9223372036854775808 ≤ x) (h1 : x ≤ 9223372036854775807) : wrap64 x = x := by unfold wrap64; omega
def intsOf (l : List UInt8) : List Int := l.map fun b => (b.toNat : Int)
theorem intsOf_append (a b : List UInt8) : intsOf (a ++ b) = intsOf a ++ intsOf b := by simp [intsOf]
theorem intsOf_length (a : List UInt8) : (intsOf a).length = a.length := by simp [intsOf]
theorem bytesOf_ints (s : ByteArray) : bytesOf s = intsOf s.data.toList := rfl
theorem strOf_ints (l : List UInt8) : strOfNums (intsOf l) = ⟨l.toArray⟩ := by
  simp only [strOfNums, intsOf, List.map_map]
  congr 2
  conv => rhs; rw [← List.map_id l]
  apply List.map_congr_left
  intro x _
  simp
theorem sizeL (s : ByteArray) : s.data.toList.length = s.size := by simp
theorem toList_eq (s : ByteArray) : s.toList = s.data.toList := ByteArray.toList_eq s
theorem mk_toList (l : List UInt8) : (⟨l.toArray⟩ : ByteArray).data.toList = l := rfl
theorem mk_size (l : List UInt8) : (⟨l.toArray⟩ : ByteArray).size = l.length := by simp [ByteArray.size]
theorem extract_list (s : ByteArray) (i j : Nat) : (s.extract i j).data.toList = (s.data.toList.take j).drop i := by
  simp [List.drop_take]
theorem mk_back (s : ByteArray) : (⟨s.data.toList.toArray⟩ : ByteArray) = s := by
  apply ByteArray.ext; simp
theorem ba_ext {s t : ByteArray} (h : s.data.toList = t.data.toList) : s = t := by
  apply ByteArray.ext; exact Array.ext' h
theorem bt_range (s : ByteArray) (i : Int) : 0 ≤ bt s i ∧ bt s i < 256 := by
  unfold bt
  split
  · have := UInt8.toNat_lt (s[i.toNat]); omega
  · omega
theorem bt_get (s : ByteArray) (i : Nat) (h : i < s.data.toList.length) : bt s (i : Int) = (s.data.toList[i].toNat : Int) := by
  unfold bt
  have h2 : i < s.size := by simpa using h
  rw [dif_pos (by simpa using h2)]
  rfl
theorem Ev.round {α : Type} {g f : Nat → Option α} {r : α} (h : ∀ k, g (k + 1) = f k) (k : Ev f r) : Ev g r := Ev.step h k
theorem Ev.pos {α : Type} {c : Prop} [Decidable c] {g f : Nat → Option α} {r : α} (h : c) (k : Ev g r) : Ev (fun n => if c then g n else f n) r := by
  refine Ev.congr (fun n => ?_) k; exact if_pos h
theorem Ev.neg {α : Type} {c : Prop} [Decidable c] {g f : Nat → Option α} {r : α} (h : ¬ c) (k : Ev f r) : Ev (fun n => if c then g n else f n) r := by
  refine Ev.congr (fun n => ?_) k; exact if_neg h
theorem Ev.got {α β : Type} {x : Option α} {a : α} {f : Nat → α → Option β} {r : β} (h : x = some a) (k : Ev (fun n => f n a) r) : Ev (fun n => x.bind (f n)) r := by
  subst h; exact k
end Go.Proofs.YtokkgjiofhhlkaaDoor.Pure
namespace Go.Proofs.YtokkgjiofhhlkaaDoor.Pure
open Go.RowKit Go.Proofs.YtokkgjiofhhlkaaDoor.C Go.Proofs.YtokkgjiofhhlkaaDoorW.PrintWords Go.Proofs.YtokkgjiofhhlkaaDoorW.PrintLast
set_option linter.unusedVariables false
set_option linter.unusedSimpArgs false
theorem bt_byteAt (s : ByteArray) (at_ j : Nat) : bt s ((at_ : Int) + (j : Int)) = byteAt (s.data.toList.drop at_) j := by
  unfold bt byteAt
  rw [List.getD_eq_getElem?_getD, List.getElem?_drop]
  have e : ((at_ : Int) + (j : Int)).toNat = at_ + j := by omega
  split
  · rename_i h
    rw [e] at h
    have h2 : at_ + j < s.data.toList.length := by simpa using h
    rw [List.getElem?_eq_getElem h2]
    simp only [Option.getD_some, e]
    rfl
  · rename_i h
    rw [e] at h
    have h2 : s.data.toList.length ≤ at_ + j := by simpa using h
    rw [List.getElem?_eq_none h2]
    rfl
section whole
variable (s : ByteArray) (hs : s.size ≤ 140737488351232)
include hs
theorem l0_step (k : Nat) (a n least v i : Int) (h0 : 0 ≤ a) (hi : 0 ≤ i) (hin : i < n) (ha : a + i < s.size) (hv : 0 ≤ v) (hv2 : v ≤ 1000000000) :
    muslinref04_Whole.l0 (k + 1) s a n least v i = if bt s (a + i) < 128 ∨ bt s (a + i) > 191 then some 0 else muslinref04_Whole.l0 k s a n least (64 * v + bt s (a + i) - 128) (i + 1) := by
  have hb := bt_range s (a + i)
  simp only [muslinref04_Whole.l0]
  rw [w64 (x := a + i) (by omega) (by omega), w64 (x := bt s (a + i)) (by omega) (by omega), if_pos hin, if_pos (by omega), if_pos ha,
    w64 (x := 64 * v) (by omega) (by omega), w64 (x := 64 * v + bt s (a + i)) (by omega) (by omega), w64 (x := 64 * v + bt s (a + i) - 128) (by omega) (by omega), w64 (x := i + 1) (by omega) (by omega)]
  by_cases c1 : bt s (a + i) < 128
  · rw [if_pos c1, if_pos (.inl c1)]
  · rw [if_neg c1]
    by_cases c2 : bt s (a + i) > 191
    · rw [if_pos c2, if_pos (.inr c2)]
    · rw [if_neg c2, if_neg (by omega)]
omit hs in
theorem l0_end (k : Nat) (a n least v i : Int) (hin : ¬ i < n) :
    muslinref04_Whole.l0 (k + 1) s a n least v i = if v < least ∨ v > 1114111 ∨ (v ≥ 55296 ∧ v ≤ 57343) then some 0 else some n := by
  simp only [muslinref04_Whole.l0]
  rw [if_neg hin]
  by_cases c1 : v < least
  · rw [if_pos c1, if_pos (.inl c1)]
  · rw [if_neg c1]
    by_cases c2 : v > 1114111
    · rw [if_pos c2, if_pos (.inr (.inl c2))]
    · rw [if_neg c2]
      by_cases c3 : v ≥ 55296
      · rw [if_pos c3]
        by_cases c4 : v ≤ 57343
        · rw [if_pos c4, if_pos (.inr (.inr ⟨c3, c4⟩))]
        · rw [if_neg c4, if_neg (by omega)]
      · rw [if_neg c3, if_neg (by omega)]
theorem whole_is (a : Nat) (ha : a < s.size) : Ev (fun k => muslinref04_Whole.f k s a) (wholeL (s.data.toList.drop a) : Int) := by
  have hb0 : bt s (a : Int) = byteAt (s.data.toList.drop a) 0 := by simpa using bt_byteAt s a 0
  have hb1 : bt s ((a : Int) + 1) = byteAt (s.data.toList.drop a) 1 := by simpa using bt_byteAt s a 1
  have hb2 : bt s ((a : Int) + 2) = byteAt (s.data.toList.drop a) 2 := by simpa using bt_byteAt s a 2
  have hb3 : bt s ((a : Int) + 3) = byteAt (s.data.toList.drop a) 3 := by simpa using bt_byteAt s a 3
  have hlen : (s.data.toList.drop a).length = s.size - a := by simp
  generalize hl : s.data.toList.drop a = l at *
  have r0 := byteAt_lt l 0
  have r1 := byteAt_lt l 1
  have r2 := byteAt_lt l 2
  have r3 := byteAt_lt l 3
  refine ⟨10, fun k hk => ?_⟩
  obtain ⟨m, rfl⟩ : ∃ m, k = m + 1 + 1 + 1 + 1 + 1 + 1 + 1 + 1 + 1 + 1 := ⟨k - 10, by omega⟩
  show muslinref04_Whole.f (m + 1 + 1 + 1 + 1 + 1 + 1 + 1 + 1 + 1 + 1) s a = _
  unfold muslinref04_Whole.f
  rw [if_pos (by omega), if_pos (by omega), hb0, w64 (x := (byteAt l 0 : Int)) (by omega) (by omega)]
  by_cases c0 : byteAt l 0 < 128
  · rw [if_pos (by omega), whole_low l c0]; rfl
  rw [if_neg (by omega)]
  by_cases c1 : byteAt l 0 < 192
  · rw [if_neg (by omega), whole_none l (by omega)]
    rw [muslinref04_Whole.j0, if_neg Bool.false_ne_true, if_neg (by omega), muslinref04_Whole.j1, if_neg Bool.false_ne_true, if_neg (by omega)]; rfl
  rw [if_pos (by omega)]
  by_cases c2 : byteAt l 0 < 224
  · rw [decide_eq_true (by omega : (byteAt l 0 : Int) < 224), whole_two l (by omega)]
    rw [muslinref04_Whole.j0, if_pos rfl, muslinref04_Whole.j2]
    rw [w64 (x := (byteAt l 0 : Int) - 192) (by omega) (by omega), w64 (x := (a : Int) + 2) (by omega) (by omega)]
    by_cases d : (a : Int) + 2 > s.size
    · rw [if_pos d, if_neg (by rw [contAt_iff]; omega)]; rfl
    rw [if_neg d, l0_step s hs _ a 2 128 _ 1 (by omega) (by omega) (by omega) (by omega) (by omega) (by omega), l0_end s _ a 2 128 _ (1 + 1) (by omega), hb1]
    simp only [contAt_iff]
    split
    · rename_i h1; rw [if_neg (by omega)]; rfl
    · split
      · rename_i h1 h2; rw [if_neg (by omega)]; rfl
      · rename_i h1 h2; rw [if_pos (by omega)]; rfl
  rw [decide_eq_false (by omega : ¬ (byteAt l 0 : Int) < 224)]
  by_cases c3 : byteAt l 0 < 240
  · rw [whole_three l (by omega)]
    rw [muslinref04_Whole.j0, if_neg Bool.false_ne_true, if_pos (by omega), decide_eq_true (by omega : (byteAt l 0 : Int) < 240), muslinref04_Whole.j1, if_pos rfl, muslinref04_Whole.j2]
    rw [w64 (x := (byteAt l 0 : Int) - 224) (by omega) (by omega), w64 (x := (a : Int) + 3) (by omega) (by omega)]
    by_cases d : (a : Int) + 3 > s.size
    · rw [if_pos d, if_neg (by rw [contAt_iff, contAt_iff]; omega)]; rfl
    rw [if_neg d, l0_step s hs _ a 3 2048 _ 1 (by omega) (by omega) (by omega) (by omega) (by omega) (by omega), hb1]
    simp only [contAt_iff, valid_iff]
    split
    · rename_i h1; rw [if_neg (by omega)]; rfl
    · rename_i h1
      rw [show ((1 : Int) + 1) = 2 from rfl, l0_step s hs _ a 3 2048 _ 2 (by omega) (by omega) (by omega) (by omega) (by omega) (by omega), hb2]
      split
      · rename_i h2; rw [if_neg (by omega)]; rfl
      · rename_i h2
        rw [l0_end s _ a 3 2048 _ (2 + 1) (by omega)]
        split
        · rename_i h3; rw [if_neg (by omega)]; rfl
        · rename_i h3; rw [if_pos (by omega)]; rfl
  by_cases c4 : byteAt l 0 < 248
  · rw [whole_four l (by omega)]
    rw [muslinref04_Whole.j0, if_neg Bool.false_ne_true, if_pos (by omega), decide_eq_false (by omega : ¬ (byteAt l 0 : Int) < 240), muslinref04_Whole.j1, if_neg Bool.false_ne_true, if_pos (by omega), if_pos (by omega), muslinref04_Whole.j2]
    rw [w64 (x := (byteAt l 0 : Int) - 240) (by omega) (by omega), w64 (x := (a : Int) + 4) (by omega) (by omega)]
    by_cases d : (a : Int) + 4 > s.size
    · rw [if_pos d, if_neg (by rw [contAt_iff, contAt_iff, contAt_iff]; omega)]; rfl
    rw [if_neg d, l0_step s hs _ a 4 65536 _ 1 (by omega) (by omega) (by omega) (by omega) (by omega) (by omega), hb1]
    simp only [contAt_iff, valid_iff]
    split
    · rename_i h1; rw [if_neg (by omega)]; rfl
    · rename_i h1
      rw [show ((1 : Int) + 1) = 2 from rfl, l0_step s hs _ a 4 65536 _ 2 (by omega) (by omega) (by omega) (by omega) (by omega) (by omega), hb2]
      split
      · rename_i h2; rw [if_neg (by omega)]; rfl
      · rename_i h2
        rw [show ((2 : Int) + 1) = 3 from rfl, l0_step s hs _ a 4 65536 _ 3 (by omega) (by omega) (by omega) (by omega) (by omega) (by omega), hb3]
        split
        · rename_i h3; rw [if_neg (by omega)]; rfl
        · rename_i h3
          rw [l0_end s _ a 4 65536 _ (3 + 1) (by omega)]
          split
          · rename_i h4; rw [if_neg (by omega)]; rfl
          · rename_i h4; rw [if_pos (by omega)]; rfl
  rw [whole_none l (by omega)]
  rw [muslinref04_Whole.j0, if_neg Bool.false_ne_true, if_pos (by omega), decide_eq_false (by omega : ¬ (byteAt l 0 : Int) < 240), muslinref04_Whole.j1, if_neg Bool.false_ne_true, if_pos (by omega), if_neg (by omega)]; rfl
end whole
theorem validFrom_valL (s : ByteArray) : ∀ (fuel pos : Nat), validFrom s fuel pos = valL fuel (s.data.toList.drop pos) := by
  intro fuel
  induction fuel with
  | zero => intro pos; rfl
  | succ n ih =>
    intro pos
    simp only [validFrom, valL]
    by_cases h : pos < s.size
    · rw [if_pos h, if_neg (by intro h2; have := congrArg List.length h2; simp at this; omega), decode_list, ih, List.drop_drop]
    · rw [if_neg h, if_pos (List.drop_eq_nil_of_le (by rw [sizeL]; omega))]
def vl (l : List UInt8) : List UInt8 := valL l.length l
theorem validS_eq (s : ByteArray) : validS s = ⟨(vl s.data.toList).toArray⟩ := by
  unfold validS vl
  rw [validFrom_valL, List.drop_zero, sizeL]
theorem vl_nil : vl [] = [] := rfl
theorem vl_cons (l : List UInt8) (h : l ≠ []) : vl l = Lib.encodeRune (uDec l).1 ++ vl (l.drop (uDec l).2) := by
  have hw := dec_width l h
  have e : vl l = valL (l.length - 1 + 1) l := by unfold vl; congr 1; omega
  rw [e]
  simp only [valL, if_neg h]
  unfold vl
  rw [valL_more _ _ (Nat.le_refl _) (l.length - 1) (by rw [List.length_drop]; omega)]
theorem valid_loop (s : ByteArray) (hs : s.size ≤ 35184372088832) : ∀ (n pos : Nat) (acc : List UInt8), s.size - pos ≤ n → pos ≤ s.size → acc.length + 3 * (s.size - pos) < 140737488355328 →
    Ev (fun k => muslinref04_Valid.l0 k s (intsOf acc) pos) (⟨(acc ++ vl (s.data.toList.drop pos)).toArray⟩ : ByteArray) := by
  intro n
  induction n with
  | zero =>
    intro pos acc h1 h2 h3
    refine Ev.round (fun k => by rw [muslinref04_Valid.l0]) ?_
    refine Ev.neg (by omega) ?_
    rw [strOf_ints, List.drop_eq_nil_of_le (by rw [sizeL]; omega), vl_nil, List.append_nil]
    exact Ev.now _
  | succ n ih =>
    intro pos acc h1 h2 h3
    refine Ev.round (fun k => by rw [muslinref04_Valid.l0]) ?_
    by_cases hp : pos < s.size
    · refine Ev.pos (by omega) ?_
      refine Ev.bind (whole_is s (by omega) pos hp) ?_
      have hne : s.data.toList.drop pos ≠ [] := by intro h; have := congrArg List.length h; simp at this; omega
      rw [vl_cons _ hne]
      rcases dec_cases _ hne with ⟨e0, e1, _⟩ | ⟨e0, e1, e2, e3, e4, e5⟩
      · rw [e0, e1]
        refine Ev.pos rfl ?_
        refine Ev.pos (by rw [intsOf_length]; omega) ?_
        have hb : intsOf acc ++ bytesOf (⟨#[239, 191, 189]⟩ : ByteArray) = intsOf (acc ++ [239, 191, 189]) := by rw [intsOf_append]; rfl
        rw [hb, w64 (by omega) (by omega)]
        have := ih (pos + 1) (acc ++ [239, 191, 189]) (by omega) (by omega) (by simp; omega)
        simp only [List.drop_drop]
        rw [show Lib.encodeRune ((65533 : Nat) : Int) = [239, 191, 189] from enc_65533, ← List.append_assoc]
        exact this
      · have hl : (s.data.toList.drop pos).length = s.size - pos := by simp
        rw [e0]
        refine Ev.neg (by omega) ?_
        refine Ev.pos (by omega) ?_
        have hw : wrap64 ((pos : Int) + (((uDec (s.data.toList.drop pos)).2 : Nat) : Int)) = ((pos + (uDec (s.data.toList.drop pos)).2 : Nat) : Int) := by rw [w64 (by omega) (by omega)]; omega
        rw [hw]
        refine Ev.pos (by omega) ?_
        refine Ev.pos (by omega) ?_
        have hx : (s.extract ((pos : Nat) : Int).toNat ((pos + (uDec (s.data.toList.drop pos)).2 : Nat) : Int).toNat).data.toList = (s.data.toList.drop pos).take (uDec (s.data.toList.drop pos)).2 := by
          rw [extract_list, Int.toNat_natCast, Int.toNat_natCast, List.drop_take, Nat.add_sub_cancel_left]
        have hxs : (s.extract ((pos : Nat) : Int).toNat ((pos + (uDec (s.data.toList.drop pos)).2 : Nat) : Int).toNat).size = (uDec (s.data.toList.drop pos)).2 := by
          rw [← sizeL, hx, List.length_take]; omega
        refine Ev.pos (by rw [intsOf_length, hxs]; omega) ?_
        rw [bytesOf_ints, hx, ← intsOf_append]
        have := ih (pos + (uDec (s.data.toList.drop pos)).2) (acc ++ (s.data.toList.drop pos).take (uDec (s.data.toList.drop pos)).2) (by omega) (by omega) (by rw [List.length_append, List.length_take]; omega)
        rw [e5, ← List.append_assoc, List.drop_drop]
        exact this
    · refine Ev.neg (by omega) ?_
      rw [strOf_ints, List.drop_eq_nil_of_le (by rw [sizeL]; omega), vl_nil, List.append_nil]
      exact Ev.now _
theorem refValid_is (s : ByteArray) (hs : s.size ≤ 35184372088832) : Ev (fun k => muslinref04_Valid.f k s) (validS s) := by
  rw [validS_eq]
  exact valid_loop s hs s.size 0 [] (by omega) (by omega) (by simp; omega)
theorem strOf_enc {xs : List Int} {n : Int} (h : xs = Lib.encodeRuneZ n) : strOfNums xs = ⟨(Lib.encodeRune n).toArray⟩ := by
  subst h
  simp only [strOfNums, Lib.encodeRune]
theorem sign_is (n : Int) : Ev (fun k => muslinref04_Sign.f k n) (⟨(Lib.encodeRune n).toArray⟩ : ByteArray) := by
  unfold muslinref04_Sign.f
  by_cases c1 : n < 0
  · refine Ev.pos c1 ?_
    refine Ev.round (fun k => by rw [muslinref04_Sign.j0]) ?_
    refine Ev.pos rfl ?_
    rw [enc_bad (.inl c1)]; exact Ev.now _
  refine Ev.neg c1 ?_
  by_cases c2 : n > 1114111
  · refine Ev.pos c2 ?_
    refine Ev.round (fun k => by rw [muslinref04_Sign.j0]) ?_
    refine Ev.pos rfl ?_
    rw [enc_bad (.inr (.inr c2))]; exact Ev.now _
  refine Ev.neg c2 ?_
  by_cases c3 : n ≥ 55296 ∧ n ≤ 57343
  · refine Ev.pos c3.1 ?_
    rw [decide_eq_true c3.2]
    refine Ev.round (fun k => by rw [muslinref04_Sign.j0]) ?_
    refine Ev.pos rfl ?_
    rw [enc_bad (.inr (.inl c3))]; exact Ev.now _
  have hj : Ev (fun k => muslinref04_Sign.j0 k n false) (⟨(Lib.encodeRune n).toArray⟩ : ByteArray) := by
    refine Ev.round (fun k => by rw [muslinref04_Sign.j0]) ?_
    refine Ev.neg Bool.false_ne_true ?_
    have t1 : ∀ m : Int, 0 < m → Int.tdiv n m = n / m := fun m hm => Int.tdiv_eq_ediv_of_nonneg (by omega)
    have t2 : ∀ x m : Int, 0 ≤ x → Int.tmod x m = x % m := fun x m hx => Int.tmod_eq_emod_of_nonneg hx
    by_cases d1 : n < 128
    · refine Ev.pos d1 ?_
      rw [strOf_enc (n := n) (by rw [Lib.encodeRuneZ_one (by omega) (by omega)]; congr 1; omega)]; exact Ev.now _
    refine Ev.neg d1 ?_
    by_cases d2 : n < 2048
    · refine Ev.pos d2 ?_
      rw [t1 64 (by omega), t2 n 64 (by omega), w64 (x := n / 64) (by omega) (by omega), w64 (x := 192 + n / 64) (by omega) (by omega), w64 (x := 128 + n % 64) (by omega) (by omega)]
      rw [strOf_enc (n := n) (by
        rw [Lib.encodeRuneZ_two (by omega) (by omega)]
        rw [show (192 + n / 64) % 256 = 192 + n / 64 by omega, show (128 + n % 64) % 256 = 128 + n % 64 by omega])]
      exact Ev.now _
    refine Ev.neg d2 ?_
    by_cases d3 : n < 65536
    · refine Ev.pos d3 ?_
      rw [t1 64 (by omega), t1 4096 (by omega), t2 n 64 (by omega), w64 (x := n / 64) (by omega) (by omega), w64 (x := n / 4096) (by omega) (by omega), t2 (n / 64) 64 (by omega), w64 (x := 224 + n / 4096) (by omega) (by omega), w64 (x := 128 + n / 64 % 64) (by omega) (by omega), w64 (x := 128 + n % 64) (by omega) (by omega)]
      rw [strOf_enc (n := n) (by
        rw [Lib.encodeRuneZ_three (by omega)]
        rw [show (224 + n / 4096) % 256 = 224 + n / 4096 by omega, show (128 + n / 64 % 64) % 256 = 128 + n / 64 % 64 by omega, show (128 + n % 64) % 256 = 128 + n % 64 by omega])]
      exact Ev.now _
    refine Ev.neg d3 ?_
    rw [t1 262144 (by omega), t1 64 (by omega), t1 4096 (by omega), t2 n 64 (by omega), w64 (x := n / 64) (by omega) (by omega), w64 (x := n / 4096) (by omega) (by omega), w64 (x := n / 262144) (by omega) (by omega), t2 (n / 64) 64 (by omega), t2 (n / 4096) 64 (by omega), w64 (x := 240 + n / 262144) (by omega) (by omega), w64 (x := 128 + n / 4096 % 64) (by omega) (by omega), w64 (x := 128 + n / 64 % 64) (by omega) (by omega), w64 (x := 128 + n % 64) (by omega) (by omega)]
    rw [strOf_enc (n := n) (by
      rw [Lib.encodeRuneZ_four (by omega) (by omega)]
      rw [show (240 + n / 262144) % 256 = 240 + n / 262144 by omega, show (128 + n / 4096 % 64) % 256 = 128 + n / 4096 % 64 by omega, show (128 + n / 64 % 64) % 256 = 128 + n / 64 % 64 by omega, show (128 + n % 64) % 256 = 128 + n % 64 by omega])]
    exact Ev.now _
  by_cases c4 : n ≥ 55296
  · refine Ev.pos c4 ?_
    rw [decide_eq_false (by omega : ¬ n ≤ 57343)]; exact hj
  · refine Ev.neg c4 ?_; exact hj
theorem high_is (c : Nat) (h1 : 128 ≤ c) (h2 : c < 160) : muslinref04_high.f (c : Int) = some (highTab.getD (c - 128) 0) := by
  unfold muslinref04_high.f
  simp only [Option.bind_some]
  have e : (((c : Int) - 128) % 256) = ((c - 128 : Nat) : Int) := by omega
  rw [e, if_pos (by omega), if_pos (by simp; omega)]
  simp only [rd, Int.toNat_natCast]
  rfl
theorem enc_size (n : Int) : (⟨(Lib.encodeRune n).toArray⟩ : ByteArray).size ≤ 4 := by rw [mk_size]; exact (enc_len n).2
theorem singles_loop (s : ByteArray) (hs : s.size ≤ 35184372088832) : ∀ (n i : Nat) (acc : List UInt8), s.size - i ≤ n → i ≤ s.size → acc.length + 4 * (s.size - i) < 140737488355328 - 4 →
    Ev (fun k => muslinref04_Decode.l0 k s (intsOf acc) i) ((⟨(acc ++ singlesL (s.data.toList.drop i)).toArray⟩ : ByteArray), true) := by
  intro n
  induction n with
  | zero =>
    intro i acc h1 h2 h3
    refine Ev.round (fun k => by rw [muslinref04_Decode.l0]) ?_
    refine Ev.neg (by omega) ?_
    rw [strOf_ints, List.drop_eq_nil_of_le (by rw [sizeL]; omega)]
    simp only [singlesL, List.flatMap_nil, List.append_nil]
    exact Ev.now _
  | succ n ih =>
    intro i acc h1 h2 h3
    refine Ev.round (fun k => by rw [muslinref04_Decode.l0]) ?_
    by_cases hp : i < s.size
    · have hl : i < s.data.toList.length := by rw [sizeL]; exact hp
      refine Ev.pos (by omega) ?_
      refine Ev.pos (by omega) ?_
      have hc : bt s (i : Int) = (s.data.toList[i].toNat : Int) := bt_get s i hl
      have hd : singlesL (s.data.toList.drop i) = Lib.encodeRune (hiC s.data.toList[i]) ++ singlesL (s.data.toList.drop (i + 1)) := by
        rw [List.drop_eq_getElem_cons hl]; simp [singlesL]
      rw [hd]
      generalize hcc : s.data.toList[i] = c at *
      have h256 : c.toNat < 256 := UInt8.toNat_lt _
      have next : Ev (fun k => muslinref04_Decode.l0 k s (intsOf acc ++ bytesOf (⟨(Lib.encodeRune (hiC c)).toArray⟩ : ByteArray)) (wrap64 ((i : Int) + 1))) ((⟨(acc ++ (Lib.encodeRune (hiC c) ++ singlesL (s.data.toList.drop (i + 1)))).toArray⟩ : ByteArray), true) := by
        have hlen := enc_len (hiC c)
        rw [bytesOf_ints, mk_toList, ← intsOf_append, w64 (by omega) (by omega), ← List.append_assoc]
        exact ih (i + 1) (acc ++ Lib.encodeRune (hiC c)) (by omega) (by omega) (by rw [List.length_append]; omega)
      have hsz := enc_size (hiC c)
      rw [hc, w64 (x := (c.toNat : Int)) (by omega) (by omega)]
      by_cases c1 : 128 ≤ c.toNat ∧ c.toNat < 160
      · refine Ev.pos (by omega) ?_
        rw [decide_eq_true (by omega : (c.toNat : Int) < 160)]
        refine Ev.round (fun k => by rw [muslinref04_Decode.j1]) ?_
        refine Ev.pos rfl ?_
        refine Ev.pos (by omega) ?_
        refine Ev.pos (by omega) ?_
        rw [hc]
        have hh : hiC c = highTab.getD (c.toNat - 128) 0 := by unfold hiC; rw [if_pos c1]
        refine Ev.got (high_is c.toNat c1.1 c1.2) ?_
        rw [← hh]
        refine Ev.bind (sign_is (hiC c)) ?_
        refine Ev.pos (by rw [intsOf_length]; omega) ?_
        exact next
      · have hh : hiC c = (c.toNat : Int) := by unfold hiC; rw [if_neg c1]
        have hj : Ev (fun k => muslinref04_Decode.j1 k s (intsOf acc) i (c.toNat : Int) false) ((⟨(acc ++ (Lib.encodeRune (hiC c) ++ singlesL (s.data.toList.drop (i + 1)))).toArray⟩ : ByteArray), true) := by
          refine Ev.round (fun k => by rw [muslinref04_Decode.j1]) ?_
          refine Ev.neg Bool.false_ne_true ?_
          rw [← hh]
          refine Ev.bind (sign_is (hiC c)) ?_
          refine Ev.pos (by rw [intsOf_length]; omega) ?_
          exact next
        by_cases c2 : (c.toNat : Int) ≥ 128
        · refine Ev.pos c2 ?_
          rw [decide_eq_false (by omega : ¬ (c.toNat : Int) < 160)]; exact hj
        · refine Ev.neg c2 ?_; exact hj
    · refine Ev.neg (by omega) ?_
      rw [strOf_ints, List.drop_eq_nil_of_le (by rw [sizeL]; omega)]
      simp only [singlesL, List.flatMap_nil, List.append_nil]
      exact Ev.now _
def unitsL (u : UInt8 → UInt8 → Int) : List UInt8 → List Int
  | a :: b :: r => u a b :: unitsL u r
  | _ => []
def dblU : List Int → List UInt8
  | [] => []
  | [x] => Lib.encodeRune x
  | x :: y :: r =>
    if (55296 ≤ x ∧ x < 56320) ∧ (56320 ≤ y ∧ y ≤ 57343) then Lib.encodeRune (65536 + (x - 55296) * 1024 + y - 56320) ++ dblU r
    else Lib.encodeRune x ++ dblU (y :: r)
def badIf (b : Bool) : List UInt8 := if b then [239, 191, 189] else []
def oddL (l : List UInt8) : Bool := l.length % 2 == 1
theorem odd_two (a b : UInt8) (r : List UInt8) : oddL (a :: b :: r) = oddL r := by
  simp only [oddL, List.length_cons]
  congr 1; omega
theorem dblL_U (u : UInt8 → UInt8 → Int) : ∀ (n : Nat) (l : List UInt8), l.length ≤ n → dblL u l = dblU (unitsL u l) ++ badIf (oddL l) := by
  intro n
  induction n with
  | zero => intro l h; obtain rfl : l = [] := List.eq_nil_of_length_eq_zero (by omega); rfl
  | succ n ih =>
    intro l h
    match l with
    | [] => rfl
    | [a] => simp [dblL, unitsL, dblU, oddL, badIf, enc_65533]
    | [a, b] => simp [dblL, unitsL, dblU, oddL, badIf]
    | [a, b, c] => simp [dblL, unitsL, dblU, oddL, badIf, enc_65533]
    | a :: b :: c :: d :: r =>
      rw [odd_two, odd_two]
      simp only [dblL, unitsL, dblU]
      split
      · rw [ih r (by simp at h; omega), List.append_assoc]
      · have := ih (c :: d :: r) (by simp at h ⊢; omega)
        rw [odd_two] at this
        simp only [unitsL] at this
        rw [this, List.append_assoc]
theorem unitsL_len (u : UInt8 → UInt8 → Int) : ∀ (n : Nat) (l : List UInt8), l.length ≤ n → 2 * (unitsL u l).length ≤ l.length := by
  intro n
  induction n with
  | zero => intro l h; obtain rfl : l = [] := List.eq_nil_of_length_eq_zero (by omega); simp [unitsL]
  | succ n ih =>
    intro l h
    match l with
    | [] => simp [unitsL]
    | [a] => simp [unitsL]
    | a :: b :: r => have := ih r (by simp at h; omega); simp [unitsL]; omega
theorem unitsL_range (u : UInt8 → UInt8 → Int) (hu : ∀ a b, 0 ≤ u a b ∧ u a b ≤ 65535) : ∀ (n : Nat) (l : List UInt8), l.length ≤ n → ∀ x ∈ unitsL u l, 0 ≤ x ∧ x ≤ 65535 := by
  intro n
  induction n with
  | zero => intro l h; obtain rfl : l = [] := List.eq_nil_of_length_eq_zero (by omega); simp [unitsL]
  | succ n ih =>
    intro l h
    match l with
    | [] => simp [unitsL]
    | [a] => simp [unitsL]
    | a :: b :: r =>
      intro x hx
      simp only [unitsL, List.mem_cons] at hx
      rcases hx with rfl | hx
      · exact hu a b
      · exact ih r (by simp at h; omega) x hx
theorem units_loop (s : ByteArray) (hs : s.size ≤ 17592186044415) (hi : Bool) (u : UInt8 → UInt8 → Int) (hu : u = if hi then uBE else uLE) : ∀ (n i : Nat) (us : List Int), s.size - i ≤ n → i ≤ s.size → us.length ≤ i →
    Ev (fun k => muslinref04_units.l0 k s hi us i) (us ++ unitsL u (s.data.toList.drop i), ((s.size : Int) % 2 == 1)) := by
  intro n
  induction n with
  | zero =>
    intro i us h1 h2 h3
    refine Ev.round (fun k => by rw [muslinref04_units.l0]) ?_
    rw [w64 (x := (i : Int) + 1) (by omega) (by omega)]
    refine Ev.neg (by omega) ?_
    rw [List.drop_eq_nil_of_le (by rw [sizeL]; omega)]
    simp only [unitsL, List.append_nil]
    exact Ev.now _
  | succ n ih =>
    intro i us h1 h2 h3
    refine Ev.round (fun k => by rw [muslinref04_units.l0]) ?_
    rw [w64 (x := (i : Int) + 1) (by omega) (by omega), w64 (x := (i : Int) + 2) (by omega) (by omega)]
    by_cases hp : i + 1 < s.size
    · have hl0 : i < s.data.toList.length := by rw [sizeL]; omega
      have hl1 : i + 1 < s.data.toList.length := by rw [sizeL]; omega
      have hc0 : bt s (i : Int) = (s.data.toList[i].toNat : Int) := bt_get s i hl0
      have hc1 : bt s ((i : Int) + 1) = (s.data.toList[i + 1].toNat : Int) := bt_get s (i + 1) hl1
      have hd : unitsL u (s.data.toList.drop i) = u s.data.toList[i] s.data.toList[i + 1] :: unitsL u (s.data.toList.drop (i + 2)) := by
        rw [List.drop_eq_getElem_cons hl0, List.drop_eq_getElem_cons hl1]; rfl
      rw [hd]
      have h0 : s.data.toList[i].toNat < 256 := UInt8.toNat_lt _
      have h1' : s.data.toList[i + 1].toNat < 256 := UInt8.toNat_lt _
      refine Ev.pos (by omega) ?_
      have next : Ev (fun k => muslinref04_units.l0 k s hi (us ++ [u s.data.toList[i] s.data.toList[i + 1]]) ((i : Int) + 2)) (us ++ u s.data.toList[i] s.data.toList[i + 1] :: unitsL u (s.data.toList.drop (i + 2)), ((s.size : Int) % 2 == 1)) := by
        have := ih (i + 2) (us ++ [u s.data.toList[i] s.data.toList[i + 1]]) (by omega) (by omega) (by simp; omega)
        simpa using this
      rw [hc0, hc1]
      cases hi with
      | true =>
        refine Ev.pos rfl ?_
        refine Ev.pos (by omega) ?_
        refine Ev.pos (by omega) ?_
        refine Ev.pos (by omega) ?_
        refine Ev.pos (by omega) ?_
        have e : wrap64 (wrap64 (256 * wrap64 (s.data.toList[i].toNat : Int)) + wrap64 (s.data.toList[i + 1].toNat : Int)) = u s.data.toList[i] s.data.toList[i + 1] := by
          rw [hu, if_pos rfl, w64 (x := (s.data.toList[i].toNat : Int)) (by omega) (by omega), w64 (x := 256 * (s.data.toList[i].toNat : Int)) (by omega) (by omega), w64 (x := (s.data.toList[i + 1].toNat : Int)) (by omega) (by omega), w64 (by omega) (by omega)]
          rfl
        rw [e]; exact next
      | false =>
        refine Ev.neg Bool.false_ne_true ?_
        refine Ev.pos (by omega) ?_
        refine Ev.pos (by omega) ?_
        refine Ev.pos (by omega) ?_
        refine Ev.pos (by omega) ?_
        have e : wrap64 (wrap64 (256 * wrap64 (s.data.toList[i + 1].toNat : Int)) + wrap64 (s.data.toList[i].toNat : Int)) = u s.data.toList[i] s.data.toList[i + 1] := by
          rw [hu, if_neg Bool.false_ne_true, w64 (x := (s.data.toList[i + 1].toNat : Int)) (by omega) (by omega), w64 (x := 256 * (s.data.toList[i + 1].toNat : Int)) (by omega) (by omega), w64 (x := (s.data.toList[i].toNat : Int)) (by omega) (by omega), w64 (by omega) (by omega)]
          unfold uLE; omega
        rw [e]; exact next
    · refine Ev.neg (by omega) ?_
      have : unitsL u (s.data.toList.drop i) = [] := by
        have hl : (s.data.toList.drop i).length ≤ 1 := by simp; omega
        match s.data.toList.drop i, hl with
        | [], _ => rfl
        | [a], _ => rfl
      rw [this, List.append_nil]
      exact Ev.now _
theorem rd_get (us : List Int) (i : Nat) (h : i < us.length) : rd us (i : Int) = us[i] := by
  simp [rd, List.getD_eq_getElem?_getD, List.getElem?_eq_getElem h]
theorem dblU_alone (us : List Int) (x : Int) (r : List Int) (h : x < 55296 ∨ 56320 ≤ x ∨ r = [] ∨ ∃ y r', r = y :: r' ∧ (y < 56320 ∨ 57343 < y)) : dblU (x :: r) = Lib.encodeRune x ++ dblU r := by
  cases r with
  | nil => simp [dblU]
  | cons y r' =>
    have hn : ¬ ((55296 ≤ x ∧ x < 56320) ∧ (56320 ≤ y ∧ y ≤ 57343)) := by
      rcases h with h | h | h | ⟨y', r'', h, h'⟩
      · omega
      · omega
      · cases h
      · cases h; omega
    simp only [dblU, if_neg hn]
theorem doubles_loop (us : List Int) (hus : us.length ≤ 17592186044415) (hr : ∀ x ∈ us, 0 ≤ x ∧ x ≤ 65535) (left : Bool) : ∀ (n i : Nat) (acc : List UInt8), us.length - i ≤ n → i ≤ us.length → acc.length + 4 * (us.length - i) < 140737488355328 - 8 →
    Ev (fun k => muslinref04_Decode.l1 k (intsOf acc) us left i) ((⟨(acc ++ (dblU (us.drop i) ++ badIf left)).toArray⟩ : ByteArray), true) := by
  intro n
  induction n using Nat.strongRecOn with
  | ind n ih =>
  intro i acc h1 h2 h3
  refine Ev.round (fun k => by rw [muslinref04_Decode.l1]) ?_
  by_cases hp : i < us.length
  · have hx : rd us (i : Int) = us[i] := rd_get us i hp
    have hxr := hr us[i] (List.getElem_mem hp)
    have hd : us.drop i = us[i] :: us.drop (i + 1) := List.drop_eq_getElem_cons hp
    refine Ev.pos (by omega) ?_
    refine Ev.pos (by omega) ?_
    rw [w64 (x := (i : Int) + 1) (by omega) (by omega), hx]
    have alone : (us[i] < 55296 ∨ 56320 ≤ us[i] ∨ us.drop (i + 1) = [] ∨ ∃ y r', us.drop (i + 1) = y :: r' ∧ (y < 56320 ∨ 57343 < y)) →
        Ev (fun k => muslinref04_Decode.j4 k (intsOf acc) us left i false) ((⟨(acc ++ (dblU (us.drop i) ++ badIf left)).toArray⟩ : ByteArray), true) := by
      intro ha
      refine Ev.round (fun k => by rw [muslinref04_Decode.j4]) ?_
      refine Ev.neg Bool.false_ne_true ?_
      refine Ev.pos (by omega) ?_
      refine Ev.pos (by omega) ?_
      rw [hx, w64 (x := (i : Int) + 1) (by omega) (by omega)]
      refine Ev.bind (sign_is us[i]) ?_
      have hsz := enc_size us[i]
      have hlen := enc_len us[i]
      refine Ev.pos (by rw [intsOf_length]; omega) ?_
      rw [bytesOf_ints, mk_toList, ← intsOf_append, hd, dblU_alone us _ _ ha, List.append_assoc, ← List.append_assoc acc]
      exact ih (n - 1) (by omega) (i + 1) _ (by omega) (by omega) (by rw [List.length_append]; omega)
    by_cases c1 : us[i] ≥ 55296
    · refine Ev.pos c1 ?_
      by_cases c2 : us[i] ≤ 56319
      · refine Ev.pos c2 ?_
        by_cases c3 : i + 1 < us.length
        · have hy : rd us ((i : Int) + 1) = us[i + 1] := rd_get us (i + 1) c3
          have hyr := hr us[i + 1] (List.getElem_mem c3)
          have hd2 : us.drop (i + 1) = us[i + 1] :: us.drop (i + 2) := List.drop_eq_getElem_cons c3
          refine Ev.pos (by omega) ?_
          refine Ev.pos (by omega) ?_
          rw [hy]
          by_cases c4 : us[i + 1] ≥ 56320
          · refine Ev.pos c4 ?_
            by_cases c5 : us[i + 1] ≤ 57343
            · rw [decide_eq_true c5]
              refine Ev.round (fun k => by rw [muslinref04_Decode.j4]) ?_
              refine Ev.pos rfl ?_
              rw [w64 (x := (i : Int) + 1) (by omega) (by omega), hx, hy]
              refine Ev.pos (by omega) ?_
              refine Ev.pos (by omega) ?_
              refine Ev.pos (by omega) ?_
              refine Ev.pos (by omega) ?_
              have e : wrap64 (wrap64 (wrap64 (65536 + wrap64 (1024 * wrap64 (us[i] - 55296))) + us[i + 1]) - 56320) = 65536 + (us[i] - 55296) * 1024 + us[i + 1] - 56320 := by
                rw [w64 (x := us[i] - 55296) (by omega) (by omega), w64 (x := 1024 * (us[i] - 55296)) (by omega) (by omega), w64 (x := 65536 + 1024 * (us[i] - 55296)) (by omega) (by omega), w64 (x := 65536 + 1024 * (us[i] - 55296) + us[i + 1]) (by omega) (by omega), w64 (by omega) (by omega)]
                omega
              rw [e]
              refine Ev.bind (sign_is _) ?_
              have hsz := enc_size (65536 + (us[i] - 55296) * 1024 + us[i + 1] - 56320)
              have hlen := enc_len (65536 + (us[i] - 55296) * 1024 + us[i + 1] - 56320)
              refine Ev.pos (by rw [intsOf_length]; omega) ?_
              rw [bytesOf_ints, mk_toList, ← intsOf_append, hd, hd2]
              simp only [dblU]
              rw [if_pos (by omega), List.append_assoc, ← List.append_assoc acc, w64 (by omega) (by omega)]
              exact ih (n - 2) (by omega) (i + 2) _ (by omega) (by omega) (by rw [List.length_append]; omega)
            · rw [decide_eq_false c5]
              exact alone (.inr (.inr (.inr ⟨_, _, hd2, by omega⟩)))
          · refine Ev.neg c4 ?_
            exact alone (.inr (.inr (.inr ⟨_, _, hd2, by omega⟩)))
        · refine Ev.neg (by omega) ?_
          exact alone (.inr (.inr (.inl (List.drop_eq_nil_of_le (by omega)))))
      · refine Ev.neg c2 ?_
        exact alone (.inr (.inl (by omega)))
    · refine Ev.neg c1 ?_
      exact alone (.inl (by omega))
  · refine Ev.neg (by omega) ?_
    rw [List.drop_eq_nil_of_le (by omega)]
    cases left with
    | true =>
      refine Ev.pos rfl ?_
      refine Ev.pos (by rw [intsOf_length]; omega) ?_
      have hb : intsOf acc ++ bytesOf (⟨#[239, 191, 189]⟩ : ByteArray) = intsOf (acc ++ [239, 191, 189]) := by rw [intsOf_append]; rfl
      rw [hb, strOf_ints]
      simp only [dblU, badIf, List.nil_append, if_true]
      exact Ev.now _
    | false =>
      refine Ev.neg Bool.false_ne_true ?_
      rw [strOf_ints]
      simp only [dblU, badIf, List.nil_append, List.append_nil, Bool.false_eq_true, if_false]
      exact Ev.now _
end Go.Proofs.YtokkgjiofhhlkaaDoor.Pure
namespace Go.Proofs.YtokkgjiofhhlkaaDoor.Pure
open Go.RowKit Go.Proofs.YtokkgjiofhhlkaaDoor.C Go.Proofs.YtokkgjiofhhlkaaDoorW.PrintWords Go.Proofs.YtokkgjiofhhlkaaDoorW.PrintLast
set_option linter.unusedVariables false
set_option linter.unusedSimpArgs false
def knownL (t : List UInt8) : ByteArray × Bool :=
  if t = [117, 116, 102, 45, 56] ∨ t = [117, 116, 102, 56] ∨ t = [117, 110, 105, 99, 111, 100, 101, 45, 49, 45, 49, 45, 117, 116, 102, 45, 56] then ((⟨#[117, 116, 102, 45, 56]⟩ : ByteArray), true)
  else if t = [119, 105, 110, 100, 111, 119, 115, 45, 49, 50, 53, 50] ∨ t = [99, 112, 49, 50, 53, 50] ∨ t = [117, 115, 45, 97, 115, 99, 105, 105] ∨ t = [97, 115, 99, 105, 105] ∨ t = [105, 115, 111, 45, 56, 56, 53, 57, 45, 49] ∨ t = [105, 115, 111, 56, 56, 53, 57, 45, 49] ∨ t = [108, 97, 116, 105, 110, 49] ∨ t = [108, 49] then ((⟨#[119, 105, 110, 100, 111, 119, 115, 45, 49, 50, 53, 50]⟩ : ByteArray), true)
  else if t = [117, 116, 102, 45, 49, 54, 108, 101] ∨ t = [117, 116, 102, 45, 49, 54] ∨ t = [117, 110, 105, 99, 111, 100, 101] ∨ t = [117, 99, 115, 45, 50] then ((⟨#[117, 116, 102, 45, 49, 54, 108, 101]⟩ : ByteArray), true)
  else if t = [117, 116, 102, 45, 49, 54, 98, 101] ∨ t = [117, 110, 105, 99, 111, 100, 101, 102, 102, 102, 101] then ((⟨#[117, 116, 102, 45, 49, 54, 98, 101]⟩ : ByteArray), true)
  else ((⟨#[]⟩ : ByteArray), false)
set_option maxHeartbeats 1000000 in
theorem chars_Known_tail (t : ByteArray) : Ev (fun k => if t.toList = ([117, 116, 102, 45, 56] : List UInt8) then chars_Known.j0 k t (t.toList == ([117, 116, 102, 45, 56] : List UInt8)) else if t.toList = ([117, 116, 102, 56] : List UInt8) then chars_Known.j0 k t (t.toList == ([117, 116, 102, 56] : List UInt8)) else chars_Known.j0 k t (t.toList == ([117, 110, 105, 99, 111, 100, 101, 45, 49, 45, 49, 45, 117, 116, 102, 45, 56] : List UInt8))) (knownL t.data.toList) := by
  rw [← toList_eq]
  refine Ev.of (k := 3) (fun k => ?_) ?_
  · intro r h
    have m := fun x y => (chars_Known.mono_l k).1 x y
    split at h
    · rename_i c; rw [if_pos c]; exact m _ _ _ h
    · rename_i c; rw [if_neg c]
      split at h
      · rename_i c2; rw [if_pos c2]; exact m _ _ _ h
      · rename_i c2; rw [if_neg c2]; exact m _ _ _ h
  by_cases h0 : t.toList = [117, 116, 102, 45, 56]
  · simp [chars_Known.j0, chars_Known.j1, chars_Known.j2, h0, knownL]
  by_cases h1 : t.toList = [117, 116, 102, 56]
  · simp [chars_Known.j0, chars_Known.j1, chars_Known.j2, h1, knownL]
  by_cases h2 : t.toList = [117, 110, 105, 99, 111, 100, 101, 45, 49, 45, 49, 45, 117, 116, 102, 45, 56]
  · simp [chars_Known.j0, chars_Known.j1, chars_Known.j2, h2, knownL]
  by_cases h3 : t.toList = [119, 105, 110, 100, 111, 119, 115, 45, 49, 50, 53, 50]
  · simp [chars_Known.j0, chars_Known.j1, chars_Known.j2, h3, knownL]
  by_cases h4 : t.toList = [99, 112, 49, 50, 53, 50]
  · simp [chars_Known.j0, chars_Known.j1, chars_Known.j2, h4, knownL]
  by_cases h5 : t.toList = [117, 115, 45, 97, 115, 99, 105, 105]
  · simp [chars_Known.j0, chars_Known.j1, chars_Known.j2, h5, knownL]
  by_cases h6 : t.toList = [97, 115, 99, 105, 105]
  · simp [chars_Known.j0, chars_Known.j1, chars_Known.j2, h6, knownL]
  by_cases h7 : t.toList = [105, 115, 111, 45, 56, 56, 53, 57, 45, 49]
  · simp [chars_Known.j0, chars_Known.j1, chars_Known.j2, h7, knownL]
  by_cases h8 : t.toList = [105, 115, 111, 56, 56, 53, 57, 45, 49]
  · simp [chars_Known.j0, chars_Known.j1, chars_Known.j2, h8, knownL]
  by_cases h9 : t.toList = [108, 97, 116, 105, 110, 49]
  · simp [chars_Known.j0, chars_Known.j1, chars_Known.j2, h9, knownL]
  by_cases h10 : t.toList = [108, 49]
  · simp [chars_Known.j0, chars_Known.j1, chars_Known.j2, h10, knownL]
  by_cases h11 : t.toList = [117, 116, 102, 45, 49, 54, 108, 101]
  · simp [chars_Known.j0, chars_Known.j1, chars_Known.j2, h11, knownL]
  by_cases h12 : t.toList = [117, 116, 102, 45, 49, 54]
  · simp [chars_Known.j0, chars_Known.j1, chars_Known.j2, h12, knownL]
  by_cases h13 : t.toList = [117, 110, 105, 99, 111, 100, 101]
  · simp [chars_Known.j0, chars_Known.j1, chars_Known.j2, h13, knownL]
  by_cases h14 : t.toList = [117, 99, 115, 45, 50]
  · simp [chars_Known.j0, chars_Known.j1, chars_Known.j2, h14, knownL]
  by_cases h15 : t.toList = [117, 116, 102, 45, 49, 54, 98, 101]
  · simp [chars_Known.j0, chars_Known.j1, chars_Known.j2, h15, knownL]
  by_cases h16 : t.toList = [117, 110, 105, 99, 111, 100, 101, 102, 102, 102, 101]
  · simp [chars_Known.j0, chars_Known.j1, chars_Known.j2, h16, knownL]
  simp [chars_Known.j0, chars_Known.j1, chars_Known.j2, knownL, h0, h1, h2, h3, h4, h5, h6, h7, h8, h9, h10, h11, h12, h13, h14, h15, h16]
set_option maxHeartbeats 1000000 in
theorem muslinref04_Known_tail (t : ByteArray) : Ev (fun k => if t.toList = ([117, 116, 102, 45, 56] : List UInt8) then muslinref04_Known.j0 k t (t.toList == ([117, 116, 102, 45, 56] : List UInt8)) else if t.toList = ([117, 116, 102, 56] : List UInt8) then muslinref04_Known.j0 k t (t.toList == ([117, 116, 102, 56] : List UInt8)) else muslinref04_Known.j0 k t (t.toList == ([117, 110, 105, 99, 111, 100, 101, 45, 49, 45, 49, 45, 117, 116, 102, 45, 56] : List UInt8))) (knownL t.data.toList) := by
  rw [← toList_eq]
  refine Ev.of (k := 3) (fun k => ?_) ?_
  · intro r h
    have m := fun x y => (muslinref04_Known.mono_l k).1 x y
    split at h
    · rename_i c; rw [if_pos c]; exact m _ _ _ h
    · rename_i c; rw [if_neg c]
      split at h
      · rename_i c2; rw [if_pos c2]; exact m _ _ _ h
      · rename_i c2; rw [if_neg c2]; exact m _ _ _ h
  by_cases h0 : t.toList = [117, 116, 102, 45, 56]
  · simp [muslinref04_Known.j0, muslinref04_Known.j1, muslinref04_Known.j2, h0, knownL]
  by_cases h1 : t.toList = [117, 116, 102, 56]
  · simp [muslinref04_Known.j0, muslinref04_Known.j1, muslinref04_Known.j2, h1, knownL]
  by_cases h2 : t.toList = [117, 110, 105, 99, 111, 100, 101, 45, 49, 45, 49, 45, 117, 116, 102, 45, 56]
  · simp [muslinref04_Known.j0, muslinref04_Known.j1, muslinref04_Known.j2, h2, knownL]
  by_cases h3 : t.toList = [119, 105, 110, 100, 111, 119, 115, 45, 49, 50, 53, 50]
  · simp [muslinref04_Known.j0, muslinref04_Known.j1, muslinref04_Known.j2, h3, knownL]
  by_cases h4 : t.toList = [99, 112, 49, 50, 53, 50]
  · simp [muslinref04_Known.j0, muslinref04_Known.j1, muslinref04_Known.j2, h4, knownL]
  by_cases h5 : t.toList = [117, 115, 45, 97, 115, 99, 105, 105]
  · simp [muslinref04_Known.j0, muslinref04_Known.j1, muslinref04_Known.j2, h5, knownL]
  by_cases h6 : t.toList = [97, 115, 99, 105, 105]
  · simp [muslinref04_Known.j0, muslinref04_Known.j1, muslinref04_Known.j2, h6, knownL]
  by_cases h7 : t.toList = [105, 115, 111, 45, 56, 56, 53, 57, 45, 49]
  · simp [muslinref04_Known.j0, muslinref04_Known.j1, muslinref04_Known.j2, h7, knownL]
  by_cases h8 : t.toList = [105, 115, 111, 56, 56, 53, 57, 45, 49]
  · simp [muslinref04_Known.j0, muslinref04_Known.j1, muslinref04_Known.j2, h8, knownL]
  by_cases h9 : t.toList = [108, 97, 116, 105, 110, 49]
  · simp [muslinref04_Known.j0, muslinref04_Known.j1, muslinref04_Known.j2, h9, knownL]
  by_cases h10 : t.toList = [108, 49]
  · simp [muslinref04_Known.j0, muslinref04_Known.j1, muslinref04_Known.j2, h10, knownL]
  by_cases h11 : t.toList = [117, 116, 102, 45, 49, 54, 108, 101]
  · simp [muslinref04_Known.j0, muslinref04_Known.j1, muslinref04_Known.j2, h11, knownL]
  by_cases h12 : t.toList = [117, 116, 102, 45, 49, 54]
  · simp [muslinref04_Known.j0, muslinref04_Known.j1, muslinref04_Known.j2, h12, knownL]
  by_cases h13 : t.toList = [117, 110, 105, 99, 111, 100, 101]
  · simp [muslinref04_Known.j0, muslinref04_Known.j1, muslinref04_Known.j2, h13, knownL]
  by_cases h14 : t.toList = [117, 99, 115, 45, 50]
  · simp [muslinref04_Known.j0, muslinref04_Known.j1, muslinref04_Known.j2, h14, knownL]
  by_cases h15 : t.toList = [117, 116, 102, 45, 49, 54, 98, 101]
  · simp [muslinref04_Known.j0, muslinref04_Known.j1, muslinref04_Known.j2, h15, knownL]
  by_cases h16 : t.toList = [117, 110, 105, 99, 111, 100, 101, 102, 102, 102, 101]
  · simp [muslinref04_Known.j0, muslinref04_Known.j1, muslinref04_Known.j2, h16, knownL]
  simp [muslinref04_Known.j0, muslinref04_Known.j1, muslinref04_Known.j2, knownL, h0, h1, h2, h3, h4, h5, h6, h7, h8, h9, h10, h11, h12, h13, h14, h15, h16]
def rdrop (p : UInt8 → Bool) (l : List UInt8) : List UInt8 := (l.reverse.dropWhile p).reverse
theorem rdrop_cons (p : UInt8 → Bool) (x : UInt8) (xs : List UInt8) : rdrop p (x :: xs) = if rdrop p xs = [] then (if p x then [] else [x]) else x :: rdrop p xs := by
  unfold rdrop
  rw [List.reverse_cons, List.dropWhile_append]
  by_cases h : xs.reverse.dropWhile p = []
  · simp only [h, List.isEmpty_nil, if_true, List.reverse_nil]
    by_cases hx : p x = true
    · simp [hx]
    · simp [hx]
  · have h2 : (xs.reverse.dropWhile p).isEmpty = false := by
      cases hh : xs.reverse.dropWhile p with
      | nil => exact absurd hh h
      | cons a b => rfl
    simp [h2, h]
theorem drop_rdrop (p : UInt8 → Bool) : ∀ l : List UInt8, (rdrop p l).dropWhile p = rdrop p (l.dropWhile p) := by
  intro l
  induction l with
  | nil => rfl
  | cons x xs ih =>
    rw [rdrop_cons]
    by_cases hx : p x = true
    · rw [List.dropWhile_cons_of_pos hx, ← ih]
      by_cases h : rdrop p xs = []
      · rw [if_pos h, if_pos hx, h]
      · rw [if_neg h, List.dropWhile_cons_of_pos hx]
    · rw [List.dropWhile_cons_of_neg hx, rdrop_cons]
      by_cases h : rdrop p xs = []
      · rw [if_pos h, if_neg hx, List.dropWhile_cons_of_neg hx]
      · rw [if_neg h, List.dropWhile_cons_of_neg hx]
def isSp (c : UInt8) : Bool := [32, 9, 10, 12, 13].contains c
theorem trimS_sp (l : List UInt8) : Lib.trimS l [32, 9, 10, 12, 13] = rdrop isSp (l.dropWhile isSp) := by
  rw [← drop_rdrop]; rfl
theorem space_is (c : UInt8) : muslinref04_Space.f (c.toNat : Int) = some (isSp c) := by
  have : ∀ c : Fin 256, muslinref04_Space.f (c.val : Int) = some (isSp (UInt8.ofNat c.val)) := by decide +kernel
  have h := this ⟨c.toNat, UInt8.toNat_lt c⟩
  simpa using h
theorem small_got (s : ByteArray) (h : s.size ≤ 9223372036854775807) : muslinref03_Small.f s = some (lowS s) := guard_of h
theorem clean_right : ∀ (n : Nat) (s : ByteArray), s.size ≤ n → s.size ≤ 9223372036854775000 → Ev (fun k => muslinref04_clean.l1 k s) (lowS ⟨(rdrop isSp s.data.toList).toArray⟩) := by
  intro n
  induction n with
  | zero =>
    intro s h h2
    refine Ev.round (fun k => by rw [muslinref04_clean.l1]) ?_
    refine Ev.neg (by omega) ?_
    refine Ev.got (small_got s (by omega)) ?_
    have : s.data.toList = [] := List.eq_nil_of_length_eq_zero (by rw [sizeL]; omega)
    have e : (⟨(rdrop isSp s.data.toList).toArray⟩ : ByteArray) = s := ba_ext (by rw [mk_toList, this]; rfl)
    rw [e]; exact Ev.now _
  | succ n ih =>
    intro s h h2
    refine Ev.round (fun k => by rw [muslinref04_clean.l1]) ?_
    by_cases h0 : s.size = 0
    · refine Ev.neg (by omega) ?_
      refine Ev.got (small_got s (by omega)) ?_
      have : s.data.toList = [] := List.eq_nil_of_length_eq_zero (by rw [sizeL]; omega)
      have e : (⟨(rdrop isSp s.data.toList).toArray⟩ : ByteArray) = s := ba_ext (by rw [mk_toList, this]; rfl)
      rw [e]; exact Ev.now _
    · have hl := sizeL s
      have hlast : s.size - 1 < s.data.toList.length := by omega
      rw [w64 (x := (s.size : Int) - 1) (by omega) (by omega)]
      refine Ev.pos (by omega) ?_
      refine Ev.pos (by omega) ?_
      refine Ev.pos (by omega) ?_
      have e1 : ((s.size : Int) - 1) = ((s.size - 1 : Nat) : Int) := by omega
      rw [e1, bt_get s (s.size - 1) hlast]
      refine Ev.got (space_is _) ?_
      have hsplit : s.data.toList = s.data.toList.take (s.size - 1) ++ [s.data.toList[s.size - 1]] := by
        rw [List.take_append_getElem hlast, List.take_of_length_le (by omega)]
      by_cases hc : isSp s.data.toList[s.size - 1] = true
      · refine Ev.pos hc ?_
        refine Ev.pos (by omega) ?_
        have hx : (s.extract 0 (((s.size - 1 : Nat) : Int)).toNat).data.toList = s.data.toList.take (s.size - 1) := by
          rw [extract_list, Int.toNat_natCast, List.drop_zero]
        have hr : rdrop isSp s.data.toList = rdrop isSp (s.data.toList.take (s.size - 1)) := by
          conv => lhs; rw [hsplit]
          unfold rdrop
          rw [List.reverse_append, List.reverse_singleton, List.singleton_append, List.dropWhile_cons_of_pos hc]
        have := ih (s.extract 0 (((s.size - 1 : Nat) : Int)).toNat) (by rw [← sizeL, hx, List.length_take]; omega) (by rw [← sizeL, hx, List.length_take]; omega)
        rw [hx, ← hr] at this
        exact this
      · refine Ev.neg hc ?_
        refine Ev.got (small_got s (by omega)) ?_
        have hr : rdrop isSp s.data.toList = s.data.toList := by
          conv => lhs; rw [hsplit]
          unfold rdrop
          rw [List.reverse_append, List.reverse_singleton, List.singleton_append, List.dropWhile_cons_of_neg hc]
          conv => rhs; rw [hsplit]
          simp
        have e : (⟨(rdrop isSp s.data.toList).toArray⟩ : ByteArray) = s := ba_ext (by rw [mk_toList, hr])
        rw [e]; exact Ev.now _
theorem clean_left : ∀ (n : Nat) (s : ByteArray), s.size ≤ n → s.size ≤ 9223372036854775000 → Ev (fun k => muslinref04_clean.l0 k s) (lowS ⟨(rdrop isSp (s.data.toList.dropWhile isSp)).toArray⟩) := by
  intro n
  induction n with
  | zero =>
    intro s h h2
    refine Ev.round (fun k => by rw [muslinref04_clean.l0]) ?_
    refine Ev.neg (by omega) ?_
    refine Ev.round (fun k => by rw [muslinref04_clean.j1]) ?_
    have : s.data.toList = [] := List.eq_nil_of_length_eq_zero (by rw [sizeL]; omega)
    have h3 := clean_right 0 s (by omega) (by omega)
    rw [this] at h3 ⊢
    exact h3
  | succ n ih =>
    intro s h h2
    refine Ev.round (fun k => by rw [muslinref04_clean.l0]) ?_
    by_cases h0 : s.size = 0
    · refine Ev.neg (by omega) ?_
      refine Ev.round (fun k => by rw [muslinref04_clean.j1]) ?_
      have : s.data.toList = [] := List.eq_nil_of_length_eq_zero (by rw [sizeL]; omega)
      have h3 := clean_right 0 s (by omega) (by omega)
      rw [this] at h3 ⊢
      exact h3
    · have hl := sizeL s
      have hfirst : 0 < s.data.toList.length := by omega
      refine Ev.pos (by omega) ?_
      refine Ev.pos (by omega) ?_
      rw [show bt s 0 = _ from bt_get s 0 hfirst]
      refine Ev.got (space_is _) ?_
      have hsplit : s.data.toList = s.data.toList[0] :: s.data.toList.drop 1 := by
        rw [← List.drop_eq_getElem_cons hfirst, List.drop_zero]
      by_cases hc : isSp s.data.toList[0] = true
      · refine Ev.pos hc ?_
        refine Ev.pos (by omega) ?_
        have hx : (s.extract 1 s.size).data.toList = s.data.toList.drop 1 := by
          rw [extract_list, List.take_of_length_le (by omega)]
        have hr : s.data.toList.dropWhile isSp = (s.data.toList.drop 1).dropWhile isSp := by
          conv => lhs; rw [hsplit]
          rw [List.dropWhile_cons_of_pos hc]
        have := ih (s.extract 1 s.size) (by rw [← sizeL, hx, List.length_drop]; omega) (by rw [← sizeL, hx, List.length_drop]; omega)
        rw [hx, ← hr] at this
        exact this
      · refine Ev.neg hc ?_
        refine Ev.round (fun k => by rw [muslinref04_clean.j1]) ?_
        have hr : s.data.toList.dropWhile isSp = s.data.toList := by
          conv => lhs; rw [hsplit]
          rw [List.dropWhile_cons_of_neg hc, ← hsplit]
        rw [hr]
        exact clean_right s.size s (by omega) h2
def labelL (a : ByteArray) : List UInt8 := (rdrop isSp (a.data.toList.dropWhile isSp)).map lowC
theorem trim_got (a : ByteArray) (h : a.size ≤ 9223372036854775000) : strings_Trim.f a (⟨#[32, 9, 10, 12, 13]⟩ : ByteArray) = some ⟨(rdrop isSp (a.data.toList.dropWhile isSp)).toArray⟩ := by
  unfold strings_Trim.f
  rw [if_pos ⟨by omega, by decide, by decide⟩]
  rw [show (⟨#[32, 9, 10, 12, 13]⟩ : ByteArray).data.toList = [32, 9, 10, 12, 13] from rfl, trimS_sp]
theorem rdrop_len (p : UInt8 → Bool) (l : List UInt8) : (rdrop p l).length ≤ l.length := by
  unfold rdrop
  rw [List.length_reverse]
  have := (List.dropWhile_sublist (p := p) (l := l.reverse)).length_le
  simpa using this
theorem known_is (a : ByteArray) (h : a.size ≤ 5000) : Ev (fun k => chars_Known.f k a) (knownL (labelL a)) := by
  unfold chars_Known.f
  refine Ev.got (trim_got a (by omega)) ?_
  have h1 := rdrop_len isSp (a.data.toList.dropWhile isSp)
  have h2 := (List.dropWhile_sublist (p := isSp) (l := a.data.toList)).length_le
  rw [sizeL] at h2
  refine Ev.got (x := chars_small.f _) (guard_of (by rw [mk_size]; omega)) ?_
  exact chars_Known_tail _
theorem refKnown_is (a : ByteArray) (h : a.size ≤ 5000) : Ev (fun k => muslinref04_Known.f k a) (knownL (labelL a)) := by
  unfold muslinref04_Known.f muslinref04_clean.f
  refine Ev.bind (clean_left a.size a (by omega) (by omega)) ?_
  exact muslinref04_Known_tail _
end Go.Proofs.YtokkgjiofhhlkaaDoor.Pure
namespace Go.Proofs.YtokkgjiofhhlkaaDoor.Pure
open Go.RowKit Go.Proofs.YtokkgjiofhhlkaaDoor.C Go.Proofs.YtokkgjiofhhlkaaDoorW.PrintWords Go.Proofs.YtokkgjiofhhlkaaDoorW.PrintLast
set_option linter.unusedVariables false
set_option linter.unusedSimpArgs false
def nUtf : ByteArray := ⟨#[117, 116, 102, 45, 56]⟩
def nLat : ByteArray := ⟨#[119, 105, 110, 100, 111, 119, 115, 45, 49, 50, 53, 50]⟩
def nLe : ByteArray := ⟨#[117, 116, 102, 45, 49, 54, 108, 101]⟩
def nBe : ByteArray := ⟨#[117, 116, 102, 45, 49, 54, 98, 101]⟩
def nNone : ByteArray := ⟨#[]⟩
theorem known_cases (t : List UInt8) : knownL t = (nUtf, true) ∨ knownL t = (nLat, true) ∨ knownL t = (nLe, true) ∨ knownL t = (nBe, true) ∨ knownL t = (nNone, false) := by
  unfold knownL
  split
  · exact .inl rfl
  · split
    · exact .inr (.inl rfl)
    · split
      · exact .inr (.inr (.inl rfl))
      · split
        · exact .inr (.inr (.inr (.inl rfl)))
        · exact .inr (.inr (.inr (.inr rfl)))
def decL (n : ByteArray) (l : List UInt8) : List UInt8 :=
  if n.data.toList = nLat.data.toList then singlesL l else if n.data.toList = nLe.data.toList then dblL uLE l else if n.data.toList = nBe.data.toList then dblL uBE l else vl l
theorem nameEq {n : ByteArray} {l : List UInt8} (h : n.data.toList = l) : n.toList = l := by rw [toList_eq]; exact h
theorem nameNe {n : ByteArray} {l : List UInt8} (h : n.data.toList ≠ l) : ¬ n.toList = l := by rw [toList_eq]; exact h
theorem decode_is (a s : ByteArray) (ha : a.size ≤ 5000) (hs : s.size ≤ 11000000) : Ev (fun k => chars_Decode.f k a s) ((⟨(decL (knownL (labelL a)).1 s.data.toList).toArray⟩ : ByteArray), (knownL (labelL a)).2) := by
  unfold chars_Decode.f
  refine Ev.bind (known_is a ha) ?_
  have h5 : s.size ≤ 35184372088832 := by omega
  have hv : Ev (fun _ => (chars_Valid.f s).bind fun t => some (t, (knownL (labelL a)).2)) ((⟨(vl s.data.toList).toArray⟩ : ByteArray), (knownL (labelL a)).2) := by
    refine Ev.got (x := chars_Valid.f s) (guard_of h5) ?_
    rw [validS_eq]; exact Ev.now _
  rcases known_cases (labelL a) with h | h | h | h | h
  · rw [h] at hv ⊢
    refine Ev.neg (nameNe (by decide)) ?_
    refine Ev.neg (nameNe (by decide)) ?_
    refine Ev.neg (nameNe (by decide)) ?_
    exact hv
  · rw [h]
    refine Ev.pos (nameEq (by decide)) ?_
    refine Ev.got (x := chars_singles.f s) (guard_of h5) ?_
    exact Ev.now _
  · rw [h]
    refine Ev.neg (nameNe (by decide)) ?_
    refine Ev.pos (nameEq (by decide)) ?_
    refine Ev.got (x := chars_doubles.f s 0 8) (guard_of ⟨h5, .inl ⟨rfl, rfl⟩⟩) ?_
    exact Ev.now _
  · rw [h]
    refine Ev.neg (nameNe (by decide)) ?_
    refine Ev.neg (nameNe (by decide)) ?_
    refine Ev.pos (nameEq (by decide)) ?_
    refine Ev.got (x := chars_doubles.f s 8 0) (guard_of ⟨h5, .inr ⟨rfl, rfl⟩⟩) ?_
    exact Ev.now _
  · rw [h] at hv ⊢
    refine Ev.neg (nameNe (by decide)) ?_
    refine Ev.neg (nameNe (by decide)) ?_
    refine Ev.neg (nameNe (by decide)) ?_
    exact hv
theorem odd_size (s : ByteArray) : ((s.size : Int) % 2 == 1) = oddL s.data.toList := by
  unfold oddL
  rw [sizeL]
  by_cases h : s.size % 2 = 1
  · rw [h]; simp; omega
  · have : s.size % 2 = 0 := by omega
    rw [this]; simp; omega
theorem refDoubles (s : ByteArray) (hs : s.size ≤ 5000) (hi : Bool) (u : UInt8 → UInt8 → Int) (hu : u = if hi then uBE else uLE) (hr : ∀ a b, 0 ≤ u a b ∧ u a b ≤ 65535) :
    Ev (fun k => (muslinref04_units.f k s hi).bind fun bt => muslinref04_Decode.l1 k [] bt.1 bt.2 0) ((⟨(dblL u s.data.toList).toArray⟩ : ByteArray), true) := by
  have h1 := units_loop s (by omega) hi u hu s.size 0 [] (by omega) (by omega) (by simp)
  simp only [List.drop_zero, List.nil_append] at h1
  refine Ev.bind h1 ?_
  have hl := unitsL_len u _ s.data.toList (Nat.le_refl _)
  rw [sizeL] at hl
  have h2 := doubles_loop (unitsL u s.data.toList) (by omega) (unitsL_range u hr _ _ (Nat.le_refl _)) ((s.size : Int) % 2 == 1) (unitsL u s.data.toList).length 0 [] (by omega) (by omega) (by simp; omega)
  rw [odd_size] at h2 ⊢
  simp only [List.drop_zero, List.nil_append] at h2
  rw [dblL_U u _ s.data.toList (Nat.le_refl _)]
  exact h2
theorem refDecode_is (a s : ByteArray) (ha : a.size ≤ 5000) (hs : s.size ≤ 5000) : Ev (fun k => muslinref04_Decode.f k a s) ((⟨(decL (knownL (labelL a)).1 s.data.toList).toArray⟩ : ByteArray), (knownL (labelL a)).2) := by
  unfold muslinref04_Decode.f
  refine Ev.bind (refKnown_is a ha) ?_
  have hv : ∀ n b, Ev (fun k => muslinref04_Decode.j2 k s n b [] false) ((⟨(vl s.data.toList).toArray⟩ : ByteArray), b) := by
    intro n b
    refine Ev.round (fun k => by rw [muslinref04_Decode.j2]) ?_
    refine Ev.neg Bool.false_ne_true ?_
    refine Ev.bind (refValid_is s (by omega)) ?_
    rw [validS_eq]; exact Ev.now _
  rcases known_cases (labelL a) with h | h | h | h | h
  · rw [h]
    refine Ev.neg (nameNe (by decide)) ?_
    refine Ev.neg (nameNe (by decide)) ?_
    rw [show ((nUtf, true).1.toList == ([117, 116, 102, 45, 49, 54, 98, 101] : List UInt8)) = false from by rw [toList_eq]; decide]
    exact hv _ _
  · rw [h]
    refine Ev.pos (nameEq (by decide)) ?_
    have := singles_loop s (by omega) s.size 0 [] (by omega) (by omega) (by simp; omega)
    simp only [List.drop_zero, List.nil_append] at this
    exact this
  · rw [h]
    refine Ev.neg (nameNe (by decide)) ?_
    refine Ev.pos (nameEq (by decide)) ?_
    refine Ev.round (fun k => by rw [muslinref04_Decode.j2]) ?_
    refine Ev.pos (by rw [toList_eq]; decide) ?_
    rw [show ((nLe, true).1.toList == ([117, 116, 102, 45, 49, 54, 98, 101] : List UInt8)) = false from by rw [toList_eq]; decide]
    exact refDoubles s hs false uLE rfl uLE_range
  · rw [h]
    refine Ev.neg (nameNe (by decide)) ?_
    refine Ev.neg (nameNe (by decide)) ?_
    refine Ev.round (fun k => by rw [muslinref04_Decode.j2]) ?_
    refine Ev.pos (by rw [toList_eq]; decide) ?_
    rw [show ((nBe, true).1.toList == ([117, 116, 102, 45, 49, 54, 98, 101] : List UInt8)) = true from by rw [toList_eq]; decide]
    exact refDoubles s hs true uBE rfl uBE_range
  · rw [h]
    refine Ev.neg (nameNe (by decide)) ?_
    refine Ev.neg (nameNe (by decide)) ?_
    rw [show ((nNone, false).1.toList == ([117, 116, 102, 45, 49, 54, 98, 101] : List UInt8)) = false from by rw [toList_eq]; decide]
    exact hv _ _
theorem enc_len3 (r : Int) (h : r ≤ 65535) : (Lib.encodeRune r).length ≤ 3 := by
  simp only [Lib.encodeRune, List.length_map, Lib.encodeRuneZ]
  split
  · simp
  · split
    · simp
    · split
      · simp
      · split
        · omega
        · simp
theorem singles_len (l : List UInt8) : (singlesL l).length ≤ 3 * l.length := by
  induction l with
  | nil => simp [singlesL]
  | cons c r ih =>
    have h := enc_len3 (hiC c) (hiC_range c).2
    have e : singlesL (c :: r) = Lib.encodeRune (hiC c) ++ singlesL r := by simp [singlesL]
    rw [e, List.length_append, List.length_cons]; omega
theorem dblL_len (u : UInt8 → UInt8 → Int) (hu : ∀ a b, u a b ≤ 65535) : ∀ (n : Nat) (l : List UInt8), l.length ≤ n → (dblL u l).length ≤ 3 * l.length := by
  intro n
  induction n with
  | zero => intro l h; obtain rfl : l = [] := List.eq_nil_of_length_eq_zero (by omega); simp [dblL]
  | succ n ih =>
    intro l h
    match l with
    | [] => simp [dblL]
    | [a] => simp only [dblL]; exact enc_len3 _ (by omega)
    | [a, b] => simp only [dblL]; have := enc_len3 _ (hu a b); simp; omega
    | [a, b, c] => simp only [dblL]; have := enc_len3 _ (hu a b); have := enc_len3 65533 (by omega); simp; omega
    | a :: b :: c :: d :: r =>
      simp only [dblL]
      split
      · have := ih r (by simp at h; omega)
        have := (enc_len (65536 + (u a b - 55296) * 1024 + u c d - 56320)).2
        rw [List.length_append]; simp only [List.length_cons]; omega
      · have := ih (c :: d :: r) (by simp at h ⊢; omega)
        have := enc_len3 _ (hu a b)
        rw [List.length_append]; simp only [List.length_cons] at *; omega
theorem decL_len (n : ByteArray) (l : List UInt8) : (decL n l).length ≤ 3 * l.length := by
  unfold decL
  split
  · exact singles_len _
  · split
    · exact dblL_len _ (fun a b => (uLE_range a b).2) _ _ (Nat.le_refl _)
    · split
      · exact dblL_len _ (fun a b => (uBE_range a b).2) _ _ (Nat.le_refl _)
      · exact valL_len _ _
end Go.Proofs.YtokkgjiofhhlkaaDoor.Pure
namespace Go.Proofs.YtokkgjiofhhlkaaDoor.Alph
open Go.RowKit Go.Lib Go.Proofs.YtokkgjiofhhlkaaDoor Go.Proofs.YtokkgjiofhhlkaaDoor.C Go.Proofs.YtokkgjiofhhlkaaDoor.Pure
set_option linter.unusedVariables false
theorem known_c (a : ByteArray) (ha : a.size ≤ 5000) (w : World) : Calls Tryd.prog 22 #[.string a] w fun e w' => e = .returned (.tuple #[.string (knownL (labelL a)).1, .bool (knownL (labelL a)).2]) ∧ Below w.heap.size w w' := by
  obtain ⟨r, h⟩ := known_is a ha
  exact chars_Known.calls r a _ _ w (h r (Nat.le_refl _))
theorem refKnown_c (a : ByteArray) (ha : a.size ≤ 5000) (w : World) : Calls Tryd.prog 27 #[.string a] w fun e w' => e = .returned (.tuple #[.string (knownL (labelL a)).1, .bool (knownL (labelL a)).2]) ∧ Below w.heap.size w w' := by
  obtain ⟨r, h⟩ := refKnown_is a ha
  exact muslinref04_Known.calls r a _ _ w (h r (Nat.le_refl _))
theorem decode_c (a s : ByteArray) (ha : a.size ≤ 5000) (hs : s.size ≤ 11000000) (w : World) (hGl : Glob w) : Calls Tryd.prog 25 #[.string a, .string s] w fun e w' => e = .returned (.tuple #[.string ⟨(decL (knownL (labelL a)).1 s.data.toList).toArray⟩, .bool (knownL (labelL a)).2]) ∧ Below w.heap.size w w' := by
  obtain ⟨r, h⟩ := decode_is a s ha hs
  exact chars_Decode.calls r a s _ _ w hGl (h r (Nat.le_refl _))
theorem refDecode_c (a s : ByteArray) (ha : a.size ≤ 5000) (hs : s.size ≤ 5000) (w : World) : Calls Tryd.prog 30 #[.string a, .string s] w fun e w' => e = .returned (.tuple #[.string ⟨(decL (knownL (labelL a)).1 s.data.toList).toArray⟩, .bool (knownL (labelL a)).2]) ∧ Below w.heap.size w w' := by
  obtain ⟨r, h⟩ := refDecode_is a s ha hs
  exact muslinref04_Decode.calls r a s _ _ w (h r (Nat.le_refl _))
theorem refValid_c (s : ByteArray) (hs : s.size ≤ 35184372088832) (w : World) : Calls Tryd.prog 18 #[.string s] w fun e w' => e = .returned (.string (validS s)) ∧ Below w.heap.size w w' := by
  obtain ⟨r, h⟩ := refValid_is s hs
  exact muslinref04_Valid.calls r s _ w (h r (Nat.le_refl _))
end Go.Proofs.YtokkgjiofhhlkaaDoor.Alph
namespace Go.Proofs.YtokkgjiofhhlkaaDoor
open Go.RowKit Go.Lib Go.Proofs.YtokkgjiofhhlkaaDoor.Pure
set_option linter.unusedVariables false
def chars_Known.f (a : ByteArray) : Option (ByteArray × Bool) := if a.size ≤ 5000 then some (knownL (labelL a)) else none
theorem chars_Known.calls (a r1 : ByteArray) (r2 : Bool) (w : World) (h : chars_Known.f a = some (r1, r2)) :
    Calls Tryd.prog 22 #[.string a] w fun e w' => e = .returned (.tuple #[.string r1, .bool r2]) ∧ Below w.heap.size w w' := by
  obtain ⟨h1, h2⟩ := of_guard h
  have := Alph.known_c a h1 w
  rw [h2] at this; exact this
def muslinref04_Known.f (a : ByteArray) : Option (ByteArray × Bool) := if a.size ≤ 5000 then some (knownL (labelL a)) else none
theorem muslinref04_Known.calls (a r1 : ByteArray) (r2 : Bool) (w : World) (h : muslinref04_Known.f a = some (r1, r2)) :
    Calls Tryd.prog 27 #[.string a] w fun e w' => e = .returned (.tuple #[.string r1, .bool r2]) ∧ Below w.heap.size w w' := by
  obtain ⟨h1, h2⟩ := of_guard h
  have := Alph.refKnown_c a h1 w
  rw [h2] at this; exact this
def chars_Decode.f (a s : ByteArray) : Option (ByteArray × Bool) := if a.size ≤ 5000 ∧ s.size ≤ 11000000 then some (⟨(decL (knownL (labelL a)).1 s.data.toList).toArray⟩, (knownL (labelL a)).2) else none
theorem chars_Decode.calls (a s r1 : ByteArray) (r2 : Bool) (w : World) (hGl : Glob w) (h : chars_Decode.f a s = some (r1, r2)) :
    Calls Tryd.prog 25 #[.string a, .string s] w fun e w' => e = .returned (.tuple #[.string r1, .bool r2]) ∧ Below w.heap.size w w' := by
  obtain ⟨⟨h1, h2⟩, h3⟩ := of_guard h
  injection h3 with h4 h5
  subst h4 h5
  exact Alph.decode_c a s h1 h2 w hGl
def muslinref04_Decode.f (a s : ByteArray) : Option (ByteArray × Bool) := if a.size ≤ 5000 ∧ s.size ≤ 5000 then some (⟨(decL (knownL (labelL a)).1 s.data.toList).toArray⟩, (knownL (labelL a)).2) else none
theorem muslinref04_Decode.calls (a s r1 : ByteArray) (r2 : Bool) (w : World) (h : muslinref04_Decode.f a s = some (r1, r2)) :
    Calls Tryd.prog 30 #[.string a, .string s] w fun e w' => e = .returned (.tuple #[.string r1, .bool r2]) ∧ Below w.heap.size w w' := by
  obtain ⟨⟨h1, h2⟩, h3⟩ := of_guard h
  injection h3 with h4 h5
  subst h4 h5
  exact Alph.refDecode_c a s h1 h2 w
def muslinref04_Valid.f (s : ByteArray) : Option ByteArray := if s.size ≤ 35184372088832 then some ⟨(vl s.data.toList).toArray⟩ else none
theorem muslinref04_Valid.calls (s r : ByteArray) (w : World) (h : muslinref04_Valid.f s = some r) :
    Calls Tryd.prog 18 #[.string s] w fun e w' => e = .returned (.string r) ∧ Below w.heap.size w w' := by
  obtain ⟨h1, h2⟩ := of_guard h
  have := Alph.refValid_c s h1 w
  rw [validS_eq, h2] at this; exact this
def muslinref04_Whole.f (s : ByteArray) (a : Int) : Option Int := if 0 ≤ a ∧ a < (s.size : Int) ∧ s.size ≤ 35184372088832 then some (wholeL (s.data.toList.drop a.toNat) : Int) else none
theorem muslinref04_Whole.calls (s : ByteArray) (a r : Int) (w : World) (h : muslinref04_Whole.f s a = some r) :
    Calls Tryd.prog 42 #[.string s, .int .i64 a] w fun e w' => e = .returned (.int .i64 r) ∧ Below w.heap.size w w' := by
  obtain ⟨⟨h0, h1, h2⟩, rfl⟩ := of_guard h
  obtain ⟨n, rfl⟩ : ∃ n : Nat, a = (n : Int) := ⟨a.toNat, by omega⟩
  obtain ⟨r, h⟩ := whole_is s (by omega) n (by omega)
  exact (C.muslinref04_Whole.calls r s (n : Int) _ w (h r (Nat.le_refl _))).mono (by rintro e w' ⟨rfl, n, rfl⟩; exact ⟨rfl, bdrewN (Below.refl _ _) n⟩)
end Go.Proofs.YtokkgjiofhhlkaaDoor
