/- Two hexadecimal digits, read by large letters: plain Lean. -/
import Derived.Test.YtjmeoplajfmieaaDoorQp
import Derived.Test.YtjmeoplajfmieaaDoorUtf
import Derived.Test.YtjmeoplajfmieaaDoorEv
import Derived.Shelf.Strings.CaseAny
namespace Go.Proofs.YtjmeoplajfmieaaDoor
open Go.RowKit Go.Lib
set_option linter.unusedVariables false
set_option linter.unusedSimpArgs false
set_option maxRecDepth 100000

/-- The number of a hexadecimal digit. -/
def hexV (c : UInt8) : Option Nat := if 48 ≤ c.toNat ∧ c.toNat ≤ 57 then some (c.toNat - 48) else if 65 ≤ c.toNat ∧ c.toNat ≤ 70 then some (c.toNat - 55) else if 97 ≤ c.toNat ∧ c.toNat ≤ 102 then some (c.toNat - 87) else none
theorem hexV_lt {c : UInt8} {x : Nat} (h : hexV c = some x) : x < 16 := by
  unfold hexV at h
  repeat' split at h
  all_goals first | (injection h with h; omega) | cases h
theorem hexV_high {c : UInt8} (h : 128 ≤ c.toNat) : hexV c = none := by
  unfold hexV
  rw [if_neg (by omega), if_neg (by omega), if_neg (by omega)]
theorem idx_up : ∀ i : Fin 128, idxR (upperB (UInt8.ofNat i.val)).toNat = (match hexV (UInt8.ofNat i.val) with | some v => (v : Int) | none => -1) := by decide
theorem up_low : ∀ i : Fin 128, (upperB (UInt8.ofNat i.val)).toNat < 128 := by decide
theorem idx_no : ∀ i : Fin 128, ¬ (48 ≤ i.val ∧ i.val ≤ 57 ∨ 65 ≤ i.val ∧ i.val ≤ 70) → idxR i.val = -1 := by decide
theorem idx_high (r : Nat) (h : 128 ≤ r) : idxR r = -1 := by unfold idxR; rw [if_neg (by omega)]
theorem idx_upc (c : UInt8) (h : c.toNat < 128) : idxR (upperB c).toNat = (match hexV c with | some v => (v : Int) | none => -1) := by
  have := idx_up ⟨c.toNat, h⟩
  simpa using this
theorem up_lowc (c : UInt8) (h : c.toNat < 128) : (upperB c).toNat < 128 := by
  have := up_low ⟨c.toNat, h⟩
  simpa using this
def upOk (i : Nat) : Bool := decide (128 ≤ toUpperU ((i : Int) + 128)) || !(decide (48 ≤ toUpperU ((i : Int) + 128) ∧ toUpperU ((i : Int) + 128) ≤ 57 ∨ 65 ≤ toUpperU ((i : Int) + 128) ∧ toUpperU ((i : Int) + 128) ≤ 70))
theorem up_all : (List.range 1920).all upOk = true := by kernel_rfl
theorem up_bad : toUpperU 65533 = 65533 := by kernel_rfl
/-- No sign beyond ASCII has a large one that is a digit. -/
theorem idx_runeOf (r : Nat) (h : r = 65533 ∨ (128 ≤ r ∧ r ≤ 2047)) : idxR (runeOf (toUpperU (r : Int))) = -1 := by
  rcases h with rfl | ⟨h1, h2⟩
  · show idxR (runeOf (toUpperU 65533)) = -1
    rw [up_bad]; decide
  · have h0 := toUpperU_range r (by omega)
    have ha := List.all_eq_true.1 up_all (r - 128) (by simp; omega)
    have e : (((r - 128 : Nat) : Int) + 128) = (r : Int) := by omega
    unfold upOk at ha
    rw [e] at ha
    generalize toUpperU (r : Int) = y at *
    by_cases hy : y < 128
    · have hb : ¬ (48 ≤ y ∧ y ≤ 57 ∨ 65 ≤ y ∧ y ≤ 70) := by
        have h128 : ¬ 128 ≤ y := by omega
        simp [h128] at ha
        omega
      have hv : Utf8.valid y = true := by rw [valid_iff]; omega
      unfold runeOf
      rw [if_pos hv]
      exact idx_no ⟨y.toNat, by omega⟩ (by simp only; omega)
    · apply idx_high
      unfold runeOf
      split <;> omega
theorem hexGo_step (t : ByteArray) (f pos : Nat) (n : Int) (r w : Nat) (rest : List UInt8) (h : pos < t.size) (hd : uDec (t.data.toList.drop pos) = (r, w)) :
    hexGo t (f + 1) pos n = if idxR r < 0 then (0, false) else hexGo t f (pos + w) (bits .or .i64 (wrap64 (n * 16)) (idxR r)) := by
  simp only [hexGo, if_pos h]
  rw [decode_list, hd]
theorem uDec_low (c : UInt8) (l : List UInt8) (h : c.toNat < 128) : uDec (c :: l) = (c.toNat, 1) := by
  have : byteAt (c :: l) 0 = c.toNat := rfl
  unfold uDec
  rw [if_pos (by rw [this]; exact h), this]
theorem uDec_two (a b : UInt8) (h : 128 ≤ a.toNat) : (uDec [a, b]).1 = 65533 ∨ (128 ≤ (uDec [a, b]).1 ∧ (uDec [a, b]).1 ≤ 2047) := by
  have h0 : byteAt [a, b] 0 = a.toNat := rfl
  have hc2 : contAt [a, b] 2 = false := rfl
  unfold uDec
  simp only [h0, hc2, Bool.and_false, Bool.false_and, if_neg (show ¬ a.toNat < 128 by omega)]
  split
  · split
    · right; simp only; omega
    · left; rfl
  · left; rfl
theorem uDec_one (b : UInt8) (h : 128 ≤ b.toNat) : (uDec [b]) = (65533, 1) := by
  have h0 : byteAt [b] 0 = b.toNat := rfl
  have hc1 : contAt [b] 1 = false := rfl
  unfold uDec
  simp only [h0, hc1, Bool.and_false, Bool.false_and, if_neg (show ¬ b.toNat < 128 by omega)]
  rfl
theorem decodeL_u (l : List UInt8) : decodeL l = uDec l := by
  unfold decodeL
  rw [decode_list]
  rfl
theorem or_hex : ∀ x y : Fin 16, bits .or .i64 (wrap64 ((bits .or .i64 (wrap64 ((0 : Int) * 16)) (x.val : Int)) * 16)) (y.val : Int) = 16 * (x.val : Int) + (y.val : Int) := by decide +kernel
theorem hex_head (t : ByteArray) (n : Int) (r : Nat) (rest : List UInt8) (h : t.data.toList = Lib.encodeRune (toUpperU (r : Int)) ++ rest) (hr : r = 65533 ∨ (128 ≤ r ∧ r ≤ 2047)) : hexGo t t.size 0 n = (0, false) := by
  have hl := congrArg List.length h
  have := (enc_len (toUpperU (r : Int))).1
  simp only [List.length_append] at hl
  have hs : t.size = t.data.toList.length := by simp
  obtain ⟨f, hf⟩ : ∃ f, t.size = f + 1 := ⟨t.size - 1, by omega⟩
  rw [hf, hexGo_step t f 0 n (runeOf (toUpperU (r : Int))) (Lib.encodeRune (toUpperU (r : Int))).length rest (by omega) (by rw [List.drop_zero, h, dec_enc]), idx_runeOf r hr]
  rfl
theorem mapD_cons (f : Int → Int) (n : Nat) (l : List UInt8) (hl : l ≠ []) : mapGoD f (n + 1) l = (if 0 ≤ f (uDec l).1 then Lib.encodeRune (f (uDec l).1) else []) ++ mapGoD f n (l.drop (uDec l).2) := by
  simp only [mapGoD, if_neg hl, decodeL_u]
theorem upper_high (a b : UInt8) (ha : 128 ≤ a.toNat) : ∃ rest, (upperS ⟨#[a, b]⟩).data.toList = Lib.encodeRune (toUpperU ((uDec [a, b]).1 : Int)) ++ rest := by
  refine ⟨mapGoD toUpperU 1 ([a, b].drop (uDec [a, b]).2), ?_⟩
  show mapGoD toUpperU 2 [a, b] = _
  rw [mapD_cons _ _ _ (by simp), if_pos (toUpperU_range _ (by rcases uDec_two a b ha with h | h <;> omega)).1]
theorem upper_mixed (a b : UInt8) (ha : a.toNat < 128) (hb : 128 ≤ b.toNat) : (upperS ⟨#[a, b]⟩).data.toList = [upperB a, 239, 191, 189] := by
  show mapGoD toUpperU 2 [a, b] = _
  have h1 := upper_byte ⟨a.toNat, ha⟩
  have e2 : (UInt8.ofNat a.toNat) = a := by simp
  simp only [e2] at h1
  rw [mapD_cons _ _ _ (by simp), uDec_low a [b] ha, if_pos (toUpperU_range a.toNat (by omega)).1, h1]
  show [upperB a] ++ mapGoD toUpperU 1 [b] = _
  rw [mapD_cons _ _ _ (by simp), uDec_one b hb]
  show [upperB a] ++ ((if 0 ≤ toUpperU 65533 then Lib.encodeRune (toUpperU 65533) else []) ++ []) = _
  rw [up_bad, enc_65533]
  rfl
theorem upper_ascii (a b : UInt8) (ha : a.toNat < 128) (hb : b.toNat < 128) : (upperS ⟨#[a, b]⟩).data.toList = [upperB a, upperB b] := by
  show toUpperD [a, b] = _
  rw [toUpperD_ascii _ (by intro c hc; simp at hc; rcases hc with rfl | rfl <;> assumption)]
  rfl
theorem hex_two (a b : UInt8) : qp_hex.f ⟨#[a, b]⟩ = (match hexV a, hexV b with | some x, some y => some (16 * (x : Int) + (y : Int), true) | _, _ => some (0, false)) := by
  unfold qp_hex.f
  rw [if_pos (by show 2 ≤ 1000; omega)]
  by_cases ha : a.toNat < 128
  · by_cases hb : b.toNat < 128
    · have ht := upper_ascii a b ha hb
      generalize upperS ⟨#[a, b]⟩ = t at *
      have hs : t.size = 2 := by
        have := congrArg List.length ht
        simpa using this
      have ia := idx_upc a ha
      have ib := idx_upc b hb
      rw [hs, hexGo_step t 1 0 0 _ _ [] (by omega) (by rw [List.drop_zero, ht, uDec_low _ _ (up_lowc a ha)]), ia]
      cases hva : hexV a with
      | none => rfl
      | some x =>
        have hx := hexV_lt hva
        simp only
        rw [if_neg (by omega), hexGo_step t 0 1 _ (upperB b).toNat 1 [] (by omega) (by rw [ht]; show uDec [upperB b] = _; rw [uDec_low _ _ (up_lowc b hb)]), ib]
        cases hvb : hexV b with
        | none => rfl
        | some y =>
          have hy := hexV_lt hvb
          simp only
          rw [if_neg (by omega), or_hex ⟨x, hx⟩ ⟨y, hy⟩]
          rfl
    · have ht := upper_mixed a b ha (by omega)
      rw [hexV_high (c := b) (by omega)]
      generalize upperS ⟨#[a, b]⟩ = t at *
      have hs : t.size = 4 := by
        have := congrArg List.length ht
        simpa using this
      have ia := idx_upc a ha
      rw [hs, hexGo_step t 3 0 0 _ _ [] (by omega) (by rw [List.drop_zero, ht, uDec_low _ _ (up_lowc a ha)]), ia]
      cases hva : hexV a with
      | none => rfl
      | some x =>
        have hx := hexV_lt hva
        simp only
        rw [if_neg (by omega), hexGo_step t 2 1 _ 65533 3 [] (by omega) (by rw [ht]; show uDec [239, 191, 189] = _; decide), idx_high 65533 (by omega)]
        rfl
  · obtain ⟨rest, ht⟩ := upper_high a b (by omega)
    rw [hex_head _ 0 _ rest ht (uDec_two a b (by omega)), hexV_high (c := a) (by omega)]
end Go.Proofs.YtjmeoplajfmieaaDoor
