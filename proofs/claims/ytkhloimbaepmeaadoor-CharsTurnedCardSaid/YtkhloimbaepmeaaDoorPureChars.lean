/- What the printed functions of the references for alphabets come to, in plain Lean: labels, whole sequences, valid texts, signs. -/
import Derived.Test.YtkhloimbaepmeaaDoorP5
import Derived.Test.YtkhloimbaepmeaaDoorUtf
import Derived.Test.YtkhloimbaepmeaaDoorEv
namespace Go.Proofs.YtkhloimbaepmeaaDoor.Pure
open Go.RowKit Go.Proofs.YtkhloimbaepmeaaDoor.P Go.Proofs.YtkhloimbaepmeaaDoorW.PrintWords Go.Proofs.YtkhloimbaepmeaaDoorW.PrintLast
set_option linter.unusedVariables false
set_option linter.unusedSimpArgs false

theorem bt_byteAt (s : ByteArray) (at_ j : Nat) : bt s ((at_ : Int) + (j : Int)) = byteAt (s.data.toList.drop at_) j := by
  unfold bt byteAt
  rw [List.getD_eq_getElem?_getD, List.getElem?_drop]
  have e : ((at_ : Int) + (j : Int)).toNat = at_ + j := by omega
  split
  · rename_i h
    rw [e] at h
    have h2 : at_ + j < s.data.toList.length := by simpa using h
    rw [List.getElem?_eq_getElem h2]
    simp only [Option.getD_some, e]
    rfl
  · rename_i h
    rw [e] at h
    have h2 : s.data.toList.length ≤ at_ + j := by simpa using h
    rw [List.getElem?_eq_none h2]
    rfl
section whole
variable (s : ByteArray) (hs : s.size ≤ 140737488351232)
include hs
theorem l0_step (k : Nat) (a n least v i : Int) (h0 : 0 ≤ a) (hi : 0 ≤ i) (hin : i < n) (ha : a + i < s.size) (hv : 0 ≤ v) (hv2 : v ≤ 1000000000) :
    muslinref04_Whole.l0 (k + 1) s a n least v i = if bt s (a + i) < 128 ∨ bt s (a + i) > 191 then some 0 else muslinref04_Whole.l0 k s a n least (64 * v + bt s (a + i) - 128) (i + 1) := by
  have hb := bt_range s (a + i)
  simp only [muslinref04_Whole.l0]
  rw [w64 (x := a + i) (by omega) (by omega), w64 (x := bt s (a + i)) (by omega) (by omega), if_pos hin, if_pos (by omega), if_pos ha,
    w64 (x := 64 * v) (by omega) (by omega), w64 (x := 64 * v + bt s (a + i)) (by omega) (by omega), w64 (x := 64 * v + bt s (a + i) - 128) (by omega) (by omega), w64 (x := i + 1) (by omega) (by omega)]
  by_cases c1 : bt s (a + i) < 128
  · rw [if_pos c1, if_pos (.inl c1)]
  · rw [if_neg c1]
    by_cases c2 : bt s (a + i) > 191
    · rw [if_pos c2, if_pos (.inr c2)]
    · rw [if_neg c2, if_neg (by omega)]
omit hs in
theorem l0_end (k : Nat) (a n least v i : Int) (hin : ¬ i < n) :
    muslinref04_Whole.l0 (k + 1) s a n least v i = if v < least ∨ v > 1114111 ∨ (v ≥ 55296 ∧ v ≤ 57343) then some 0 else some n := by
  simp only [muslinref04_Whole.l0]
  rw [if_neg hin]
  by_cases c1 : v < least
  · rw [if_pos c1, if_pos (.inl c1)]
  · rw [if_neg c1]
    by_cases c2 : v > 1114111
    · rw [if_pos c2, if_pos (.inr (.inl c2))]
    · rw [if_neg c2]
      by_cases c3 : v ≥ 55296
      · rw [if_pos c3]
        by_cases c4 : v ≤ 57343
        · rw [if_pos c4, if_pos (.inr (.inr ⟨c3, c4⟩))]
        · rw [if_neg c4, if_neg (by omega)]
      · rw [if_neg c3, if_neg (by omega)]
/-- Whole: how many bytes the whole sequence has that stands at a place. -/
theorem whole_is (a : Nat) (ha : a < s.size) : Ev (fun k => muslinref04_Whole.f k s a) (wholeL (s.data.toList.drop a) : Int) := by
  have hb0 : bt s (a : Int) = byteAt (s.data.toList.drop a) 0 := by simpa using bt_byteAt s a 0
  have hb1 : bt s ((a : Int) + 1) = byteAt (s.data.toList.drop a) 1 := by simpa using bt_byteAt s a 1
  have hb2 : bt s ((a : Int) + 2) = byteAt (s.data.toList.drop a) 2 := by simpa using bt_byteAt s a 2
  have hb3 : bt s ((a : Int) + 3) = byteAt (s.data.toList.drop a) 3 := by simpa using bt_byteAt s a 3
  have hlen : (s.data.toList.drop a).length = s.size - a := by simp
  generalize hl : s.data.toList.drop a = l at *
  have r0 := byteAt_lt l 0
  have r1 := byteAt_lt l 1
  have r2 := byteAt_lt l 2
  have r3 := byteAt_lt l 3
  refine ⟨10, fun k hk => ?_⟩
  obtain ⟨m, rfl⟩ : ∃ m, k = m + 1 + 1 + 1 + 1 + 1 + 1 + 1 + 1 + 1 + 1 := ⟨k - 10, by omega⟩
  show muslinref04_Whole.f (m + 1 + 1 + 1 + 1 + 1 + 1 + 1 + 1 + 1 + 1) s a = _
  unfold muslinref04_Whole.f
  rw [if_pos (by omega), if_pos (by omega), hb0, w64 (x := (byteAt l 0 : Int)) (by omega) (by omega)]
  by_cases c0 : byteAt l 0 < 128
  · rw [if_pos (by omega), whole_low l c0]; rfl
  rw [if_neg (by omega)]
  by_cases c1 : byteAt l 0 < 192
  · rw [if_neg (by omega), whole_none l (by omega)]
    rw [muslinref04_Whole.j0, if_neg Bool.false_ne_true, if_neg (by omega), muslinref04_Whole.j1, if_neg Bool.false_ne_true, if_neg (by omega)]; rfl
  rw [if_pos (by omega)]
  by_cases c2 : byteAt l 0 < 224
  · rw [decide_eq_true (by omega : (byteAt l 0 : Int) < 224), whole_two l (by omega)]
    rw [muslinref04_Whole.j0, if_pos rfl, muslinref04_Whole.j2]
    rw [w64 (x := (byteAt l 0 : Int) - 192) (by omega) (by omega), w64 (x := (a : Int) + 2) (by omega) (by omega)]
    by_cases d : (a : Int) + 2 > s.size
    · rw [if_pos d, if_neg (by rw [contAt_iff]; omega)]; rfl
    rw [if_neg d, l0_step s hs _ a 2 128 _ 1 (by omega) (by omega) (by omega) (by omega) (by omega) (by omega), l0_end s _ a 2 128 _ (1 + 1) (by omega), hb1]
    simp only [contAt_iff]
    split
    · rename_i h1; rw [if_neg (by omega)]; rfl
    · split
      · rename_i h1 h2; rw [if_neg (by omega)]; rfl
      · rename_i h1 h2; rw [if_pos (by omega)]; rfl
  rw [decide_eq_false (by omega : ¬ (byteAt l 0 : Int) < 224)]
  by_cases c3 : byteAt l 0 < 240
  · rw [whole_three l (by omega)]
    rw [muslinref04_Whole.j0, if_neg Bool.false_ne_true, if_pos (by omega), decide_eq_true (by omega : (byteAt l 0 : Int) < 240), muslinref04_Whole.j1, if_pos rfl, muslinref04_Whole.j2]
    rw [w64 (x := (byteAt l 0 : Int) - 224) (by omega) (by omega), w64 (x := (a : Int) + 3) (by omega) (by omega)]
    by_cases d : (a : Int) + 3 > s.size
    · rw [if_pos d, if_neg (by rw [contAt_iff, contAt_iff]; omega)]; rfl
    rw [if_neg d, l0_step s hs _ a 3 2048 _ 1 (by omega) (by omega) (by omega) (by omega) (by omega) (by omega), hb1]
    simp only [contAt_iff, valid_iff]
    split
    · rename_i h1; rw [if_neg (by omega)]; rfl
    · rename_i h1
      rw [show ((1 : Int) + 1) = 2 from rfl, l0_step s hs _ a 3 2048 _ 2 (by omega) (by omega) (by omega) (by omega) (by omega) (by omega), hb2]
      split
      · rename_i h2; rw [if_neg (by omega)]; rfl
      · rename_i h2
        rw [l0_end s _ a 3 2048 _ (2 + 1) (by omega)]
        split
        · rename_i h3; rw [if_neg (by omega)]; rfl
        · rename_i h3; rw [if_pos (by omega)]; rfl
  by_cases c4 : byteAt l 0 < 248
  · rw [whole_four l (by omega)]
    rw [muslinref04_Whole.j0, if_neg Bool.false_ne_true, if_pos (by omega), decide_eq_false (by omega : ¬ (byteAt l 0 : Int) < 240), muslinref04_Whole.j1, if_neg Bool.false_ne_true, if_pos (by omega), if_pos (by omega), muslinref04_Whole.j2]
    rw [w64 (x := (byteAt l 0 : Int) - 240) (by omega) (by omega), w64 (x := (a : Int) + 4) (by omega) (by omega)]
    by_cases d : (a : Int) + 4 > s.size
    · rw [if_pos d, if_neg (by rw [contAt_iff, contAt_iff, contAt_iff]; omega)]; rfl
    rw [if_neg d, l0_step s hs _ a 4 65536 _ 1 (by omega) (by omega) (by omega) (by omega) (by omega) (by omega), hb1]
    simp only [contAt_iff, valid_iff]
    split
    · rename_i h1; rw [if_neg (by omega)]; rfl
    · rename_i h1
      rw [show ((1 : Int) + 1) = 2 from rfl, l0_step s hs _ a 4 65536 _ 2 (by omega) (by omega) (by omega) (by omega) (by omega) (by omega), hb2]
      split
      · rename_i h2; rw [if_neg (by omega)]; rfl
      · rename_i h2
        rw [show ((2 : Int) + 1) = 3 from rfl, l0_step s hs _ a 4 65536 _ 3 (by omega) (by omega) (by omega) (by omega) (by omega) (by omega), hb3]
        split
        · rename_i h3; rw [if_neg (by omega)]; rfl
        · rename_i h3
          rw [l0_end s _ a 4 65536 _ (3 + 1) (by omega)]
          split
          · rename_i h4; rw [if_neg (by omega)]; rfl
          · rename_i h4; rw [if_pos (by omega)]; rfl
  rw [whole_none l (by omega)]
  rw [muslinref04_Whole.j0, if_neg Bool.false_ne_true, if_pos (by omega), decide_eq_false (by omega : ¬ (byteAt l 0 : Int) < 240), muslinref04_Whole.j1, if_neg Bool.false_ne_true, if_pos (by omega), if_neg (by omega)]; rfl
end whole

theorem validFrom_valL (s : ByteArray) : ∀ (fuel pos : Nat), validFrom s fuel pos = valL fuel (s.data.toList.drop pos) := by
  intro fuel
  induction fuel with
  | zero => intro pos; rfl
  | succ n ih =>
    intro pos
    simp only [validFrom, valL]
    by_cases h : pos < s.size
    · rw [if_pos h, if_neg (by intro h2; have := congrArg List.length h2; simp at this; omega), decode_list, ih, List.drop_drop]
    · rw [if_neg h, if_pos (List.drop_eq_nil_of_le (by rw [sizeL]; omega))]
/-- A list of bytes made valid. -/
def vl (l : List UInt8) : List UInt8 := valL l.length l
theorem validS_eq (s : ByteArray) : validS s = ⟨(vl s.data.toList).toArray⟩ := by
  unfold validS vl
  rw [validFrom_valL, List.drop_zero, sizeL]
theorem vl_nil : vl [] = [] := rfl
theorem vl_cons (l : List UInt8) (h : l ≠ []) : vl l = Lib.encodeRune (uDec l).1 ++ vl (l.drop (uDec l).2) := by
  have hw := dec_width l h
  have e : vl l = valL (l.length - 1 + 1) l := by unfold vl; congr 1; omega
  rw [e]
  simp only [valL, if_neg h]
  unfold vl
  rw [valL_more _ _ (Nat.le_refl _) (l.length - 1) (by rw [List.length_drop]; omega)]
/-- Valid: the reference's loop. -/
theorem valid_loop (s : ByteArray) (hs : s.size ≤ 35184372088832) : ∀ (n pos : Nat) (acc : List UInt8), s.size - pos ≤ n → pos ≤ s.size → acc.length + 3 * (s.size - pos) < 140737488355328 →
    Ev (fun k => muslinref04_Valid.l0 k s (intsOf acc) pos) (⟨(acc ++ vl (s.data.toList.drop pos)).toArray⟩ : ByteArray) := by
  intro n
  induction n with
  | zero =>
    intro pos acc h1 h2 h3
    refine Ev.round (fun k => by rw [muslinref04_Valid.l0]) ?_
    refine Ev.neg (by omega) ?_
    rw [strOf_ints, List.drop_eq_nil_of_le (by rw [sizeL]; omega), vl_nil, List.append_nil]
    exact Ev.now _
  | succ n ih =>
    intro pos acc h1 h2 h3
    refine Ev.round (fun k => by rw [muslinref04_Valid.l0]) ?_
    by_cases hp : pos < s.size
    · refine Ev.pos (by omega) ?_
      refine Ev.bind (whole_is s (by omega) pos hp) ?_
      have hne : s.data.toList.drop pos ≠ [] := by intro h; have := congrArg List.length h; simp at this; omega
      rw [vl_cons _ hne]
      rcases dec_cases _ hne with ⟨e0, e1, _⟩ | ⟨e0, e1, e2, e3, e4, e5⟩
      · rw [e0, e1]
        refine Ev.pos rfl ?_
        refine Ev.pos (by rw [intsOf_length]; omega) ?_
        have hb : intsOf acc ++ bytesOf (⟨#[239, 191, 189]⟩ : ByteArray) = intsOf (acc ++ [239, 191, 189]) := by rw [intsOf_append]; rfl
        rw [hb, w64 (by omega) (by omega)]
        have := ih (pos + 1) (acc ++ [239, 191, 189]) (by omega) (by omega) (by simp; omega)
        simp only [List.drop_drop]
        rw [show Lib.encodeRune ((65533 : Nat) : Int) = [239, 191, 189] from enc_65533, ← List.append_assoc]
        exact this
      · have hl : (s.data.toList.drop pos).length = s.size - pos := by simp
        rw [e0]
        refine Ev.neg (by omega) ?_
        refine Ev.pos (by omega) ?_
        have hw : wrap64 ((pos : Int) + (((uDec (s.data.toList.drop pos)).2 : Nat) : Int)) = ((pos + (uDec (s.data.toList.drop pos)).2 : Nat) : Int) := by rw [w64 (by omega) (by omega)]; omega
        rw [hw]
        refine Ev.pos (by omega) ?_
        refine Ev.pos (by omega) ?_
        have hx : (s.extract ((pos : Nat) : Int).toNat ((pos + (uDec (s.data.toList.drop pos)).2 : Nat) : Int).toNat).data.toList = (s.data.toList.drop pos).take (uDec (s.data.toList.drop pos)).2 := by
          rw [extract_list, Int.toNat_natCast, Int.toNat_natCast, List.drop_take, Nat.add_sub_cancel_left]
        have hxs : (s.extract ((pos : Nat) : Int).toNat ((pos + (uDec (s.data.toList.drop pos)).2 : Nat) : Int).toNat).size = (uDec (s.data.toList.drop pos)).2 := by
          rw [← sizeL, hx, List.length_take]; omega
        refine Ev.pos (by rw [intsOf_length, hxs]; omega) ?_
        rw [bytesOf_ints, hx, ← intsOf_append]
        have := ih (pos + (uDec (s.data.toList.drop pos)).2) (acc ++ (s.data.toList.drop pos).take (uDec (s.data.toList.drop pos)).2) (by omega) (by omega) (by rw [List.length_append, List.length_take]; omega)
        rw [e5, ← List.append_assoc, List.drop_drop]
        exact this
    · refine Ev.neg (by omega) ?_
      rw [strOf_ints, List.drop_eq_nil_of_le (by rw [sizeL]; omega), vl_nil, List.append_nil]
      exact Ev.now _
theorem refValid_is (s : ByteArray) (hs : s.size ≤ 35184372088832) : Ev (fun k => muslinref04_Valid.f k s) (validS s) := by
  rw [validS_eq]
  exact valid_loop s hs s.size 0 [] (by omega) (by omega) (by simp; omega)

theorem strOf_enc {xs : List Int} {n : Int} (h : xs = Lib.encodeRuneZ n) : strOfNums xs = ⟨(Lib.encodeRune n).toArray⟩ := by
  subst h
  simp only [strOfNums, Lib.encodeRune]
/-- Sign: that of a number, as UTF-8. -/
theorem sign_is (n : Int) : Ev (fun k => muslinref04_Sign.f k n) (⟨(Lib.encodeRune n).toArray⟩ : ByteArray) := by
  unfold muslinref04_Sign.f
  by_cases c1 : n < 0
  · refine Ev.pos c1 ?_
    refine Ev.round (fun k => by rw [muslinref04_Sign.j0]) ?_
    refine Ev.pos rfl ?_
    rw [enc_bad (.inl c1)]; exact Ev.now _
  refine Ev.neg c1 ?_
  by_cases c2 : n > 1114111
  · refine Ev.pos c2 ?_
    refine Ev.round (fun k => by rw [muslinref04_Sign.j0]) ?_
    refine Ev.pos rfl ?_
    rw [enc_bad (.inr (.inr c2))]; exact Ev.now _
  refine Ev.neg c2 ?_
  by_cases c3 : n ≥ 55296 ∧ n ≤ 57343
  · refine Ev.pos c3.1 ?_
    rw [decide_eq_true c3.2]
    refine Ev.round (fun k => by rw [muslinref04_Sign.j0]) ?_
    refine Ev.pos rfl ?_
    rw [enc_bad (.inr (.inl c3))]; exact Ev.now _
  have hj : Ev (fun k => muslinref04_Sign.j0 k n false) (⟨(Lib.encodeRune n).toArray⟩ : ByteArray) := by
    refine Ev.round (fun k => by rw [muslinref04_Sign.j0]) ?_
    refine Ev.neg Bool.false_ne_true ?_
    have t1 : ∀ m : Int, 0 < m → Int.tdiv n m = n / m := fun m hm => Int.tdiv_eq_ediv_of_nonneg (by omega)
    have t2 : ∀ x m : Int, 0 ≤ x → Int.tmod x m = x % m := fun x m hx => Int.tmod_eq_emod_of_nonneg hx
    by_cases d1 : n < 128
    · refine Ev.pos d1 ?_
      rw [strOf_enc (n := n) (by rw [Lib.encodeRuneZ_one (by omega) (by omega)]; congr 1; omega)]; exact Ev.now _
    refine Ev.neg d1 ?_
    by_cases d2 : n < 2048
    · refine Ev.pos d2 ?_
      rw [t1 64 (by omega), t2 n 64 (by omega), w64 (x := n / 64) (by omega) (by omega), w64 (x := 192 + n / 64) (by omega) (by omega), w64 (x := 128 + n % 64) (by omega) (by omega)]
      rw [strOf_enc (n := n) (by
        rw [Lib.encodeRuneZ_two (by omega) (by omega)]
        rw [show (192 + n / 64) % 256 = 192 + n / 64 by omega, show (128 + n % 64) % 256 = 128 + n % 64 by omega])]
      exact Ev.now _
    refine Ev.neg d2 ?_
    by_cases d3 : n < 65536
    · refine Ev.pos d3 ?_
      rw [t1 64 (by omega), t1 4096 (by omega), t2 n 64 (by omega), w64 (x := n / 64) (by omega) (by omega), w64 (x := n / 4096) (by omega) (by omega), t2 (n / 64) 64 (by omega), w64 (x := 224 + n / 4096) (by omega) (by omega), w64 (x := 128 + n / 64 % 64) (by omega) (by omega), w64 (x := 128 + n % 64) (by omega) (by omega)]
      rw [strOf_enc (n := n) (by
        rw [Lib.encodeRuneZ_three (by omega)]
        rw [show (224 + n / 4096) % 256 = 224 + n / 4096 by omega, show (128 + n / 64 % 64) % 256 = 128 + n / 64 % 64 by omega, show (128 + n % 64) % 256 = 128 + n % 64 by omega])]
      exact Ev.now _
    refine Ev.neg d3 ?_
    rw [t1 262144 (by omega), t1 64 (by omega), t1 4096 (by omega), t2 n 64 (by omega), w64 (x := n / 64) (by omega) (by omega), w64 (x := n / 4096) (by omega) (by omega), w64 (x := n / 262144) (by omega) (by omega), t2 (n / 64) 64 (by omega), t2 (n / 4096) 64 (by omega), w64 (x := 240 + n / 262144) (by omega) (by omega), w64 (x := 128 + n / 4096 % 64) (by omega) (by omega), w64 (x := 128 + n / 64 % 64) (by omega) (by omega), w64 (x := 128 + n % 64) (by omega) (by omega)]
    rw [strOf_enc (n := n) (by
      rw [Lib.encodeRuneZ_four (by omega) (by omega)]
      rw [show (240 + n / 262144) % 256 = 240 + n / 262144 by omega, show (128 + n / 4096 % 64) % 256 = 128 + n / 4096 % 64 by omega, show (128 + n / 64 % 64) % 256 = 128 + n / 64 % 64 by omega, show (128 + n % 64) % 256 = 128 + n % 64 by omega])]
    exact Ev.now _
  by_cases c4 : n ≥ 55296
  · refine Ev.pos c4 ?_
    rw [decide_eq_false (by omega : ¬ n ≤ 57343)]; exact hj
  · refine Ev.neg c4 ?_; exact hj
theorem high_is (c : Nat) (h1 : 128 ≤ c) (h2 : c < 160) : muslinref04_high.f (c : Int) = some (highTab.getD (c - 128) 0) := by
  unfold muslinref04_high.f
  simp only [Option.bind_some]
  have e : (((c : Int) - 128) % 256) = ((c - 128 : Nat) : Int) := by omega
  rw [e, if_pos (by omega), if_pos (by simp; omega)]
  simp only [rd, Int.toNat_natCast]
  rfl
theorem enc_size (n : Int) : (⟨(Lib.encodeRune n).toArray⟩ : ByteArray).size ≤ 4 := by rw [mk_size]; exact (enc_len n).2
/-- The reference's loop over signs of one byte each. -/
theorem singles_loop (s : ByteArray) (hs : s.size ≤ 35184372088832) : ∀ (n i : Nat) (acc : List UInt8), s.size - i ≤ n → i ≤ s.size → acc.length + 4 * (s.size - i) < 140737488355328 - 4 →
    Ev (fun k => muslinref04_Decode.l0 k s (intsOf acc) i) ((⟨(acc ++ singlesL (s.data.toList.drop i)).toArray⟩ : ByteArray), true) := by
  intro n
  induction n with
  | zero =>
    intro i acc h1 h2 h3
    refine Ev.round (fun k => by rw [muslinref04_Decode.l0]) ?_
    refine Ev.neg (by omega) ?_
    rw [strOf_ints, List.drop_eq_nil_of_le (by rw [sizeL]; omega)]
    simp only [singlesL, List.flatMap_nil, List.append_nil]
    exact Ev.now _
  | succ n ih =>
    intro i acc h1 h2 h3
    refine Ev.round (fun k => by rw [muslinref04_Decode.l0]) ?_
    by_cases hp : i < s.size
    · have hl : i < s.data.toList.length := by rw [sizeL]; exact hp
      refine Ev.pos (by omega) ?_
      refine Ev.pos (by omega) ?_
      have hc : bt s (i : Int) = (s.data.toList[i].toNat : Int) := bt_get s i hl
      have hd : singlesL (s.data.toList.drop i) = Lib.encodeRune (hiC s.data.toList[i]) ++ singlesL (s.data.toList.drop (i + 1)) := by
        rw [List.drop_eq_getElem_cons hl]; simp [singlesL]
      rw [hd]
      generalize hcc : s.data.toList[i] = c at *
      have h256 : c.toNat < 256 := UInt8.toNat_lt _
      have next : Ev (fun k => muslinref04_Decode.l0 k s (intsOf acc ++ bytesOf (⟨(Lib.encodeRune (hiC c)).toArray⟩ : ByteArray)) (wrap64 ((i : Int) + 1))) ((⟨(acc ++ (Lib.encodeRune (hiC c) ++ singlesL (s.data.toList.drop (i + 1)))).toArray⟩ : ByteArray), true) := by
        have hlen := enc_len (hiC c)
        rw [bytesOf_ints, mk_toList, ← intsOf_append, w64 (by omega) (by omega), ← List.append_assoc]
        exact ih (i + 1) (acc ++ Lib.encodeRune (hiC c)) (by omega) (by omega) (by rw [List.length_append]; omega)
      have hsz := enc_size (hiC c)
      rw [hc, w64 (x := (c.toNat : Int)) (by omega) (by omega)]
      by_cases c1 : 128 ≤ c.toNat ∧ c.toNat < 160
      · refine Ev.pos (by omega) ?_
        rw [decide_eq_true (by omega : (c.toNat : Int) < 160)]
        refine Ev.round (fun k => by rw [muslinref04_Decode.j1]) ?_
        refine Ev.pos rfl ?_
        refine Ev.pos (by omega) ?_
        refine Ev.pos (by omega) ?_
        rw [hc]
        have hh : hiC c = highTab.getD (c.toNat - 128) 0 := by unfold hiC; rw [if_pos c1]
        refine Ev.got (high_is c.toNat c1.1 c1.2) ?_
        rw [← hh]
        refine Ev.bind (sign_is (hiC c)) ?_
        refine Ev.pos (by rw [intsOf_length]; omega) ?_
        exact next
      · have hh : hiC c = (c.toNat : Int) := by unfold hiC; rw [if_neg c1]
        have hj : Ev (fun k => muslinref04_Decode.j1 k s (intsOf acc) i (c.toNat : Int) false) ((⟨(acc ++ (Lib.encodeRune (hiC c) ++ singlesL (s.data.toList.drop (i + 1)))).toArray⟩ : ByteArray), true) := by
          refine Ev.round (fun k => by rw [muslinref04_Decode.j1]) ?_
          refine Ev.neg Bool.false_ne_true ?_
          rw [← hh]
          refine Ev.bind (sign_is (hiC c)) ?_
          refine Ev.pos (by rw [intsOf_length]; omega) ?_
          exact next
        by_cases c2 : (c.toNat : Int) ≥ 128
        · refine Ev.pos c2 ?_
          rw [decide_eq_false (by omega : ¬ (c.toNat : Int) < 160)]; exact hj
        · refine Ev.neg c2 ?_; exact hj
    · refine Ev.neg (by omega) ?_
      rw [strOf_ints, List.drop_eq_nil_of_le (by rw [sizeL]; omega)]
      simp only [singlesL, List.flatMap_nil, List.append_nil]
      exact Ev.now _

/-- Numbers of two bytes each. -/
def unitsL (u : UInt8 → UInt8 → Int) : List UInt8 → List Int
  | a :: b :: r => u a b :: unitsL u r
  | _ => []
/-- The signs of such numbers. -/
def dblU : List Int → List UInt8
  | [] => []
  | [x] => Lib.encodeRune x
  | x :: y :: r =>
    if (55296 ≤ x ∧ x < 56320) ∧ (56320 ≤ y ∧ y ≤ 57343) then Lib.encodeRune (65536 + (x - 55296) * 1024 + y - 56320) ++ dblU r
    else Lib.encodeRune x ++ dblU (y :: r)
def badIf (b : Bool) : List UInt8 := if b then [239, 191, 189] else []
def oddL (l : List UInt8) : Bool := l.length % 2 == 1
theorem odd_two (a b : UInt8) (r : List UInt8) : oddL (a :: b :: r) = oddL r := by
  simp only [oddL, List.length_cons]
  congr 1; omega
theorem dblL_U (u : UInt8 → UInt8 → Int) : ∀ (n : Nat) (l : List UInt8), l.length ≤ n → dblL u l = dblU (unitsL u l) ++ badIf (oddL l) := by
  intro n
  induction n with
  | zero => intro l h; obtain rfl : l = [] := List.eq_nil_of_length_eq_zero (by omega); rfl
  | succ n ih =>
    intro l h
    match l with
    | [] => rfl
    | [a] => simp [dblL, unitsL, dblU, oddL, badIf, enc_65533]
    | [a, b] => simp [dblL, unitsL, dblU, oddL, badIf]
    | [a, b, c] => simp [dblL, unitsL, dblU, oddL, badIf, enc_65533]
    | a :: b :: c :: d :: r =>
      rw [odd_two, odd_two]
      simp only [dblL, unitsL, dblU]
      split
      · rw [ih r (by simp at h; omega), List.append_assoc]
      · have := ih (c :: d :: r) (by simp at h ⊢; omega)
        rw [odd_two] at this
        simp only [unitsL] at this
        rw [this, List.append_assoc]
theorem unitsL_len (u : UInt8 → UInt8 → Int) : ∀ (n : Nat) (l : List UInt8), l.length ≤ n → 2 * (unitsL u l).length ≤ l.length := by
  intro n
  induction n with
  | zero => intro l h; obtain rfl : l = [] := List.eq_nil_of_length_eq_zero (by omega); simp [unitsL]
  | succ n ih =>
    intro l h
    match l with
    | [] => simp [unitsL]
    | [a] => simp [unitsL]
    | a :: b :: r => have := ih r (by simp at h; omega); simp [unitsL]; omega
theorem unitsL_range (u : UInt8 → UInt8 → Int) (hu : ∀ a b, 0 ≤ u a b ∧ u a b ≤ 65535) : ∀ (n : Nat) (l : List UInt8), l.length ≤ n → ∀ x ∈ unitsL u l, 0 ≤ x ∧ x ≤ 65535 := by
  intro n
  induction n with
  | zero => intro l h; obtain rfl : l = [] := List.eq_nil_of_length_eq_zero (by omega); simp [unitsL]
  | succ n ih =>
    intro l h
    match l with
    | [] => simp [unitsL]
    | [a] => simp [unitsL]
    | a :: b :: r =>
      intro x hx
      simp only [unitsL, List.mem_cons] at hx
      rcases hx with rfl | hx
      · exact hu a b
      · exact ih r (by simp at h; omega) x hx
/-- units: the reference's loop. -/
theorem units_loop (s : ByteArray) (hs : s.size ≤ 17592186044415) (hi : Bool) (u : UInt8 → UInt8 → Int) (hu : u = if hi then uBE else uLE) : ∀ (n i : Nat) (us : List Int), s.size - i ≤ n → i ≤ s.size → us.length ≤ i →
    Ev (fun k => muslinref04_units.l0 k s hi us i) (us ++ unitsL u (s.data.toList.drop i), ((s.size : Int) % 2 == 1)) := by
  intro n
  induction n with
  | zero =>
    intro i us h1 h2 h3
    refine Ev.round (fun k => by rw [muslinref04_units.l0]) ?_
    rw [w64 (x := (i : Int) + 1) (by omega) (by omega)]
    refine Ev.neg (by omega) ?_
    rw [List.drop_eq_nil_of_le (by rw [sizeL]; omega)]
    simp only [unitsL, List.append_nil]
    exact Ev.now _
  | succ n ih =>
    intro i us h1 h2 h3
    refine Ev.round (fun k => by rw [muslinref04_units.l0]) ?_
    rw [w64 (x := (i : Int) + 1) (by omega) (by omega), w64 (x := (i : Int) + 2) (by omega) (by omega)]
    by_cases hp : i + 1 < s.size
    · have hl0 : i < s.data.toList.length := by rw [sizeL]; omega
      have hl1 : i + 1 < s.data.toList.length := by rw [sizeL]; omega
      have hc0 : bt s (i : Int) = (s.data.toList[i].toNat : Int) := bt_get s i hl0
      have hc1 : bt s ((i : Int) + 1) = (s.data.toList[i + 1].toNat : Int) := bt_get s (i + 1) hl1
      have hd : unitsL u (s.data.toList.drop i) = u s.data.toList[i] s.data.toList[i + 1] :: unitsL u (s.data.toList.drop (i + 2)) := by
        rw [List.drop_eq_getElem_cons hl0, List.drop_eq_getElem_cons hl1]; rfl
      rw [hd]
      have h0 : s.data.toList[i].toNat < 256 := UInt8.toNat_lt _
      have h1' : s.data.toList[i + 1].toNat < 256 := UInt8.toNat_lt _
      refine Ev.pos (by omega) ?_
      have next : Ev (fun k => muslinref04_units.l0 k s hi (us ++ [u s.data.toList[i] s.data.toList[i + 1]]) ((i : Int) + 2)) (us ++ u s.data.toList[i] s.data.toList[i + 1] :: unitsL u (s.data.toList.drop (i + 2)), ((s.size : Int) % 2 == 1)) := by
        have := ih (i + 2) (us ++ [u s.data.toList[i] s.data.toList[i + 1]]) (by omega) (by omega) (by simp; omega)
        simpa using this
      rw [hc0, hc1]
      cases hi with
      | true =>
        refine Ev.pos rfl ?_
        refine Ev.pos (by omega) ?_
        refine Ev.pos (by omega) ?_
        refine Ev.pos (by omega) ?_
        refine Ev.pos (by omega) ?_
        have e : wrap64 (wrap64 (256 * wrap64 (s.data.toList[i].toNat : Int)) + wrap64 (s.data.toList[i + 1].toNat : Int)) = u s.data.toList[i] s.data.toList[i + 1] := by
          rw [hu, if_pos rfl, w64 (x := (s.data.toList[i].toNat : Int)) (by omega) (by omega), w64 (x := 256 * (s.data.toList[i].toNat : Int)) (by omega) (by omega), w64 (x := (s.data.toList[i + 1].toNat : Int)) (by omega) (by omega), w64 (by omega) (by omega)]
          rfl
        rw [e]; exact next
      | false =>
        refine Ev.neg Bool.false_ne_true ?_
        refine Ev.pos (by omega) ?_
        refine Ev.pos (by omega) ?_
        refine Ev.pos (by omega) ?_
        refine Ev.pos (by omega) ?_
        have e : wrap64 (wrap64 (256 * wrap64 (s.data.toList[i + 1].toNat : Int)) + wrap64 (s.data.toList[i].toNat : Int)) = u s.data.toList[i] s.data.toList[i + 1] := by
          rw [hu, if_neg Bool.false_ne_true, w64 (x := (s.data.toList[i + 1].toNat : Int)) (by omega) (by omega), w64 (x := 256 * (s.data.toList[i + 1].toNat : Int)) (by omega) (by omega), w64 (x := (s.data.toList[i].toNat : Int)) (by omega) (by omega), w64 (by omega) (by omega)]
          unfold uLE; omega
        rw [e]; exact next
    · refine Ev.neg (by omega) ?_
      have : unitsL u (s.data.toList.drop i) = [] := by
        have hl : (s.data.toList.drop i).length ≤ 1 := by simp; omega
        match s.data.toList.drop i, hl with
        | [], _ => rfl
        | [a], _ => rfl
      rw [this, List.append_nil]
      exact Ev.now _
theorem rd_get (us : List Int) (i : Nat) (h : i < us.length) : rd us (i : Int) = us[i] := by
  simp [rd, List.getD_eq_getElem?_getD, List.getElem?_eq_getElem h]
theorem dblU_alone (us : List Int) (x : Int) (r : List Int) (h : x < 55296 ∨ 56320 ≤ x ∨ r = [] ∨ ∃ y r', r = y :: r' ∧ (y < 56320 ∨ 57343 < y)) : dblU (x :: r) = Lib.encodeRune x ++ dblU r := by
  cases r with
  | nil => simp [dblU]
  | cons y r' =>
    have hn : ¬ ((55296 ≤ x ∧ x < 56320) ∧ (56320 ≤ y ∧ y ≤ 57343)) := by
      rcases h with h | h | h | ⟨y', r'', h, h'⟩
      · omega
      · omega
      · cases h
      · cases h; omega
    simp only [dblU, if_neg hn]
/-- The reference's loop over such numbers. -/
theorem doubles_loop (us : List Int) (hus : us.length ≤ 17592186044415) (hr : ∀ x ∈ us, 0 ≤ x ∧ x ≤ 65535) (left : Bool) : ∀ (n i : Nat) (acc : List UInt8), us.length - i ≤ n → i ≤ us.length → acc.length + 4 * (us.length - i) < 140737488355328 - 8 →
    Ev (fun k => muslinref04_Decode.l1 k (intsOf acc) us left i) ((⟨(acc ++ (dblU (us.drop i) ++ badIf left)).toArray⟩ : ByteArray), true) := by
  intro n
  induction n using Nat.strongRecOn with
  | ind n ih =>
  intro i acc h1 h2 h3
  refine Ev.round (fun k => by rw [muslinref04_Decode.l1]) ?_
  by_cases hp : i < us.length
  · have hx : rd us (i : Int) = us[i] := rd_get us i hp
    have hxr := hr us[i] (List.getElem_mem hp)
    have hd : us.drop i = us[i] :: us.drop (i + 1) := List.drop_eq_getElem_cons hp
    refine Ev.pos (by omega) ?_
    refine Ev.pos (by omega) ?_
    rw [w64 (x := (i : Int) + 1) (by omega) (by omega), hx]
    -- the sign alone
    have alone : (us[i] < 55296 ∨ 56320 ≤ us[i] ∨ us.drop (i + 1) = [] ∨ ∃ y r', us.drop (i + 1) = y :: r' ∧ (y < 56320 ∨ 57343 < y)) →
        Ev (fun k => muslinref04_Decode.j4 k (intsOf acc) us left i false) ((⟨(acc ++ (dblU (us.drop i) ++ badIf left)).toArray⟩ : ByteArray), true) := by
      intro ha
      refine Ev.round (fun k => by rw [muslinref04_Decode.j4]) ?_
      refine Ev.neg Bool.false_ne_true ?_
      refine Ev.pos (by omega) ?_
      refine Ev.pos (by omega) ?_
      rw [hx, w64 (x := (i : Int) + 1) (by omega) (by omega)]
      refine Ev.bind (sign_is us[i]) ?_
      have hsz := enc_size us[i]
      have hlen := enc_len us[i]
      refine Ev.pos (by rw [intsOf_length]; omega) ?_
      rw [bytesOf_ints, mk_toList, ← intsOf_append, hd, dblU_alone us _ _ ha, List.append_assoc, ← List.append_assoc acc]
      exact ih (n - 1) (by omega) (i + 1) _ (by omega) (by omega) (by rw [List.length_append]; omega)
    by_cases c1 : us[i] ≥ 55296
    · refine Ev.pos c1 ?_
      by_cases c2 : us[i] ≤ 56319
      · refine Ev.pos c2 ?_
        by_cases c3 : i + 1 < us.length
        · have hy : rd us ((i : Int) + 1) = us[i + 1] := rd_get us (i + 1) c3
          have hyr := hr us[i + 1] (List.getElem_mem c3)
          have hd2 : us.drop (i + 1) = us[i + 1] :: us.drop (i + 2) := List.drop_eq_getElem_cons c3
          refine Ev.pos (by omega) ?_
          refine Ev.pos (by omega) ?_
          rw [hy]
          by_cases c4 : us[i + 1] ≥ 56320
          · refine Ev.pos c4 ?_
            by_cases c5 : us[i + 1] ≤ 57343
            · rw [decide_eq_true c5]
              refine Ev.round (fun k => by rw [muslinref04_Decode.j4]) ?_
              refine Ev.pos rfl ?_
              rw [w64 (x := (i : Int) + 1) (by omega) (by omega), hx, hy]
              refine Ev.pos (by omega) ?_
              refine Ev.pos (by omega) ?_
              refine Ev.pos (by omega) ?_
              refine Ev.pos (by omega) ?_
              have e : wrap64 (wrap64 (wrap64 (65536 + wrap64 (1024 * wrap64 (us[i] - 55296))) + us[i + 1]) - 56320) = 65536 + (us[i] - 55296) * 1024 + us[i + 1] - 56320 := by
                rw [w64 (x := us[i] - 55296) (by omega) (by omega), w64 (x := 1024 * (us[i] - 55296)) (by omega) (by omega), w64 (x := 65536 + 1024 * (us[i] - 55296)) (by omega) (by omega), w64 (x := 65536 + 1024 * (us[i] - 55296) + us[i + 1]) (by omega) (by omega), w64 (by omega) (by omega)]
                omega
              rw [e]
              refine Ev.bind (sign_is _) ?_
              have hsz := enc_size (65536 + (us[i] - 55296) * 1024 + us[i + 1] - 56320)
              have hlen := enc_len (65536 + (us[i] - 55296) * 1024 + us[i + 1] - 56320)
              refine Ev.pos (by rw [intsOf_length]; omega) ?_
              rw [bytesOf_ints, mk_toList, ← intsOf_append, hd, hd2]
              simp only [dblU]
              rw [if_pos (by omega), List.append_assoc, ← List.append_assoc acc, w64 (by omega) (by omega)]
              exact ih (n - 2) (by omega) (i + 2) _ (by omega) (by omega) (by rw [List.length_append]; omega)
            · rw [decide_eq_false c5]
              exact alone (.inr (.inr (.inr ⟨_, _, hd2, by omega⟩)))
          · refine Ev.neg c4 ?_
            exact alone (.inr (.inr (.inr ⟨_, _, hd2, by omega⟩)))
        · refine Ev.neg (by omega) ?_
          exact alone (.inr (.inr (.inl (List.drop_eq_nil_of_le (by omega)))))
      · refine Ev.neg c2 ?_
        exact alone (.inr (.inl (by omega)))
    · refine Ev.neg c1 ?_
      exact alone (.inl (by omega))
  · refine Ev.neg (by omega) ?_
    rw [List.drop_eq_nil_of_le (by omega)]
    cases left with
    | true =>
      refine Ev.pos rfl ?_
      refine Ev.pos (by rw [intsOf_length]; omega) ?_
      have hb : intsOf acc ++ bytesOf (⟨#[239, 191, 189]⟩ : ByteArray) = intsOf (acc ++ [239, 191, 189]) := by rw [intsOf_append]; rfl
      rw [hb, strOf_ints]
      simp only [dblU, badIf, List.nil_append, if_true]
      exact Ev.now _
    | false =>
      refine Ev.neg Bool.false_ne_true ?_
      rw [strOf_ints]
      simp only [dblU, badIf, List.nil_append, List.append_nil, Bool.false_eq_true, if_false]
      exact Ev.now _
end Go.Proofs.YtkhloimbaepmeaaDoor.Pure
