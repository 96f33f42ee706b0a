/- Quoted-printable: the loop of the document's decoder is the plain function: plain Lean. -/
import Derived.Test.YtjmeoplajfmieaaDoorP
import Derived.Test.YtjmeoplajfmieaaDoorPure02a
namespace Go.Proofs.YtjmeoplajfmieaaDoor.Pure
open Go.RowKit Go.Lib Go.Proofs.YtjmeoplajfmieaaDoor Go.Proofs.YtjmeoplajfmieaaDoor.P Go.Proofs.YtjmeoplajfmieaaDoorW.PrintWords Go.Proofs.YtjmeoplajfmieaaDoorW.PrintLast
set_option linter.unusedVariables false
set_option linter.unusedSimpArgs false

abbrev outOf (acc l : List UInt8) : ByteArray := ⟨(acc ++ qpDec l).toArray⟩
def RefAt (s : ByteArray) (i : Nat) : Prop := ∀ acc : List UInt8, acc.length ≤ i → Ev (fun k => muslinref02_Decode.l0 k s (intsOf acc) (i : Int)) (outOf acc (s.data.toList.drop i))
theorem eolN_pos {l rest : List UInt8} (h : endedL l = some rest) : eolN l = l.length - rest.length ∧ 1 ≤ eolN l := by
  have := endedL_len h
  unfold eolN
  rw [h]
  exact ⟨rfl, by simp only; omega⟩
theorem eolN_none {l : List UInt8} (h : endedL l = none) : eolN l = 0 := by unfold eolN; rw [h]
theorem endedL_suffix {l rest : List UInt8} (h : endedL l = some rest) : l.drop (l.length - rest.length) = rest := by
  match l with
  | [] => cases h
  | c :: r =>
    by_cases h10 : c = 10
    · simp [endedL, h10] at h
      subst h; simp
    · by_cases h13 : c = 13
      · match r with
        | [] => simp [endedL, h10, h13] at h
        | d :: r' =>
          by_cases hd : d = 10
          · simp [endedL, h10, h13, hd] at h
            subst h
            have : (c :: d :: r').length - r'.length = 2 := by simp; omega
            rw [this]; rfl
          · simp [endedL, h10, h13, hd] at h
      · simp [endedL, h10, h13] at h
/-- Where a byte is put behind what is there. -/
theorem put_one (s : ByteArray) (hs : s.size ≤ 100000000) (i j : Nat) (c : UInt8) (acc : List UInt8) (x : Int) (hx : x = (c.toNat : Int)) (hj : acc.length + 1 ≤ j) (hji : j ≤ s.size) (rest : List UInt8) (hd : s.data.toList.drop j = rest) (h : RefAt s j) :
    Ev (fun k => muslinref02_Decode.l0 k s (intsOf acc ++ [x]) (j : Int)) ⟨(acc ++ ([c] ++ qpDec rest)).toArray⟩ := by
  have := h (acc ++ [c]) (by simp; omega)
  rw [hd] at this
  have e : intsOf (acc ++ [c]) = intsOf acc ++ [x] := by rw [intsOf_append, hx]; rfl
  rw [e] at this
  have e2 : outOf (acc ++ [c]) rest = ⟨(acc ++ ([c] ++ qpDec rest)).toArray⟩ := by unfold outOf; rw [List.append_assoc]
  rw [e2] at this
  exact this
theorem j2_false (s : ByteArray) (hs : s.size ≤ 100000000) (i : Nat) (c : UInt8) (r acc : List UInt8) (hd : s.data.toList.drop i = c :: r) (hacc : acc.length ≤ i) (ih : ∀ j, i < j → j ≤ s.size → RefAt s j)
    (y : List UInt8 × List UInt8) (hy : y = if c = 61 then afterSign c r else ([c], r)) :
    Ev (fun k => muslinref02_Decode.j2 k s (intsOf acc) (i : Int) false) ⟨(acc ++ (y.1 ++ qpDec y.2)).toArray⟩ := by
  obtain ⟨hb, hz, hr⟩ := at_drop hd
  have hlen : (intsOf acc).length < 140737488355328 := by rw [intsOf_length]; omega
  have one : Ev (fun k => if (intsOf acc).length < 140737488355328 then muslinref02_Decode.l0 k s (intsOf acc ++ [(c.toNat : Int)]) ((i + 1 : Nat) : Int) else none) ⟨(acc ++ ([c] ++ qpDec r)).toArray⟩ := by
    refine Ev.pos hlen ?_
    exact put_one s hs i (i + 1) c acc _ rfl (by omega) (by omega) r hr (ih (i + 1) (by omega) (by omega))
  refine Ev.round (fun k => by rw [muslinref02_Decode.j2]) ?_
  refine Ev.neg Bool.false_ne_true ?_
  refine Ev.pos (by omega) ?_
  refine Ev.pos (by omega) ?_
  rw [hb, w64 (by omega) (by omega), show ((i : Int) + 1) = ((i + 1 : Nat) : Int) from by omega]
  by_cases hc : c = 61
  · rw [if_pos hc] at hy
    refine Ev.pos (by rw [hc]; rfl) ?_
    obtain ⟨j, j1, j2, j3, j4⟩ := blanks_is s hs s.size (i + 1) (by omega) (by omega)
    refine Ev.bind (g := fun k => muslinref02_blanks.f k s ((i + 1 : Nat) : Int)) j4 ?_
    rw [hr] at j3
    have he := eol_is s hs j j2
    rw [j3] at he
    refine Ev.bind he ?_
    unfold afterSign at hy
    have hjl := congrArg List.length j3
    rw [List.length_drop, sizeL] at hjl
    cases hen : endedL (r.dropWhile isBl) with
    | some rest =>
      rw [hen] at hy
      obtain ⟨p1, p2⟩ := eolN_pos hen
      have hel := endedL_len hen
      refine Ev.pos (by omega) ?_
      refine Ev.bind he ?_
      rw [w64 (by omega) (by omega), show ((j : Int) + (eolN (r.dropWhile isBl) : Int)) = ((j + eolN (r.dropWhile isBl) : Nat) : Int) from by omega]
      have := ih (j + eolN (r.dropWhile isBl)) (by omega) (by omega) acc (by omega)
      have hdr : s.data.toList.drop (j + eolN (r.dropWhile isBl)) = rest := by
        rw [← List.drop_drop, j3, p1]
        exact endedL_suffix hen
      rw [hdr] at this
      rw [hy]
      exact this
    | none =>
      rw [hen] at hy
      rw [eolN_none hen]
      refine Ev.neg (by omega) ?_
      rw [hy]
      exact one
  · rw [if_neg hc] at hy
    have hn : ¬ ((c.toNat : Int) = 61) := fun h => hc ((u8_is c 61 (by omega)).1 (by omega))
    refine Ev.neg hn ?_
    rw [hy]
    exact one
theorem hexI_some {c : UInt8} {x : Nat} (h : hexV c = some x) : hexI c = (x : Int) := by unfold hexI; rw [h]
theorem hexI_none {c : UInt8} (h : hexV c = none) : hexI c = -1 := by unfold hexI; rw [h]
theorem j1_false (s : ByteArray) (hs : s.size ≤ 100000000) (i : Nat) (c : UInt8) (r acc : List UInt8) (hd : s.data.toList.drop i = c :: r) (hacc : acc.length ≤ i) (ih : ∀ j, i < j → j ≤ s.size → RefAt s j) :
    Ev (fun k => muslinref02_Decode.j1 k s (intsOf acc) (i : Int) false) ⟨(acc ++ ((signL c r).1 ++ qpDec (signL c r).2)).toArray⟩ := by
  obtain ⟨hb, hz, hr⟩ := at_drop hd
  have hlen : (intsOf acc).length < 140737488355328 := by rw [intsOf_length]; omega
  refine Ev.round (fun k => by rw [muslinref02_Decode.j1]) ?_
  refine Ev.neg Bool.false_ne_true ?_
  refine Ev.pos (by omega) ?_
  refine Ev.pos (by omega) ?_
  rw [hb]
  by_cases hc : c = 61
  · refine Ev.pos (by rw [hc]; rfl) ?_
    rw [w64 (x := (i : Int) + 2) (by omega) (by omega)]
    match r, hd, hr, hz with
    | [], hd, hr, hz =>
      simp only [List.length_nil] at hz
      refine Ev.neg (by omega) ?_
      exact j2_false s hs i c [] acc hd hacc ih _ (by simp [signL, hex2, hc])
    | [a], hd, hr, hz =>
      simp only [List.length_cons, List.length_nil] at hz
      refine Ev.neg (by omega) ?_
      exact j2_false s hs i c [a] acc hd hacc ih _ (by simp [signL, hex2, hc])
    | a :: b :: r', hd, hr, hz =>
      simp only [List.length_cons] at hz
      obtain ⟨hb1, hz1, hr1⟩ := at_drop hr
      obtain ⟨hb2, hz2, hr2⟩ := at_drop hr1
      refine Ev.pos (by omega) ?_
      rw [w64 (x := (i : Int) + 1) (by omega) (by omega), show ((i : Int) + 1) = ((i + 1 : Nat) : Int) from by omega, show ((i : Int) + 2) = ((i + 1 + 1 : Nat) : Int) from by omega]
      refine Ev.pos (by omega) ?_
      refine Ev.pos (by omega) ?_
      rw [hb1, hb2]
      refine Ev.bind (refHex_is a) ?_
      cases hva : hexV a with
      | none =>
        rw [hexI_none hva]
        refine Ev.neg (by omega) ?_
        exact j2_false s hs i c _ acc hd hacc ih _ (by simp [signL, hex2, hva, hc])
      | some x =>
        have hx := hexV_lt hva
        rw [hexI_some hva]
        refine Ev.pos (by omega) ?_
        refine Ev.pos (by omega) ?_
        refine Ev.bind (refHex_is b) ?_
        cases hvb : hexV b with
        | none =>
          rw [hexI_none hvb]
          exact j2_false s hs i c _ acc hd hacc ih _ (by simp [signL, hex2, hva, hvb, hc])
        | some y =>
          have hy := hexV_lt hvb
          rw [hexI_some hvb, decide_eq_true (show ((y : Int) ≥ 0) by omega)]
          have hsg : signL c (a :: b :: r') = ([UInt8.ofNat (16 * x + y)], r') := by simp [signL, hex2, hva, hvb, hc]
          rw [hsg]
          refine Ev.round (fun k => by rw [muslinref02_Decode.j2]) ?_
          refine Ev.pos rfl ?_
          rw [w64 (x := (i : Int) + 1) (by omega) (by omega), w64 (x := (i : Int) + 2) (by omega) (by omega), w64 (x := (i : Int) + 3) (by omega) (by omega), show ((i : Int) + 1) = ((i + 1 : Nat) : Int) from by omega, show ((i : Int) + 2) = ((i + 1 + 1 : Nat) : Int) from by omega, show ((i : Int) + 3) = ((i + 1 + 1 + 1 : Nat) : Int) from by omega]
          refine Ev.pos (by omega) ?_
          refine Ev.pos (by omega) ?_
          rw [hb1, hb2]
          refine Ev.bind (refHex_is a) ?_
          rw [hexI_some hva]
          refine Ev.pos (by omega) ?_
          refine Ev.pos (by omega) ?_
          refine Ev.bind (refHex_is b) ?_
          rw [hexI_some hvb]
          refine Ev.pos hlen ?_
          rw [w64 (x := 16 * (x : Int)) (by omega) (by omega), w64 (x := 16 * (x : Int) + (y : Int)) (by omega) (by omega)]
          have e : ((16 * (x : Int) + (y : Int)) % 256) = ((UInt8.ofNat (16 * x + y)).toNat : Int) := by
            have : (UInt8.ofNat (16 * x + y)).toNat = 16 * x + y := by rw [UInt8.toNat_ofNat']; omega
            rw [this]; omega
          exact put_one s hs i (i + 1 + 1 + 1) _ acc _ e (by omega) (by omega) r' hr2 (ih _ (by omega) (by omega))
  · have hn : ¬ ((c.toNat : Int) = 61) := fun h => hc ((u8_is c 61 (by omega)).1 (by omega))
    refine Ev.neg hn ?_
    exact j2_false s hs i c r acc hd hacc ih _ (by simp [signL, hc])
theorem j1_true (s : ByteArray) (hs : s.size ≤ 100000000) (i : Nat) (c : UInt8) (r acc : List UInt8) (hd : s.data.toList.drop i = c :: r) (hc : isBl c = true) (hacc : acc.length ≤ i) (ih : ∀ j, i < j → j ≤ s.size → RefAt s j) :
    Ev (fun k => muslinref02_Decode.j1 k s (intsOf acc) (i : Int) true) (outOf acc (c :: r)) := by
  obtain ⟨hb, hz, hr⟩ := at_drop hd
  obtain ⟨j, j1, j2, j3, j4⟩ := blanks_is s hs s.size i (by omega) (by omega)
  rw [hd] at j3
  have hdw : (c :: r).dropWhile isBl = r.dropWhile isBl := by rw [List.dropWhile_cons, if_pos hc]
  have hdl := dropWhile_len isBl r
  have hjl := congrArg List.length j3
  rw [List.length_drop, sizeL] at hjl
  have hij : i < j := by
    rw [hdw] at hjl
    omega
  have hst : outOf acc (c :: r) = ⟨(acc ++ ((blankL (c :: r) ((c :: r).dropWhile isBl)).1 ++ qpDec (blankL (c :: r) ((c :: r).dropWhile isBl)).2)).toArray⟩ := by
    unfold outOf
    rw [qpDec_step _ (by simp)]
    have : nextL (c :: r) = blankL (c :: r) ((c :: r).dropWhile isBl) := by
      unfold nextL
      rw [if_pos (by rw [hdw]; simp; omega)]
    rw [this]
  rw [hst]
  refine Ev.round (fun k => by rw [muslinref02_Decode.j1]) ?_
  refine Ev.pos rfl ?_
  refine Ev.bind (g := fun k => muslinref02_blanks.f k s (i : Int)) j4 ?_
  have he := eol_is s hs j j2
  rw [j3] at he
  generalize ht : (c :: r).dropWhile isBl = t at *
  have skip : blankL (c :: r) t = ([], t) → Ev (fun k => muslinref02_Decode.l0 k s (intsOf acc) (j : Int)) ⟨(acc ++ ((blankL (c :: r) t).1 ++ qpDec (blankL (c :: r) t).2)).toArray⟩ := by
    intro h
    rw [h]
    have := ih j hij j2 acc (by omega)
    rw [j3] at this
    exact this
  by_cases h0 : t = []
  · refine Ev.neg (by rw [h0] at hjl; simp only [List.length_nil] at hjl; omega) ?_
    exact skip (by unfold blankL; rw [if_pos (.inr h0)])
  · have htl := List.length_pos_iff.2 h0
    refine Ev.pos (by omega) ?_
    refine Ev.bind he ?_
    cases hen : endedL t with
    | some rest =>
      obtain ⟨p1, p2⟩ := eolN_pos hen
      refine Ev.neg (by omega) ?_
      exact skip (by unfold blankL; rw [if_pos (.inl (by rw [hen]; rfl))])
    | none =>
      rw [eolN_none hen]
      refine Ev.pos rfl ?_
      refine Ev.pos (by omega) ?_
      refine Ev.pos (by omega) ?_
      refine Ev.pos (by omega) ?_
      have hx : (s.extract (i : Int).toNat (j : Int).toNat).data.toList = (c :: r).take (j - i) := by
        rw [extract_list]
        show (s.data.toList.take j).drop i = _
        rw [List.drop_take, hd]
      have hxl : (s.extract (i : Int).toNat (j : Int).toNat).size ≤ j - i := by
        rw [← sizeL, hx, List.length_take]; omega
      refine Ev.pos (by rw [intsOf_length]; omega) ?_
      rw [bytesOf_ints, hx, ← intsOf_append]
      have := ih j hij j2 (acc ++ (c :: r).take (j - i)) (by rw [List.length_append, List.length_take]; omega)
      rw [j3] at this
      have hbk : blankL (c :: r) t = ((c :: r).take ((c :: r).length - t.length), t) := by unfold blankL; rw [if_neg (by simp [h0, hen])]
      rw [hbk]
      have hji : (c :: r).length - t.length = j - i := by simp only [List.length_cons]; omega
      rw [hji]
      unfold outOf at this
      rw [List.append_assoc] at this
      exact this
theorem ref_all (s : ByteArray) (hs : s.size ≤ 100000000) : ∀ (n i : Nat), s.size - i ≤ n → i ≤ s.size → RefAt s i := by
  intro n
  induction n with
  | zero =>
    intro i h1 h2 acc hacc
    have hd : s.data.toList.drop i = [] := List.drop_eq_nil_of_le (by rw [sizeL]; omega)
    rw [hd]
    refine Ev.round (fun k => by rw [muslinref02_Decode.l0]) ?_
    refine Ev.neg (by omega) ?_
    rw [strOf_ints]
    have : outOf acc [] = ⟨acc.toArray⟩ := by unfold outOf; rw [qpDec_nil, List.append_nil]
    rw [this]
    exact Ev.now _
  | succ n ih =>
    intro i h1 h2 acc hacc
    cases hd : s.data.toList.drop i with
    | nil =>
      have := at_end hd
      refine Ev.round (fun k => by rw [muslinref02_Decode.l0]) ?_
      refine Ev.neg (by omega) ?_
      rw [strOf_ints]
      have : outOf acc [] = ⟨acc.toArray⟩ := by unfold outOf; rw [qpDec_nil, List.append_nil]
      rw [this]
      exact Ev.now _
    | cons c r =>
      obtain ⟨hb, hz, hr⟩ := at_drop hd
      have ih2 : ∀ j, i < j → j ≤ s.size → RefAt s j := fun j hj hj2 => ih j (by omega) hj2
      refine Ev.round (fun k => by rw [muslinref02_Decode.l0]) ?_
      refine Ev.pos (by omega) ?_
      refine Ev.pos (by omega) ?_
      rw [hb]
      by_cases hc : isBl c = true
      · have jt := j1_true s hs i c r acc hd hc hacc ih2
        rcases (isBl_iff c).1 hc with h | h
        · refine Ev.pos (by omega) ?_
          exact jt
        · refine Ev.neg (by omega) ?_
          rw [show (((c.toNat : Int)) == 9) = true from beq_iff_eq.2 (by omega)]
          exact jt
      · have hn : ¬ (c.toNat = 32 ∨ c.toNat = 9) := fun h => hc ((isBl_iff c).2 h)
        refine Ev.neg (by omega) ?_
        rw [show (((c.toNat : Int)) == 9) = false from beq_eq_false_iff_ne.2 (by omega)]
        have hst : outOf acc (c :: r) = ⟨(acc ++ ((signL c r).1 ++ qpDec (signL c r).2)).toArray⟩ := by
          unfold outOf
          rw [qpDec_step _ (by simp)]
          have : nextL (c :: r) = signL c r := by
            unfold nextL
            rw [if_neg (by rw [List.dropWhile_cons, if_neg hc]; omega)]
          rw [this]
        rw [hst]
        exact j1_false s hs i c r acc hd hacc ih2
theorem refDecode_is (s : ByteArray) (hs : s.size ≤ 100000000) : Ev (fun k => muslinref02_Decode.f k s) (⟨(qpDec s.data.toList).toArray⟩ : ByteArray) := by
  have := ref_all s hs s.size 0 (by omega) (by omega) [] (by simp)
  rw [List.drop_zero] at this
  exact this
end Go.Proofs.YtjmeoplajfmieaaDoor.Pure
