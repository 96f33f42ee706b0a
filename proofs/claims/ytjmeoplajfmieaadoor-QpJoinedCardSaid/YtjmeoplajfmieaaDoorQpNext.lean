/- What a text begins with, decoded: plain Lean out of the printed 'next'. -/
import Derived.Test.YtjmeoplajfmieaaDoorQ
import Derived.Test.YtjmeoplajfmieaaDoorQpHex
namespace Go.Proofs.YtjmeoplajfmieaaDoor.Pure
open Go.RowKit Go.Lib Go.Proofs.YtjmeoplajfmieaaDoor Go.Proofs.YtjmeoplajfmieaaDoor.Q Go.Proofs.YtjmeoplajfmieaaDoorW.PrintWords Go.Proofs.YtjmeoplajfmieaaDoorW.PrintLast
set_option linter.unusedVariables false
set_option linter.unusedSimpArgs false

def isBl (c : UInt8) : Bool := [(32 : UInt8), 9].contains c
/-- Behind a line's end. -/
def endedL : List UInt8 → Option (List UInt8)
  | [] => none
  | c :: r => if c = 10 then some r else if c = 13 then (match r with | [] => none | d :: r' => if d = 10 then some r' else none) else none
def hex2 : List UInt8 → Option (UInt8 × List UInt8)
  | a :: b :: r => (match hexV a, hexV b with | some x, some y => some (UInt8.ofNat (16 * x + y), r) | _, _ => none)
  | _ => none
def afterSign (c : UInt8) (r : List UInt8) : List UInt8 × List UInt8 :=
  match endedL (r.dropWhile isBl) with | some rest => ([], rest) | none => ([c], r)
def signL (c : UInt8) (r : List UInt8) : List UInt8 × List UInt8 :=
  if c = 61 then (match hex2 r with | some (n, r') => ([n], r') | none => afterSign c r) else ([c], r)
def blankL (l t : List UInt8) : List UInt8 × List UInt8 :=
  if (endedL t).isSome = true ∨ t = [] then ([], t) else (l.take (l.length - t.length), t)
def nextL (l : List UInt8) : List UInt8 × List UInt8 :=
  if (l.dropWhile isBl).length < l.length then blankL l (l.dropWhile isBl)
  else match l with | [] => ([], []) | c :: r => signL c r
theorem ended_is (s : ByteArray) : qp_ended.f s = some (match endedL s.data.toList with | some r => (⟨r.toArray⟩, true) | none => (s, false)) := by
  unfold qp_ended.f strings_TrimPrefix.f strings_CutPrefix.f
  simp only [Option.bind_some]
  show (if Lib.hasPrefix (Lib.trimPrefix s.data.toList [13]) [10] = true then some (⟨(Lib.trimPrefix (Lib.trimPrefix s.data.toList [13]) [10]).toArray⟩, true) else some (s, false)) = _
  generalize s.data.toList = l
  cases l with
  | nil => rfl
  | cons c r =>
    by_cases h13 : c = 13
    · subst h13
      cases r with
      | nil => simp [Lib.trimPrefix, Lib.hasPrefix, endedL]
      | cons d r' =>
        by_cases hd : d = 10
        · subst hd; simp [Lib.trimPrefix, Lib.hasPrefix, endedL]
        · have hd' : ¬ 10 = d := fun h => hd h.symm
          simp [Lib.trimPrefix, Lib.hasPrefix, endedL, hd, hd']
    · have h13' : ¬ 13 = c := fun h => h13 h.symm
      by_cases h10 : c = 10
      · subst h10; simp [Lib.trimPrefix, Lib.hasPrefix, endedL]
      · have h10' : ¬ 10 = c := fun h => h10 h.symm
        simp [Lib.trimPrefix, Lib.hasPrefix, endedL, h10, h10', h13, h13']
theorem trimL_is (s : ByteArray) : strings_TrimLeft.f s (⟨#[32, 9]⟩ : ByteArray) = some ⟨(s.data.toList.dropWhile isBl).toArray⟩ := by
  unfold strings_TrimLeft.f
  rw [if_pos ⟨by decide, by decide⟩]
  rfl
theorem dropWhile_len (p : UInt8 → Bool) (l : List UInt8) : (l.dropWhile p).length ≤ l.length := by
  have := (List.dropWhile_suffix p (l := l)).length_le
  exact this
theorem extract_tail (s : ByteArray) (c : UInt8) (r : List UInt8) (h : s.data.toList = c :: r) : s.extract 1 s.size = ⟨r.toArray⟩ ∧ s.extract 0 1 = ⟨#[c]⟩ := by
  have hl : s.size = (c :: r).length := by rw [← h]; simp
  constructor
  · apply ba_ext; rw [extract_list, h, mk_toList, hl]; simp
  · apply ba_ext; rw [extract_list, h]; rfl
theorem j0_is (s : ByteArray) (c : UInt8) (r : List UInt8) (h : s.data.toList = c :: r) : Ev (fun k => qp_next.j0 k s) ((⟨(afterSign c r).1.toArray⟩ : ByteArray), (⟨(afterSign c r).2.toArray⟩ : ByteArray)) := by
  have hl : s.size = (c :: r).length := by rw [← h]; simp
  simp only [List.length_cons] at hl
  obtain ⟨e1, e2⟩ := extract_tail s c r h
  refine Ev.round (fun k => by rw [qp_next.j0]) ?_
  refine Ev.pos (by omega) ?_
  rw [e1, e2]
  refine Ev.got (trimL_is _) ?_
  refine Ev.got (ended_is _) ?_
  rw [mk_toList, mk_toList]
  unfold afterSign
  cases he : endedL (r.dropWhile isBl) with
  | some rest =>
    refine Ev.pos rfl ?_
    exact Ev.now _
  | none =>
    refine Ev.neg Bool.false_ne_true ?_
    refine Ev.pos (by omega) ?_
    exact Ev.now _
theorem num_mod (x y : Nat) (hx : x < 16) (hy : y < 16) : strOfNums ([((16 * (x : Int) + (y : Int)) % 256)] : List Int) = ⟨[UInt8.ofNat (16 * x + y)].toArray⟩ := by
  have e : ((16 * (x : Int) + (y : Int)) % 256) = ((UInt8.ofNat (16 * x + y)).toNat : Int) := by
    have : (UInt8.ofNat (16 * x + y)).toNat = 16 * x + y := by rw [UInt8.toNat_ofNat']; omega
    rw [this]; omega
  rw [e]
  exact strOf_ints [UInt8.ofNat (16 * x + y)]
theorem next_is (s : ByteArray) (hs : s.size ≤ 140737488355328) (hne : s.data.toList ≠ []) :
    Ev (fun k => qp_next.f k s) ((⟨(nextL s.data.toList).1.toArray⟩ : ByteArray), (⟨(nextL s.data.toList).2.toArray⟩ : ByteArray)) := by
  obtain ⟨c, r, h⟩ := List.exists_cons_of_ne_nil hne
  have hl : s.size = r.length + 1 := by
    have : s.size = (c :: r).length := by rw [← h]; simp
    simpa using this
  unfold qp_next.f
  refine Ev.got (trimL_is _) ?_
  have hd := dropWhile_len isBl s.data.toList
  have hsz := sizeL s
  unfold nextL
  generalize ht : s.data.toList.dropWhile isBl = t at *
  rw [mk_size]
  by_cases hlt : t.length < s.data.toList.length
  · rw [if_pos hlt]
    refine Ev.pos (by omega) ?_
    refine Ev.got (ended_is _) ?_
    rw [mk_toList]
    cases he : endedL t with
    | some rest =>
      have hb : blankL s.data.toList t = ([], t) := by unfold blankL; rw [if_pos (.inl (by rw [he]; rfl))]
      rw [hb]
      refine Ev.pos rfl ?_
      exact Ev.now _
    | none =>
      refine Ev.neg Bool.false_ne_true ?_
      by_cases h0 : t = []
      · refine Ev.pos (by rw [toList_eq, mk_toList]; exact h0) ?_
        have hb : blankL s.data.toList t = ([], t) := by unfold blankL; rw [if_pos (.inr h0)]
        rw [hb]
        exact Ev.now _
      · refine Ev.neg (by rw [toList_eq, mk_toList]; exact h0) ?_
        have hb : blankL s.data.toList t = (s.data.toList.take (s.data.toList.length - t.length), t) := by unfold blankL; rw [if_neg (by simp [h0, he])]
        rw [hb]
        rw [w64 (by omega) (by omega)]
        refine Ev.pos (by omega) ?_
        refine Ev.pos (by omega) ?_
        have e3 : s.extract 0 ((s.size : Int) - (t.length : Int)).toNat = ⟨(s.data.toList.take (s.data.toList.length - t.length)).toArray⟩ := by
          apply ba_ext
          rw [extract_list, mk_toList, List.drop_zero, show ((s.size : Int) - (t.length : Int)).toNat = s.data.toList.length - t.length from by omega]
        rw [e3]
        exact Ev.now _
  · rw [if_neg hlt]
    refine Ev.neg (by omega) ?_
    refine Ev.pos (by omega) ?_
    obtain ⟨e1, e2⟩ := extract_tail s c r h
    have hb : bt s 0 = (c.toNat : Int) := by
      have := bt_get s 0 (by rw [h]; simp)
      rw [show ((0 : Nat) : Int) = 0 from rfl] at this
      rw [this]
      simp [h]
    rw [hb, h]
    show Ev _ ((⟨(signL c r).1.toArray⟩ : ByteArray), (⟨(signL c r).2.toArray⟩ : ByteArray))
    by_cases hc : c = 61
    · refine Ev.pos (by rw [hc]; rfl) ?_
      match r, h, hl with
      | a :: b :: r', h, hl =>
        simp only [List.length_cons] at hl
        refine Ev.pos (by omega) ?_
        refine Ev.pos (by omega) ?_
        refine Ev.pos (by omega) ?_
        have e3 : s.extract 1 3 = ⟨#[a, b]⟩ := by apply ba_ext; rw [extract_list, h]; rfl
        have e4 : s.extract 3 s.size = ⟨r'.toArray⟩ := by
          apply ba_ext; rw [extract_list, h, mk_toList, hl]; simp
        rw [e3, e4]
        have hx := hex_two a b
        cases hva : hexV a with
        | none =>
          have hs2 : signL c (a :: b :: r') = afterSign c (a :: b :: r') := by simp [signL, hex2, hva, hc]
          rw [hs2]
          rw [hva] at hx
          refine Ev.got hx ?_
          refine Ev.neg Bool.false_ne_true ?_
          exact j0_is s c _ h
        | some x =>
          cases hvb : hexV b with
          | none =>
            have hs2 : signL c (a :: b :: r') = afterSign c (a :: b :: r') := by simp [signL, hex2, hva, hvb, hc]
            rw [hs2]
            rw [hva, hvb] at hx
            refine Ev.got hx ?_
            refine Ev.neg Bool.false_ne_true ?_
            exact j0_is s c _ h
          | some y =>
            have hs2 : signL c (a :: b :: r') = ([UInt8.ofNat (16 * x + y)], r') := by simp [signL, hex2, hva, hvb, hc]
            rw [hs2]
            rw [hva, hvb] at hx
            refine Ev.got hx ?_
            refine Ev.pos rfl ?_
            show Ev (fun k => some (strOfNums ([((16 * (x : Int) + (y : Int)) % 256)] : List Int), _)) _
            rw [num_mod x y (hexV_lt hva) (hexV_lt hvb)]
            exact Ev.now _
      | [], h, hl =>
        have hs2 : signL c [] = afterSign c [] := by simp [signL, hex2, hc]
        rw [hs2]
        simp only [List.length_nil] at hl
        refine Ev.neg (by omega) ?_
        exact j0_is s c _ h
      | [a], h, hl =>
        have hs2 : signL c [a] = afterSign c [a] := by simp [signL, hex2, hc]
        rw [hs2]
        simp only [List.length_cons, List.length_nil] at hl
        refine Ev.neg (by omega) ?_
        exact j0_is s c _ h
    · have hs2 : signL c r = ([c], r) := by simp [signL, hc]
      rw [hs2]
      refine Ev.neg (by intro h'; apply hc; apply UInt8.toNat_inj.1; show c.toNat = 61; omega) ?_
      refine Ev.pos (by omega) ?_
      refine Ev.pos (by omega) ?_
      rw [e1, e2]
      exact Ev.now _
theorem hex2_len {r r' : List UInt8} {n : UInt8} (h : hex2 r = some (n, r')) : r.length = r'.length + 2 := by
  match r with
  | [] => cases h
  | [_] => cases h
  | a :: b :: r =>
    cases hva : hexV a with
    | none => simp [hex2, hva] at h
    | some x =>
      cases hvb : hexV b with
      | none => simp [hex2, hva, hvb] at h
      | some y =>
        simp [hex2, hva, hvb] at h
        rw [← h.2]
        rfl
theorem endedL_len {l rest : List UInt8} (h : endedL l = some rest) : rest.length < l.length := by
  match l with
  | [] => cases h
  | c :: r =>
    by_cases h10 : c = 10
    · simp [endedL, h10] at h
      subst h; simp
    · by_cases h13 : c = 13
      · match r with
        | [] => simp [endedL, h10, h13] at h
        | d :: r' =>
          by_cases hd : d = 10
          · simp [endedL, h10, h13, hd] at h
            subst h; simp; omega
          · simp [endedL, h10, h13, hd] at h
      · simp [endedL, h10, h13] at h
/-- It always takes a byte at least, and gives no more than it takes. -/
theorem nextL_len (l : List UInt8) (h : l ≠ []) : (nextL l).2.length < l.length ∧ (nextL l).1.length + (nextL l).2.length ≤ l.length := by
  unfold nextL
  split
  · rename_i hlt
    unfold blankL
    split
    · simp only [List.length_nil]; omega
    · simp only [List.length_take]; omega
  · obtain ⟨c, r, rfl⟩ := List.exists_cons_of_ne_nil h
    simp only
    have hd := dropWhile_len isBl r
    have aft : (afterSign c r).2.length < (c :: r).length ∧ (afterSign c r).1.length + (afterSign c r).2.length ≤ (c :: r).length := by
      unfold afterSign
      cases he : endedL (r.dropWhile isBl) with
      | some rest => have := endedL_len he; simp; omega
      | none => simp; omega
    unfold signL
    split
    · cases hx : hex2 r with
      | some p =>
        obtain ⟨n, r'⟩ := p
        have := hex2_len hx
        simp; omega
      | none => exact aft
    · simp; omega
end Go.Proofs.YtjmeoplajfmieaaDoor.Pure
