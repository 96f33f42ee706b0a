/- Quoted-printable: the pure statement of QpJoined: lines are decoded line by line. -/
import Derived.Test.YtjmeoplajfmieaaDoorPure02e
namespace Go.Proofs.YtjmeoplajfmieaaDoor.Pure
open Go.RowKit Go.Lib Go.Proofs.YtjmeoplajfmieaaDoor Go.Proofs.YtjmeoplajfmieaaDoor.P Go.Proofs.YtjmeoplajfmieaaDoorW.PrintWords Go.Proofs.YtjmeoplajfmieaaDoorW.PrintLast
set_option linter.unusedVariables false
set_option linter.unusedSimpArgs false
/-- A line without an end. -/
def lineL (t : List UInt8) : Prop := ∀ c ∈ t, c ≠ 10 ∧ c ≠ 13
theorem bl_10 : ¬ isBl 10 = true := by decide
theorem drop_line (t y : List UInt8) : (t ++ 10 :: y).dropWhile isBl = t.dropWhile isBl ++ 10 :: y := by
  induction t with
  | nil => rw [List.nil_append, List.dropWhile_cons, if_neg bl_10]; rfl
  | cons c r ih =>
    by_cases h : isBl c = true
    · rw [List.cons_append, List.dropWhile_cons, if_pos h, ih, List.dropWhile_cons, if_pos h]
    · rw [List.cons_append, List.dropWhile_cons, if_neg h, List.dropWhile_cons, if_neg h]; rfl
theorem lineL_drop {t : List UInt8} (h : lineL t) : lineL (t.dropWhile isBl) := fun c hc => h c ((List.dropWhile_sublist isBl).subset hc)
theorem ended_line {t : List UInt8} (h : lineL t) (y : List UInt8) : endedL (t ++ 10 :: y) = if t = [] then some y else none := by
  cases t with
  | nil => rfl
  | cons c r =>
    have := h c (by simp)
    simp [endedL, this.1, this.2]
def hexTwo (oa ob : Option Nat) (l : List UInt8) : Option (UInt8 × List UInt8) := match oa, ob with | some x, some z => some (UInt8.ofNat (16 * x + z), l) | _, _ => none
def hexLine : List UInt8 → List UInt8 → Option (UInt8 × List UInt8)
  | a :: b :: r, y => hexTwo (hexV a) (hexV b) (r ++ 10 :: y)
  | _, _ => none
theorem hex2_line {t : List UInt8} (h : lineL t) (y : List UInt8) : hex2 (t ++ 10 :: y) = hexLine t y := by
  have h10 : hexV 10 = none := by decide
  match t, h with
  | [], _ =>
    cases y with
    | nil => rfl
    | cons b r =>
      show hex2 (10 :: b :: r) = none
      simp [hex2, h10]
  | [a], _ =>
    show hex2 (a :: 10 :: y) = none
    simp only [hex2, h10]
    cases hexV a <;> rfl
  | a :: b :: r, _ => rfl
/-- What the first step of a line takes does not look behind the line. -/
theorem joined : ∀ (n : Nat) (t y : List UInt8), t.length ≤ n → lineL t → qpDec (t ++ 10 :: y) = qpDec (t ++ [10]) ++ qpDec y := by
  have base : ∀ y, qpDec (10 :: y) = 10 :: qpDec y := fun y => dec_cons 10 y bl_10 (by decide)
  intro n
  induction n with
  | zero =>
    intro t y hn ht
    obtain rfl := List.eq_nil_of_length_eq_zero (by omega : t.length = 0)
    simp only [List.nil_append, base, qpDec_nil]
    rfl
  | succ n ih =>
    intro t y hn ht
    match t, ht, hn with
    | [], _, _ =>
      simp only [List.nil_append, base, qpDec_nil]
      rfl
    | c :: r, ht, hn =>
      have hr : lineL r := fun x hx => ht x (by simp [hx])
      have hrn : r.length ≤ n := by simpa using hn
      by_cases hb : isBl c = true
      · have hd := drop_line (c :: r) 
        have hsz := dropWhile_len isBl r
        have hdc : (c :: r).dropWhile isBl = r.dropWhile isBl := by rw [List.dropWhile_cons, if_pos hb]
        have step : ∀ z, qpDec ((c :: r) ++ 10 :: z) = (if r.dropWhile isBl = [] then [] else (c :: r).take ((c :: r).length - (r.dropWhile isBl).length)) ++ qpDec (r.dropWhile isBl ++ 10 :: z) := by
          intro z
          rw [qpDec_step _ (by simp)]
          have hn : nextL ((c :: r) ++ 10 :: z) = (if r.dropWhile isBl = [] then [] else (c :: r).take ((c :: r).length - (r.dropWhile isBl).length), r.dropWhile isBl ++ 10 :: z) := by
            unfold nextL
            rw [hd z, hdc, if_pos (by simp only [List.length_append, List.length_cons]; omega)]
            unfold blankL
            rw [ended_line (lineL_drop hr)]
            by_cases h0 : r.dropWhile isBl = []
            · rw [if_pos (by simp [h0]), if_pos h0]
            · rw [if_neg (by simp [h0]), if_neg h0]
              congr 1
              simp only [List.length_append, List.length_cons]
              rw [show r.length + 1 + (z.length + 1) - ((r.dropWhile isBl).length + (z.length + 1)) = r.length + 1 - (r.dropWhile isBl).length from by omega]
              rw [List.take_append_of_le_length (by simp)]
          rw [hn]
        rw [step y, step [], ih _ y (by omega) (lineL_drop hr), List.append_assoc]
      · by_cases h61 : c = 61
        · subst h61
          have step : ∀ z, qpDec ((61 :: r) ++ 10 :: z) = (signL 61 (r ++ 10 :: z)).1 ++ qpDec (signL 61 (r ++ 10 :: z)).2 := by
            intro z
            rw [qpDec_step _ (by simp)]
            rw [show (61 :: r) ++ 10 :: z = 61 :: (r ++ 10 :: z) from rfl, sign_next]
          rw [step y, step []]
          unfold signL
          simp only [if_true]
          rw [hex2_line hr, hex2_line hr]
          have aft : ∀ z, afterSign 61 (r ++ 10 :: z) = if r.dropWhile isBl = [] then ([], z) else ([61], r ++ 10 :: z) := by
            intro z
            unfold afterSign
            rw [drop_line, ended_line (lineL_drop hr)]
            by_cases h0 : r.dropWhile isBl = []
            · rw [if_pos h0, if_pos h0]
            · rw [if_neg h0, if_neg h0]
          have aftEq : (afterSign 61 (r ++ 10 :: y)).1 ++ qpDec (afterSign 61 (r ++ 10 :: y)).2 = ((afterSign 61 (r ++ [10])).1 ++ qpDec (afterSign 61 (r ++ [10])).2) ++ qpDec y := by
            rw [aft y, aft []]
            by_cases h0 : r.dropWhile isBl = []
            · rw [if_pos h0, if_pos h0]; simp [qpDec_nil]
            · rw [if_neg h0, if_neg h0]
              simp only
              rw [ih r y hrn hr, List.append_assoc]
          match r, hr, hrn, aftEq with
          | [], hr, hrn, aftEq => exact aftEq
          | [a], hr, hrn, aftEq => exact aftEq
          | a :: b :: r', hr, hrn, aftEq =>
            simp only [hexLine]
            generalize hexV a = oa
            generalize hexV b = ob
            match oa, ob with
            | none, _ => exact aftEq
            | some x, none => exact aftEq
            | some x, some z =>
              simp only [hexTwo]
              rw [ih r' y (by simp only [List.length_cons] at hrn; omega) (fun q hq => hr q (by simp [hq])), List.append_assoc]
        · show qpDec (c :: (r ++ 10 :: y)) = qpDec (c :: (r ++ [10])) ++ qpDec y
          rw [dec_cons c _ hb h61, dec_cons c _ hb h61, ih r y hrn hr]
          rfl
theorem strsL_at (l : List ByteArray) (i : Nat) (h : i < l.length) : rdOf ByteArray.empty l (i : Int) = l[i] := by
  unfold rdOf
  simp [h]
/-- The lines up to one, each with its end, and what they are decoded to. -/
def joinL (l : List ByteArray) : List UInt8 := l.flatMap fun t => t.data.toList ++ [10]
theorem joinL_dec : ∀ (l : List ByteArray) (y : List UInt8), (∀ t ∈ l, lineL t.data.toList) → qpDec (joinL l ++ y) = (l.flatMap fun t => qpDec (t.data.toList ++ [10])) ++ qpDec y
  | [], y, _ => rfl
  | t :: l, y, h => by
    have e : joinL (t :: l) ++ y = t.data.toList ++ 10 :: (joinL l ++ y) := by simp [joinL]
    rw [e, joined _ t.data.toList _ (Nat.le_refl _) (h t (by simp)), joinL_dec l y (fun x hx => h x (by simp [hx]))]
    simp
theorem joinL_snoc (l : List ByteArray) (t : ByteArray) : joinL (l ++ [t]) = joinL l ++ t.data.toList ++ [10] := by simp [joinL]
def decsL (l : List ByteArray) : List UInt8 := l.flatMap fun t => qpDec (t.data.toList ++ [10])
theorem decsL_snoc (l : List ByteArray) (t : ByteArray) : decsL (l ++ [t]) = decsL l ++ qpDec (t.data.toList ++ [10]) := by simp [decsL]
structure At (l : List ByteArray) (i : Nat) (s w : ByteArray) : Prop where
  lines : ∀ t ∈ l.take i, lineL t.data.toList
  isS : s.data.toList = joinL (l.take i)
  isW : w.data.toList = decsL (l.take i)
  szS : s.size ≤ 200 * i
  szW : w.size ≤ 200 * i
theorem end_lines (l : List ByteArray) (hl : l.length ≤ 30) (i : Nat) (s w : ByteArray) (hi : l.length ≤ i) (h2 : i ≤ 30) (h : At l i s w) : Ev (fun k => muslinlaw02_QpJoined.l0 k l s w (i : Int)) true := by
  refine Ev.round (fun k => by rw [muslinlaw02_QpJoined.l0]) ?_
  refine Ev.neg (by omega) ?_
  refine Ev.got (x := qp_Decode.f s) (guard_of (by have := h.szS; omega)) ?_
  refine Ev.pos ?_ live_end
  rw [toList_eq, toList_eq, mk_toList, h.isS, h.isW]
  have := joinL_dec (l.take i) [] h.lines
  rw [List.append_nil, qpDec_nil, List.append_nil] at this
  exact this
theorem line_loop (l : List ByteArray) (hl : l.length ≤ 30) (i : Nat) (s w : ByteArray) (hi : i < l.length) (h : At l i s w) (hz : (l[i]).size ≤ 100)
    (next : ∀ s' w', At l (i + 1) s' w' → Ev (fun k => muslinlaw02_QpJoined.l0 k l s' w' ((i + 1 : Nat) : Int)) true) :
    ∀ (n k : Nat), (l[i]).size - k ≤ n → k ≤ (l[i]).size → (∀ c ∈ (l[i]).data.toList.take k, c ≠ 10 ∧ c ≠ 13) → Ev (fun r => muslinlaw02_QpJoined.l1 r l s w (i : Int) l[i] (k : Int)) true := by
  have fin : ∀ k, (l[i]).size ≤ k → (∀ c ∈ (l[i]).data.toList.take k, c ≠ 10 ∧ c ≠ 13) → Ev (fun r => muslinlaw02_QpJoined.l1 r l s w (i : Int) l[i] (k : Int)) true := by
    intro k hk hc
    rw [List.take_of_length_le (by rw [sizeL]; omega)] at hc
    have e0 : l[i] ++ (⟨#[10]⟩ : ByteArray) = ⟨((l[i]).data.toList ++ [10]).toArray⟩ := by
      have := ba_append (l[i]).data.toList [10]
      rw [mk_back] at this
      exact this
    have z0 : (⟨((l[i]).data.toList ++ [10]).toArray⟩ : ByteArray).size = (l[i]).size + 1 := by rw [mk_size, List.length_append, sizeL]; rfl
    have dl := qpDec_len _ ((l[i]).data.toList ++ [10]) (Nat.le_refl _)
    have el : ((l[i]).data.toList ++ [10]).length = (l[i]).size + 1 := by rw [List.length_append, sizeL]; rfl
    have hAt := h.szS
    have hAw := h.szW
    refine Ev.round (fun k => by rw [muslinlaw02_QpJoined.l1]) ?_
    refine Ev.neg (by omega) ?_
    refine Ev.pos (by omega) ?_
    refine Ev.got (x := qp_Decode.f (l[i] ++ (⟨#[10]⟩ : ByteArray))) (by rw [e0]; exact guard_of (by omega)) ?_
    rw [mk_toList]
    by_cases h0 : (⟨(qpDec ((l[i]).data.toList ++ [10])).toArray⟩ : ByteArray).toList = []
    · exact Ev.pos h0 live_end
    · refine Ev.neg h0 ?_
      rw [toList_eq, mk_toList] at h0
      have hpos := List.length_pos_iff.2 h0
      have zd : (⟨(qpDec ((l[i]).data.toList ++ [10])).toArray⟩ : ByteArray).size = (qpDec ((l[i]).data.toList ++ [10])).length := mk_size _
      rw [w64 (by omega) (by omega)]
      refine Ev.pos (by omega) ?_
      refine Ev.pos (by omega) ?_
      by_cases h10 : bt (⟨(qpDec ((l[i]).data.toList ++ [10])).toArray⟩ : ByteArray) (((⟨(qpDec ((l[i]).data.toList ++ [10])).toArray⟩ : ByteArray).size : Int) - 1) = 10
      · refine Ev.pos h10 ?_
        refine Ev.pos (by omega) ?_
        refine Ev.pos (by rw [ByteArray.size_append]; omega) ?_
        refine Ev.pos (by omega) ?_
        rw [w64 (by omega) (by omega), show ((i : Int) + 1) = ((i + 1 : Nat) : Int) from by omega]
        refine next _ _ ⟨?_, ?_, ?_, ?_, ?_⟩
        · intro t ht
          rw [List.take_succ_eq_append_getElem hi] at ht
          rcases List.mem_append.1 ht with h4 | h4
          · exact h.lines t h4
          · simp only [List.mem_singleton] at h4
            rw [h4]
            exact hc
        · rw [List.take_succ_eq_append_getElem hi, joinL_snoc, ← h.isS]
          simp
        · rw [List.take_succ_eq_append_getElem hi, decsL_snoc, ← h.isW]
          simp
        · rw [ByteArray.size_append, ByteArray.size_append]
          have : (⟨#[10]⟩ : ByteArray).size = 1 := rfl
          omega
        · rw [ByteArray.size_append]
          omega
      · exact Ev.neg h10 live_end
  intro n
  induction n with
  | zero => intro k h1 h2 h3; exact fin k (by omega) h3
  | succ n ih =>
    intro k h1 h2 h3
    cases hd : (l[i]).data.toList.drop k with
    | nil => exact fin k (at_end hd) h3
    | cons c r =>
      obtain ⟨hb, hz2, hr⟩ := at_drop hd
      refine Ev.round (fun k => by rw [muslinlaw02_QpJoined.l1]) ?_
      refine Ev.pos (by omega) ?_
      refine Ev.pos (by omega) ?_
      rw [hb]
      by_cases c1 : (c.toNat : Int) = 10
      · exact Ev.pos c1 live_end
      · refine Ev.neg c1 ?_
        by_cases c2 : (c.toNat : Int) = 13
        · exact Ev.pos c2 live_end
        · refine Ev.neg c2 ?_
          rw [w64 (by omega) (by omega), show ((k : Int) + 1) = ((k + 1 : Nat) : Int) from by omega]
          refine ih (k + 1) (by omega) (by omega) ?_
          intro x hx
          have hi2 : k < (l[i]).data.toList.length := by rw [sizeL]; omega
          rw [List.take_succ_eq_append_getElem hi2] at hx
          rcases List.mem_append.1 hx with h4 | h4
          · exact h3 x h4
          · have e : (l[i]).data.toList[k] = c := by
              have := List.drop_eq_getElem_cons hi2
              rw [hd] at this
              injection this with h5 h6
              exact h5.symm
            simp only [List.mem_singleton] at h4
            rw [h4, e]
            exact ⟨fun h => c1 (by rw [h]; rfl), fun h => c2 (by rw [h]; rfl)⟩
theorem lines_all (l : List ByteArray) (hl : l.length ≤ 30) : ∀ (n i : Nat) (s w : ByteArray), l.length - i ≤ n → i ≤ l.length → At l i s w → Ev (fun k => muslinlaw02_QpJoined.l0 k l s w (i : Int)) true := by
  intro n
  induction n with
  | zero => intro i s w h1 h2 h; exact end_lines l hl i s w (by omega) (by omega) h
  | succ n ih =>
    intro i s w h1 h2 h
    by_cases hi : i < l.length
    · refine Ev.round (fun k => by rw [muslinlaw02_QpJoined.l0]) ?_
      refine Ev.pos (by omega) ?_
      refine Ev.pos (by omega) ?_
      rw [strsL_at l i hi]
      by_cases hz : (l[i]).size ≤ 100
      · refine Ev.neg (by omega) ?_
        exact line_loop l hl i s w hi h hz (fun s' w' h' => ih (i + 1) s' w' (by omega) (by omega) h') _ 0 (Nat.le_refl _) (by omega) (by simp)
      · exact Ev.pos (by omega) live_end
    · exact end_lines l hl i s w (by omega) (by omega) h
theorem QpJoined : ∀ l : List ByteArray, l.length ≤ maxLen → (∀ s ∈ l, s.size ≤ maxLen) → ∃ k, muslinlaw02_QpJoined.f k l = some true := by
  intro l _ _
  refine Ev.rounds (r := true) (g := fun k => muslinlaw02_QpJoined.f k l) ?_
  unfold muslinlaw02_QpJoined.f
  by_cases h : (l.length : Int) > 30
  · exact Ev.pos h live_end
  · refine Ev.neg h ?_
    exact lines_all l (by omega) l.length 0 _ _ (by omega) (by omega) ⟨by simp, rfl, rfl, by decide, by decide⟩
end Go.Proofs.YtjmeoplajfmieaaDoor.Pure
