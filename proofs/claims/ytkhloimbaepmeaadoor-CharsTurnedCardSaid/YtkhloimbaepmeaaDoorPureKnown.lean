/- Labels: what the two ways to an alphabet's name come to. -/
import Derived.Test.YtkhloimbaepmeaaDoorP1
import Derived.Test.YtkhloimbaepmeaaDoorP2
import Derived.Test.YtkhloimbaepmeaaDoorP3
import Derived.Test.YtkhloimbaepmeaaDoorPureChars
namespace Go.Proofs.YtkhloimbaepmeaaDoor.Pure
open Go.RowKit Go.Proofs.YtkhloimbaepmeaaDoor.P Go.Proofs.YtkhloimbaepmeaaDoorW.PrintWords Go.Proofs.YtkhloimbaepmeaaDoorW.PrintLast
set_option linter.unusedVariables false
set_option linter.unusedSimpArgs false
/-- The name in whose row a label stands. -/
def knownL (t : List UInt8) : ByteArray × Bool :=
  if t = [117, 116, 102, 45, 56] ∨ t = [117, 116, 102, 56] ∨ t = [117, 110, 105, 99, 111, 100, 101, 45, 49, 45, 49, 45, 117, 116, 102, 45, 56] then ((⟨#[117, 116, 102, 45, 56]⟩ : ByteArray), true)
  else if t = [119, 105, 110, 100, 111, 119, 115, 45, 49, 50, 53, 50] ∨ t = [99, 112, 49, 50, 53, 50] ∨ t = [117, 115, 45, 97, 115, 99, 105, 105] ∨ t = [97, 115, 99, 105, 105] ∨ t = [105, 115, 111, 45, 56, 56, 53, 57, 45, 49] ∨ t = [105, 115, 111, 56, 56, 53, 57, 45, 49] ∨ t = [108, 97, 116, 105, 110, 49] ∨ t = [108, 49] then ((⟨#[119, 105, 110, 100, 111, 119, 115, 45, 49, 50, 53, 50]⟩ : ByteArray), true)
  else if t = [117, 116, 102, 45, 49, 54, 108, 101] ∨ t = [117, 116, 102, 45, 49, 54] ∨ t = [117, 110, 105, 99, 111, 100, 101] ∨ t = [117, 99, 115, 45, 50] then ((⟨#[117, 116, 102, 45, 49, 54, 108, 101]⟩ : ByteArray), true)
  else if t = [117, 116, 102, 45, 49, 54, 98, 101] ∨ t = [117, 110, 105, 99, 111, 100, 101, 102, 102, 102, 101] then ((⟨#[117, 116, 102, 45, 49, 54, 98, 101]⟩ : ByteArray), true)
  else ((⟨#[]⟩ : ByteArray), false)
set_option maxHeartbeats 1000000 in
theorem chars_Known_tail (t : ByteArray) : Ev (fun k => if t.toList = ([117, 116, 102, 45, 56] : List UInt8) then chars_Known.j0 k t (t.toList == ([117, 116, 102, 45, 56] : List UInt8)) else if t.toList = ([117, 116, 102, 56] : List UInt8) then chars_Known.j0 k t (t.toList == ([117, 116, 102, 56] : List UInt8)) else chars_Known.j0 k t (t.toList == ([117, 110, 105, 99, 111, 100, 101, 45, 49, 45, 49, 45, 117, 116, 102, 45, 56] : List UInt8))) (knownL t.data.toList) := by
  rw [← toList_eq]
  refine Ev.of (k := 3) (fun k => ?_) ?_
  · intro r h
    have m := fun x y => (chars_Known.mono_l k).1 x y
    split at h
    · rename_i c; rw [if_pos c]; exact m _ _ _ h
    · rename_i c; rw [if_neg c]
      split at h
      · rename_i c2; rw [if_pos c2]; exact m _ _ _ h
      · rename_i c2; rw [if_neg c2]; exact m _ _ _ h
  by_cases h0 : t.toList = [117, 116, 102, 45, 56]
  · simp [chars_Known.j0, chars_Known.j1, chars_Known.j2, h0, knownL]
  by_cases h1 : t.toList = [117, 116, 102, 56]
  · simp [chars_Known.j0, chars_Known.j1, chars_Known.j2, h1, knownL]
  by_cases h2 : t.toList = [117, 110, 105, 99, 111, 100, 101, 45, 49, 45, 49, 45, 117, 116, 102, 45, 56]
  · simp [chars_Known.j0, chars_Known.j1, chars_Known.j2, h2, knownL]
  by_cases h3 : t.toList = [119, 105, 110, 100, 111, 119, 115, 45, 49, 50, 53, 50]
  · simp [chars_Known.j0, chars_Known.j1, chars_Known.j2, h3, knownL]
  by_cases h4 : t.toList = [99, 112, 49, 50, 53, 50]
  · simp [chars_Known.j0, chars_Known.j1, chars_Known.j2, h4, knownL]
  by_cases h5 : t.toList = [117, 115, 45, 97, 115, 99, 105, 105]
  · simp [chars_Known.j0, chars_Known.j1, chars_Known.j2, h5, knownL]
  by_cases h6 : t.toList = [97, 115, 99, 105, 105]
  · simp [chars_Known.j0, chars_Known.j1, chars_Known.j2, h6, knownL]
  by_cases h7 : t.toList = [105, 115, 111, 45, 56, 56, 53, 57, 45, 49]
  · simp [chars_Known.j0, chars_Known.j1, chars_Known.j2, h7, knownL]
  by_cases h8 : t.toList = [105, 115, 111, 56, 56, 53, 57, 45, 49]
  · simp [chars_Known.j0, chars_Known.j1, chars_Known.j2, h8, knownL]
  by_cases h9 : t.toList = [108, 97, 116, 105, 110, 49]
  · simp [chars_Known.j0, chars_Known.j1, chars_Known.j2, h9, knownL]
  by_cases h10 : t.toList = [108, 49]
  · simp [chars_Known.j0, chars_Known.j1, chars_Known.j2, h10, knownL]
  by_cases h11 : t.toList = [117, 116, 102, 45, 49, 54, 108, 101]
  · simp [chars_Known.j0, chars_Known.j1, chars_Known.j2, h11, knownL]
  by_cases h12 : t.toList = [117, 116, 102, 45, 49, 54]
  · simp [chars_Known.j0, chars_Known.j1, chars_Known.j2, h12, knownL]
  by_cases h13 : t.toList = [117, 110, 105, 99, 111, 100, 101]
  · simp [chars_Known.j0, chars_Known.j1, chars_Known.j2, h13, knownL]
  by_cases h14 : t.toList = [117, 99, 115, 45, 50]
  · simp [chars_Known.j0, chars_Known.j1, chars_Known.j2, h14, knownL]
  by_cases h15 : t.toList = [117, 116, 102, 45, 49, 54, 98, 101]
  · simp [chars_Known.j0, chars_Known.j1, chars_Known.j2, h15, knownL]
  by_cases h16 : t.toList = [117, 110, 105, 99, 111, 100, 101, 102, 102, 102, 101]
  · simp [chars_Known.j0, chars_Known.j1, chars_Known.j2, h16, knownL]
  simp [chars_Known.j0, chars_Known.j1, chars_Known.j2, knownL, h0, h1, h2, h3, h4, h5, h6, h7, h8, h9, h10, h11, h12, h13, h14, h15, h16]
set_option maxHeartbeats 1000000 in
theorem muslinref04_Known_tail (t : ByteArray) : Ev (fun k => if t.toList = ([117, 116, 102, 45, 56] : List UInt8) then muslinref04_Known.j0 k t (t.toList == ([117, 116, 102, 45, 56] : List UInt8)) else if t.toList = ([117, 116, 102, 56] : List UInt8) then muslinref04_Known.j0 k t (t.toList == ([117, 116, 102, 56] : List UInt8)) else muslinref04_Known.j0 k t (t.toList == ([117, 110, 105, 99, 111, 100, 101, 45, 49, 45, 49, 45, 117, 116, 102, 45, 56] : List UInt8))) (knownL t.data.toList) := by
  rw [← toList_eq]
  refine Ev.of (k := 3) (fun k => ?_) ?_
  · intro r h
    have m := fun x y => (muslinref04_Known.mono_l k).1 x y
    split at h
    · rename_i c; rw [if_pos c]; exact m _ _ _ h
    · rename_i c; rw [if_neg c]
      split at h
      · rename_i c2; rw [if_pos c2]; exact m _ _ _ h
      · rename_i c2; rw [if_neg c2]; exact m _ _ _ h
  by_cases h0 : t.toList = [117, 116, 102, 45, 56]
  · simp [muslinref04_Known.j0, muslinref04_Known.j1, muslinref04_Known.j2, h0, knownL]
  by_cases h1 : t.toList = [117, 116, 102, 56]
  · simp [muslinref04_Known.j0, muslinref04_Known.j1, muslinref04_Known.j2, h1, knownL]
  by_cases h2 : t.toList = [117, 110, 105, 99, 111, 100, 101, 45, 49, 45, 49, 45, 117, 116, 102, 45, 56]
  · simp [muslinref04_Known.j0, muslinref04_Known.j1, muslinref04_Known.j2, h2, knownL]
  by_cases h3 : t.toList = [119, 105, 110, 100, 111, 119, 115, 45, 49, 50, 53, 50]
  · simp [muslinref04_Known.j0, muslinref04_Known.j1, muslinref04_Known.j2, h3, knownL]
  by_cases h4 : t.toList = [99, 112, 49, 50, 53, 50]
  · simp [muslinref04_Known.j0, muslinref04_Known.j1, muslinref04_Known.j2, h4, knownL]
  by_cases h5 : t.toList = [117, 115, 45, 97, 115, 99, 105, 105]
  · simp [muslinref04_Known.j0, muslinref04_Known.j1, muslinref04_Known.j2, h5, knownL]
  by_cases h6 : t.toList = [97, 115, 99, 105, 105]
  · simp [muslinref04_Known.j0, muslinref04_Known.j1, muslinref04_Known.j2, h6, knownL]
  by_cases h7 : t.toList = [105, 115, 111, 45, 56, 56, 53, 57, 45, 49]
  · simp [muslinref04_Known.j0, muslinref04_Known.j1, muslinref04_Known.j2, h7, knownL]
  by_cases h8 : t.toList = [105, 115, 111, 56, 56, 53, 57, 45, 49]
  · simp [muslinref04_Known.j0, muslinref04_Known.j1, muslinref04_Known.j2, h8, knownL]
  by_cases h9 : t.toList = [108, 97, 116, 105, 110, 49]
  · simp [muslinref04_Known.j0, muslinref04_Known.j1, muslinref04_Known.j2, h9, knownL]
  by_cases h10 : t.toList = [108, 49]
  · simp [muslinref04_Known.j0, muslinref04_Known.j1, muslinref04_Known.j2, h10, knownL]
  by_cases h11 : t.toList = [117, 116, 102, 45, 49, 54, 108, 101]
  · simp [muslinref04_Known.j0, muslinref04_Known.j1, muslinref04_Known.j2, h11, knownL]
  by_cases h12 : t.toList = [117, 116, 102, 45, 49, 54]
  · simp [muslinref04_Known.j0, muslinref04_Known.j1, muslinref04_Known.j2, h12, knownL]
  by_cases h13 : t.toList = [117, 110, 105, 99, 111, 100, 101]
  · simp [muslinref04_Known.j0, muslinref04_Known.j1, muslinref04_Known.j2, h13, knownL]
  by_cases h14 : t.toList = [117, 99, 115, 45, 50]
  · simp [muslinref04_Known.j0, muslinref04_Known.j1, muslinref04_Known.j2, h14, knownL]
  by_cases h15 : t.toList = [117, 116, 102, 45, 49, 54, 98, 101]
  · simp [muslinref04_Known.j0, muslinref04_Known.j1, muslinref04_Known.j2, h15, knownL]
  by_cases h16 : t.toList = [117, 110, 105, 99, 111, 100, 101, 102, 102, 102, 101]
  · simp [muslinref04_Known.j0, muslinref04_Known.j1, muslinref04_Known.j2, h16, knownL]
  simp [muslinref04_Known.j0, muslinref04_Known.j1, muslinref04_Known.j2, knownL, h0, h1, h2, h3, h4, h5, h6, h7, h8, h9, h10, h11, h12, h13, h14, h15, h16]

def rdrop (p : UInt8 → Bool) (l : List UInt8) : List UInt8 := (l.reverse.dropWhile p).reverse
theorem rdrop_cons (p : UInt8 → Bool) (x : UInt8) (xs : List UInt8) : rdrop p (x :: xs) = if rdrop p xs = [] then (if p x then [] else [x]) else x :: rdrop p xs := by
  unfold rdrop
  rw [List.reverse_cons, List.dropWhile_append]
  by_cases h : xs.reverse.dropWhile p = []
  · simp only [h, List.isEmpty_nil, if_true, List.reverse_nil]
    by_cases hx : p x = true
    · simp [hx]
    · simp [hx]
  · have h2 : (xs.reverse.dropWhile p).isEmpty = false := by
      cases hh : xs.reverse.dropWhile p with
      | nil => exact absurd hh h
      | cons a b => rfl
    simp [h2, h]
theorem drop_rdrop (p : UInt8 → Bool) : ∀ l : List UInt8, (rdrop p l).dropWhile p = rdrop p (l.dropWhile p) := by
  intro l
  induction l with
  | nil => rfl
  | cons x xs ih =>
    rw [rdrop_cons]
    by_cases hx : p x = true
    · rw [List.dropWhile_cons_of_pos hx, ← ih]
      by_cases h : rdrop p xs = []
      · rw [if_pos h, if_pos hx, h]
      · rw [if_neg h, List.dropWhile_cons_of_pos hx]
    · rw [List.dropWhile_cons_of_neg hx, rdrop_cons]
      by_cases h : rdrop p xs = []
      · rw [if_pos h, if_neg hx, List.dropWhile_cons_of_neg hx]
      · rw [if_neg h, List.dropWhile_cons_of_neg hx]
def isSp (c : UInt8) : Bool := [32, 9, 10, 12, 13].contains c
theorem trimS_sp (l : List UInt8) : Lib.trimS l [32, 9, 10, 12, 13] = rdrop isSp (l.dropWhile isSp) := by
  rw [← drop_rdrop]; rfl
theorem u8_eq (c : UInt8) (n : Nat) (h : n < 256) : ((c.toNat : Int) = (n : Int)) ↔ c = UInt8.ofNat n := by
  constructor
  · intro e
    apply UInt8.toNat_inj.1
    rw [UInt8.toNat_ofNat']; omega
  · rintro rfl
    rw [UInt8.toNat_ofNat']; omega
theorem space_is (c : UInt8) : muslinref04_Space.f (c.toNat : Int) = some (isSp c) := by
  have : ∀ c : Fin 256, muslinref04_Space.f (c.val : Int) = some (isSp (UInt8.ofNat c.val)) := by decide +kernel
  have h := this ⟨c.toNat, UInt8.toNat_lt c⟩
  simpa using h
theorem small_got (s : ByteArray) (h : s.size ≤ 9223372036854775807) : muslinref03_Small.f s = some (lowS s) := guard_of h
theorem clean_right : ∀ (n : Nat) (s : ByteArray), s.size ≤ n → s.size ≤ 9223372036854775000 → Ev (fun k => muslinref04_clean.l1 k s) (lowS ⟨(rdrop isSp s.data.toList).toArray⟩) := by
  intro n
  induction n with
  | zero =>
    intro s h h2
    refine Ev.round (fun k => by rw [muslinref04_clean.l1]) ?_
    refine Ev.neg (by omega) ?_
    refine Ev.got (small_got s (by omega)) ?_
    have : s.data.toList = [] := List.eq_nil_of_length_eq_zero (by rw [sizeL]; omega)
    have e : (⟨(rdrop isSp s.data.toList).toArray⟩ : ByteArray) = s := ba_ext (by rw [mk_toList, this]; rfl)
    rw [e]; exact Ev.now _
  | succ n ih =>
    intro s h h2
    refine Ev.round (fun k => by rw [muslinref04_clean.l1]) ?_
    by_cases h0 : s.size = 0
    · refine Ev.neg (by omega) ?_
      refine Ev.got (small_got s (by omega)) ?_
      have : s.data.toList = [] := List.eq_nil_of_length_eq_zero (by rw [sizeL]; omega)
      have e : (⟨(rdrop isSp s.data.toList).toArray⟩ : ByteArray) = s := ba_ext (by rw [mk_toList, this]; rfl)
      rw [e]; exact Ev.now _
    · have hl := sizeL s
      have hlast : s.size - 1 < s.data.toList.length := by omega
      rw [w64 (x := (s.size : Int) - 1) (by omega) (by omega)]
      refine Ev.pos (by omega) ?_
      refine Ev.pos (by omega) ?_
      refine Ev.pos (by omega) ?_
      have e1 : ((s.size : Int) - 1) = ((s.size - 1 : Nat) : Int) := by omega
      rw [e1, bt_get s (s.size - 1) hlast]
      refine Ev.got (space_is _) ?_
      have hsplit : s.data.toList = s.data.toList.take (s.size - 1) ++ [s.data.toList[s.size - 1]] := by
        rw [List.take_append_getElem hlast, List.take_of_length_le (by omega)]
      by_cases hc : isSp s.data.toList[s.size - 1] = true
      · refine Ev.pos hc ?_
        refine Ev.pos (by omega) ?_
        have hx : (s.extract 0 (((s.size - 1 : Nat) : Int)).toNat).data.toList = s.data.toList.take (s.size - 1) := by
          rw [extract_list, Int.toNat_natCast, List.drop_zero]
        have hr : rdrop isSp s.data.toList = rdrop isSp (s.data.toList.take (s.size - 1)) := by
          conv => lhs; rw [hsplit]
          unfold rdrop
          rw [List.reverse_append, List.reverse_singleton, List.singleton_append, List.dropWhile_cons_of_pos hc]
        have := ih (s.extract 0 (((s.size - 1 : Nat) : Int)).toNat) (by rw [← sizeL, hx, List.length_take]; omega) (by rw [← sizeL, hx, List.length_take]; omega)
        rw [hx, ← hr] at this
        exact this
      · refine Ev.neg hc ?_
        refine Ev.got (small_got s (by omega)) ?_
        have hr : rdrop isSp s.data.toList = s.data.toList := by
          conv => lhs; rw [hsplit]
          unfold rdrop
          rw [List.reverse_append, List.reverse_singleton, List.singleton_append, List.dropWhile_cons_of_neg hc]
          conv => rhs; rw [hsplit]
          simp
        have e : (⟨(rdrop isSp s.data.toList).toArray⟩ : ByteArray) = s := ba_ext (by rw [mk_toList, hr])
        rw [e]; exact Ev.now _
theorem clean_left : ∀ (n : Nat) (s : ByteArray), s.size ≤ n → s.size ≤ 9223372036854775000 → Ev (fun k => muslinref04_clean.l0 k s) (lowS ⟨(rdrop isSp (s.data.toList.dropWhile isSp)).toArray⟩) := by
  intro n
  induction n with
  | zero =>
    intro s h h2
    refine Ev.round (fun k => by rw [muslinref04_clean.l0]) ?_
    refine Ev.neg (by omega) ?_
    refine Ev.round (fun k => by rw [muslinref04_clean.j1]) ?_
    have : s.data.toList = [] := List.eq_nil_of_length_eq_zero (by rw [sizeL]; omega)
    have h3 := clean_right 0 s (by omega) (by omega)
    rw [this] at h3 ⊢
    exact h3
  | succ n ih =>
    intro s h h2
    refine Ev.round (fun k => by rw [muslinref04_clean.l0]) ?_
    by_cases h0 : s.size = 0
    · refine Ev.neg (by omega) ?_
      refine Ev.round (fun k => by rw [muslinref04_clean.j1]) ?_
      have : s.data.toList = [] := List.eq_nil_of_length_eq_zero (by rw [sizeL]; omega)
      have h3 := clean_right 0 s (by omega) (by omega)
      rw [this] at h3 ⊢
      exact h3
    · have hl := sizeL s
      have hfirst : 0 < s.data.toList.length := by omega
      refine Ev.pos (by omega) ?_
      refine Ev.pos (by omega) ?_
      rw [show bt s 0 = _ from bt_get s 0 hfirst]
      refine Ev.got (space_is _) ?_
      have hsplit : s.data.toList = s.data.toList[0] :: s.data.toList.drop 1 := by
        rw [← List.drop_eq_getElem_cons hfirst, List.drop_zero]
      by_cases hc : isSp s.data.toList[0] = true
      · refine Ev.pos hc ?_
        refine Ev.pos (by omega) ?_
        have hx : (s.extract 1 s.size).data.toList = s.data.toList.drop 1 := by
          rw [extract_list, List.take_of_length_le (by omega)]
        have hr : s.data.toList.dropWhile isSp = (s.data.toList.drop 1).dropWhile isSp := by
          conv => lhs; rw [hsplit]
          rw [List.dropWhile_cons_of_pos hc]
        have := ih (s.extract 1 s.size) (by rw [← sizeL, hx, List.length_drop]; omega) (by rw [← sizeL, hx, List.length_drop]; omega)
        rw [hx, ← hr] at this
        exact this
      · refine Ev.neg hc ?_
        refine Ev.round (fun k => by rw [muslinref04_clean.j1]) ?_
        have hr : s.data.toList.dropWhile isSp = s.data.toList := by
          conv => lhs; rw [hsplit]
          rw [List.dropWhile_cons_of_neg hc, ← hsplit]
        rw [hr]
        exact clean_right s.size s (by omega) h2
/-- A label, cleaned. -/
def labelL (a : ByteArray) : List UInt8 := (rdrop isSp (a.data.toList.dropWhile isSp)).map lowC
theorem trim_got (a : ByteArray) (h : a.size ≤ 9223372036854775000) : strings_Trim.f a (⟨#[32, 9, 10, 12, 13]⟩ : ByteArray) = some ⟨(rdrop isSp (a.data.toList.dropWhile isSp)).toArray⟩ := by
  unfold strings_Trim.f
  rw [if_pos ⟨by omega, by decide, by decide⟩]
  rw [show (⟨#[32, 9, 10, 12, 13]⟩ : ByteArray).data.toList = [32, 9, 10, 12, 13] from rfl, trimS_sp]
theorem rdrop_len (p : UInt8 → Bool) (l : List UInt8) : (rdrop p l).length ≤ l.length := by
  unfold rdrop
  rw [List.length_reverse]
  have := (List.dropWhile_sublist (p := p) (l := l.reverse)).length_le
  simpa using this
theorem known_is (a : ByteArray) (h : a.size ≤ 5000) : Ev (fun k => chars_Known.f k a) (knownL (labelL a)) := by
  unfold chars_Known.f
  refine Ev.got (trim_got a (by omega)) ?_
  have h1 := rdrop_len isSp (a.data.toList.dropWhile isSp)
  have h2 := (List.dropWhile_sublist (p := isSp) (l := a.data.toList)).length_le
  rw [sizeL] at h2
  refine Ev.got (x := chars_small.f _) (guard_of (by rw [mk_size]; omega)) ?_
  exact chars_Known_tail _
theorem refKnown_is (a : ByteArray) (h : a.size ≤ 5000) : Ev (fun k => muslinref04_Known.f k a) (knownL (labelL a)) := by
  unfold muslinref04_Known.f muslinref04_clean.f
  refine Ev.bind (clean_left a.size a (by omega) (by omega)) ?_
  exact muslinref04_Known_tail _
end Go.Proofs.YtkhloimbaepmeaaDoor.Pure
