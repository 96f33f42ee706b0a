/- Decoding by an alphabet: what the two ways come to, and what is decoded is valid, and not too long. -/
import Derived.Test.YtkhloimbaepmeaaDoorP5
import Derived.Test.YtkhloimbaepmeaaDoorPureKnown
namespace Go.Proofs.YtkhloimbaepmeaaDoor.Pure
open Go.RowKit Go.Proofs.YtkhloimbaepmeaaDoor.P Go.Proofs.YtkhloimbaepmeaaDoorW.PrintWords Go.Proofs.YtkhloimbaepmeaaDoorW.PrintLast
set_option linter.unusedVariables false
set_option linter.unusedSimpArgs false
def nUtf : ByteArray := ⟨#[117, 116, 102, 45, 56]⟩
def nLat : ByteArray := ⟨#[119, 105, 110, 100, 111, 119, 115, 45, 49, 50, 53, 50]⟩
def nLe : ByteArray := ⟨#[117, 116, 102, 45, 49, 54, 108, 101]⟩
def nBe : ByteArray := ⟨#[117, 116, 102, 45, 49, 54, 98, 101]⟩
def nNone : ByteArray := ⟨#[]⟩
theorem known_cases (t : List UInt8) : knownL t = (nUtf, true) ∨ knownL t = (nLat, true) ∨ knownL t = (nLe, true) ∨ knownL t = (nBe, true) ∨ knownL t = (nNone, false) := by
  unfold knownL
  split
  · exact .inl rfl
  · split
    · exact .inr (.inl rfl)
    · split
      · exact .inr (.inr (.inl rfl))
      · split
        · exact .inr (.inr (.inr (.inl rfl)))
        · exact .inr (.inr (.inr (.inr rfl)))
/-- What is decoded, by an alphabet's name. -/
def decL (n : ByteArray) (l : List UInt8) : List UInt8 :=
  if n.data.toList = nLat.data.toList then singlesL l else if n.data.toList = nLe.data.toList then dblL uLE l else if n.data.toList = nBe.data.toList then dblL uBE l else vl l
theorem nameEq {n : ByteArray} {l : List UInt8} (h : n.data.toList = l) : n.toList = l := by rw [toList_eq]; exact h
theorem nameNe {n : ByteArray} {l : List UInt8} (h : n.data.toList ≠ l) : ¬ n.toList = l := by rw [toList_eq]; exact h
theorem decode_is (a s : ByteArray) (ha : a.size ≤ 5000) (hs : s.size ≤ 5000) : Ev (fun k => chars_Decode.f k a s) ((⟨(decL (knownL (labelL a)).1 s.data.toList).toArray⟩ : ByteArray), (knownL (labelL a)).2) := by
  unfold chars_Decode.f
  refine Ev.bind (known_is a ha) ?_
  have h5 : s.size ≤ 35184372088832 := by omega
  have hv : Ev (fun _ => (chars_Valid.f s).bind fun t => some (t, (knownL (labelL a)).2)) ((⟨(vl s.data.toList).toArray⟩ : ByteArray), (knownL (labelL a)).2) := by
    refine Ev.got (x := chars_Valid.f s) (guard_of h5) ?_
    rw [validS_eq]; exact Ev.now _
  rcases known_cases (labelL a) with h | h | h | h | h
  · rw [h] at hv ⊢
    refine Ev.neg (nameNe (by decide)) ?_
    refine Ev.neg (nameNe (by decide)) ?_
    refine Ev.neg (nameNe (by decide)) ?_
    exact hv
  · rw [h]
    refine Ev.pos (nameEq (by decide)) ?_
    refine Ev.got (x := chars_singles.f s) (guard_of h5) ?_
    exact Ev.now _
  · rw [h]
    refine Ev.neg (nameNe (by decide)) ?_
    refine Ev.pos (nameEq (by decide)) ?_
    refine Ev.got (x := chars_doubles.f s 0 8) (guard_of ⟨h5, .inl ⟨rfl, rfl⟩⟩) ?_
    exact Ev.now _
  · rw [h]
    refine Ev.neg (nameNe (by decide)) ?_
    refine Ev.neg (nameNe (by decide)) ?_
    refine Ev.pos (nameEq (by decide)) ?_
    refine Ev.got (x := chars_doubles.f s 8 0) (guard_of ⟨h5, .inr ⟨rfl, rfl⟩⟩) ?_
    exact Ev.now _
  · rw [h] at hv ⊢
    refine Ev.neg (nameNe (by decide)) ?_
    refine Ev.neg (nameNe (by decide)) ?_
    refine Ev.neg (nameNe (by decide)) ?_
    exact hv
theorem odd_size (s : ByteArray) : ((s.size : Int) % 2 == 1) = oddL s.data.toList := by
  unfold oddL
  rw [sizeL]
  by_cases h : s.size % 2 = 1
  · rw [h]; simp; omega
  · have : s.size % 2 = 0 := by omega
    rw [this]; simp; omega
theorem refDoubles (s : ByteArray) (hs : s.size ≤ 5000) (hi : Bool) (u : UInt8 → UInt8 → Int) (hu : u = if hi then uBE else uLE) (hr : ∀ a b, 0 ≤ u a b ∧ u a b ≤ 65535) :
    Ev (fun k => (muslinref04_units.f k s hi).bind fun bt => muslinref04_Decode.l1 k [] bt.1 bt.2 0) ((⟨(dblL u s.data.toList).toArray⟩ : ByteArray), true) := by
  have h1 := units_loop s (by omega) hi u hu s.size 0 [] (by omega) (by omega) (by simp)
  simp only [List.drop_zero, List.nil_append] at h1
  refine Ev.bind h1 ?_
  have hl := unitsL_len u _ s.data.toList (Nat.le_refl _)
  rw [sizeL] at hl
  have h2 := doubles_loop (unitsL u s.data.toList) (by omega) (unitsL_range u hr _ _ (Nat.le_refl _)) ((s.size : Int) % 2 == 1) (unitsL u s.data.toList).length 0 [] (by omega) (by omega) (by simp; omega)
  rw [odd_size] at h2 ⊢
  simp only [List.drop_zero, List.nil_append] at h2
  rw [dblL_U u _ s.data.toList (Nat.le_refl _)]
  exact h2
theorem refDecode_is (a s : ByteArray) (ha : a.size ≤ 5000) (hs : s.size ≤ 5000) : Ev (fun k => muslinref04_Decode.f k a s) ((⟨(decL (knownL (labelL a)).1 s.data.toList).toArray⟩ : ByteArray), (knownL (labelL a)).2) := by
  unfold muslinref04_Decode.f
  refine Ev.bind (refKnown_is a ha) ?_
  have hv : ∀ n b, Ev (fun k => muslinref04_Decode.j2 k s n b [] false) ((⟨(vl s.data.toList).toArray⟩ : ByteArray), b) := by
    intro n b
    refine Ev.round (fun k => by rw [muslinref04_Decode.j2]) ?_
    refine Ev.neg Bool.false_ne_true ?_
    refine Ev.bind (refValid_is s (by omega)) ?_
    rw [validS_eq]; exact Ev.now _
  rcases known_cases (labelL a) with h | h | h | h | h
  · rw [h]
    refine Ev.neg (nameNe (by decide)) ?_
    refine Ev.neg (nameNe (by decide)) ?_
    rw [show ((nUtf, true).1.toList == ([117, 116, 102, 45, 49, 54, 98, 101] : List UInt8)) = false from by rw [toList_eq]; decide]
    exact hv _ _
  · rw [h]
    refine Ev.pos (nameEq (by decide)) ?_
    have := singles_loop s (by omega) s.size 0 [] (by omega) (by omega) (by simp; omega)
    simp only [List.drop_zero, List.nil_append] at this
    exact this
  · rw [h]
    refine Ev.neg (nameNe (by decide)) ?_
    refine Ev.pos (nameEq (by decide)) ?_
    refine Ev.round (fun k => by rw [muslinref04_Decode.j2]) ?_
    refine Ev.pos (by rw [toList_eq]; decide) ?_
    rw [show ((nLe, true).1.toList == ([117, 116, 102, 45, 49, 54, 98, 101] : List UInt8)) = false from by rw [toList_eq]; decide]
    exact refDoubles s hs false uLE rfl uLE_range
  · rw [h]
    refine Ev.neg (nameNe (by decide)) ?_
    refine Ev.neg (nameNe (by decide)) ?_
    refine Ev.round (fun k => by rw [muslinref04_Decode.j2]) ?_
    refine Ev.pos (by rw [toList_eq]; decide) ?_
    rw [show ((nBe, true).1.toList == ([117, 116, 102, 45, 49, 54, 98, 101] : List UInt8)) = true from by rw [toList_eq]; decide]
    exact refDoubles s hs true uBE rfl uBE_range
  · rw [h]
    refine Ev.neg (nameNe (by decide)) ?_
    refine Ev.neg (nameNe (by decide)) ?_
    rw [show ((nNone, false).1.toList == ([117, 116, 102, 45, 49, 54, 98, 101] : List UInt8)) = false from by rw [toList_eq]; decide]
    exact hv _ _
theorem vl_Val (l : List UInt8) : Val (vl l) := valL_Val _ _
theorem singles_Val (l : List UInt8) : Val (singlesL l) := ⟨l.map hiC, by simp [singlesL, List.flatMap_map]⟩
theorem dblL_Val (u : UInt8 → UInt8 → Int) : ∀ (n : Nat) (l : List UInt8), l.length ≤ n → Val (dblL u l) := by
  intro n
  induction n with
  | zero => intro l h; obtain rfl : l = [] := List.eq_nil_of_length_eq_zero (by omega); exact Val.nil
  | succ n ih =>
    intro l h
    match l with
    | [] => exact Val.nil
    | [a] => exact Val.enc _
    | [a, b] => exact Val.enc _
    | [a, b, c] => exact (Val.enc _).append (Val.enc _)
    | a :: b :: c :: d :: r =>
      simp only [dblL]
      split
      · exact (Val.enc _).append (ih _ (by simp at h; omega))
      · exact (Val.enc _).append (ih _ (by simp at h ⊢; omega))
theorem decL_Val (n : ByteArray) (l : List UInt8) : Val (decL n l) := by
  unfold decL
  split
  · exact singles_Val _
  · split
    · exact dblL_Val _ _ _ (Nat.le_refl _)
    · split
      · exact dblL_Val _ _ _ (Nat.le_refl _)
      · exact vl_Val _
theorem enc_len3 (r : Int) (h : r ≤ 65535) : (Lib.encodeRune r).length ≤ 3 := by
  simp only [Lib.encodeRune, List.length_map, Lib.encodeRuneZ]
  split
  · simp
  · split
    · simp
    · split
      · simp
      · split
        · omega
        · simp
theorem singles_len (l : List UInt8) : (singlesL l).length ≤ 3 * l.length := by
  induction l with
  | nil => simp [singlesL]
  | cons c r ih =>
    have h := enc_len3 (hiC c) (hiC_range c).2
    have e : singlesL (c :: r) = Lib.encodeRune (hiC c) ++ singlesL r := by simp [singlesL]
    rw [e, List.length_append, List.length_cons]; omega
theorem dblL_len (u : UInt8 → UInt8 → Int) (hu : ∀ a b, u a b ≤ 65535) : ∀ (n : Nat) (l : List UInt8), l.length ≤ n → (dblL u l).length ≤ 3 * l.length := by
  intro n
  induction n with
  | zero => intro l h; obtain rfl : l = [] := List.eq_nil_of_length_eq_zero (by omega); simp [dblL]
  | succ n ih =>
    intro l h
    match l with
    | [] => simp [dblL]
    | [a] => simp only [dblL]; exact enc_len3 _ (by omega)
    | [a, b] => simp only [dblL]; have := enc_len3 _ (hu a b); simp; omega
    | [a, b, c] => simp only [dblL]; have := enc_len3 _ (hu a b); have := enc_len3 65533 (by omega); simp; omega
    | a :: b :: c :: d :: r =>
      simp only [dblL]
      split
      · have := ih r (by simp at h; omega)
        have := (enc_len (65536 + (u a b - 55296) * 1024 + u c d - 56320)).2
        rw [List.length_append]; simp only [List.length_cons]; omega
      · have := ih (c :: d :: r) (by simp at h ⊢; omega)
        have := enc_len3 _ (hu a b)
        rw [List.length_append]; simp only [List.length_cons] at *; omega
theorem decL_len (n : ByteArray) (l : List UInt8) : (decL n l).length ≤ 3 * l.length := by
  unfold decL
  split
  · exact singles_len _
  · split
    · exact dblL_len _ (fun a b => (uLE_range a b).2) _ _ (Nat.le_refl _)
    · split
      · exact dblL_len _ (fun a b => (uBE_range a b).2) _ _ (Nat.le_refl _)
      · exact valL_len _ _
end Go.Proofs.YtkhloimbaepmeaaDoor.Pure
