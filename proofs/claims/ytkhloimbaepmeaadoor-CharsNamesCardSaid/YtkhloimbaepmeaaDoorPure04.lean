/- The pure statements of five laws on alphabets. -/
import Derived.Test.YtkhloimbaepmeaaDoorP6
import Derived.Test.YtkhloimbaepmeaaDoorP7
import Derived.Test.YtkhloimbaepmeaaDoorPureDec
import Derived.KernelRfl
namespace Go.Proofs.YtkhloimbaepmeaaDoor.Pure
open Go.RowKit Go.Proofs.YtkhloimbaepmeaaDoor.P Go.Proofs.YtkhloimbaepmeaaDoorW.PrintWords Go.Proofs.YtkhloimbaepmeaaDoorW.PrintLast
set_option linter.unusedVariables false
set_option linter.unusedSimpArgs false
theorem live8 : muslinlaw04_live.f 8 = some true := by kernel_rfl
theorem live_is : Ev (fun k => muslinlaw04_live.f k) true := Ev.of (fun k => muslinlaw04_live.mono k) live8
theorem live_end : Ev (fun k => (muslinlaw04_live.f k).bind fun t => some t) true := Ev.bind live_is (Ev.now _)
theorem short_yes {a : ByteArray} (h : a.size ≤ 5000) : muslinlaw04_short.f a = some true := by
  unfold muslinlaw04_short.f; rw [decide_eq_true (by omega)]
theorem short_no {a : ByteArray} (h : ¬ a.size ≤ 5000) : muslinlaw04_short.f a = some false := by
  unfold muslinlaw04_short.f; rw [decide_eq_false (by omega)]
/-- Two texts of at most 5000 bytes, or 'live'. -/
theorem both {a b : ByteArray} {j : Nat → Bool → Option Bool} (hl : Ev (fun k => j k true) true) (hj : a.size ≤ 5000 → b.size ≤ 5000 → Ev (fun k => j k false) true) :
    Ev (fun k => (muslinlaw04_short.f b).bind fun t => (if t = true then ((muslinlaw04_short.f a).bind fun t2 => (j k (!t2))) else (j k true))) true := by
  by_cases hb : b.size ≤ 5000
  · refine Ev.got (short_yes hb) ?_
    refine Ev.pos rfl ?_
    by_cases ha : a.size ≤ 5000
    · refine Ev.got (short_yes ha) ?_
      exact hj ha hb
    · refine Ev.got (short_no ha) ?_
      exact hl
  · refine Ev.got (short_no hb) ?_
    refine Ev.neg Bool.false_ne_true ?_
    exact hl
theorem CharsValid : muslinlaw04_CharsValid.Pure := by
  intro a h
  refine Ev.rounds (r := true) (g := fun k => muslinlaw04_CharsValid.f k a) ?_
  unfold muslinlaw04_CharsValid.f
  by_cases hs : a.size ≤ 5000
  · refine Ev.got (short_yes hs) ?_
    refine Ev.pos rfl ?_
    refine Ev.got (x := chars_Valid.f a) (guard_of (by omega)) ?_
    refine Ev.bind (refValid_is a (by omega)) ?_
    refine Ev.pos rfl ?_
    exact live_end
  · refine Ev.got (short_no hs) ?_
    refine Ev.neg Bool.false_ne_true ?_
    exact live_end
theorem CharsDecodes : muslinlaw04_CharsDecodes.Pure := by
  intro a b _ _
  refine Ev.rounds (r := true) (g := fun k => muslinlaw04_CharsDecodes.f k a b) ?_
  unfold muslinlaw04_CharsDecodes.f
  refine both (j := fun k t => muslinlaw04_CharsDecodes.j0 k a b t) ?_ (fun ha hb => ?_)
  · refine Ev.round (fun k => by rw [muslinlaw04_CharsDecodes.j0]) ?_
    refine Ev.pos rfl ?_
    exact live_end
  · refine Ev.round (fun k => by rw [muslinlaw04_CharsDecodes.j0]) ?_
    refine Ev.neg Bool.false_ne_true ?_
    refine Ev.bind (decode_is a b ha hb) ?_
    refine Ev.bind (refDecode_is a b ha hb) ?_
    refine Ev.bind (known_is a ha) ?_
    refine Ev.bind (refKnown_is a ha) ?_
    refine Ev.pos rfl ?_
    refine Ev.pos (by simp) ?_
    refine Ev.pos rfl ?_
    refine Ev.pos (by simp) ?_
    exact live_end
theorem CharsSizes : muslinlaw04_CharsSizes.Pure := by
  intro a b _ _
  refine Ev.rounds (r := true) (g := fun k => muslinlaw04_CharsSizes.f k a b) ?_
  unfold muslinlaw04_CharsSizes.f
  refine both (j := fun k t => muslinlaw04_CharsSizes.j0 k a b t) ?_ (fun hb ha => ?_)
  · refine Ev.round (fun k => by rw [muslinlaw04_CharsSizes.j0]) ?_
    refine Ev.pos rfl ?_
    exact live_end
  · refine Ev.round (fun k => by rw [muslinlaw04_CharsSizes.j0]) ?_
    refine Ev.neg Bool.false_ne_true ?_
    refine Ev.bind (decode_is a b ha hb) ?_
    have h1 := decL_len (knownL (labelL a)).1 b.data.toList
    have h2 := valL_len b.data.toList.length b.data.toList
    rw [sizeL] at h1 h2
    rw [w64 (x := 3 * (b.size : Int)) (by omega) (by omega)]
    refine Ev.pos (by rw [mk_size]; omega) ?_
    refine Ev.got (x := chars_Valid.f b) (guard_of (by omega)) ?_
    rw [validS_eq]
    refine Ev.pos (by rw [mk_size]; unfold vl; rw [sizeL]; omega) ?_
    exact live_end
/-- 'whole' tells whether a text is valid. -/
def wholeS : Nat → List UInt8 → Bool
  | 0, _ => true
  | n + 1, l => if l = [] then true else if wholeL l = 0 then false else wholeS n (l.drop (wholeL l))
theorem wholeS_more : ∀ (n : Nat) (l : List UInt8), l.length ≤ n → ∀ m, n ≤ m → wholeS m l = wholeS n l := by
  intro n
  induction n with
  | zero =>
    intro l hl m hm
    obtain rfl : l = [] := List.eq_nil_of_length_eq_zero (by omega)
    cases m <;> simp [wholeS]
  | succ n ih =>
    intro l hl m hm
    obtain ⟨m, rfl⟩ : ∃ q, m = q + 1 := ⟨m - 1, by omega⟩
    simp only [wholeS]
    split
    · rfl
    · split
      · rfl
      · rename_i h1 h2
        have := List.length_pos_iff.2 h1
        exact ih _ (by rw [List.length_drop]; omega) m (by omega)
theorem whole_loop (s : ByteArray) (hs : s.size ≤ 140737488351232) : ∀ (n i : Nat), s.size - i ≤ n → i ≤ s.size → Ev (fun k => muslinlaw04_whole.l0 k s i) (wholeS n (s.data.toList.drop i)) := by
  intro n
  induction n with
  | zero =>
    intro i h1 h2
    refine Ev.round (fun k => by rw [muslinlaw04_whole.l0]) ?_
    refine Ev.neg (by omega) ?_
    exact Ev.now _
  | succ n ih =>
    intro i h1 h2
    refine Ev.round (fun k => by rw [muslinlaw04_whole.l0]) ?_
    by_cases hp : i < s.size
    · have hne : s.data.toList.drop i ≠ [] := by intro h; have := congrArg List.length h; simp at this; omega
      refine Ev.pos (by omega) ?_
      refine Ev.bind (whole_is s hs i hp) ?_
      simp only [wholeS, if_neg hne]
      by_cases h0 : wholeL (s.data.toList.drop i) = 0
      · rw [h0, if_pos rfl]
        refine Ev.pos rfl ?_
        exact Ev.now _
      · rw [if_neg h0]
        refine Ev.neg (by omega) ?_
        have hw : wholeL (s.data.toList.drop i) ≤ s.size - i := by
          rcases dec_cases _ hne with ⟨e0, _⟩ | ⟨e0, _, _, e3, _⟩
          · omega
          · rw [e0]; simpa using e3
        have e : wrap64 ((i : Int) + ((wholeL (s.data.toList.drop i) : Nat) : Int)) = ((i + wholeL (s.data.toList.drop i) : Nat) : Int) := by rw [w64 (by omega) (by omega)]; omega
        rw [e, List.drop_drop]
        exact ih _ (by omega) (by omega)
    · refine Ev.neg (by omega) ?_
      simp only [wholeS]
      rw [if_pos (List.drop_eq_nil_of_le (by rw [sizeL]; omega))]
      exact Ev.now _
theorem wholeS_Val : ∀ (n : Nat) (l : List UInt8), l.length ≤ n → Val l → wholeS n l = true := by
  intro n
  induction n with
  | zero => intro l _ _; rfl
  | succ n ih =>
    intro l hl hv
    obtain ⟨rs, rfl⟩ := hv
    cases rs with
    | nil => simp [wholeS]
    | cons r rs =>
      have e : (r :: rs).flatMap Lib.encodeRune = Lib.encodeRune r ++ rs.flatMap Lib.encodeRune := by simp
      rw [e] at hl ⊢
      have h1 := enc_len r
      simp only [wholeS]
      rw [if_neg (by simp [enc_ne]), whole_enc, if_neg (by omega), List.drop_left]
      exact ih _ (by rw [List.length_append] at hl; omega) ⟨rs, rfl⟩
theorem Val_wholeS : ∀ (n : Nat) (l : List UInt8), l.length ≤ n → wholeS n l = true → Val l := by
  intro n
  induction n with
  | zero => intro l hl _; obtain rfl : l = [] := List.eq_nil_of_length_eq_zero (by omega); exact Val.nil
  | succ n ih =>
    intro l hl h
    simp only [wholeS] at h
    by_cases hne : l = []
    · rw [hne]; exact Val.nil
    · rw [if_neg hne] at h
      split at h
      · cases h
      · rename_i h0
        have hpos := List.length_pos_iff.2 hne
        have hv := ih _ (by rw [List.length_drop]; omega) h
        rcases dec_cases l hne with ⟨e0, _⟩ | ⟨e0, e1, _, e3, _, e5⟩
        · exact absurd e0 h0
        · rw [e0] at hv
          have := (Val.enc ((uDec l).1 : Int)).append hv
          rw [e5, List.take_append_drop] at this
          exact this
theorem whole_ev (s : ByteArray) (hs : s.size ≤ 140737488351232) : Ev (fun k => muslinlaw04_whole.f k s) (wholeS s.size s.data.toList) := whole_loop s hs s.size 0 (by omega) (by omega)
theorem whole_Val (s : ByteArray) (hs : s.size ≤ 140737488351232) (hv : Val s.data.toList) : Ev (fun k => muslinlaw04_whole.f k s) true := by
  have := whole_ev s hs
  rwa [wholeS_Val _ _ (by rw [sizeL]; omega) hv] at this
theorem CharsWhole : muslinlaw04_CharsWhole.Pure := by
  intro a b _ _
  refine Ev.rounds (r := true) (g := fun k => muslinlaw04_CharsWhole.f k a b) ?_
  unfold muslinlaw04_CharsWhole.f
  refine both (j := fun k t => muslinlaw04_CharsWhole.j0 k a b t) ?_ (fun ha hb => ?_)
  · refine Ev.round (fun k => by rw [muslinlaw04_CharsWhole.j0]) ?_
    refine Ev.pos rfl ?_
    exact live_end
  · refine Ev.round (fun k => by rw [muslinlaw04_CharsWhole.j0]) ?_
    refine Ev.neg Bool.false_ne_true ?_
    refine Ev.bind (decode_is a b ha hb) ?_
    refine Ev.got (x := chars_Valid.f b) (guard_of (by omega)) ?_
    rw [validS_eq]
    have h1 := decL_len (knownL (labelL a)).1 b.data.toList
    have h2 : (vl b.data.toList).length ≤ 3 * b.data.toList.length := valL_len b.data.toList.length b.data.toList
    have hb2 := sizeL b
    refine Ev.bind (whole_Val _ (by rw [mk_size]; omega) (decL_Val _ _)) ?_
    refine Ev.pos rfl ?_
    refine Ev.bind (whole_Val (⟨(vl b.data.toList).toArray⟩ : ByteArray) (by rw [mk_size]; omega) (vl_Val _)) ?_
    refine Ev.pos rfl ?_
    refine Ev.got (x := chars_Valid.f (⟨(vl b.data.toList).toArray⟩ : ByteArray)) (guard_of (by rw [mk_size]; omega)) ?_
    rw [validS_eq]
    have hst : vl (vl b.data.toList) = vl b.data.toList := valL_stays _ _ (vl_Val _) (Nat.le_refl _)
    refine Ev.pos (by rw [toList_eq, toList_eq, mk_toList, mk_toList, mk_toList, hst]) ?_
    refine Ev.bind (whole_ev b (by omega)) ?_
    by_cases hw : wholeS b.size b.data.toList = true
    · refine Ev.pos hw ?_
      have hv := Val_wholeS _ _ (by rw [sizeL]; omega) hw
      have hst2 : vl b.data.toList = b.data.toList := valL_stays _ _ hv (Nat.le_refl _)
      refine Ev.pos (by rw [toList_eq, toList_eq, mk_toList, hst2]) ?_
      exact live_end
    · refine Ev.neg hw ?_
      exact live_end
theorem vl_plain (l : List UInt8) (h : ∀ c ∈ l, c.toNat ≤ 127) : vl l = l := by
  refine valL_stays _ _ ⟨l.map fun c => (c.toNat : Int), ?_⟩ (Nat.le_refl _)
  rw [List.flatMap_map]
  induction l with
  | nil => rfl
  | cons c r ih =>
    rw [List.flatMap_cons, ← ih (fun x hx => h x (List.mem_cons_of_mem _ hx)), enc_one (by omega) (by have := h c (by simp); omega)]
    simp
theorem singles_plain (l : List UInt8) (h : ∀ c ∈ l, c.toNat ≤ 127) : singlesL l = l := by
  induction l with
  | nil => rfl
  | cons c r ih =>
    have hc := h c (by simp)
    have e : singlesL (c :: r) = Lib.encodeRune (hiC c) ++ singlesL r := by simp [singlesL]
    have hh : hiC c = (c.toNat : Int) := by unfold hiC; rw [if_neg (by omega)]
    rw [e, ih (fun x hx => h x (List.mem_cons_of_mem _ hx)), hh, enc_one (by omega) (by omega)]
    simp
theorem plain_loop (a b : ByteArray) (ha : a.size ≤ 5000) (hb : b.size ≤ 5000) : ∀ (n i : Nat), b.size - i ≤ n → i ≤ b.size → (∀ c ∈ b.data.toList.take i, c.toNat ≤ 127) → Ev (fun k => muslinlaw04_CharsPlain.l0 k a b i) true := by
  intro n
  induction n with
  | zero =>
    intro i h1 h2 h3
    refine Ev.round (fun k => by rw [muslinlaw04_CharsPlain.l0]) ?_
    refine Ev.neg (by omega) ?_
    rw [List.take_of_length_le (by rw [sizeL]; omega)] at h3
    refine Ev.bind (known_is a ha) ?_
    refine Ev.bind (decode_is a b ha hb) ?_
    refine Ev.pos (by simp) ?_
    have sing := singles_plain _ h3
    have vall := vl_plain _ h3
    rcases known_cases (labelL a) with h | h | h | h | h
    · rw [h]
      refine Ev.pos (by rw [toList_eq, toList_eq, mk_toList]; unfold decL; rw [if_neg (by decide), if_neg (by decide), if_neg (by decide), vall]) ?_
      exact live_end
    · rw [h]
      refine Ev.pos (by rw [toList_eq, toList_eq, mk_toList]; unfold decL; rw [if_pos (by decide), sing]) ?_
      exact live_end
    · rw [h]
      by_cases hh : (⟨(decL (nLe, true).1 b.data.toList).toArray⟩ : ByteArray).toList = b.toList
      · refine Ev.pos hh ?_; exact live_end
      · refine Ev.neg hh ?_
        refine Ev.pos (nameEq (by decide)) ?_
        exact live_end
    · rw [h]
      by_cases hh : (⟨(decL (nBe, true).1 b.data.toList).toArray⟩ : ByteArray).toList = b.toList
      · refine Ev.pos hh ?_; exact live_end
      · refine Ev.neg hh ?_
        refine Ev.neg (nameNe (by decide)) ?_
        refine Ev.pos (nameEq (by decide)) ?_
        exact live_end
    · rw [h]
      refine Ev.pos (by rw [toList_eq, toList_eq, mk_toList]; unfold decL; rw [if_neg (by decide), if_neg (by decide), if_neg (by decide), vall]) ?_
      exact live_end
  | succ n ih =>
    intro i h1 h2 h3
    by_cases hp : i < b.size
    · refine Ev.round (fun k => by rw [muslinlaw04_CharsPlain.l0]) ?_
      have hl : i < b.data.toList.length := by rw [sizeL]; exact hp
      refine Ev.pos (by omega) ?_
      refine Ev.pos (by omega) ?_
      rw [bt_get b i hl, w64 (by omega) (by omega)]
      by_cases hc : (b.data.toList[i].toNat : Int) > 127
      · refine Ev.pos hc ?_
        exact live_end
      · refine Ev.neg hc ?_
        refine ih (i + 1) (by omega) (by omega) (fun c hcm => ?_)
        rw [List.take_succ_eq_append_getElem hl, List.mem_append, List.mem_singleton] at hcm
        rcases hcm with hcm | rfl
        · exact h3 c hcm
        · omega
    · obtain rfl : i = b.size := by omega
      exact ih b.size (by omega) (by omega) h3
theorem CharsPlain : muslinlaw04_CharsPlain.Pure := by
  intro a b _ _
  refine Ev.rounds (r := true) (g := fun k => muslinlaw04_CharsPlain.f k a b) ?_
  unfold muslinlaw04_CharsPlain.f
  refine both (j := fun k t => muslinlaw04_CharsPlain.j0 k a b t) ?_ (fun ha hb => ?_)
  · refine Ev.round (fun k => by rw [muslinlaw04_CharsPlain.j0]) ?_
    refine Ev.pos rfl ?_
    exact live_end
  · refine Ev.round (fun k => by rw [muslinlaw04_CharsPlain.j0]) ?_
    refine Ev.neg Bool.false_ne_true ?_
    exact plain_loop a b ha hb b.size 0 (by omega) (by omega) (by simp)
end Go.Proofs.YtkhloimbaepmeaaDoor.Pure
