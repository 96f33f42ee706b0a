/- Quoted-printable: the document's decoder comes to the same plain function: plain Lean. -/
import Derived.Test.YtjmeoplajfmieaaDoorP2
import Derived.Test.YtjmeoplajfmieaaDoorQpCode
namespace Go.Proofs.YtjmeoplajfmieaaDoor.Pure
open Go.RowKit Go.Lib Go.Proofs.YtjmeoplajfmieaaDoor Go.Proofs.YtjmeoplajfmieaaDoor.P Go.Proofs.YtjmeoplajfmieaaDoorW.PrintWords Go.Proofs.YtjmeoplajfmieaaDoorW.PrintLast
set_option linter.unusedVariables false
set_option linter.unusedSimpArgs false

theorem at_drop {s : ByteArray} {i : Nat} {c : UInt8} {r : List UInt8} (h : s.data.toList.drop i = c :: r) : bt s (i : Int) = (c.toNat : Int) ∧ i + r.length + 1 = s.size ∧ s.data.toList.drop (i + 1) = r := by
  have hl := congrArg List.length h
  simp only [List.length_drop, List.length_cons] at hl
  have hs := sizeL s
  have hi : i < s.data.toList.length := by omega
  rw [List.drop_eq_getElem_cons hi] at h
  injection h with h1 h2
  exact ⟨by rw [bt_get s i hi, h1], by omega, h2⟩
theorem at_end {s : ByteArray} {i : Nat} (h : s.data.toList.drop i = []) : s.size ≤ i := by
  have hl := congrArg List.length h
  simp only [List.length_drop, List.length_nil] at hl
  have hs := sizeL s
  omega
def hexI (c : UInt8) : Int := match hexV c with | some x => (x : Int) | none => -1
theorem refHex_all : ∀ c : Fin 256, muslinref02_Hex.f 3 (c.val : Int) = some (hexI (UInt8.ofNat c.val)) := by decide +kernel
theorem refHex_is (c : UInt8) : Ev (fun k => muslinref02_Hex.f k (c.toNat : Int)) (hexI c) := by
  have h := refHex_all ⟨c.toNat, UInt8.toNat_lt c⟩
  simp only [UInt8.ofNat_toNat] at h
  exact Ev.of (fun k => muslinref02_Hex.mono _ k) h
theorem isBl_iff (c : UInt8) : isBl c = true ↔ (c.toNat = 32 ∨ c.toNat = 9) := by
  have e1 : c = 32 ↔ c.toNat = 32 := ⟨fun h => by rw [h]; rfl, fun h => UInt8.toNat_inj.1 h⟩
  have e2 : c = 9 ↔ c.toNat = 9 := ⟨fun h => by rw [h]; rfl, fun h => UInt8.toNat_inj.1 h⟩
  simp [isBl, e1, e2]
theorem blanks_is (s : ByteArray) (hs : s.size ≤ 100000000) : ∀ (n i : Nat), s.size - i ≤ n → i ≤ s.size →
    ∃ j : Nat, i ≤ j ∧ j ≤ s.size ∧ s.data.toList.drop j = (s.data.toList.drop i).dropWhile isBl ∧ Ev (fun k => muslinref02_blanks.l0 k s (i : Int)) (j : Int) := by
  intro n
  induction n with
  | zero =>
    intro i h1 h2
    have hd : s.data.toList.drop i = [] := List.drop_eq_nil_of_le (by rw [sizeL]; omega)
    refine ⟨i, Nat.le_refl _, h2, by rw [hd]; rfl, ?_⟩
    refine Ev.round (fun k => by rw [muslinref02_blanks.l0]) ?_
    refine Ev.neg (by omega) ?_
    exact Ev.now _
  | succ n ih =>
    intro i h1 h2
    cases hd : s.data.toList.drop i with
    | nil =>
      have := at_end hd
      refine ⟨i, Nat.le_refl _, h2, by rw [hd]; rfl, ?_⟩
      refine Ev.round (fun k => by rw [muslinref02_blanks.l0]) ?_
      refine Ev.neg (by omega) ?_
      exact Ev.now _
    | cons c r =>
      obtain ⟨hb, hz, hr⟩ := at_drop hd
      by_cases hc : isBl c = true
      · obtain ⟨j, j1, j2, j3, j4⟩ := ih (i + 1) (by omega) (by omega)
        refine ⟨j, by omega, j2, by rw [j3, hr, List.dropWhile_cons, if_pos hc], ?_⟩
        refine Ev.round (fun k => by rw [muslinref02_blanks.l0]) ?_
        refine Ev.pos (by omega) ?_
        refine Ev.pos (by omega) ?_
        rw [hb, w64 (by omega) (by omega), show ((i : Int) + 1) = ((i + 1 : Nat) : Int) from by omega]
        rcases (isBl_iff c).1 hc with h | h
        · refine Ev.pos (by omega) ?_
          exact j4
        · refine Ev.neg (by omega) ?_
          refine Ev.pos (by omega) ?_
          exact j4
      · refine ⟨i, Nat.le_refl _, h2, by rw [hd, List.dropWhile_cons, if_neg hc], ?_⟩
        have hn : ¬ (c.toNat = 32 ∨ c.toNat = 9) := fun h => hc ((isBl_iff c).2 h)
        refine Ev.round (fun k => by rw [muslinref02_blanks.l0]) ?_
        refine Ev.pos (by omega) ?_
        refine Ev.pos (by omega) ?_
        rw [hb]
        refine Ev.neg (by omega) ?_
        refine Ev.neg (by omega) ?_
        exact Ev.now _
def eolN (l : List UInt8) : Nat := match endedL l with | some rest => l.length - rest.length | none => 0
theorem u8_is (c : UInt8) (n : Nat) (h : n < 256) : c.toNat = n ↔ c = UInt8.ofNat n := by
  constructor
  · intro h1; rw [← h1]; simp
  · rintro rfl; rw [UInt8.toNat_ofNat']; omega
theorem eol_is (s : ByteArray) (hs : s.size ≤ 100000000) (i : Nat) (hi : i ≤ s.size) : Ev (fun k => muslinref02_eol.f k s (i : Int)) (eolN (s.data.toList.drop i) : Int) := by
  unfold muslinref02_eol.f
  cases hd : s.data.toList.drop i with
  | nil =>
    have := at_end hd
    refine Ev.neg (by omega) ?_
    refine Ev.round (fun k => by rw [muslinref02_eol.j0]) ?_
    refine Ev.neg Bool.false_ne_true ?_
    rw [w64 (by omega) (by omega)]
    refine Ev.neg (by omega) ?_
    exact Ev.now _
  | cons c r =>
    obtain ⟨hb, hz, hr⟩ := at_drop hd
    refine Ev.pos (by omega) ?_
    refine Ev.pos (by omega) ?_
    refine Ev.round (fun k => by rw [muslinref02_eol.j0]) ?_
    rw [hb]
    by_cases h10 : c = 10
    · have he : eolN (c :: r) = 1 := by simp [eolN, endedL, h10]
      rw [he]
      refine Ev.pos (by rw [h10]; rfl) ?_
      exact Ev.now _
    · have hn : ¬ ((c.toNat : Int) = 10) := fun h => h10 ((u8_is c 10 (by omega)).1 (by omega))
      refine Ev.neg (by simp [hn]) ?_
      rw [w64 (by omega) (by omega)]
      cases r with
      | nil =>
        have he : eolN [c] = 0 := by
          by_cases h13 : c = 13 <;> simp [eolN, endedL, h10, h13]
        rw [he]
        simp only [List.length_nil] at hz
        refine Ev.neg (by omega) ?_
        exact Ev.now _
      | cons d r' =>
        obtain ⟨hb2, hz2, hr2⟩ := at_drop hr
        refine Ev.pos (by omega) ?_
        refine Ev.pos (by omega) ?_
        refine Ev.pos (by omega) ?_
        rw [show ((i : Int) + 1) = ((i + 1 : Nat) : Int) from by omega, hb2]
        by_cases h13 : c = 13
        · refine Ev.pos (by rw [h13]; rfl) ?_
          refine Ev.pos (by omega) ?_
          by_cases hd10 : d = 10
          · have he : eolN (c :: d :: r') = 2 := by simp [eolN, endedL, h10, h13, hd10]; omega
            rw [he]
            refine Ev.pos (by rw [hd10]; rfl) ?_
            exact Ev.now _
          · have he : eolN (c :: d :: r') = 0 := by simp [eolN, endedL, h10, h13, hd10]
            rw [he]
            have hn2 : ¬ ((d.toNat : Int) = 10) := fun h => hd10 ((u8_is d 10 (by omega)).1 (by omega))
            refine Ev.neg hn2 ?_
            exact Ev.now _
        · have he : eolN (c :: d :: r') = 0 := by simp [eolN, endedL, h10, h13]
          rw [he]
          have hn2 : ¬ ((c.toNat : Int) = 13) := fun h => h13 ((u8_is c 13 (by omega)).1 (by omega))
          refine Ev.neg hn2 ?_
          exact Ev.now _
end Go.Proofs.YtjmeoplajfmieaaDoor.Pure
