/- Links: the document's scheme and kind are the program's. -/
import Derived.Test.YthilhcpdbjeepaaGreatDoorPure16a
namespace Go.Proofs.YthilhcpdbjeepaaGreatDoor.Pure
open Go.RowKit Go.Lib Go.Proofs.YthilhcpdbjeepaaGreatDoor Go.Proofs.YthilhcpdbjeepaaGreatDoor.P Go.Proofs.YthilhcpdbjeepaaGreatDoorW.PrintWords Go.Proofs.YthilhcpdbjeepaaGreatDoorW.PrintLast
set_option linter.unusedVariables false
set_option linter.unusedSimpArgs false
def schemeC (c : List UInt8) : List UInt8 × Bool := nameL (cutL 58 c).1 (cutL 58 c).2.2
theorem scheme_is (l : List UInt8) : schemeL l = schemeC (cleanL l) := rfl
theorem letter_all : ∀ c : Fin 256, muslinref03_Letter.f (c.val : Int) = some (isLb (UInt8.ofNat c.val)) := by decide +kernel
theorem letter_is (c : UInt8) : muslinref03_Letter.f (c.toNat : Int) = some (isLb c) := by
  have h := letter_all ⟨c.toNat, UInt8.toNat_lt c⟩
  simpa using h
theorem digit_all : ∀ c : Fin 256, muslinref03_Digit.f (c.val : Int) = some (decide (48 ≤ (UInt8.ofNat c.val).toNat ∧ (UInt8.ofNat c.val).toNat ≤ 57)) := by decide +kernel
theorem digit_is (c : UInt8) : muslinref03_Digit.f (c.toNat : Int) = some (decide (48 ≤ c.toNat ∧ c.toNat ≤ 57)) := by
  have h := digit_all ⟨c.toNat, UInt8.toNat_lt c⟩
  simpa using h
theorem small_got (s : ByteArray) (h : s.size ≤ 9223372036854775807) : muslinref03_Small.f s = some (lowS s) := guard_of h
/-- What has been read of a scheme. -/
def okPre (pre : List UInt8) : Prop := noCol pre ∧ pre.all goodC = true ∧ ∀ c r, pre = c :: r → isLb c = true
theorem okPre_snoc {pre : List UInt8} {c : UInt8} (h : okPre pre) (hc : c ≠ 58) (hg : goodC c = true) (hf : pre = [] → isLb c = true) : okPre (pre ++ [c]) := by
  obtain ⟨h1, h2, h3⟩ := h
  refine ⟨?_, by rw [List.all_append, h2]; simp [hg], ?_⟩
  · intro x hx
    rcases List.mem_append.1 hx with h | h
    · exact h1 x h
    · simp only [List.mem_singleton] at h; rw [h]; exact hc
  · intro a r e
    cases pre with
    | nil => simp at e; rw [← e.1]; exact hf rfl
    | cons b q => simp at e; exact h3 a q (by rw [← e.1])
theorem ref_scheme (c : ByteArray) (hs : c.size ≤ 100000000) : ∀ (n i : Nat), c.size - i ≤ n → i ≤ c.size → okPre (c.data.toList.take i) →
    Ev (fun k => muslinref16_Scheme.l0 k c (i : Int)) ((⟨(schemeC c.data.toList).1.toArray⟩ : ByteArray), (schemeC c.data.toList).2) := by
  have fin : ∀ i, c.size ≤ i → okPre (c.data.toList.take i) → Ev (fun k => muslinref16_Scheme.l0 k c (i : Int)) ((⟨(schemeC c.data.toList).1.toArray⟩ : ByteArray), (schemeC c.data.toList).2) := by
    intro i hi hp
    rw [List.take_of_length_le (by rw [sizeL]; exact hi)] at hp
    refine Ev.round (fun k => by rw [muslinref16_Scheme.l0]) ?_
    refine Ev.neg (by omega) ?_
    have e : schemeC c.data.toList = ([], false) := by unfold schemeC; rw [cut_none _ hp.1]; exact name_none _
    rw [e]
    exact Ev.now _
  intro n
  induction n with
  | zero => intro i h1 h2 h3; exact fin i (by omega) h3
  | succ n ih =>
    intro i h1 h2 h3
    cases hd : c.data.toList.drop i with
    | nil => exact fin i (at_end hd) h3
    | cons d r =>
      obtain ⟨hb, hz, hr⟩ := at_drop hd
      have hi : i < c.data.toList.length := by rw [sizeL]; omega
      have hdi : c.data.toList[i] = d := by
        have h4 := List.drop_eq_getElem_cons hi
        rw [hd] at h4
        injection h4 with h5 _
        exact h5.symm
      have hsp : c.data.toList = c.data.toList.take i ++ d :: r := by rw [← hd, List.take_append_drop]
      have htl : (c.data.toList.take i).length = i := by rw [List.length_take]; omega
      have e1 : ((i : Int) + 1) = ((i + 1 : Nat) : Int) := by omega
      refine Ev.round (fun k => by rw [muslinref16_Scheme.l0]) ?_
      refine Ev.pos (by omega) ?_
      refine Ev.pos (by omega) ?_
      rw [hb, w64 (by omega) (by omega), e1]
      have next : d ≠ 58 → goodC d = true → (i = 0 → isLb d = true) → Ev (fun k => muslinref16_Scheme.l0 k c ((i + 1 : Nat) : Int)) ((⟨(schemeC c.data.toList).1.toArray⟩ : ByteArray), (schemeC c.data.toList).2) := by
        intro q1 q2 q3
        refine ih (i + 1) (by omega) (by omega) ?_
        rw [List.take_succ_eq_append_getElem hi, hdi]
        exact okPre_snoc h3 q1 q2 (fun h => q3 (by rw [h] at htl; exact htl.symm))
      by_cases c1 : (d.toNat : Int) = 58
      · have hd58 : d = 58 := UInt8.toNat_inj.1 (by show d.toNat = 58; omega)
        refine Ev.pos c1 ?_
        refine Ev.pos (by omega) ?_
        refine Ev.got (small_got _ (by
          have : (c.extract 0 ((i : Int)).toNat).size ≤ c.size := by simp [ByteArray.size_extract]; omega
          omega)) ?_
        have hx : (c.extract 0 ((i : Int)).toNat).data.toList = c.data.toList.take i := by rw [extract_list, Int.toNat_natCast, List.drop_zero]
        have e : schemeC c.data.toList = nameL (c.data.toList.take i) true := by
          unfold schemeC
          conv => lhs; rw [hsp, hd58, cut_at _ _ h3.1]
        rw [e]
        unfold lowS
        rw [hx]
        cases hp : c.data.toList.take i with
        | nil =>
          rw [hp] at htl
          have : i = 0 := htl.symm
          subst this
          exact Ev.now _
        | cons a q =>
          rw [hp] at htl h3
          have hl := h3.2.2 a q rfl
          have hn : nameL (a :: q) true = ((a :: q).map lowC, true) := by
            simp only [nameL]
            rw [if_pos hl, if_pos h3.2.1]
          rw [hn]
          have hi0 : decide ((i : Int) > 0) = true := decide_eq_true (by simp only [List.length_cons] at htl; omega)
          rw [hi0]
          exact Ev.now _
      · have hd58 : d ≠ 58 := fun h => c1 (by rw [h]; rfl)
        refine Ev.neg c1 ?_
        refine Ev.got (letter_is d) ?_
        by_cases c2 : isLb d = true
        · refine Ev.pos c2 ?_
          exact next hd58 (by unfold goodC; rw [c2]; rfl) (fun _ => c2)
        · have c2' : isLb d = false := by simpa using c2
          refine Ev.neg c2 ?_
          by_cases c3 : (i : Int) = 0
          · refine Ev.pos c3 ?_
            have hi0 : i = 0 := by omega
            subst hi0
            have e : schemeC c.data.toList = ([], false) := by
              rw [List.take_zero, List.nil_append] at hsp
              by_cases hg : goodC d = true
              · unfold schemeC
                rw [hsp]
                have h5 : ∃ q, (cutL 58 (d :: r)).1 = d :: q := by
                  unfold cutL
                  split
                  · rw [List.takeWhile_cons_of_pos (by simpa using hd58)]; exact ⟨_, rfl⟩
                  · exact ⟨r, rfl⟩
                obtain ⟨q, hq⟩ := h5
                rw [hq]
                exact name_first d q _ c2'
              · have := cut_bad [] d r (fun x hx => by simp at hx) hd58 (by simpa using hg)
                unfold schemeC
                rw [hsp]
                exact this
            rw [e]
            exact Ev.now _
          · refine Ev.neg c3 ?_
            refine Ev.got (digit_is d) ?_
            by_cases c4 : decide (48 ≤ d.toNat ∧ d.toNat ≤ 57) = true
            · refine Ev.pos c4 ?_
              exact next hd58 (by unfold goodC; rw [c4]; simp) (fun h => absurd h (by omega))
            refine Ev.neg c4 ?_
            have sign : (d.toNat = 43 ∨ d.toNat = 45 ∨ d.toNat = 46) → goodC d = true := fun h => by unfold goodC; rw [decide_eq_true h]; simp
            by_cases c5 : (d.toNat : Int) = 43
            · exact Ev.pos c5 (next hd58 (sign (by omega)) (fun h => absurd h (by omega)))
            refine Ev.neg c5 ?_
            by_cases c6 : (d.toNat : Int) = 45
            · exact Ev.pos c6 (next hd58 (sign (by omega)) (fun h => absurd h (by omega)))
            refine Ev.neg c6 ?_
            by_cases c7 : (d.toNat : Int) = 46
            · exact Ev.pos c7 (next hd58 (sign (by omega)) (fun h => absurd h (by omega)))
            refine Ev.neg c7 ?_
            have hg : goodC d = false := by
              unfold goodC
              rw [c2', show decide (48 ≤ d.toNat ∧ d.toNat ≤ 57) = false from by simpa using c4, decide_eq_false (by omega)]; rfl
            have e : schemeC c.data.toList = ([], false) := by
              have := cut_bad _ d r h3.1 hd58 hg
              unfold schemeC
              conv => lhs; rw [hsp]
              exact this
            rw [e]
            exact Ev.now _
theorem refScheme_is (s : ByteArray) (hs : s.size ≤ 100000000) : Ev (fun k => muslinref16_Scheme.f k s) ((⟨(schemeL s.data.toList).1.toArray⟩ : ByteArray), (schemeL s.data.toList).2) := by
  unfold muslinref16_Scheme.f
  refine Ev.bind (refClean_is s hs) ?_
  rw [scheme_is]
  have hc := clean_len s.data.toList
  have hz : (⟨(cleanL s.data.toList).toArray⟩ : ByteArray).size = (cleanL s.data.toList).length := mk_size _
  rw [sizeL] at hc
  exact ref_scheme _ (by omega) _ 0 (Nat.le_refl _) (Nat.zero_le _) ⟨fun x hx => by simp at hx, rfl, fun a r e => by simp at e⟩
/-! hosts and kinds -/
def hostL (rest : List UInt8) : Bool := match rest with | 47 :: 47 :: h :: _ => !([47, 63, 35, 92] : List UInt8).contains h | _ => false
def hostedL (c : List UInt8) : Bool := hostL (cutL 58 c).2.1
def kindC (c : List UInt8) : Int :=
  if (schemeC c).2 = true then
    (if (schemeC c).1 = [104, 116, 116, 112] ∧ hostedL c = true then 1 else if (schemeC c).1 = [104, 116, 116, 112, 115] ∧ hostedL c = true then 2
     else if (schemeC c).1 = [109, 97, 105, 108, 116, 111] then 3 else if (schemeC c).1 = [99, 105, 100] then 4 else 5)
  else 0
theorem index_four : ∀ c : Fin 256, decide (Lib.indexByte [47, 63, 35, 92] (UInt8.ofNat c.val) < 0) = !([47, 63, 35, 92] : List UInt8).contains (UInt8.ofNat c.val) := by decide +kernel
theorem hosted_is (c : ByteArray) (hs : c.size ≤ 100000000) : link_hosted.f c = some (hostedL c.data.toList) := by
  unfold link_hosted.f hostedL
  have h1 : strings_Cut.f c (⟨#[58]⟩ : ByteArray) = some (⟨(cutL 58 c.data.toList).1.toArray⟩, ⟨(cutL 58 c.data.toList).2.1.toArray⟩, (cutL 58 c.data.toList).2.2) := guard_of ⟨rfl, by omega⟩
  rw [h1]
  simp only [Option.bind_some]
  generalize (cutL 58 c.data.toList).2.1 = rest
  unfold strings_CutPrefix.f
  simp only [Option.bind_some, mk_toList]
  match rest with
  | [] => rfl
  | [a] =>
    by_cases ha : a = 47 <;> simp [Lib.hasPrefix, hostL, ha]
  | a :: b :: t =>
    by_cases ha : a = 47
    · by_cases hb : b = 47
      · subst ha hb
        have hp : Lib.hasPrefix (47 :: 47 :: t) [47, 47] = true := by simp [Lib.hasPrefix]
        have ht : Lib.trimPrefix (47 :: 47 :: t) [47, 47] = t := by simp [Lib.trimPrefix, Lib.hasPrefix]
        rw [hp, ht]
        simp only [if_true]
        cases t with
        | nil => rw [if_pos (by rw [toList_eq])]; rfl
        | cons h t =>
          rw [if_neg (by rw [toList_eq]; simp), if_pos (by rw [mk_size]; simp)]
          have hb0 : bt (⟨(h :: t).toArray⟩ : ByteArray) 0 = (h.toNat : Int) := bt_get _ 0 (by simp)
          rw [hb0]
          unfold strings_IndexByte.f
          simp only [Option.bind_some]
          rw [show (h.toNat : Int).toNat.toUInt8 = h from by simp]
          have := index_four ⟨h.toNat, UInt8.toNat_lt h⟩
          simp only [UInt8.ofNat_toNat] at this
          rw [this]
          rfl
      · have hb' : ¬ 47 = b := fun h => hb h.symm
        have hp : Lib.hasPrefix (a :: b :: t) [47, 47] = false := by simp [Lib.hasPrefix, List.isPrefixOf, ha, hb']
        rw [hp]
        simp [hostL, ha, hb]
    · have ha' : ¬ 47 = a := fun h => ha h.symm
      have hp : Lib.hasPrefix (a :: b :: t) [47, 47] = false := by simp [Lib.hasPrefix, List.isPrefixOf, ha']
      rw [hp]
      simp [hostL, ha]
end Go.Proofs.YthilhcpdbjeepaaGreatDoor.Pure
