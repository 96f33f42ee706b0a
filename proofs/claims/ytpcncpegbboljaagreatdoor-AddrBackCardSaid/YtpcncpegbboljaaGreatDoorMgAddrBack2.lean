/- Parts of the proof of the law AddrBack, in one text: AddrL, Once, Repl, ReplB, ReplC, ReplD, AddrJ, AddrK, AddrM, AddrN, AddrO, R0, D0, E0, AddrX, P1. -/
import Derived.Test.YtpcncpegbboljaaGreatDoorMgAddrBack1
import Derived.Tactics2
import Derived.Defers
import Derived.Laws.Pointers
import Derived.Laws.LoneSync
import Derived.RegionTactic
import Derived.RegionCalls
import Derived.ChangeAlike
import Derived.Lib.SliceRun
import Derived.Laws.AppendOwn
import Derived.Laws.CopyOwn
import Derived.Laws.NewBlocks
import Derived.Deep.DeepFit
import Derived.Deep.RegionLaw
set_option linter.unusedVariables false
set_option linter.unusedSimpArgs false
namespace Go.Proofs.YtpcncpegbboljaaGreatDoor.Addr
open Go.RowKit Go.Lib Go.Proofs.YtpcncpegbboljaaGreatDoor Go.Proofs.YtpcncpegbboljaaGreatDoor.Pure
set_option linter.unusedVariables false
set_option linter.unusedSimpArgs false
def textsG : Nat → List UInt8 → Bool → List UInt8 → List (List UInt8)
  | 0, cur, _, _ => [cur]
  | f + 1, cur, ang, l =>
    match l with
    | [] => [cur]
    | c :: r =>
      if c = 60 then textsG f (cur ++ [c]) true r
      else if c = 62 then textsG f (cur ++ [c]) false r
      else if (c = 44 ∨ c = 59) ∧ ang = false then cur :: textsG f [] ang r
      else textsG f (cur ++ (c :: r).take (itemL (c :: r)).1) ang ((c :: r).drop (itemL (c :: r)).1)
theorem textsG_more : ∀ (f : Nat) (cur : List UInt8) (ang : Bool) (l : List UInt8), l.length ≤ f → ∀ g, f ≤ g → textsG g cur ang l = textsG f cur ang l := by
  intro f
  induction f with
  | zero =>
    intro cur ang l h g _
    obtain rfl := List.eq_nil_of_length_eq_zero (by omega : l.length = 0)
    cases g <;> simp [textsG]
  | succ f ih =>
    intro cur ang l h g hg
    obtain ⟨g, rfl⟩ : ∃ k, g = k + 1 := ⟨g - 1, by omega⟩
    cases l with
    | nil => simp [textsG]
    | cons c r =>
      simp only [List.length_cons] at h
      have hi := itemL_len c r
      simp only [textsG]
      rw [ih _ _ r (by omega) g (by omega), ih _ _ r (by omega) g (by omega), ih _ _ r (by omega) g (by omega), ih _ _ _ (by rw [List.length_drop, List.length_cons]; omega) g (by omega)]
def textsF (cur : List UInt8) (ang : Bool) (l : List UInt8) : List (List UInt8) := textsG l.length cur ang l
theorem textsF_nil (cur : List UInt8) (ang : Bool) : textsF cur ang [] = [cur] := rfl
theorem textsF_cons (cur : List UInt8) (ang : Bool) (c : UInt8) (r : List UInt8) : textsF cur ang (c :: r) =
    if c = 60 then textsF (cur ++ [c]) true r
      else if c = 62 then textsF (cur ++ [c]) false r
      else if (c = 44 ∨ c = 59) ∧ ang = false then cur :: textsF [] ang r
      else textsF (cur ++ (c :: r).take (itemL (c :: r)).1) ang ((c :: r).drop (itemL (c :: r)).1) := by
  have hi := itemL_len c r
  unfold textsF
  simp only [List.length_cons, textsG]
  rw [textsG_more _ _ _ ((c :: r).drop (itemL (c :: r)).1) (Nat.le_refl _) r.length (by rw [List.length_drop, List.length_cons]; omega)]
theorem item_one (c : UInt8) (r : List UInt8) (h1 : c ≠ 34) (h2 : c ≠ 40) : itemL (c :: r) = (1, false) := by
  simp only [itemL]; rw [if_neg (by rintro (h | h); exact h1 h; exact h2 h)]
theorem texts_is (s : ByteArray) : ∀ (n i : Nat) (st : TxSt) (cur : List UInt8), s.size - i ≤ n → i ≤ s.size → st.from_ ≤ i → (s.data.toList.take i).drop st.from_ = cur →
    ((foldA (txStep s) i (s.data.toList.drop i) st).l ++ [s.extract (foldA (txStep s) i (s.data.toList.drop i) st).from_ s.size]).map (·.data.toList) = st.l.map (·.data.toList) ++ textsF cur st.angle (s.data.toList.drop i) := by
  have hl : s.data.toList.length = s.size := by simp
  have fin : ∀ (i : Nat) (st : TxSt) (cur : List UInt8), s.size ≤ i → i ≤ s.size → st.from_ ≤ i → (s.data.toList.take i).drop st.from_ = cur →
      ((foldA (txStep s) i (s.data.toList.drop i) st).l ++ [s.extract (foldA (txStep s) i (s.data.toList.drop i) st).from_ s.size]).map (·.data.toList) = st.l.map (·.data.toList) ++ textsF cur st.angle (s.data.toList.drop i) := by
    intro i st cur h1 h2 h3 h4
    obtain rfl : i = s.size := by omega
    rw [List.drop_eq_nil_of_le (by rw [hl]; omega), foldA_nil, textsF_nil, List.map_append, List.map_cons, List.map_nil, extract_list, h4]
  intro n
  induction n with
  | zero => intro i st cur h1 h2 h3 h4; exact fin i st cur (by omega) h2 h3 h4
  | succ n ih =>
    intro i st cur h1 h2 h3 h4
    cases hd : s.data.toList.drop i with
    | nil => have := fin i st cur (at_end hd) h2 h3 h4; rw [hd] at this; exact this
    | cons c r =>
      obtain ⟨_, hlt, hr⟩ := at_drop hd
      have hz := congrArg List.length hd
      rw [List.length_drop, hl, List.length_cons] at hz
      have hit := itemL_len c r
      have hcur : ∀ k, 1 ≤ k → k ≤ r.length + 1 → (s.data.toList.take (i + k)).drop st.from_ = cur ++ (c :: r).take k := by
        intro k hk1 hk2
        rw [List.take_add, List.drop_append_of_le_length (by rw [List.length_take, hl]; omega), h4, hd]
      have hstep : txStep s st i (itemL (c :: r)).1 (itemL (c :: r)).2 = if c = 60 then { st with angle := true } else if c = 62 then { st with angle := false } else if (c = 44 ∨ c = 59) ∧ st.angle = false then { st with l := st.l ++ [s.extract st.from_ i], from_ := i + 1 } else st := by
        unfold txStep; rw [hd]
      rw [foldA_cons _ _ _ _ (by simp), ← hd, List.drop_drop, hd, hstep, textsF_cons]
      have one : c ≠ 34 → c ≠ 40 → (itemL (c :: r)).1 = 1 := fun a b => by rw [item_one c r a b]
      by_cases h60 : c = 60
      · have h1' := one (by rw [h60]; decide) (by rw [h60]; decide)
        rw [if_pos h60, if_pos h60, h1']
        have e := hcur 1 (by omega) (by omega)
        have := ih (i + 1) { st with angle := true } (cur ++ [c]) (by omega) (by omega) (by show st.from_ ≤ _; omega) e
        rw [hr] at this ⊢
        exact this
      · rw [if_neg h60, if_neg h60]
        by_cases h62 : c = 62
        · have h1' := one (by rw [h62]; decide) (by rw [h62]; decide)
          rw [if_pos h62, if_pos h62, h1']
          have e := hcur 1 (by omega) (by omega)
          have := ih (i + 1) { st with angle := false } (cur ++ [c]) (by omega) (by omega) (by show st.from_ ≤ _; omega) e
          rw [hr] at this ⊢
          exact this
        · rw [if_neg h62, if_neg h62]
          by_cases h44 : (c = 44 ∨ c = 59) ∧ st.angle = false
          · have h1' := one (by rcases h44.1 with h | h <;> rw [h] <;> decide) (by rcases h44.1 with h | h <;> rw [h] <;> decide)
            rw [if_pos h44, if_pos h44, h1']
            have := ih (i + 1) { st with l := st.l ++ [s.extract st.from_ i], from_ := i + 1 } [] (by omega) (by omega) (by show i + 1 ≤ _; omega) (List.drop_eq_nil_of_le (by show (List.take (i + 1) s.data.toList).length ≤ i + 1; rw [List.length_take]; omega))
            rw [hr] at this ⊢
            rw [this]
            simp only [List.map_append, List.map_cons, List.map_nil, extract_list, h4, List.append_assoc]; rfl
          · rw [if_neg h44, if_neg h44]
            have := ih (i + (itemL (c :: r)).1) st (cur ++ (c :: r).take (itemL (c :: r)).1) (by omega) (by omega) (by omega) (hcur _ hit.1 hit.2)
            rw [this, ← hd, List.drop_drop]
theorem textsL_is (s : ByteArray) : (textsL s).map (·.data.toList) = textsF [] false s.data.toList := by
  have := texts_is s s.size 0 ⟨[], 0, false⟩ [] (by omega) (by omega) (Nat.le_refl _) (by simp)
  rw [List.drop_zero] at this
  exact this
def angG : Nat → List UInt8 → List UInt8
  | 0, _ => []
  | f + 1, l =>
    match l with
    | [] => []
    | c :: r => if c = 62 then [] else (c :: r).take (itemL (c :: r)).1 ++ angG f ((c :: r).drop (itemL (c :: r)).1)
theorem angG_more : ∀ (f : Nat) (l : List UInt8), l.length ≤ f → ∀ g, f ≤ g → angG g l = angG f l := by
  intro f
  induction f with
  | zero =>
    intro l h g _
    obtain rfl := List.eq_nil_of_length_eq_zero (by omega : l.length = 0)
    cases g <;> simp [angG]
  | succ f ih =>
    intro l h g hg
    obtain ⟨g, rfl⟩ : ∃ k, g = k + 1 := ⟨g - 1, by omega⟩
    cases l with
    | nil => simp [angG]
    | cons c r =>
      simp only [List.length_cons] at h
      have hi := itemL_len c r
      simp only [angG]
      rw [ih _ (by rw [List.length_drop, List.length_cons]; omega) g (by omega)]
def angF (l : List UInt8) : List UInt8 := angG l.length l
theorem angF_nil : angF [] = [] := rfl
theorem angF_cons (c : UInt8) (r : List UInt8) : angF (c :: r) = if c = 62 then [] else (c :: r).take (itemL (c :: r)).1 ++ angF ((c :: r).drop (itemL (c :: r)).1) := by
  have hi := itemL_len c r
  unfold angF
  simp only [List.length_cons, angG]
  rw [angG_more _ ((c :: r).drop (itemL (c :: r)).1) (Nat.le_refl _) r.length (by rw [List.length_drop, List.length_cons]; omega)]
def boxG : Nat → List UInt8 → List UInt8 → List UInt8 → Bool → List UInt8 → List UInt8 × List UInt8
  | 0, _, rest, remark, _, _ => (WordL.wordL (trimW remark), trimW rest)
  | f + 1, pre, rest, remark, found, l =>
    match l with
    | [] => (WordL.wordL (trimW remark), trimW rest)
    | c :: r =>
      if c = 60 then (calledL pre, trimW (angF r))
      else if c = 40 then boxG f (pre ++ (c :: r).take (itemL (c :: r)).1) rest (if found = true then remark else innerL ((c :: r).take (itemL (c :: r)).1) (itemL (c :: r)).2) true ((c :: r).drop (itemL (c :: r)).1)
      else boxG f (pre ++ (c :: r).take (itemL (c :: r)).1) (rest ++ (c :: r).take (itemL (c :: r)).1) remark found ((c :: r).drop (itemL (c :: r)).1)
theorem boxG_more : ∀ (f : Nat) (pre rest remark : List UInt8) (found : Bool) (l : List UInt8), l.length ≤ f → ∀ g, f ≤ g → boxG g pre rest remark found l = boxG f pre rest remark found l := by
  intro f
  induction f with
  | zero =>
    intro pre rest remark found l h g _
    obtain rfl := List.eq_nil_of_length_eq_zero (by omega : l.length = 0)
    cases g <;> simp [boxG]
  | succ f ih =>
    intro pre rest remark found l h g hg
    obtain ⟨g, rfl⟩ : ∃ k, g = k + 1 := ⟨g - 1, by omega⟩
    cases l with
    | nil => simp [boxG]
    | cons c r =>
      simp only [List.length_cons] at h
      have hi := itemL_len c r
      simp only [boxG]
      rw [ih _ _ _ _ _ (by rw [List.length_drop, List.length_cons]; omega) g (by omega), ih _ _ _ _ _ (by rw [List.length_drop, List.length_cons]; omega) g (by omega)]
def boxF (pre rest remark : List UInt8) (found : Bool) (l : List UInt8) : List UInt8 × List UInt8 := boxG l.length pre rest remark found l
theorem boxF_nil (pre rest remark : List UInt8) (found : Bool) : boxF pre rest remark found [] = (WordL.wordL (trimW remark), trimW rest) := rfl
theorem boxF_cons (pre rest remark : List UInt8) (found : Bool) (c : UInt8) (r : List UInt8) : boxF pre rest remark found (c :: r) =
    if c = 60 then (calledL pre, trimW (angF r))
      else if c = 40 then boxF (pre ++ (c :: r).take (itemL (c :: r)).1) rest (if found = true then remark else innerL ((c :: r).take (itemL (c :: r)).1) (itemL (c :: r)).2) true ((c :: r).drop (itemL (c :: r)).1)
      else boxF (pre ++ (c :: r).take (itemL (c :: r)).1) (rest ++ (c :: r).take (itemL (c :: r)).1) remark found ((c :: r).drop (itemL (c :: r)).1) := by
  have hi := itemL_len c r
  unfold boxF
  simp only [List.length_cons, boxG]
  rw [boxG_more _ _ _ _ _ ((c :: r).drop (itemL (c :: r)).1) (Nat.le_refl _) r.length (by rw [List.length_drop, List.length_cons]; omega),
    boxG_more _ _ _ _ _ ((c :: r).drop (itemL (c :: r)).1) (Nat.le_refl _) r.length (by rw [List.length_drop, List.length_cons]; omega)]
def boxR (s : ByteArray) (st : BxSt) : List UInt8 × List UInt8 :=
  (if st.a < 0 then WordL.wordL (trimW st.remark) else calledL (s.data.toList.take st.a.toNat),
   if st.a < 0 then trimW st.rest else trimW ((s.data.toList.take (if st.z < 0 then s.size else st.z.toNat)).drop (st.a.toNat + 1)))
theorem box_done (s : ByteArray) : ∀ (n i : Nat) (st : BxSt), s.size - i ≤ n → i ≤ s.size → ¬ st.a < 0 → ¬ st.z < 0 → (foldA (bxStep s) i (s.data.toList.drop i) st).a = st.a ∧ (foldA (bxStep s) i (s.data.toList.drop i) st).z = st.z := by
  have hl : s.data.toList.length = s.size := by simp
  intro n
  induction n with
  | zero =>
    intro i st h1 h2 ha hz
    rw [List.drop_eq_nil_of_le (by rw [hl]; omega), foldA_nil]; exact ⟨rfl, rfl⟩
  | succ n ih =>
    intro i st h1 h2 ha hz
    cases hd : s.data.toList.drop i with
    | nil => rw [foldA_nil]; exact ⟨rfl, rfl⟩
    | cons c r =>
      obtain ⟨_, hlt, hr⟩ := at_drop hd
      have hz1 := congrArg List.length hd
      rw [List.length_drop, hl, List.length_cons] at hz1
      have hit := itemL_len c r
      rw [foldA_cons _ _ _ _ (by simp), ← hd, List.drop_drop, hd]
      have hs : (bxStep s st i (itemL (c :: r)).1 (itemL (c :: r)).2).a = st.a ∧ (bxStep s st i (itemL (c :: r)).1 (itemL (c :: r)).2).z = st.z := by
        unfold bxStep; rw [hd]; simp only
        rw [if_neg (fun h => ha h.2), if_neg (fun h => hz h.2.2)]
        split
        · split <;> exact ⟨rfl, rfl⟩
        · exact ⟨rfl, rfl⟩
      have := ih (i + (itemL (c :: r)).1) _ (by omega) (by omega) (by rw [hs.1]; exact ha) (by rw [hs.2]; exact hz)
      rw [hs.1, hs.2] at this
      exact this
theorem box_ang (s : ByteArray) : ∀ (n i : Nat) (st : BxSt) (f : Nat), s.size - i ≤ n → i ≤ s.size → st.a = (f : Int) → f + 1 ≤ i → st.z < 0 →
    boxR s (foldA (bxStep s) i (s.data.toList.drop i) st) = (calledL (s.data.toList.take f), trimW ((s.data.toList.take i).drop (f + 1) ++ angF (s.data.toList.drop i))) := by
  have hl : s.data.toList.length = s.size := by simp
  have fin : ∀ (i : Nat) (st : BxSt) (f : Nat), s.size ≤ i → i ≤ s.size → st.a = (f : Int) → f + 1 ≤ i → st.z < 0 →
      boxR s (foldA (bxStep s) i (s.data.toList.drop i) st) = (calledL (s.data.toList.take f), trimW ((s.data.toList.take i).drop (f + 1) ++ angF (s.data.toList.drop i))) := by
    intro i st f h1 h2 h3 h4 h5
    obtain rfl : i = s.size := by omega
    rw [List.drop_eq_nil_of_le (by rw [hl]; omega), foldA_nil, angF_nil, List.append_nil]
    unfold boxR
    rw [if_neg (by omega), if_neg (by omega), if_pos h5, h3, Int.toNat_natCast]
  intro n
  induction n with
  | zero => intro i st f h1 h2 h3 h4 h5; exact fin i st f (by omega) h2 h3 h4 h5
  | succ n ih =>
    intro i st f h1 h2 h3 h4 h5
    cases hd : s.data.toList.drop i with
    | nil => have := fin i st f (at_end hd) h2 h3 h4 h5; rw [hd] at this; exact this
    | cons c r =>
      obtain ⟨_, hlt, hr⟩ := at_drop hd
      have hz1 := congrArg List.length hd
      rw [List.length_drop, hl, List.length_cons] at hz1
      have hit := itemL_len c r
      rw [foldA_cons _ _ _ _ (by simp), ← hd, List.drop_drop, hd, angF_cons]
      by_cases h62 : c = 62
      · rw [if_pos h62, List.append_nil]
        have hs : (bxStep s st i (itemL (c :: r)).1 (itemL (c :: r)).2).a = st.a ∧ (bxStep s st i (itemL (c :: r)).1 (itemL (c :: r)).2).z = (i : Int) := by
          unfold bxStep; rw [hd]; simp only
          rw [if_neg (fun h => absurd h.1 (by rw [h62]; decide)), if_pos ⟨h62, by omega, h5⟩]
          exact ⟨rfl, rfl⟩
        have hdn := box_done s s.size (i + (itemL (c :: r)).1) (bxStep s st i (itemL (c :: r)).1 (itemL (c :: r)).2) (by omega) (by omega) (by rw [hs.1]; omega) (by rw [hs.2]; omega)
        unfold boxR
        rw [hdn.1, hdn.2, hs.1, hs.2, if_neg (by omega), if_neg (by omega), if_neg (by omega), h3, Int.toNat_natCast, Int.toNat_natCast]
      · rw [if_neg h62]
        have hs : (bxStep s st i (itemL (c :: r)).1 (itemL (c :: r)).2).a = st.a ∧ (bxStep s st i (itemL (c :: r)).1 (itemL (c :: r)).2).z = st.z := by
          unfold bxStep; rw [hd]; simp only
          rw [if_neg (fun h => absurd h.2 (by omega)), if_neg (fun h => h62 h.1)]
          split
          · split <;> exact ⟨rfl, rfl⟩
          · exact ⟨rfl, rfl⟩
        rw [ih (i + (itemL (c :: r)).1) _ f (by omega) (by omega) (by rw [hs.1]; exact h3) (by omega) (by rw [hs.2]; exact h5)]
        rw [List.take_add, List.drop_append_of_le_length (by rw [List.length_take, hl]; omega), hd, List.append_assoc, ← hd, List.drop_drop]
theorem box_is (s : ByteArray) : ∀ (n i : Nat) (st : BxSt), s.size - i ≤ n → i ≤ s.size → st.a < 0 →
    boxR s (foldA (bxStep s) i (s.data.toList.drop i) { st with z := -1 }) = boxF (s.data.toList.take i) st.rest st.remark st.found (s.data.toList.drop i) := by
  have hl : s.data.toList.length = s.size := by simp
  have fin : ∀ (i : Nat) (st : BxSt), s.size ≤ i → i ≤ s.size → st.a < 0 →
      boxR s (foldA (bxStep s) i (s.data.toList.drop i) { st with z := -1 }) = boxF (s.data.toList.take i) st.rest st.remark st.found (s.data.toList.drop i) := by
    intro i st h1 h2 h3
    rw [List.drop_eq_nil_of_le (by rw [hl]; omega), foldA_nil, boxF_nil]
    unfold boxR
    rw [if_pos h3, if_pos h3]
  intro n
  induction n with
  | zero => intro i st h1 h2 h3; exact fin i st (by omega) h2 h3
  | succ n ih =>
    intro i st h1 h2 h3
    cases hd : s.data.toList.drop i with
    | nil => have := fin i st (at_end hd) h2 h3; rw [hd] at this; exact this
    | cons c r =>
      obtain ⟨_, hlt, hr⟩ := at_drop hd
      have hz1 := congrArg List.length hd
      rw [List.length_drop, hl, List.length_cons] at hz1
      have hit := itemL_len c r
      rw [foldA_cons _ _ _ _ (by simp), ← hd, List.drop_drop, hd, boxF_cons]
      have ht : ∀ k, s.data.toList.take i ++ (c :: r).take k = s.data.toList.take (i + k) := by
        intro k; rw [List.take_add, hd]
      by_cases h60 : c = 60
      · have h1' : (itemL (c :: r)).1 = 1 := by rw [item_one c r (by rw [h60]; decide) (by rw [h60]; decide)]
        rw [if_pos h60]
        have hs : (bxStep s { st with z := -1 } i (itemL (c :: r)).1 (itemL (c :: r)).2).a = (i : Int) ∧ (bxStep s { st with z := -1 } i (itemL (c :: r)).1 (itemL (c :: r)).2).z = -1 := by
          unfold bxStep; rw [hd]; simp only
          rw [if_pos ⟨h60, h3⟩]; exact ⟨rfl, rfl⟩
        rw [h1'] at hs ⊢
        rw [box_ang s s.size (i + 1) _ i (by omega) (by omega) hs.1 (by omega) (by rw [hs.2]; decide)]
        rw [List.drop_eq_nil_of_le (by rw [List.length_take]; omega), List.nil_append, hr]
      · rw [if_neg h60, ht]
        have hdr : (c :: r).drop (itemL (c :: r)).1 = s.data.toList.drop (i + (itemL (c :: r)).1) := by rw [← hd, List.drop_drop]
        rw [hdr]
        by_cases h40 : c = 40
        · rw [if_pos h40]
          have hs : bxStep s { st with z := -1 } i (itemL (c :: r)).1 (itemL (c :: r)).2 = { (if st.found = true then st else { st with remark := innerL ((c :: r).take (itemL (c :: r)).1) (itemL (c :: r)).2, found := true }) with z := -1 } := by
            unfold bxStep; rw [hd]; simp only
            rw [if_neg (fun h => h60 h.1), if_neg (fun h => absurd h.1 (by rw [h40]; decide)), if_pos h40]
            split <;> rfl
          rw [hs]
          have := ih (i + (itemL (c :: r)).1) (if st.found = true then st else { st with remark := innerL ((c :: r).take (itemL (c :: r)).1) (itemL (c :: r)).2, found := true }) (by omega) (by omega) (by split <;> exact h3)
          rw [this]
          by_cases hf : st.found = true
          · rw [if_pos hf, if_pos hf, hf]
          · rw [if_neg hf, if_neg hf]
        · rw [if_neg h40]
          have hs : bxStep s { st with z := -1 } i (itemL (c :: r)).1 (itemL (c :: r)).2 = { { st with rest := st.rest ++ (c :: r).take (itemL (c :: r)).1 } with z := -1 } := by
            unfold bxStep; rw [hd]; simp only
            rw [if_neg (fun h => h60 h.1), if_neg (fun h => absurd h3 h.2.1), if_neg h40]
          rw [hs]
          exact ih (i + (itemL (c :: r)).1) { st with rest := st.rest ++ (c :: r).take (itemL (c :: r)).1 } (by omega) (by omega) h3
def boxP (l : List UInt8) : List UInt8 × List UInt8 := boxF [] [] [] false l
theorem boxNM_is (s : ByteArray) : boxN s = (boxP s.data.toList).1 ∧ boxM s = (boxP s.data.toList).2 := by
  have h := box_is s s.size 0 ⟨-1, -1, [], false, []⟩ (by omega) (by omega) (by decide)
  rw [List.drop_zero, List.take_zero] at h
  have hR : boxR s (boxS s) = boxP s.data.toList := h
  exact ⟨congrArg Prod.fst hR, congrArg Prod.snd hR⟩
def keepP (x : List UInt8 × List UInt8) : List (List UInt8 × List UInt8) :=
  if x.1 = [] ∧ (if goodL x.2 = true then x.2 else []) = [] then [] else [(x.1, if goodL x.2 = true then x.2 else [])]
def parseP (l : List UInt8) : List (List UInt8 × List UInt8) := (textsF [] false l).flatMap fun t => keepP (boxP t)
theorem parse_fold (xs : List ByteArray) : ∀ acc, xs.foldl parseStep acc = acc ++ (xs.map (·.data.toList)).flatMap fun t => keepP (boxP t) := by
  induction xs with
  | nil => intro acc; simp
  | cons x xs ih =>
    intro acc
    have h := boxNM_is x
    have hs : parseStep acc x = acc ++ keepP (boxP x.data.toList) := by
      unfold parseStep keepP mailL
      rw [h.1, h.2]
      by_cases hc : (boxP x.data.toList).1 = [] ∧ (if goodL (boxP x.data.toList).2 = true then (boxP x.data.toList).2 else []) = []
      · rw [if_pos hc, if_pos hc, List.append_nil]
      · rw [if_neg hc, if_neg hc]
    rw [List.foldl_cons, ih, hs, List.map_cons, List.flatMap_cons, List.append_assoc]
theorem parseL_is (s : ByteArray) : parseL s = parseP s.data.toList := by
  unfold parseL parseP
  rw [parse_fold, textsL_is, List.nil_append]
end Go.Proofs.YtpcncpegbboljaaGreatDoor.Addr
namespace Go.Proofs.YtpcncpegbboljaaGreatDoor.Once
set_option linter.unusedVariables false
set_option linter.unusedSimpArgs false
theorem disable (w : World) : (callFunc 150 #[]).run Tryz.prog w = .ok (.value (.tuple #[])) w := run_call_mark0 Tryz.func150 (by kernel_rfl) (by kernel_rfl) (by kernel_rfl) .disable (by kernel_rfl) w
theorem enable (w : World) : (callFunc 152 #[]).run Tryz.prog w = .ok (.value (.tuple #[])) w := run_call_mark0 Tryz.func152 (by kernel_rfl) (by kernel_rfl) (by kernel_rfl) .enable (by kernel_rfl) w
theorem acquire (a : Addr) (w : World) : (callFunc 153 #[.pointer (some a)]).run Tryz.prog w = .ok (.value (.tuple #[])) w := run_call_marked Tryz.func153 (by kernel_rfl) (by kernel_rfl) (by kernel_rfl) .acquire (by kernel_rfl) a w
theorem releaseMerge (a : Addr) (w : World) : (callFunc 155 #[.pointer (some a)]).run Tryz.prog w = .ok (.value (.tuple #[])) w := run_call_marked Tryz.func155 (by kernel_rfl) (by kernel_rfl) (by kernel_rfl) .releaseMerge (by kernel_rfl) a w
theorem store_deferred (a : Addr) (x : Value) (u : FrameMode) (w : World) (hc : w.cell? a = some x) (hz : w.frozen? a = false) :
    CallsD Tryz.prog 117 #[.pointer (some a), .bool true] u w fun e u' w' => u' = u ∧ (e = .returned (.tuple #[]) ∧ w' = w.drew.setCell a (.int .u32 1)) := by
  have hc' : w.drew.cell? a = some x := by go_simp
  have hz' : w.drew.frozen? a = false := by go_simp
  have hst := run_call_store (P := Tryz.prog) Tryz.func140 (by kernel_rfl) (by kernel_rfl) (by kernel_rfl) (by kernel_rfl) (k := .u32) (y := 1) hc' hz'
  go_enter_d Tryz.func117, Tryz.ntmps117
  go_wp2
  go_region_calls
  all_goals (go_end0; exact ⟨rfl, rfl⟩)
set_option maxRecDepth 100000 in
set_option maxHeartbeats 1600000 in
theorem unlock_deferred (a : Addr) (u : FrameMode) (w : World) (hc : w.cell? a = some (.int .i32 1)) (hz : w.frozen? a = false) :
    CallsD Tryz.prog 116 #[.pointer (some a)] u w fun e u' w' => u' = u ∧ (e = .returned (.tuple #[]) ∧ w' = w.setCell a (.int .i32 0)) := by
  have hd := disable
  have he := enable
  have hr := releaseMerge
  have hadd := run_call_add (P := Tryz.prog) Tryz.func156 (by kernel_rfl) (by kernel_rfl) (by kernel_rfl) .i32 (by kernel_rfl) (y := -1) (s := 0) hc hz (by simp [go_sem]; rfl)
  have hcv := run_convert_to_unsafe (P := Tryz.prog) (src := 165) (dst := 108) Tryz.underlying165 Tryz.underlying108 (by kernel_rfl) hc
  go_enter_d Tryz.func116, Tryz.ntmps116
  go_wp2
  go_end0
  go_wp2
  go_end0
  exact ⟨rfl, rfl⟩
set_option maxRecDepth 100000 in
set_option maxHeartbeats 1600000 in
theorem lock_free (a : Addr) (w : World) (hc : w.cell? a = some (.int .i32 0)) (hz : w.frozen? a = false) :
    Calls Tryz.prog 115 #[.pointer (some a)] w fun e w' => e = .returned (.tuple #[]) ∧ w' = w.setCell a (.int .i32 1) := by
  have hd := disable
  have he := enable
  have ha := acquire
  have hcas := run_call_cas_hit (P := Tryz.prog) Tryz.func151 (by kernel_rfl) (by kernel_rfl) (by kernel_rfl) .i32 (by kernel_rfl) (y := 1) hc hz
  have hc' : (w.setCell a (.int .i32 1)).cell? a = some (.int .i32 1) := World.cell?_setCell_same w a _ hc
  have hcv := run_convert_to_unsafe (P := Tryz.prog) (src := 165) (dst := 108) Tryz.underlying165 Tryz.underlying108 (by kernel_rfl) hc'
  go_enter Tryz.func115, Tryz.ntmps115
  go_wp2
  first | go_end0 | (simp only [Exit.inBlock, Exit.then]; refine bodyPost_ret (results_none rfl _ _ _) rfl ?_) | refine bodyPost_ret (results_none rfl _ _ _) rfl ?_
  go_wp2
  go_end0
  exact ⟨rfl, rfl⟩
set_option maxRecDepth 100000 in
set_option maxHeartbeats 1600000 in
theorem slow_any (b : Nat) (cap : Array Value) (w : World) (Q : World → Prop)
    (h0 : w.cell? ⟨b, 0, none⟩ = some (.int .u32 0)) (h1 : w.cell? ⟨b, 1, none⟩ = some (.int .i32 0))
    (f1 : w.frozen? ⟨b, 1, none⟩ = false)
    (hg : Calls Tryz.prog 59 cap (w.setCell ⟨b, 1, none⟩ (.int .i32 1)) fun e w' => e = .returned (.tuple #[]) ∧ Q w')
    (hq : ∀ w', Q w' → (∃ x, w'.cell? ⟨b, 0, none⟩ = some x) ∧ w'.cell? ⟨b, 1, none⟩ = some (.int .i32 1) ∧ w'.frozen? ⟨b, 0, none⟩ = false ∧ w'.frozen? ⟨b, 1, none⟩ = false) :
    Calls Tryz.prog 90 #[.pointer (some ⟨b, 0, none⟩), .func (.func 59) cap #[]] w fun e w' => e = .returned (.tuple #[]) ∧
      ∃ w1, Q w1 ∧ w' = (w1.drew.setCell ⟨b, 0, none⟩ (.int .u32 1)).setCell ⟨b, 1, none⟩ (.int .i32 0) := by
  have hl := run_call_load (P := Tryz.prog) Tryz.func114 (by kernel_rfl) (by kernel_rfl) (by kernel_rfl) .u32 (by kernel_rfl) (w := w.setCell ⟨b, 1, none⟩ (.int .i32 1)) (a := ⟨b, 0, none⟩) (x := 0) ((World.cell?_setCell_other _ ⟨b, 1, none⟩ ⟨b, 0, none⟩ _ (by simp)).trans h0)
  have hnot : ∀ (x : Bool) (w : World), (Op.unary .not (.bool x)).run Tryz.prog w = .ok (.bool (!x)) w := fun _ _ => rfl
  go_enter_defers Tryz.func90, Tryz.ntmps90
  go_wp2_with (go_at_call 115; refine (lock_free ⟨b, 1, none⟩ _ (by go_simp) (by go_simp)).mono ?_; rintro e w' ⟨rfl, rfl⟩)
  go_wp2_with (first | (go_at_call 89; go_in) | (go_at_call 59; refine hg.mono ?_; rintro e w' ⟨rfl, hQ⟩))
  obtain ⟨⟨x, q0⟩, q1, q2, q3⟩ := hq _ hQ
  refine leaves_cons (f := 117) (args := #[.pointer (some ⟨b, 0, none⟩), .bool true]) (by simp) (by simp [go_sem]) ?_
  refine (store_deferred ⟨b, 0, none⟩ x .returning _ q0 q2).mono ?_
  rintro e u' w'' ⟨rfl, rfl, rfl⟩
  refine leaves_cons (f := 116) (args := #[.pointer (some ⟨b, 1, none⟩)]) (by simp [settle]) (by simp [go_sem]) ?_
  refine (unlock_deferred ⟨b, 1, none⟩ _ _ ?_ (by simp [q3])).mono ?_
  · refine (World.cell?_setCell_other _ ⟨b, 0, none⟩ ⟨b, 1, none⟩ _ (by simp)).trans ?_
    rw [World.cell?_drew]
    exact q1
  rintro e u' w'' ⟨rfl, rfl, rfl⟩
  simp [Leaves, settle, results, Tryz.results90]
  exact ⟨_, hQ, rfl⟩
set_option maxRecDepth 100000 in
set_option maxHeartbeats 1600000 in
theorem do_first (b : Nat) (cap : Array Value) (w : World) (Q : World → Prop)
    (h0 : w.cell? ⟨b, 0, none⟩ = some (.int .u32 0)) (h1 : w.cell? ⟨b, 1, none⟩ = some (.int .i32 0))
    (f1 : w.frozen? ⟨b, 1, none⟩ = false)
    (hg : Calls Tryz.prog 59 cap (w.setCell ⟨b, 1, none⟩ (.int .i32 1)) fun e w' => e = .returned (.tuple #[]) ∧ Q w')
    (hq : ∀ w', Q w' → (∃ x, w'.cell? ⟨b, 0, none⟩ = some x) ∧ w'.cell? ⟨b, 1, none⟩ = some (.int .i32 1) ∧ w'.frozen? ⟨b, 0, none⟩ = false ∧ w'.frozen? ⟨b, 1, none⟩ = false) :
    Calls Tryz.prog 58 #[.pointer (some ⟨b, 0, none⟩), .func (.func 59) cap #[]] w fun e w' => e = .returned (.tuple #[]) ∧
      ∃ w1, Q w1 ∧ w' = (w1.drew.setCell ⟨b, 0, none⟩ (.int .u32 1)).setCell ⟨b, 1, none⟩ (.int .i32 0) := by
  have hl := run_call_load (P := Tryz.prog) Tryz.func114 (by kernel_rfl) (by kernel_rfl) (by kernel_rfl) .u32 (by kernel_rfl) h0
  have hnot : ∀ (x : Bool) (w : World), (Op.unary .not (.bool x)).run Tryz.prog w = .ok (.bool (!x)) w := fun _ _ => rfl
  have HS := Lib.hid (slow_any b cap w Q h0 h1 f1 hg hq)
  clear hg hq
  go_enter Tryz.func58, Tryz.ntmps58
  go_wp2_with (first | (go_at_call 90; refine HS.out.mono ?_; rintro e w' ⟨rfl, hQ⟩) | (go_at_call 89; go_in))
  go_end0
  exact ⟨rfl, hQ⟩
end Go.Proofs.YtpcncpegbboljaaGreatDoor.Once
namespace Go.Proofs.YtpcncpegbboljaaGreatDoor.Repl
open Go.RowKit Go.Proofs.YtpcncpegbboljaaGreatDoor.Row
set_option linter.unusedVariables false
set_option linter.unusedSimpArgs false
abbrev Pairs := List (UInt8 × ByteArray)
def look (ps : Pairs) (b : Nat) : Option ByteArray := (ps.find? fun p => p.1.toNat == b).map (·.2)
def oldnew (ps : Pairs) : List ByteArray := ps.flatMap fun p => [⟨#[p.1]⟩, p.2]
def RepCell (M : Nat) (w : World) (r : Option ByteArray) (v : Value) : Prop :=
  match r with
  | none => v = .slice none 0 0
  | some s => ∃ B c, M ≤ B ∧ v = .slice (some ⟨B, 0, none⟩) s.size c ∧ Row 5 w B s.data.toList
def Part (M : Nat) (w : World) (R : Nat) (qs : Pairs) : Prop :=
  ∃ (C : Array Value) (tv : Value), M ≤ R ∧ w.heap[R]? = some (.cells C 135 (0, 0)) ∧ C.size = 257 ∧ C[256]? = some tv ∧
    w.ownsRow M 9 1 tv qs.length (qs.reverse.map fun p => .string ⟨#[p.1]⟩) ∧ ∀ b, b < 256 → ∃ v, C[b]? = some v ∧ RepCell M w (look qs b) v
def Lies (w : World) (g : Nat) (ps : Pairs) : Prop := ∀ k, (h : k < ps.length) → w.cell? ⟨g, 2 * k, none⟩ = some (.string ⟨#[(ps[k]).1]⟩) ∧ w.cell? ⟨g, 2 * k + 1, none⟩ = some (.string (ps[k]).2)
def allNew (ps : Pairs) : Bool := ps.all fun p => p.2.size == 1
theorem allNew_snoc (ps : Pairs) (k : Nat) (h : k < ps.length) : allNew (ps.take (k + 1)) = (allNew (ps.take k) && ((ps[k]).2.size == 1)) := by
  unfold allNew
  rw [List.take_succ_eq_append_getElem h, List.all_append]
  simp
theorem infoStr : (Tryz.prog.info? 9).map (fun i => (i.zero, i.size, i.bytes)) = some (some (.string ByteArray.empty), 1, 16) := by kernel_rfl
theorem make_strs (w : World) (n : Nat) (h : n ≤ 100) : ∃ mc : Array Value, mc.size = n ∧
    (Instr.makeSlice 34 (.int .i64 0) (.int .i64 (n : Int))).run Tryz.prog w = .ok (.slice (some ⟨w.heap.size, 0, none⟩) 0 n) (w.alloc (.cells mc 9)) := by
  obtain ⟨i0, hi, hz0, hz1, hz2⟩ := info_parts infoStr
  have hr := run_make (P := Tryz.prog) w 34 9 i0 _ Tryz.underlying34 hi hz0 .i64 .i64 0 n (Int.le_refl _) (by omega) (by rw [hz2]; omega) (by omega)
  simp only [Int.toNat_zero, Int.toNat_natCast] at hr
  exact ⟨_, by rw [size_madeCells, hz1, Nat.mul_one], hr⟩
theorem zc_eq : Tryz.zeroCells135 = Array.replicate 257 (.slice none 0 0) := by kernel_rfl
theorem start_gen (w : World) (mc : Array Value) (n M : Nat) (hm : mc.size = n) (hn : n ≤ 100) : ∃ w2,
    (storeCells ⟨w.heap.size + 1, 0, none⟩ ((Array.replicate (M + 1) (Value.slice none 0 0)).toList.set M (.slice (some ⟨w.heap.size, 0, none⟩) 0 n))).run Tryz.prog ((w.alloc (.cells mc 9)).alloc (.cells (Array.replicate (M + 1) (Value.slice none 0 0)) 135)) = .ok () w2 ∧
    (∃ (C : Array Value) (tv : Value), w2.heap[w.heap.size + 1]? = some (.cells C 135 (0, 0)) ∧ C.size = M + 1 ∧ C[M]? = some tv ∧
      w2.ownsRow w.heap.size 9 1 tv 0 [] ∧ ∀ b, b < M → C[b]? = some (.slice none 0 0)) ∧ Below w.heap.size w w2 ∧ w.heap.size + 2 ≤ w2.heap.size := by
  have hs1 : (w.alloc (.cells mc 9)).heap.size = w.heap.size + 1 := by simp
  have hg : ((w.alloc (.cells mc 9)).alloc (.cells (Array.replicate (M + 1) (.slice none 0 0)) 135)).heap[w.heap.size + 1]? = some (.cells (Array.replicate (M + 1) (.slice none 0 0)) 135 (0, 0)) := by
    rw [← hs1]; exact heap_alloc_new _ _
  have hw0 : ((w.alloc (.cells mc 9)).alloc (.cells (Array.replicate (M + 1) (.slice none 0 0)) 135)).heap[w.heap.size]? = some (.cells mc 9 (0, 0)) := by
    rw [heap_alloc_old]
    · exact heap_alloc_new _ _
    · rw [hs1]; omega
  have hb : Below w.heap.size w ((w.alloc (.cells mc 9)).alloc (.cells (Array.replicate (M + 1) (.slice none 0 0)) 135)) := ((Below.refl _ w).alloc (Nat.le_refl _) _).alloc (by simp) _
  have hsz : ((w.alloc (.cells mc 9)).alloc (.cells (Array.replicate (M + 1) (.slice none 0 0)) 135)).heap.size = w.heap.size + 2 := by simp
  generalize hvs : (Array.replicate (M + 1) (Value.slice none 0 0)).toList.set M (.slice (some ⟨w.heap.size, 0, none⟩) 0 n) = vs at *
  have hlen : vs.length = M + 1 := by rw [← hvs]; simp
  have hone : ∀ v ∈ vs, v.oneCell' = true := by
    intro v hv
    rw [← hvs] at hv
    rcases List.mem_or_eq_of_mem_set hv with h | h
    · have : v = .slice none 0 0 := by simpa using h
      rw [this]; rfl
    · rw [h]; rfl
  generalize (w.alloc (.cells mc 9)).alloc (.cells (Array.replicate (M + 1) (.slice none 0 0)) 135) = W at *
  have hr := run_storeCells_at (P := Tryz.prog) (w.heap.size + 1) 0 135 vs 0 _ W hg (by rw [hlen]; simp) hone
  have e : ((Array.replicate (M + 1) (Value.slice none 0 0)).toList.take (0 + 0) ++ vs ++ (Array.replicate (M + 1) (Value.slice none 0 0)).toList.drop (0 + 0 + vs.length)).toArray = vs.toArray := by
    rw [hlen]; simp
  rw [e] at hr
  refine ⟨_, hr, ?_, below_setRow hb (by omega) _, by simp; omega⟩
  refine ⟨vs.toArray, .slice (some ⟨w.heap.size, 0, none⟩) 0 n, setRow_heap _ _ _ _ _ _ hg, by simp [hlen], ?_, ?_, ?_⟩
  · rw [← hvs]; simp
  · refine ⟨by simp, .inr ⟨w.heap.size, n, mc, rfl, Nat.le_refl _, ?_, Nat.zero_le _, by simp [maxLen]; omega, by omega, by simp⟩⟩
    rw [setRow_other _ _ _ _ (by omega)]; exact hw0
  · intro b hb
    rw [← hvs]
    simp only [List.getElem?_toArray]
    rw [List.getElem?_set_ne (by omega), Array.toList_replicate, List.getElem?_replicate, if_pos (by omega)]
theorem start_repl (w : World) (mc : Array Value) (n : Nat) (hm : mc.size = n) (hn : n ≤ 100) : ∃ w2,
    (storeCells ⟨w.heap.size + 1, 0, none⟩ (Tryz.zeroCells135.toList.set 256 (.slice (some ⟨w.heap.size, 0, none⟩) 0 n))).run Tryz.prog ((w.alloc (.cells mc 9)).alloc (.cells Tryz.zeroCells135 135)) = .ok () w2 ∧
    Part w.heap.size w2 (w.heap.size + 1) [] ∧ Below w.heap.size w w2 ∧ w.heap.size + 2 ≤ w2.heap.size := by
  rw [zc_eq]
  obtain ⟨w2, hr, ⟨C, tv, h1, h2, h3, h4, h5⟩, hb, hs⟩ := start_gen w mc n 256 hm hn
  exact ⟨w2, hr, ⟨C, tv, Nat.le_succ _, h1, h2, h3, h4, fun b hb => ⟨_, h5 b hb, rfl⟩⟩, hb, hs⟩
theorem look_none (ps : Pairs) (hnd : (ps.map (·.1)).Nodup) (k : Nat) (h : k < ps.length) : look (ps.drop (k + 1)) (ps[k]).1.toNat = none := by
  unfold look
  rw [Option.map_eq_none_iff, List.find?_eq_none]
  intro p hp
  rw [List.drop_eq_getElem_cons h |> fun e => show ps = ps.take k ++ ps[k] :: ps.drop (k + 1) by rw [← e, List.take_append_drop]] at hnd
  rw [List.map_append, List.map_cons, List.nodup_append] at hnd
  have h2 := (List.nodup_cons.1 hnd.2.1).1
  intro he
  apply h2
  rw [List.mem_map]
  exact ⟨p, hp, UInt8.toNat_inj.1 (by simpa using he)⟩
theorem below_grown {B : Nat} {w0 w w1 : World} {row : Option Nat} (hb : Below B w0 w) (hg : w.grownBy w1 row) (hr : ∀ j, row = some j → B ≤ j) (hB : B ≤ w.heap.size) : Below B w0 w1 :=
  ⟨hg.os.trans hb.os, hg.tape.trans hb.tape, hg.output.trans hb.output, Nat.le_trans hb.size hg.size, fun k hk => (hg.block k (Nat.lt_of_lt_of_le hk hB) (fun e => by have := hr k e.symm; omega)).trans (hb.block k hk)⟩
theorem Row.of_heap {e : Nat} {w w' : World} {B : Nat} {l : List UInt8} (h : Row e w B l) (hh : w'.heap[B]? = w.heap[B]?) : Row e w' B l := by
  obtain ⟨C, hC, h2⟩ := h
  exact ⟨C, by rw [hh]; exact hC, h2⟩
theorem own_apart {w : World} {M e n : Nat} {v : Value} {xs : List Value} {R : Nat} {C : Array Value} {t : TypeId} {fr : Nat × Nat} (h : w.ownsRow M e 1 v n xs) (hC : w.heap[R]? = some (.cells C t fr)) (hne : t ≠ e ∨ fr ≠ (0, 0)) : v.ownBlock ≠ some R := by
  intro hb
  rcases h.2 with ⟨rfl, _⟩ | ⟨g, cap, cur, rfl, _, hg, _⟩
  · simp [Value.ownBlock] at hb
  · simp only [Value.ownBlock, Option.some.injEq] at hb
    subst hb
    rw [hC] at hg
    injection hg with hg
    injection hg with _ h2 h3
    rcases hne with h | h
    · exact h h2
    · exact h h3
theorem own_of_heap {w w' : World} {M e n : Nat} {v : Value} {xs : List Value} (h : w.ownsRow M e 1 v n xs) (hh : ∀ k, v.ownBlock = some k → w'.heap[k]? = w.heap[k]?) : w'.ownsRow M e 1 v n xs := by
  refine ⟨h.1, ?_⟩
  rcases h.2 with hn | ⟨g, cap, cur, rfl, hb, hg, rest⟩
  · exact .inl hn
  · exact .inr ⟨g, cap, cur, rfl, hb, by rw [hh g rfl]; exact hg, rest⟩
theorem setCell_heap_at (w : World) (B j : Nat) (C : Array Value) (t : TypeId) (fr : Nat × Nat) (v : Value) (hC : w.heap[B]? = some (.cells C t fr)) : (w.setCell ⟨B, j, none⟩ v).heap[B]? = some (.cells (C.setIfInBounds j v) t fr) := by
  rw [setCell_eq_setRow w B j C t fr v hC]; exact setRow_heap _ _ _ _ _ _ hC
theorem setCell_heap_ne (w : World) (B j k : Nat) (v : Value) (h : k ≠ B) : (w.setCell ⟨B, j, none⟩ v).heap[k]? = w.heap[k]? := by
  simp only [World.setCell]
  rw [Array.getElem?_modify, if_neg (fun e => h e.symm)]
theorem part_step (M R : Nat) (wr w1 : World) (o1 o2 o : Obj) (C : Array Value) (tv v1 : Value) (qs : Pairs) (c : UInt8) (ns : ByteArray) (cap : Nat)
    (hMR : M ≤ R) (hMw : M ≤ wr.heap.size) (hC : wr.heap[R]? = some (.cells C 135 (0, 0))) (hCz : C.size = 257) (hown : wr.ownsRow M 9 1 tv qs.length (qs.reverse.map fun p => .string ⟨#[p.1]⟩))
    (hcells : ∀ b, b < 256 → ∃ v, C[b]? = some v ∧ RepCell M wr (look qs b) v)
    (hgr : ((wr.alloc o1).alloc o2).grownBy w1 tv.ownBlock) (hown1 : w1.ownsRow M 9 1 v1 (qs.length + 1) ((qs.reverse.map fun p => Value.string ⟨#[p.1]⟩) ++ [.string ⟨#[c]⟩]))
    (hrow : Row 5 ((w1.setCell ⟨R, 256, none⟩ v1).alloc o) w1.heap.size ns.data.toList) :
    Part M (((w1.setCell ⟨R, 256, none⟩ v1).alloc o).drew.setCell ⟨R, c.toNat, none⟩ (.slice (some ⟨w1.heap.size, 0, none⟩) ns.size cap)) R ((c, ns) :: qs) := by
  have h256 := UInt8.toNat_lt c
  have hRlt : R < wr.heap.size := (Array.getElem?_eq_some_iff.1 hC).1
  have hs2 : ((wr.alloc o1).alloc o2).heap.size = wr.heap.size + 2 := by simp
  have hs1 : wr.heap.size + 2 ≤ w1.heap.size := by have := hgr.size; omega
  have hold : ∀ k, k < wr.heap.size → tv.ownBlock ≠ some k → w1.heap[k]? = wr.heap[k]? := by
    intro k hk hne
    rw [hgr.block k (by omega) (fun h => hne h.symm), heap_alloc_old, heap_alloc_old]
    · exact hk
    · simp; omega
  have hC1 : w1.heap[R]? = some (.cells C 135 (0, 0)) := by
    rw [hold R hRlt (own_apart hown hC (.inl (by decide)))]; exact hC
  have hne1 : v1.ownBlock ≠ some R := own_apart hown1 hC1 (.inl (by decide))
  have hz2 : (w1.setCell ⟨R, 256, none⟩ v1).heap.size = w1.heap.size := by simp
  have hC2 := setCell_heap_at w1 R 256 C _ _ v1 hC1
  have hC3 : (((w1.setCell ⟨R, 256, none⟩ v1).alloc o).drew).heap[R]? = some (.cells (C.setIfInBounds 256 v1) 135 (0, 0)) := by
    show ((w1.setCell ⟨R, 256, none⟩ v1).alloc o).heap[R]? = _
    rw [heap_alloc_old]
    · exact hC2
    · omega
  have hC4 := setCell_heap_at _ R c.toNat _ _ _ (.slice (some ⟨w1.heap.size, 0, none⟩) ns.size cap) hC3
  have hkeep : ∀ k, k ≠ R → k < w1.heap.size → (((w1.setCell ⟨R, 256, none⟩ v1).alloc o).drew.setCell ⟨R, c.toNat, none⟩ (.slice (some ⟨w1.heap.size, 0, none⟩) ns.size cap)).heap[k]? = w1.heap[k]? := by
    intro k hk hlt
    rw [setCell_heap_ne _ _ _ _ _ hk]
    show ((w1.setCell ⟨R, 256, none⟩ v1).alloc o).heap[k]? = _
    rw [heap_alloc_old]
    · exact setCell_heap_ne _ _ _ _ _ hk
    · omega
  refine ⟨_, v1, hMR, hC4, by simp [hCz], ?_, ?_, ?_⟩
  · rw [Array.getElem?_setIfInBounds_ne (by omega), Array.getElem?_setIfInBounds_self_of_lt (by omega)]
  · have e : (((c, ns) :: qs).reverse.map fun p => Value.string ⟨#[p.1]⟩) = (qs.reverse.map fun p => Value.string ⟨#[p.1]⟩) ++ [.string ⟨#[c]⟩] := by simp
    rw [e]
    refine own_of_heap hown1 fun k hk => hkeep k ?_ (hown1.lt k hk).2
    rintro rfl
    exact hne1 hk
  · intro b hb
    by_cases hbc : b = c.toNat
    · subst hbc
      refine ⟨_, Array.getElem?_setIfInBounds_self_of_lt (by simp; omega), ?_⟩
      have hl : look ((c, ns) :: qs) c.toNat = some ns := by simp [look]
      rw [hl]
      refine ⟨w1.heap.size, cap, by omega, rfl, ?_⟩
      refine Row.of_heap hrow ?_
      rw [setCell_heap_ne _ _ _ _ _ (by omega)]
      rfl
    · obtain ⟨v, hv, hr⟩ := hcells b hb
      refine ⟨v, ?_, ?_⟩
      · rw [Array.getElem?_setIfInBounds_ne (by omega), Array.getElem?_setIfInBounds_ne (by omega)]; exact hv
      · have hl : look ((c, ns) :: qs) b = look qs b := by
          unfold look
          rw [List.find?_cons_of_neg]
          simp; omega
        rw [hl]
        cases hk : look qs b with
        | none => rw [hk] at hr; exact hr
        | some s =>
          rw [hk] at hr
          obtain ⟨B, c', hB, rfl, hrw⟩ := hr
          refine ⟨B, c', hB, rfl, Row.of_heap hrw ?_⟩
          obtain ⟨CB, hCB, _⟩ := id hrw
          have hBlt : B < wr.heap.size := hrw.lt
          have hBR : B ≠ R := by
            rintro rfl
            rw [hC] at hCB
            injection hCB with h
            injection h with _ h2
            exact absurd h2 (by decide)
          rw [hkeep B hBR (by omega)]
          exact hold B hBlt (own_apart hown hCB (.inl (by decide)))
set_option maxRecDepth 100000 in
set_option maxHeartbeats 4000000 in
theorem build_any (b g cap : Nat) (ps : Pairs) (w : World) (hn : 2 ≤ ps.length) (hn2 : ps.length ≤ 100) (hnew : allNew ps = false) (hnd : (ps.map (·.1)).Nodup)
    (hb : w.cell? ⟨b, 4, none⟩ = some (.slice (some ⟨g, 0, none⟩) (2 * ps.length) cap)) (hl : Lies w g ps) :
    Calls Tryz.prog 91 #[.pointer (some ⟨b, 0, none⟩)] w fun e w' => ∃ R, e = .returned (.iface 136 (.pointer (some ⟨R, 0, none⟩))) ∧ Part w.heap.size w' R ps ∧ Below w.heap.size w w' := by
  have HL := Lib.hid hl
  have HN := Lib.hid hnew
  have l2 : ¬ ((2 * ps.length : Nat) : Int) = 2 := by omega
  have l3 : 2 * ps.length ≤ 9223372036854775807 := by omega
  clear hl hnew
  go_enter Tryz.func91, Tryz.ntmps91
  go_wp2
  go_loop [4, 5] (fun u i => ∃ k : Nat, k ≤ ps.length ∧ i = .int .i64 ((2 * k : Nat) : Int) ∧ u = .bool (allNew (ps.take k))) (fun _ i => 2 * ps.length - (intOf i).toNat)
  case atStart => exact ⟨0, Nat.zero_le _, rfl, rfl⟩
  case round =>
    obtain ⟨k, hk, rfl, rfl⟩ := hrel
    by_cases hlt : k < ps.length
    · obtain ⟨c1, c2⟩ := HL.out k hlt
      have hsn := Lib.hid (allNew_snoc ps k hlt)
      have i1 : ((2 * k : Nat) : Int) < ((2 * ps.length : Nat) : Int) := by omega
      have i2 : 2 * k < 2 * ps.length := by omega
      have i3 : 2 * k + 1 < 2 * ps.length := by omega
      have i4 : ((2 * k : Nat) : Int) + 1 < ((2 * ps.length : Nat) : Int) := by omega
      have i5 : (2 * k : Int) + 1 < (2 * ps.length : Int) := by omega
      have i6 : (2 * k : Int) < (2 * ps.length : Int) := by omega
      by_cases h1 : (ps[k]).2.size = 1
      · have h2 : (((ps[k]).2.size : Nat) : Int) = 1 := by omega
        go_wp2
        go_round
        case rel => exact ⟨k + 1, by omega, by go_num, by rw [hsn.out]; simp [h1]⟩
        case measure => simp [intOf]; omega
      · have h2 : ¬ (((ps[k]).2.size : Nat) : Int) = 1 := by omega
        go_wp2
        go_round
        case rel => exact ⟨k + 1, by omega, by go_num, by rw [hsn.out]; simp [h1]⟩
        case measure => simp [intOf]; omega
    · obtain rfl : k = ps.length := by omega
      rw [List.take_length, HN.out]
      obtain ⟨mc, hmz, hmk⟩ := make_strs w ps.length hn2
      obtain ⟨w2, hst, hpart, hbel, hsz⟩ := start_repl w mc ps.length hmz hn2
      have HP := Lib.hid hpart; have HB := Lib.hid hbel
      have qT : ∀ (w : World) (a : Option Addr) (n c n' c' : Nat), (binOp .eql 45 (.slice a n c) (.slice none n' c')).run Tryz.prog w = .ok (.bool a.isNone) w := fun w a n c n' c' => Lib.run_eql_slice_nil w _ _ a n c n' c' Tryz.underlying45
      clear hpart hbel
      go_wp2
      go_loopw [12] (fun i wr => ∃ (k : Nat) (x : Int), k ≤ ps.length ∧ i = .int .i64 x ∧ x = 2 * (k : Int) - 2 ∧ Part w.heap.size wr (w.heap.size + 1) (ps.drop k) ∧ Below w.heap.size w wr ∧ w.heap.size + 2 ≤ wr.heap.size) (fun i _ => (intOf i + 2).toNat)
      case atStart => exact ⟨ps.length, _, Nat.le_refl _, rfl, rfl, by rw [List.drop_length]; exact HP.out, HB.out, hsz⟩
      case round =>
        obtain ⟨k, x, hk2, rfl, hx, hpart, hbel, hszr⟩ := hrel
        by_cases h0 : k = 0
        · subst h0
          have hx0 : ¬ 0 ≤ x := by omega
          have HPt := Lib.hid hpart
          clear hx hpart
          go_wp2
          go_ret
          exact ⟨_, rfl, by have := HPt.out; rw [List.drop_zero] at this; exact this, hbel⟩
        · obtain ⟨k, rfl⟩ : ∃ m, k = m + 1 := ⟨k - 1, by omega⟩
          obtain rfl : x = ((2 * k : Nat) : Int) := by omega
          have hkl : k < ps.length := by omega
          obtain ⟨c1, c2⟩ := HL.out k hkl
          have c1' := cell_later hbel c1
          have c2' := cell_later hbel c2
          have i1 : ((2 * k : Nat) : Int) < ((2 * ps.length : Nat) : Int) := by omega
          have i2 : 2 * k < 2 * ps.length := by omega
          have i3 : 2 * k + 1 < 2 * ps.length := by omega
          have i4 : ((2 * k : Nat) : Int) + 1 < ((2 * ps.length : Nat) : Int) := by omega
          have i5 : (2 * k : Int) + 1 < (2 * ps.length : Int) := by omega
          have i6 : (2 * k : Int) < (2 * ps.length : Int) := by omega
          have h256 : (ps[k]).1.toNat < 256 := UInt8.toNat_lt _
          have g0 : ∀ c : UInt8, (⟨#[c]⟩ : ByteArray).size = 1 := fun _ => rfl
          have hlk := look_none ps hnd k hkl
          obtain ⟨C, tv, hMR, hC, hCz, hC6, hown, hcells⟩ := hpart
          obtain ⟨v0, hv0, hr0⟩ := hcells (ps[k]).1.toNat h256
          rw [hlk] at hr0
          obtain rfl : v0 = .slice none 0 0 := hr0
          have d1 : wr.cell? ⟨w.heap.size + 1, (ps[k]).1.toNat, none⟩ = some (.slice none 0 0) := by rw [cell_of_row _ _ _ _ _ _ hC]; exact hv0
          have d2 : wr.cell? ⟨w.heap.size + 1, 256, none⟩ = some tv := by rw [cell_of_row _ _ _ _ _ _ hC]; exact hC6
          have fz : ∀ j, wr.frozen? ⟨w.heap.size + 1, j, none⟩ = false := fun j => by simp [World.frozen?, hC]
          generalize hcc : (ps[k]).1 = c at *
          generalize hnn : (ps[k]).2 = ns at *
          have hz1 : (⟨#[c]⟩ : ByteArray).size = 1 := rfl
          have hz2 : ∀ h, (⟨#[c]⟩ : ByteArray)[0]'h = c := fun _ => rfl
          generalize hos : (⟨#[c]⟩ : ByteArray) = os at *
          have HC := Lib.hid hC; have HCZ := Lib.hid hCz; have HC6 := Lib.hid hC6; have HOW := Lib.hid hown; have HCS := Lib.hid hcells
          have HOS := Lib.hid hos; have HCC := Lib.hid hcc; have HNN := Lib.hid hnn
          have hcv : (convert 45 9 (.slice (some ⟨wr.heap.size, 0, none⟩) 1 1)).run Tryz.prog (wr.alloc (.cells #[.int .u8 (c.toNat : Int)] 5)) = .ok (.string os) (wr.alloc (.cells #[.int .u8 (c.toNat : Int)] 5)) := by
            rw [← hos]
            exact run_convert_bytes_back (P := Tryz.prog) (wr.alloc (.cells #[.int .u8 (c.toNat : Int)] 5)) 45 9 5 ⟨wr.heap.size, 0, none⟩ 1 [c] Tryz.underlying45 Tryz.underlying5 Tryz.underlying9 (fun j hj => by
              obtain rfl : j = 0 := by simpa using hj
              rw [show (⟨wr.heap.size, 0, none⟩ : Addr).add 0 = ⟨wr.heap.size, 0, none⟩ from by unfold Addr.add; simp]
              simp)
          obtain ⟨i0, hi, hi0, hi1, hi2⟩ := info_parts infoStr
          have hlen : (ps.drop (k + 1)).length ≤ 100 := by rw [List.length_drop]; omega
          have hwr : w.heap.size ≤ wr.heap.size := by omega
          clear hC hCz hC6 hown hcells hx c1 c2 hlk hv0 hcc hnn hos
          go_wp2_with (at_builtin; refine wpList_append_own _ rfl (.tmp 119) (.tmp 123) 34 rfl w.heap.size 9 i0 _ 1 16 Tryz.underlying34 hi hi0 hi1 hi2 rfl (by decide) _ _ _ rfl ((HOW.out.alloc _).alloc _) ⟨wr.heap.size + 1, 0, none⟩ 1 1 [.string os] rfl rfl ?c1 ?c2 ?c3 ?c4 ?c5 ?_)
          case c1 =>
            intro j u hj
            cases j with
            | zero =>
              obtain rfl : Value.string os = u := Option.some.inj hj
              rw [show (⟨wr.heap.size + 1, 0, none⟩ : Addr).add 0 = ⟨wr.heap.size + 1, 0, none⟩ from by unfold Addr.add; simp]
              simp
            | succ j => exact absurd hj (by simp)
          case c2 => intro u hu; simp at hu; subst hu; rfl
          case c3 => simp only [maxLen]; omega
          case c4 => omega
          case c5 => simp; omega
          intro v1 w1 hown1 hgr1 _
          obtain ⟨a1, n1, k1, rfl⟩ : ∃ a n c, v1 = .slice a n c := by
            rcases hown1.2 with ⟨rfl, _⟩ | ⟨_, _, _, rfl, _⟩
            · exact ⟨_, _, _, rfl⟩
            · exact ⟨_, _, _, rfl⟩
          have hR1 : some (w.heap.size + 1) ≠ tv.ownBlock := fun h => own_apart HOW.out HC.out (.inl (by decide)) h.symm
          have hlt2 : w.heap.size + 1 < wr.heap.size := by omega
          have hC1 : w1.heap[w.heap.size + 1]? = some (.cells C 135 (0, 0)) := by
            rw [hgr1.block _ (by simp; omega) hR1, heap_alloc_old, heap_alloc_old]
            · exact HC.out
            · omega
            · simp; omega
          have e1 : w1.cell? ⟨w.heap.size + 1, 256, none⟩ = some tv := by rw [cell_of_row _ _ _ _ _ _ hC1]; exact HC6.out
          have e2 : ∀ j, w1.frozen? ⟨w.heap.size + 1, j, none⟩ = false := fun j => by simp [World.frozen?, hC1]
          have e3 : (w1.setCell ⟨w.heap.size + 1, 256, none⟩ (.slice a1 n1 k1)).cell? ⟨w.heap.size + 1, c.toNat, none⟩ = some (.slice none 0 0) := by
            rw [World.cell?_setCell_other _ _ _ _ (by first | (simp; done) | (simp; omega)), cell_of_row _ _ _ _ _ _ hC1]
            rw [cell_of_row _ _ _ _ _ _ HC.out] at d1
            exact d1
          obtain ⟨cap2, o2, hconv, hrow⟩ := Row.run_conv (P := Tryz.prog) (w1.setCell ⟨w.heap.size + 1, 256, none⟩ (.slice a1 n1 k1)) 9 45 5 ns Tryz.underlying9 Tryz.underlying45 Tryz.underlying5
          rw [show (w1.setCell ⟨w.heap.size + 1, 256, none⟩ (.slice a1 n1 k1)).heap.size = w1.heap.size from by simp] at hconv hrow
          have hw1 : w.heap.size + 1 < (w1.setCell ⟨w.heap.size + 1, 256, none⟩ (.slice a1 n1 k1)).heap.size := by have := hgr1.size; simp at this ⊢; omega
          have e4 : ((w1.setCell ⟨w.heap.size + 1, 256, none⟩ (.slice a1 n1 k1)).alloc o2).cell? ⟨w.heap.size + 1, c.toNat, none⟩ = some (.slice none 0 0) := by rw [World.cell?_alloc_past _ _ _ hw1]; exact e3
          have e5 : ((w1.setCell ⟨w.heap.size + 1, 256, none⟩ (.slice a1 n1 k1)).alloc o2).frozen? ⟨w.heap.size + 1, c.toNat, none⟩ = false := by
            rw [World.frozen?_alloc_past _ _ _ hw1]; simp [e2]
          have HG1 := Lib.hid hgr1; have HO1 := Lib.hid hown1; have HRW := Lib.hid hrow
          clear hgr1 hown1 hrow hC1 d1 d2 hR1
          go_wp2
          go_roundw
          case rel =>
            have hos := HOS.out
            subst hos
            refine ⟨k, _, by omega, rfl, by omega, ?_, ?_, ?_⟩
            · rw [List.drop_eq_getElem_cons hkl, show ps[k] = (c, ns) from Prod.ext HCC.out HNN.out]
              have ho1 := HO1.out
              rw [show ps.length - (k + 1) = (ps.drop (k + 1)).length from by simp, show (List.drop (k + 1) (ps.map fun p => Value.string ⟨#[p.1]⟩)).reverse = (ps.drop (k + 1)).reverse.map (fun p => Value.string ⟨#[p.1]⟩) from by simp] at ho1
              exact part_step w.heap.size (w.heap.size + 1) wr w1 _ _ o2 C tv (.slice a1 n1 k1) (ps.drop (k + 1)) c ns cap2 (by omega) (by omega) HC.out HCZ.out HOW.out HCS.out HG1.out ho1 HRW.out
            · have b1 : Below w.heap.size w ((wr.alloc (.cells #[.int .u8 (c.toNat : Int)] 5)).alloc (.cells #[.string ⟨#[c]⟩] 9)) := (hbel.alloc (by omega) _).alloc (by simp; omega) _
              have b2 := below_grown b1 HG1.out (fun j hj => (HOW.out.lt j hj).1) (by simp; omega)
              exact (((b2.setCell (by simp) _).alloc (by simp; have := b2.size; omega) _).drew).setCell (by simp) _
            · have := HG1.out.size
              simp at this ⊢
              omega
          case measure => simp [intOf]; omega
end Go.Proofs.YtpcncpegbboljaaGreatDoor.Repl
namespace Go.Proofs.YtpcncpegbboljaaGreatDoor.Repl
open Go.RowKit Go.Proofs.YtpcncpegbboljaaGreatDoor.Row
set_option linter.unusedVariables false
set_option linter.unusedSimpArgs false
def repB (ps : Pairs) (c : UInt8) : List UInt8 := match look ps c.toNat with | some n => n.data.toList | none => [c]
def replL (ps : Pairs) (l : List UInt8) : List UInt8 := l.flatMap (repB ps)
def hit (ps : Pairs) (l : List UInt8) : Bool := l.any fun c => (look ps c.toNat).isSome
theorem replL_append (ps : Pairs) (a b : List UInt8) : replL ps (a ++ b) = replL ps a ++ replL ps b := by simp [replL]
theorem replL_same (ps : Pairs) (l : List UInt8) (h : hit ps l = false) : replL ps l = l := by
  induction l with
  | nil => rfl
  | cons c r ih =>
    simp only [hit, List.any_cons, Bool.or_eq_false_iff] at h
    have h1 : repB ps c = [c] := by
      unfold repB
      cases hk : look ps c.toNat with
      | none => rfl
      | some n => rw [hk] at h; simp at h
    show repB ps c ++ replL ps r = _
    rw [h1, ih h.2]; rfl
def gain (qs : Pairs) (l : List UInt8) : Int := (qs.map fun p => (l.count p.1 : Int) * ((p.2.size : Int) - 1)).sum
def anyQ (qs : Pairs) (l : List UInt8) : Bool := qs.any fun p => l.count p.1 != 0
theorem look_nil (b : Nat) : look [] b = none := rfl
theorem look_cons (c : UInt8) (n : ByteArray) (ps : Pairs) (b : Nat) : look ((c, n) :: ps) b = if c.toNat = b then some n else look ps b := by
  unfold look
  by_cases h : c.toNat = b
  · rw [if_pos h, List.find?_cons_of_pos (by simpa using h)]; rfl
  · rw [if_neg h, List.find?_cons_of_neg (by simpa using h)]
theorem look_mem : ∀ (ps : Pairs) (c : UInt8), (look ps c.toNat).isSome = true ↔ ∃ p ∈ ps, p.1 = c
  | [], c => by simp [look_nil]
  | (a, n) :: ps, c => by
    rw [look_cons]
    by_cases h : a.toNat = c.toNat
    · rw [if_pos h]
      simp [UInt8.toNat_inj.1 h]
    · rw [if_neg h, look_mem ps c]
      have : ¬ a = c := fun e => h (by rw [e])
      simp [this]
theorem look_pair : ∀ (ps : Pairs) (p : UInt8 × ByteArray), (ps.map (·.1)).Nodup → p ∈ ps → look ps p.1.toNat = some p.2
  | [], p, _, h => by simp at h
  | (a, n) :: ps, p, hnd, h => by
    rw [List.map_cons, List.nodup_cons] at hnd
    rw [look_cons]
    rcases List.mem_cons.1 h with rfl | h
    · rw [if_pos rfl]
    · rw [if_neg (fun e => hnd.1 (List.mem_map.2 ⟨p, h, (UInt8.toNat_inj.1 e).symm⟩))]
      exact look_pair ps p hnd.2 h
def delta (ps : Pairs) (c : UInt8) : Int := match look ps c.toNat with | some n => (n.size : Int) - 1 | none => 0
theorem delta_len (ps : Pairs) (c : UInt8) : ((repB ps c).length : Int) = 1 + delta ps c := by
  unfold repB delta
  cases look ps c.toNat with
  | none => rfl
  | some n => simp; omega
theorem gain_cons (ps : Pairs) (hnd : (ps.map (·.1)).Nodup) (c : UInt8) (l : List UInt8) : gain ps (c :: l) = gain ps l + delta ps c := by
  induction ps with
  | nil => rfl
  | cons p ps ih =>
    obtain ⟨a, n⟩ := p
    rw [List.map_cons, List.nodup_cons] at hnd
    have h1 := ih hnd.2
    have e1 : ∀ l, gain ((a, n) :: ps) l = (l.count a : Int) * ((n.size : Int) - 1) + gain ps l := fun l => by simp [gain]
    rw [e1, e1, h1]
    unfold delta
    rw [look_cons]
    by_cases h : a = c
    · subst h
      rw [if_pos rfl, List.count_cons_self]
      have h2 : look ps a.toNat = none := by
        cases hk : look ps a.toNat with
        | none => rfl
        | some m =>
          obtain ⟨p, hp, e⟩ := (look_mem ps a).1 (by rw [hk]; rfl)
          exact absurd (List.mem_map.2 ⟨p, hp, e⟩) hnd.1
      rw [h2]
      simp only
      rw [show (((l.count a + 1 : Nat)) : Int) = (l.count a : Int) + 1 from by omega, Int.add_mul, Int.one_mul]
      omega
    · rw [if_neg (fun e => h (UInt8.toNat_inj.1 e)), List.count_cons_of_ne (fun e => h e.symm)]
      omega
theorem gain_all (ps : Pairs) (hnd : (ps.map (·.1)).Nodup) (l : List UInt8) : (l.length : Int) + gain ps l = ((replL ps l).length : Int) := by
  induction l with
  | nil =>
    have : gain ps [] = 0 := by
      unfold gain
      induction ps with
      | nil => rfl
      | cons p ps ih => rw [List.map_cons, List.sum_cons, ih (by simpa using (List.nodup_cons.1 (by simpa using hnd)).2)]; simp
    rw [this]; rfl
  | cons c r ih =>
    rw [gain_cons ps hnd, show replL ps (c :: r) = repB ps c ++ replL ps r from rfl, List.length_append, List.length_cons]
    have := delta_len ps c
    push_cast at *
    omega
theorem gain_reverse (ps : Pairs) (l : List UInt8) : gain ps.reverse l = gain ps l := by
  unfold gain
  rw [List.map_reverse, List.sum_reverse]
theorem anyQ_hit (ps : Pairs) (l : List UInt8) : anyQ ps.reverse l = hit ps l := by
  rw [Bool.eq_iff_iff]
  unfold anyQ hit
  rw [List.any_eq_true, List.any_eq_true]
  constructor
  · rintro ⟨p, hp, h⟩
    have h0 : l.count p.1 ≠ 0 := by simpa using h
    exact ⟨p.1, List.count_pos_iff.1 (by omega), (look_mem ps p.1).2 ⟨p, by simpa using hp, rfl⟩⟩
  · rintro ⟨c, hc, h⟩
    obtain ⟨p, hp, rfl⟩ := (look_mem ps c).1 h
    exact ⟨p, by simpa using hp, by have := List.count_pos_iff.2 hc; simp only [bne_iff_ne]; omega⟩
theorem gain_snoc (qs : Pairs) (l : List UInt8) (k : Nat) (h : k < qs.length) : gain (qs.take (k + 1)) l = gain (qs.take k) l + (l.count (qs[k]).1 : Int) * (((qs[k]).2.size : Int) - 1) := by
  unfold gain
  rw [List.take_succ_eq_append_getElem h, List.map_append, List.sum_append]
  simp
theorem anyQ_snoc (qs : Pairs) (l : List UInt8) (k : Nat) (h : k < qs.length) : anyQ (qs.take (k + 1)) l = (anyQ (qs.take k) l || l.count (qs[k]).1 != 0) := by
  unfold anyQ
  rw [List.take_succ_eq_append_getElem h, List.any_append]
  simp
theorem gain_bound (qs : Pairs) (l : List UInt8) (hq : ∀ p ∈ qs, p.2.size ≤ 100) : -((qs.length * l.length : Nat) : Int) ≤ gain qs l ∧ gain qs l ≤ ((100 * qs.length * l.length : Nat) : Int) := by
  unfold gain
  induction qs with
  | nil => simp
  | cons p qs ih =>
    have h1 := ih (fun p hp => hq p (by simp [hp]))
    have h2 := hq p (by simp)
    have h3 : l.count p.1 ≤ l.length := List.count_le_length
    rw [List.map_cons, List.sum_cons]
    have h4 : (l.count p.1 : Int) * ((p.2.size : Int) - 1) ≤ (l.count p.1 : Int) * 100 := Int.mul_le_mul_of_nonneg_left (by omega) (by omega)
    have h5 : (l.count p.1 : Int) * (-1) ≤ (l.count p.1 : Int) * ((p.2.size : Int) - 1) := Int.mul_le_mul_of_nonneg_left (by omega) (by omega)
    simp only [List.length_cons]
    have e1 : (qs.length + 1) * l.length = qs.length * l.length + l.length := by rw [Nat.add_mul, Nat.one_mul]
    have e2 : 100 * (qs.length + 1) * l.length = 100 * qs.length * l.length + 100 * l.length := by rw [Nat.mul_add, Nat.add_mul]
    omega
theorem repl_snoc (ps : Pairs) (l : List UInt8) (k : Nat) (h : k < l.length) : replL ps (l.take (k + 1)) = replL ps (l.take k) ++ repB ps l[k] := by
  rw [List.take_succ_eq_append_getElem h, replL_append]
  simp [replL]
theorem hit_snoc (ps : Pairs) (l : List UInt8) (k : Nat) (h : k < l.length) : hit ps (l.take (k + 1)) = (hit ps (l.take k) || (look ps (l[k]).toNat).isSome) := by
  unfold hit
  rw [List.take_succ_eq_append_getElem h, List.any_append]
  simp
theorem repl_len (ps : Pairs) (l : List UInt8) (hq : ∀ p ∈ ps, p.2.size ≤ 100) : (replL ps l).length ≤ 100 * l.length := by
  induction l with
  | nil => simp [replL]
  | cons c r ih =>
    rw [show replL ps (c :: r) = repB ps c ++ replL ps r from rfl, List.length_append, List.length_cons]
    have : (repB ps c).length ≤ 100 := by
      unfold repB
      cases hk : look ps c.toNat with
      | none => simp
      | some n =>
        unfold look at hk
        obtain ⟨p, hp, rfl⟩ := Option.map_eq_some_iff.1 hk
        have := hq p (List.mem_of_find?_eq_some hp)
        simpa using this
    omega
end Go.Proofs.YtpcncpegbboljaaGreatDoor.Repl
namespace Go.Proofs.YtpcncpegbboljaaGreatDoor.Repl
open Go.RowKit Go.Proofs.YtpcncpegbboljaaGreatDoor.Row
set_option linter.unusedVariables false
set_option linter.unusedSimpArgs false
theorem bdrewN {B : Nat} {w0 w : World} (h : Below B w0 w) (n : Nat) : Below B w0 (w.drewN n) := ⟨h.os, h.tape, h.output, h.size, h.block⟩
theorem infoByte : (Tryz.prog.info? 5).map (fun i => (i.zero, i.size, i.bytes)) = some (some (.int .u8 0), 1, 1) := by kernel_rfl
theorem make_bytes (w : World) (n : Nat) (h : n ≤ 100000000000) : ∃ mc : Array Value, mc.size = n ∧
    (Instr.makeSlice 45 (.int .i64 (n : Int)) (.int .i64 (n : Int))).run Tryz.prog w = .ok (.slice (some ⟨w.heap.size, 0, none⟩) n n) (w.alloc (.cells mc 5)) := by
  obtain ⟨i0, hi, hz0, hz1, hz2⟩ := info_parts infoByte
  have hr := run_make (P := Tryz.prog) w 45 5 i0 _ Tryz.underlying45 hi hz0 .i64 .i64 n n (by omega) (by omega) (by rw [hz2]; omega) (by omega)
  simp only [Int.toNat_natCast] at hr
  exact ⟨_, by rw [size_madeCells, hz1, Nat.mul_one], hr⟩
def Fill (w : World) (g n : Nat) (l : List UInt8) : Prop :=
  ∃ C : Array Value, w.heap[g]? = some (.cells C 5 (0, 0)) ∧ C.size = n ∧ C.toList.take l.length = Lib.byteCells l
theorem Fill.cell {w : World} {g n : Nat} {l : List UInt8} (h : Fill w g n l) (j : Nat) (hj : j < n) : ∃ v, w.cell? ⟨g, j, none⟩ = some v := by
  obtain ⟨C, hC, hz, _⟩ := h
  exact ⟨_, by rw [cell_of_row _ _ _ _ _ _ hC]; exact Array.getElem?_eq_getElem (by omega)⟩
theorem Fill.free {w : World} {g n : Nat} {l : List UInt8} (h : Fill w g n l) (j : Nat) : w.frozen? ⟨g, j, none⟩ = false := by
  obtain ⟨C, hC, _⟩ := h
  simp [World.frozen?, hC]
theorem Fill.put {w : World} {g n : Nat} {l : List UInt8} (h : Fill w g n l) (c : UInt8) (hl : l.length < n) : Fill (w.setCell ⟨g, l.length, none⟩ (.int .u8 (c.toNat : Int))) g n (l ++ [c]) := by
  obtain ⟨C, hC, hz, ht⟩ := h
  refine ⟨_, setCell_heap_at _ _ _ _ _ _ _ hC, by simpa using hz, ?_⟩
  rw [Array.toList_setIfInBounds, List.length_append, List.length_singleton, List.take_set, List.take_succ_eq_append_getElem (by simpa [hz] using hl), ht]
  have hb : (Lib.byteCells l).length = l.length := by simp [Lib.byteCells]
  rw [List.set_append_right _ _ (by omega), hb, Nat.sub_self]
  simp [Lib.byteCells]
theorem Fill.splice {w' : World} {g n : Nat} {l : List UInt8} {C : Array Value} (hz : C.size = n) (ht : C.toList.take l.length = Lib.byteCells l) (ns : List UInt8) (hl : l.length + ns.length ≤ n)
    (h : w'.heap[g]? = some (.cells (Go.splice C.toList l.length (Lib.byteCells ns)).toArray 5 (0, 0))) : Fill w' g n (l ++ ns) := by
  have hb : ∀ x : List UInt8, (Lib.byteCells x).length = x.length := fun x => by simp [Lib.byteCells]
  refine ⟨_, h, ?_, ?_⟩
  · rw [List.size_toArray, length_splice _ _ _ (by rw [hb]; simp; omega)]
    simpa using hz
  · show (Go.splice C.toList l.length (Lib.byteCells ns)).take (l ++ ns).length = _
    unfold Go.splice
    rw [ht, ← List.append_assoc, List.take_append_of_le_length (by simp only [List.length_append, hb]; exact Nat.le_refl _), List.take_of_length_le (by simp only [List.length_append, hb]; exact Nat.le_refl _)]
    simp [Lib.byteCells]
theorem Fill.back {w : World} {g n : Nat} {l : List UInt8} (h : Fill w g n l) (hn : l.length = n) :
    (convert 45 9 (.slice (some ⟨g, 0, none⟩) n n)).run Tryz.prog w = .ok (.string ⟨l.toArray⟩) w := by
  subst hn
  obtain ⟨C, hC, hz, ht⟩ := h
  refine run_convert_bytes_back (P := Tryz.prog) w 45 9 5 ⟨g, 0, none⟩ _ l Tryz.underlying45 Tryz.underlying5 Tryz.underlying9 (fun j hj => ?_)
  rw [show (⟨g, 0, none⟩ : Addr).add j = ⟨g, j, none⟩ from by unfold Addr.add; split <;> simp_all, cell_of_row _ _ _ _ _ _ hC]
  have h3 : (C.toList.take l.length)[j]? = (Lib.byteCells l)[j]? := by rw [ht]
  rw [List.getElem?_take_of_lt hj] at h3
  simp [Lib.byteCells, List.getElem?_eq_getElem hj] at h3
  simpa using h3
theorem Part.own {M R : Nat} {w : World} {ps : Pairs} (h : Part M w R ps) (hn : 1 ≤ ps.length) : ∃ g1 k1, w.cell? ⟨R, 256, none⟩ = some (.slice (some ⟨g1, 0, none⟩) ps.length k1) ∧
    ∀ j, (hj : j < ps.length) → w.cell? ⟨g1, j, none⟩ = some (.string ⟨#[(ps.reverse[j]'(by simpa using hj)).1]⟩) := by
  obtain ⟨C, tv, _, hC, _, h6, hown, _⟩ := h
  rcases hown.2 with ⟨_, h0⟩ | ⟨g, cap, cur, rfl, _⟩
  · omega
  · refine ⟨g, cap, by rw [cell_of_row _ _ _ _ _ _ hC]; exact h6, fun j hj => ?_⟩
    rw [hown.cellAt j (by omega)]
    rw [List.getElem?_map, List.getElem?_eq_getElem (by simpa using hj)]
    rfl
theorem Part.at {M R : Nat} {w : World} {ps : Pairs} (h : Part M w R ps) (b : Nat) (hb : b < 256) : ∃ v, w.cell? ⟨R, b, none⟩ = some v ∧ RepCell M w (look ps b) v := by
  obtain ⟨C, tv, _, hC, _, h6, hown, hc⟩ := h
  obtain ⟨v, hv, hr⟩ := hc b hb
  exact ⟨v, by rw [cell_of_row _ _ _ _ _ _ hC]; exact hv, hr⟩
set_option maxRecDepth 100000 in
set_option maxHeartbeats 4000000 in
theorem bsr_Replace (M R : Nat) (ps : Pairs) (s : ByteArray) (w : World) (hP : Part M w R ps) (hnd : (ps.map (·.1)).Nodup) (hn : 1 ≤ ps.length) (hn2 : ps.length ≤ 100) (hq : ∀ p ∈ ps, p.2.size ≤ 100) (hs : s.size ≤ 100000000) :
    Calls Tryz.prog 193 #[.pointer (some ⟨R, 0, none⟩), .string s] w fun e w' => e = .returned (.string ⟨(replL ps s.data.toList).toArray⟩) ∧ Below w.heap.size w w' := by
  obtain ⟨g1, k1, ht, hts⟩ := hP.own hn
  have HT := Lib.hid hts
  have HP := Lib.hid hP
  have HQ := Lib.hid hq
  have hsl : s.data.toList.length = s.size := by simp
  have HSL := Lib.hid hsl
  have qT : ∀ (w : World) (a : Option Addr) (n c n' c' : Nat), (binOp .neq 45 (.slice a n c) (.slice none n' c')).run Tryz.prog w = .ok (.bool (!a.isNone)) w := fun w a n c n' c' => run_neq_slice_nil_any w _ _ a n c n' c' Tryz.underlying45
  have hnot : ∀ (x : Bool) (w : World), (Op.unary .not (.bool x)).run Tryz.prog w = .ok (.bool (!x)) w := fun _ _ => rfl
  clear hts hP hq hsl
  go_enter Tryz.func193, Tryz.ntmps193
  go_upto_if 26 with fail
  go_cut [5, 6] (fun u v wc => u = .int .i64 ((replL ps s.data.toList).length : Int) ∧ v = .bool (hit ps s.data.toList) ∧ Below w.heap.size w wc)
  case first =>
    by_cases h8 : ps.length * 8 ≤ s.size
    · have h8' : (ps.length : Int) * 8 ≤ (s.size : Int) := by omega
      go_wp2
      rw [decide_eq_true h8']
      go_loopw [5, 6, 32] (fun u v i wr => ∃ (k : Nat) (x : Int), k ≤ ps.length ∧ i = .int .i64 (k : Int) ∧ u = .int .i64 x ∧ x = (s.size : Int) + gain (ps.reverse.take k) s.data.toList ∧ v = .bool (anyQ (ps.reverse.take k) s.data.toList) ∧ Below w.heap.size w wr) (fun _ _ i _ => ps.length - (intOf i).toNat)
      case atStart => exact ⟨0, _, Nat.zero_le _, rfl, rfl, by simp [gain], rfl, Below.refl _ _⟩
      case round =>
        obtain ⟨k, x, hk, rfl, rfl, hx, rfl, hbel⟩ := hrel
        have hrl : ps.reverse.length = ps.length := by simp
        by_cases hlt : k < ps.length
        · have hlr : k < ps.reverse.length := by omega
          have c1 := cell_later hbel (HT.out k hlt)
          have hgs := gain_snoc ps.reverse s.data.toList k hlr
          have has := anyQ_snoc ps.reverse s.data.toList k hlr
          have hmem : ps.reverse[k] ∈ ps := List.mem_reverse.1 (List.getElem_mem hlr)
          have hqk := HQ.out _ hmem
          have hlk := look_pair ps _ hnd hmem
          obtain ⟨v0, hv0, hr0⟩ := HP.out.at (ps.reverse[k]).1.toNat (UInt8.toNat_lt _)
          rw [hlk] at hr0
          obtain ⟨B, cB, _, rfl, hrow⟩ := hr0
          have d1 := cell_later hbel hv0
          have hct : s.data.toList.count (ps.reverse[k]).1 ≤ s.size := by rw [← HSL.out]; exact List.count_le_length
          have hb1 := gain_bound (ps.reverse.take k) s.data.toList (fun p hp => HQ.out p (by have := List.mem_of_mem_take hp; simpa using this))
          have hb2 := gain_bound (ps.reverse.take (k + 1)) s.data.toList (fun p hp => HQ.out p (by have := List.mem_of_mem_take hp; simpa using this))
          have hl1 : (ps.reverse.take k).length ≤ 100 := by rw [List.length_take]; omega
          have hl2 : (ps.reverse.take (k + 1)).length ≤ 100 := by rw [List.length_take]; omega
          rw [HSL.out] at hb1 hb2
          have m1 : (ps.reverse.take k).length * s.size ≤ 100 * 100000000 := Nat.mul_le_mul hl1 hs
          have m2 : (ps.reverse.take (k + 1)).length * s.size ≤ 100 * 100000000 := Nat.mul_le_mul hl2 hs
          rw [Nat.mul_assoc] at hb1 hb2
          have h256 : (ps.reverse[k]).1.toNat < 256 := UInt8.toNat_lt _
          have hcn := Lib.hid (Tryz.strings_Count_one s (ps.reverse[k]).1)
          generalize (ps.reverse[k]).1 = c at *
          generalize (ps.reverse[k]).2 = ns at *
          have hp1 : (s.data.toList.count c : Int) * ((ns.size : Int) - 1) ≤ (s.data.toList.count c : Int) * 100 := Int.mul_le_mul_of_nonneg_left (by omega) (by omega)
          have hp2 : (s.data.toList.count c : Int) * (-1) ≤ (s.data.toList.count c : Int) * ((ns.size : Int) - 1) := Int.mul_le_mul_of_nonneg_left (by omega) (by omega)
          have hcb : Lib.countByte s.data.toList c = s.data.toList.count c := rfl
          rw [hcb] at hcn
          generalize s.data.toList.count c = ct at *
          have x1 : -1000000000000 ≤ x := by omega
          have x2 : x ≤ 10000000000000 := by omega
          have y1 : -1000000000000 ≤ (ct : Int) * ((ns.size : Int) - 1) := by omega
          have y2 : (ct : Int) * ((ns.size : Int) - 1) ≤ 10000000000000 := by omega
          have hz1 : (⟨#[c]⟩ : ByteArray).size = 1 := rfl
          have hz2 : ∀ h, (⟨#[c]⟩ : ByteArray)[0]'h = c := fun _ => rfl
          generalize hos : (⟨#[c]⟩ : ByteArray) = os at *
          have w1 : IntKind.i64.wrap ((ns.size : Int) - 1) = (ns.size : Int) - 1 := IntWalk.i64_in _ (by omega)
          have w2 : IntKind.i64.wrap ((ct : Int) * ((ns.size : Int) - 1)) = (ct : Int) * ((ns.size : Int) - 1) := IntWalk.i64_in _ (by omega)
          have w3 : IntKind.i64.wrap (x + (ct : Int) * ((ns.size : Int) - 1)) = x + (ct : Int) * ((ns.size : Int) - 1) := IntWalk.i64_in _ (by omega)
          have HGS := Lib.hid hgs; have HAS := Lib.hid has; have HX := Lib.hid hx; have HB := Lib.hid hbel
          clear hgs has hx hb1 hb2 m1 m2 hp1 hp2 hlk hmem hrow hcb hbel hv0 hl1 hl2
          by_cases hc0 : ct = 0
          · have hc0b : ((ct : Int) != 0) = false := by simp [hc0]
            have hc0c : ¬ (ct : Int) ≠ 0 := by omega
            go_wp2_with (go_at_call 195; refine (hcn.out _).mono ?_; rintro e w' ⟨rfl, rfl⟩)
            go_roundw
            case rel => exact ⟨k + 1, _, by omega, by go_num, rfl, by rw [HGS.out, HX.out, hc0]; simp <;> omega, by rw [HAS.out, hc0]; simp, HB.out⟩
            case measure => simp [intOf]; omega
          · have hc0b : ((ct : Int) != 0) = true := by simp [hc0]
            have hc0c : (ct : Int) ≠ 0 := by omega
            go_wp2_with (go_at_call 195; refine (hcn.out _).mono ?_; rintro e w' ⟨rfl, rfl⟩)
            go_quiet (fail)
            rename_i nq
            go_wp2_with fail
            go_roundw
            case rel => exact ⟨k + 1, _, by omega, by go_num, rfl, by rw [HGS.out, HX.out]; omega, by rw [HAS.out]; simp [hc0], bdrewN HB.out nq⟩
            case measure => simp [intOf]; omega
        · obtain rfl : k = ps.length := by omega
          rw [List.take_of_length_le (by omega)] at *
          rw [gain_reverse] at hx
          rw [anyQ_hit]
          have hga := gain_all ps hnd s.data.toList
          rw [HSL.out] at hga
          have HX := Lib.hid hx; have HGA := Lib.hid hga; have HB := Lib.hid hbel
          clear hx hga hbel
          go_wp2
          go_meet
          case rel => exact ⟨by rw [HX.out, HGA.out], rfl, HB.out⟩
    · have h8' : ¬ (ps.length : Int) * 8 ≤ (s.size : Int) := by omega
      go_wp2
      rw [decide_eq_false (by omega)]
      go_loopw [5, 6, 10] (fun u v i wr => ∃ (k : Nat) (x : Int), k ≤ s.size ∧ i = .int .i64 (k : Int) ∧ u = .int .i64 x ∧ x = ((replL ps (s.data.toList.take k)).length : Int) + ((s.size : Int) - (k : Int)) ∧ v = .bool (hit ps (s.data.toList.take k)) ∧ wr = w) (fun _ _ i _ => s.size - (intOf i).toNat)
      case atStart => exact ⟨0, _, Nat.zero_le _, rfl, rfl, by simp [replL], rfl, rfl⟩
      case round =>
        obtain ⟨k, x, hk, rfl, rfl, hx, rfl, rfl⟩ := hrel
        by_cases hlt : k < s.size
        · have hlr : k < s.data.toList.length := by rw [HSL.out]; exact hlt
          have hrs := repl_snoc ps s.data.toList k hlr
          have hhs := hit_snoc ps s.data.toList k hlr
          have hln := repl_len ps (s.data.toList.take k) HQ.out
          have hlk : (s.data.toList.take k).length ≤ s.size := by rw [List.length_take, HSL.out]; omega
          have hdl := delta_len ps s.data.toList[k]
          have hcs : s[k] = s.data.toList[k] := rfl
          obtain ⟨v0, hv0, hr0⟩ := HP.out.at (s.data.toList[k]).toNat (UInt8.toNat_lt _)
          have h256 : (s.data.toList[k]).toNat < 256 := UInt8.toNat_lt _
          have x1 : 0 ≤ x := by omega
          have x2 : x ≤ 100 * 100000000 + 100000000 := by omega
          unfold delta at hdl
          generalize s.data.toList[k] = c at *
          have HRS := Lib.hid hrs; have HHS := Lib.hid hhs; have HX := Lib.hid hx; have HDL := Lib.hid hdl
          clear hrs hhs hx hln hlk hdl
          cases hlook : look ps c.toNat with
          | none =>
            rw [hlook] at hr0
            obtain rfl : v0 = .slice none 0 0 := hr0
            have HLK := Lib.hid hlook; clear hlook
            go_wp2
            go_roundw
            case rel => exact ⟨k + 1, _, by omega, by go_num, rfl, by rw [HRS.out, List.length_append, HX.out]; have := HDL.out; rw [HLK.out] at this; simp only at this; omega, by rw [HHS.out, HLK.out]; simp, by first | trivial | rfl⟩
            case measure => simp [intOf]; omega
          | some ns =>
            rw [hlook] at hr0
            obtain ⟨B, cB, _, rfl, hrow⟩ := hr0
            have hnz : ns.size ≤ 100 := by
              unfold look at hlook
              obtain ⟨p, hp, rfl⟩ := Option.map_eq_some_iff.1 hlook
              exact HQ.out p (List.mem_of_find?_eq_some hp)
            have HLK := Lib.hid hlook; clear hlook hrow
            go_wp2
            go_roundw
            case rel => exact ⟨k + 1, _, by omega, by go_num, rfl, by rw [HRS.out, List.length_append, HX.out]; have := HDL.out; rw [HLK.out] at this; simp only at this; omega, by rw [HHS.out, HLK.out]; simp, by first | trivial | rfl⟩
            case measure => simp [intOf]; omega
        · obtain rfl : k = s.size := by omega
          rw [List.take_of_length_le (by rw [HSL.out]; exact Nat.le_refl _)] at *
          have HX := Lib.hid hx
          clear hx
          go_wp2
          go_meet
          case rel => exact ⟨by rw [HX.out]; congr 1; omega, rfl, Below.refl _ _⟩
  case rest =>
    obtain ⟨rfl, rfl, hbel⟩ := hcut
    cases hh : hit ps s.data.toList with
    | false =>
      have HS := Lib.hid (replL_same ps s.data.toList hh)
      clear hh
      go_wp2
      go_ret
      exact ⟨by rw [HS.out]; exact congrArg (fun x => Ending.returned (Value.string x)) (by apply ByteArray.ext; simp), hbel⟩
    | true =>
      have hln := repl_len ps s.data.toList HQ.out
      rw [HSL.out] at hln
      obtain ⟨mc, hmz, hmk⟩ := make_bytes wc (replL ps s.data.toList).length (by omega)
      clear hh
      have HMZ := Lib.hid hmz
      clear hmz
      go_wp2
      go_loopw [13, 14] (fun j i wr => ∃ k : Nat, k ≤ s.size ∧ i = .int .i64 (k : Int) ∧ j = .int .i64 ((replL ps (s.data.toList.take k)).length : Int) ∧ Fill wr wc.heap.size (replL ps s.data.toList).length (replL ps (s.data.toList.take k)) ∧ Below wc.heap.size wc wr) (fun _ i _ => s.size - (intOf i).toNat)
      case atStart => exact ⟨0, Nat.zero_le _, rfl, by simp [replL], ⟨mc, heap_alloc_new _ _, HMZ.out, by simp [replL, Lib.byteCells]⟩, (Below.refl _ _).alloc (Nat.le_refl _) _⟩
      case round =>
        obtain ⟨k, hk, rfl, rfl, hfill, hb2⟩ := hrel
        by_cases hlt : k < s.size
        · have hlr : k < s.data.toList.length := by rw [HSL.out]; exact hlt
          have hrs := repl_snoc ps s.data.toList k hlr
          have hcs : s[k] = s.data.toList[k] := rfl
          obtain ⟨v0, hv0, hr0⟩ := HP.out.at (s.data.toList[k]).toNat (UInt8.toNat_lt _)
          have h256 : (s.data.toList[k]).toNat < 256 := UInt8.toNat_lt _
          have hd0 := cell_later (hbel.trans (hb2.mono hbel.size)) hv0
          have htot : (replL ps (s.data.toList.take k)).length + (repB ps s.data.toList[k]).length ≤ (replL ps s.data.toList).length := by
            have e : replL ps s.data.toList = replL ps (s.data.toList.take (k + 1)) ++ replL ps (s.data.toList.drop (k + 1)) := by rw [← replL_append, List.take_append_drop]
            rw [e, hrs, List.length_append, List.length_append]; omega
          generalize s.data.toList[k] = c at *
          generalize hn0 : (replL ps s.data.toList).length = n0 at *
          generalize hrk : replL ps (s.data.toList.take k) = rk at *
          have HRS := Lib.hid hrs; have HF := Lib.hid hfill; have HB2 := Lib.hid hb2
          clear hrs hn0 hrk hfill hb2
          cases hlook : look ps c.toNat with
          | none =>
            rw [hlook] at hr0
            obtain rfl : v0 = .slice none 0 0 := hr0
            have hrb : repB ps c = [c] := by unfold repB; rw [hlook]
            rw [hrb] at htot
            have HRB := Lib.hid hrb
            simp only [List.length_singleton] at htot
            obtain ⟨u0, hu0⟩ := HF.out.cell rk.length (by omega)
            have hf0 := HF.out.free rk.length
            have HPUT := Lib.hid (HF.out.put c (by omega))
            clear hlook hrb
            go_wp2
            go_roundw
            case rel => exact ⟨k + 1, by omega, by go_num, by rw [HRS.out, HRB.out, List.length_append]; go_num, by rw [HRS.out, HRB.out]; exact HPUT.out, HB2.out.setCell (Nat.le_refl _) _⟩
            case measure => simp [intOf]; omega
          | some ns =>
            rw [hlook] at hr0
            obtain ⟨B, cB, _, rfl, hrow⟩ := hr0
            have hrb : repB ps c = ns.data.toList := by unfold repB; rw [hlook]
            rw [hrb] at htot
            have hnz : ns.data.toList.length = ns.size := by simp
            rw [hnz] at htot
            have HRB := Lib.hid hrb; have HR := Lib.hid hrow
            obtain ⟨CF, hCF, hCFz, hCFt⟩ := HF.out
            have hbl : (Lib.byteCells ns.data.toList).length = ns.size := by simp [Lib.byteCells]
            have HN1 := Lib.hid (show (Lib.byteCells ns.data.toList).length = Nat.min ns.size (n0 - rk.length) by rw [hbl]; exact (Nat.min_eq_left (by omega)).symm)
            have HFIT := Lib.hid (show rk.length + (Lib.byteCells ns.data.toList).length ≤ CF.toList.length by rw [hbl]; simp [hCFz]; omega)
            have HONE := Lib.hid (show ∀ v ∈ Lib.byteCells ns.data.toList, v.oneCell' = true by intro v hv; simp only [Lib.byteCells, List.mem_map] at hv; obtain ⟨x, _, rfl⟩ := hv; rfl)
            have HCF := Lib.hid hCF; have HCFZ := Lib.hid hCFz; have HCFT := Lib.hid hCFt; have HBL := Lib.hid hbl
            have HSRC := Lib.hid (show ∀ j v, (Lib.byteCells ns.data.toList)[j]? = some v → wr.cell? ((⟨B, 0, none⟩ : Addr).add j) = some v by
              intro j v hv
              obtain ⟨hj, rfl⟩ := List.getElem?_eq_some_iff.1 hv
              rw [hbl] at hj
              rw [show (⟨B, 0, none⟩ : Addr).add j = ⟨B, j, none⟩ from by unfold Addr.add; split <;> simp_all]
              have hj2 : j < ns.data.toList.length := by simpa using hj
              rw [cell_later (hbel.trans (HB2.out.mono hbel.size)) (HR.out.cell j hj2)]
              simp [Lib.byteCells])
            have szb : (Tryz.prog.info? 5).map (·.size) = some 1 := by kernel_rfl
            clear hlook hrb hrow hnz hCF hCFz hCFt hbl
            have h256i : (c.toNat : Int) < 256 := by omega
            by_cases hend : rk.length = n0
            · have hend2 : (rk.length : Int) = (n0 : Int) := by omega
              go_wp2
              go_region_law (refine step_copy_splice rfl (.tmp 105) (.tmp 111) 45 45 rfl 5 Tryz.underlying45 szb (some ⟨wc.heap.size, 0, none⟩) (some ⟨B, 0, none⟩) 0 0 ns.size cB (by simp [Act.eval, Act.put]) (by simp [Act.eval, Act.put]) wc.heap.size rk.length CF.toList 5 HCF.out (Lib.byteCells ns.data.toList) (by rw [HN1.out, hend, Nat.sub_self]) (fun h => by rw [HBL.out] at h; omega) HFIT.out HONE.out wc.heap.size wc HB2.out.drew (Nat.le_refl _) ?_; intro w4 hg4 hb4)
              go_wp2
              go_roundw
              case rel =>
                exact ⟨k + 1, by omega, by go_num, by rw [HRS.out, HRB.out, List.length_append, HBL.out, show ns.data.toList.length = ns.size from by simp]; congr 1; unfold wrap64; omega, by rw [HRS.out, HRB.out]; exact Fill.splice HCFZ.out HCFT.out ns.data.toList (by rw [show ns.data.toList.length = ns.size from by simp]; omega) hg4.out, hb4⟩
              case measure => simp [intOf]; omega
            · have hend2 : rk.length < n0 := by omega
              have j1 : (rk.length : Int) ≤ (n0 : Int) := by omega
              have j2 : rk.length ≤ n0 := by omega
              have j3 : ¬ n0 = rk.length := by omega
              have j4 : (rk.length : Int) < (n0 : Int) := by omega
              have j5 : ¬ (n0 : Int) < (rk.length : Int) := by omega
              go_wp2
              go_region_law (refine step_copy_splice rfl (.tmp 105) (.tmp 111) 45 45 rfl 5 Tryz.underlying45 szb (some ⟨wc.heap.size, rk.length, none⟩) (some ⟨B, 0, none⟩) (n0 - rk.length) (n0 - rk.length) ns.size cB (by simp [Act.eval, Act.put]) (by simp [Act.eval, Act.put]) wc.heap.size rk.length CF.toList 5 HCF.out (Lib.byteCells ns.data.toList) HN1.out (fun _ => ⟨rfl, _, rfl, HSRC.out⟩) HFIT.out HONE.out wc.heap.size wc HB2.out.drew (Nat.le_refl _) ?_; intro w4 hg4 hb4)
              go_wp2
              go_roundw
              case rel =>
                exact ⟨k + 1, by omega, by go_num, by rw [HRS.out, HRB.out, List.length_append, HBL.out, show ns.data.toList.length = ns.size from by simp]; congr 1; unfold wrap64; omega, by rw [HRS.out, HRB.out]; exact Fill.splice HCFZ.out HCFT.out ns.data.toList (by rw [show ns.data.toList.length = ns.size from by simp]; omega) hg4.out, hb4⟩
              case measure => simp [intOf]; omega
        · obtain rfl : k = s.size := by omega
          rw [List.take_of_length_le (by rw [HSL.out]; exact Nat.le_refl _)] at *
          have HCV := Lib.hid (hfill.back rfl)
          have hcv := HCV.out
          have HF := Lib.hid hfill
          clear hfill
          go_wp2
          go_ret
          exact ⟨rfl, hbel.trans (hb2.mono hbel.size)⟩
end Go.Proofs.YtpcncpegbboljaaGreatDoor.Repl
namespace Go.Proofs.YtpcncpegbboljaaGreatDoor.Repl
open Go.RowKit Go.Proofs.YtpcncpegbboljaaGreatDoor.Row Go.Proofs.YtpcncpegbboljaaGreatDoor.Once
set_option linter.unusedVariables false
set_option linter.unusedSimpArgs false
def New (M : Nat) (w : World) (b : Nat) (ps : Pairs) : Prop :=
  ∃ v, M ≤ b ∧ w.heap[b]? = some (.cells #[.int .u32 0, .int .i32 0, .int .u32 0, .nilIface, v] 81 (0, 0)) ∧ w.ownsRow M 9 1 v (2 * ps.length) ((oldnew ps).map Value.string)
theorem oldnew_len (ps : Pairs) : (oldnew ps).length = 2 * ps.length := by
  induction ps with
  | nil => rfl
  | cons p ps ih => rw [show oldnew (p :: ps) = [⟨#[p.1]⟩, p.2] ++ oldnew ps from rfl, List.length_append, ih]; simp; omega
theorem oldnew_at : ∀ (ps : Pairs) (k : Nat) (h : k < ps.length), (oldnew ps)[2 * k]? = some ⟨#[(ps[k]).1]⟩ ∧ (oldnew ps)[2 * k + 1]? = some (ps[k]).2
  | [], k, h => by simp at h
  | p :: ps, 0, h => ⟨rfl, rfl⟩
  | p :: ps, k + 1, h => by
    have := oldnew_at ps k (by simpa using h)
    rw [show oldnew (p :: ps) = ⟨#[p.1]⟩ :: p.2 :: oldnew ps from rfl]
    exact this
theorem New.lies {M b : Nat} {w : World} {ps : Pairs} {v : Value} (hn : 1 ≤ ps.length) (hown : w.ownsRow M 9 1 v (2 * ps.length) ((oldnew ps).map Value.string)) :
    ∃ g cap, v = .slice (some ⟨g, 0, none⟩) (2 * ps.length) cap ∧ Lies w g ps := by
  rcases hown.2 with ⟨_, h0⟩ | ⟨g, cap, cur, rfl, _⟩
  · omega
  · refine ⟨g, cap, rfl, fun k hk => ?_⟩
    have := oldnew_at ps k hk
    constructor
    · rw [hown.cellAt _ (by omega), List.getElem?_map, this.1]; rfl
    · rw [hown.cellAt _ (by omega), List.getElem?_map, this.2]; rfl
theorem Part.of_heap {M R : Nat} {w w' : World} {ps : Pairs} (h : Part M w R ps) (hh : ∀ k, M ≤ k → k < w.heap.size → w'.heap[k]? = w.heap[k]?) : Part M w' R ps := by
  obtain ⟨C, tv, hMR, hC, hz, h6, hown, hc⟩ := h
  refine ⟨C, tv, hMR, by rw [hh R hMR (Array.getElem?_eq_some_iff.1 hC).1]; exact hC, hz, h6, own_of_heap hown fun k hk => hh k (hown.lt k hk).1 (hown.lt k hk).2, fun b hb => ?_⟩
  obtain ⟨v, hv, hr⟩ := hc b hb
  refine ⟨v, hv, ?_⟩
  cases hk : look ps b with
  | none => rw [hk] at hr; exact hr
  | some s =>
    rw [hk] at hr
    obtain ⟨B, c', hB, rfl, hrw⟩ := hr
    exact ⟨B, c', hB, rfl, Row.of_heap hrw (hh B hB hrw.lt)⟩
theorem Part.setCell {M R b j : Nat} {w : World} {ps : Pairs} (h : Part M w R ps) (hb : b < M) (v : Value) : Part M (w.setCell ⟨b, j, none⟩ v) R ps :=
  h.of_heap fun k hk _ => setCell_heap_ne _ _ _ _ _ (by omega)
theorem New.below {M b : Nat} {w w' : World} {ps : Pairs} (h : New M w b ps) (hb : Below w.heap.size w w') : New M w' b ps := by
  obtain ⟨v, hMb, hC, hown⟩ := h
  exact ⟨v, hMb, by rw [hb.block b (Array.getElem?_eq_some_iff.1 hC).1]; exact hC, own_of_heap hown fun k hk => hb.block k (hown.lt k hk).2⟩
theorem cells_lit (w : World) (cs : Array Value) (e : TypeId) (l : List Value) (hl : cs.toList = l) : ∀ j u, l[j]? = some u → (w.alloc (.cells cs e)).cell? ((⟨w.heap.size, 0, none⟩ : Addr).add j) = some u := by
  subst hl
  intro j u hu
  rw [show (⟨w.heap.size, 0, none⟩ : Addr).add j = ⟨w.heap.size, j, none⟩ from by unfold Addr.add; split <;> simp_all, cell_of_row _ _ _ _ _ _ (heap_alloc_new _ _)]
  simpa using hu
def Mid (M : Nat) (w0 : World) (b : Nat) (ps : Pairs) (w : World) : Prop :=
  ∃ R, w.heap[b]? = some (.cells #[.int .u32 0, .int .i32 1, .int .u32 0, .iface 136 (.pointer (some ⟨R, 0, none⟩)), .slice none 0 0] 81 (0, 0)) ∧ Part w0.heap.size w R ps ∧ Below M w0 w ∧ M ≤ b ∧ b < w0.heap.size
set_option maxRecDepth 100000 in
set_option maxHeartbeats 4000000 in
theorem buildOnce_any (M b : Nat) (ps : Pairs) (w : World) (hn : 2 ≤ ps.length) (hn2 : ps.length ≤ 100) (hnew : allNew ps = false) (hnd : (ps.map (·.1)).Nodup) (h : New M w b ps) :
    Calls Tryz.prog 59 #[.pointer (some ⟨b, 0, none⟩)] (w.setCell ⟨b, 1, none⟩ (.int .i32 1)) fun e w' => e = .returned (.tuple #[]) ∧ Mid M w b ps w' := by
  obtain ⟨v, hMb, hC, hown⟩ := h
  obtain ⟨g, cap, rfl, hlies⟩ := New.lies (b := b) (by omega) hown
  have hblt : b < w.heap.size := (Array.getElem?_eq_some_iff.1 hC).1
  have hgb : g ≠ b := by
    rintro rfl
    exact own_apart hown hC (.inl (by decide)) rfl
  have hC1 := setCell_heap_at w b 1 _ _ _ (.int .i32 1) hC
  have hz : (w.setCell ⟨b, 1, none⟩ (.int .i32 1)).heap.size = w.heap.size := by simp
  have hl1 : Lies (w.setCell ⟨b, 1, none⟩ (.int .i32 1)) g ps := fun k hk => by
    obtain ⟨h1, h2⟩ := hlies k hk
    exact ⟨(World.cell?_setCell_other _ _ _ _ (fun e => hgb (congrArg Addr.block e).symm)).trans h1, (World.cell?_setCell_other _ _ _ _ (fun e => hgb (congrArg Addr.block e).symm)).trans h2⟩
  have hbM : Below M w (w.setCell ⟨b, 1, none⟩ (.int .i32 1)) := (Below.refl _ _).setCell hMb _
  generalize w.setCell ⟨b, 1, none⟩ (.int .i32 1) = w1 at *
  have hc4 : w1.cell? ⟨b, 4, none⟩ = some (.slice (some ⟨g, 0, none⟩) (2 * ps.length) cap) := by rw [cell_of_row _ _ _ _ _ _ hC1]; rfl
  have BU := Lib.hid (build_any b g cap ps w1 hn hn2 hnew hnd hc4 hl1)
  have HC := Lib.hid hC1; have HZ := Lib.hid hz
  have AF := Lib.hid (show ∀ w2, Below w1.heap.size w1 w2 → w2.cell? ⟨b, 3, none⟩ = some .nilIface ∧ w2.cell? ⟨b, 4, none⟩ = some (.slice (some ⟨g, 0, none⟩) (2 * ps.length) cap) ∧ w2.frozen? ⟨b, 3, none⟩ = false ∧ w2.frozen? ⟨b, 4, none⟩ = false from fun w2 hb => by
    have hCb := (hb.block b (by rw [hz]; exact hblt)).trans hC1
    refine ⟨?_, ?_, ?_, ?_⟩
    · rw [cell_of_row _ _ _ _ _ _ hCb]; rfl
    · rw [cell_of_row _ _ _ _ _ _ hCb]; rfl
    · simp [World.frozen?, hCb]
    · simp [World.frozen?, hCb])
  clear hlies hl1 hC hC1 hown hnew hnd hc4 hz
  go_enter Tryz.func59, Tryz.ntmps59
  go_wp2_with (go_at_call 91; refine BU.out.mono ?_; rintro e w2 ⟨R, rfl, hpart, hbel⟩; obtain ⟨q3, q4, f3, f4⟩ := AF.out w2 hbel; have HPA := Lib.hid hpart; have HBE := Lib.hid hbel; clear hpart hbel)
  go_end0
  refine ⟨rfl, R, ?_, ?_, ?_, hMb, hblt⟩
  · have hCb := (HBE.out.block b (by rw [HZ.out]; exact hblt)).trans HC.out
    have h3 := setCell_heap_at w2 b 3 _ _ _ (.iface 136 (.pointer (some ⟨R, 0, none⟩))) hCb
    have h4 := setCell_heap_at _ b 4 _ _ _ (.slice none 0 0) h3
    rw [h4]
    rfl
  · have hp := HPA.out
    rw [HZ.out] at hp
    exact (hp.setCell hblt _).setCell hblt _
  · exact (((hbM.trans (HBE.out.mono (by rw [HZ.out]; omega))).setCell hMb _).setCell hMb _)
set_option maxRecDepth 100000 in
set_option maxHeartbeats 4000000 in
theorem NewReplacer_any (g cap : Nat) (ps : Pairs) (w : World) (hn : 1 ≤ ps.length) (hn2 : ps.length ≤ 100)
    (hc : ∀ j u, ((oldnew ps).map Value.string)[j]? = some u → w.cell? ((⟨g, 0, none⟩ : Addr).add j) = some u) :
    Calls Tryz.prog 31 #[.slice (some ⟨g, 0, none⟩) (2 * ps.length) cap] w fun e w' => ∃ b, e = .returned (.pointer (some ⟨b, 0, none⟩)) ∧ New w.heap.size w' b ps ∧ Below w.heap.size w w' := by
  obtain ⟨i0, hi, hi0, hi1, hi2⟩ := info_parts infoStr
  have HC := Lib.hid hc
  have l2 : 2 * ps.length ≤ 9223372036854775807 := by omega
  have l3 : ((2 * ps.length : Nat) : Int) % 2 = 0 := by omega
  have l4 : (2 * (ps.length : Int)) % 2 = 0 := by omega
  have hln : ((oldnew ps).map Value.string).length = 2 * ps.length * 1 := by rw [List.length_map, oldnew_len, Nat.mul_one]
  have HLN := Lib.hid hln
  clear hc hln
  go_enter Tryz.func31, Tryz.ntmps31
  go_wp2_with (at_builtin; refine wpList_append_own _ rfl (.const (.slice none 0 0)) (.tmp 8) 34 rfl w.heap.size 9 i0 _ 1 16 Tryz.underlying34 hi hi0 hi1 hi2 rfl (by decide) (.slice none 0 0) 0 [] rfl (World.ownsRow_nil _ _ _ _) ⟨g, 0, none⟩ (2 * ps.length) cap ((oldnew ps).map Value.string) rfl HLN.out HC.out ?c2 ?c3 ?c4 (Nat.le_refl _) ?_)
  case c2 =>
    intro u hu
    obtain ⟨x, _, rfl⟩ := List.mem_map.1 hu
    rfl
  case c3 => simp only [maxLen]; omega
  case c4 => omega
  intro v1 w1 hown1 hgr1 _
  obtain ⟨a1, n1, k1, rfl⟩ : ∃ a n c, v1 = .slice a n c := by
    rcases hown1.2 with ⟨rfl, _⟩ | ⟨_, _, _, rfl, _⟩
    · exact ⟨_, _, _, rfl⟩
    · exact ⟨_, _, _, rfl⟩
  have HO := Lib.hid hown1; have HG := Lib.hid hgr1
  clear hown1 hgr1
  go_wp2
  go_ret
  have h1 : w.heap.size ≤ w1.heap.size := HG.out.size
  refine ⟨w1.heap.size, rfl, ⟨.slice a1 n1 k1, h1, heap_alloc_new _ _, ?_⟩, ?_⟩
  · have := HO.out.alloc (.cells #[.int .u32 0, .int .i32 0, .int .u32 0, .nilIface, .slice a1 n1 k1] 81)
    simpa using this
  · exact (below_grown (Below.refl _ _) HG.out (fun j hj => by simp [Value.ownBlock] at hj) (Nat.le_refl _)).alloc h1 _
set_option maxRecDepth 100000 in
set_option maxHeartbeats 4000000 in
theorem Replace_any (M b : Nat) (ps : Pairs) (s : ByteArray) (w : World) (hn : 2 ≤ ps.length) (hn2 : ps.length ≤ 100) (hnew : allNew ps = false) (hnd : (ps.map (·.1)).Nodup) (hq : ∀ p ∈ ps, p.2.size ≤ 100) (hs : s.size ≤ 100000000) (h : New M w b ps) (hMw : M ≤ w.heap.size) :
    Calls Tryz.prog 32 #[.pointer (some ⟨b, 0, none⟩), .string s] w fun e w' => e = .returned (.string ⟨(replL ps s.data.toList).toArray⟩) ∧ Below M w w' := by
  have hmf : ∀ (fn : Fn) (first cap : Array Value) (w : World), (Instr.makeFunc fn first cap).run Tryz.prog w = .ok (.func fn first cap) w := fun _ _ _ _ => rfl
  have HB1 := Lib.hid (buildOnce_any M b ps w hn hn2 hnew hnd h)
  obtain ⟨v, hMb, hC, hown⟩ := id h
  have h0 : w.cell? ⟨b, 0, none⟩ = some (.int .u32 0) := by rw [cell_of_row _ _ _ _ _ _ hC]; rfl
  have h1 : w.cell? ⟨b, 1, none⟩ = some (.int .i32 0) := by rw [cell_of_row _ _ _ _ _ _ hC]; rfl
  have f1 : w.frozen? ⟨b, 1, none⟩ = false := by simp [World.frozen?, hC]
  have HQ : Hid (∀ w', Mid M w b ps w' → (∃ x, w'.cell? ⟨b, 0, none⟩ = some x) ∧ w'.cell? ⟨b, 1, none⟩ = some (.int .i32 1) ∧ w'.frozen? ⟨b, 0, none⟩ = false ∧ w'.frozen? ⟨b, 1, none⟩ = false) := Lib.hid (by
    rintro w' ⟨R, hC', _⟩
    refine ⟨⟨_, by rw [cell_of_row _ _ _ _ _ _ hC']; rfl⟩, by rw [cell_of_row _ _ _ _ _ _ hC']; rfl, by simp [World.frozen?, hC'], by simp [World.frozen?, hC']⟩)
  have DO0 := (do_first b #[.pointer (some ⟨b, 0, none⟩)] w (Mid M w b ps) h0 h1 f1 HB1.out HQ.out)
  have AF := (show ∀ w1, Mid M w b ps w1 → ∃ R, ((w1.drew.setCell ⟨b, 0, none⟩ (.int .u32 1)).setCell ⟨b, 1, none⟩ (.int .i32 0)).cell? ⟨b, 3, none⟩ = some (.iface 136 (.pointer (some ⟨R, 0, none⟩))) ∧ Part w.heap.size ((w1.drew.setCell ⟨b, 0, none⟩ (.int .u32 1)).setCell ⟨b, 1, none⟩ (.int .i32 0)) R ps ∧ Below M w ((w1.drew.setCell ⟨b, 0, none⟩ (.int .u32 1)).setCell ⟨b, 1, none⟩ (.int .i32 0)) from by
    rintro w1 ⟨R, hC', hp, hb, _, hbl⟩
    have hC2 : w1.drew.heap[b]? = _ := hC'
    have h2 := setCell_heap_at w1.drew b 0 _ _ _ (.int .u32 1) hC2
    have h3 := setCell_heap_at _ b 1 _ _ _ (.int .i32 0) h2
    refine ⟨R, by rw [cell_of_row _ _ _ _ _ _ h3]; rfl, ?_, ((hb.drew).setCell hMb _).setCell hMb _⟩
    exact ((hp.of_heap (w' := w1.drew) (fun _ _ _ => rfl)).setCell hbl _).setCell hbl _)
  have DO : Hid (Calls Tryz.prog 58 #[.pointer (some ⟨b, 0, none⟩), .func (.func 59) #[.pointer (some ⟨b, 0, none⟩)] #[]] w fun e w' => e = .returned (.tuple #[]) ∧ ∃ R, w'.cell? ⟨b, 3, none⟩ = some (.iface 136 (.pointer (some ⟨R, 0, none⟩))) ∧ Part w.heap.size w' R ps ∧ Below M w w') := Lib.hid (DO0.mono (by
    rintro e w' ⟨rfl, w1, hm, rfl⟩
    exact ⟨rfl, AF w1 hm⟩))
  have hm : ∀ (R : Nat) (w : World), (method 303 136 (.pointer (some ⟨R, 0, none⟩)) "Replace").run Tryz.prog w = .ok (193, .pointer (some ⟨R, 0, none⟩)) w := fun _ _ => by kernel_rfl
  have RP := Lib.hid (fun (M R : Nat) (W : World) (hP : Part M W R ps) => bsr_Replace M R ps s W hP hnd (by omega) hn2 hq hs)
  clear h hnew hown hC HB1 HQ DO0 AF hnd hq
  go_enter Tryz.func32, Tryz.ntmps32
  go_wp2_with (first | (go_at_call 193; refine (RP.out _ _ _ HPA.out).mono ?_; rintro e w4 ⟨rfl, b4⟩) | (go_at_call 58; refine DO.out.mono ?_; rintro e w3 ⟨rfl, R, q3, hpart, hbel⟩; have HPA := Lib.hid hpart; have HBE := Lib.hid hbel; clear hpart hbel))
  go_ret
  exact ⟨rfl, HBE.out.trans (b4.mono (Nat.le_trans hMw HBE.out.size))⟩
end Go.Proofs.YtpcncpegbboljaaGreatDoor.Repl
namespace Go.Proofs.YtpcncpegbboljaaGreatDoor.Addr
open Go.RowKit Go.Lib Go.Proofs.YtpcncpegbboljaaGreatDoor Go.Proofs.YtpcncpegbboljaaGreatDoor.Pure Go.Proofs.YtpcncpegbboljaaGreatDoorW.PrintWords
set_option linter.unusedVariables false
set_option linter.unusedSimpArgs false
def ctlC (c : UInt8) : Bool := decide (c.toNat < 32 ∨ c.toNat = 127)
def ctlR (x : Nat) : Bool := decide ((x : Int) < 32) || decide ((x : Int) = 127)
def hiC (c : UInt8) : Bool := decide (126 < c.toNat)
def hiR (x : Nat) : Bool := decide (126 < (x : Int))
theorem ctl_c (W : World) (x : Nat) (hx : x ≤ 1114111) : Calls Tryz.prog 28 #[.int .i32 (x : Int)] W fun e w' => e = .returned (.bool (ctlR x)) ∧ Below W.heap.size W w' := by
  unfold ctlR
  by_cases h1 : (x : Int) < 32
  · have h1' : x < 32 := by omega
    go_enter Tryz.func28, Tryz.ntmps28
    go_wp2
    go_ret
    refine ⟨?_, Below.refl _ _⟩
    simp [h1']
    try omega
  · have h1' : ¬ x < 32 := by omega
    by_cases h2 : (x : Int) = 127
    · have h2b : ((x : Int) == 127) = true := by simpa using h2
      go_enter Tryz.func28, Tryz.ntmps28
      go_wp2
      go_ret
      refine ⟨?_, Below.refl _ _⟩
      simp [h1', h2]
      try omega
    · have h2b : ((x : Int) == 127) = false := by simpa using h2
      go_enter Tryz.func28, Tryz.ntmps28
      go_wp2
      go_ret
      refine ⟨?_, Below.refl _ _⟩
      simp [h1', h2]
      try omega
theorem hi_c (W : World) (x : Nat) (hx : x ≤ 1114111) : Calls Tryz.prog 29 #[.int .i32 (x : Int)] W fun e w' => e = .returned (.bool (hiR x)) ∧ Below W.heap.size W w' := by
  unfold hiR
  go_enter Tryz.func29, Tryz.ntmps29
  go_wp2
  go_ret
  refine ⟨?_, Below.refl _ _⟩
  simp
theorem ctlF_c (s : ByteArray) (W : World) : Calls Tryz.prog 26 #[.string s, .func (.func 28) #[] #[]] W fun e w' => e = .returned (.bool (s.data.toList.any ctlC)) ∧ Below W.heap.size W w' := by
  have h := Tryz.strings_ContainsFunc_grows 28 #[] (enters_of Tryz.func28 (by kernel_rfl) rfl) ctlR s W (fun W2 x hx _ => ctl_c W2 x hx)
  rw [idx_low_all ctlR ctlC (fun c h => by unfold ctlR ctlC; rw [Bool.eq_iff_iff]; simp; omega) (fun r h => by unfold ctlR; simp; omega) (fun c h => by unfold ctlC; exact decide_eq_false (by omega))] at h
  exact h
theorem hiF_c (s : ByteArray) (W : World) : Calls Tryz.prog 26 #[.string s, .func (.func 29) #[] #[]] W fun e w' => e = .returned (.bool (s.data.toList.any hiC)) ∧ Below W.heap.size W w' := by
  have h := Tryz.strings_ContainsFunc_grows 29 #[] (enters_of Tryz.func29 (by kernel_rfl) rfl) hiR s W (fun W2 x hx _ => hi_c W2 x hx)
  rw [idx_high hiR hiC (fun c h => by unfold hiR hiC; rw [Bool.eq_iff_iff]; simp; omega) (fun r h => by unfold hiR; simp; omega) (fun c h => by unfold hiC; exact decide_eq_true (by omega))] at h
  exact h
end Go.Proofs.YtpcncpegbboljaaGreatDoor.Addr
namespace Go.Proofs.YtpcncpegbboljaaGreatDoor.Addr
open Go.RowKit Go.Lib Go.Proofs.YtpcncpegbboljaaGreatDoor Go.Proofs.YtpcncpegbboljaaGreatDoor.Pure
set_option linter.unusedVariables false
def escL : List UInt8 → List UInt8
  | [] => []
  | c :: r => (if c = 34 ∨ c = 92 then [92, c] else [c]) ++ escL r
def asksL : List UInt8 → Bool
  | [] => false
  | [_] => false
  | c :: d :: r => (c == 61 && d == 63) || asksL (d :: r)
def oneW (name mail : List UInt8) : Option (List UInt8) :=
  if goodL mail = false ∨ name.any ctlC = true then none
  else if name = [] then some mail
  else if asksL name = true ∨ name.any hiC = true then some (WordL.encL name ++ [32, 60] ++ mail ++ [62])
  else some ([34] ++ escL name ++ [34, 32, 60] ++ mail ++ [62])
theorem escL_len (l : List UInt8) : (escL l).length ≤ 2 * l.length := by
  induction l with
  | nil => simp [escL]
  | cons c r ih =>
    simp only [escL, List.length_append, List.length_cons]
    split <;> simp <;> omega
end Go.Proofs.YtpcncpegbboljaaGreatDoor.Addr
namespace Go.Proofs.YtpcncpegbboljaaGreatDoor.Addr
open Go.RowKit Go.Lib Go.Proofs.YtpcncpegbboljaaGreatDoor Go.Proofs.YtpcncpegbboljaaGreatDoor.Pure
set_option linter.unusedVariables false
set_option linter.unusedSimpArgs false
def tame (c : UInt8) : Bool := !([60, 62, 40, 41, 44, 59, 34].contains c)
theorem tame_ne {c : UInt8} (h : tame c = true) : c ≠ 60 ∧ c ≠ 62 ∧ c ≠ 40 ∧ c ≠ 44 ∧ c ≠ 59 ∧ c ≠ 34 := by
  refine ⟨?_, ?_, ?_, ?_, ?_, ?_⟩ <;> (rintro rfl; exact absurd h (by decide))
theorem textsF_tame : ∀ (x : List UInt8) (cur : List UInt8) (ang : Bool) (r : List UInt8), (∀ c ∈ x, tame c = true) → textsF cur ang (x ++ r) = textsF (cur ++ x) ang r
  | [], cur, ang, r, _ => by simp
  | c :: x, cur, ang, r, h => by
    obtain ⟨h1, h2, h3, h4, h5, h6⟩ := tame_ne (h c (by simp))
    rw [List.cons_append, textsF_cons, if_neg h1, if_neg h2, if_neg (by rintro ⟨h | h, _⟩; exact h4 h; exact h5 h), item_one c _ h6 h3]
    show textsF (cur ++ [c]) ang (x ++ r) = _
    rw [textsF_tame x _ _ _ (fun d hd => h d (List.mem_cons_of_mem _ hd)), List.append_assoc]; rfl
theorem angF_tame : ∀ (x r : List UInt8), (∀ c ∈ x, tame c = true) → angF (x ++ r) = x ++ angF r
  | [], r, _ => by simp
  | c :: x, r, h => by
    obtain ⟨h1, h2, h3, h4, h5, h6⟩ := tame_ne (h c (by simp))
    rw [List.cons_append, angF_cons, if_neg h2, item_one c _ h6 h3]
    show [c] ++ angF (x ++ r) = _
    rw [angF_tame x r (fun d hd => h d (List.mem_cons_of_mem _ hd))]; rfl
theorem boxF_tame : ∀ (x pre rest rm : List UInt8) (fd : Bool) (r : List UInt8), (∀ c ∈ x, tame c = true) → boxF pre rest rm fd (x ++ r) = boxF (pre ++ x) (rest ++ x) rm fd r
  | [], pre, rest, rm, fd, r, _ => by simp
  | c :: x, pre, rest, rm, fd, r, h => by
    obtain ⟨h1, h2, h3, h4, h5, h6⟩ := tame_ne (h c (by simp))
    rw [List.cons_append, boxF_cons, if_neg h1, if_neg h3, item_one c _ h6 h3]
    show boxF (pre ++ [c]) (rest ++ [c]) rm fd (x ++ r) = _
    rw [boxF_tame x _ _ _ _ _ (fun d hd => h d (List.mem_cons_of_mem _ hd)), List.append_assoc, List.append_assoc]; rfl
theorem good_split {l : List UInt8} (h : goodL l = true) : l ≠ [] ∧ (∀ c ∈ l, tame c = true ∧ WordL.white c = false) := by
  refine ⟨good_ne h, fun c hc => ?_⟩
  unfold goodL at h
  simp only [Bool.and_eq_true] at h
  obtain ⟨⟨_, h1⟩, h2⟩ := h
  have h3 : l.any noB.data.toList.contains = false := by simpa using h1
  have h4 := List.any_eq_false.1 h3 c hc
  have h5 := List.all_eq_true.1 h2 c hc
  unfold visC at h5
  have h5 := of_decide_eq_true h5
  constructor
  · unfold tame
    have e : noB.data.toList = [60, 62, 40, 41, 44, 59, 58, 92, 34] := rfl
    rw [e] at h4
    simp only [List.contains_eq_mem, List.mem_cons, List.not_mem_nil, or_false, decide_eq_true_eq] at h4 ⊢
    simp only [Bool.not_eq_true', decide_eq_false_iff_not]
    rintro (h | h | h | h | h | h | h) <;> exact h4 (by simp [h])
  · unfold WordL.white
    simp only [List.contains_eq_mem, List.mem_cons, List.not_mem_nil, or_false, decide_eq_false_iff_not]
    rintro (h | h | h | h) <;> (rw [h] at h5; exact absurd h5 (by decide))
theorem qGo_esc : ∀ (n r : List UInt8), qGo (escL n ++ 34 :: r) = ((escL n).length + 1, true)
  | [], r => by
    cases r with
    | nil => rfl
    | cons d r => simp only [escL, List.nil_append, qGo]; rw [if_neg (by decide), if_pos trivial]; rfl
  | c :: n, r => by
    have ih := qGo_esc n r
    by_cases hc : c = 34 ∨ c = 92
    · have e : escL (c :: n) = 92 :: c :: escL n := by simp only [escL]; rw [if_pos hc]; rfl
      rw [e]
      simp only [List.cons_append, qGo, if_true, List.length_cons]
      rw [ih]
    · have e : escL (c :: n) = c :: escL n := by simp only [escL]; rw [if_neg hc]; rfl
      rw [e]
      obtain ⟨d, q, hq⟩ : ∃ d q, escL n ++ 34 :: r = d :: q := by
        cases h : escL n with
        | nil => exact ⟨34, r, rfl⟩
        | cons d q => exact ⟨d, q ++ 34 :: r, rfl⟩
      rw [List.cons_append, hq]
      simp only [qGo]
      rw [if_neg (fun h => hc (.inr h)), if_neg (fun h => hc (.inl h)), ← hq, ih]
      simp
theorem bareL_esc : ∀ n : List UInt8, bareL (escL n) = n
  | [] => rfl
  | c :: n => by
    have ih := bareL_esc n
    by_cases hc : c = 34 ∨ c = 92
    · have e : escL (c :: n) = 92 :: c :: escL n := by simp only [escL]; rw [if_pos hc]; rfl
      rw [e]
      simp only [bareL, if_true]
      rw [ih]
    · have e : escL (c :: n) = c :: escL n := by simp only [escL]; rw [if_neg hc]; rfl
      rw [e]
      cases h : escL n with
      | nil =>
        rw [h] at ih
        have : n = [] := ih.symm
        rw [this]; rfl
      | cons d q =>
        simp only [bareL]
        rw [if_neg (fun hh => hc (.inr hh)), ← h, ih]
theorem item_esc (n r : List UInt8) : itemL (34 :: (escL n ++ 34 :: r)) = ((escL n).length + 2, true) := by
  simp only [itemL]
  rw [if_pos (.inl trivial)]
  simp only [stretchL]
  rw [if_pos trivial, qGo_esc]
theorem quoted_take (n r : List UInt8) : (34 :: (escL n ++ 34 :: r)).take ((escL n).length + 2) = 34 :: (escL n ++ [34]) ∧ (34 :: (escL n ++ 34 :: r)).drop ((escL n).length + 2) = r := by
  have e : 34 :: (escL n ++ 34 :: r) = (34 :: (escL n ++ [34])) ++ r := by simp
  have hl : (34 :: (escL n ++ [34])).length = (escL n).length + 2 := by simp
  rw [e, ← hl]
  exact ⟨List.take_left, List.drop_left⟩
theorem last_app {α : Type} (a x : List α) (h : x ≠ []) : (a ++ x).getLast? = x.getLast? := by
  rw [List.getLast?_append]
  cases hx : x.getLast? with
  | none => exact absurd (List.getLast?_eq_none_iff.1 hx) h
  | some v => rfl
theorem trim_core (a b x : List UInt8) (ha : a.all WordL.white = true) (hb : b.all WordL.white = true) (hx : x ≠ []) (h1 : ∀ c, x.head? = some c → WordL.white c = false) (h2 : ∀ c, x.getLast? = some c → WordL.white c = false) : trimW (a ++ x ++ b) = x := by
  have hw : ∀ c : UInt8, ([32, 9, 10, 13] : List UInt8).contains c = WordL.white c := fun _ => rfl
  have skip : ∀ (p q : List UInt8), p.all WordL.white = true → (∀ c, q.head? = some c → WordL.white c = false) → (p ++ q).dropWhile ([32, 9, 10, 13] : List UInt8).contains = q := by
    intro p q hp hq
    induction p with
    | nil =>
      cases q with
      | nil => rfl
      | cons c q => rw [List.nil_append, List.dropWhile_cons, hw, hq c rfl]; rfl
    | cons c p ih =>
      rw [List.all_cons, Bool.and_eq_true] at hp
      rw [List.cons_append, List.dropWhile_cons, hw, hp.1]
      exact ih hp.2
  unfold trimW Lib.trimS Lib.trimLeftS Lib.trimRightS
  have e : (a ++ x ++ b).reverse = b.reverse ++ (a ++ x).reverse := by simp
  have hlast : ∀ c, (a ++ x).reverse.head? = some c → WordL.white c = false := by
    intro c hc
    rw [List.head?_reverse, last_app _ _ hx] at hc
    exact h2 c hc
  rw [e, skip _ _ (by rw [List.all_reverse]; exact hb) hlast, List.reverse_reverse, skip _ _ ha h1]
theorem trim_none (a : List UInt8) (ha : a.all WordL.white = true) : trimW a = [] := by
  have hw : ∀ c : UInt8, ([32, 9, 10, 13] : List UInt8).contains c = WordL.white c := fun _ => rfl
  have key : ∀ p : List UInt8, p.all WordL.white = true → p.dropWhile ([32, 9, 10, 13] : List UInt8).contains = [] := by
    intro p hp
    induction p with
    | nil => rfl
    | cons c p ih =>
      rw [List.all_cons, Bool.and_eq_true] at hp
      rw [List.dropWhile_cons, hw, hp.1]
      exact ih hp.2
  unfold trimW Lib.trimS Lib.trimLeftS Lib.trimRightS
  have h := key a.reverse (by rw [List.all_reverse]; exact ha)
  rw [h]; rfl
theorem trim_all (x : List UInt8) (h : ∀ c ∈ x, WordL.white c = false) : trimW x = x := by
  by_cases hx : x = []
  · subst hx; exact trim_none [] rfl
  · have := trim_core [] [] x rfl rfl hx (fun c hc => h c (List.mem_of_head? hc)) (fun c hc => h c (List.mem_of_getLast? hc))
    simpa using this
theorem letter_tame : ∀ n : Fin 64, tame (B64.letterC n.val) = true := by decide +kernel
theorem enc_tame (x : List UInt8) : ∀ c ∈ B64.b64EncL x, tame c = true := by
  intro c hc
  unfold B64.b64EncL at hc
  rw [B64.encT_is] at hc
  rcases List.mem_append.1 hc with h | h
  · obtain ⟨g, hg, rfl⟩ := List.mem_map.1 h
    exact letter_tame ⟨g, B64.encC_lt _ _ (Nat.le_refl _) g hg⟩
  · rw [(List.mem_replicate.1 h).2]; decide
theorem word_tame (x : List UInt8) : ∀ c ∈ WordL.wordOf x, tame c = true := by
  intro c hc
  unfold WordL.wordOf at hc
  rcases List.mem_append.1 hc with hc | hc
  · rcases List.mem_append.1 hc with hc | hc
    · have : ∀ c ∈ [61, 63, 117, 116, 102, 45, 56, 63, 66, 63], tame c = true := by decide
      exact this c hc
    · exact enc_tame x c hc
  · have : ∀ c ∈ [63, 61], tame c = true := by decide
    exact this c hc
theorem enc_words {l : List UInt8} (h : ¬ WordL.plainE l = true) : (∀ c ∈ WordL.encL l, tame c = true) ∧ WordL.encL l ≠ [] ∧ (WordL.encL l).head? = some 61 ∧ (WordL.encL l).getLast? = some 61 := by
  unfold WordL.encL
  rw [if_neg h]
  have hv : WordL.wordsL (vl l) ≠ [] := by
    unfold WordL.wordsL
    simpa using WordL.chunks_ne _ (WordL.vl_ne l (WordL.plainE_not h))
  have hmem : ∀ w ∈ WordL.wordsL (vl l), ∃ x, w = WordL.wordOf x := by
    intro w hw
    obtain ⟨x, _, rfl⟩ := List.mem_map.1 hw
    exact ⟨x, rfl⟩
  have key : ∀ ws : List (List UInt8), ws ≠ [] → (∀ w ∈ ws, ∃ x, w = WordL.wordOf x) → [32].intercalate ws ≠ [] ∧ ([32].intercalate ws).head? = some 61 ∧ ([32].intercalate ws).getLast? = some 61 := by
    intro ws
    induction ws with
    | nil => intro h; exact absurd rfl h
    | cons w ws ih =>
      intro _ hm
      obtain ⟨x, rfl⟩ := hm w (by simp)
      have hx : WordL.wordOf x = 61 :: 63 :: ([117, 116, 102, 45, 56, 63, 66, 63] ++ B64.b64EncL x ++ [63]) ++ [61] := by simp [WordL.wordOf]
      cases ws with
      | nil =>
        rw [WordL.inter_one, hx]
        exact ⟨by simp, rfl, by rw [List.getLast?_append]; rfl⟩
      | cons v r =>
        rw [WordL.inter_cons]
        obtain ⟨i1, i2, i3⟩ := ih (by simp) (fun w hw => hm w (List.mem_cons_of_mem _ hw))
        refine ⟨by simp, by rw [hx]; rfl, ?_⟩
        rw [last_app _ _ (by simp), List.getLast?_cons, i3]; rfl
  obtain ⟨k1, k2, k3⟩ := key _ hv hmem
  refine ⟨fun c hc => ?_, k1, k2, k3⟩
  refine WordL.inter_all tame (by decide) _ (fun w hw c hc => ?_) c hc
  obtain ⟨x, rfl⟩ := hmem w hw
  exact word_tame x c hc
theorem asks_begins : ∀ l : List UInt8, asksL l = false → ∀ j, j < l.length → WordL.begins (l.drop j) = false
  | [], _, j, h => by simp at h
  | [a], _, j, h => by
    obtain rfl : j = 0 := by simp at h; omega
    exact WordL.begins_one a
  | a :: b :: r, h, j, hj => by
    simp only [asksL, Bool.or_eq_false_iff] at h
    cases j with
    | zero => rw [List.drop_zero, WordL.begins_cons]; exact h.1
    | succ j => exact asks_begins (b :: r) h.2 j (by simp only [List.length_cons] at hj ⊢; omega)
theorem asks_index : ∀ l : List UInt8, asksL l = true → ¬ index l [61, 63] < 0
  | [], h => by simp [asksL] at h
  | [a], h => by simp [asksL] at h
  | a :: b :: r, h => by
    intro hi
    have hb := (WordL.index_begins (a :: b :: r)).2 hi
    have h0 := hb 0 (by simp)
    rw [List.drop_zero, WordL.begins_cons] at h0
    simp only [asksL, h0, Bool.false_or] at h
    have h1 := asks_index (b :: r) h
    have : ∀ j, j < (b :: r).length → WordL.begins ((b :: r).drop j) = false := fun j hj => hb (j + 1) (by simp only [List.length_cons] at hj ⊢; omega)
    apply h1
    rcases Int.lt_or_le (index (b :: r) [61, 63]) 0 with h2 | h2
    · exact h2
    · obtain ⟨k, hk⟩ := Int.eq_ofNat_of_zero_le h2
      obtain ⟨k1, k2, _⟩ := (WordL.index_begins (b :: r)).1 k hk
      rw [this k k1] at k2; cases k2
theorem coded_not {name : List UInt8} (h : asksL name = true ∨ name.any hiC = true) : ¬ WordL.plainE name = true := by
  intro hp
  unfold WordL.plainE at hp
  rw [Bool.and_eq_true, decide_eq_true_eq] at hp
  rcases h with h | h
  · exact asks_index _ h hp.1
  · obtain ⟨c, hc, hc2⟩ := List.any_eq_true.1 h
    have := List.all_eq_true.1 hp.2 c hc
    unfold WordL.okC at this
    unfold hiC at hc2
    have h1 := of_decide_eq_true this
    have h2 := of_decide_eq_true hc2
    omega
structure Ent (name mail e : List UInt8) : Prop where
  texts : ∀ cur r, textsF cur false (e ++ r) = textsF (cur ++ e) false r
  box : ∀ a, a.all WordL.white = true → a.all tame = true → boxP (a ++ e) = (vl name, mail)
  good : goodL mail = true
theorem white_ends (x : List UInt8) (h : ∀ c ∈ x, WordL.white c = false) : (∀ c, x.head? = some c → WordL.white c = false) ∧ (∀ c, x.getLast? = some c → WordL.white c = false) :=
  ⟨fun c hc => h c (List.mem_of_head? hc), fun c hc => h c (List.mem_of_getLast? hc)⟩
theorem ang_mail (mail : List UInt8) (h : ∀ c ∈ mail, tame c = true ∧ WordL.white c = false) : trimW (angF (mail ++ [62])) = mail := by
  rw [angF_tame mail [62] (fun c hc => (h c hc).1), angF_cons, if_pos rfl, List.append_nil]
  exact trim_all mail (fun c hc => (h c hc).2)
theorem one_ent (name mail e : List UInt8) (h : oneW name mail = some e) : Ent name mail e := by
  unfold oneW at h
  by_cases h1 : goodL mail = false ∨ name.any ctlC = true
  · rw [if_pos h1] at h; cases h
  · rw [if_neg h1] at h
    have hg : goodL mail = true := by
      rcases Bool.eq_false_or_eq_true (goodL mail) with h | h
      · exact h
      · exact absurd (.inl h) h1
    obtain ⟨hm0, hm⟩ := good_split hg
    have hmt : ∀ c ∈ mail, tame c = true := fun c hc => (hm c hc).1
    by_cases h2 : name = []
    · rw [if_pos h2] at h
      obtain rfl := Option.some.inj h
      refine ⟨fun cur r => textsF_tame _ _ _ _ hmt, fun a ha hat => ?_, hg⟩
      unfold boxP
      rw [boxF_tame a [] [] [] false mail (fun c hc => List.all_eq_true.1 hat c hc)]
      have := boxF_tame mail ([] ++ a) ([] ++ a) [] false [] hmt
      rw [List.append_nil] at this
      rw [this, boxF_nil, h2]
      have ht : trimW ([] ++ a ++ mail) = mail := by
        have := trim_core a [] mail ha rfl hm0 (white_ends mail (fun c hc => (hm c hc).2)).1 (white_ends mail (fun c hc => (hm c hc).2)).2
        simpa using this
      rw [ht, trim_none [] rfl]; rfl
    · rw [if_neg h2] at h
      by_cases h3 : asksL name = true ∨ name.any hiC = true
      · rw [if_pos h3] at h
        obtain rfl := Option.some.inj h
        obtain ⟨w1, w2, w3, w4⟩ := enc_words (coded_not h3)
        have hback := WordL.enc_back name
        refine ⟨fun cur r => ?_, fun a ha hat => ?_, hg⟩
        · rw [show WordL.encL name ++ [32, 60] ++ mail ++ [62] ++ r = (WordL.encL name ++ [32]) ++ (60 :: (mail ++ (62 :: r))) by simp]
          rw [textsF_tame _ _ _ _ (fun c hc => by
            rcases List.mem_append.1 hc with h | h
            · exact w1 c h
            · simp at h; rw [h]; decide), textsF_cons, if_pos rfl, textsF_tame _ _ _ _ hmt, textsF_cons, if_neg (by decide), if_pos rfl]
          congr 1; simp
        · unfold boxP
          rw [show a ++ (WordL.encL name ++ [32, 60] ++ mail ++ [62]) = a ++ ((WordL.encL name ++ [32]) ++ (60 :: (mail ++ [62]))) by simp]
          rw [boxF_tame a _ _ _ _ _ (fun c hc => List.all_eq_true.1 hat c hc), boxF_tame _ _ _ _ _ _ (fun c hc => by
            rcases List.mem_append.1 hc with h | h
            · exact w1 c h
            · simp at h; rw [h]; decide), boxF_cons, if_pos rfl, ang_mail mail hm]
          have ht : trimW ([] ++ a ++ (WordL.encL name ++ [32])) = WordL.encL name := by
            have := trim_core a [32] (WordL.encL name) ha (by decide) w2 (fun c hc => by rw [w3] at hc; obtain rfl := Option.some.inj hc; decide) (fun c hc => by rw [w4] at hc; obtain rfl := Option.some.inj hc; decide)
            rw [List.nil_append, ← List.append_assoc]; exact this
          have hc : calledL ([] ++ a ++ (WordL.encL name ++ [32])) = vl name := by
            unfold calledL
            rw [ht]
            cases hE : WordL.encL name with
            | nil => exact absurd hE w2
            | cons c r =>
              rw [hE] at w3
              obtain rfl : c = 61 := Option.some.inj w3
              simp only
              rw [if_neg (by decide), ← hE, hback]
          rw [hc]
      · rw [if_neg h3] at h
        obtain rfl := Option.some.inj h
        have hplain : asksL name = false := Bool.eq_false_iff.2 fun h => h3 (.inl h)
        have hwl : WordL.wordL name = vl name := by
          have := WordL.wordF_plain [] false name (asks_begins name hplain)
          simpa [WordL.wordL] using this
        refine ⟨fun cur r => ?_, fun a ha hat => ?_, hg⟩
        · rw [show [34] ++ escL name ++ [34, 32, 60] ++ mail ++ [62] ++ r = 34 :: (escL name ++ 34 :: (32 :: 60 :: (mail ++ (62 :: r)))) by simp]
          rw [textsF_cons, if_neg (by decide), if_neg (by decide), if_neg (by rintro ⟨h | h, _⟩ <;> exact absurd h (by decide)), item_esc]
          simp only
          rw [(quoted_take _ _).1, (quoted_take _ _).2]
          rw [show 32 :: 60 :: (mail ++ (62 :: r)) = [32] ++ (60 :: (mail ++ (62 :: r))) from rfl, textsF_tame [32] _ _ _ (by decide), textsF_cons, if_pos rfl, textsF_tame _ _ _ _ hmt, textsF_cons, if_neg (by decide), if_pos rfl]
          congr 1; simp
        · unfold boxP
          rw [show a ++ ([34] ++ escL name ++ [34, 32, 60] ++ mail ++ [62]) = a ++ (34 :: (escL name ++ 34 :: (32 :: 60 :: (mail ++ [62])))) by simp]
          rw [boxF_tame a _ _ _ _ _ (fun c hc => List.all_eq_true.1 hat c hc), boxF_cons, if_neg (by decide), if_neg (by decide), item_esc]
          simp only
          rw [(quoted_take _ _).1, (quoted_take _ _).2]
          rw [show 32 :: 60 :: (mail ++ [62]) = [32] ++ (60 :: (mail ++ [62])) from rfl, boxF_tame [32] _ _ _ _ _ (by decide), boxF_cons, if_pos rfl, ang_mail mail hm]
          have ht : trimW ([] ++ a ++ 34 :: (escL name ++ [34]) ++ [32]) = 34 :: (escL name ++ [34]) := by
            have := trim_core a [32] (34 :: (escL name ++ [34])) ha (by decide) (by simp) (fun c hc => by obtain rfl := Option.some.inj hc; decide) (fun c hc => by
              rw [show 34 :: (escL name ++ [34]) = (34 :: escL name) ++ [34] from rfl, List.getLast?_append] at hc
              obtain rfl := Option.some.inj hc; decide)
            simpa using this
          have hst : stretchL (34 :: (escL name ++ [34])) = ((escL name).length + 2, true) := by
            simp only [stretchL]; rw [if_pos trivial, qGo_esc]
          have hc : calledL ([] ++ a ++ 34 :: (escL name ++ [34]) ++ [32]) = vl name := by
            unfold calledL
            rw [ht]
            simp only
            rw [if_pos trivial, hst]
            simp only
            rw [(quoted_take name []).1]
            have hi : innerL (34 :: (escL name ++ [34])) true = name := by
              unfold innerL midL
              rw [if_pos rfl, List.drop_one, List.tail_cons]
              have : (34 :: (escL name ++ [34])).length - 2 = (escL name).length := by simp
              rw [this, List.take_left, bareL_esc]
            rw [hi, hwl]
          rw [hc]
theorem keep_ent {name mail e a : List UInt8} (h : Ent name mail e) (ha : a.all WordL.white = true) (hat : a.all tame = true) : keepP (boxP (a ++ e)) = [(vl name, mail)] := by
  rw [h.box a ha hat]
  unfold keepP
  rw [if_pos h.good, if_neg (fun hh => good_ne h.good hh.2)]
theorem keep_white (a : List UInt8) (ha : a.all WordL.white = true) (hat : a.all tame = true) : keepP (boxP a) = [] := by
  have h : boxP a = ([], []) := by
    unfold boxP
    have := boxF_tame a [] [] [] false [] (fun c hc => List.all_eq_true.1 hat c hc)
    rw [List.append_nil] at this
    rw [this, boxF_nil, List.nil_append, trim_none a ha, trim_none [] rfl]; rfl
  rw [h]
  unfold keepP
  rw [if_pos ⟨rfl, by rw [if_neg (by decide)]⟩]
def writesL : List (List UInt8 × List UInt8) → Option (List (List UInt8))
  | [] => some []
  | x :: l => (oneW x.1 x.2).bind fun e => (writesL l).bind fun es => some (e :: es)
def joinW (es : List (List UInt8)) : List UInt8 := [44, 32].intercalate es
theorem joinW_nil : joinW [] = [] := rfl
theorem joinW_one (e : List UInt8) : joinW [e] = e := by simp [joinW, List.intercalate]
theorem joinW_cons (e f : List UInt8) (r : List (List UInt8)) : joinW (e :: f :: r) = e ++ 44 :: 32 :: joinW (f :: r) := by simp [joinW, List.intercalate]
def madeW (l : List (List UInt8 × List UInt8)) : List (List UInt8 × List UInt8) := l.map fun x => (vl x.1, x.2)
theorem writesL_cons {x : List UInt8 × List UInt8} {l : List (List UInt8 × List UInt8)} {es : List (List UInt8)} (h : writesL (x :: l) = some es) : ∃ e r, es = e :: r ∧ Ent x.1 x.2 e ∧ writesL l = some r := by
  simp only [writesL] at h
  obtain ⟨e, h1, h⟩ := Option.bind_eq_some_iff.1 h
  obtain ⟨r, h2, h⟩ := Option.bind_eq_some_iff.1 h
  exact ⟨e, r, (Option.some.inj h).symm, one_ent _ _ _ h1, h2⟩
theorem parse_tail : ∀ (l : List (List UInt8 × List UInt8)) (es : List (List UInt8)) (cur : List UInt8), writesL l = some es → cur.all WordL.white = true → cur.all tame = true → ∀ (r : List UInt8) (R : List (List UInt8 × List UInt8)),
    (∀ c2 : List UInt8, ∃ k, textsF c2 false r = c2 :: k ∧ k.flatMap (fun t => keepP (boxP t)) = R) →
    (textsF cur false (joinW es ++ r)).flatMap (fun t => keepP (boxP t)) = madeW l ++ R
  | [], es, cur, h, hw, ht, r, R, hr => by
    obtain rfl : es = [] := (Option.some.inj h).symm
    obtain ⟨k, h1, h2⟩ := hr cur
    rw [joinW_nil, List.nil_append, h1, List.flatMap_cons, keep_white cur hw ht, h2]; rfl
  | [x], es, cur, h, hw, ht, r, R, hr => by
    obtain ⟨e, es', rfl, he, h2⟩ := writesL_cons h
    obtain rfl : es' = [] := (Option.some.inj h2).symm
    obtain ⟨k, k1, k2⟩ := hr (cur ++ e)
    rw [joinW_one, he.texts, k1, List.flatMap_cons, keep_ent he hw ht, k2]; rfl
  | x :: y :: l, es, cur, h, hw, ht, r, R, hr => by
    obtain ⟨e, es', rfl, he, h2⟩ := writesL_cons h
    obtain ⟨f, es2, rfl, _, _⟩ := writesL_cons h2
    have ih := parse_tail (y :: l) (f :: es2) [32] h2 (by decide) (by decide) r R hr
    rw [joinW_cons, show e ++ 44 :: 32 :: joinW (f :: es2) ++ r = e ++ (44 :: ([32] ++ (joinW (f :: es2) ++ r))) by simp]
    rw [he.texts, textsF_cons, if_neg (by decide), if_neg (by decide), if_pos ⟨.inl rfl, rfl⟩, textsF_tame [32] _ _ _ (by decide), List.flatMap_cons, keep_ent he hw ht]
    rw [show ([] ++ [32] : List UInt8) = [32] from rfl, ih]; rfl
theorem parse_back (l : List (List UInt8 × List UInt8)) (es : List (List UInt8)) (h : writesL l = some es) : parseP (joinW es) = madeW l := by
  have := parse_tail l es [] h rfl rfl [] [] (fun c2 => ⟨[], rfl, rfl⟩)
  rw [List.append_nil, List.append_nil] at this
  exact this
theorem chunk_27 : ∀ (f : Nat) (l : List UInt8) (n : Nat), l.length ≤ f → 27 ≤ WordL.chunk f l n ∨ WordL.chunk f l n = n + l.length := by
  intro f
  induction f with
  | zero =>
    intro l n h
    right
    obtain rfl := List.eq_nil_of_length_eq_zero (by omega : l.length = 0)
    rfl
  | succ f ih =>
    intro l n h
    show 27 ≤ WordL.chunk (f + 1) l n ∨ WordL.chunk (f + 1) l n = n + l.length
    simp only [WordL.chunk]
    by_cases h0 : l = []
    · rw [if_pos h0, h0]; right; rfl
    · rw [if_neg h0]
      have h4 := WordL.width4 l h0
      have hw := dec_width l h0
      split
      · left; omega
      · have := ih (l.drop (uDec l).2) (n + (uDec l).2) (by rw [List.length_drop]; omega)
        rw [List.length_drop] at this
        rcases this with h | h
        · exact .inl h
        · right; show WordL.chunk f _ _ = _; rw [show WordL.chunk f (l.drop (uDec l).2) (n + (uDec l).2) = n + (uDec l).2 + (l.length - (uDec l).2) from h]; omega
theorem chunks_count : ∀ (f : Nat) (l : List UInt8), l.length ≤ f → 27 * (WordL.chunks f l).length ≤ l.length + 27 := by
  intro f
  induction f with
  | zero => intro l h; simp [WordL.chunks]
  | succ f ih =>
    intro l h
    simp only [WordL.chunks]
    by_cases h0 : l = []
    · rw [if_pos h0]; simp
    · rw [if_neg h0, List.length_cons]
      have hp := WordL.chunk_pos l.length l h0 (Nat.le_refl _)
      have hb := (WordL.chunk_bd l.length l 0).2
      have h27 := chunk_27 l.length l 0 (Nat.le_refl _)
      have hi := ih (l.drop (WordL.chunk l.length l 0)) (by rw [List.length_drop]; omega)
      rw [List.length_drop] at hi
      have hI : 27 * ((WordL.chunks f (l.drop (WordL.chunk l.length l 0))).length + 1) = 27 * (WordL.chunks f (l.drop (WordL.chunk l.length l 0))).length + 27 := by omega
      rcases h27 with h27 | h27
      · have : 27 ≤ WordL.chunk l.length l 0 := h27
        omega
      · have h27' : WordL.chunk l.length l 0 = 0 + l.length := h27
        have hnil : WordL.chunks f (l.drop (WordL.chunk l.length l 0)) = [] := by
          rw [List.drop_eq_nil_of_le (by omega)]
          cases f <;> simp [WordL.chunks]
        rw [hnil]; simp
end Go.Proofs.YtpcncpegbboljaaGreatDoor.Addr
namespace Go.Proofs.YtpcncpegbboljaaGreatDoor.Addr
open Go.RowKit Go.Lib Go.Proofs.YtpcncpegbboljaaGreatDoor Go.Proofs.YtpcncpegbboljaaGreatDoor.Pure Go.Proofs.YtpcncpegbboljaaGreatDoorW.PrintWords
set_option linter.unusedVariables false
set_option linter.unusedSimpArgs false
def boxOf (x : P.S32) : List UInt8 × List UInt8 := (x.f0.data.toList, x.f1.data.toList)
def toBox (x : List UInt8 × List UInt8) : P.S32 := ⟨⟨x.1.toArray⟩, ⟨x.2.toArray⟩⟩
theorem boxes_reps {w : World} {base : Nat} {ok : Nat → Prop} (l : List (List UInt8 × List UInt8)) : Reps (P.k32.M w base ok) 2 (l.map toBox) (boxesV l) := by
  have key : ∀ (a b : List (List UInt8 × List UInt8)), Reps (P.k32.M w base ok) 2 (a.map toBox) (boxesV a) → Reps (P.k32.M w base ok) 2 ((a ++ b).map toBox) (boxesV (a ++ b)) := by
    intro a b
    induction b generalizing a with
    | nil => intro h; simpa using h
    | cons x b ih =>
      intro h
      have h2 := ih (a ++ [x]) (by
        rw [boxesV_snoc, List.map_append]
        exact h.snoc (P.k32_mkM w base ok (toBox x)) rfl)
      simpa using h2
  have := key [] l (Reps.none _ _)
  simpa using this
theorem Parse_k (s : ByteArray) (hs : s.size ≤ 1100000) (w : World) (hGl : Glob w) :
    Calls Tryz.prog 11 #[.string s] w fun e w' => ∃ v0_ : Value, e = .returned (v0_) ∧ Kd.R P.k32 32 w' w.heap.size (fun _ => True) v0_ ((parseP s.data.toList).map toBox) ∧ Below w.heap.size w w' := by
  refine (Parse_c s hs w hGl).mono ?_
  rintro e w' ⟨v, rfl, hown, hb⟩
  refine ⟨v, rfl, ⟨fun _ _ => trivial, boxesV (parseL s), ?_, ?_⟩, hb⟩
  · rw [List.length_map, ← parseL_is]; exact hown
  · rw [← parseL_is]; exact boxes_reps _
end Go.Proofs.YtpcncpegbboljaaGreatDoor.Addr
namespace Go.Proofs.YtpcncpegbboljaaGreatDoor.Addr
open Go.RowKit Go.Lib Go.Proofs.YtpcncpegbboljaaGreatDoor Go.Proofs.YtpcncpegbboljaaGreatDoor.Pure Go.Proofs.YtpcncpegbboljaaGreatDoorW.PrintWords
set_option linter.unusedVariables false
set_option linter.unusedSimpArgs false
def writeL (l : List (List UInt8 × List UInt8)) : List UInt8 × Int := match writesL l with
  | none => ([], 1)
  | some es => (joinW es, 0)
theorem encL_small (l : List UInt8) (h : l.length ≤ 300) : (WordL.encL l).length ≤ 2000 := by
  unfold WordL.encL
  split
  · omega
  · obtain ⟨h1, h2⟩ := WordL.chunks_Val (vl l).length (vl l) (vl_Val l) (Nat.le_refl _)
    have h3 := WordL.inter_len (WordL.wordsL (vl l)) (fun w hw => by
      obtain ⟨x, hx, rfl⟩ := List.mem_map.1 hw
      exact WordL.wordOf_52 x (h2 x hx).2)
    have h4 : (WordL.wordsL (vl l)).length = (WordL.chunks (vl l).length (vl l)).length := by unfold WordL.wordsL; rw [List.length_map]
    have h5 := WordL.vl_len l
    have h6 := chunks_count (vl l).length (vl l) (Nat.le_refl _)
    omega
theorem oneW_small (name mail e : List UInt8) (h1 : name.length ≤ 300) (h2 : mail.length ≤ 300) (h : oneW name mail = some e) : e.length ≤ 2400 := by
  unfold oneW at h
  split at h
  · cases h
  · split at h
    · obtain rfl := Option.some.inj h; omega
    · split at h
      · obtain rfl := Option.some.inj h
        have := encL_small name h1
        simp only [List.length_append, List.length_cons, List.length_nil]; omega
      · obtain rfl := Option.some.inj h
        have := escL_len name
        simp only [List.length_append, List.length_cons, List.length_nil]; omega
def escPs : Repl.Pairs := [(34, ⟨#[92, 34]⟩), (92, ⟨#[92, 92]⟩)]
theorem repl_esc (l : List UInt8) : Repl.replL escPs l = escL l := by
  induction l with
  | nil => rfl
  | cons c l ih =>
    have h : ∀ c : Fin 256, Repl.repB escPs (UInt8.ofNat c.val) = if UInt8.ofNat c.val = 34 ∨ UInt8.ofNat c.val = 92 then [92, UInt8.ofNat c.val] else [UInt8.ofNat c.val] := by decide +kernel
    have hc := h ⟨c.toNat, UInt8.toNat_lt c⟩
    simp only at hc
    rw [show UInt8.ofNat c.toNat = c by simp] at hc
    show Repl.repB escPs c ++ Repl.replL escPs l = (if c = 34 ∨ c = 92 then [92, c] else [c]) ++ escL l
    rw [ih, hc]
theorem asks_contains (l : List UInt8) : Lib.contains l [61, 63] = asksL l := by
  show decide (0 ≤ index l [61, 63]) = asksL l
  cases h : asksL l with
  | true => exact decide_eq_true (by have := asks_index l h; omega)
  | false =>
    refine decide_eq_false (fun h0 => ?_)
    obtain ⟨k, hk⟩ := Int.eq_ofNat_of_zero_le h0
    obtain ⟨k1, k2, _⟩ := (WordL.index_begins l).1 k hk
    rw [asks_begins l h k k1] at k2; cases k2
theorem wr_step {xs : List (List UInt8 × List UInt8)} {i : Nat} {x : List UInt8 × List UInt8} {e : List UInt8} {acc : List (List UInt8)} {T : Option (List (List UInt8))} (hd : xs.drop i = x :: xs.drop (i + 1)) (h1 : oneW x.1 x.2 = some e)
    (he : (writesL (xs.drop i)).map (fun es => acc ++ es) = T) : (writesL (xs.drop (i + 1))).map (fun es => (acc ++ [e]) ++ es) = T := by
  rw [← he, hd]
  simp only [writesL, h1, Option.bind_some]
  cases writesL (xs.drop (i + 1)) <;> simp
theorem wr_none {xs : List (List UInt8 × List UInt8)} {i : Nat} {x : List UInt8 × List UInt8} {acc : List (List UInt8)} {T : Option (List (List UInt8))} (hd : xs.drop i = x :: xs.drop (i + 1)) (h1 : oneW x.1 x.2 = none)
    (he : (writesL (xs.drop i)).map (fun es => acc ++ es) = T) : T = none := by
  rw [← he, hd]
  simp only [writesL, h1, Option.bind_none]; rfl
theorem join_len : ∀ (es : List (List UInt8)), (∀ e ∈ es, e.length ≤ 2400) → (joinW es).length ≤ 2402 * es.length
  | [], _ => by simp [joinW_nil]
  | [e], h => by rw [joinW_one]; have := h e (by simp); simp; omega
  | e :: f :: r, h => by
    rw [joinW_cons]
    have h1 := h e (by simp)
    have ih := join_len (f :: r) (fun x hx => h x (List.mem_cons_of_mem _ hx))
    simp only [List.length_append, List.length_cons] at ih ⊢; omega
theorem row_set {w : World} {B n k j : Nat} {e : TypeId} {v x : Value} {xs : List Value} (h : w.ownsRow B e 1 v n xs) (hk : ∀ g, v.ownBlock = some g → g ≠ k) : (w.setCell ⟨k, j, none⟩ x).ownsRow B e 1 v n xs :=
  ownsRow_setCell_other (a := ⟨k, j, none⟩) h (fun e => hk _ e rfl) x
theorem own_lower8 {w : World} {M M' e n : Nat} {v : Value} {xs : List Value} (h : w.ownsRow M' e 1 v n xs) (hM : M ≤ M') : w.ownsRow M e 1 v n xs := by
  refine ⟨h.1, ?_⟩
  rcases h.2 with h | ⟨g, cap, cur, h1, h2, h3⟩
  · exact .inl h
  · exact .inr ⟨g, cap, cur, h1, Nat.le_trans hM h2, h3⟩
set_option maxRecDepth 100000 in
set_option maxHeartbeats 16000000 in
theorem Write_c (A : Option Addr) (c : Nat) (l : List P.S32) (hl : l.length ≤ 40) (hsz : ∀ x ∈ l, x.f0.size ≤ 300 ∧ x.f1.size ≤ 300) (w : World) (hGl : Glob w) (hr : Kd.C P.k32 w A l.length l) (hc : l.length ≤ c) :
    Calls Tryz.prog 16 #[.slice A l.length c] w fun e w' => e = .returned (.tuple #[.string ⟨(writeL (l.map boxOf)).1.toArray⟩, .int .i64 (writeL (l.map boxOf)).2]) ∧ Below w.heap.size w w' := by
  have HR := Lib.hid hr; have GL := Lib.hid hGl; have HSZ := Lib.hid hsz
  clear hr hGl hsz
  go_enter Tryz.func16, Tryz.ntmps16
  go_wp2
  go_loopw [4, 9] (fun lv iv wr => ∃ (i : Nat) (acc : List ByteArray) (x : Value), x = lv ∧ iv = .int .i64 (i : Int) ∧ i ≤ l.length ∧ acc.length = i ∧ (writesL ((l.map boxOf).drop i)).map (fun es => acc.map (·.data.toList) ++ es) = writesL (l.map boxOf) ∧ (∀ e ∈ acc, e.size ≤ 2400) ∧ wr.ownsRow w.heap.size 9 1 x acc.length (acc.map Value.string) ∧ Below w.heap.size w wr) (fun _ iv _ => l.length - (RowKit.intOf iv).toNat)
  case atStart => exact ⟨0, [], _, rfl, rfl, Nat.zero_le _, rfl, by rw [List.drop_zero]; simp, by simp, World.ownsRow_nil _ _ _ _, Below.refl _ _⟩
  case round =>
    obtain ⟨i, acc, lv, rfl, rfl, hi, hal, he, hes, hown, hb⟩ := hrel
    have HE := Lib.hid he; have HES := Lib.hid hes; have HN := Lib.hid hown; have HB := Lib.hid hb; have HAL := Lib.hid hal
    have hacc : acc.length ≤ 40 := by omega
    clear he hes hown hb hal
    by_cases hlt : i < l.length
    · have hlti : (i : Int) < (l.length : Int) := by omega
      obtain ⟨x, hx⟩ : ∃ x, l[i] = x := ⟨_, rfl⟩
      have hm : x ∈ l := hx ▸ List.getElem_mem hlt
      obtain ⟨hs0, hs1⟩ := HSZ.out x hm
      obtain ⟨ad, cs, hA, hcl, hK, hcell⟩ := Kd.C_get (Kd.C_below HR.out HB.out) P.z32 (i : Int) (by omega) (by omega)
      have hxd : l.getD i P.z32 = x := by rw [List.getD_eq_getElem?_getD, List.getElem?_eq_getElem hlt, hx]; rfl
      rw [Int.toNat_natCast, hxd] at hK
      rw [Int.toNat_natCast] at hcell
      obtain rfl := P.k32_open hK
      have k0 : wr.cell? (ad.add (i * 2)) = some (.string x.f0) := hcell 0 (.string x.f0) rfl
      have k1 : wr.cell? ⟨(ad.add (i * 2)).block, (ad.add (i * 2)).off + 1, none⟩ = some (.string x.f1) := by
        have := hcell 1 (.string x.f1) rfl
        rw [← add_field _ _ 1 (by omega)]; exact this
      have hdrop : (l.map boxOf).drop i = boxOf x :: (l.map boxOf).drop (i + 1) := by
        rw [List.drop_eq_getElem_cons (by rw [List.length_map]; exact hlt), List.getElem_map, hx]
      have HD := Lib.hid hdrop
      subst hA
      obtain ⟨N, hN⟩ : ∃ N, x.f0 = N := ⟨_, rfl⟩
      obtain ⟨M, hM⟩ : ∃ M, x.f1 = M := ⟨_, rfl⟩
      have hbx : boxOf x = (N.data.toList, M.data.toList) := by rw [← hN, ← hM]; rfl
      rw [hN] at k0 hs0
      rw [hM] at k1 hs1
      have HBX := Lib.hid hbx
      have hNl : N.data.toList.length = N.size := by simp
      have hMl : M.data.toList.length = M.size := by simp
      have hON : Hid (∀ e, oneW N.data.toList M.data.toList = some e → e.length ≤ 2400) := Lib.hid fun e h => oneW_small _ _ e (by omega) (by omega) h
      have HSTEP : Hid (∀ e : ByteArray, oneW N.data.toList M.data.toList = some e.data.toList → (writesL ((l.map boxOf).drop (i + 1))).map (fun es => (acc ++ [e]).map (·.data.toList) ++ es) = writesL (l.map boxOf)) := Lib.hid (by
        intro e h
        have := wr_step HD.out (by rw [HBX.out]; exact h) HE.out
        simpa using this)
      have HNONE : Hid (oneW N.data.toList M.data.toList = none → writeL (l.map boxOf) = ([], 1)) := Lib.hid (by
        intro h
        have := wr_none HD.out (by rw [HBX.out]; exact h) HE.out
        unfold writeL; rw [this])
      have hone : oneW N.data.toList M.data.toList = if goodL M.data.toList = false ∨ N.data.toList.any ctlC = true then none else if N.data.toList = [] then some M.data.toList else if asksL N.data.toList = true ∨ N.data.toList.any hiC = true then some (WordL.encL N.data.toList ++ [32, 60] ++ M.data.toList ++ [62]) else some ([34] ++ escL N.data.toList ++ [34, 32, 60] ++ M.data.toList ++ [62]) := rfl
      have GD := Lib.hid (fun W => Good_c M (by omega) W)
      have CF := Lib.hid (fun W => ctlF_c N W)
      have HF := Lib.hid (fun W => hiF_c N W)
      have CO : Hid (∀ W, Glob W → Calls Tryz.prog 24 #[.string N, .string (⟨#[61, 63]⟩ : ByteArray)] W fun e w' => e = .returned (.bool (asksL N.data.toList)) ∧ w' = W) := Lib.hid (fun W h => by
        obtain ⟨m, hm⟩ := h.maxl
        have := Tryz.strings_Contains N (⟨#[61, 63]⟩ : ByteArray) m W (by omega) hm
        rw [show Lib.contains N.data.toList (⟨#[61, 63]⟩ : ByteArray).data.toList = asksL N.data.toList from asks_contains _] at this
        exact this)
      have EN := Lib.hid (fun W h => WordL.Encode_c N (by omega) W h)
      obtain ⟨V, hV⟩ : ∃ V : ByteArray, (⟨(WordL.encL N.data.toList).toArray⟩ : ByteArray) = V := ⟨_, rfl⟩
      have hVd : V.data.toList = WordL.encL N.data.toList := by rw [← hV]
      have hVz : V.size ≤ 2000 := by
        have := encL_small N.data.toList (by omega)
        rw [← hVd] at this; simpa using this
      rw [hV] at EN
      have HVD := Lib.hid hVd
      have hNe : N.toList = N.data.toList := toList_eq _
      clear hK hcell hcl hxd hx hm hdrop hbx hV hVd hN hM
      generalize goodL M.data.toList = q at *
      generalize N.data.toList.any ctlC = ct at *
      generalize N.data.toList.any hiC = hi' at *
      generalize asksL N.data.toList = ak at *
      have HONE := Lib.hid hone; have HNE := Lib.hid hNe; have HNL := Lib.hid hNl
      clear hone hNe hNl hMl
      cases q with
      | false =>
        have hz : Hid (writeL (l.map boxOf) = ([], 1)) := Lib.hid (HNONE.out (by rw [HONE.out, if_pos (.inl rfl)]))
        go_wp2_with (go_at_call 13; refine (GD.out _).mono ?_; rintro e w1 ⟨rfl, b1⟩; have h1 := (b1.block wr.heap.size (by simp)).trans (heap_alloc_new wr _); have k10 := Joins.cell_of_block h1 0; have k11 := Joins.cell_of_block h1 1; have u10 := Joins.unfrozen_of_block h1 0; simp at k10 k11; have D1 := Lib.hid h1; have B1 := Lib.hid (((Below.refl _ wr).alloc (Nat.le_refl _) _).trans (b1.mono (by simp))); clear b1 h1)
        go_ret2
        rw [hz.out]
        exact ⟨rfl, HB.out.trans (B1.out.mono HB.out.size)⟩
      | true =>
      cases ct with
      | true =>
        have hz : Hid (writeL (l.map boxOf) = ([], 1)) := Lib.hid (HNONE.out (by rw [HONE.out, if_pos (.inr rfl)]))
        go_wp2_with (first
          | (go_at_call 13; refine (GD.out _).mono ?_; rintro e w1 ⟨rfl, b1⟩; have h1 := (b1.block wr.heap.size (by simp)).trans (heap_alloc_new wr _); have k10 := Joins.cell_of_block h1 0; have k11 := Joins.cell_of_block h1 1; have u10 := Joins.unfrozen_of_block h1 0; simp at k10 k11; have D1 := Lib.hid h1; have B1 := Lib.hid (((Below.refl _ wr).alloc (Nat.le_refl _) _).trans (b1.mono (by simp))); clear b1 h1)
          | (go_at_call 26; with_reducible refine (CF.out _).mono ?_; rintro e w2 ⟨rfl, b2⟩; have h2 := (b2.block wr.heap.size (Array.getElem?_eq_some_iff.1 D1.out).1).trans D1.out; have k20 := Joins.cell_of_block h2 0; have k21 := Joins.cell_of_block h2 1; have u20 := Joins.unfrozen_of_block h2 0; simp at k20 k21; have D2 := Lib.hid h2; have B2 := Lib.hid (B1.out.trans (b2.mono B1.out.size)); clear b2 h2))
        go_ret2
        rw [hz.out]
        exact ⟨rfl, HB.out.trans (B2.out.mono HB.out.size)⟩
      | false =>
      have hq1 : Hid (oneW N.data.toList M.data.toList = if N.data.toList = [] then some M.data.toList else if ak = true ∨ hi' = true then some (WordL.encL N.data.toList ++ [32, 60] ++ M.data.toList ++ [62]) else some ([34] ++ escL N.data.toList ++ [34, 32, 60] ++ M.data.toList ++ [62])) := Lib.hid (by rw [HONE.out, if_neg (by rintro (h | h) <;> cases h)])
      obtain ⟨i0, hi0, hz0, hz1, hz2⟩ := info_parts infoStr
      have HI0 := Lib.hid hi0
      clear hi0
      by_cases hNn : N.toList = []
      · have hNn2 : N.toList.isEmpty = true := by rw [hNn]; rfl
        have ho : Hid (oneW N.data.toList M.data.toList = some M.data.toList) := Lib.hid (by rw [hq1.out, if_pos (by rw [← HNE.out]; exact hNn)])
        go_wp2_with (first
          | (go_at_call 13; refine (GD.out _).mono ?_; rintro e w1 ⟨rfl, b1⟩; have h1 := (b1.block wr.heap.size (by simp)).trans (heap_alloc_new wr _); have k10 := Joins.cell_of_block h1 0; have k11 := Joins.cell_of_block h1 1; have u10 := Joins.unfrozen_of_block h1 0; simp at k10 k11; have D1 := Lib.hid h1; have B1 := Lib.hid (((Below.refl _ wr).alloc (Nat.le_refl _) _).trans (b1.mono (by simp))); clear b1 h1)
          | (go_at_call 26; with_reducible refine (CF.out _).mono ?_; rintro e w2 ⟨rfl, b2⟩; have h2 := (b2.block wr.heap.size (Array.getElem?_eq_some_iff.1 D1.out).1).trans D1.out; have k20 := Joins.cell_of_block h2 0; have k21 := Joins.cell_of_block h2 1; have u20 := Joins.unfrozen_of_block h2 0; simp at k20 k21; have D2 := Lib.hid h2; have B2 := Lib.hid (B1.out.trans (b2.mono B1.out.size)); clear b2 h2)
          | (at_builtin; refine wpList_append_own _ rfl (.tmp 34) (.tmp 37) 34 rfl w.heap.size 9 i0 _ 1 16 Tryz.underlying34 HI0.out hz0 hz1 hz2 rfl (by decide) _ _ _ rfl ((own_below HN.out B2.out).alloc _) ⟨w2.heap.size, 0, none⟩ 1 1 [.string M] rfl rfl ?c1 ?c2 ?c3 ?c4 ?c5 ?_))
        case c1 =>
          intro j u hj
          match j, hj with
          | 0, hj =>
            obtain rfl : Value.string M = u := Option.some.inj hj
            rw [show (⟨w2.heap.size, 0, none⟩ : Addr).add 0 = ⟨w2.heap.size, 0, none⟩ from by unfold Addr.add; simp]
            simp
          | j + 1, hj => exact absurd hj (by simp)
        case c2 => intro u hu; simp at hu; rcases hu with rfl; rfl
        case c3 => simp only [maxLen]; omega
        case c4 => omega
        case c5 => have h1 := HB.out.size; have h2 := B2.out.size; simp; omega
        intro v' w5 hown5 hgr5 _
        have hb5 : Below w.heap.size w w5 := ((HB.out.trans (B2.out.mono HB.out.size)).alloc (by have h1 := HB.out.size; have h2 := B2.out.size; omega) _).grown hgr5 (by have h1 := HB.out.size; have h2 := B2.out.size; simp; omega) (own_base HN.out)
        have H5 := Lib.hid hown5; have B5 := Lib.hid hb5
        clear hown5 hgr5 hb5
        go_wp2_with fail
        go_roundw
        case rel => exact ⟨i + 1, acc ++ [M], _, rfl, by go_num, by omega, by rw [List.length_append, HAL.out]; rfl, HSTEP.out M ho.out, fun e he => (List.mem_append.1 he).elim (HES.out e) (fun h => by rw [List.mem_singleton.1 h]; omega), by rw [List.length_append, List.map_append]; exact H5.out, B5.out⟩
        case measure => simp [RowKit.intOf]; omega
      · have hNn2 : N.toList.isEmpty = false := by cases h : N.toList with
          | nil => exact absurd h hNn
          | cons a b => rfl
        by_cases hch : ak = true ∨ hi' = true
        · have ho : Hid (oneW N.data.toList M.data.toList = some (((V ++ (⟨#[32, 60]⟩ : ByteArray)) ++ M) ++ (⟨#[62]⟩ : ByteArray)).data.toList) := Lib.hid (by
            rw [hq1.out, if_neg (by rw [← HNE.out]; exact hNn), if_pos hch, ← HVD.out]; simp)
          have HCH := Lib.hid hch
          clear hch
          cases ak with
          | true =>
            go_wp2_with (first
              | (go_at_call 13; refine (GD.out _).mono ?_; rintro e w1 ⟨rfl, b1⟩; have h1 := (b1.block wr.heap.size (by simp)).trans (heap_alloc_new wr _); have k10 := Joins.cell_of_block h1 0; have k11 := Joins.cell_of_block h1 1; have u10 := Joins.unfrozen_of_block h1 0; simp at k10 k11; have D1 := Lib.hid h1; have B1 := Lib.hid (((Below.refl _ wr).alloc (Nat.le_refl _) _).trans (b1.mono (by simp))); clear b1 h1)
              | (go_at_call 26; with_reducible refine (CF.out _).mono ?_; rintro e w2 ⟨rfl, b2⟩; have h2 := (b2.block wr.heap.size (Array.getElem?_eq_some_iff.1 D1.out).1).trans D1.out; have k20 := Joins.cell_of_block h2 0; have k21 := Joins.cell_of_block h2 1; have u20 := Joins.unfrozen_of_block h2 0; simp at k20 k21; have D2 := Lib.hid h2; have B2 := Lib.hid (B1.out.trans (b2.mono B1.out.size)); clear b2 h2)
              | (go_at_call 24; refine (CO.out _ (GL.out.below (HB.out.trans (B2.out.mono HB.out.size)))).mono ?_; rintro e w3 ⟨rfl, rfl⟩)
              | (go_at_call 30; refine (EN.out _ (GL.out.below (HB.out.trans (B2.out.mono HB.out.size)))).mono ?_; rintro e w4 ⟨rfl, b4⟩; have h4 := (b4.block wr.heap.size (Array.getElem?_eq_some_iff.1 D2.out).1).trans D2.out; have k40 := Joins.cell_of_block h4 0; have k41 := Joins.cell_of_block h4 1; have u40 := Joins.unfrozen_of_block h4 0; simp at k40 k41; have D4 := Lib.hid h4; have B4 := Lib.hid (B2.out.trans (b4.mono B2.out.size)); have H4 := Lib.hid (row_set (k := wr.heap.size) (j := 0) (x := .string V) (own_below HN.out B4.out) (fun g hg => by have := (HN.out.lt _ hg).2; omega)); have B9 := Lib.hid ((HB.out.trans (B4.out.mono HB.out.size)).setCell (p := ⟨wr.heap.size, 0, none⟩) HB.out.size (.string V)); have hz9 := B4.out.size; clear b4 h4)
              | (at_builtin; refine wpList_append_own _ rfl (.tmp 52) (.tmp 60) 34 rfl w.heap.size 9 i0 _ 1 16 Tryz.underlying34 HI0.out hz0 hz1 hz2 rfl (by decide) _ _ _ rfl (H4.out.alloc _) ⟨w4.heap.size, 0, none⟩ 1 1 [.string (V ++ (⟨#[32, 60]⟩ : ByteArray) ++ M ++ (⟨#[62]⟩ : ByteArray))] rfl rfl ?c1 ?c2 ?c3 ?c4 ?c5 ?_))
            case c1 =>
              intro j u hj
              match j, hj with
              | 0, hj =>
                obtain rfl : Value.string (V ++ (⟨#[32, 60]⟩ : ByteArray) ++ M ++ (⟨#[62]⟩ : ByteArray)) = u := Option.some.inj hj
                rw [show (⟨w4.heap.size, 0, none⟩ : Addr).add 0 = ⟨w4.heap.size, 0, none⟩ from by unfold Addr.add; simp]
                rw [World.cell?_alloc_at (hn := by simp)]; rfl
              | j + 1, hj => exact absurd hj (by simp)
            case c2 => intro u hu; simp at hu; rcases hu with rfl; rfl
            case c3 => simp only [maxLen]; omega
            case c4 => omega
            case c5 => have h1 := HB.out.size; simp; omega
            intro v' w9 hown9 hgr9 _
            have hb9 : Below w.heap.size w w9 := (B9.out.alloc (by have h1 := HB.out.size; simp; omega) _).grown hgr9 (by have h1 := HB.out.size; simp; omega) (own_base HN.out)
            have H9 := Lib.hid hown9; have B10 := Lib.hid hb9
            clear hown9 hgr9 hb9
            go_wp2_with fail
            go_roundw
            case rel => exact ⟨i + 1, acc ++ [V ++ (⟨#[32, 60]⟩ : ByteArray) ++ M ++ (⟨#[62]⟩ : ByteArray)], _, rfl, by go_num, by omega, by rw [List.length_append, HAL.out]; rfl, HSTEP.out _ ho.out, fun e he => (List.mem_append.1 he).elim (HES.out e) (fun h => by rw [List.mem_singleton.1 h, ← sizeL]; exact hON.out _ ho.out), by rw [List.length_append, List.map_append]; exact H9.out, B10.out⟩
            case measure => simp [RowKit.intOf]; omega
          | false =>
            obtain rfl : hi' = true := by rcases HCH.out with h | h; cases h; exact h
            go_wp2_with (first
              | (go_at_call 13; refine (GD.out _).mono ?_; rintro e w1 ⟨rfl, b1⟩; have h1 := (b1.block wr.heap.size (by simp)).trans (heap_alloc_new wr _); have k10 := Joins.cell_of_block h1 0; have k11 := Joins.cell_of_block h1 1; have u10 := Joins.unfrozen_of_block h1 0; simp at k10 k11; have D1 := Lib.hid h1; have B1 := Lib.hid (((Below.refl _ wr).alloc (Nat.le_refl _) _).trans (b1.mono (by simp))); clear b1 h1)
              | (go_at_call 26; with_reducible refine (CF.out _).mono ?_; rintro e w2 ⟨rfl, b2⟩; have h2 := (b2.block wr.heap.size (Array.getElem?_eq_some_iff.1 D1.out).1).trans D1.out; have k20 := Joins.cell_of_block h2 0; have k21 := Joins.cell_of_block h2 1; have u20 := Joins.unfrozen_of_block h2 0; simp at k20 k21; have D2 := Lib.hid h2; have B2 := Lib.hid (B1.out.trans (b2.mono B1.out.size)); clear b2 h2)
              | (go_at_call 24; refine (CO.out _ (GL.out.below (HB.out.trans (B2.out.mono HB.out.size)))).mono ?_; rintro e w3 ⟨rfl, rfl⟩)
              | (go_at_call 26; with_reducible refine (HF.out _).mono ?_; rintro e w4 ⟨rfl, b4⟩; have h4 := (b4.block wr.heap.size (Array.getElem?_eq_some_iff.1 D2.out).1).trans D2.out; have k40 := Joins.cell_of_block h4 0; have k41 := Joins.cell_of_block h4 1; have u40 := Joins.unfrozen_of_block h4 0; simp at k40 k41; have D4 := Lib.hid h4; have B4 := Lib.hid (B2.out.trans (b4.mono B2.out.size)); clear b4 h4)
              | (go_at_call 30; refine (EN.out _ (GL.out.below (HB.out.trans (B4.out.mono HB.out.size)))).mono ?_; rintro e w5 ⟨rfl, b5⟩; have h5 := (b5.block wr.heap.size (Array.getElem?_eq_some_iff.1 D4.out).1).trans D4.out; have k50 := Joins.cell_of_block h5 0; have k51 := Joins.cell_of_block h5 1; have u50 := Joins.unfrozen_of_block h5 0; simp at k50 k51; have D5 := Lib.hid h5; have B5 := Lib.hid (B4.out.trans (b5.mono B4.out.size)); have H5 := Lib.hid (row_set (k := wr.heap.size) (j := 0) (x := .string V) (own_below HN.out B5.out) (fun g hg => by have := (HN.out.lt _ hg).2; omega)); have B9 := Lib.hid ((HB.out.trans (B5.out.mono HB.out.size)).setCell (p := ⟨wr.heap.size, 0, none⟩) HB.out.size (.string V)); have hz9 := B5.out.size; clear b5 h5)
              | (at_builtin; refine wpList_append_own _ rfl (.tmp 52) (.tmp 60) 34 rfl w.heap.size 9 i0 _ 1 16 Tryz.underlying34 HI0.out hz0 hz1 hz2 rfl (by decide) _ _ _ rfl (H5.out.alloc _) ⟨w5.heap.size, 0, none⟩ 1 1 [.string (V ++ (⟨#[32, 60]⟩ : ByteArray) ++ M ++ (⟨#[62]⟩ : ByteArray))] rfl rfl ?c1 ?c2 ?c3 ?c4 ?c5 ?_))
            case c1 =>
              intro j u hj
              match j, hj with
              | 0, hj =>
                obtain rfl : Value.string (V ++ (⟨#[32, 60]⟩ : ByteArray) ++ M ++ (⟨#[62]⟩ : ByteArray)) = u := Option.some.inj hj
                rw [show (⟨w5.heap.size, 0, none⟩ : Addr).add 0 = ⟨w5.heap.size, 0, none⟩ from by unfold Addr.add; simp]
                rw [World.cell?_alloc_at (hn := by simp)]; rfl
              | j + 1, hj => exact absurd hj (by simp)
            case c2 => intro u hu; simp at hu; rcases hu with rfl; rfl
            case c3 => simp only [maxLen]; omega
            case c4 => omega
            case c5 => have h1 := HB.out.size; simp; omega
            intro v' w9 hown9 hgr9 _
            have hb9 : Below w.heap.size w w9 := (B9.out.alloc (by have h1 := HB.out.size; simp; omega) _).grown hgr9 (by have h1 := HB.out.size; simp; omega) (own_base HN.out)
            have H9 := Lib.hid hown9; have B10 := Lib.hid hb9
            clear hown9 hgr9 hb9
            go_wp2_with fail
            go_roundw
            case rel => exact ⟨i + 1, acc ++ [V ++ (⟨#[32, 60]⟩ : ByteArray) ++ M ++ (⟨#[62]⟩ : ByteArray)], _, rfl, by go_num, by omega, by rw [List.length_append, HAL.out]; rfl, HSTEP.out _ ho.out, fun e he => (List.mem_append.1 he).elim (HES.out e) (fun h => by rw [List.mem_singleton.1 h, ← sizeL]; exact hON.out _ ho.out), by rw [List.length_append, List.map_append]; exact H9.out, B10.out⟩
            case measure => simp [RowKit.intOf]; omega
        · obtain rfl : ak = false := by cases ak; rfl; exact absurd (.inl rfl) hch
          obtain rfl : hi' = false := by cases hi'; rfl; exact absurd (.inr rfl) hch
          obtain ⟨R, hR⟩ : ∃ R : ByteArray, (⟨(Repl.replL escPs N.data.toList).toArray⟩ : ByteArray) = R := ⟨_, rfl⟩
          have hRd : R.data.toList = escL N.data.toList := by rw [← hR]; exact repl_esc _
          have hRz : R.size ≤ 600 := by
            have := escL_len N.data.toList
            rw [← hRd] at this
            have h2 : R.data.toList.length = R.size := by simp
            have h3 := HNL.out
            omega
          have RP := Lib.hid (fun M b W (hN : Repl.New M W b escPs) hM => Repl.Replace_any M b escPs N W (by decide) (by decide) (by decide) (by decide) (by decide) (by omega) hN hM)
          rw [hR] at RP
          have NR : Hid (∀ (W : World), Calls Tryz.prog 31 #[.slice (some ⟨W.heap.size, 0, none⟩) 4 4] (W.alloc (.cells #[.string ⟨#[34]⟩, .string ⟨#[92, 34]⟩, .string ⟨#[92]⟩, .string ⟨#[92, 92]⟩] 9)) fun e w' => ∃ b, e = .returned (.pointer (some ⟨b, 0, none⟩)) ∧ Repl.New W.heap.size w' b escPs ∧ Below W.heap.size W w') := Lib.hid (fun W => by
            refine (Repl.NewReplacer_any W.heap.size 4 escPs _ (by decide) (by decide) (Repl.cells_lit W _ _ _ rfl)).mono ?_
            rintro e w' ⟨b, rfl, ⟨v, h1, h2, h3⟩, hb⟩
            have hs : ∀ o, (W.alloc o).heap.size = W.heap.size + 1 := fun o => by simp
            have h1' := h1
            rw [hs] at h1'
            exact ⟨b, rfl, ⟨v, by omega, h2, own_lower8 h3 (by rw [hs]; omega)⟩, ((Below.refl _ _).alloc (Nat.le_refl _) _).trans (hb.mono (by rw [hs]; omega))⟩)
          have NRD : Hid (∀ (W : World), Calls Tryz.prog 31 #[.slice (some ⟨W.heap.size, 0, none⟩) 4 4] (W.alloc (.cells #[.string ⟨#[34]⟩, .string ⟨#[92, 34]⟩, .string ⟨#[92]⟩, .string ⟨#[92, 92]⟩] 9)).drew fun e w' => ∃ b, e = .returned (.pointer (some ⟨b, 0, none⟩)) ∧ Repl.New W.heap.size w' b escPs ∧ Below W.heap.size W w') := Lib.hid (fun W => (NR.out W.drew).mono (by
            rintro e w' ⟨b, rfl, h1, h2⟩
            exact ⟨b, rfl, h1, (Below.refl _ W).drew.trans h2⟩))
          have ho : Hid (oneW N.data.toList M.data.toList = some ((⟨#[34]⟩ : ByteArray) ++ R ++ (⟨#[34]⟩ : ByteArray) ++ (⟨#[32, 60]⟩ : ByteArray) ++ M ++ (⟨#[62]⟩ : ByteArray)).data.toList) := Lib.hid (by
            rw [hq1.out, if_neg (by rw [← HNE.out]; exact hNn), if_neg hch, ← hRd]; simp)
          clear hch hRd hR
          go_upto_region 7 with (first
            | (go_at_call 13; refine (GD.out _).mono ?_; rintro e w1 ⟨rfl, b1⟩; have h1 := (b1.block wr.heap.size (by simp)).trans (heap_alloc_new wr _); have k10 := Joins.cell_of_block h1 0; have k11 := Joins.cell_of_block h1 1; have u10 := Joins.unfrozen_of_block h1 0; simp at k10 k11; have D1 := Lib.hid h1; have B1 := Lib.hid (((Below.refl _ wr).alloc (Nat.le_refl _) _).trans (b1.mono (by simp))); clear b1 h1)
            | (go_at_call 26; with_reducible refine (CF.out _).mono ?_; rintro e w2 ⟨rfl, b2⟩; have h2 := (b2.block wr.heap.size (Array.getElem?_eq_some_iff.1 D1.out).1).trans D1.out; have k20 := Joins.cell_of_block h2 0; have k21 := Joins.cell_of_block h2 1; have u20 := Joins.unfrozen_of_block h2 0; simp at k20 k21; have D2 := Lib.hid h2; have B2 := Lib.hid (B1.out.trans (b2.mono B1.out.size)); clear b2 h2)
            | (go_at_call 24; refine (CO.out _ (GL.out.below (HB.out.trans (B2.out.mono HB.out.size)))).mono ?_; rintro e w3 ⟨rfl, rfl⟩)
            | (go_at_call 26; with_reducible refine (HF.out _).mono ?_; rintro e w4 ⟨rfl, b4⟩; have h4 := (b4.block wr.heap.size (Array.getElem?_eq_some_iff.1 D2.out).1).trans D2.out; have k40 := Joins.cell_of_block h4 0; have k41 := Joins.cell_of_block h4 1; have u40 := Joins.unfrozen_of_block h4 0; simp at k40 k41; have D4 := Lib.hid h4; have B4 := Lib.hid (B2.out.trans (b4.mono B2.out.size)); clear b4 h4))
          go_wp2_with fail
          have hz4 := B4.out.size
          have hlt4 : wr.heap.size < w4.heap.size := (Array.getElem?_eq_some_iff.1 D4.out).1
          have hR0 : 1 + R.size ≤ 9223372036854775807 := by omega
          have hR1 : 1 + R.size ≤ 9223372036854775806 := by omega
          have hR2 : ¬ 9223372036854775807 < 1 + R.size := by omega
          have hR3 : ¬ 9223372036854775807 < 1 + R.size + 1 := by omega
          go_region_law (first
            | (go_simp; go_at_call 31; refine (NRD.out w4).mono ?_; rintro e w5 ⟨rb, rfl, hnew, b5⟩; have HNEW := Lib.hid hnew; have h5 := (b5.block wr.heap.size (Array.getElem?_eq_some_iff.1 D4.out).1).trans D4.out; have k50 := Joins.cell_of_block h5 0; have k51 := Joins.cell_of_block h5 1; have u50 := Joins.unfrozen_of_block h5 0; simp at k50 k51; have D5 := Lib.hid h5; have B5 := Lib.hid (B4.out.trans (b5.mono B4.out.size)); have hz5 := b5.size; clear hnew b5 h5)
            | (go_simp; go_at_call 32; refine (RP.out _ _ _ HNEW.out hz5).mono ?_; rintro e w6 ⟨rfl, b6⟩; have h6 := (b6.block wr.heap.size (by have := (Array.getElem?_eq_some_iff.1 D4.out).1; exact this)).trans D5.out; have k60 := Joins.cell_of_block h6 0; have k61 := Joins.cell_of_block h6 1; have u60 := Joins.unfrozen_of_block h6 0; simp at k60 k61; have D6 := Lib.hid h6; have B6 := Lib.hid (B5.out.trans (b6.mono (by exact B4.out.size))); have hz6 := B6.out.size; clear b6 h6))
          all_goals (
            have hz6 := B6.out.size
            have H6 := Lib.hid (row_set (k := wr.heap.size) (j := 0) (x := .string ((⟨#[34]⟩ : ByteArray) ++ R ++ (⟨#[34]⟩ : ByteArray))) (own_below HN.out B6.out) (fun g hg => by have := (HN.out.lt _ hg).2; omega))
            have B9 := Lib.hid ((HB.out.trans (B6.out.mono HB.out.size)).setCell (p := ⟨wr.heap.size, 0, none⟩) HB.out.size (.string ((⟨#[34]⟩ : ByteArray) ++ R ++ (⟨#[34]⟩ : ByteArray))))
            go_wp2_with (at_builtin; refine wpList_append_own _ rfl (.tmp 52) (.tmp 60) 34 rfl w.heap.size 9 i0 _ 1 16 Tryz.underlying34 HI0.out hz0 hz1 hz2 rfl (by decide) _ _ _ rfl (H6.out.alloc _) ⟨w6.heap.size, 0, none⟩ 1 1 [.string ((⟨#[34]⟩ : ByteArray) ++ R ++ (⟨#[34]⟩ : ByteArray) ++ (⟨#[32, 60]⟩ : ByteArray) ++ M ++ (⟨#[62]⟩ : ByteArray))] rfl rfl ?c1 ?c2 ?c3 ?c4 ?c5 ?_)
            case c1 =>
              intro j u hj
              match j, hj with
              | 0, hj =>
                obtain rfl : Value.string ((⟨#[34]⟩ : ByteArray) ++ R ++ (⟨#[34]⟩ : ByteArray) ++ (⟨#[32, 60]⟩ : ByteArray) ++ M ++ (⟨#[62]⟩ : ByteArray)) = u := Option.some.inj hj
                rw [show (⟨w6.heap.size, 0, none⟩ : Addr).add 0 = ⟨w6.heap.size, 0, none⟩ from by unfold Addr.add; simp]
                rw [World.cell?_alloc_at (hn := by simp)]; rfl
              | j + 1, hj => exact absurd hj (by simp)
            case c2 => intro u hu; simp at hu; rcases hu with rfl; rfl
            case c3 => simp only [maxLen]; omega
            case c4 => omega
            case c5 => have h1 := HB.out.size; simp; omega
            intro v' w9 hown9 hgr9 _
            have hb9 : Below w.heap.size w w9 := (B9.out.alloc (by have h1 := HB.out.size; simp; omega) _).grown hgr9 (by have h1 := HB.out.size; simp; omega) (own_base HN.out)
            have H9 := Lib.hid hown9; have B10 := Lib.hid hb9
            clear hown9 hgr9 hb9
            go_wp2_with fail
            go_roundw
            case rel => exact ⟨i + 1, acc ++ [(⟨#[34]⟩ : ByteArray) ++ R ++ (⟨#[34]⟩ : ByteArray) ++ (⟨#[32, 60]⟩ : ByteArray) ++ M ++ (⟨#[62]⟩ : ByteArray)], _, rfl, by go_num, by omega, by rw [List.length_append, HAL.out]; rfl, HSTEP.out _ ho.out, fun e he => (List.mem_append.1 he).elim (HES.out e) (fun h => by rw [List.mem_singleton.1 h, ← sizeL]; exact hON.out _ ho.out), by rw [List.length_append, List.map_append]; exact H9.out, B10.out⟩
            case measure => simp [RowKit.intOf]; omega
            )
    · have hlti : ¬ (i : Int) < (l.length : Int) := by omega
      have he := HE.out
      rw [List.drop_eq_nil_of_le (by rw [List.length_map]; omega)] at he
      simp only [writesL, Option.map_some, List.append_nil] at he
      have HW : Hid (writeL (l.map boxOf) = (joinW (acc.map (·.data.toList)), 0)) := Lib.hid (by unfold writeL; rw [← he])
      clear he
      have hjl := join_len (acc.map (·.data.toList)) (fun e he => by
        obtain ⟨x, hx, rfl⟩ := List.mem_map.1 he
        rw [sizeL]; exact HES.out x hx)
      rw [List.length_map] at hjl
      have hsz := HB.out.size
      rcases HN.out.2 with ⟨hx, h0⟩ | ⟨g, cap, cur, hx, hg, hh, hcp, hrest⟩
      · subst hx
        have hac : acc = [] := List.eq_nil_of_length_eq_zero h0
        have HAC := Lib.hid hac
        clear hac h0 hjl
        go_wp2_with (go_at_call 33; refine (Tryz.strings_Join_none none 0 (⟨#[44, 32]⟩ : ByteArray) _).mono ?_; rintro e w9 ⟨rfl, rfl⟩)
        go_ret2
        rw [HW.out, HAC.out]
        exact ⟨rfl, HB.out⟩
      · have JO : ∀ (W : World), W.ownsRow w.heap.size 9 1 (.slice (some ⟨g, 0, none⟩) acc.length cap) acc.length (acc.map Value.string) → acc.length ≤ cap → Calls Tryz.prog 33 #[.slice (some ⟨g, 0, none⟩) acc.length cap, .string (⟨#[44, 32]⟩ : ByteArray)] W fun e w' => e = .returned (.string ⟨(joinW (acc.map (·.data.toList))).toArray⟩) ∧ Below W.heap.size W w' := by
          intro W hown hcap
          exact Tryz.strings_Join g 0 cap acc (⟨#[44, 32]⟩ : ByteArray) W (fun j y hj => by
            have := hown.cells (g := g) rfl j (.string y) (by rw [List.getElem?_map, hj]; rfl)
            have e : (⟨g, 0, none⟩ : Addr).add j = ⟨g, 0 + j, none⟩ := by unfold Addr.add; split <;> simp_all
            rw [e] at this
            exact this) (hown.lt g rfl).2 (by omega) hcap (by
              show (joinW (acc.map (·.data.toList))).length ≤ _
              omega)
        have HJO := Lib.hid JO
        have HN2 := Lib.hid HN.out
        subst hx
        have HCP := Lib.hid hcp
        clear hg hh hcp hrest JO hjl
        go_wp2_with (go_at_call 33; refine (HJO.out _ HN2.out (by have := HCP.out; omega)).mono ?_; rintro e w9 ⟨rfl, b9⟩; have B9 := Lib.hid b9; clear b9)
        go_ret2
        rw [HW.out]
        exact ⟨rfl, HB.out.trans (B9.out.mono HB.out.size)⟩
end Go.Proofs.YtpcncpegbboljaaGreatDoor.Addr
namespace Go.Proofs.YtpcncpegbboljaaGreatDoor.R
open Go.RowKit Go.Proofs.YtpcncpegbboljaaGreatDoorW.PrintWords Go.Proofs.YtpcncpegbboljaaGreatDoorW.PrintLast Go.Proofs.YtpcncpegbboljaaGreatDoorW.PrintMore
attribute [local go_sem] max2_int min2_int max_two min_two max_three min_three max_four min_four
set_option linter.unusedVariables false
set_option linter.unusedSimpArgs false
def errW : Option Int → Value
  | none => .nilIface
  | some c => .iface 0 (.int .i64 c)
theorem errW_none : errW none = .nilIface := rfl
theorem errW_some (c : Int) : errW (some c) = .iface 0 (.int .i64 c) := rfl
end Go.Proofs.YtpcncpegbboljaaGreatDoor.R
namespace Go.Proofs.YtpcncpegbboljaaGreatDoor.D
open Go.RowKit Go.Proofs.YtpcncpegbboljaaGreatDoorW.PrintWords Go.Proofs.YtpcncpegbboljaaGreatDoorW.PrintLast Go.Proofs.YtpcncpegbboljaaGreatDoorW.PrintMore
attribute [local go_sem] max2_int min2_int max_two min_two max_three min_three max_four min_four
set_option linter.unusedVariables false
set_option linter.unusedSimpArgs false
def errW : Option Int → Value
  | none => .nilIface
  | some c => .iface 0 (.int .i64 c)
theorem errW_none : errW none = .nilIface := rfl
theorem errW_some (c : Int) : errW (some c) = .iface 0 (.int .i64 c) := rfl
end Go.Proofs.YtpcncpegbboljaaGreatDoor.D
namespace Go.Proofs.YtpcncpegbboljaaGreatDoor.E
open Go.RowKit Go.Proofs.YtpcncpegbboljaaGreatDoorW.PrintWords Go.Proofs.YtpcncpegbboljaaGreatDoorW.PrintLast Go.Proofs.YtpcncpegbboljaaGreatDoorW.PrintMore
attribute [local go_sem] max2_int min2_int max_two min_two max_three min_three max_four min_four
set_option linter.unusedVariables false
set_option linter.unusedSimpArgs false
def errW : Option Int → Value
  | none => .nilIface
  | some c => .iface 0 (.int .i64 c)
theorem errW_none : errW none = .nilIface := rfl
theorem errW_some (c : Int) : errW (some c) = .iface 0 (.int .i64 c) := rfl
end Go.Proofs.YtpcncpegbboljaaGreatDoor.E
namespace Go.Proofs.YtpcncpegbboljaaGreatDoor
open Go.RowKit Go.Lib Go.Proofs.YtpcncpegbboljaaGreatDoor.Pure Go.Proofs.YtpcncpegbboljaaGreatDoorW.PrintWords
set_option linter.unusedVariables false
def addr_Parse.f (s : ByteArray) : Option (List P.S32) := if s.size ≤ 1100000 then some ((Addr.parseP s.data.toList).map Addr.toBox) else none
theorem addr_Parse.calls (s : ByteArray) (r : List P.S32) (w : World) (hGl : Glob w) (h : addr_Parse.f s = some r) :
    Calls Tryz.prog 11 #[.string s] w fun e w' => ∃ v0_ : Value, e = .returned (v0_) ∧ Kd.R P.k32 32 w' w.heap.size (fun _ => True) v0_ r ∧ Below w.heap.size w w' := by
  obtain ⟨h1, rfl⟩ := of_guard h
  exact Addr.Parse_k s h1 w hGl
def smallB (l : List P.S32) : Prop := l.length ≤ 40 ∧ ∀ x ∈ l, x.f0.size ≤ 300 ∧ x.f1.size ≤ 300
instance (l : List P.S32) : Decidable (smallB l) := by unfold smallB; infer_instance
def addr_Write.f (l : List P.S32) : Option (ByteArray × Int) := if smallB l then some (⟨(Addr.writeL (l.map Addr.boxOf)).1.toArray⟩, (Addr.writeL (l.map Addr.boxOf)).2) else none
theorem addr_Write.calls (A0 : Option Addr) (c0 : Nat) (l0 : List P.S32) (r1 : ByteArray) (r2 : Int) (w : World) (hr0 : Kd.C P.k32 w A0 l0.length l0) (hc0 : l0.length ≤ c0) (hGl : Glob w) (h : addr_Write.f l0 = some (r1, r2)) :
    Calls Tryz.prog 16 #[.slice A0 l0.length c0] w fun e w' => e = .returned (.tuple #[.string r1, .int .i64 r2]) ∧ Below w.heap.size w w' := by
  obtain ⟨h1, h2⟩ := of_guard h
  injection h2 with h2 h3
  subst h2 h3
  exact Addr.Write_c A0 c0 l0 h1.1 h1.2 w hGl hr0 hc0
def addr_Good.f (s : ByteArray) : Option Bool := if s.size ≤ 11000000 then some (Addr.goodL s.data.toList) else none
theorem addr_Good.calls (s : ByteArray) (r : Bool) (w : World) (h : addr_Good.f s = some r) :
    Calls Tryz.prog 13 #[.string s] w fun e w' => e = .returned (.bool r) ∧ Below w.heap.size w w' := Addr.addr_Good.calls s r w h
end Go.Proofs.YtpcncpegbboljaaGreatDoor
namespace Go.Proofs.YtpcncpegbboljaaGreatDoor.P
open Go.RowKit Go.Proofs.YtpcncpegbboljaaGreatDoorW.PrintWords Go.Proofs.YtpcncpegbboljaaGreatDoorW.PrintLast Go.Proofs.YtpcncpegbboljaaGreatDoorW.PrintMore
attribute [local go_sem] max2_int min2_int max_two min_two max_three min_three max_four min_four
set_option linter.unusedVariables false
set_option linter.unusedSimpArgs false
theorem eqA32 (d : Nat) (w : World) (x0 y0 : ByteArray) (x1 y1 : ByteArray) :
    (Op.equalIn (d + 2) 32 (.agg #[.string x0, .string x1]) (.agg #[.string y0, .string y1])).run Tryz.prog w = .ok (x0.toList == y0.toList && (x1.toList == y1.toList)) w := by
  refine eqA_of Tryz.underlying32 (by kernel_rfl) ?_
  refine eqf_cons (by rfl) (by go_simp; rfl) (by go_simp; rfl) (by go_simp) ?_
  exact eqf_last (by rfl) (by go_simp; rfl) (by go_simp; rfl) (by go_simp)
end Go.Proofs.YtpcncpegbboljaaGreatDoor.P
