/- Links: what the functions come to, on bytes. -/
import Derived.Test.YthilhcpdbjeepaaGreatDoorP4
import Derived.Test.YthilhcpdbjeepaaGreatDoorLinkB
import Derived.Test.YthilhcpdbjeepaaGreatDoorEv
namespace Go.Proofs.YthilhcpdbjeepaaGreatDoor.Pure
open Go.RowKit Go.Lib Go.Proofs.YthilhcpdbjeepaaGreatDoor Go.Proofs.YthilhcpdbjeepaaGreatDoor.P Go.Proofs.YthilhcpdbjeepaaGreatDoorW.PrintWords Go.Proofs.YthilhcpdbjeepaaGreatDoorW.PrintLast
set_option linter.unusedVariables false
set_option linter.unusedSimpArgs false
def rdrop (p : UInt8 → Bool) (l : List UInt8) : List UInt8 := (l.reverse.dropWhile p).reverse
theorem rdrop_cons (p : UInt8 → Bool) (x : UInt8) (xs : List UInt8) : rdrop p (x :: xs) = if rdrop p xs = [] then (if p x then [] else [x]) else x :: rdrop p xs := by
  unfold rdrop
  rw [List.reverse_cons, List.dropWhile_append]
  by_cases h : xs.reverse.dropWhile p = []
  · simp only [h, List.isEmpty_nil, if_true, List.reverse_nil]
    by_cases hx : p x = true
    · simp [hx]
    · simp [hx]
  · have h2 : (xs.reverse.dropWhile p).isEmpty = false := by
      cases hh : xs.reverse.dropWhile p with
      | nil => exact absurd hh h
      | cons a b => rfl
    simp [h2, h]
theorem drop_rdrop (p : UInt8 → Bool) : ∀ l : List UInt8, (rdrop p l).dropWhile p = rdrop p (l.dropWhile p) := by
  intro l
  induction l with
  | nil => rfl
  | cons x xs ih =>
    rw [rdrop_cons]
    by_cases hx : p x = true
    · rw [List.dropWhile_cons_of_pos hx, ← ih]
      by_cases h : rdrop p xs = []
      · rw [if_pos h, if_pos hx, h]
      · rw [if_neg h, List.dropWhile_cons_of_pos hx]
    · rw [List.dropWhile_cons_of_neg hx, rdrop_cons]
      by_cases h : rdrop p xs = []
      · rw [if_pos h, if_neg hx, List.dropWhile_cons_of_neg hx]
      · rw [if_neg h, List.dropWhile_cons_of_neg hx]
theorem rdrop_snoc (p : UInt8 → Bool) (l : List UInt8) (x : UInt8) : rdrop p (l ++ [x]) = if p x = true then rdrop p l else l ++ [x] := by
  unfold rdrop
  rw [List.reverse_append, List.reverse_singleton, List.singleton_append]
  by_cases h : p x = true
  · rw [if_pos h, List.dropWhile_cons_of_pos h]
  · rw [if_neg h, List.dropWhile_cons_of_neg h]; simp
theorem at_drop {s : ByteArray} {i : Nat} {c : UInt8} {r : List UInt8} (h : s.data.toList.drop i = c :: r) : bt s (i : Int) = (c.toNat : Int) ∧ i + r.length + 1 = s.size ∧ s.data.toList.drop (i + 1) = r := by
  have hi : i < s.data.toList.length := by
    rcases Nat.lt_or_ge i s.data.toList.length with h1 | h1
    · exact h1
    · rw [List.drop_eq_nil_of_le h1] at h; cases h
  have h2 := List.drop_eq_getElem_cons hi
  rw [h] at h2
  injection h2 with h3 h4
  refine ⟨by rw [bt_get s i hi, ← h3], ?_, h4.symm⟩
  have : (s.data.toList.drop i).length = (c :: r).length := by rw [h]
  rw [List.length_drop, sizeL] at this
  rw [sizeL] at hi
  simp only [List.length_cons] at this
  omega
theorem at_end {s : ByteArray} {i : Nat} (h : s.data.toList.drop i = []) : s.size ≤ i := by
  have := List.drop_eq_nil_iff.1 h
  rw [sizeL] at this
  exact this
/-- A byte that is left out at the ends. -/
def blk (c : UInt8) : Bool := decide (c.toNat ≤ 32)
theorem blk_all : ∀ c : Fin 256, blanksL.contains (UInt8.ofNat c.val) = decide (c.val ≤ 32) := by decide +kernel
theorem blk_is : (blanksL.contains ·) = blk := by
  funext c
  have := blk_all ⟨c.toNat, UInt8.toNat_lt c⟩
  simpa [blk] using this
def trimL (l : List UInt8) : List UInt8 := rdrop blk (l.dropWhile blk)
theorem trimS_is (l : List UInt8) : Lib.trimS l blanksL = trimL l := by
  unfold Lib.trimS Lib.trimLeftS Lib.trimRightS trimL
  rw [blk_is, ← drop_rdrop]; rfl
def keepC (c : UInt8) : Bool := decide (c.toNat ≠ 9 ∧ c.toNat ≠ 10 ∧ c.toNat ≠ 13)
theorem repB_all : ∀ c : Fin 256, Repl.repB cleanPs (UInt8.ofNat c.val) = if keepC (UInt8.ofNat c.val) = true then [UInt8.ofNat c.val] else [] := by decide +kernel
theorem repB_is (c : UInt8) : Repl.repB cleanPs c = if keepC c = true then [c] else [] := by
  have := repB_all ⟨c.toNat, UInt8.toNat_lt c⟩
  simpa using this
theorem repl_is (l : List UInt8) : Repl.replL cleanPs l = l.filter keepC := by
  induction l with
  | nil => rfl
  | cons c r ih =>
    rw [show Repl.replL cleanPs (c :: r) = Repl.repB cleanPs c ++ Repl.replL cleanPs r from rfl, repB_is, ih, List.filter_cons]
    by_cases h : keepC c = true
    · rw [if_pos h, if_pos h]; rfl
    · rw [if_neg h, if_neg h]; rfl
theorem clean_is (l : List UInt8) : cleanL l = (trimL l).filter keepC := by unfold cleanL; rw [repl_is, trimS_is]
/-! the document's Clean -/
theorem ref_filter (s : ByteArray) (hs : s.size ≤ 100000000) : ∀ (n i : Nat) (acc : List UInt8), s.size - i ≤ n → i ≤ s.size → acc.length ≤ i →
    Ev (fun k => muslinref16_Clean.l2 k s (intsOf acc) (i : Int)) (⟨(acc ++ (s.data.toList.drop i).filter keepC).toArray⟩ : ByteArray) := by
  have fin : ∀ i (acc : List UInt8), s.size ≤ i → Ev (fun k => muslinref16_Clean.l2 k s (intsOf acc) (i : Int)) (⟨(acc ++ (s.data.toList.drop i).filter keepC).toArray⟩ : ByteArray) := by
    intro i acc hi
    refine Ev.round (fun k => by rw [muslinref16_Clean.l2]) ?_
    refine Ev.neg (by omega) ?_
    rw [List.drop_eq_nil_of_le (by rw [sizeL]; exact hi), strOf_ints]
    simp only [List.filter_nil, List.append_nil]
    exact Ev.now _
  intro n
  induction n with
  | zero => intro i acc h1 h2 h3; exact fin i acc (by omega)
  | succ n ih =>
    intro i acc h1 h2 h3
    cases hd : s.data.toList.drop i with
    | nil => rw [← hd]; exact fin i acc (at_end hd)
    | cons c r =>
      obtain ⟨hb, hz, hr⟩ := at_drop hd
      have e1 : ((i : Int) + 1) = ((i + 1 : Nat) : Int) := by omega
      refine Ev.round (fun k => by rw [muslinref16_Clean.l2]) ?_
      refine Ev.pos (by omega) ?_
      refine Ev.pos (by omega) ?_
      rw [hb, w64 (by omega) (by omega), e1]
      have skip : keepC c = false → Ev (fun k => muslinref16_Clean.l2 k s (intsOf acc) ((i + 1 : Nat) : Int)) (⟨(acc ++ (c :: r).filter keepC).toArray⟩ : ByteArray) := by
        intro hk
        rw [List.filter_cons_of_neg (by simp [hk]), ← hr]
        exact ih (i + 1) acc (by omega) (by omega) (by omega)
      by_cases c1 : (c.toNat : Int) = 9
      · exact Ev.pos c1 (skip (decide_eq_false (by omega)))
      refine Ev.neg c1 ?_
      by_cases c2 : (c.toNat : Int) = 10
      · exact Ev.pos c2 (skip (decide_eq_false (by omega)))
      refine Ev.neg c2 ?_
      by_cases c3 : (c.toNat : Int) = 13
      · exact Ev.pos c3 (skip (decide_eq_false (by omega)))
      refine Ev.neg c3 ?_
      refine Ev.pos (by rw [intsOf_length]; omega) ?_
      have hk : keepC c = true := decide_eq_true (by omega)
      rw [List.filter_cons_of_pos hk]
      have h5 := ih (i + 1) (acc ++ [c]) (by omega) (by omega) (by simp; omega)
      rw [hr, intsOf_append, List.append_assoc] at h5
      exact h5
theorem ref_right : ∀ (n : Nat) (s : ByteArray), s.size ≤ n → s.size ≤ 100000000 → Ev (fun k => muslinref16_Clean.l1 k s) (⟨((rdrop blk s.data.toList).filter keepC).toArray⟩ : ByteArray) := by
  have fin : ∀ s : ByteArray, s.size ≤ 100000000 → Ev (fun k => muslinref16_Clean.j3 k s) (⟨(s.data.toList.filter keepC).toArray⟩ : ByteArray) := by
    intro s hs
    refine Ev.round (fun k => by rw [muslinref16_Clean.j3]) ?_
    have := ref_filter s hs s.size 0 [] (by omega) (by omega) (by simp)
    simpa [intsOf] using this
  intro n
  induction n with
  | zero =>
    intro s h h2
    refine Ev.round (fun k => by rw [muslinref16_Clean.l1]) ?_
    refine Ev.neg (by omega) ?_
    have e : s.data.toList = [] := List.eq_nil_of_length_eq_zero (by rw [sizeL]; omega)
    have := fin s h2
    rw [e] at this ⊢
    exact this
  | succ n ih =>
    intro s h h2
    refine Ev.round (fun k => by rw [muslinref16_Clean.l1]) ?_
    by_cases h0 : s.size = 0
    · refine Ev.neg (by omega) ?_
      have e : s.data.toList = [] := List.eq_nil_of_length_eq_zero (by rw [sizeL]; omega)
      have := fin s h2
      rw [e] at this ⊢
      exact this
    · have hl := sizeL s
      have hlast : s.size - 1 < s.data.toList.length := by omega
      rw [w64 (x := (s.size : Int) - 1) (by omega) (by omega)]
      refine Ev.pos (by omega) ?_
      refine Ev.pos (by omega) ?_
      refine Ev.pos (by omega) ?_
      have e1 : ((s.size : Int) - 1) = ((s.size - 1 : Nat) : Int) := by omega
      rw [e1, bt_get s (s.size - 1) hlast]
      have hsplit : s.data.toList = s.data.toList.take (s.size - 1) ++ [s.data.toList[s.size - 1]] := by
        rw [List.take_append_getElem hlast, List.take_of_length_le (by omega)]
      have hrd := rdrop_snoc blk (s.data.toList.take (s.size - 1)) s.data.toList[s.size - 1]
      rw [← hsplit] at hrd
      by_cases hc : (s.data.toList[s.size - 1].toNat : Int) ≤ 32
      · refine Ev.pos hc ?_
        refine Ev.pos (by omega) ?_
        have hbt : blk s.data.toList[s.size - 1] = true := decide_eq_true (by omega)
        rw [if_pos hbt] at hrd
        have hx : (s.extract 0 (((s.size - 1 : Nat) : Int)).toNat).data.toList = s.data.toList.take (s.size - 1) := by
          rw [extract_list, Int.toNat_natCast, List.drop_zero]
        have := ih (s.extract 0 (((s.size - 1 : Nat) : Int)).toNat) (by rw [← sizeL, hx, List.length_take]; omega) (by rw [← sizeL, hx, List.length_take]; omega)
        rw [hx, ← hrd] at this
        exact this
      · refine Ev.neg hc ?_
        rw [if_neg (by simp only [blk, decide_eq_true_eq]; omega)] at hrd
        rw [hrd]
        exact fin s h2
theorem ref_left : ∀ (n : Nat) (s : ByteArray), s.size ≤ n → s.size ≤ 100000000 → Ev (fun k => muslinref16_Clean.l0 k s) (⟨((trimL s.data.toList).filter keepC).toArray⟩ : ByteArray) := by
  have fin : ∀ s : ByteArray, s.size ≤ 100000000 → Ev (fun k => muslinref16_Clean.j1 k s) (⟨((rdrop blk s.data.toList).filter keepC).toArray⟩ : ByteArray) := by
    intro s hs
    refine Ev.round (fun k => by rw [muslinref16_Clean.j1]) ?_
    exact ref_right s.size s (Nat.le_refl _) hs
  intro n
  induction n with
  | zero =>
    intro s h h2
    refine Ev.round (fun k => by rw [muslinref16_Clean.l0]) ?_
    refine Ev.neg (by omega) ?_
    have e : s.data.toList = [] := List.eq_nil_of_length_eq_zero (by rw [sizeL]; omega)
    have := fin s h2
    rw [e] at this ⊢
    exact this
  | succ n ih =>
    intro s h h2
    refine Ev.round (fun k => by rw [muslinref16_Clean.l0]) ?_
    by_cases h0 : s.size = 0
    · refine Ev.neg (by omega) ?_
      have e : s.data.toList = [] := List.eq_nil_of_length_eq_zero (by rw [sizeL]; omega)
      have := fin s h2
      rw [e] at this ⊢
      exact this
    · have hl := sizeL s
      have hfirst : 0 < s.data.toList.length := by omega
      refine Ev.pos (by omega) ?_
      refine Ev.pos (by omega) ?_
      rw [show bt s 0 = _ from bt_get s 0 hfirst]
      have hsplit : s.data.toList = s.data.toList[0] :: s.data.toList.drop 1 := by
        rw [← List.drop_eq_getElem_cons hfirst, List.drop_zero]
      by_cases hc : (s.data.toList[0].toNat : Int) ≤ 32
      · refine Ev.pos hc ?_
        refine Ev.pos (by omega) ?_
        have hx : (s.extract 1 s.size).data.toList = s.data.toList.drop 1 := by
          rw [extract_list, List.take_of_length_le (by omega)]
        have hr : s.data.toList.dropWhile blk = (s.data.toList.drop 1).dropWhile blk := by
          conv => lhs; rw [hsplit]
          have hbt : blk s.data.toList[0] = true := decide_eq_true (by omega)
          rw [List.dropWhile_cons_of_pos hbt]
        have := ih (s.extract 1 s.size) (by rw [← sizeL, hx, List.length_drop]; omega) (by rw [← sizeL, hx, List.length_drop]; omega)
        unfold trimL at this ⊢
        rw [hx, ← hr] at this
        exact this
      · refine Ev.neg hc ?_
        have hr : s.data.toList.dropWhile blk = s.data.toList := by
          conv => lhs; rw [hsplit]
          rw [List.dropWhile_cons_of_neg (by simp only [blk, decide_eq_true_eq]; omega), ← hsplit]
        unfold trimL
        rw [hr]
        exact fin s h2
theorem refClean_is (s : ByteArray) (hs : s.size ≤ 100000000) : Ev (fun k => muslinref16_Clean.f k s) (⟨(cleanL s.data.toList).toArray⟩ : ByteArray) := by
  rw [clean_is]
  unfold muslinref16_Clean.f
  exact ref_left s.size s (Nat.le_refl _) hs
/-! the scheme -/
def noCol (l : List UInt8) : Prop := ∀ x ∈ l, x ≠ 58
theorem tw_mem (p : UInt8 → Bool) : ∀ (l : List UInt8) (x : UInt8), x ∈ l.takeWhile p → p x = true
  | [], x, h => by simp at h
  | a :: l, x, h => by
    by_cases ha : p a = true
    · rw [List.takeWhile_cons_of_pos ha] at h
      rcases List.mem_cons.1 h with rfl | h
      · exact ha
      · exact tw_mem p l x h
    · rw [List.takeWhile_cons_of_neg ha] at h
      simp at h
theorem cut_at (pre r : List UInt8) (h : noCol pre) : cutL 58 (pre ++ 58 :: r) = (pre, r, true) := by
  unfold cutL
  have h1 : ∀ pre, noCol pre → (pre ++ 58 :: r).takeWhile (· != 58) = pre ∧ (pre ++ 58 :: r).dropWhile (· != 58) = 58 :: r := by
    intro pre
    induction pre with
    | nil => intro _; simp
    | cons a b ih =>
      intro h
      have ha := h a (by simp)
      obtain ⟨i1, i2⟩ := ih (fun x hx => h x (by simp [hx]))
      simp [ha, i1, i2]
  rw [if_pos (by simp), (h1 pre h).1, (h1 pre h).2]
  rfl
theorem cut_none (l : List UInt8) (h : noCol l) : cutL 58 l = (l, [], false) := by
  unfold cutL
  rw [if_neg (fun hm => h 58 hm rfl)]
theorem name_none (nm : List UInt8) : nameL nm false = ([], false) := by cases nm <;> rfl
theorem name_bad (nm : List UInt8) (has : Bool) (h : nm.all goodC = false) : nameL nm has = ([], false) := by
  cases has with
  | false => exact name_none nm
  | true =>
    cases nm with
    | nil => rfl
    | cons c r =>
      simp only [nameL]
      split
      · rw [if_neg (by rw [h]; exact Bool.false_ne_true)]
      · rfl
theorem name_first (c : UInt8) (r : List UInt8) (has : Bool) (h : isLb c = false) : nameL (c :: r) has = ([], false) := by
  cases has with
  | false => rfl
  | true => simp [nameL, h]
/-- Whatever stands behind: a bad sign spoils the name. -/
theorem cut_bad (pre : List UInt8) (d : UInt8) (r : List UInt8) (hp : noCol pre) (hd : d ≠ 58) (hg : goodC d = false) : nameL (cutL 58 (pre ++ d :: r)).1 (cutL 58 (pre ++ d :: r)).2.2 = ([], false) := by
  by_cases hm : 58 ∈ r
  · have e : r.takeWhile (· != 58) ++ r.dropWhile (· != 58) = r := List.takeWhile_append_dropWhile
    have hn : noCol (r.takeWhile (· != 58)) := fun x hx => by
      have := tw_mem _ r x hx
      simpa using this
    obtain ⟨b, hb⟩ : ∃ b, r.dropWhile (· != 58) = 58 :: b := by
      cases hd2 : r.dropWhile (· != 58) with
      | nil =>
        rw [hd2, List.append_nil] at e
        exact absurd (by rw [e]; exact hm) (fun h : 58 ∈ r.takeWhile (· != 58) => hn 58 h rfl)
      | cons x b =>
        have hx := List.head_dropWhile_not (· != 58) (l := r) (by rw [hd2]; simp)
        simp only [hd2, List.head_cons] at hx
        have : x = 58 := by simpa using hx
        exact ⟨b, by rw [this]⟩
    rw [hb] at e
    rw [← e, show pre ++ d :: (r.takeWhile (· != 58) ++ 58 :: b) = (pre ++ d :: r.takeWhile (· != 58)) ++ 58 :: b from by simp]
    rw [cut_at _ b (by
      intro x hx
      rcases List.mem_append.1 hx with h | h
      · exact hp x h
      · rcases List.mem_cons.1 h with rfl | h
        · exact hd
        · exact hn x h)]
    exact name_bad _ _ (by simp [hg])
  · rw [cut_none (pre ++ d :: r) (by
      intro x hx
      rcases List.mem_append.1 hx with h | h
      · exact hp x h
      · rcases List.mem_cons.1 h with rfl | h
        · exact hd
        · rintro rfl; exact hm h)]
    exact name_none _
end Go.Proofs.YthilhcpdbjeepaaGreatDoor.Pure
