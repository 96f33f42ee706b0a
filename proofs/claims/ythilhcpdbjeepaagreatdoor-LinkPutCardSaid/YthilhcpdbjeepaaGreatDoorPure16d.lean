/- Links: what is clean stays. -/
import Derived.Test.YthilhcpdbjeepaaGreatDoorPure16c
import Derived.Test.YthilhcpdbjeepaaGreatDoorP5
namespace Go.Proofs.YthilhcpdbjeepaaGreatDoor.Pure
open Go.RowKit Go.Lib Go.Proofs.YthilhcpdbjeepaaGreatDoor Go.Proofs.YthilhcpdbjeepaaGreatDoor.P Go.Proofs.YthilhcpdbjeepaaGreatDoorW.PrintWords Go.Proofs.YthilhcpdbjeepaaGreatDoorW.PrintLast
set_option linter.unusedVariables false
set_option linter.unusedSimpArgs false
/-- Signs above the blank at both ends, and none that is left out. -/
structure Clean (c : List UInt8) : Prop where
  keep : ∀ x ∈ c, keepC x = true
  first : ∀ a r, c = a :: r → blk a = false
  last : ∀ r a, c = r ++ [a] → blk a = false
theorem blk_keep {c : UInt8} (h : blk c = false) : keepC c = true := by
  unfold blk at h
  have : ¬ c.toNat ≤ 32 := by simpa using h
  exact decide_eq_true (by omega)
theorem dropWhile_first (p : UInt8 → Bool) : ∀ (l : List UInt8) (a : UInt8) (r : List UInt8), l.dropWhile p = a :: r → p a = false := by
  intro l
  induction l with
  | nil => intro a r h; simp at h
  | cons x l ih =>
    intro a r h
    by_cases hx : p x = true
    · rw [List.dropWhile_cons_of_pos hx] at h; exact ih a r h
    · rw [List.dropWhile_cons_of_neg hx] at h
      injection h with h1 _
      rw [← h1]; simpa using hx
theorem rdrop_last (p : UInt8 → Bool) (l r : List UInt8) (a : UInt8) (h : rdrop p l = r ++ [a]) : p a = false := by
  unfold rdrop at h
  have : l.reverse.dropWhile p = a :: r.reverse := by
    have := congrArg List.reverse h
    simpa using this
  exact dropWhile_first p _ a _ this
theorem trim_first (l : List UInt8) (a : UInt8) (r : List UInt8) (h : trimL l = a :: r) : blk a = false := by
  unfold trimL at h
  rw [← drop_rdrop] at h
  exact dropWhile_first blk _ a r h
theorem trim_last (l r : List UInt8) (a : UInt8) (h : trimL l = r ++ [a]) : blk a = false := rdrop_last blk _ r a h
theorem clean_clean (l : List UInt8) : Clean (cleanL l) := by
  rw [clean_is]
  refine ⟨fun x hx => (List.mem_filter.1 hx).2, ?_, ?_⟩
  · intro a r h
    cases ht : trimL l with
    | nil => rw [ht] at h; simp at h
    | cons b q =>
      have hb := trim_first l b q ht
      rw [ht, List.filter_cons_of_pos (blk_keep hb)] at h
      injection h with h1 _
      rw [← h1]; exact hb
  · intro r a h
    rcases List.eq_nil_or_concat (trimL l) with ht | ⟨q, b, ht⟩
    · rw [ht] at h; simp at h
    · rw [List.concat_eq_append] at ht
      have hb := trim_last l q b ht
      rw [ht, List.filter_append, List.filter_cons_of_pos (blk_keep hb), List.filter_nil] at h
      have := List.append_inj_right' h rfl
      injection this with h1 _
      rw [← h1]; exact hb
theorem dropWhile_none (p : UInt8 → Bool) (l : List UInt8) (h : ∀ a r, l = a :: r → p a = false) : l.dropWhile p = l := by
  cases l with
  | nil => rfl
  | cons a r => rw [List.dropWhile_cons_of_neg (by rw [h a r rfl]; exact Bool.false_ne_true)]
theorem clean_same (c : List UInt8) (h : Clean c) : cleanL c = c := by
  rw [clean_is]
  unfold trimL
  rw [dropWhile_none blk c h.first]
  have hr : rdrop blk c = c := by
    unfold rdrop
    rw [dropWhile_none blk c.reverse (by
      intro a r e
      refine h.last r.reverse a ?_
      have := congrArg List.reverse e
      simpa using this), List.reverse_reverse]
  rw [hr]
  exact List.filter_eq_self.2 h.keep
theorem clean_loop (a : ByteArray) (ha : a.size ≤ 3000) (c : ByteArray) (hcl : c.data.toList = cleanL a.data.toList) : ∀ (n i : Nat), c.size - i ≤ n → i ≤ c.size → Ev (fun k => muslinlaw16_LinkClean.l0 k a c (i : Int)) true := by
  have hC : Clean c.data.toList := by rw [hcl]; exact clean_clean _
  have hcz : c.size ≤ 3000 := by
    have := clean_len a.data.toList
    rw [← hcl, sizeL, sizeL] at this
    omega
  have tail : Ev (fun k => muslinlaw16_LinkClean.j1 k a c false) true := by
    refine Ev.round (fun k => by rw [muslinlaw16_LinkClean.j1]) ?_
    refine Ev.neg Bool.false_ne_true ?_
    refine Ev.got (x := link_Clean.f c) (guard_of (by omega)) ?_
    refine Ev.pos (by rw [toList_eq, toList_eq, mk_toList, clean_same _ hC]) ?_
    refine Ev.bind (kind_ev c (by omega)) ?_
    refine Ev.bind (kind_ev a (by omega)) ?_
    refine Ev.pos (by rw [clean_same _ hC, hcl]) ?_
    exact live_end
  have fin : ∀ i : Nat, c.size ≤ i → Ev (fun k => muslinlaw16_LinkClean.l0 k a c (i : Int)) true := by
    intro i hi
    refine Ev.round (fun k => by rw [muslinlaw16_LinkClean.l0]) ?_
    refine Ev.neg (by omega) ?_
    by_cases h0 : c.data.toList = []
    · refine Ev.pos (by rw [toList_eq]; exact h0) ?_
      exact tail
    · refine Ev.neg (by rw [toList_eq]; exact h0) ?_
      have hpos := List.length_pos_iff.2 h0
      have hl := sizeL c
      have hb0 : bt c 0 = (c.data.toList[0].toNat : Int) := bt_get c 0 hpos
      have hf := hC.first c.data.toList[0] (c.data.toList.drop 1) (by rw [← List.drop_eq_getElem_cons hpos, List.drop_zero])
      have hlast : c.size - 1 < c.data.toList.length := by omega
      have hla := hC.last (c.data.toList.take (c.size - 1)) c.data.toList[c.size - 1] (by rw [List.take_append_getElem hlast, List.take_of_length_le (by omega)])
      refine Ev.pos (by omega) ?_
      rw [hb0]
      unfold blk at hf hla
      refine Ev.neg (by have : ¬ c.data.toList[0].toNat ≤ 32 := by simpa using hf
                        omega) ?_
      rw [w64 (x := (c.size : Int) - 1) (by omega) (by omega)]
      refine Ev.pos (by omega) ?_
      refine Ev.pos (by omega) ?_
      rw [show ((c.size : Int) - 1) = ((c.size - 1 : Nat) : Int) from by omega, bt_get c (c.size - 1) hlast]
      rw [decide_eq_false (by have : ¬ c.data.toList[c.size - 1].toNat ≤ 32 := by simpa using hla
                              omega)]
      exact tail
  intro n
  induction n with
  | zero => intro i h1 h2; exact fin i (by omega)
  | succ n ih =>
    intro i h1 h2
    cases hd : c.data.toList.drop i with
    | nil => exact fin i (at_end hd)
    | cons d r =>
      obtain ⟨hb, hz, hr⟩ := at_drop hd
      have hk : keepC d = true := hC.keep d (List.mem_of_mem_drop (i := i) (by rw [hd]; simp))
      have hk2 := of_decide_eq_true hk
      refine Ev.round (fun k => by rw [muslinlaw16_LinkClean.l0]) ?_
      refine Ev.pos (by omega) ?_
      refine Ev.pos (by omega) ?_
      rw [hb, w64 (by omega) (by omega)]
      refine Ev.neg (by omega) ?_
      refine Ev.neg (by omega) ?_
      refine Ev.neg (by omega) ?_
      rw [show ((i : Int) + 1) = ((i + 1 : Nat) : Int) from by omega]
      exact ih (i + 1) (by omega) (by omega)
theorem LinkClean : muslinlaw16_LinkClean.Pure := by
  intro a _
  refine Ev.rounds (r := true) (g := fun k => muslinlaw16_LinkClean.f k a) ?_
  unfold muslinlaw16_LinkClean.f
  by_cases h : a.size ≤ 3000
  · refine Ev.got (short_yes a h) ?_
    refine Ev.pos rfl ?_
    refine Ev.got (x := link_Clean.f a) (guard_of (by omega)) ?_
    exact clean_loop a h _ rfl _ 0 (Nat.le_refl _) (Nat.zero_le _)
  · refine Ev.got (short_no a h) ?_
    refine Ev.neg Bool.false_ne_true ?_
    exact live_end
end Go.Proofs.YthilhcpdbjeepaaGreatDoor.Pure
