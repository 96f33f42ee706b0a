/- Parts of the proof of the law AddrWrites, in one text: AddrB, AddrC, AddrD, AddrE, AddrF, AddrG, B64, B64b, B64a, B64c, B64d, B64e, B64p, WordQ, C0, C1, C3, PureChars, PureKnown, PureDec, WordL, WordQ2. -/
import Derived.Test.YtpcncpegbboljaaGreatDoorMgAddrWrites0
import Derived.Deep.RegionLawGrows
import Derived.Lib.SmallJoins
import Derived.BigRegion
import Derived.Deep.RegionWith
import Derived.Deep.Heap
import Derived.Lib.BufferKept
import Derived.Lib.IndexMore
set_option linter.unusedVariables false
set_option linter.unusedSimpArgs false
namespace Go.Proofs.YtpcncpegbboljaaGreatDoor.Addr
open Go.RowKit Go.Lib Go.Proofs.YtpcncpegbboljaaGreatDoor Go.Proofs.YtpcncpegbboljaaGreatDoor.Pure Go.Proofs.YtpcncpegbboljaaGreatDoor.A Go.Proofs.YtpcncpegbboljaaGreatDoorW.PrintWords
set_option linter.unusedVariables false
set_option linter.unusedSimpArgs false
theorem at_end {s : ByteArray} {i : Nat} (h : s.data.toList.drop i = []) : s.size ≤ i := by
  have := congrArg List.length h
  rw [List.length_drop, sizeL, List.length_nil] at this; omega
theorem at_drop {s : ByteArray} {i : Nat} {c : UInt8} {r : List UInt8} (h : s.data.toList.drop i = c :: r) : bt s (i : Int) = (c.toNat : Int) ∧ i < s.size ∧ s.data.toList.drop (i + 1) = r := by
  have hz : i < s.size := by
    rcases Nat.lt_or_ge i s.size with h1 | h1
    · exact h1
    · rw [List.drop_eq_nil_of_le (by rw [sizeL]; exact h1)] at h; cases h
  have hl : i < s.data.toList.length := by rw [sizeL]; exact hz
  have e := List.drop_eq_getElem_cons hl
  rw [h] at e
  injection e with e1 e2
  exact ⟨by rw [bt_get s i hl, ← e1], hz, e2.symm⟩
def qGo : List UInt8 → Nat × Bool
  | [] => (0, false)
  | [c] => if c = 34 then (1, true) else (1, false)
  | c :: d :: r => if c = 92 then ((qGo r).1 + 2, (qGo r).2) else if c = 34 then (1, true) else ((qGo (d :: r)).1 + 1, (qGo (d :: r)).2)
def pGo : Nat → List UInt8 → Nat × Bool
  | _, [] => (0, false)
  | deep, [c] => if c = 41 ∧ deep = 1 then (1, true) else (1, false)
  | deep, c :: d :: r => if c = 92 then ((pGo deep r).1 + 2, (pGo deep r).2) else if c = 40 then ((pGo (deep + 1) (d :: r)).1 + 1, (pGo (deep + 1) (d :: r)).2)
      else if c = 41 then (if deep = 1 then (1, true) else ((pGo (deep - 1) (d :: r)).1 + 1, (pGo (deep - 1) (d :: r)).2)) else ((pGo deep (d :: r)).1 + 1, (pGo deep (d :: r)).2)
def stretchL : List UInt8 → Nat × Bool
  | [] => (0, false)
  | c :: r => if c = 34 then ((qGo r).1 + 1, (qGo r).2) else ((pGo 1 r).1 + 1, (pGo 1 r).2)
theorem u8n {c : UInt8} {n : Nat} (hn : n < 256) (h : c ≠ UInt8.ofNat n) : ¬ (c.toNat : Int) = (n : Int) := by
  intro e
  apply h
  apply UInt8.toNat_inj.1
  rw [UInt8.toNat_ofNat']; omega
theorem q_loop (s : ByteArray) (hs : s.size ≤ 100000000) (h0 : bt s 0 = 34) : ∀ (n i : Nat) (deep : Int), s.size - i ≤ n → 1 ≤ i → i ≤ s.size →
    Ev (fun k => addr_stretch.l0 k s deep (i : Int)) ((i : Int) + ((qGo (s.data.toList.drop i)).1 : Int), (qGo (s.data.toList.drop i)).2) := by
  have fin : ∀ (i : Nat) (deep : Int), s.size ≤ i → Ev (fun k => addr_stretch.l0 k s deep (i : Int)) ((s.size : Int), false) := by
    intro i deep hi
    refine Ev.round (fun k => by rw [addr_stretch.l0]) ?_
    refine Ev.neg (by omega) ?_
    exact Ev.now _
  intro n
  induction n with
  | zero =>
    intro i deep h1 h2 h3
    have hd : s.data.toList.drop i = [] := List.drop_eq_nil_of_le (by rw [sizeL]; omega)
    rw [hd]
    have e : ((i : Int) + (((qGo []).1 : Nat) : Int), (qGo []).2) = ((s.size : Int), false) := by
      show ((i : Int) + ((0 : Nat) : Int), false) = _
      rw [show (i : Int) + ((0 : Nat) : Int) = (s.size : Int) by omega]
    rw [e]
    exact fin i deep (by omega)
  | succ n ih =>
    intro i deep h1 h2 h3
    cases hd : s.data.toList.drop i with
    | nil =>
      have := at_end hd
      have e : ((i : Int) + (((qGo []).1 : Nat) : Int), (qGo []).2) = ((s.size : Int), false) := by
        show ((i : Int) + ((0 : Nat) : Int), false) = _
        rw [show (i : Int) + ((0 : Nat) : Int) = (s.size : Int) by omega]
      rw [e]
      exact fin i deep this
    | cons c r =>
      obtain ⟨hb, hlt, hr⟩ := at_drop hd
      have hrl : r.length = s.size - (i + 1) := by rw [← hr, List.length_drop, sizeL]
      have hw : wrap64 ((i : Int) + 1) = ((i + 1 : Nat) : Int) ∧ wrap64 (((i + 1 : Nat) : Int) + 1) = ((i + 2 : Nat) : Int) := ⟨(w64 (by omega) (by omega)).trans (by omega), (w64 (by omega) (by omega)).trans (by omega)⟩
      have HW := Lib.hid hw
      clear hw
      have step : c ≠ 92 → Ev (fun k => addr_stretch.j1 k s deep (i : Int) (c.toNat : Int) (decide (c = 34))) ((i : Int) + ((qGo (c :: r)).1 : Int), (qGo (c :: r)).2) → Ev (fun k => addr_stretch.l0 k s deep (i : Int)) ((i : Int) + ((qGo (c :: r)).1 : Int), (qGo (c :: r)).2) := by
        intro h92 h
        refine Ev.round (fun k => by rw [addr_stretch.l0]) ?_
        refine Ev.pos (by omega) ?_
        refine Ev.pos (by omega) ?_
        rw [hb, h0]
        refine Ev.neg (u8n (n := 92) (by decide) h92) ?_
        refine Ev.pos (by omega) ?_
        refine Ev.pos rfl ?_
        by_cases h34 : c = 34
        · rw [decide_eq_true h34] at h
          refine Ev.pos (by rw [h34]; rfl) ?_
          rw [show decide ((i : Int) > 0) = true from decide_eq_true (by omega)]
          exact h
        · rw [decide_eq_false h34] at h
          refine Ev.neg (u8n (n := 34) (by decide) h34) ?_
          exact h
      have next : ∀ {R : Int × Bool}, Ev (fun k => addr_stretch.l0 k s deep ((i + 1 : Nat) : Int)) R → Ev (fun k => addr_stretch.j1 k s deep (i : Int) (c.toNat : Int) false) R := by
        intro R h
        refine Ev.round (fun k => by rw [addr_stretch.j1]) ?_
        refine Ev.neg Bool.false_ne_true ?_
        refine Ev.pos (by omega) ?_
        rw [h0]
        refine Ev.neg (by decide) ?_
        refine Ev.round (fun k => by rw [addr_stretch.j2]) ?_
        refine Ev.neg Bool.false_ne_true ?_
        refine Ev.pos (by omega) ?_
        rw [h0]
        refine Ev.neg (by decide) ?_
        refine Ev.round (fun k => by rw [addr_stretch.j3]) ?_
        refine Ev.neg Bool.false_ne_true ?_
        rw [HW.out.1]
        exact h
      have yes : Ev (fun k => addr_stretch.j1 k s deep (i : Int) (c.toNat : Int) true) (((i + 1 : Nat) : Int), true) := by
        refine Ev.round (fun k => by rw [addr_stretch.j1]) ?_
        refine Ev.pos rfl ?_
        rw [HW.out.1]
        exact Ev.now _
      by_cases h92 : c = 92
      · subst h92
        refine Ev.round (fun k => by rw [addr_stretch.l0]) ?_
        refine Ev.pos (by omega) ?_
        refine Ev.pos (by omega) ?_
        rw [hb]
        refine Ev.pos rfl ?_
        rw [HW.out.1, HW.out.2]
        match r, hr, hrl with
        | [], hr, hrl =>
          simp only [List.length_nil] at hrl
          have e : ((i : Int) + (((qGo [92]).1 : Nat) : Int), (qGo [92]).2) = ((s.size : Int), false) := by
            show ((i : Int) + ((1 : Nat) : Int), false) = _
            rw [show (i : Int) + ((1 : Nat) : Int) = (s.size : Int) by omega]
          rw [e]
          exact fin (i + 2) deep (by omega)
        | d :: r2, hr, hrl =>
          simp only [List.length_cons] at hrl
          obtain ⟨_, _, hr2⟩ := at_drop hr
          have h := ih (i + 2) deep (by omega) (by omega) (by omega)
          rw [show s.data.toList.drop (i + 2) = r2 from hr2] at h
          have e : qGo (92 :: d :: r2) = ((qGo r2).1 + 2, (qGo r2).2) := by simp [qGo]
          rw [e, show ((i : Int) + (((qGo r2).1 + 2 : Nat) : Int)) = ((i + 2 : Nat) : Int) + ((qGo r2).1 : Int) by omega]
          exact h
      · refine step h92 ?_
        by_cases h34 : c = 34
        · rw [decide_eq_true h34]
          have e : qGo (c :: r) = (1, true) := by
            match r with
            | [] => simp [qGo, h34]
            | d :: r2 => simp only [qGo]; rw [if_neg h92, if_pos h34]
          rw [e, show ((i : Int) + ((1 : Nat) : Int)) = ((i + 1 : Nat) : Int) by omega]
          exact yes
        · rw [decide_eq_false h34]
          refine next ?_
          have h := ih (i + 1) deep (by omega) (by omega) (by omega)
          rw [hr] at h
          have e : qGo (c :: r) = ((qGo r).1 + 1, (qGo r).2) := by
            match r with
            | [] => simp [qGo, h34]
            | d :: r2 => simp only [qGo]; rw [if_neg h92, if_neg h34]
          rw [e, show ((i : Int) + (((qGo r).1 + 1 : Nat) : Int)) = ((i + 1 : Nat) : Int) + ((qGo r).1 : Int) by omega]
          exact h
theorem p_loop (s : ByteArray) (hs : s.size ≤ 100000000) (h0 : bt s 0 = 40) : ∀ (n i deep : Nat), s.size - i ≤ n → i ≤ s.size → 1 ≤ deep → deep ≤ i →
    Ev (fun k => addr_stretch.l0 k s (deep : Int) (i : Int)) ((i : Int) + ((pGo deep (s.data.toList.drop i)).1 : Int), (pGo deep (s.data.toList.drop i)).2) := by
  have fin : ∀ (i : Nat) (deep : Int), s.size ≤ i → Ev (fun k => addr_stretch.l0 k s deep (i : Int)) ((s.size : Int), false) := by
    intro i deep hi
    refine Ev.round (fun k => by rw [addr_stretch.l0]) ?_
    refine Ev.neg (by omega) ?_
    exact Ev.now _
  have nil : ∀ (i deep : Nat), s.size ≤ i → i ≤ s.size → Ev (fun k => addr_stretch.l0 k s (deep : Int) (i : Int)) ((i : Int) + ((pGo deep []).1 : Int), (pGo deep []).2) := by
    intro i deep h1 h2
    have e : ((i : Int) + ((pGo deep []).1 : Int), (pGo deep []).2) = ((s.size : Int), false) := by
      simp only [pGo]
      rw [show (i : Int) + ((0 : Nat) : Int) = (s.size : Int) by omega]
    rw [e]
    exact fin i _ h1
  intro n
  induction n with
  | zero =>
    intro i deep h1 h2 h3 h4
    rw [List.drop_eq_nil_of_le (by rw [sizeL]; omega)]
    exact nil i deep (by omega) h2
  | succ n ih =>
    intro i deep h1 h2 h3 h4
    cases hd : s.data.toList.drop i with
    | nil => exact nil i deep (at_end hd) h2
    | cons c r =>
      obtain ⟨hb, hlt, hr⟩ := at_drop hd
      have hrl : r.length = s.size - (i + 1) := by rw [← hr, List.length_drop, sizeL]
      have hw : wrap64 ((i : Int) + 1) = ((i + 1 : Nat) : Int) ∧ wrap64 (((i + 1 : Nat) : Int) + 1) = ((i + 2 : Nat) : Int) ∧ wrap64 ((deep : Int) + 1) = ((deep + 1 : Nat) : Int) ∧ wrap64 ((deep : Int) - 1) = ((deep - 1 : Nat) : Int) :=
        ⟨(w64 (by omega) (by omega)).trans (by omega), (w64 (by omega) (by omega)).trans (by omega), (w64 (by omega) (by omega)).trans (by omega), (w64 (by omega) (by omega)).trans (by omega)⟩
      have HW := Lib.hid hw
      clear hw
      have one : ∀ (x : Nat × Bool) (j : Nat) (m : Nat), j = i + m → ((i : Int) + ((x.1 + m : Nat) : Int), x.2) = ((j : Int) + (x.1 : Int), x.2) := by
        intro x j m hj
        rw [show (i : Int) + ((x.1 + m : Nat) : Int) = (j : Int) + (x.1 : Int) by omega]
      by_cases h92 : c = 92
      · subst h92
        refine Ev.round (fun k => by rw [addr_stretch.l0]) ?_
        refine Ev.pos (by omega) ?_
        refine Ev.pos (by omega) ?_
        rw [hb]
        refine Ev.pos rfl ?_
        rw [HW.out.1, HW.out.2.1]
        match r, hr, hrl with
        | [], hr, hrl =>
          simp only [List.length_nil] at hrl
          have e : ((i : Int) + ((pGo deep [92]).1 : Int), (pGo deep [92]).2) = ((s.size : Int), false) := by
            simp only [pGo]
            rw [if_neg (by intro h; exact absurd h.1 (by decide))]
            rw [show (i : Int) + ((1 : Nat) : Int) = (s.size : Int) by omega]
          rw [e]
          exact fin (i + 2) _ (by omega)
        | d :: r2, hr, hrl =>
          simp only [List.length_cons] at hrl
          obtain ⟨_, _, hr2⟩ := at_drop hr
          have h := ih (i + 2) deep (by omega) (by omega) (by omega) (by omega)
          rw [show s.data.toList.drop (i + 2) = r2 from hr2] at h
          have e : pGo deep (92 :: d :: r2) = ((pGo deep r2).1 + 2, (pGo deep r2).2) := by simp [pGo]
          rw [e, one (pGo deep r2) (i + 2) 2 rfl]
          exact h
      · refine Ev.round (fun k => by rw [addr_stretch.l0]) ?_
        refine Ev.pos (by omega) ?_
        refine Ev.pos (by omega) ?_
        rw [hb, h0]
        refine Ev.neg (u8n (n := 92) (by decide) h92) ?_
        refine Ev.pos (by omega) ?_
        refine Ev.neg (by decide) ?_
        refine Ev.round (fun k => by rw [addr_stretch.j1]) ?_
        refine Ev.neg Bool.false_ne_true ?_
        refine Ev.pos (by omega) ?_
        rw [h0]
        refine Ev.pos rfl ?_
        by_cases h40 : c = 40
        · subst h40
          rw [show (((40 : UInt8).toNat : Int) == 40) = true from rfl]
          refine Ev.round (fun k => by rw [addr_stretch.j2]) ?_
          refine Ev.pos rfl ?_
          rw [HW.out.1, HW.out.2.2.1]
          have h := ih (i + 1) (deep + 1) (by omega) (by omega) (by omega) (by omega)
          rw [hr] at h
          match r, hr, hrl, h with
          | [], hr, hrl, h =>
            simp only [List.length_nil] at hrl
            have e : ((i : Int) + ((pGo deep [40]).1 : Int), (pGo deep [40]).2) = (((i + 1 : Nat) : Int) + ((pGo (deep + 1) []).1 : Int), (pGo (deep + 1) []).2) := by
              simp only [pGo]
              rw [if_neg (by intro h; exact absurd h.1 (by decide))]
              rw [show (i : Int) + ((1 : Nat) : Int) = ((i + 1 : Nat) : Int) + ((0 : Nat) : Int) by omega]
            rw [e]; exact h
          | d :: r2, hr, hrl, h =>
            have e : pGo deep (40 :: d :: r2) = ((pGo (deep + 1) (d :: r2)).1 + 1, (pGo (deep + 1) (d :: r2)).2) := by simp [pGo]
            rw [e, one (pGo (deep + 1) (d :: r2)) (i + 1) 1 rfl]
            exact h
        · have h40n : ((c.toNat : Int) == 40) = false := beq_eq_false_iff_ne.2 (u8n (n := 40) (by decide) h40)
          rw [h40n]
          refine Ev.round (fun k => by rw [addr_stretch.j2]) ?_
          refine Ev.neg Bool.false_ne_true ?_
          refine Ev.pos (by omega) ?_
          rw [h0]
          refine Ev.pos rfl ?_
          by_cases h41 : c = 41
          · subst h41
            rw [show (((41 : UInt8).toNat : Int) == 41) = true from rfl]
            refine Ev.round (fun k => by rw [addr_stretch.j3]) ?_
            refine Ev.pos rfl ?_
            rw [HW.out.2.2.2, HW.out.1]
            by_cases hd1 : deep = 1
            · subst hd1
              refine Ev.pos rfl ?_
              have e : pGo 1 (41 :: r) = (1, true) := by
                match r with
                | [] => simp [pGo]
                | d :: r2 => simp [pGo]
              rw [e, show ((i : Int) + ((1 : Nat) : Int)) = ((i + 1 : Nat) : Int) by omega]
              exact Ev.now _
            · refine Ev.neg (by omega) ?_
              have h := ih (i + 1) (deep - 1) (by omega) (by omega) (by omega) (by omega)
              rw [hr] at h
              match r, hr, hrl, h with
              | [], hr, hrl, h =>
                simp only [List.length_nil] at hrl
                have e : ((i : Int) + ((pGo deep [41]).1 : Int), (pGo deep [41]).2) = (((i + 1 : Nat) : Int) + ((pGo (deep - 1) []).1 : Int), (pGo (deep - 1) []).2) := by
                  simp only [pGo]
                  rw [if_neg (by intro h; exact hd1 h.2)]
                  rw [show (i : Int) + ((1 : Nat) : Int) = ((i + 1 : Nat) : Int) + ((0 : Nat) : Int) by omega]
                rw [e]; exact h
              | d :: r2, hr, hrl, h =>
                have e : pGo deep (41 :: d :: r2) = ((pGo (deep - 1) (d :: r2)).1 + 1, (pGo (deep - 1) (d :: r2)).2) := by
                  simp only [pGo]
                  rw [if_neg (by decide), if_neg (by decide), if_pos trivial, if_neg hd1]
                rw [e, one (pGo (deep - 1) (d :: r2)) (i + 1) 1 rfl]
                exact h
          · have h41n : ((c.toNat : Int) == 41) = false := beq_eq_false_iff_ne.2 (u8n (n := 41) (by decide) h41)
            rw [h41n]
            refine Ev.round (fun k => by rw [addr_stretch.j3]) ?_
            refine Ev.neg Bool.false_ne_true ?_
            rw [HW.out.1]
            have h := ih (i + 1) deep (by omega) (by omega) (by omega) (by omega)
            rw [hr] at h
            match r, hr, hrl, h with
            | [], hr, hrl, h =>
              have e : ((i : Int) + ((pGo deep [c]).1 : Int), (pGo deep [c]).2) = (((i + 1 : Nat) : Int) + ((pGo deep []).1 : Int), (pGo deep []).2) := by
                simp only [pGo]
                rw [if_neg (by intro h; exact h41 h.1)]
                rw [show (i : Int) + ((1 : Nat) : Int) = ((i + 1 : Nat) : Int) + ((0 : Nat) : Int) by omega]
              rw [e]; exact h
            | d :: r2, hr, hrl, h =>
              have e : pGo deep (c :: d :: r2) = ((pGo deep (d :: r2)).1 + 1, (pGo deep (d :: r2)).2) := by
                simp only [pGo]
                rw [if_neg h92, if_neg h40, if_neg h41]
              rw [e, one (pGo deep (d :: r2)) (i + 1) 1 rfl]
              exact h
theorem stretch_is (s : ByteArray) (hs : s.size ≤ 100000000) (c : UInt8) (r : List UInt8) (hc : s.data.toList = c :: r) (h : c = 34 ∨ c = 40) :
    Ev (fun k => addr_stretch.f k s) (((stretchL s.data.toList).1 : Int), (stretchL s.data.toList).2) := by
  have hz : s.size = r.length + 1 := by rw [← sizeL, hc]; rfl
  have h0 : bt s 0 = (c.toNat : Int) := (at_drop (s := s) (i := 0) (by rw [List.drop_zero]; exact hc)).1
  have hd1 : s.data.toList.drop 1 = r := by rw [hc]; rfl
  unfold addr_stretch.f
  refine Ev.round (fun k => by rw [addr_stretch.l0]) ?_
  refine Ev.pos (by omega) ?_
  refine Ev.pos (by omega) ?_
  rcases h with rfl | rfl
  · have hh := q_loop s hs h0 s.size 1 0 (by omega) (by omega) (by omega)
    rw [hd1] at hh
    have e : (((stretchL s.data.toList).1 : Int), (stretchL s.data.toList).2) = (((1 : Nat) : Int) + ((qGo r).1 : Int), (qGo r).2) := by
      rw [hc]
      show ((((qGo r).1 + 1 : Nat) : Int), (qGo r).2) = _
      rw [show (((qGo r).1 + 1 : Nat) : Int) = ((1 : Nat) : Int) + ((qGo r).1 : Int) by omega]
    rw [e, h0]
    refine Ev.neg (by decide) ?_
    refine Ev.pos (by omega) ?_
    refine Ev.pos rfl ?_
    refine Ev.pos rfl ?_
    rw [show decide ((0 : Int) > 0) = false from rfl]
    refine Ev.round (fun k => by rw [addr_stretch.j1]) ?_
    refine Ev.neg Bool.false_ne_true ?_
    refine Ev.pos (by omega) ?_
    rw [h0]
    refine Ev.neg (by decide) ?_
    refine Ev.round (fun k => by rw [addr_stretch.j2]) ?_
    refine Ev.neg Bool.false_ne_true ?_
    refine Ev.pos (by omega) ?_
    rw [h0]
    refine Ev.neg (by decide) ?_
    refine Ev.round (fun k => by rw [addr_stretch.j3]) ?_
    refine Ev.neg Bool.false_ne_true ?_
    rw [show wrap64 ((0 : Int) + 1) = ((1 : Nat) : Int) from (w64 (by omega) (by omega)).trans (by omega)]
    exact hh
  · have hh := p_loop s hs h0 s.size 1 1 (by omega) (by omega) (by omega) (by omega)
    rw [hd1] at hh
    have e : (((stretchL s.data.toList).1 : Int), (stretchL s.data.toList).2) = (((1 : Nat) : Int) + ((pGo 1 r).1 : Int), (pGo 1 r).2) := by
      rw [hc]
      show ((((pGo 1 r).1 + 1 : Nat) : Int), (pGo 1 r).2) = _
      rw [show (((pGo 1 r).1 + 1 : Nat) : Int) = ((1 : Nat) : Int) + ((pGo 1 r).1 : Int) by omega]
    rw [e, h0]
    refine Ev.neg (by decide) ?_
    refine Ev.pos (by omega) ?_
    refine Ev.neg (by decide) ?_
    refine Ev.round (fun k => by rw [addr_stretch.j1]) ?_
    refine Ev.neg Bool.false_ne_true ?_
    refine Ev.pos (by omega) ?_
    rw [h0]
    refine Ev.pos rfl ?_
    rw [show (((40 : UInt8).toNat : Int) == 40) = true from rfl]
    refine Ev.round (fun k => by rw [addr_stretch.j2]) ?_
    refine Ev.pos rfl ?_
    rw [show wrap64 ((0 : Int) + 1) = ((1 : Nat) : Int) from (w64 (by omega) (by omega)).trans (by omega)]
    exact hh
theorem stretch_c (s : ByteArray) (hs : s.size ≤ 100000000) (c : UInt8) (r : List UInt8) (hc : s.data.toList = c :: r) (h : c = 34 ∨ c = 40) (W : World) :
    Calls Tryz.prog 66 #[.string s] W fun e w' => e = .returned (.tuple #[.int .i64 ((stretchL s.data.toList).1 : Int), .bool (stretchL s.data.toList).2]) ∧ ∃ n, w' = W.drewN n := by
  obtain ⟨k, hk⟩ := stretch_is s hs c r hc h
  exact (addr_stretch.calls k s _ _ W (hk k (Nat.le_refl _))).mono (by rintro e w' ⟨rfl, h⟩; exact ⟨rfl, h.out⟩)
end Go.Proofs.YtpcncpegbboljaaGreatDoor.Addr
namespace Go.Proofs.YtpcncpegbboljaaGreatDoor.Addr
open Go.RowKit Go.Lib Go.Proofs.YtpcncpegbboljaaGreatDoor Go.Proofs.YtpcncpegbboljaaGreatDoor.Pure
set_option linter.unusedVariables false
set_option linter.unusedSimpArgs false
def bareL : List UInt8 → List UInt8
  | [] => []
  | [c] => [c]
  | c :: d :: r => if c = 92 then d :: bareL r else c :: bareL (d :: r)
theorem bareL_len : ∀ (n : Nat) (l : List UInt8), l.length ≤ n → (bareL l).length ≤ l.length
  | _, [], _ => by simp [bareL]
  | _, [c], _ => by simp [bareL]
  | 0, c :: d :: r, h => by simp at h
  | n + 1, c :: d :: r, h => by
    simp only [bareL]
    simp only [List.length_cons] at h
    split
    · have := bareL_len n r (by omega)
      simp only [List.length_cons]; omega
    · have := bareL_len n (d :: r) (by simp only [List.length_cons]; omega)
      simp only [List.length_cons] at this ⊢; omega
def midL (l : List UInt8) (e : Bool) : List UInt8 := if e = true then (l.drop 1).take (l.length - 2) else l.drop 1
def innerL (l : List UInt8) (e : Bool) : List UInt8 := bareL (midL l e)
set_option maxRecDepth 100000 in
set_option maxHeartbeats 8000000 in
theorem inner_c (s : ByteArray) (e : Bool) (hs : s.size ≤ 11000000) (h1 : 1 ≤ s.size) (h2 : e = true → 2 ≤ s.size) (w : World) :
    Calls Tryz.prog 40 #[.string s, .bool e] w fun en w' => en = .returned (.string ⟨(innerL s.data.toList e).toArray⟩) ∧ Below w.heap.size w w' := by
  have WB : ∀ (acc : List UInt8) (x : UInt8) (W : World), IsBuilderF 48 5 w.heap.size w.heap.size (byteCells acc) W → acc.length ≤ 100000000 → w.heap.size ≤ W.heap.size →
      Calls Tryz.prog 67 #[.pointer (some ⟨w.heap.size, 0, none⟩), .int .u8 (x.toNat : Int)] W fun e w' => e = .returned .nilIface ∧ (IsBuilderF 48 5 w.heap.size w.heap.size (byteCells (acc ++ [x])) w' ∧ Below w.heap.size W w') := by
    intro acc x W h h1 h2
    refine (Bld.WriteByte_k _ _ _ (x.toNat : Int) W h (by simp [byteCells]; omega) h2).mono ?_
    rintro e w' ⟨rfl, k1, k2, _⟩
    exact ⟨rfl, by simpa [byteCells] using k1, k2⟩
  have HWB := Lib.hid WB
  clear WB
  have hl : s.data.toList.length = s.size := by simp
  obtain ⟨V, hV⟩ : ∃ V, s.extract 1 s.size = V := ⟨_, rfl⟩
  have hVd : V.data.toList = s.data.toList.drop 1 := by rw [← hV, extract_list, List.take_of_length_le (by rw [hl]; exact Nat.le_refl _)]
  have hVz : V.size = s.size - 1 := by rw [← hV]; simp
  have h1i : (1 : Int) ≤ (s.size : Int) := by omega
  cases e with
  | true =>
    have hs2 := h2 rfl
    obtain ⟨T, hT⟩ : ∃ T, V.extract 0 (V.size - 1) = T := ⟨_, rfl⟩
    have hTd : T.data.toList = midL s.data.toList true := by
      rw [← hT, extract_list, List.drop_zero, hVd]
      unfold midL
      rw [if_pos rfl, hl, hVz]
      congr 1
    have hTz : T.size ≤ 11000000 := by rw [← hT]; simp; omega
    have hvb : V.size ≤ 11000000 := by omega
    have hv0 : 1 ≤ V.size := by omega
    have hv1 : (V.size : Int) - 1 ≤ (V.size : Int) := by omega
    have hv2 : (0 : Int) ≤ (V.size : Int) - 1 := by omega
    have hv3 : ((V.size : Int) - 1).toNat = V.size - 1 := by omega
    have HR : Hid (bareL T.data.toList = innerL s.data.toList true) := Lib.hid (by rw [hTd]; rfl)
    have hTl : T.data.toList.length = T.size := by simp
    have HTL := Lib.hid hTl
    clear hl hVd hVz hTd h2 hTl
    go_enter Tryz.func40, Tryz.ntmps40
    go_wp2
    go_loopw [6] (fun iv wr => ∃ (i : Nat) (acc : List UInt8), iv = .int .i64 (i : Int) ∧ i ≤ T.size ∧ acc ++ bareL (T.data.toList.drop i) = bareL T.data.toList ∧ acc.length ≤ i ∧ IsBuilderF 48 5 w.heap.size w.heap.size (byteCells acc) wr ∧ Below w.heap.size w wr) (fun iv _ => T.size - (RowKit.intOf iv).toNat)
    case atStart => exact ⟨0, [], rfl, Nat.zero_le _, rfl, by simp, IsBuilderF.of (Lib.fresh_isBuilder 48 5 w), (Below.refl _ w).alloc (Nat.le_refl _) _⟩
    case round =>
      obtain ⟨i, acc, rfl, hi, he, hal, hI, hB⟩ := hrel
      have HE := Lib.hid he; have HI := Lib.hid hI; have HB := Lib.hid hB
      clear he hI hB
      by_cases hlt : i < T.size
      · have hlti : (i : Int) < (T.size : Int) := by omega
        have hc : T.data.toList.drop i = T[i] :: T.data.toList.drop (i + 1) := List.drop_eq_getElem_cons (by rw [HTL.out]; exact hlt)
        by_cases h92 : T[i] = 92 ∧ i + 1 < T.size
        · obtain ⟨h9, hn⟩ := h92
          have hni : (i : Int) + 1 < (T.size : Int) := by omega
          have hn2 : ((i : Int) + 1).toNat = i + 1 := by omega
          have hc2 : T.data.toList.drop (i + 1) = T[i + 1] :: T.data.toList.drop (i + 2) := List.drop_eq_getElem_cons (by rw [HTL.out]; exact hn)
          have hq : bareL (T.data.toList.drop i) = T[i + 1] :: bareL (T.data.toList.drop (i + 2)) := by
            rw [hc, hc2, h9]; simp only [bareL]; rw [if_pos trivial]
          have HQ := Lib.hid hq
          clear hc hc2 hq
          go_wp2_with (go_at_call 67; refine (HWB.out acc T[i + 1] _ HI.out (by omega) HB.out.size).mono ?_; rintro e W1 ⟨rfl, k1, k2⟩; have K1 := Lib.hid k1; have K2 := Lib.hid (HB.out.trans k2); clear k1 k2)
          go_roundw
          case rel => exact ⟨i + 2, acc ++ [T[i + 1]], by go_num, by omega, by rw [← HE.out, HQ.out]; simp, by rw [List.length_append]; simp only [List.length_cons, List.length_nil]; omega, K1.out, K2.out⟩
          case measure => simp [RowKit.intOf]; omega
        · have hq : bareL (T.data.toList.drop i) = T[i] :: bareL (T.data.toList.drop (i + 1)) := by
            rw [hc]
            match hd : T.data.toList.drop (i + 1) with
            | [] => rfl
            | d :: r =>
              have hlen := congrArg List.length hd
              rw [List.length_drop, HTL.out, List.length_cons] at hlen
              simp only [bareL]
              rw [if_neg (fun h => h92 ⟨h, by omega⟩)]
          have HQ := Lib.hid hq
          clear hc hq
          by_cases h9 : T[i] = 92
          · have hn : ¬ (i : Int) + 1 < (T.size : Int) := by intro h; exact h92 ⟨h9, by omega⟩
            rw [h9] at HQ
            have w92 : ∀ (W : World), IsBuilderF 48 5 w.heap.size w.heap.size (byteCells acc) W → w.heap.size ≤ W.heap.size → Calls Tryz.prog 67 #[.pointer (some ⟨w.heap.size, 0, none⟩), .int .u8 92] W fun e w' => e = .returned .nilIface ∧ (IsBuilderF 48 5 w.heap.size w.heap.size (byteCells (acc ++ [92])) w' ∧ Below w.heap.size W w') := fun W h1 h2 => HWB.out acc 92 W h1 (by omega) h2
            have W92 := Lib.hid w92
            clear w92 h92
            go_wp2_with (go_at_call 67; refine (W92.out _ HI.out HB.out.size).mono ?_; rintro e W1 ⟨rfl, k1, k2⟩; have K1 := Lib.hid k1; have K2 := Lib.hid (HB.out.trans k2); clear k1 k2)
            go_roundw
            case rel => exact ⟨i + 1, acc ++ [92], by go_num, by omega, by rw [← HE.out, HQ.out]; simp, by rw [List.length_append]; simp only [List.length_cons, List.length_nil]; omega, K1.out, K2.out⟩
            case measure => simp [RowKit.intOf]; omega
          · have h9n : ¬ (T[i]).toNat = 92 := by intro h; exact h9 (UInt8.toNat_inj.1 (by rw [h]; rfl))
            have h9i : ¬ ((T[i]).toNat : Int) = 92 := by omega
            clear h92
            go_wp2_with (go_at_call 67; refine (HWB.out acc T[i] _ HI.out (by omega) HB.out.size).mono ?_; rintro e W1 ⟨rfl, k1, k2⟩; have K1 := Lib.hid k1; have K2 := Lib.hid (HB.out.trans k2); clear k1 k2)
            go_roundw
            case rel => exact ⟨i + 1, acc ++ [T[i]], by go_num, by omega, by rw [← HE.out, HQ.out]; simp, by rw [List.length_append]; simp only [List.length_cons, List.length_nil]; omega, K1.out, K2.out⟩
            case measure => simp [RowKit.intOf]; omega
      · have hlti : ¬ (i : Int) < (T.size : Int) := by omega
        have hacc : acc = innerL s.data.toList true := by
          have := HE.out
          rw [List.drop_eq_nil_of_le (by rw [HTL.out]; omega)] at this
          rw [← HR.out, ← this]; simp [bareL]
        have HA := Lib.hid hacc
        clear hacc
        go_wp2_with (go_at_call 36; refine (Tryz.Builder_String_any_k w.heap.size w.heap.size acc _ HI.out HB.out.size).mono ?_; rintro e W3 ⟨rfl, _, b3, _⟩; have B3 := Lib.hid b3; clear b3)
        go_ret
        exact ⟨by rw [← HA.out]; rfl, HB.out.trans B3.out⟩
  | false =>
    obtain ⟨T, hT⟩ : ∃ T, V = T := ⟨_, rfl⟩
    subst hT
    have hTz : V.size ≤ 11000000 := by omega
    have HR : Hid (bareL V.data.toList = innerL s.data.toList false) := Lib.hid (by rw [hVd]; rfl)
    have hTl : V.data.toList.length = V.size := by simp
    have HTL := Lib.hid hTl
    clear hl hVd hVz h2 hTl
    go_enter Tryz.func40, Tryz.ntmps40
    go_wp2
    go_loopw [6] (fun iv wr => ∃ (i : Nat) (acc : List UInt8), iv = .int .i64 (i : Int) ∧ i ≤ V.size ∧ acc ++ bareL (V.data.toList.drop i) = bareL V.data.toList ∧ acc.length ≤ i ∧ IsBuilderF 48 5 w.heap.size w.heap.size (byteCells acc) wr ∧ Below w.heap.size w wr) (fun iv _ => V.size - (RowKit.intOf iv).toNat)
    case atStart => exact ⟨0, [], rfl, Nat.zero_le _, rfl, by simp, IsBuilderF.of (Lib.fresh_isBuilder 48 5 w), (Below.refl _ w).alloc (Nat.le_refl _) _⟩
    case round =>
      obtain ⟨i, acc, rfl, hi, he, hal, hI, hB⟩ := hrel
      have HE := Lib.hid he; have HI := Lib.hid hI; have HB := Lib.hid hB
      clear he hI hB
      by_cases hlt : i < V.size
      · have hlti : (i : Int) < (V.size : Int) := by omega
        have hc : V.data.toList.drop i = V[i] :: V.data.toList.drop (i + 1) := List.drop_eq_getElem_cons (by rw [HTL.out]; exact hlt)
        by_cases h92 : V[i] = 92 ∧ i + 1 < V.size
        · obtain ⟨h9, hn⟩ := h92
          have hni : (i : Int) + 1 < (V.size : Int) := by omega
          have hn2 : ((i : Int) + 1).toNat = i + 1 := by omega
          have hc2 : V.data.toList.drop (i + 1) = V[i + 1] :: V.data.toList.drop (i + 2) := List.drop_eq_getElem_cons (by rw [HTL.out]; exact hn)
          have hq : bareL (V.data.toList.drop i) = V[i + 1] :: bareL (V.data.toList.drop (i + 2)) := by
            rw [hc, hc2, h9]; simp only [bareL]; rw [if_pos trivial]
          have HQ := Lib.hid hq
          clear hc hc2 hq
          go_wp2_with (go_at_call 67; refine (HWB.out acc V[i + 1] _ HI.out (by omega) HB.out.size).mono ?_; rintro e W1 ⟨rfl, k1, k2⟩; have K1 := Lib.hid k1; have K2 := Lib.hid (HB.out.trans k2); clear k1 k2)
          go_roundw
          case rel => exact ⟨i + 2, acc ++ [V[i + 1]], by go_num, by omega, by rw [← HE.out, HQ.out]; simp, by rw [List.length_append]; simp only [List.length_cons, List.length_nil]; omega, K1.out, K2.out⟩
          case measure => simp [RowKit.intOf]; omega
        · have hq : bareL (V.data.toList.drop i) = V[i] :: bareL (V.data.toList.drop (i + 1)) := by
            rw [hc]
            match hd : V.data.toList.drop (i + 1) with
            | [] => rfl
            | d :: r =>
              have hlen := congrArg List.length hd
              rw [List.length_drop, HTL.out, List.length_cons] at hlen
              simp only [bareL]
              rw [if_neg (fun h => h92 ⟨h, by omega⟩)]
          have HQ := Lib.hid hq
          clear hc hq
          by_cases h9 : V[i] = 92
          · have hn : ¬ (i : Int) + 1 < (V.size : Int) := by intro h; exact h92 ⟨h9, by omega⟩
            rw [h9] at HQ
            have w92 : ∀ (W : World), IsBuilderF 48 5 w.heap.size w.heap.size (byteCells acc) W → w.heap.size ≤ W.heap.size → Calls Tryz.prog 67 #[.pointer (some ⟨w.heap.size, 0, none⟩), .int .u8 92] W fun e w' => e = .returned .nilIface ∧ (IsBuilderF 48 5 w.heap.size w.heap.size (byteCells (acc ++ [92])) w' ∧ Below w.heap.size W w') := fun W h1 h2 => HWB.out acc 92 W h1 (by omega) h2
            have W92 := Lib.hid w92
            clear w92 h92
            go_wp2_with (go_at_call 67; refine (W92.out _ HI.out HB.out.size).mono ?_; rintro e W1 ⟨rfl, k1, k2⟩; have K1 := Lib.hid k1; have K2 := Lib.hid (HB.out.trans k2); clear k1 k2)
            go_roundw
            case rel => exact ⟨i + 1, acc ++ [92], by go_num, by omega, by rw [← HE.out, HQ.out]; simp, by rw [List.length_append]; simp only [List.length_cons, List.length_nil]; omega, K1.out, K2.out⟩
            case measure => simp [RowKit.intOf]; omega
          · have h9n : ¬ (V[i]).toNat = 92 := by intro h; exact h9 (UInt8.toNat_inj.1 (by rw [h]; rfl))
            have h9i : ¬ ((V[i]).toNat : Int) = 92 := by omega
            clear h92
            go_wp2_with (go_at_call 67; refine (HWB.out acc V[i] _ HI.out (by omega) HB.out.size).mono ?_; rintro e W1 ⟨rfl, k1, k2⟩; have K1 := Lib.hid k1; have K2 := Lib.hid (HB.out.trans k2); clear k1 k2)
            go_roundw
            case rel => exact ⟨i + 1, acc ++ [V[i]], by go_num, by omega, by rw [← HE.out, HQ.out]; simp, by rw [List.length_append]; simp only [List.length_cons, List.length_nil]; omega, K1.out, K2.out⟩
            case measure => simp [RowKit.intOf]; omega
      · have hlti : ¬ (i : Int) < (V.size : Int) := by omega
        have hacc : acc = innerL s.data.toList false := by
          have := HE.out
          rw [List.drop_eq_nil_of_le (by rw [HTL.out]; omega)] at this
          rw [← HR.out, ← this]; simp [bareL]
        have HA := Lib.hid hacc
        clear hacc
        go_wp2_with (go_at_call 36; refine (Tryz.Builder_String_any_k w.heap.size w.heap.size acc _ HI.out HB.out.size).mono ?_; rintro e W3 ⟨rfl, _, b3, _⟩; have B3 := Lib.hid b3; clear b3)
        go_ret
        exact ⟨by rw [← HA.out]; rfl, HB.out.trans B3.out⟩
end Go.Proofs.YtpcncpegbboljaaGreatDoor.Addr
namespace Go.Proofs.YtpcncpegbboljaaGreatDoor.Addr
open Go.RowKit Go.Lib Go.Proofs.YtpcncpegbboljaaGreatDoor Go.Proofs.YtpcncpegbboljaaGreatDoor.Pure
set_option linter.unusedVariables false
set_option linter.unusedSimpArgs false
theorem qGo_len : ∀ (n : Nat) (l : List UInt8), l.length ≤ n → (qGo l).1 ≤ l.length
  | _, [], _ => by simp [qGo]
  | _, [c], _ => by simp only [qGo]; split <;> simp
  | 0, c :: d :: r, h => by simp at h
  | n + 1, c :: d :: r, h => by
    simp only [List.length_cons] at h
    simp only [qGo, List.length_cons]
    have h1 := qGo_len n r (by omega)
    have h2 := qGo_len n (d :: r) (by simp only [List.length_cons]; omega)
    simp only [List.length_cons] at h2
    split
    · simp only; omega
    · split
      · simp only; omega
      · simp only; omega
theorem pGo_len : ∀ (n : Nat) (l : List UInt8) (deep : Nat), l.length ≤ n → (pGo deep l).1 ≤ l.length
  | _, [], _, _ => by simp [pGo]
  | _, [c], deep, _ => by simp only [pGo]; split <;> simp
  | 0, c :: d :: r, _, h => by simp at h
  | n + 1, c :: d :: r, deep, h => by
    simp only [List.length_cons] at h
    simp only [pGo, List.length_cons]
    have h1 := pGo_len n r deep (by omega)
    have h2 := pGo_len n (d :: r) deep (by simp only [List.length_cons]; omega)
    have h3 := pGo_len n (d :: r) (deep + 1) (by simp only [List.length_cons]; omega)
    have h4 := pGo_len n (d :: r) (deep - 1) (by simp only [List.length_cons]; omega)
    simp only [List.length_cons] at h2 h3 h4
    split
    · simp only; omega
    · split
      · simp only; omega
      · split
        · split
          · simp only; omega
          · simp only; omega
        · simp only; omega
theorem stretchL_len (c : UInt8) (r : List UInt8) : 1 ≤ (stretchL (c :: r)).1 ∧ (stretchL (c :: r)).1 ≤ r.length + 1 := by
  simp only [stretchL]
  split
  · have := qGo_len _ r (Nat.le_refl _); simp only; omega
  · have := pGo_len _ r 1 (Nat.le_refl _); simp only; omega
def itemL : List UInt8 → Nat × Bool
  | [] => (0, false)
  | c :: r => if c = 34 ∨ c = 40 then stretchL (c :: r) else (1, false)
theorem itemL_len (c : UInt8) (r : List UInt8) : 1 ≤ (itemL (c :: r)).1 ∧ (itemL (c :: r)).1 ≤ r.length + 1 := by
  simp only [itemL]
  split
  · exact stretchL_len c r
  · simp only; omega
def foldI {σ : Type} (step : σ → Nat → Nat → Bool → σ) : Nat → Nat → List UInt8 → σ → σ
  | 0, _, _, st => st
  | f + 1, i, l, st => if l = [] then st else foldI step f (i + (itemL l).1) (l.drop (itemL l).1) (step st i (itemL l).1 (itemL l).2)
theorem foldI_more {σ : Type} (step : σ → Nat → Nat → Bool → σ) : ∀ (f : Nat) (i : Nat) (l : List UInt8) (st : σ), l.length ≤ f → ∀ g, f ≤ g → foldI step g i l st = foldI step f i l st := by
  intro f
  induction f with
  | zero =>
    intro i l st h g _
    obtain rfl := List.eq_nil_of_length_eq_zero (by omega : l.length = 0)
    cases g <;> simp [foldI]
  | succ f ih =>
    intro i l st h g hg
    obtain ⟨g, rfl⟩ : ∃ k, g = k + 1 := ⟨g - 1, by omega⟩
    simp only [foldI]
    cases l with
    | nil => simp
    | cons c r =>
      rw [if_neg (by simp), if_neg (by simp)]
      have hl := itemL_len c r
      simp only [List.length_cons] at h
      exact ih _ _ _ (by rw [List.length_drop, List.length_cons]; omega) g (by omega)
def foldA {σ : Type} (step : σ → Nat → Nat → Bool → σ) (i : Nat) (l : List UInt8) (st : σ) : σ := foldI step l.length i l st
theorem foldA_nil {σ : Type} (step : σ → Nat → Nat → Bool → σ) (i : Nat) (st : σ) : foldA step i [] st = st := rfl
theorem foldA_cons {σ : Type} (step : σ → Nat → Nat → Bool → σ) (i : Nat) (l : List UInt8) (st : σ) (h : l ≠ []) :
    foldA step i l st = foldA step (i + (itemL l).1) (l.drop (itemL l).1) (step st i (itemL l).1 (itemL l).2) := by
  cases l with
  | nil => exact absurd rfl h
  | cons c r =>
    have hl := itemL_len c r
    unfold foldA
    simp only [List.length_cons, foldI]
    rw [if_neg (by simp), foldI_more step _ _ _ _ (Nat.le_refl _) r.length (by rw [List.length_drop, List.length_cons]; omega)]
set_option maxRecDepth 100000 in
set_option maxHeartbeats 8000000 in
theorem outside_c {σ : Type} (s : ByteArray) (hs : s.size ≤ 11000000) (g : Nat) (lb : Array Value) (eg : ∀ args w, (callFunc g args).run Tryz.prog w = .ok (.enter g args) w) (B : Nat) (K : Nat → σ → World → Prop) (step : σ → Nat → Nat → Bool → σ)
    (hdrew : ∀ i st W n, K i st W → K i st (W.drewN n))
    (hstep : ∀ (st : σ) (i : Nat) (c : UInt8) (r : List UInt8) (W : World), s.data.toList.drop i = c :: r → K i st W → B ≤ W.heap.size →
      Calls Tryz.prog g (#[.int .i64 (i : Int), .int .i64 ((itemL (c :: r)).1 : Int), .bool (itemL (c :: r)).2] ++ lb) W fun e w' => e = .returned (.tuple #[]) ∧ K (i + (itemL (c :: r)).1) (step st i (itemL (c :: r)).1 (itemL (c :: r)).2) w' ∧ Below B W w')
    (st : σ) (w : World) (h0 : K 0 st w) (hB : B ≤ w.heap.size) :
    Calls Tryz.prog 37 #[.string s, .func (.func g) #[] lb] w fun e w' => e = .returned (.tuple #[]) ∧ K s.size (foldA step 0 s.data.toList st) w' ∧ Below B w w' := by
  have HD := Lib.hid hdrew; have HS := Lib.hid hstep; have H0 := Lib.hid h0
  have hl : s.data.toList.length = s.size := by simp
  have HL := Lib.hid hl
  clear hdrew hstep h0 hl
  go_enter Tryz.func37, Tryz.ntmps37
  go_wp2
  go_loopw [4] (fun iv wr => ∃ (i : Nat) (t : σ), iv = .int .i64 (i : Int) ∧ i ≤ s.size ∧ foldA step i (s.data.toList.drop i) t = foldA step 0 s.data.toList st ∧ K i t wr ∧ Below B w wr) (fun iv _ => s.size - (RowKit.intOf iv).toNat)
  case atStart => exact ⟨0, st, rfl, Nat.zero_le _, rfl, H0.out, Below.refl _ _⟩
  case round =>
    obtain ⟨i, t, rfl, hi, he, hK, hb⟩ := hrel
    have HE := Lib.hid he; have HK := Lib.hid hK; have HB := Lib.hid hb
    clear he hK hb
    by_cases hlt : i < s.size
    · have hlti : (i : Int) < (s.size : Int) := by omega
      have hii : (i : Int) ≤ (s.size : Int) := by omega
      have hc : s.data.toList.drop i = s[i] :: s.data.toList.drop (i + 1) := List.drop_eq_getElem_cons (by rw [HL.out]; exact hlt)
      have hc0 := Lib.hid hc
      have hst := foldA_cons step i (s.data.toList.drop i) t (by rw [hc]; simp)
      have hit := itemL_len s[i] (s.data.toList.drop (i + 1))
      have hcall := HS.out t i s[i] (s.data.toList.drop (i + 1))
      rw [List.length_drop, HL.out] at hit
      rw [List.drop_drop, hc] at hst
      have hcases : itemL (s[i] :: s.data.toList.drop (i + 1)) = if s[i] = 34 ∨ s[i] = 40 then stretchL (s[i] :: s.data.toList.drop (i + 1)) else (1, false) := rfl
      generalize itemL (s[i] :: s.data.toList.drop (i + 1)) = it at *
      obtain ⟨n, b⟩ := it
      simp only at hit hst hcall hcases
      have HC := Lib.hid (fun W h1 h2 => hcall W hc h1 h2)
      have HST := Lib.hid hst
      have hin : (i : Int) + (n : Int) ≤ (s.size : Int) := by omega
      by_cases hq : s[i] = 34 ∨ s[i] = 40
      · rw [if_pos hq] at hcases
        obtain ⟨U, hU⟩ : ∃ U, s.extract i s.size = U := ⟨_, rfl⟩
        have hUd : U.data.toList = s[i] :: s.data.toList.drop (i + 1) := by rw [← hU, extract_list, List.take_of_length_le (by rw [HL.out]; exact Nat.le_refl _), hc]
        have hUz : U.size ≤ 100000000 := by rw [← hU]; simp; omega
        have SC := Lib.hid (fun W => stretch_c U hUz _ _ hUd hq W)
        rw [hUd, ← hcases] at SC
        clear hcases hc hst hUd hcall
        rcases hq with hq | hq
        · have hq2 : ¬ (s[i]).toNat = 40 := by rw [hq]; decide
          go_wp2_with (first
            | (go_at_call 66; refine (SC.out _).mono ?_; rintro e W1 ⟨rfl, q, rfl⟩)
            | (go_at_fn g; refine (HC.out _ (HD.out _ _ _ _ HK.out) (Nat.le_trans hB (bdrewN HB.out _).size)).mono ?_; rintro e W2 ⟨rfl, k1, b2⟩; have K1 := Lib.hid k1; have B2 := Lib.hid ((bdrewN HB.out _).trans b2); clear k1 b2))
          go_roundw
          case rel => exact ⟨i + n, _, by go_num, by omega, by rw [← HE.out, hc0.out, HST.out], K1.out, B2.out⟩
          case measure => simp [RowKit.intOf]; omega
        · have hq2 : ¬ (s[i]).toNat = 34 := by rw [hq]; decide
          go_wp2_with (first
            | (go_at_call 66; refine (SC.out _).mono ?_; rintro e W1 ⟨rfl, q, rfl⟩)
            | (go_at_fn g; refine (HC.out _ (HD.out _ _ _ _ HK.out) (Nat.le_trans hB (bdrewN HB.out _).size)).mono ?_; rintro e W2 ⟨rfl, k1, b2⟩; have K1 := Lib.hid k1; have B2 := Lib.hid ((bdrewN HB.out _).trans b2); clear k1 b2))
          go_roundw
          case rel => exact ⟨i + n, _, by go_num, by omega, by rw [← HE.out, hc0.out, HST.out], K1.out, B2.out⟩
          case measure => simp [RowKit.intOf]; omega
      · rw [if_neg hq] at hcases
        injection hcases with e1 e2
        subst e1 e2
        have hc1 := HC.out
        rw [show (((1 : Nat)) : Int) = 1 from rfl] at hc1
        have HC := Lib.hid hc1
        clear hc1
        have hq1 : ¬ (s[i]).toNat = 34 := by intro h; exact hq (.inl (UInt8.toNat_inj.1 (by rw [h]; rfl)))
        have hq2 : ¬ (s[i]).toNat = 40 := by intro h; exact hq (.inr (UInt8.toNat_inj.1 (by rw [h]; rfl)))
        have hq3 : ¬ ((s[i]).toNat : Int) = 34 := by omega
        have hq4 : ¬ ((s[i]).toNat : Int) = 40 := by omega
        have hb1 : (((s[i]).toNat : Int) == 34) = false := beq_eq_false_iff_ne.2 hq3
        have hb2 : (((s[i]).toNat : Int) == 40) = false := beq_eq_false_iff_ne.2 hq4
        clear hc hst hcall hq hq1 hq2
        go_wp2_with (first
          | (go_at_fn g; refine (HC.out _ HK.out (Nat.le_trans hB HB.out.size)).mono ?_; rintro e W2 ⟨rfl, k1, b2⟩; have K1 := Lib.hid k1; have B2 := Lib.hid (HB.out.trans b2); clear k1 b2))
        go_roundw
        case rel => exact ⟨i + 1, _, by go_num, by omega, by rw [← HE.out, hc0.out, HST.out], K1.out, B2.out⟩
        case measure => simp [RowKit.intOf]; omega
    · have hlti : ¬ (i : Int) < (s.size : Int) := by omega
      have he := HE.out
      rw [List.drop_eq_nil_of_le (by rw [HL.out]; omega), foldA_nil] at he
      have HE2 := Lib.hid he
      clear he
      go_wp2
      go_end0
      have hisz : i = s.size := by omega
      exact ⟨rfl, by rw [← HE2.out, ← hisz]; exact HK.out, HB.out⟩
end Go.Proofs.YtpcncpegbboljaaGreatDoor.Addr
namespace Go.Proofs.YtpcncpegbboljaaGreatDoor.Addr
open Go.RowKit Go.Lib Go.Proofs.YtpcncpegbboljaaGreatDoor Go.Proofs.YtpcncpegbboljaaGreatDoor.Pure Go.Proofs.YtpcncpegbboljaaGreatDoorW.PrintWords
set_option linter.unusedVariables false
set_option linter.unusedSimpArgs false
theorem infoStr : (Tryz.prog.info? 9).map (fun i => (i.zero, i.size, i.bytes)) = some (some (.string ⟨#[]⟩), 1, 16) := by kernel_rfl
structure TxSt where
  l : List ByteArray
  from_ : Nat
  angle : Bool
def txStep (s : ByteArray) (st : TxSt) (i n : Nat) (e : Bool) : TxSt :=
  match s.data.toList.drop i with
  | [] => st
  | c :: _ => if c = 60 then { st with angle := true } else if c = 62 then { st with angle := false } else if (c = 44 ∨ c = 59) ∧ st.angle = false then { st with l := st.l ++ [s.extract st.from_ i], from_ := i + 1 } else st
def TxK (M : Nat) (s : ByteArray) (i : Nat) (st : TxSt) (w : World) : Prop :=
  M + 4 ≤ w.heap.size ∧ st.from_ ≤ i ∧ st.l.length ≤ i ∧ ∃ v, w.heap[M]? = some (.cells #[.string s] 9 (0, 0)) ∧ w.heap[M + 1]? = some (.cells #[v] 34 (0, 0)) ∧ w.heap[M + 2]? = some (.cells #[.int .i64 (st.from_ : Int)] 3 (0, 0)) ∧ w.heap[M + 3]? = some (.cells #[.bool st.angle] 4 (0, 0))
    ∧ w.ownsRow (M + 4) 9 1 v st.l.length (st.l.map Value.string)
theorem own_set {w : World} {B n k : Nat} {v x : Value} {xs : List Value} (h : w.ownsRow B 9 1 v n xs) (hk : k < B) : (w.setCell ⟨k, 0, none⟩ x).ownsRow B 9 1 v n xs :=
  ownsRow_setCell_below h hk x
theorem u8f {c : UInt8} {k : Nat} (h : c ≠ UInt8.ofNat k) (hk : k < 256) : ((c.toNat : Int) == (k : Int)) = false := by
  refine beq_eq_false_iff_ne.2 fun e => h ?_
  apply UInt8.toNat_inj.1
  rw [show (UInt8.ofNat k).toNat = k from by simp [Nat.mod_eq_of_lt hk]]
  exact Int.ofNat_inj.1 e
set_option maxRecDepth 100000 in
set_option maxHeartbeats 8000000 in
theorem texts1_c (M : Nat) (s : ByteArray) (hs : s.size ≤ 11000000) (i : Nat) (st : TxSt) (c : UInt8) (r : List UInt8) (n : Nat) (b : Bool) (hn : 1 ≤ n) (w : World) (hc : s.data.toList.drop i = c :: r) (hK : TxK M s i st w) :
    Calls Tryz.prog 38 #[.int .i64 (i : Int), .int .i64 (n : Int), .bool b, .pointer (some ⟨M, 0, none⟩), .pointer (some ⟨M + 3, 0, none⟩), .pointer (some ⟨M + 1, 0, none⟩), .pointer (some ⟨M + 2, 0, none⟩)] w
      fun e w' => e = .returned (.tuple #[]) ∧ TxK M s (i + n) (txStep s st i n b) w' ∧ Below M w w' := by
  obtain ⟨hM, hf, hll, v, g0, g1, g2, g3, hown⟩ := hK
  have hl : s.data.toList.length = s.size := by simp
  have hlt : i < s.size := by
    rcases Nat.lt_or_ge i s.size with h1 | h1
    · exact h1
    · rw [List.drop_eq_nil_of_le (by rw [hl]; exact h1)] at hc; cases hc
  have hsc : s[i] = c := by
    have e := List.drop_eq_getElem_cons (l := s.data.toList) (i := i) (by rw [hl]; exact hlt)
    rw [hc] at e
    injection e with e1 _
    exact e1.symm
  have hlti : (i : Int) < (s.size : Int) := by omega
  have hst : txStep s st i n b = if c = 60 then { st with angle := true } else if c = 62 then { st with angle := false } else if (c = 44 ∨ c = 59) ∧ st.angle = false then { st with l := st.l ++ [s.extract st.from_ i], from_ := i + 1 } else st := by
    unfold txStep; rw [hc]
  have c0 := Joins.cell_of_block g0 0
  have c1 := Joins.cell_of_block g1 0
  have c2 := Joins.cell_of_block g2 0
  have c3 := Joins.cell_of_block g3 0
  have u1 := Joins.unfrozen_of_block g1 0
  have u2 := Joins.unfrozen_of_block g2 0
  have u3 := Joins.unfrozen_of_block g3 0
  simp at c0 c1 c2 c3
  have HST := Lib.hid hst; have HO := Lib.hid hown; have G0 := Lib.hid g0; have G1 := Lib.hid g1; have G2 := Lib.hid g2; have G3 := Lib.hid g3
  clear hst hown g0 g1 g2 g3 hc hl
  by_cases h60 : c = 60
  · subst h60
    have HE : Hid (txStep s st i n b = { st with angle := true }) := Lib.hid (by rw [HST.out, if_pos rfl])
    go_enter Tryz.func38, Tryz.ntmps38
    go_wp2
    go_end0
    rw [HE.out]
    refine ⟨rfl, ⟨by simp; omega, by show st.from_ ≤ _; omega, by show st.l.length ≤ _; omega, v, ?_, ?_, ?_, Joins.block_setCell G3.out _, own_set HO.out (by omega)⟩, (Below.refl M w).setCell (p := ⟨M + 3, 0, none⟩) (by show M ≤ M + 3; omega) _⟩
    · exact (Deep.blk_setCell_other w ⟨M + 3, 0, none⟩ _ M (by show M ≠ M + 3; omega)).trans G0.out
    · exact (Deep.blk_setCell_other w ⟨M + 3, 0, none⟩ _ (M + 1) (by show M + 1 ≠ M + 3; omega)).trans G1.out
    · exact (Deep.blk_setCell_other w ⟨M + 3, 0, none⟩ _ (M + 2) (by show M + 2 ≠ M + 3; omega)).trans G2.out
  · by_cases h62 : c = 62
    · subst h62
      have HE : Hid (txStep s st i n b = { st with angle := false }) := Lib.hid (by rw [HST.out, if_neg (by decide), if_pos rfl])
      go_enter Tryz.func38, Tryz.ntmps38
      go_wp2
      go_end0
      rw [HE.out]
      refine ⟨rfl, ⟨by simp; omega, by show st.from_ ≤ _; omega, by show st.l.length ≤ _; omega, v, ?_, ?_, ?_, Joins.block_setCell G3.out _, own_set HO.out (by omega)⟩, (Below.refl M w).setCell (p := ⟨M + 3, 0, none⟩) (by show M ≤ M + 3; omega) _⟩
      · exact (Deep.blk_setCell_other w ⟨M + 3, 0, none⟩ _ M (by show M ≠ M + 3; omega)).trans G0.out
      · exact (Deep.blk_setCell_other w ⟨M + 3, 0, none⟩ _ (M + 1) (by show M + 1 ≠ M + 3; omega)).trans G1.out
      · exact (Deep.blk_setCell_other w ⟨M + 3, 0, none⟩ _ (M + 2) (by show M + 2 ≠ M + 3; omega)).trans G2.out
    · by_cases h44 : c = 44
      ·
        subst h44
        by_cases hA : st.angle = true
        · have HE : Hid (txStep s st i n b = st) := Lib.hid (by rw [HST.out, if_neg (by decide), if_neg (by decide), if_neg (by rw [hA]; simp)])
          go_enter Tryz.func38, Tryz.ntmps38
          go_wp2
          go_end0
          rw [HE.out]
          exact ⟨rfl, ⟨hM, by omega, by omega, v, G0.out, G1.out, G2.out, G3.out, HO.out⟩, Below.refl M w⟩
        · have hA : st.angle = false := by simpa using hA
          rw [hA] at c3
          have HE : Hid (txStep s st i n b = ⟨st.l ++ [s.extract st.from_ i], i + 1, st.angle⟩) := Lib.hid (by rw [HST.out, if_neg (by decide), if_neg (by decide), if_pos ⟨.inl rfl, hA⟩])
          have hfi : (st.from_ : Int) ≤ (i : Int) := by omega
          have his : (i : Int) ≤ (s.size : Int) := by omega
          have hlen : (st.l.length + 1) * 16 ≤ 140737488355328 := (by omega); have HV : Hid (Value.int .i64 (IntKind.i64.wrap ((i : Int) + 1)) = .int .i64 ((i + 1 : Nat) : Int)) := Lib.hid (by rw [IntWalk.i64_left, IntWalk.wrap64_in _ (by omega)]; rfl); have hm0 : M < w.heap.size := (by omega); have hm1 : M + 1 < w.heap.size := (by omega); have hm2 : M + 2 < w.heap.size := (by omega); have hm3 : M + 3 < w.heap.size := (by omega)
          have hd : Hid (∀ o, (w.alloc o).drew = w.drew.alloc o) := Lib.hid fun _ => rfl
          go_enter Tryz.func38, Tryz.ntmps38
          go_wp2
          go_region_law (rw [hd.out]; refine step_append_cells (w0 := w) (W := w.drew) (M + 4) rfl (.tmp 22) (.tmp 27) 34 9 (.string ⟨#[]⟩) 1 16 rfl rfl infoStr (by kernel_rfl) (by omega) (by omega) v st.l.length (st.l.map Value.string) [.string (s.extract st.from_ i)] (by simp [Act.eval, Act.put]) (by simp [Act.eval, Act.put]) rfl (by simp [Value.oneCell']) HO.out (Below.refl _ _).drew hM hlen ?_; intro v1 w1 hown hb hg hat; clear hg hat; obtain ⟨g, cap, rfl⟩ := Joins.ownsRow_form hown (by omega); have H0 := Lib.hid ((hb.block M (by omega)).trans G0.out); have H1 := (hb.block (M + 1) (by omega)).trans G1.out; have H2 := (hb.block (M + 2) (by omega)).trans G2.out; have H3 := Lib.hid ((hb.block (M + 3) (by omega)).trans G3.out); have d1 := Joins.cell_of_block H1 0; have d2 := Joins.cell_of_block H2 0; have f1 := Joins.unfrozen_of_block H1 0; have f2 := Joins.unfrozen_of_block H2 0; simp at d1 d2; have H1 := Lib.hid H1; have H2 := Lib.hid H2; have HN := Lib.hid hown; have HBB := Lib.hid hb; clear hown hb)
          all_goals (
            go_wp2
            go_end0
            rw [HE.out, HV.out]
            have hsz := HBB.out.size
            refine ⟨rfl, ⟨by simp; omega, by show i + 1 ≤ _; omega, by show (st.l ++ [_]).length ≤ _; simp; omega, .slice (some ⟨g, 0, none⟩) (st.l.length + 1) cap, ?_, ?_, ?_, ?_, ?_⟩, ((Joins.below_le HBB.out (by omega)).setCell (p := ⟨M + 1, 0, none⟩) (by show M ≤ M + 1; omega) _).setCell (p := ⟨M + 2, 0, none⟩) (by show M ≤ M + 2; omega) _⟩
            · exact (Deep.blk_setCell_other _ ⟨M + 2, 0, none⟩ _ M (by show M ≠ M + 2; omega)).trans ((Deep.blk_setCell_other w1 ⟨M + 1, 0, none⟩ _ M (by show M ≠ M + 1; omega)).trans H0.out)
            · exact (Deep.blk_setCell_other _ ⟨M + 2, 0, none⟩ _ (M + 1) (by show M + 1 ≠ M + 2; omega)).trans (Joins.block_setCell H1.out _)
            · exact Joins.block_setCell ((Deep.blk_setCell_other w1 ⟨M + 1, 0, none⟩ _ (M + 2) (by show M + 2 ≠ M + 1; omega)).trans H2.out) _
            · exact (Deep.blk_setCell_other _ ⟨M + 2, 0, none⟩ _ (M + 3) (by show M + 3 ≠ M + 2; omega)).trans ((Deep.blk_setCell_other w1 ⟨M + 1, 0, none⟩ _ (M + 3) (by show M + 3 ≠ M + 1; omega)).trans H3.out)
            · show World.ownsRow _ (M + 4) _ 1 _ (st.l ++ [_]).length ((st.l ++ [_]).map Value.string)
              rw [List.length_append, List.map_append]
              exact own_set (own_set HN.out (by omega)) (by omega))
      · by_cases h59 : c = 59
        ·
          subst h59
          by_cases hA : st.angle = true
          · have HE : Hid (txStep s st i n b = st) := Lib.hid (by rw [HST.out, if_neg (by decide), if_neg (by decide), if_neg (by rw [hA]; simp)])
            go_enter Tryz.func38, Tryz.ntmps38
            go_wp2
            go_end0
            rw [HE.out]
            exact ⟨rfl, ⟨hM, by omega, by omega, v, G0.out, G1.out, G2.out, G3.out, HO.out⟩, Below.refl M w⟩
          · have hA : st.angle = false := by simpa using hA
            rw [hA] at c3
            have HE : Hid (txStep s st i n b = ⟨st.l ++ [s.extract st.from_ i], i + 1, st.angle⟩) := Lib.hid (by rw [HST.out, if_neg (by decide), if_neg (by decide), if_pos ⟨.inr rfl, hA⟩])
            have hfi : (st.from_ : Int) ≤ (i : Int) := by omega
            have his : (i : Int) ≤ (s.size : Int) := by omega
            have hlen : (st.l.length + 1) * 16 ≤ 140737488355328 := (by omega); have HV : Hid (Value.int .i64 (IntKind.i64.wrap ((i : Int) + 1)) = .int .i64 ((i + 1 : Nat) : Int)) := Lib.hid (by rw [IntWalk.i64_left, IntWalk.wrap64_in _ (by omega)]; rfl); have hm0 : M < w.heap.size := (by omega); have hm1 : M + 1 < w.heap.size := (by omega); have hm2 : M + 2 < w.heap.size := (by omega); have hm3 : M + 3 < w.heap.size := (by omega)
            have hd : Hid (∀ o, (w.alloc o).drew = w.drew.alloc o) := Lib.hid fun _ => rfl
            go_enter Tryz.func38, Tryz.ntmps38
            go_wp2
            go_region_law (rw [hd.out]; refine step_append_cells (w0 := w) (W := w.drew) (M + 4) rfl (.tmp 22) (.tmp 27) 34 9 (.string ⟨#[]⟩) 1 16 rfl rfl infoStr (by kernel_rfl) (by omega) (by omega) v st.l.length (st.l.map Value.string) [.string (s.extract st.from_ i)] (by simp [Act.eval, Act.put]) (by simp [Act.eval, Act.put]) rfl (by simp [Value.oneCell']) HO.out (Below.refl _ _).drew hM hlen ?_; intro v1 w1 hown hb hg hat; clear hg hat; obtain ⟨g, cap, rfl⟩ := Joins.ownsRow_form hown (by omega); have H0 := Lib.hid ((hb.block M (by omega)).trans G0.out); have H1 := (hb.block (M + 1) (by omega)).trans G1.out; have H2 := (hb.block (M + 2) (by omega)).trans G2.out; have H3 := Lib.hid ((hb.block (M + 3) (by omega)).trans G3.out); have d1 := Joins.cell_of_block H1 0; have d2 := Joins.cell_of_block H2 0; have f1 := Joins.unfrozen_of_block H1 0; have f2 := Joins.unfrozen_of_block H2 0; simp at d1 d2; have H1 := Lib.hid H1; have H2 := Lib.hid H2; have HN := Lib.hid hown; have HBB := Lib.hid hb; clear hown hb)
            all_goals (
              go_wp2
              go_end0
              rw [HE.out, HV.out]
              have hsz := HBB.out.size
              refine ⟨rfl, ⟨by simp; omega, by show i + 1 ≤ _; omega, by show (st.l ++ [_]).length ≤ _; simp; omega, .slice (some ⟨g, 0, none⟩) (st.l.length + 1) cap, ?_, ?_, ?_, ?_, ?_⟩, ((Joins.below_le HBB.out (by omega)).setCell (p := ⟨M + 1, 0, none⟩) (by show M ≤ M + 1; omega) _).setCell (p := ⟨M + 2, 0, none⟩) (by show M ≤ M + 2; omega) _⟩
              · exact (Deep.blk_setCell_other _ ⟨M + 2, 0, none⟩ _ M (by show M ≠ M + 2; omega)).trans ((Deep.blk_setCell_other w1 ⟨M + 1, 0, none⟩ _ M (by show M ≠ M + 1; omega)).trans H0.out)
              · exact (Deep.blk_setCell_other _ ⟨M + 2, 0, none⟩ _ (M + 1) (by show M + 1 ≠ M + 2; omega)).trans (Joins.block_setCell H1.out _)
              · exact Joins.block_setCell ((Deep.blk_setCell_other w1 ⟨M + 1, 0, none⟩ _ (M + 2) (by show M + 2 ≠ M + 1; omega)).trans H2.out) _
              · exact (Deep.blk_setCell_other _ ⟨M + 2, 0, none⟩ _ (M + 3) (by show M + 3 ≠ M + 2; omega)).trans ((Deep.blk_setCell_other w1 ⟨M + 1, 0, none⟩ _ (M + 3) (by show M + 3 ≠ M + 1; omega)).trans H3.out)
              · show World.ownsRow _ (M + 4) _ 1 _ (st.l ++ [_]).length ((st.l ++ [_]).map Value.string)
                rw [List.length_append, List.map_append]
                exact own_set (own_set HN.out (by omega)) (by omega))
        · have HE : Hid (txStep s st i n b = st) := Lib.hid (by rw [HST.out, if_neg h60, if_neg h62, if_neg (fun h => h.1.elim h44 h59)])
          have e1 : ((c.toNat : Int) == 60) = false := u8f h60 (by decide)
          have e2 : ((c.toNat : Int) == 62) = false := u8f h62 (by decide)
          have e3 : ((c.toNat : Int) == 44) = false := u8f h44 (by decide)
          have e4 : ((c.toNat : Int) == 59) = false := u8f h59 (by decide)
          clear h60 h62 h44 h59
          go_enter Tryz.func38, Tryz.ntmps38
          go_wp2
          go_end0
          rw [HE.out]
          exact ⟨rfl, ⟨hM, by omega, by omega, v, G0.out, G1.out, G2.out, G3.out, HO.out⟩, Below.refl M w⟩
end Go.Proofs.YtpcncpegbboljaaGreatDoor.Addr
namespace Go.Proofs.YtpcncpegbboljaaGreatDoor.Addr
open Go.RowKit Go.Lib Go.Proofs.YtpcncpegbboljaaGreatDoor Go.Proofs.YtpcncpegbboljaaGreatDoor.Pure Go.Proofs.YtpcncpegbboljaaGreatDoorW.PrintWords
set_option linter.unusedVariables false
set_option linter.unusedSimpArgs false
theorem TxK.draws {M : Nat} {s : ByteArray} {i : Nat} {st : TxSt} {w : World} (n : Nat) (h : TxK M s i st w) : TxK M s i st (w.drewN n) := h
def textsS (s : ByteArray) : TxSt := foldA (txStep s) 0 s.data.toList ⟨[], 0, false⟩
def textsL (s : ByteArray) : List ByteArray := (textsS s).l ++ [s.extract (textsS s).from_ s.size]
theorem start4 (w : World) (o0 o1 o2 o3 : Obj) : ∃ W, W = (((w.alloc o0).alloc o1).alloc o2).alloc o3 ∧ W.heap[w.heap.size]? = some o0 ∧ W.heap[w.heap.size + 1]? = some o1 ∧ W.heap[w.heap.size + 2]? = some o2 ∧ W.heap[w.heap.size + 3]? = some o3 ∧ W.heap.size = w.heap.size + 4 ∧ Below w.heap.size w W := by
  have old : ∀ (v : World) (o : Obj) (k : Nat) x, k < v.heap.size → v.heap[k]? = some x → (v.alloc o).heap[k]? = some x := fun v o k x hk h => (Below.heap_alloc v o k hk).trans h
  have z1 : (w.alloc o0).heap.size = w.heap.size + 1 := by simp
  have z2 : ((w.alloc o0).alloc o1).heap.size = w.heap.size + 2 := by simp
  have z3 : (((w.alloc o0).alloc o1).alloc o2).heap.size = w.heap.size + 3 := by simp
  have n1 := heap_alloc_new (w.alloc o0) o1
  have n2 := heap_alloc_new ((w.alloc o0).alloc o1) o2
  have n3 := heap_alloc_new (((w.alloc o0).alloc o1).alloc o2) o3
  rw [z1] at n1
  rw [z2] at n2
  rw [z3] at n3
  exact ⟨_, rfl, old _ _ _ _ (by omega) (old _ _ _ _ (by omega) (old _ _ _ _ (by omega) (heap_alloc_new w o0))), old _ _ _ _ (by omega) (old _ _ _ _ (by omega) n1), old _ _ _ _ (by omega) n2, n3, by simp, (Joins.below_alloc3 w o0 o1 o2).alloc (by simp; omega) o3⟩
set_option maxRecDepth 100000 in
set_option maxHeartbeats 8000000 in
theorem out_texts (s : ByteArray) (hs : s.size ≤ 11000000) (M : Nat) (W : World) (h0 : TxK M s 0 ⟨[], 0, false⟩ W) (hM : M ≤ W.heap.size) :
    Calls Tryz.prog 37 #[.string s, .func (.func 38) #[] #[.pointer (some ⟨M, 0, none⟩), .pointer (some ⟨M + 3, 0, none⟩), .pointer (some ⟨M + 1, 0, none⟩), .pointer (some ⟨M + 2, 0, none⟩)]] W fun e w' => e = .returned (.tuple #[]) ∧ TxK M s s.size (textsS s) w' ∧ Below M W w' := by
  refine outside_c s hs 38 _ (enters_of Tryz.func38 (by kernel_rfl) rfl) M (TxK M s) (txStep s) (fun _ _ _ n h => h.draws n) ?_ _ W h0 hM
  intro st i c r W2 hc hK hB
  exact texts1_c M s hs i st c r _ _ (itemL_len c r).1 W2 hc hK
set_option maxRecDepth 100000 in
set_option maxHeartbeats 8000000 in
theorem texts_c (s : ByteArray) (hs : s.size ≤ 11000000) (w : World) :
    Calls Tryz.prog 19 #[.string s] w fun e w' => ∃ v, e = .returned v ∧ w'.ownsRow w.heap.size 9 1 v (textsL s).length ((textsL s).map Value.string) ∧ Below w.heap.size w w' := by
  obtain ⟨W, hW, b0, b1, b2, b3, hz, hb⟩ := start4 w (.cells #[.string s] 9) (.cells #[.slice none 0 0] 34) (.cells #[.int .i64 0] 3) (.cells #[.bool false] 4)
  have hK : TxK w.heap.size s 0 ⟨[], 0, false⟩ W := ⟨by omega, Nat.zero_le _, Nat.zero_le _, _, b0, b1, b2, b3, World.ownsRow_nil _ _ _ _⟩
  have HC := Lib.hid (out_texts s hs w.heap.size W hK (by omega))
  have HW := Lib.hid hW; have HB := Lib.hid hb
  have htl : textsL s = (textsS s).l ++ [s.extract (textsS s).from_ s.size] := rfl
  clear hW b0 b1 b2 b3 hz hb hK
  generalize textsS s = S at *
  have HT := Lib.hid htl
  clear htl
  go_enter Tryz.func19, Tryz.ntmps19
  go_upto_region 4 with (first
    | (go_at_call 37; rw [← HW.out]; refine HC.out.mono ?_; rintro e w1 ⟨rfl, hk, hb1⟩; have HK := Lib.hid hk; have HB1 := Lib.hid (HB.out.trans hb1); clear hk hb1))
  obtain ⟨hM, hf, hll, v, g0, g1, g2, g3, hown⟩ := HK.out
  have c0 := Joins.cell_of_block g0 0
  have c1 := Joins.cell_of_block g1 0
  have c2 := Joins.cell_of_block g2 0
  simp at c0 c1 c2
  have hsz := HB1.out.size
  have HO := Lib.hid hown; have G0 := Lib.hid g0; have G1 := Lib.hid g1; have G2 := Lib.hid g2; have G3 := Lib.hid g3
  clear hown g0 g1 g2 g3
  have hfi : (S.from_ : Int) ≤ (s.size : Int) := by omega
  have hlen : (S.l.length + 1) * 16 ≤ 140737488355328 := by omega
  have hd : Hid (∀ o, (w1.alloc o).drew = w1.drew.alloc o) := Lib.hid fun _ => rfl
  have hm0 : w.heap.size < w1.heap.size := by omega
  have hm1 : w.heap.size + 1 < w1.heap.size := by omega
  have hm2 : w.heap.size + 2 < w1.heap.size := by omega
  have hm2' : w.heap.size + 1 + 1 < w1.heap.size := by omega
  go_region_law (rw [hd.out]; refine step_append_cells (w0 := w1) (W := w1.drew) (w.heap.size + 4) rfl (.tmp 9) (.tmp 13) 34 9 (.string ⟨#[]⟩) 1 16 rfl rfl infoStr (by kernel_rfl) (by omega) (by omega) v S.l.length (S.l.map Value.string) [.string (s.extract S.from_ s.size)] (by simp [Act.eval, Act.put]) (by simp [Act.eval, Act.put]) rfl (by simp [Value.oneCell']) HO.out (Below.refl _ _).drew hM hlen ?_; intro v1 w2 hown hb hg hat; clear hg hat; obtain ⟨g, cap, rfl⟩ := Joins.ownsRow_form hown (by omega); have HN := Lib.hid hown; have HBB := Lib.hid hb; clear hown hb)
  all_goals (
    go_wp2
    go_ret
    refine ⟨_, rfl, ?_, HB1.out.trans (Joins.below_le HBB.out (by omega))⟩
    rw [HT.out, List.length_append, List.map_append]
    exact Joins.ownsRow_le HN.out (by omega))
end Go.Proofs.YtpcncpegbboljaaGreatDoor.Addr
namespace Go.Proofs.YtpcncpegbboljaaGreatDoor.Addr
open Go.RowKit Go.Lib Go.Proofs.YtpcncpegbboljaaGreatDoor Go.Proofs.YtpcncpegbboljaaGreatDoor.Pure Go.Proofs.YtpcncpegbboljaaGreatDoorW.PrintWords
set_option linter.unusedVariables false
set_option linter.unusedSimpArgs false
theorem qGo_yes : ∀ (n : Nat) (l : List UInt8), l.length ≤ n → (qGo l).2 = true → 1 ≤ (qGo l).1
  | _, [], _, h => by simp [qGo] at h
  | _, [c], _, h => by simp only [qGo] at h ⊢; split <;> simp
  | 0, c :: d :: r, hl, _ => by simp at hl
  | n + 1, c :: d :: r, hl, h => by
    simp only [qGo]
    split
    · show 1 ≤ _ + 2; omega
    · split
      · exact Nat.le_refl 1
      · show 1 ≤ _ + 1; omega
theorem pGo_yes : ∀ (l : List UInt8) (deep : Nat), (pGo deep l).2 = true → 1 ≤ (pGo deep l).1
  | [], _, h => by simp [pGo] at h
  | [c], deep, h => by simp only [pGo]; split <;> simp
  | c :: d :: r, deep, h => by
    simp only [pGo]
    split
    · show 1 ≤ _ + 2; omega
    · split
      · show 1 ≤ _ + 1; omega
      · split
        · split
          · exact Nat.le_refl 1
          · show 1 ≤ _ + 1; omega
        · show 1 ≤ _ + 1; omega
theorem itemL_two (c : UInt8) (r : List UInt8) (h : (itemL (c :: r)).2 = true) : 2 ≤ (itemL (c :: r)).1 := by
  by_cases hc : c = 34 ∨ c = 40
  · have e : itemL (c :: r) = stretchL (c :: r) := by simp only [itemL]; rw [if_pos hc]
    rw [e] at h ⊢
    by_cases h34 : c = 34
    · have e2 : stretchL (c :: r) = ((qGo r).1 + 1, (qGo r).2) := by simp only [stretchL]; rw [if_pos h34]
      rw [e2] at h ⊢
      have := qGo_yes _ r (Nat.le_refl _) h
      show 2 ≤ _ + 1; omega
    · have e2 : stretchL (c :: r) = ((pGo 1 r).1 + 1, (pGo 1 r).2) := by simp only [stretchL]; rw [if_neg h34]
      rw [e2] at h ⊢
      have := pGo_yes r 1 h
      show 2 ≤ _ + 1; omega
  · have e : itemL (c :: r) = (1, false) := by simp only [itemL]; rw [if_neg hc]
    rw [e] at h; cases h
theorem innerL_len (l : List UInt8) (e : Bool) : (innerL l e).length ≤ l.length := by
  unfold innerL midL
  refine Nat.le_trans (bareL_len _ _ (Nat.le_refl _)) ?_
  split
  · rw [List.length_take, List.length_drop]; omega
  · rw [List.length_drop]; omega
structure BxSt where
  a : Int
  z : Int
  remark : List UInt8
  found : Bool
  rest : List UInt8
def bxStep (s : ByteArray) (st : BxSt) (i n : Nat) (e : Bool) : BxSt :=
  match s.data.toList.drop i with
  | [] => st
  | c :: r =>
    if c = 60 ∧ st.a < 0 then { st with a := (i : Int), rest := st.rest ++ (c :: r).take n }
    else if c = 62 ∧ ¬ st.a < 0 ∧ st.z < 0 then { st with z := (i : Int), rest := st.rest ++ (c :: r).take n }
    else if c = 40 then (if st.found = true then st else { st with remark := innerL ((c :: r).take n) e, found := true })
    else { st with rest := st.rest ++ (c :: r).take n }
structure BxC (M : Nat) (s : ByteArray) (st : BxSt) (w : World) : Prop where
  size : M + 7 ≤ w.heap.size
  b0 : w.heap[M]? = some (.cells #[.string s] 9 (0, 0))
  b1 : w.heap[M + 1]? = some (.cells #[.string ⟨#[]⟩, .string ⟨#[]⟩] 32 (0, 0))
  b2 : w.heap[M + 2]? = some (.cells #[.int .i64 st.a] 3 (0, 0))
  b3 : w.heap[M + 3]? = some (.cells #[.int .i64 st.z] 3 (0, 0))
  b4 : w.heap[M + 4]? = some (.cells #[.string ⟨st.remark.toArray⟩] 9 (0, 0))
  b5 : w.heap[M + 5]? = some (.cells #[.bool st.found] 4 (0, 0))
  b6 : IsBuilderF 48 5 (M + 6) (M + 6) (byteCells st.rest) w
structure BxIn (s : ByteArray) (i : Nat) (st : BxSt) : Prop where
  a : st.a = -1 ∨ ∃ f : Nat, st.a = (f : Int) ∧ f < i ∧ f < s.size
  z : st.z = -1 ∨ ∃ f t : Nat, st.a = (f : Int) ∧ st.z = (t : Int) ∧ f < t ∧ t < i ∧ t < s.size
  remark : st.remark.length ≤ i
  rest : st.rest.length ≤ i
def BxK (M : Nat) (s : ByteArray) (i : Nat) (st : BxSt) (w : World) : Prop := BxC M s st w ∧ BxIn s i st
theorem BxK.draws {M : Nat} {s : ByteArray} {i : Nat} {st : BxSt} {w : World} (n : Nat) (h : BxK M s i st w) : BxK M s i st (w.drewN n) := ⟨⟨h.1.1, h.1.2, h.1.3, h.1.4, h.1.5, h.1.6, h.1.7, h.1.8⟩, h.2⟩
theorem rowF_low {w : World} {B n k : Nat} {v x : Value} {xs : List Value} (h : w.ownsRowF B 5 1 v n xs) (hk : k < B) : (w.setCell ⟨k, 0, none⟩ x).ownsRowF B 5 1 v n xs := by
  refine ⟨h.1, h.2.elim Or.inl fun ⟨g, cap, cur, fz, hv, hg, hh, r⟩ => Or.inr ⟨g, cap, cur, fz, hv, hg, ?_, r⟩⟩
  exact (Deep.blk_setCell_other w ⟨k, 0, none⟩ x g (by show g ≠ k; omega)).trans hh
theorem isB_low {w : World} {B E k : Nat} {x : Value} {bs : List Value} (h : IsBuilderF 48 5 B E bs w) (hk : k < B) : IsBuilderF 48 5 B E bs (w.setCell ⟨k, 0, none⟩ x) := by
  have key : ∀ p, BuilderAtF 48 5 B E p bs w → BuilderAtF 48 5 B E p bs (w.setCell ⟨k, 0, none⟩ x) := by
    rintro p ⟨hB, u, hb, ho, hn⟩
    exact ⟨hB, u, (Deep.blk_setCell_other w ⟨k, 0, none⟩ x E (by show E ≠ k; omega)).trans hb, rowF_low ho hk, hn⟩
  exact h.elim (fun h => .inl (key _ h)) (fun h => .inr (key _ h))
theorem isB_below {B E : Nat} {bs : List Value} {w w' : World} (h : IsBuilderF 48 5 B E bs w) (hb : Below w.heap.size w w') : IsBuilderF 48 5 B E bs w' := by
  have key : ∀ k x, w.heap[k]? = some x → w'.heap[k]? = some x := fun k x hk => (hb.block k (Array.getElem?_eq_some_iff.1 hk).1).trans hk
  have k2 : ∀ p, BuilderAtF 48 5 B E p bs w → BuilderAtF 48 5 B E p bs w' := by
    rintro p ⟨hB, u, h1, h2, hn⟩
    exact ⟨hB, u, key _ _ h1, ⟨h2.1, h2.2.elim Or.inl fun ⟨g, cap, cur, fz, hv, hg, hh, r⟩ => Or.inr ⟨g, cap, cur, fz, hv, hg, key _ _ hh, r⟩⟩, hn⟩
  exact h.elim (fun h => .inl (k2 _ h)) (fun h => .inr (k2 _ h))
theorem BxC.set_a {M : Nat} {s : ByteArray} {st : BxSt} {w : World} (h : BxC M s st w) (x : Int) : BxC M s { st with a := x } (w.setCell ⟨M + 2, 0, none⟩ (.int .i64 x)) := by
  have ne : ∀ k, k ≠ M + 2 → (w.setCell ⟨M + 2, 0, none⟩ (.int .i64 x)).heap[k]? = w.heap[k]? := fun k hk => Deep.blk_setCell_other w ⟨M + 2, 0, none⟩ _ k hk
  exact ⟨by simp; exact h.size, (ne _ (by omega)).trans h.b0, (ne _ (by omega)).trans h.b1, Joins.block_setCell h.b2 _, (ne _ (by omega)).trans h.b3, (ne _ (by omega)).trans h.b4, (ne _ (by omega)).trans h.b5, isB_low h.b6 (by omega)⟩
theorem BxC.set_z {M : Nat} {s : ByteArray} {st : BxSt} {w : World} (h : BxC M s st w) (x : Int) : BxC M s { st with z := x } (w.setCell ⟨M + 3, 0, none⟩ (.int .i64 x)) := by
  have ne : ∀ k, k ≠ M + 3 → (w.setCell ⟨M + 3, 0, none⟩ (.int .i64 x)).heap[k]? = w.heap[k]? := fun k hk => Deep.blk_setCell_other w ⟨M + 3, 0, none⟩ _ k hk
  exact ⟨by simp; exact h.size, (ne _ (by omega)).trans h.b0, (ne _ (by omega)).trans h.b1, (ne _ (by omega)).trans h.b2, Joins.block_setCell h.b3 _, (ne _ (by omega)).trans h.b4, (ne _ (by omega)).trans h.b5, isB_low h.b6 (by omega)⟩
theorem BxC.set_remark {M : Nat} {s : ByteArray} {st : BxSt} {w : World} (h : BxC M s st w) (x : List UInt8) : BxC M s { st with remark := x } (w.setCell ⟨M + 4, 0, none⟩ (.string ⟨x.toArray⟩)) := by
  have ne : ∀ k, k ≠ M + 4 → (w.setCell ⟨M + 4, 0, none⟩ (.string ⟨x.toArray⟩)).heap[k]? = w.heap[k]? := fun k hk => Deep.blk_setCell_other w ⟨M + 4, 0, none⟩ _ k hk
  exact ⟨by simp; exact h.size, (ne _ (by omega)).trans h.b0, (ne _ (by omega)).trans h.b1, (ne _ (by omega)).trans h.b2, (ne _ (by omega)).trans h.b3, Joins.block_setCell h.b4 _, (ne _ (by omega)).trans h.b5, isB_low h.b6 (by omega)⟩
theorem BxC.set_found {M : Nat} {s : ByteArray} {st : BxSt} {w : World} (h : BxC M s st w) (x : Bool) : BxC M s { st with found := x } (w.setCell ⟨M + 5, 0, none⟩ (.bool x)) := by
  have ne : ∀ k, k ≠ M + 5 → (w.setCell ⟨M + 5, 0, none⟩ (.bool x)).heap[k]? = w.heap[k]? := fun k hk => Deep.blk_setCell_other w ⟨M + 5, 0, none⟩ _ k hk
  exact ⟨by simp; exact h.size, (ne _ (by omega)).trans h.b0, (ne _ (by omega)).trans h.b1, (ne _ (by omega)).trans h.b2, (ne _ (by omega)).trans h.b3, (ne _ (by omega)).trans h.b4, Joins.block_setCell h.b5 _, isB_low h.b6 (by omega)⟩
theorem BxC.below {M : Nat} {s : ByteArray} {st : BxSt} {w w' : World} (h : BxC M s st w) (hb : Below w.heap.size w w') : BxC M s st w' := by
  have key : ∀ k, k < M + 7 → w'.heap[k]? = w.heap[k]? := fun k hk => hb.block k (by have := h.size; omega)
  exact ⟨Nat.le_trans h.size hb.size, (key _ (by omega)).trans h.b0, (key _ (by omega)).trans h.b1, (key _ (by omega)).trans h.b2, (key _ (by omega)).trans h.b3, (key _ (by omega)).trans h.b4, (key _ (by omega)).trans h.b5, isB_below h.b6 hb⟩
theorem BxC.write {M : Nat} {s : ByteArray} {st : BxSt} {w w' : World} {l : List UInt8} (h : BxC M s st w) (hb : Below (M + 6) w w') (hi : IsBuilderF 48 5 (M + 6) (M + 6) (byteCells l) w') : BxC M s { st with rest := l } w' := by
  have key : ∀ k, k < M + 6 → w'.heap[k]? = w.heap[k]? := fun k hk => hb.block k hk
  exact ⟨Nat.le_trans h.size hb.size, (key _ (by omega)).trans h.b0, (key _ (by omega)).trans h.b1, (key _ (by omega)).trans h.b2, (key _ (by omega)).trans h.b3, (key _ (by omega)).trans h.b4, (key _ (by omega)).trans h.b5, hi⟩
theorem write_c (M : Nat) (s : ByteArray) (st : BxSt) (x : ByteArray) (W : World) (h : BxC M s st W) (hl : st.rest.length + x.size ≤ 100000000000000) :
    Calls Tryz.prog 41 #[.pointer (some ⟨M + 6, 0, none⟩), .string x] W fun e w' => e = .returned (.tuple #[.int .i64 x.size, .nilIface]) ∧ (BxC M s { st with rest := st.rest ++ x.data.toList } w' ∧ Below M W w') := by
  refine (Bld.WriteString_k _ _ _ x W h.b6 (by rw [byteCells_length]; omega) (by have := h.size; omega)).mono ?_
  rintro e w' ⟨rfl, k1, k2, _⟩
  exact ⟨rfl, h.write k2 (by rw [byteCells_append]; exact k1), Joins.below_le k2 (by omega)⟩
theorem grow_in {s : ByteArray} {i : Nat} {st : BxSt} (h : BxIn s i st) (n : Nat) : BxIn s (i + n) st := by
  refine ⟨h.a.imp (fun h => h) (fun ⟨f, h, h2, h3⟩ => ⟨f, h, by omega, h3⟩), h.z.imp (fun h => h) (fun ⟨f, t, h, h2, h3, h4, h5⟩ => ⟨f, t, h, h2, h3, by omega, h5⟩), ?_, ?_⟩
  · have := h.remark; omega
  · have := h.rest; omega
set_option maxRecDepth 100000 in
set_option maxHeartbeats 8000000 in
theorem box1_c (M : Nat) (s : ByteArray) (hs : s.size ≤ 11000000) (i : Nat) (st : BxSt) (c : UInt8) (r : List UInt8) (n : Nat) (b : Bool) (hn : 1 ≤ n) (hnr : n ≤ r.length + 1) (hb2 : b = true → 2 ≤ n) (w : World) (hc : s.data.toList.drop i = c :: r) (hK : BxK M s i st w) :
    Calls Tryz.prog 39 #[.int .i64 (i : Int), .int .i64 (n : Int), .bool b, .pointer (some ⟨M, 0, none⟩), .pointer (some ⟨M + 2, 0, none⟩), .pointer (some ⟨M + 3, 0, none⟩), .pointer (some ⟨M + 5, 0, none⟩), .pointer (some ⟨M + 4, 0, none⟩), .pointer (some ⟨M + 6, 0, none⟩)] w
      fun e w' => e = .returned (.tuple #[]) ∧ BxK M s (i + n) (bxStep s st i n b) w' ∧ Below M w w' := by
  obtain ⟨hC, hI⟩ := hK
  have hl : s.data.toList.length = s.size := by simp
  have hlen := congrArg List.length hc
  rw [List.length_drop, hl, List.length_cons] at hlen
  have hlt : i < s.size := by omega
  have hsc : s[i] = c := by
    have e := List.drop_eq_getElem_cons (l := s.data.toList) (i := i) (by rw [hl]; exact hlt)
    rw [hc] at e
    injection e with e1 _
    exact e1.symm
  have hlti : (i : Int) < (s.size : Int) := by omega
  have hin : (i : Int) + (n : Int) ≤ (s.size : Int) := by omega
  have hin0 : (i : Int) ≤ (i : Int) + (n : Int) := by omega
  have hin2 : ((i : Int) + (n : Int)).toNat = i + n := by omega
  have hiB : i ≤ 11000000 := by omega
  have hnB : n ≤ 11000000 := by omega
  obtain ⟨X, hX⟩ : ∃ X, s.extract i (i + n) = X := ⟨_, rfl⟩
  have hXd : X.data.toList = (c :: r).take n := by rw [← hX, extract_list, List.drop_take, hc]; congr 1; omega
  have hXz : X.size = n := by rw [← hX]; simp; omega
  have hst : bxStep s st i n b = if c = 60 ∧ st.a < 0 then { st with a := (i : Int), rest := st.rest ++ X.data.toList }
    else if c = 62 ∧ ¬ st.a < 0 ∧ st.z < 0 then { st with z := (i : Int), rest := st.rest ++ X.data.toList }
    else if c = 40 then (if st.found = true then st else { st with remark := innerL X.data.toList b, found := true })
    else { st with rest := st.rest ++ X.data.toList } := by
    unfold bxStep; rw [hc, hXd]
  have hrl := hI.rest
  have hz1 := hI.z
  have ha1 := hI.a
  have hXl : X.data.toList.length = n := by rw [← hXz]; simp
  have wfin : ∀ (st' : BxSt), (st'.a = st.a ∨ st'.a = (i : Int) ∧ st.a < 0) → (st'.z = st.z ∨ st'.z = (i : Int) ∧ ¬ st.a < 0 ∧ st'.a = st.a) → st'.remark = st.remark → st'.rest = st.rest ++ X.data.toList → BxIn s (i + n) st' := by
    intro st' e1 e2 e3 e4
    refine ⟨?_, ?_, by rw [e3]; have := hI.remark; omega, by rw [e4, List.length_append, hXl]; omega⟩
    · rcases e1 with e1 | ⟨e1, _⟩
      · rw [e1]; rcases ha1 with h | ⟨f, h, h2, h3⟩
        · exact .inl h
        · exact .inr ⟨f, h, by omega, h3⟩
      · exact .inr ⟨i, e1, by omega, hlt⟩
    · rcases e2 with e2 | ⟨e2, e3, e4⟩
      · rw [e2]; rcases hz1 with h | ⟨f, t, h, h2, h3, h4, h5⟩
        · exact .inl h
        · rcases e1 with e1 | ⟨e1, e5⟩
          · exact .inr ⟨f, t, by rw [e1]; exact h, h2, h3, by omega, h5⟩
          · omega
      · rcases ha1 with h | ⟨f, h, h2, h3⟩
        · omega
        · exact .inr ⟨f, i, by rw [e4]; exact h, e2, h2, by omega, hlt⟩
  have WFIN := Lib.hid wfin
  have c0 := Joins.cell_of_block hC.b0 0
  have c2 := Joins.cell_of_block hC.b2 0
  have c3 := Joins.cell_of_block hC.b3 0
  have c4 := Joins.cell_of_block hC.b4 0
  have c5 := Joins.cell_of_block hC.b5 0
  have u2 := Joins.unfrozen_of_block hC.b2 0
  have u3 := Joins.unfrozen_of_block hC.b3 0
  have u4 := Joins.unfrozen_of_block hC.b4 0
  have u5 := Joins.unfrozen_of_block hC.b5 0
  simp at c0 c2 c3 c4 c5
  have hM := hC.size
  have hbig : st.rest.length + X.size ≤ 100000000000000 := by omega
  have HST := Lib.hid hst; have HC := Lib.hid hC; have HI := Lib.hid hI; have HXD := Lib.hid hXd; have HXZ := Lib.hid hXz; have HXL := Lib.hid hXl
  clear wfin hst hC hI hXd hXz hXl hc hl hz1 ha1 hlen
  by_cases h60 : c = 60
  · subst h60
    by_cases ha : st.a < 0
    · have han : ¬ 0 ≤ st.a := by omega
      have HE : Hid (bxStep s st i n b = { { st with a := (i : Int) } with rest := ({ st with a := (i : Int) }).rest ++ X.data.toList }) := Lib.hid (by rw [HST.out]; rw [if_pos ⟨rfl, ha⟩])
      go_enter Tryz.func39, Tryz.ntmps39
      go_wp2_with (go_at_call 41; refine (write_c M s ({ st with a := (i : Int) }) X _ (HC.out.set_a (i : Int)) hbig).mono ?_; rintro e W1 ⟨rfl, k1, k2⟩; have K1 := Lib.hid k1; have K2 := Lib.hid (((Below.refl M w).setCell (p := ⟨M + 2, 0, none⟩) (by show M ≤ M + 2; omega) _).trans k2); clear k1 k2)
      go_end0
      rw [HE.out]
      exact ⟨rfl, ⟨K1.out, WFIN.out _ (.inr ⟨rfl, ha⟩) (.inl rfl) rfl rfl⟩, K2.out⟩
    · have han : 0 ≤ st.a := by omega
      have HE : Hid (bxStep s st i n b = { st with rest := (st).rest ++ X.data.toList }) := Lib.hid (by rw [HST.out]; rw [if_neg (fun h => ha h.2), if_neg (fun h => absurd h.1 (by decide)), if_neg (by decide)])
      go_enter Tryz.func39, Tryz.ntmps39
      go_wp2_with (go_at_call 41; refine (write_c M s (st) X _ (HC.out) hbig).mono ?_; rintro e W1 ⟨rfl, k1, k2⟩; have K1 := Lib.hid k1; have K2 := Lib.hid (k2); clear k1 k2)
      go_end0
      rw [HE.out]
      exact ⟨rfl, ⟨K1.out, WFIN.out _ (.inl rfl) (.inl rfl) rfl rfl⟩, K2.out⟩
  · by_cases h62 : c = 62
    · subst h62
      by_cases ha : st.a < 0
      · have han : ¬ 0 ≤ st.a := by omega
        have HE : Hid (bxStep s st i n b = { st with rest := (st).rest ++ X.data.toList }) := Lib.hid (by rw [HST.out]; rw [if_neg (fun h => absurd h.1 (by decide)), if_neg (fun h => h.2.1 ha), if_neg (by decide)])
        go_enter Tryz.func39, Tryz.ntmps39
        go_wp2_with (go_at_call 41; refine (write_c M s (st) X _ (HC.out) hbig).mono ?_; rintro e W1 ⟨rfl, k1, k2⟩; have K1 := Lib.hid k1; have K2 := Lib.hid (k2); clear k1 k2)
        go_end0
        rw [HE.out]
        exact ⟨rfl, ⟨K1.out, WFIN.out _ (.inl rfl) (.inl rfl) rfl rfl⟩, K2.out⟩
      · have han : 0 ≤ st.a := by omega
        by_cases hz : st.z < 0
        · have HE : Hid (bxStep s st i n b = { { st with z := (i : Int) } with rest := ({ st with z := (i : Int) }).rest ++ X.data.toList }) := Lib.hid (by rw [HST.out]; rw [if_neg (fun h => absurd h.1 (by decide)), if_pos ⟨rfl, ha, hz⟩])
          go_enter Tryz.func39, Tryz.ntmps39
          go_wp2_with (go_at_call 41; refine (write_c M s ({ st with z := (i : Int) }) X _ (HC.out.set_z (i : Int)) hbig).mono ?_; rintro e W1 ⟨rfl, k1, k2⟩; have K1 := Lib.hid k1; have K2 := Lib.hid (((Below.refl M w).setCell (p := ⟨M + 3, 0, none⟩) (by show M ≤ M + 3; omega) _).trans k2); clear k1 k2)
          go_end0
          rw [HE.out]
          exact ⟨rfl, ⟨K1.out, WFIN.out _ (.inl rfl) (.inr ⟨rfl, ha, rfl⟩) rfl rfl⟩, K2.out⟩
        · have HE : Hid (bxStep s st i n b = { st with rest := (st).rest ++ X.data.toList }) := Lib.hid (by rw [HST.out]; rw [if_neg (fun h => absurd h.1 (by decide)), if_neg (fun h => hz h.2.2), if_neg (by decide)])
          go_enter Tryz.func39, Tryz.ntmps39
          go_wp2_with (go_at_call 41; refine (write_c M s (st) X _ (HC.out) hbig).mono ?_; rintro e W1 ⟨rfl, k1, k2⟩; have K1 := Lib.hid k1; have K2 := Lib.hid (k2); clear k1 k2)
          go_end0
          rw [HE.out]
          exact ⟨rfl, ⟨K1.out, WFIN.out _ (.inl rfl) (.inl rfl) rfl rfl⟩, K2.out⟩
    · by_cases h40 : c = 40
      · subst h40
        have e0 : st.found = true ∨ st.found = false := by cases st.found <;> simp
        rcases e0 with hf | hf
        · have HE : Hid (bxStep s st i n b = st) := Lib.hid (by rw [HST.out, if_neg (fun h => absurd h.1 (by decide)), if_neg (fun h => absurd h.1 (by decide)), if_pos rfl, if_pos hf])
          rw [hf] at c5
          go_enter Tryz.func39, Tryz.ntmps39
          go_wp2
          refine bodyPost_ret (results_none rfl _ _ _) rfl ?_
          rw [HE.out]
          exact ⟨rfl, ⟨HC.out, grow_in HI.out n⟩, Below.refl M w⟩
        · have HE : Hid (bxStep s st i n b = { st with remark := innerL X.data.toList b, found := true }) := Lib.hid (by rw [HST.out, if_neg (fun h => absurd h.1 (by decide)), if_neg (fun h => absurd h.1 (by decide)), if_pos rfl, if_neg (by rw [hf]; decide)])
          rw [hf] at c5
          have hX1 : 1 ≤ X.size := by rw [HXZ.out]; exact hn
          have hX2 : b = true → 2 ≤ X.size := by rw [HXZ.out]; exact hb2
          have hXs : X.size ≤ 11000000 := by rw [HXZ.out]; exact hnB
          have HIN := Lib.hid (fun W => inner_c X b hXs hX1 hX2 W)
          have hil := innerL_len X.data.toList b
          rw [HXL.out] at hil
          have HIL := Lib.hid hil
          clear hX1 hX2 hXs hil hb2
          go_enter Tryz.func39, Tryz.ntmps39
          go_wp2_with (go_at_call 40; refine (HIN.out _).mono ?_; rintro e W1 ⟨rfl, k2⟩; have B1 := Lib.hid k2; have C1 := HC.out.below k2; have v4 := Joins.unfrozen_of_block C1.b4 0; have v5 := Joins.unfrozen_of_block C1.b5 0; have d4 := Joins.cell_of_block C1.b4 0; have d5 := Joins.cell_of_block C1.b5 0; simp at d4 d5; have hs1 := k2.size; have HC1 := Lib.hid C1; clear k2 C1)
          refine bodyPost_ret (results_none rfl _ _ _) rfl ?_
          rw [HE.out]
          refine ⟨rfl, ⟨((HC1.out.set_remark (innerL X.data.toList b)).set_found true), HI.out.a.imp (fun h => h) (fun ⟨f, h, h2, h3⟩ => ⟨f, h, by omega, h3⟩), HI.out.z.imp (fun h => h) (fun ⟨f, t, h, h2, h3, h4, h5⟩ => ⟨f, t, h, h2, h3, by omega, h5⟩), ?_, ?_⟩, ?_⟩
          · show (innerL X.data.toList b).length ≤ _
            have := HIL.out
            omega
          · show st.rest.length ≤ _
            omega
          · exact ((B1.out.mono (by omega)).setCell (p := ⟨M + 4, 0, none⟩) (by show M ≤ M + 4; omega) _).setCell (p := ⟨M + 5, 0, none⟩) (by show M ≤ M + 5; omega) _
      · have HE : Hid (bxStep s st i n b = { st with rest := (st).rest ++ X.data.toList }) := Lib.hid (by rw [HST.out]; rw [if_neg (fun h => h60 h.1), if_neg (fun h => h62 h.1), if_neg h40])
        have e1 : ((c.toNat : Int) == 60) = false := u8f h60 (by decide)
        have e2 : ((c.toNat : Int) == 62) = false := u8f h62 (by decide)
        have e3 : ((c.toNat : Int) == 40) = false := u8f h40 (by decide)
        clear h60 h62 h40
        go_enter Tryz.func39, Tryz.ntmps39
        go_wp2_with (go_at_call 41; refine (write_c M s (st) X _ (HC.out) hbig).mono ?_; rintro e W1 ⟨rfl, k1, k2⟩; have K1 := Lib.hid k1; have K2 := Lib.hid (k2); clear k1 k2)
        go_end0
        rw [HE.out]
        exact ⟨rfl, ⟨K1.out, WFIN.out _ (.inl rfl) (.inl rfl) rfl rfl⟩, K2.out⟩
end Go.Proofs.YtpcncpegbboljaaGreatDoor.Addr
namespace Go.Proofs.YtpcncpegbboljaaGreatDoor.B64
open Go.RowKit Go.Lib Go.Proofs.YtpcncpegbboljaaGreatDoor Go.Proofs.YtpcncpegbboljaaGreatDoor.Row
set_option linter.unusedVariables false
set_option linter.unusedSimpArgs false
structure Gat (M : Nat) (F T : Int) (ov : Value) (all bits : Int) (w : World) : Prop where
  b0 : w.heap[M]? = some (.cells #[.int .i64 F] 3 (0, 0))
  b1 : w.heap[M + 1]? = some (.cells #[.int .i64 T] 3 (0, 0))
  b2 : w.heap[M + 2]? = some (.cells #[ov] 83 (0, 0))
  b3 : w.heap[M + 3]? = some (.cells #[.int .i64 all] 3 (0, 0))
  b4 : w.heap[M + 4]? = some (.cells #[.int .i64 bits] 3 (0, 0))
theorem Gat.kept {M : Nat} {F T : Int} {ov : Value} {all bits : Int} {w w' : World} {E : Nat} (h : Gat M F T ov all bits w) (hE : E < M) (hk : OthersKept 5 (some E) w w') : Gat M F T ov all bits w' := by
  have key : ∀ k (cs : Array Value) t, t ≠ 5 → E < k → w.heap[k]? = some (.cells cs t (0, 0)) → w'.heap[k]? = some (.cells cs t (0, 0)) := by
    intro k cs t ht hk1 h1
    refine hk k _ h1 (by simp <;> omega) ?_
    intro c fz e
    injection e with _ e2 _
    exact ht e2
  exact ⟨key _ _ _ (by decide) (by omega) h.b0, key _ _ _ (by decide) (by omega) h.b1, key _ _ _ (by decide) (by omega) h.b2, key _ _ _ (by decide) (by omega) h.b3, key _ _ _ (by decide) (by omega) h.b4⟩
theorem Gat.drewN {M : Nat} {F T : Int} {ov : Value} {all bits : Int} {w : World} (h : Gat M F T ov all bits w) (n : Nat) : Gat M F T ov all bits (w.drewN n) := ⟨h.b0, h.b1, h.b2, h.b3, h.b4⟩
abbrev gatV (M : Nat) : Value := .func (.func 110) #[] #[.pointer (some ⟨M + 3, 0, none⟩), .pointer (some ⟨M, 0, none⟩), .pointer (some ⟨M + 4, 0, none⟩), .pointer (some ⟨M + 1, 0, none⟩), .pointer (some ⟨M + 2, 0, none⟩)]
theorem al_new (w : World) (o : Obj) : (w.alloc o).heap[w.heap.size]? = some o := by
  exact Deep.blk_alloc_new w o
theorem al_new1 (w : World) (o : Obj) (k : Nat) (h : k = w.heap.size) : (w.alloc o).heap[k]? = some o := by subst h; exact al_new w o
abbrev outV (g E : Nat) : Value := .func (.func g) #[] #[.pointer (some ⟨E, 0, none⟩)]
set_option maxRecDepth 100000 in
set_option maxHeartbeats 4000000 in
theorem gather_c (F T : Int) (g E : Nat) (w : World) :
    Calls Tryz.prog 86 #[.int .i64 F, .int .i64 T, outV g E] w fun e w' => e = .returned (gatV w.heap.size) ∧ Below w.heap.size w w' ∧ Gat w.heap.size F T (outV g E) 0 0 w' ∧ OthersKept 5 none w w' ∧ w'.heap.size = w.heap.size + 5 := by
  have hmf : ∀ (fn : Fn) (first cap : Array Value) (w : World), (Instr.makeFunc fn first cap).run Tryz.prog w = .ok (.func fn first cap) w := fun _ _ _ _ => rfl
  unfold outV
  go_enter Tryz.func86, Tryz.ntmps86
  go_wp2_with fail
  go_ret
  have old : ∀ (v : World) (o : Obj) (k : Nat) x, k < v.heap.size → v.heap[k]? = some x → (v.alloc o).heap[k]? = some x := fun v o k x hk h => (Below.heap_alloc v o k hk).trans h
  refine ⟨rfl, ((((((Below.refl _ w).alloc (Nat.le_refl _) _).alloc (by simp) _).alloc (by simp <;> omega) _).alloc (by simp <;> omega) _).alloc (by simp <;> omega) _), ⟨?_, ?_, ?_, ?_, ?_⟩, ((((((OthersKept.refl _ _ w).alloc _).alloc _).alloc _).alloc _).alloc _), by simp⟩
  · exact old _ _ _ _ (by simp <;> omega) (old _ _ _ _ (by simp <;> omega) (old _ _ _ _ (by simp <;> omega) (old _ _ _ _ (by simp) (al_new1 _ _ _ rfl))))
  · exact old _ _ _ _ (by simp <;> omega) (old _ _ _ _ (by simp <;> omega) (old _ _ _ _ (by simp) (al_new1 _ _ _ (by simp))))
  · exact old _ _ _ _ (by simp <;> omega) (old _ _ _ _ (by simp) (al_new1 _ _ _ (by simp)))
  · exact old _ _ _ _ (by simp) (al_new1 _ _ _ (by simp))
  · exact al_new1 _ _ _ (by simp)
structure Sink (B E g T : Nat) (K : List Nat → World → Prop) (L : Nat) : Prop where
  call : ∀ (l : List Nat) (n : Nat) (w : World), K l w → n < 2 ^ T → l.length ≤ L → B ≤ w.heap.size →
    Calls Tryz.prog g #[.int .i64 (n : Int), .pointer (some ⟨E, 0, none⟩)] w fun e w' => e = .returned (.tuple #[]) ∧ K (l ++ [n]) w' ∧ Below B w w' ∧ OthersKept 5 (some E) w w'
  set : ∀ (l : List Nat) (w : World) (k : Nat) (cs : Array Value) (v : Value), K l w → k ≠ E → w.heap[k]? = some (.cells cs 3 (0, 0)) → K l (w.setCell ⟨k, 0, none⟩ v)
  drew : ∀ (l : List Nat) (w : World) (n : Nat), K l w → K l (w.drewN n)
theorem Gat.setAll {M : Nat} {F T : Int} {ov : Value} {all bits : Int} {w : World} (h : Gat M F T ov all bits w) (x : Int) : Gat M F T ov x bits (w.setCell ⟨M + 3, 0, none⟩ (.int .i64 x)) := by
  have ne : ∀ k, k ≠ M + 3 → (w.setCell ⟨M + 3, 0, none⟩ (.int .i64 x)).heap[k]? = w.heap[k]? := fun k hk => Deep.blk_setCell_other w ⟨M + 3, 0, none⟩ _ k hk
  refine ⟨(ne _ (by omega)).trans h.b0, (ne _ (by omega)).trans h.b1, (ne _ (by omega)).trans h.b2, ?_, (ne _ (by omega)).trans h.b4⟩
  exact Joins.block_setCell h.b3 _
theorem Gat.setBits {M : Nat} {F T : Int} {ov : Value} {all bits : Int} {w : World} (h : Gat M F T ov all bits w) (x : Int) : Gat M F T ov all x (w.setCell ⟨M + 4, 0, none⟩ (.int .i64 x)) := by
  have ne : ∀ k, k ≠ M + 4 → (w.setCell ⟨M + 4, 0, none⟩ (.int .i64 x)).heap[k]? = w.heap[k]? := fun k hk => Deep.blk_setCell_other w ⟨M + 4, 0, none⟩ _ k hk
  refine ⟨(ne _ (by omega)).trans h.b0, (ne _ (by omega)).trans h.b1, (ne _ (by omega)).trans h.b2, (ne _ (by omega)).trans h.b3, ?_⟩
  exact Joins.block_setCell h.b4 _
theorem wraps_i64 (n : Int) (h0 : 0 ≤ n) (h1 : n < 2 ^ 62) : IntKind.i64.wrap n = n := by rw [IntKind.wrap_i64]; omega
theorem orand6 (a n : Nat) (ha : a < 65536) (hn : n < 2 ^ 6) : bits BinOp.and .i64 (bits BinOp.or .i64 ((a : Int) * 64) (n : Int)) 65535 = (((a * 2 ^ 6 + n) % 65536 : Nat) : Int) := by
  have e1 : (a : Int) * 64 = ((a * 64 : Nat) : Int) := by omega
  rw [e1, (bits_nat .i64 62 (by decide) wraps_i64 (a * 64) n (by omega) (by omega)).2, nat_join 6 _ _ (by omega) (by omega)]
  have := bits_mask .i64 62 (by decide) wraps_i64 16 (by decide) ((a * 64 + n : Nat) : Int) (by omega) (by omega)
  rw [show ((2 : Int) ^ 16 - 1) = 65535 by decide] at this
  rw [this]
  omega
theorem orand8 (a n : Nat) (ha : a < 65536) (hn : n < 2 ^ 8) : bits BinOp.and .i64 (bits BinOp.or .i64 ((a : Int) * 256) (n : Int)) 65535 = (((a * 2 ^ 8 + n) % 65536 : Nat) : Int) := by
  have e1 : (a : Int) * 256 = ((a * 256 : Nat) : Int) := by omega
  rw [e1, (bits_nat .i64 62 (by decide) wraps_i64 (a * 256) n (by omega) (by omega)).2, nat_join 8 _ _ (by omega) (by omega)]
  have := bits_mask .i64 62 (by decide) wraps_i64 16 (by decide) ((a * 256 + n : Nat) : Int) (by omega) (by omega)
  rw [show ((2 : Int) ^ 16 - 1) = 65535 by decide] at this
  rw [this]
  omega
def emit (T a : Nat) : Nat → Nat → List Nat
  | 0, _ => []
  | k + 1, b => if T ≤ b then (a / 2 ^ (b - T)) % 2 ^ T :: emit T a k (b - T) else []
end Go.Proofs.YtpcncpegbboljaaGreatDoor.B64
namespace Go.Proofs.YtpcncpegbboljaaGreatDoor.B64
open Go.RowKit Go.Lib Go.Proofs.YtpcncpegbboljaaGreatDoor Go.Proofs.YtpcncpegbboljaaGreatDoor.Row
set_option linter.unusedVariables false
set_option linter.unusedSimpArgs false
set_option maxRecDepth 100000 in
set_option maxHeartbeats 8000000 in
theorem gat8_c (B E M L : Nat) (K : List Nat → World → Prop) (S : Sink B E 87 6 K (L + 2)) (l : List Nat) (a b n : Nat) (w : World)
    (hK : K l w) (hG : Gat M 8 6 (outV 87 E) a b w) (ha : a < 65536) (hb : b < 6) (hn : n < 2 ^ 8) (hl : l.length ≤ L) (hE : E < M) (hB : B ≤ E) (hBW : B ≤ w.heap.size) :
    Calls Tryz.prog 110 #[.int .i64 (n : Int), .pointer (some ⟨M + 3, 0, none⟩), .pointer (some ⟨M, 0, none⟩), .pointer (some ⟨M + 4, 0, none⟩), .pointer (some ⟨M + 1, 0, none⟩), .pointer (some ⟨M + 2, 0, none⟩)] w
      fun e w' => e = .returned (.int .i64 (((b + 8) % 6 : Nat) : Int)) ∧ K (l ++ emit 6 ((a * 2 ^ 8 + n) % 65536) 2 (b + 8)) w' ∧ Gat M 8 6 (outV 87 E) (((a * 2 ^ 8 + n) % 65536 : Nat) : Int) (((b + 8) % 6 : Nat) : Int) w' ∧ Below B w w' := by
  have hG : Gat M 8 6 (outV 87 E) a b w := hG
  have c0 := Joins.cell_of_block hG.b0 0
  have c1 := Joins.cell_of_block hG.b1 0
  have c2 := Joins.cell_of_block hG.b2 0
  have c3 := Joins.cell_of_block hG.b3 0
  have c4 := Joins.cell_of_block hG.b4 0
  have u3 := Joins.unfrozen_of_block hG.b3 0
  have u4 := Joins.unfrozen_of_block hG.b4 0
  simp at c0 c1 c2 c3 c4
  go_enter Tryz.func110, Tryz.ntmps110
  go_upto_region 1 with fail
  go_region
  rw [orand8 a n ha hn]
  generalize hAA : (a * 2 ^ 8 + n) % 65536 = A
  have hA : A < 65536 := by omega
  have G2 : Gat M 8 6 (outV 87 E) (A : Int) ((b + 8 : Nat) : Int) (((w.setCell ⟨M + 3, 0, none⟩ (.int .i64 (A : Int))).setCell ⟨M + 4, 0, none⟩ (.int .i64 ((b : Int) + 8))).drew) := by
    rw [show ((b + 8 : Nat) : Int) = (b : Int) + 8 by omega]
    exact (((hG.setAll (A : Int)).setBits ((b : Int) + 8))).drewN 1
  have K2 : K l (((w.setCell ⟨M + 3, 0, none⟩ (.int .i64 (A : Int))).setCell ⟨M + 4, 0, none⟩ (.int .i64 ((b : Int) + 8))).drew) := S.drew _ _ 1 (S.set _ _ _ _ _ (S.set _ _ _ _ _ hK (by omega) hG.b3) (by omega) (hG.setAll (A : Int)).b4)
  have B2 : Below B w (((w.setCell ⟨M + 3, 0, none⟩ (.int .i64 (A : Int))).setCell ⟨M + 4, 0, none⟩ (.int .i64 ((b : Int) + 8))).drew) := (((Below.refl B w).setCell (p := ⟨M + 3, 0, none⟩) (by show B ≤ M + 3; omega) _).setCell (p := ⟨M + 4, 0, none⟩) (by show B ≤ M + 4; omega) _).drew
  generalize World.drew _ = w2 at G2 K2 B2 ⊢
  clear c0 c1 c2 c3 c4 u3 u4 hK hG
  have HS := Lib.hid S
  clear S
  go_wp2
  go_loopw [] (fun wr => ∃ (k b' : Nat) (l' : List Nat), l' ++ emit 6 A k b' = l ++ emit 6 A 2 (b + 8) ∧ b' % 6 = (b + 8) % 6 ∧ b' < (k + 1) * 6 ∧ b' ≤ 13 ∧ l'.length + k ≤ L + 2 ∧ Gat M 8 6 (outV 87 E) (A : Int) (b' : Int) wr ∧ K l' wr ∧ Below B w wr) (fun wr => (RowKit.intOf ((wr.cell? ⟨M + 4, 0, none⟩).getD .nilFunc)).toNat)
  case atStart => exact ⟨2, b + 8, l, rfl, rfl, by omega, by omega, by omega, G2, K2, B2⟩
  case round =>
    obtain ⟨k, b', l', e1, e2, e3, e4, e5, G3, K3, B3⟩ := hrel
    have c1 := Joins.cell_of_block G3.b1 0
    have c2 := Joins.cell_of_block G3.b2 0
    have c3 := Joins.cell_of_block G3.b3 0
    have c4 := Joins.cell_of_block G3.b4 0
    have u4 := Joins.unfrozen_of_block G3.b4 0
    simp at c1 c2 c3 c4
    have HM := Lib.hid c4
    by_cases hT : 6 ≤ b'
    · obtain ⟨k, rfl⟩ : ∃ j, k = j + 1 := ⟨k - 1, by omega⟩
      have hT2 : (6 : Int) ≤ (b' : Int) := by omega
      have G4 : Gat M 8 6 (outV 87 E) (A : Int) ((b' - 6 : Nat) : Int) (wr.setCell ⟨M + 4, 0, none⟩ (.int .i64 ((b' : Int) - 6))) := by
        rw [show ((b' - 6 : Nat) : Int) = (b' : Int) - 6 by omega]
        exact G3.setBits _
      have K4 : K l' (wr.setCell ⟨M + 4, 0, none⟩ (.int .i64 ((b' : Int) - 6))) := HS.out.set _ _ _ _ _ K3 (by omega) G3.b4
      have B4 : Below B w (wr.setCell ⟨M + 4, 0, none⟩ (.int .i64 ((b' : Int) - 6))) := B3.setCell (p := ⟨M + 4, 0, none⟩) (by show B ≤ M + 4; omega) _
      go_upto_region 4 with fail
      obtain ⟨b2, hb2, hb3⟩ : ∃ b2 : Nat, b' = b2 + 6 ∧ b2 ≤ 7 := ⟨b' - 6, by omega, by omega⟩
      subst hb2
      rw [show b2 + 6 - 6 = b2 by omega] at G4
      generalize World.setCell wr _ _ = w4 at G4 K4 B4 ⊢
      clear G3 K3 B3 c1 c2 c3 c4 u4
      have c1 := Joins.cell_of_block G4.b1 0
      have c2 := Joins.cell_of_block G4.b2 0
      have c3 := Joins.cell_of_block G4.b3 0
      have c4 := Joins.cell_of_block G4.b4 0
      simp at c1 c2 c3 c4
      unfold outV at c2
      obtain ⟨q, hq⟩ : ∃ q, q = A / 2 ^ b2 := ⟨_, rfl⟩
      have hq2 : q ≤ A := by rw [hq]; exact Nat.div_le_self _ _
      have e9 : (A : Int) / 2 ^ b2 = (q : Int) := by rw [hq, Int.natCast_ediv]; simp
      have e9b : (A : Int) / 2 ^ b2 % 64 = ((q % 2 ^ 6 : Nat) : Int) := by rw [e9]; omega
      have hx : bits BinOp.and .i64 ((A : Int) / 2 ^ b2) (IntKind.i64.wrap (IntKind.i64.wrap 64 - 1)) = (A : Int) / 2 ^ b2 % 64 := by
        rw [show (IntKind.i64.wrap (IntKind.i64.wrap 64 - 1)) = (2 : Int) ^ 6 - 1 by decide, e9]
        exact bits_mask .i64 62 (by decide) wraps_i64 6 (by decide) (q : Int) (by omega) (by omega)
      have HC := Lib.hid (HS.out.call l' (q % 2 ^ 6) (w4.drew) (HS.out.drew _ _ 1 K4) (Nat.mod_lt _ (by decide)) (by omega) (Nat.le_trans hBW (by simpa using B4.size)))
      have EM : Hid ((l' ++ [q % 2 ^ 6]) ++ emit 6 A k b2 = l ++ emit 6 A 2 (b + 8)) := Lib.hid (by
        rw [← e1]
        have : emit 6 A (k + 1) (b2 + 6) = (A / 2 ^ b2) % 2 ^ 6 :: emit 6 A k b2 := by
          simp only [emit]
          rw [if_pos (by omega), show b2 + 6 - 6 = b2 by omega]
        rw [this, hq, List.append_assoc]
        rfl)
      clear e1
      have E9 := Lib.hid e9b
      have HX := Lib.hid hx
      clear e9 e9b hq hq2 hx
      go_region_with (go_at_call 87; rw [HX.out, E9.out]; refine (HC.out).mono ?_; rintro e w5 ⟨rfl, K5, B5, O5⟩)
      all_goals
        have hG5 : Gat M 8 6 (outV 87 E) (A : Int) (b2 : Int) w5 := (G4.drewN 1).kept hE O5
        have hm5 := Joins.cell_of_block hG5.b4 0
        simp at hm5
        have hm3 := HM.out
        go_wp2_with fail
        go_roundw
        case rel => exact ⟨k, b2, l' ++ [q % 2 ^ 6], EM.out, by omega, by omega, by omega, by simp; omega, hG5, K5, B4.drew.trans B5⟩
        case measure => rw [hm5, hm3]; simp [RowKit.intOf]; omega
    · have hT2 : ¬ (6 : Int) ≤ (b' : Int) := by omega
      go_wp2
      go_ret
      have e6 : emit 6 A k b' = [] := by cases k with
        | zero => rfl
        | succ k => simp only [emit]; rw [if_neg hT]
      rw [e6, List.append_nil] at e1
      subst e1
      have e7 : (b' : Int) = ((b : Int) + 8) % 6 := by omega
      rw [← e7]
      exact ⟨rfl, K3, G3, B3⟩
end Go.Proofs.YtpcncpegbboljaaGreatDoor.B64
namespace Go.Proofs.YtpcncpegbboljaaGreatDoor.B64
open Go.RowKit Go.Lib Go.Proofs.YtpcncpegbboljaaGreatDoor Go.Proofs.YtpcncpegbboljaaGreatDoor.Row
set_option linter.unusedVariables false
set_option linter.unusedSimpArgs false
set_option maxRecDepth 100000 in
set_option maxHeartbeats 8000000 in
theorem gat6_c (B E M L : Nat) (K : List Nat → World → Prop) (S : Sink B E 123 8 K (L + 2)) (l : List Nat) (a b n : Nat) (w : World)
    (hK : K l w) (hG : Gat M 6 8 (outV 123 E) a b w) (ha : a < 65536) (hb : b < 8) (hn : n < 2 ^ 6) (hl : l.length ≤ L) (hE : E < M) (hB : B ≤ E) (hBW : B ≤ w.heap.size) :
    Calls Tryz.prog 110 #[.int .i64 (n : Int), .pointer (some ⟨M + 3, 0, none⟩), .pointer (some ⟨M, 0, none⟩), .pointer (some ⟨M + 4, 0, none⟩), .pointer (some ⟨M + 1, 0, none⟩), .pointer (some ⟨M + 2, 0, none⟩)] w
      fun e w' => e = .returned (.int .i64 (((b + 6) % 8 : Nat) : Int)) ∧ K (l ++ emit 8 ((a * 2 ^ 6 + n) % 65536) 2 (b + 6)) w' ∧ Gat M 6 8 (outV 123 E) (((a * 2 ^ 6 + n) % 65536 : Nat) : Int) (((b + 6) % 8 : Nat) : Int) w' ∧ Below B w w' := by
  have hG : Gat M 6 8 (outV 123 E) a b w := hG
  have c0 := Joins.cell_of_block hG.b0 0
  have c1 := Joins.cell_of_block hG.b1 0
  have c2 := Joins.cell_of_block hG.b2 0
  have c3 := Joins.cell_of_block hG.b3 0
  have c4 := Joins.cell_of_block hG.b4 0
  have u3 := Joins.unfrozen_of_block hG.b3 0
  have u4 := Joins.unfrozen_of_block hG.b4 0
  simp at c0 c1 c2 c3 c4
  go_enter Tryz.func110, Tryz.ntmps110
  go_upto_region 1 with fail
  go_region
  rw [orand6 a n ha hn]
  generalize hAA : (a * 2 ^ 6 + n) % 65536 = A
  have hA : A < 65536 := by omega
  have G2 : Gat M 6 8 (outV 123 E) (A : Int) ((b + 6 : Nat) : Int) (((w.setCell ⟨M + 3, 0, none⟩ (.int .i64 (A : Int))).setCell ⟨M + 4, 0, none⟩ (.int .i64 ((b : Int) + 6))).drew) := by
    rw [show ((b + 6 : Nat) : Int) = (b : Int) + 6 by omega]
    exact (((hG.setAll (A : Int)).setBits ((b : Int) + 6))).drewN 1
  have K2 : K l (((w.setCell ⟨M + 3, 0, none⟩ (.int .i64 (A : Int))).setCell ⟨M + 4, 0, none⟩ (.int .i64 ((b : Int) + 6))).drew) := S.drew _ _ 1 (S.set _ _ _ _ _ (S.set _ _ _ _ _ hK (by omega) hG.b3) (by omega) (hG.setAll (A : Int)).b4)
  have B2 : Below B w (((w.setCell ⟨M + 3, 0, none⟩ (.int .i64 (A : Int))).setCell ⟨M + 4, 0, none⟩ (.int .i64 ((b : Int) + 6))).drew) := (((Below.refl B w).setCell (p := ⟨M + 3, 0, none⟩) (by show B ≤ M + 3; omega) _).setCell (p := ⟨M + 4, 0, none⟩) (by show B ≤ M + 4; omega) _).drew
  generalize World.drew _ = w2 at G2 K2 B2 ⊢
  clear c0 c1 c2 c3 c4 u3 u4 hK hG
  have HS := Lib.hid S
  clear S
  go_wp2
  go_loopw [] (fun wr => ∃ (k b' : Nat) (l' : List Nat), l' ++ emit 8 A k b' = l ++ emit 8 A 2 (b + 6) ∧ b' % 8 = (b + 6) % 8 ∧ b' < (k + 1) * 8 ∧ b' ≤ 13 ∧ l'.length + k ≤ L + 2 ∧ Gat M 6 8 (outV 123 E) (A : Int) (b' : Int) wr ∧ K l' wr ∧ Below B w wr) (fun wr => (RowKit.intOf ((wr.cell? ⟨M + 4, 0, none⟩).getD .nilFunc)).toNat)
  case atStart => exact ⟨2, b + 6, l, rfl, rfl, by omega, by omega, by omega, G2, K2, B2⟩
  case round =>
    obtain ⟨k, b', l', e1, e2, e3, e4, e5, G3, K3, B3⟩ := hrel
    have c1 := Joins.cell_of_block G3.b1 0
    have c2 := Joins.cell_of_block G3.b2 0
    have c3 := Joins.cell_of_block G3.b3 0
    have c4 := Joins.cell_of_block G3.b4 0
    have u4 := Joins.unfrozen_of_block G3.b4 0
    simp at c1 c2 c3 c4
    have HM := Lib.hid c4
    by_cases hT : 8 ≤ b'
    · obtain ⟨k, rfl⟩ : ∃ j, k = j + 1 := ⟨k - 1, by omega⟩
      have hT2 : (8 : Int) ≤ (b' : Int) := by omega
      have G4 : Gat M 6 8 (outV 123 E) (A : Int) ((b' - 8 : Nat) : Int) (wr.setCell ⟨M + 4, 0, none⟩ (.int .i64 ((b' : Int) - 8))) := by
        rw [show ((b' - 8 : Nat) : Int) = (b' : Int) - 8 by omega]
        exact G3.setBits _
      have K4 : K l' (wr.setCell ⟨M + 4, 0, none⟩ (.int .i64 ((b' : Int) - 8))) := HS.out.set _ _ _ _ _ K3 (by omega) G3.b4
      have B4 : Below B w (wr.setCell ⟨M + 4, 0, none⟩ (.int .i64 ((b' : Int) - 8))) := B3.setCell (p := ⟨M + 4, 0, none⟩) (by show B ≤ M + 4; omega) _
      go_upto_region 4 with fail
      obtain ⟨b2, hb2, hb3⟩ : ∃ b2 : Nat, b' = b2 + 8 ∧ b2 ≤ 5 := ⟨b' - 8, by omega, by omega⟩
      subst hb2
      rw [show b2 + 8 - 8 = b2 by omega] at G4
      generalize World.setCell wr _ _ = w4 at G4 K4 B4 ⊢
      clear G3 K3 B3 c1 c2 c3 c4 u4
      have c1 := Joins.cell_of_block G4.b1 0
      have c2 := Joins.cell_of_block G4.b2 0
      have c3 := Joins.cell_of_block G4.b3 0
      have c4 := Joins.cell_of_block G4.b4 0
      simp at c1 c2 c3 c4
      unfold outV at c2
      obtain ⟨q, hq⟩ : ∃ q, q = A / 2 ^ b2 := ⟨_, rfl⟩
      have hq2 : q ≤ A := by rw [hq]; exact Nat.div_le_self _ _
      have e9 : (A : Int) / 2 ^ b2 = (q : Int) := by rw [hq, Int.natCast_ediv]; simp
      have e9b : (A : Int) / 2 ^ b2 % 256 = ((q % 2 ^ 8 : Nat) : Int) := by rw [e9]; omega
      have hx : bits BinOp.and .i64 ((A : Int) / 2 ^ b2) (IntKind.i64.wrap (IntKind.i64.wrap 256 - 1)) = (A : Int) / 2 ^ b2 % 256 := by
        rw [show (IntKind.i64.wrap (IntKind.i64.wrap 256 - 1)) = (2 : Int) ^ 8 - 1 by decide, e9]
        exact bits_mask .i64 62 (by decide) wraps_i64 8 (by decide) (q : Int) (by omega) (by omega)
      have HC := Lib.hid (HS.out.call l' (q % 2 ^ 8) (w4.drew) (HS.out.drew _ _ 1 K4) (Nat.mod_lt _ (by decide)) (by omega) (Nat.le_trans hBW (by simpa using B4.size)))
      have EM : Hid ((l' ++ [q % 2 ^ 8]) ++ emit 8 A k b2 = l ++ emit 8 A 2 (b + 6)) := Lib.hid (by
        rw [← e1]
        have : emit 8 A (k + 1) (b2 + 8) = (A / 2 ^ b2) % 2 ^ 8 :: emit 8 A k b2 := by
          simp only [emit]
          rw [if_pos (by omega), show b2 + 8 - 8 = b2 by omega]
        rw [this, hq, List.append_assoc]
        rfl)
      clear e1
      have E9 := Lib.hid e9b
      have HX := Lib.hid hx
      clear e9 e9b hq hq2 hx
      go_region_with (go_at_call 123; rw [HX.out, E9.out]; refine (HC.out).mono ?_; rintro e w5 ⟨rfl, K5, B5, O5⟩)
      all_goals
        have hG5 : Gat M 6 8 (outV 123 E) (A : Int) (b2 : Int) w5 := (G4.drewN 1).kept hE O5
        have hm5 := Joins.cell_of_block hG5.b4 0
        simp at hm5
        have hm3 := HM.out
        go_wp2_with fail
        go_roundw
        case rel => exact ⟨k, b2, l' ++ [q % 2 ^ 8], EM.out, by omega, by omega, by omega, by simp; omega, hG5, K5, B4.drew.trans B5⟩
        case measure => rw [hm5, hm3]; simp [RowKit.intOf]; omega
    · have hT2 : ¬ (8 : Int) ≤ (b' : Int) := by omega
      go_wp2
      go_ret
      have e6 : emit 8 A k b' = [] := by cases k with
        | zero => rfl
        | succ k => simp only [emit]; rw [if_neg hT]
      rw [e6, List.append_nil] at e1
      subst e1
      have e7 : (b' : Int) = ((b : Int) + 6) % 8 := by omega
      rw [← e7]
      exact ⟨rfl, K3, G3, B3⟩
end Go.Proofs.YtpcncpegbboljaaGreatDoor.B64
namespace Go.Proofs.YtpcncpegbboljaaGreatDoor.B64
open Go.RowKit Go.Lib Go.Proofs.YtpcncpegbboljaaGreatDoor Go.Proofs.YtpcncpegbboljaaGreatDoor.Row
set_option linter.unusedVariables false
set_option linter.unusedSimpArgs false
def lettersB : ByteArray := ⟨#[65, 66, 67, 68, 69, 70, 71, 72, 73, 74, 75, 76, 77, 78, 79, 80, 81, 82, 83, 84, 85, 86, 87, 88, 89, 90, 97, 98, 99, 100, 101, 102, 103, 104, 105, 106, 107, 108, 109, 110, 111, 112, 113, 114, 115, 116, 117, 118, 119, 120, 121, 122, 48, 49, 50, 51, 52, 53, 54, 55, 56, 57, 43, 47]⟩
def lettersL : List UInt8 := [65, 66, 67, 68, 69, 70, 71, 72, 73, 74, 75, 76, 77, 78, 79, 80, 81, 82, 83, 84, 85, 86, 87, 88, 89, 90, 97, 98, 99, 100, 101, 102, 103, 104, 105, 106, 107, 108, 109, 110, 111, 112, 113, 114, 115, 116, 117, 118, 119, 120, 121, 122, 48, 49, 50, 51, 52, 53, 54, 55, 56, 57, 43, 47]
def letterC (n : Nat) : UInt8 := lettersL.getD n 0
theorem rowF_set {w : World} {B n k : Nat} {v x : Value} {xs : List Value} {cs : Array Value} (h : w.ownsRowF B 5 1 v n xs) (hk : w.heap[k]? = some (.cells cs 3 (0, 0))) : (w.setCell ⟨k, 0, none⟩ x).ownsRowF B 5 1 v n xs := by
  refine ⟨h.1, h.2.elim Or.inl fun ⟨g, cap, cur, fz, hv, hg, hh, r⟩ => Or.inr ⟨g, cap, cur, fz, hv, hg, ?_, r⟩⟩
  rw [Deep.blk_setCell_other w ⟨k, 0, none⟩ x g (by
    rintro rfl
    rw [hh] at hk
    injection hk with hk
    injection hk with _ e2 _
    exact absurd e2 (by decide))]
  exact hh
theorem row_set {w : World} {B n k : Nat} {v x : Value} {xs : List Value} {cs : Array Value} (h : w.ownsRow B 5 1 v n xs) (hk : w.heap[k]? = some (.cells cs 3 (0, 0))) : (w.setCell ⟨k, 0, none⟩ x).ownsRow B 5 1 v n xs := by
  refine ⟨h.1, h.2.elim Or.inl fun ⟨g, cap, cur, hv, hg, hh, r⟩ => Or.inr ⟨g, cap, cur, hv, hg, ?_, r⟩⟩
  rw [Deep.blk_setCell_other w ⟨k, 0, none⟩ x g (by
    rintro rfl
    rw [hh] at hk
    injection hk with hk
    injection hk with _ e2 _
    exact absurd e2 (by decide))]
  exact hh
def EncK (B E : Nat) (l : List Nat) (w : World) : Prop := IsBuilderF 48 5 B E (byteCells (l.map letterC)) w
theorem EncK.set {B E : Nat} {l : List Nat} {w : World} {k : Nat} {cs : Array Value} {v : Value} (h : EncK B E l w) (hne : k ≠ E) (hk : w.heap[k]? = some (.cells cs 3 (0, 0))) : EncK B E l (w.setCell ⟨k, 0, none⟩ v) := by
  have key : ∀ p, BuilderAtF 48 5 B E p (byteCells (l.map letterC)) w → BuilderAtF 48 5 B E p (byteCells (l.map letterC)) (w.setCell ⟨k, 0, none⟩ v) := by
    rintro p ⟨hB, u, hb, ho, hn⟩
    exact ⟨hB, u, (Deep.blk_setCell_other w ⟨k, 0, none⟩ v E (by show E ≠ k; omega)).trans hb, rowF_set ho hk, hn⟩
  exact h.elim (fun h => .inl (key _ h)) (fun h => .inr (key _ h))
theorem letters_get (n : Nat) (h : n < 64) (h2 : n < lettersB.size) : lettersB[n] = letterC n := by
  have key : ∀ m : Fin 64, lettersB.data.toList[m.val]? = some (letterC m.val) := by decide +kernel
  have := key ⟨n, h⟩
  have h3 : n < lettersB.data.toList.length := by simpa using h2
  rw [List.getElem?_eq_getElem h3] at this
  exact Option.some.inj this
set_option maxRecDepth 100000 in
set_option maxHeartbeats 4000000 in
theorem enc_sink (B E L : Nat) (hL : L ≤ 11000000) : Sink B E 87 6 (EncK B E) L where
  set := fun l w k cs v h hne hk => h.set hne hk
  drew := fun l w n h => h
  call := by
    intro l n w hK hn hl hB
    have hKK := Lib.hid hK
    have hlen : (byteCells (l.map letterC)).length = l.length := by simp [byteCells]
    have WB := Lib.hid (fun c => Bld.WriteByte_k B E _ c w hK (by omega) hB)
    clear hK
    have hn2 : n < 64 := hn
    go_enter Tryz.func87, Tryz.ntmps87
    go_wp2_with (go_at_call 67; refine (WB.out _).mono ?_; rintro e w1 ⟨rfl, h1, b1, k1⟩)
    go_end0
    refine ⟨rfl, ?_, b1, k1⟩
    have e : byteCells ((l ++ [n]).map letterC) = byteCells (l.map letterC) ++ [.int .u8 ((letterC n).toNat : Int)] := by simp [byteCells]
    show IsBuilderF _ _ _ _ (byteCells ((l ++ [n]).map letterC)) _
    rw [e, ← letters_get n hn2 hn2]
    exact h1
def DecK (B E : Nat) (l : List Nat) (w : World) : Prop := B ≤ E ∧ ∃ v, w.heap[E]? = some (.cells #[v] 45 (0, 0)) ∧ w.ownsRow B 5 1 v l.length (byteCells (l.map Nat.toUInt8))
theorem DecK.set {B E : Nat} {l : List Nat} {w : World} {k : Nat} {cs : Array Value} {v : Value} (h : DecK B E l w) (hne : k ≠ E) (hk : w.heap[k]? = some (.cells cs 3 (0, 0))) : DecK B E l (w.setCell ⟨k, 0, none⟩ v) := by
  obtain ⟨hB, u, h1, h2⟩ := h
  exact ⟨hB, u, (Deep.blk_setCell_other w ⟨k, 0, none⟩ v E (by show E ≠ k; omega)).trans h1, row_set h2 hk⟩
set_option maxRecDepth 100000 in
set_option maxHeartbeats 4000000 in
theorem dec_sink (B E L : Nat) (hL : L ≤ 11000000) : Sink B E 123 8 (DecK B E) L where
  set := fun l w k cs v h hne hk => h.set hne hk
  drew := fun l w n h => h
  call := by
    intro l n w hK hn hl hB
    obtain ⟨hBE, v, hv, hown⟩ := hK
    obtain ⟨i0, hi, hz0, hz1, hz2⟩ := info_parts Bld.infoByte
    have c0 := Joins.cell_of_block hv 0
    have u0 := Joins.unfrozen_of_block hv 0
    simp at c0
    have hn2 : n < 256 := hn
    have hlen : (byteCells (l.map Nat.toUInt8)).length = l.length := by simp [byteCells]
    have HO := Lib.hid hown; have HV := Lib.hid hv
    clear hown hv
    go_enter Tryz.func123, Tryz.ntmps123
    go_wp2_with (at_builtin; refine wpList_append_own _ rfl (.tmp 3) (.tmp 6) 45 rfl B 5 i0 (.int .u8 0) 1 1 Tryz.underlying45 hi hz0 hz1 hz2 rfl (by decide) _ _ _ rfl (HO.out.alloc _) ⟨w.heap.size, 0, none⟩ 1 1 [.int .u8 (n : Int)] rfl rfl ?c1 ?c2 ?c3 ?c4 ?c5 ?_)
    case c1 =>
      intro j u hj
      match j, hj with
      | 0, hj => simp at hj; subst hj; simp [Addr.add]
    case c2 => intro u hu; simp at hu; subst hu; rfl
    case c3 => simp only [maxLen]; omega
    case c4 => omega
    case c5 => simp; omega
    intro v1 w1 hown1 hgr1 _
    have hlt : E < w.heap.size := (Array.getElem?_eq_some_iff.1 HV.out).1
    have hne : some E ≠ v.ownBlock := by
      intro e
      obtain ⟨c, fz, hc⟩ := Lib.ownsRowF_kind (World.ownsRowF_of HO.out) E e.symm
      rw [HV.out] at hc
      injection hc with hc
      injection hc with _ e2 _
      exact absurd e2 (by decide)
    have hE1 : w1.heap[E]? = some (.cells #[v] 45 (0, 0)) := by
      rw [hgr1.block E (by simp; omega) hne, Lib.alloc_old w _ E hlt]
      exact HV.out
    have d0 : w1.cell? ⟨E, 0, none⟩ = some v := by rw [Joins.cell_of_block hE1]; rfl
    have f0 : w1.frozen? ⟨E, 0, none⟩ = false := Joins.unfrozen_of_block hE1 0
    obtain ⟨g, cap, rfl⟩ : ∃ g cap, v1 = .slice (some ⟨g, 0, none⟩) (l.length + 1) cap := by
      rcases hown1.2 with ⟨_, h0⟩ | ⟨g, cap, cur, hv, _⟩
      · omega
      · exact ⟨g, cap, hv⟩
    go_wp2
    go_end0
    have hb1 : Below B w w1 := (((Below.refl B w).alloc hB _).grown hgr1 (by simp; omega) (fun k hk => ((World.ownsRowF_of HO.out).lt k hk).1))
    have hset : (w1.setCell ⟨E, 0, none⟩ (.slice (some ⟨g, 0, none⟩) (l.length + 1) cap)).heap[E]? = some (.cells #[.slice (some ⟨g, 0, none⟩) (l.length + 1) cap] 45 (0, 0)) := Joins.block_setCell hE1 _
    have hgE : g ≠ E := by
      rintro rfl
      rcases hown1.2 with ⟨hv, _⟩ | ⟨g2, cap2, cur, hv, _, hh, _⟩
      · cases hv
      · cases hv
        rw [hE1] at hh
        injection hh with hc
        injection hc with _ e2 _
        exact absurd e2 (by decide)
    refine ⟨rfl, ⟨hBE, _, hset, ?_⟩, hb1.setCell (p := ⟨E, 0, none⟩) hBE _, (((OthersKept.refl _ _ w).alloc _).grown hgr1 (Lib.ownsRowF_kind (World.ownsRowF_of (HO.out.alloc _)))).setCell ⟨E, 0, none⟩ rfl _⟩
    have e : byteCells ((l ++ [n]).map Nat.toUInt8) = byteCells (l.map Nat.toUInt8) ++ [.int .u8 (n : Int)] := by
      have h1 : ((n.toUInt8).toNat : Int) = (n : Int) := by
        rw [show n.toUInt8 = UInt8.ofNat n from rfl, UInt8.toNat_ofNat']; omega
      simp [byteCells, h1]
      omega
    rw [e, List.length_append]
    refine ⟨hown1.1, hown1.2.elim Or.inl fun ⟨g2, cap2, cur, hv, hg, hh, r⟩ => Or.inr ⟨g2, cap2, cur, hv, hg, ?_, r⟩⟩
    rw [Deep.blk_setCell_other w1 ⟨E, 0, none⟩ _ g2 (by cases hv; exact hgE)]
    exact hh
end Go.Proofs.YtpcncpegbboljaaGreatDoor.B64
namespace Go.Proofs.YtpcncpegbboljaaGreatDoor.B64
open Go.RowKit Go.Lib Go.Proofs.YtpcncpegbboljaaGreatDoor Go.Proofs.YtpcncpegbboljaaGreatDoor.Row
set_option linter.unusedVariables false
set_option linter.unusedSimpArgs false
def placeC (c : UInt8) : Int := indexByte lettersB.data.toList c
theorem place_range : ∀ c : Fin 256, placeC (UInt8.ofNat c.val) = -1 ∨ (0 ≤ placeC (UInt8.ofNat c.val) ∧ placeC (UInt8.ofNat c.val) < 64) := by decide +kernel
theorem place_r (c : UInt8) : placeC c = -1 ∨ (0 ≤ placeC c ∧ placeC c < 64) := by
  have := place_range ⟨c.toNat, UInt8.toNat_lt c⟩
  simpa using this
def decGo : Nat → Nat → List UInt8 → List Nat
  | _, _, [] => []
  | a, b, c :: r => if 0 ≤ placeC c then emit 8 ((a * 2 ^ 6 + (placeC c).toNat) % 65536) 2 (b + 6) ++ decGo ((a * 2 ^ 6 + (placeC c).toNat) % 65536) ((b + 6) % 8) r else decGo a b r
def b64DecL (l : List UInt8) : List UInt8 := (decGo 0 0 (cutL 61 l).1).map Nat.toUInt8
theorem emit_len (T a k b : Nat) : (emit T a k b).length ≤ k := by
  induction k generalizing b with
  | zero => simp [emit]
  | succ k ih => simp only [emit]; split <;> simp; exact ih _
theorem dec_string {B : Nat} {l : List Nat} {w : World} {v : Value} (h : w.ownsRow B 5 1 v l.length (byteCells (l.map Nat.toUInt8))) :
    (convert 45 9 v).run Tryz.prog w = .ok (.string ⟨(l.map Nat.toUInt8).toArray⟩) w := by
  rcases h.2 with ⟨rfl, h0⟩ | ⟨g, cap, cur, rfl, hg, hh, hc, hm, hs, ht⟩
  · obtain rfl : l = [] := List.length_eq_zero_iff.1 h0
    exact run_convert_bytes_nil w 45 5 Tryz.underlying45 Tryz.underlying5 0 0 9 Tryz.underlying9
  · have := run_convert_bytes_back w 45 9 5 ⟨g, 0, none⟩ cap (l.map Nat.toUInt8) Tryz.underlying45 Tryz.underlying5 Tryz.underlying9 (fun j hj => by
      have h1 : j < (byteCells (l.map Nat.toUInt8)).length := by simpa [byteCells] using hj
      have h2 : (byteCells (l.map Nat.toUInt8))[j]? = some (.int .u8 (((l.map Nat.toUInt8)[j]).toNat : Int)) := by
        rw [List.getElem?_eq_getElem h1]; simp [byteCells]
      rw [← ht, List.getElem?_take] at h2
      have h3 : j < l.length * 1 := by simpa using hj
      rw [if_pos h3] at h2
      have h4 : w.cell? ⟨g, j, none⟩ = some (.int .u8 (((l.map Nat.toUInt8)[j]).toNat : Int)) := by
        rw [Joins.cell_of_block hh]
        simpa using h2
      unfold Addr.add
      split
      · rename_i h0; subst h0; exact h4
      · simpa using h4)
    rw [List.length_map] at this
    exact this
theorem Gat.below {M : Nat} {F T : Int} {ov : Value} {all bits : Int} {w w' : World} (h : Gat M F T ov all bits w) (hb : Below w.heap.size w w') : Gat M F T ov all bits w' := by
  have key : ∀ k x, w.heap[k]? = some x → w'.heap[k]? = some x := fun k x hk => (hb.block k (Array.getElem?_eq_some_iff.1 hk).1).trans hk
  exact ⟨key _ _ h.b0, key _ _ h.b1, key _ _ h.b2, key _ _ h.b3, key _ _ h.b4⟩
theorem DecK.below {B E : Nat} {l : List Nat} {w w' : World} (h : DecK B E l w) (hb : Below w.heap.size w w') : DecK B E l w' := by
  have key : ∀ k x, w.heap[k]? = some x → w'.heap[k]? = some x := fun k x hk => (hb.block k (Array.getElem?_eq_some_iff.1 hk).1).trans hk
  obtain ⟨hB, v, h1, h2⟩ := h
  exact ⟨hB, v, key _ _ h1, h2.1, h2.2.elim Or.inl fun ⟨g, cap, cur, hv, hg, hh, r⟩ => Or.inr ⟨g, cap, cur, hv, hg, key _ _ hh, r⟩⟩
theorem index_letters (c : UInt8) (W : World) : Calls Tryz.prog 108 #[.string (⟨#[65, 66, 67, 68, 69, 70, 71, 72, 73, 74, 75, 76, 77, 78, 79, 80, 81, 82, 83, 84, 85, 86, 87, 88, 89, 90, 97, 98, 99, 100, 101, 102, 103, 104, 105, 106, 107, 108, 109, 110, 111, 112, 113, 114, 115, 116, 117, 118, 119, 120, 121, 122, 48, 49, 50, 51, 52, 53, 54, 55, 56, 57, 43, 47]⟩ : ByteArray), .int .u8 (c.toNat : Int)] W fun e w' => e = .returned (.int .i64 (placeC c)) ∧ Below W.heap.size W w' :=
  strings_IndexByte.calls lettersB (c.toNat : Int) (placeC c) W (by
    unfold strings_IndexByte.f placeC
    rw [show ((c.toNat : Int)).toNat.toUInt8 = c by simp])
set_option maxRecDepth 100000 in
set_option maxHeartbeats 8000000 in
theorem Decode_c (s : ByteArray) (hs : s.size ≤ 1100000) (w : World) :
    Calls Tryz.prog 98 #[.string s] w fun e w' => e = .returned (.string ⟨(b64DecL s.data.toList).toArray⟩) ∧ Below w.heap.size w w' := by
  have hmf : ∀ (fn : Fn) (first cap : Array Value) (w : World), (Instr.makeFunc fn first cap).run Tryz.prog w = .ok (.func fn first cap) w := fun _ _ _ _ => rfl
  have hcu : strings_Cut.f s (⟨#[61]⟩ : ByteArray) = some (⟨(cutL 61 s.data.toList).1.toArray⟩, ⟨(cutL 61 s.data.toList).2.1.toArray⟩, (cutL 61 s.data.toList).2.2) := by
    unfold strings_Cut.f
    rw [if_pos ⟨rfl, by omega⟩]
    rfl
  have CU := Lib.hid (fun W => strings_Cut.calls s (⟨#[61]⟩ : ByteArray) _ _ _ W hcu)
  have hlen : (cutL 61 s.data.toList).1.length ≤ s.size := by
    have h1 : s.data.toList.length = s.size := by simp
    unfold cutL
    split
    · rw [← h1]; exact List.IsPrefix.length_le (List.takeWhile_prefix _)
    · rw [← h1]; exact Nat.le_refl _
  unfold b64DecL
  generalize cutL 61 s.data.toList = ct at *
  obtain ⟨p, p2, p3⟩ := ct
  simp only at CU hlen ⊢
  have hpz : (⟨p.toArray⟩ : ByteArray).size = p.length := by simp [ByteArray.size]
  have hpd : (⟨p.toArray⟩ : ByteArray).data.toList = p := rfl
  generalize (⟨p.toArray⟩ : ByteArray) = S at *
  subst hpd
  have HLE := Lib.hid hlen; have HPZ := Lib.hid hpz
  clear hcu hlen hpz
  have SK := Lib.hid (dec_sink w.heap.size w.heap.size (4400000 + 2) (by omega))
  go_enter Tryz.func98, Tryz.ntmps98
  go_upto_region 4 with (first
    | (go_at_call 86; refine (gather_c 6 8 _ _ _).mono ?_; rintro e w1 ⟨rfl, hb1, hg1, hk1, hz1⟩; have G1 := Lib.hid hg1; have B1 := Lib.hid hb1; have K1 := Lib.hid hk1; have Z1 := Lib.hid hz1; clear hg1 hb1 hk1 hz1)
    | (go_at_call 23; refine (CU.out _).mono ?_; rintro e w2 ⟨rfl, hb2⟩; have B2 := Lib.hid hb2; clear hb2))
  have hsz : (w.alloc (Obj.cells #[Value.slice none 0 0] 45)).heap.size = w.heap.size + 1 := by simp
  have hG : Gat (w.heap.size + 1) 6 8 (outV 123 w.heap.size) (0 : Nat) (0 : Nat) w2 := by
    have := G1.out
    rw [hsz] at this
    exact this.below B2.out
  have hK : DecK w.heap.size w.heap.size [] w2 := by
    refine DecK.below (w := w1) ⟨Nat.le_refl _, .slice none 0 0, ?_, rfl, .inl ⟨rfl, rfl⟩⟩ B2.out
    refine K1.out _ _ (al_new w _) (by simp) ?_
    intro c fz e
    injection e with _ e2 _
    exact absurd e2 (by decide)
  have hB : Below w.heap.size w w2 := by
    have h1 : Below w.heap.size w (w.alloc (Obj.cells #[Value.slice none 0 0] 45)) := Joins.below_alloc1 w _
    exact (h1.trans (B1.out.mono h1.size)).trans (B2.out.mono (h1.trans (B1.out.mono h1.size)).size)
  have HG := Lib.hid hG; have HK := Lib.hid hK; have HB := Lib.hid hB
  clear hG hK hB hsz G1 K1 Z1 B1 B2
  go_wp2
  go_loopw [17] (fun i wr => ∃ (k a b : Nat) (l : List Nat), i = .int .i64 (k : Int) ∧ k ≤ S.data.toList.length ∧ l ++ decGo a b (S.data.toList.drop k) = decGo 0 0 S.data.toList ∧ a < 65536 ∧ b < 8 ∧ l.length ≤ 2 * k ∧ DecK w.heap.size w.heap.size l wr ∧ Gat (w.heap.size + 1) 6 8 (outV 123 w.heap.size) (a : Int) (b : Int) wr ∧ Below w.heap.size w wr) (fun i _ => S.data.toList.length - (RowKit.intOf i).toNat)
  case atStart => exact ⟨0, 0, 0, [], rfl, Nat.zero_le _, rfl, by omega, by omega, by simp, HK.out, HG.out, HB.out⟩
  case round =>
    obtain ⟨k, a, b, l, rfl, hk, he, ha, hb, hl, K3, G3, B3⟩ := hrel
    have hpz := HPZ.out
    have hle := HLE.out
    have HE := Lib.hid he; have H3 := Lib.hid K3; have HG3 := Lib.hid G3; have HB3 := Lib.hid B3
    clear he K3 G3 B3
    by_cases hlt : k < S.data.toList.length
    · have hlt2 : k < S.size := by omega
      have hlt3 : (k : Int) < (S.size : Int) := by omega
      have hc : S.data.toList.drop k = S[k] :: S.data.toList.drop (k + 1) := List.drop_eq_getElem_cons hlt
      have hr := place_r S[k]
      have IX := Lib.hid (index_letters S[k])
      have HC := Lib.hid hc
      clear hc
      have hkb : k < 1100000 := by omega
      rcases hr with hr | ⟨hr0, hr1⟩
      · rw [hr] at IX
        have hst : decGo a b (S[k] :: S.data.toList.drop (k + 1)) = decGo a b (S.data.toList.drop (k + 1)) := by
          simp only [decGo]; rw [if_neg (by omega)]
        have HST := Lib.hid hst
        have HLT := Lib.hid hlt
        clear hst hr hlt hpz hle
        have hd := decide_eq_true hlt3
        go_wp2_with (go_at_call 108; refine (IX.out _).mono ?_; rintro e w4 ⟨rfl, hb4⟩; have HB4 := Lib.hid hb4; clear hb4)
        have hle := HLE.out
        have hlt := HLT.out
        go_roundw
        case rel => exact ⟨k + 1, a, b, l, by go_num, HLT.out, by rw [← HE.out, HC.out, HST.out], ha, hb, by omega, H3.out.below HB4.out, HG3.out.below HB4.out, HB3.out.trans (HB4.out.mono HB3.out.size)⟩
        case measure => simp [RowKit.intOf]; omega
      · obtain ⟨n, hn⟩ : ∃ n : Nat, placeC S[k] = (n : Int) := ⟨(placeC S[k]).toNat, by omega⟩
        rw [hn] at IX hr0 hr1
        have hn2 : n < 2 ^ 6 := by omega
        have hst : decGo a b (S[k] :: S.data.toList.drop (k + 1)) = emit 8 ((a * 2 ^ 6 + n) % 65536) 2 (b + 6) ++ decGo ((a * 2 ^ 6 + n) % 65536) ((b + 6) % 8) (S.data.toList.drop (k + 1)) := by
          simp only [decGo]; rw [if_pos (by omega), hn, Int.toNat_natCast]
        have HST := Lib.hid hst
        have hel := emit_len 8 ((a * 2 ^ 6 + n) % 65536) 2 (b + 6)
        have HEL := Lib.hid hel
        have HLT := Lib.hid hlt
        have hl4 : l.length ≤ 4400000 := by omega
        have HN2 := Lib.hid hn2
        clear hst hel hn hlt hpz hle hn2
        have hd := decide_eq_true hlt3
        go_wp2_with (first
          | (go_at_call 108; refine (IX.out _).mono ?_; rintro e w4 ⟨rfl, hb4⟩; have HB4 := Lib.hid (HB3.out.trans (hb4.mono HB3.out.size)); have HG4 := Lib.hid (HG3.out.below hb4); have H4 := Lib.hid (H3.out.below hb4); clear hb4)
          | (go_at_call 110; refine (gat6_c w.heap.size w.heap.size (w.heap.size + 1) 4400000 (DecK w.heap.size w.heap.size) SK.out l a b n _ H4.out HG4.out ha hb HN2.out hl4 (by omega) (Nat.le_refl _) HB4.out.size).mono ?_; rintro e w5 ⟨rfl, h5, g5, b5⟩; have H5 := Lib.hid h5; have G5 := Lib.hid g5; have B5 := Lib.hid b5; clear h5 g5 b5))
        have hle := HLE.out
        have hlt := HLT.out
        go_roundw
        case rel =>
          refine ⟨k + 1, (a * 2 ^ 6 + n) % 65536, (b + 6) % 8, _, by go_num, HLT.out, ?_, by omega, by omega, ?_, H5.out, G5.out, HB4.out.trans B5.out⟩
          · rw [← HE.out, HC.out, HST.out, List.append_assoc]
          · have := HEL.out
            rw [List.length_append]; omega
        case measure => simp [RowKit.intOf]; omega
    · have hkl : k = S.data.toList.length := by omega
      have hlt3 : ¬ (k : Int) < (S.size : Int) := by omega
      have he2 := HE.out
      rw [hkl, List.drop_length] at he2
      simp only [decGo, List.append_nil] at he2
      have HE2 := Lib.hid he2
      obtain ⟨_, v, hv, hown⟩ := H3.out
      have hcv := dec_string hown
      have c0 := Joins.cell_of_block hv 0
      simp at c0
      clear hv hown he2 hkl hpz hle hlt hk
      have hd := decide_eq_false hlt3
      go_wp2
      go_ret
      exact ⟨by rw [← HE2.out]; rfl, HB3.out⟩
end Go.Proofs.YtpcncpegbboljaaGreatDoor.B64
namespace Go.Proofs.YtpcncpegbboljaaGreatDoor.B64
open Go.RowKit Go.Lib Go.Proofs.YtpcncpegbboljaaGreatDoor Go.Proofs.YtpcncpegbboljaaGreatDoor.Row
set_option linter.unusedVariables false
set_option linter.unusedSimpArgs false
def encGo : Nat → Nat → List UInt8 → List Nat
  | _, _, [] => []
  | a, b, c :: r => emit 6 ((a * 2 ^ 8 + c.toNat) % 65536) 2 (b + 8) ++ encGo ((a * 2 ^ 8 + c.toNat) % 65536) ((b + 8) % 6) r
def encSt : Nat → Nat → List UInt8 → Nat × Nat
  | a, b, [] => (a, b)
  | a, b, c :: r => encSt ((a * 2 ^ 8 + c.toNat) % 65536) ((b + 8) % 6) r
def encAll (l : List UInt8) : List Nat :=
  if 0 < (encSt 0 0 l).2 then encGo 0 0 l ++ emit 6 (((encSt 0 0 l).1 * 2 ^ 8 + 0) % 65536) 2 ((encSt 0 0 l).2 + 8) else encGo 0 0 l
def b64EncT (l : List UInt8) : List UInt8 := ((encAll l).map letterC).take ((l.length * 8 + 5) / 6)
def b64EncL (l : List UInt8) : List UInt8 := b64EncT l ++ List.replicate ((4 - (b64EncT l).length % 4) % 4) 61
theorem emit6_len (a b : Nat) (hb : b ≤ 13) : (emit 6 a 2 b).length = b / 6 := by
  simp only [emit]
  by_cases h : 6 ≤ b
  · rw [if_pos h]
    by_cases h2 : 6 ≤ b - 6
    · rw [if_pos h2]; simp; omega
    · rw [if_neg h2]; simp; omega
  · rw [if_neg h]; simp; omega
theorem encSt_bits : ∀ (l : List UInt8) (a b : Nat), b < 6 → (encSt a b l).2 < 6 ∧ 6 * (encGo a b l).length + (encSt a b l).2 = b + 8 * l.length
  | [], a, b, h => ⟨h, by simp [encGo, encSt]⟩
  | c :: r, a, b, h => by
    have ih := encSt_bits r ((a * 2 ^ 8 + c.toNat) % 65536) ((b + 8) % 6) (by omega)
    have he := emit6_len ((a * 2 ^ 8 + c.toNat) % 65536) (b + 8) (by omega)
    simp only [encGo, encSt, List.length_append, List.length_cons]
    rw [he]
    exact ⟨ih.1, by omega⟩
theorem encAll_len (l : List UInt8) : (l.length * 8 + 5) / 6 ≤ (encAll l).length := by
  have h := encSt_bits l 0 0 (by decide)
  unfold encAll
  by_cases h0 : 0 < (encSt 0 0 l).2
  · rw [if_pos h0, List.length_append, emit6_len _ _ (by omega)]
    omega
  · rw [if_neg h0]; omega
theorem EncK.below {B E : Nat} {l : List Nat} {w w' : World} (h : EncK B E l w) (hb : Below w.heap.size w w') : EncK B E l w' := by
  have key : ∀ k x, w.heap[k]? = some x → w'.heap[k]? = some x := fun k x hk => (hb.block k (Array.getElem?_eq_some_iff.1 hk).1).trans hk
  have k2 : ∀ p, BuilderAtF 48 5 B E p (byteCells (l.map letterC)) w → BuilderAtF 48 5 B E p (byteCells (l.map letterC)) w' := by
    rintro p ⟨hB, u, h1, h2, hn⟩
    exact ⟨hB, u, key _ _ h1, ⟨h2.1, h2.2.elim Or.inl fun ⟨g, cap, cur, fz, hv, hg, hh, r⟩ => Or.inr ⟨g, cap, cur, fz, hv, hg, key _ _ hh, r⟩⟩, hn⟩
  exact h.elim (fun h => .inl (k2 _ h)) (fun h => .inr (k2 _ h))
theorem repeat_pads (n : Nat) (h : n ≤ 3) (w : World) : Calls Tryz.prog 88 #[.string (⟨#[61]⟩ : ByteArray), .int .i64 (n : Int)] w fun e w' => e = .returned (.string ⟨(List.replicate n (61 : UInt8)).toArray⟩) ∧ Below w.heap.size w w' := by
  match n, h with
  | 0, _ => exact (Tryz.strings_Repeat_zero _ w).mono (by rintro e w' ⟨rfl, rfl⟩; exact ⟨rfl, Below.refl _ _⟩)
  | 1, _ => exact (Tryz.strings_Repeat_one _ w).mono (by rintro e w' ⟨rfl, rfl⟩; exact ⟨rfl, Below.refl _ _⟩)
  | 2, _ => exact (Tryz.strings_Repeat_main _ 2 w (by decide) (by decide) (by decide) (by decide)).mono (by rintro e w' ⟨rfl, h⟩; exact ⟨rfl, h⟩)
  | 3, _ => exact (Tryz.strings_Repeat_main _ 3 w (by decide) (by decide) (by decide) (by decide)).mono (by rintro e w' ⟨rfl, h⟩; exact ⟨rfl, h⟩)
theorem pads_int (n p : Nat) (hp : p = (4 - ((n * 8 + 5) / 6) % 4) % 4) : -(((n : Int) * 8 + 5) / 6 % 4) % 4 = (p : Int) := by
  obtain ⟨m, hm⟩ : ∃ m : Nat, m = (n * 8 + 5) / 6 := ⟨_, rfl⟩
  rw [← hm] at hp
  have e : ((n : Int) * 8 + 5) / 6 = (m : Int) := by omega
  rw [e]
  have h4 : m % 4 = 0 ∨ m % 4 = 1 ∨ m % 4 = 2 ∨ m % 4 = 3 := by omega
  rcases h4 with h | h | h | h <;> rw [h] at hp <;> simp at hp <;> omega
theorem enc_out (s : ByteArray) (L : List Nat) (h : encAll s.data.toList = L) (p : Nat) (hp : p = (4 - ((s.size * 8 + 5) / 6) % 4) % 4) :
    (⟨(L.map letterC).toArray⟩ : ByteArray).extract 0 ((s.size * 8 + 6 - 1) / 6) ++ (⟨(List.replicate p (61 : UInt8)).toArray⟩ : ByteArray) = ⟨(b64EncL s.data.toList).toArray⟩ := by
  have hz : s.data.toList.length = s.size := by simp
  have hl := encAll_len s.data.toList
  rw [h, hz] at hl
  have ht : (b64EncT s.data.toList).length = (s.size * 8 + 5) / 6 := by
    unfold b64EncT; rw [h, hz, List.length_take, List.length_map]; omega
  unfold b64EncL
  rw [ht, ← hp]
  unfold b64EncT
  rw [h, hz, extract_l]
  have e : (s.size * 8 + 6 - 1) / 6 = (s.size * 8 + 5) / 6 := by omega
  rw [e]
  rfl
set_option maxRecDepth 100000 in
set_option maxHeartbeats 8000000 in
theorem Encode_c (s : ByteArray) (hs : s.size ≤ 1100000) (w : World) :
    Calls Tryz.prog 57 #[.string s] w fun e w' => e = .returned (.string ⟨(b64EncL s.data.toList).toArray⟩) ∧ Below w.heap.size w w' := by
  have hmf : ∀ (fn : Fn) (first cap : Array Value) (w : World), (Instr.makeFunc fn first cap).run Tryz.prog w = .ok (.func fn first cap) w := fun _ _ _ _ => rfl
  have SK := Lib.hid (enc_sink w.heap.size w.heap.size (4400000 + 2) (by omega))
  have hsz0 : s.data.toList.length = s.size := by simp
  have HSZ := Lib.hid hsz0
  clear hsz0
  go_enter Tryz.func57, Tryz.ntmps57
  go_upto_region 4 with (first
    | (go_at_call 86; refine (gather_c 8 6 _ _ _).mono ?_; rintro e w1 ⟨rfl, hb1, hg1, hk1, hz1⟩; have G1 := Lib.hid hg1; have B1 := Lib.hid hb1; have K1 := Lib.hid hk1; have Z1 := Lib.hid hz1; clear hg1 hb1 hk1 hz1))
  have hsz : (w.alloc (Obj.cells #[Value.pointer none, Value.slice none 0 0] 48)).heap.size = w.heap.size + 1 := by simp
  have hG : Gat (w.heap.size + 1) 8 6 (outV 87 w.heap.size) (0 : Nat) (0 : Nat) w1 := by
    have := G1.out
    rw [hsz] at this
    exact this
  have hK : EncK w.heap.size w.heap.size [] w1 := by
    exact EncK.below (w := w.alloc (Obj.cells #[Value.pointer none, Value.slice none 0 0] 48)) (IsBuilderF.of (Lib.fresh_isBuilder 48 5 w)) B1.out
  have hB : Below w.heap.size w w1 := by
    have h1 : Below w.heap.size w (w.alloc (Obj.cells #[Value.pointer none, Value.slice none 0 0] 48)) := Joins.below_alloc1 w _
    exact h1.trans (B1.out.mono h1.size)
  have HG := Lib.hid hG; have HK := Lib.hid hK; have HB := Lib.hid hB
  clear hG hK hB hsz G1 K1 Z1 B1
  go_wp2
  go_loopw [5, 12] (fun lv i wr => ∃ (k a b : Nat) (l : List Nat), lv = .int .i64 (b : Int) ∧ i = .int .i64 (k : Int) ∧ k ≤ s.data.toList.length ∧ l ++ encGo a b (s.data.toList.drop k) = encGo 0 0 s.data.toList ∧ encSt a b (s.data.toList.drop k) = encSt 0 0 s.data.toList ∧ a < 65536 ∧ b < 6 ∧ l.length ≤ 2 * k ∧ EncK w.heap.size w.heap.size l wr ∧ Gat (w.heap.size + 1) 8 6 (outV 87 w.heap.size) (a : Int) (b : Int) wr ∧ Below w.heap.size w wr) (fun _ i _ => s.data.toList.length - (RowKit.intOf i).toNat)
  case atStart => exact ⟨0, 0, 0, [], rfl, rfl, Nat.zero_le _, rfl, rfl, by omega, by omega, by simp, HK.out, HG.out, HB.out⟩
  case round =>
    obtain ⟨k, a, b, l, rfl, rfl, hk, he, hst0, ha, hb, hl, K3, G3, B3⟩ := hrel
    have hsz1 := HSZ.out
    have HE := Lib.hid he; have H3 := Lib.hid K3; have HG3 := Lib.hid G3; have HB3 := Lib.hid B3; have HS0 := Lib.hid hst0
    clear he K3 G3 B3 hst0
    by_cases hlt : k < s.data.toList.length
    · have hlt2 : k < s.size := by omega
      have hlt3 : (k : Int) < (s.size : Int) := by omega
      have hc : s.data.toList.drop k = s[k] :: s.data.toList.drop (k + 1) := List.drop_eq_getElem_cons hlt
      have HC := Lib.hid hc
      have hkb : k < 1100000 := by omega
      have hn2 : (s[k]).toNat < 2 ^ 8 := UInt8.toNat_lt _
      have HN2 := Lib.hid hn2
      have HW := Lib.hid (show wrap64 ((s[k]).toNat : Int) = ((s[k]).toNat : Int) by unfold wrap64; omega)
      have HLT := Lib.hid hlt
      have hl4 : l.length ≤ 4400000 := by omega
      have hel := emit_len 6 ((a * 2 ^ 8 + (s[k]).toNat) % 65536) 2 (b + 8)
      have HEL := Lib.hid hel
      clear hc hn2 hel hlt hk
      have hd := decide_eq_true hlt3
      have HSZ1 := Lib.hid hsz1
      clear hsz1
      go_wp2_with (go_at_call 110; rw [HW.out]; refine (gat8_c w.heap.size w.heap.size (w.heap.size + 1) 4400000 (EncK w.heap.size w.heap.size) SK.out l a b (s[k]).toNat _ H3.out HG3.out ha hb HN2.out hl4 (by omega) (Nat.le_refl _) HB3.out.size).mono ?_; rintro e w5 ⟨rfl, h5, g5, b5⟩; have H5 := Lib.hid h5; have G5 := Lib.hid g5; have B5 := Lib.hid b5; clear h5 g5 b5)
      have hlt := HLT.out
      have hsz1 := HSZ1.out
      go_roundw
      case rel =>
        refine ⟨k + 1, (a * 2 ^ 8 + (s[k]).toNat) % 65536, (b + 8) % 6, _, rfl, by go_num, hlt, ?_, ?_, by omega, by omega, ?_, H5.out, G5.out, HB3.out.trans B5.out⟩
        · rw [← HE.out, HC.out, List.append_assoc]; rfl
        · rw [← HS0.out, HC.out]; rfl
        · have := HEL.out
          rw [List.length_append]; omega
      case measure => simp [RowKit.intOf]; omega
    · have hkl : k = s.data.toList.length := by omega
      have hlt3 : ¬ (k : Int) < (s.size : Int) := by omega
      have he2 := HE.out
      have hs2 := HS0.out
      rw [hkl, List.drop_length] at he2 hs2
      simp only [encGo, encSt, List.append_nil] at he2 hs2
      have hl5 : l.length ≤ 4400000 := by omega
      have HE2 := Lib.hid he2; have HS2 := Lib.hid hs2
      clear he2 hs2 hkl hlt hk hsz1
      have hd := decide_eq_false hlt3
      have hal : encAll s.data.toList = if 0 < b then l ++ emit 6 ((a * 2 ^ 8 + 0) % 65536) 2 (b + 8) else l := by
        unfold encAll; rw [← HS2.out, ← HE2.out]
      have hll := encAll_len s.data.toList
      by_cases hb0 : 0 < b
      · rw [if_pos hb0] at hal
        obtain ⟨LG, hLG⟩ : ∃ LG, LG = l ++ emit 6 ((a * 2 ^ 8 + 0) % 65536) 2 (b + 8) := ⟨_, rfl⟩
        rw [← hLG] at hal
        have HLG := Lib.hid hLG
        clear hLG
        rw [hal] at hll
        have hb1 : (0 : Int) < (b : Int) := by omega
        have htz : (⟨(LG.map letterC).toArray⟩ : ByteArray).size = LG.length := by simp [ByteArray.size]
        rw [HSZ.out] at hll
        have hout := enc_out s LG hal
        have HAL := Lib.hid hout
        generalize hT : (⟨(LG.map letterC).toArray⟩ : ByteArray) = T at htz
        have HT := Lib.hid hT
        clear hT hal hout
        have hq : ((s.size : Int) * 8 + 6 - 1) / 6 ≤ (T.size : Int) := by omega
        obtain ⟨p, hp⟩ : ∃ p : Nat, p = (4 - ((s.size * 8 + 5) / 6) % 4) % 4 := ⟨_, rfl⟩
        have hp3 : p ≤ 3 := by omega
        have HP := Lib.hid (pads_int s.size p hp)
        have hPz : (⟨(List.replicate p (61 : UInt8)).toArray⟩ : ByteArray).size = p := by simp [ByteArray.size]
        have RP := Lib.hid (repeat_pads p hp3)
        have HPP := Lib.hid hp
        clear hp
        generalize hPP : (⟨(List.replicate p (61 : UInt8)).toArray⟩ : ByteArray) = PP at hPz RP
        have HPB := Lib.hid hPP
        clear hPP
        go_wp2_with (first
          | (go_at_call 110; refine (gat8_c w.heap.size w.heap.size (w.heap.size + 1) 4400000 (EncK w.heap.size w.heap.size) SK.out l a b 0 _ H3.out HG3.out ha hb (by decide) hl5 (by omega) (Nat.le_refl _) HB3.out.size).mono ?_; rintro e w5 ⟨rfl, h5, g5, b5⟩; rw [← HLG.out] at h5; have HK5 := Lib.hid h5; have HBX := Lib.hid (HB3.out.trans b5); clear h5 g5 b5)
          | (go_at_call 36; refine (Tryz.Builder_String_any_k w.heap.size w.heap.size (LG.map letterC) _ HK5.out HBX.out.size).mono ?_; rintro e W1 ⟨rfl, _, b1, _⟩; rw [HT.out]; have HB4 := Lib.hid b1; clear b1)
          | (go_at_call 88; rw [HP.out]; refine (RP.out _).mono ?_; rintro e W2 ⟨rfl, b2⟩; have HB5 := Lib.hid b2; clear b2))
        go_ret
        refine ⟨?_, (HBX.out.trans HB4.out).trans (HB5.out.mono (HBX.out.trans HB4.out).size)⟩
        rw [← HAL.out p HPP.out, HT.out, HPB.out]
        rfl
      · rw [if_neg hb0] at hal
        obtain rfl : b = 0 := by omega
        rw [hal] at hll
        have htz : (⟨(l.map letterC).toArray⟩ : ByteArray).size = l.length := by simp [ByteArray.size]
        rw [HSZ.out] at hll
        have hout := enc_out s l hal
        have HAL := Lib.hid hout
        generalize hT : (⟨(l.map letterC).toArray⟩ : ByteArray) = T at htz
        have HT := Lib.hid hT
        clear hT hal hout
        have hq : ((s.size : Int) * 8 + 6 - 1) / 6 ≤ (T.size : Int) := by omega
        obtain ⟨p, hp⟩ : ∃ p : Nat, p = (4 - ((s.size * 8 + 5) / 6) % 4) % 4 := ⟨_, rfl⟩
        have hp3 : p ≤ 3 := by omega
        have HP := Lib.hid (pads_int s.size p hp)
        have hPz : (⟨(List.replicate p (61 : UInt8)).toArray⟩ : ByteArray).size = p := by simp [ByteArray.size]
        have RP := Lib.hid (repeat_pads p hp3)
        have HPP := Lib.hid hp
        clear hp
        generalize hPP : (⟨(List.replicate p (61 : UInt8)).toArray⟩ : ByteArray) = PP at hPz RP
        have HPB := Lib.hid hPP
        clear hPP
        go_wp2_with (first
          | (go_at_call 36; refine (Tryz.Builder_String_any_k w.heap.size w.heap.size (l.map letterC) _ H3.out HB3.out.size).mono ?_; rintro e W1 ⟨rfl, _, b1, _⟩; rw [HT.out]; have HB4 := Lib.hid b1; clear b1)
          | (go_at_call 88; rw [HP.out]; refine (RP.out _).mono ?_; rintro e W2 ⟨rfl, b2⟩; have HB5 := Lib.hid b2; clear b2))
        go_ret
        refine ⟨?_, (HB3.out.trans HB4.out).trans (HB5.out.mono (HB3.out.trans HB4.out).size)⟩
        rw [← HAL.out p HPP.out, HT.out, HPB.out]
        rfl
end Go.Proofs.YtpcncpegbboljaaGreatDoor.B64
namespace Go.Proofs.YtpcncpegbboljaaGreatDoor.B64
open Go.RowKit Go.Lib Go.Proofs.YtpcncpegbboljaaGreatDoor
set_option linter.unusedVariables false
set_option linter.unusedSimpArgs false
def encC : List UInt8 → List Nat
  | [] => []
  | [x] => [x.toNat / 4, x.toNat % 4 * 16]
  | [x, y] => [x.toNat / 4, x.toNat % 4 * 16 + y.toNat / 16, y.toNat % 16 * 4]
  | x :: y :: z :: r => [x.toNat / 4, x.toNat % 4 * 16 + y.toNat / 16, y.toNat % 16 * 4 + z.toNat / 64, z.toNat % 64] ++ encC r
theorem encC_len : ∀ (n : Nat) (l : List UInt8), l.length ≤ n → (encC l).length = (l.length * 8 + 5) / 6
  | _, [], _ => rfl
  | _, [x], _ => by simp [encC]
  | _, [x, y], _ => by simp [encC]
  | 0, x :: y :: z :: r, hl => by simp at hl
  | n + 1, x :: y :: z :: r, hl => by
    simp only [encC, List.length_append, List.length_cons, List.length_nil] at hl ⊢
    rw [encC_len n r (by omega)]; omega
def encFrom (a : Nat) (l : List UInt8) : List Nat :=
  if 0 < (encSt a 0 l).2 then encGo a 0 l ++ emit 6 (((encSt a 0 l).1 * 2 ^ 8 + 0) % 65536) 2 ((encSt a 0 l).2 + 8) else encGo a 0 l
theorem em8 (T : Nat) : emit 6 T 2 8 = [T / 4 % 64] := by simp [emit]
theorem em10 (T : Nat) : emit 6 T 2 10 = [T / 16 % 64] := by simp [emit]
theorem em12 (T : Nat) : emit 6 T 2 12 = [T / 64 % 64, T % 64] := by simp [emit]
theorem encFrom_is : ∀ (n : Nat) (l : List UInt8) (a : Nat), l.length ≤ n → (encFrom a l).take ((l.length * 8 + 5) / 6) = encC l
  | _, [], a, _ => by simp [encFrom, encSt, encGo, encC]
  | _, [x], a, _ => by
    have := UInt8.toNat_lt x
    simp only [encFrom, encSt, encGo, encC, em8, em10, Nat.zero_add, List.append_nil, List.length_cons, List.length_nil]
    simp only [show (8 : Nat) % 6 = 2 from rfl, show (0 : Nat) < 2 from by decide, if_true, show 2 + 8 = 10 from rfl, em10, List.cons_append, List.nil_append, show ((0 + 1) * 8 + 5) / 6 = 2 from rfl, List.take_succ_cons, List.take_zero]
    congr 1
    · omega
    · congr 1; omega
  | _, [x, y], a, _ => by
    have := UInt8.toNat_lt x; have := UInt8.toNat_lt y
    simp only [encFrom, encSt, encGo, encC, em8, em10, Nat.zero_add, List.append_nil, List.length_cons, List.length_nil]
    simp only [show (8 : Nat) % 6 = 2 from rfl, show (2 + 8 : Nat) % 6 = 4 from rfl, show (0 : Nat) < 4 from by decide, if_true, show 2 + 8 = 10 from rfl, show 4 + 8 = 12 from rfl, em10, em12, List.cons_append, List.nil_append, show ((1 + 1) * 8 + 5) / 6 = 3 from rfl, List.take_succ_cons, List.take_zero]
    congr 1
    · omega
    · congr 1
      · omega
      · congr 1; omega
  | 0, x :: y :: z :: r, a, hl => by simp at hl
  | n + 1, x :: y :: z :: r, a, hl => by
    have := UInt8.toNat_lt x; have := UInt8.toNat_lt y; have := UInt8.toNat_lt z
    have ih := encFrom_is n r ((((a * 2 ^ 8 + x.toNat) % 65536 * 2 ^ 8 + y.toNat) % 65536 * 2 ^ 8 + z.toNat) % 65536) (by simp only [List.length_cons] at hl; omega)
    have e : encFrom a (x :: y :: z :: r) = [x.toNat / 4, x.toNat % 4 * 16 + y.toNat / 16, y.toNat % 16 * 4 + z.toNat / 64, z.toNat % 64] ++ encFrom ((((a * 2 ^ 8 + x.toNat) % 65536 * 2 ^ 8 + y.toNat) % 65536 * 2 ^ 8 + z.toNat) % 65536) r := by
      simp only [encFrom, encSt, encGo, Nat.zero_add, show (8 : Nat) % 6 = 2 from rfl, show 2 + 8 = 10 from rfl, show (10 : Nat) % 6 = 4 from rfl, show 4 + 8 = 12 from rfl, show (12 : Nat) % 6 = 0 from rfl, em8, em10, em12]
      obtain ⟨p, hp⟩ : ∃ p, p = (a * 2 ^ 8 + x.toNat) % 65536 := ⟨_, rfl⟩
      have p1 : p % 256 = x.toNat := by omega
      have e1 : p / 4 % 64 = x.toNat / 4 := by omega
      rw [← hp]
      clear hp
      obtain ⟨q, hq⟩ : ∃ q, q = (p * 2 ^ 8 + y.toNat) % 65536 := ⟨_, rfl⟩
      have q1 : q = x.toNat * 256 + y.toNat := by omega
      have e2 : q / 16 % 64 = x.toNat % 4 * 16 + y.toNat / 16 := by omega
      rw [← hq]
      clear hq
      obtain ⟨u, hu⟩ : ∃ u, u = (q * 2 ^ 8 + z.toNat) % 65536 := ⟨_, rfl⟩
      have u1 : u = y.toNat * 256 + z.toNat := by omega
      have e3 : u / 64 % 64 = y.toNat % 16 * 4 + z.toNat / 64 := by omega
      have e4 : u % 64 = z.toNat % 64 := by omega
      rw [← hu, e1, e2, e3, e4]
      split <;> simp
    rw [e, encC, ← ih]
    simp only [List.length_cons]
    rw [show ((r.length + 1 + 1 + 1) * 8 + 5) / 6 = (r.length * 8 + 5) / 6 + 4 by omega]
    simp
theorem encT_is (l : List UInt8) : b64EncT l = (encC l).map letterC := by
  have := encFrom_is l.length l 0 (Nat.le_refl _)
  unfold b64EncT
  rw [← List.map_take]
  exact congrArg (List.map letterC) this
theorem b64_len (l : List UInt8) : (b64EncL l).length = (l.length + 2) / 3 * 4 := by
  unfold b64EncL
  rw [encT_is, List.length_append, List.length_replicate, List.length_map, encC_len _ _ (Nat.le_refl _)]
  obtain ⟨m, hm⟩ : ∃ m : Nat, m = (l.length * 8 + 5) / 6 := ⟨_, rfl⟩
  rw [← hm]; omega
end Go.Proofs.YtpcncpegbboljaaGreatDoor.B64
namespace Go.Proofs.YtpcncpegbboljaaGreatDoor.WordQ
open Go.RowKit Go.Lib Go.Proofs.YtpcncpegbboljaaGreatDoor
set_option linter.unusedVariables false
def upW (c : UInt8) : UInt8 := if 97 ≤ c.toNat ∧ c.toNat ≤ 102 then UInt8.ofNat (c.toNat - 32) else c
theorem upper_e (c : UInt8) (w : World) : Calls Tryz.prog 124 #[.int .u8 (c.toNat : Int)] w fun e w' => e = .returned (.int .u8 ((upW c).toNat : Int)) ∧ w' = w := by
  have hc : c.toNat < 256 := UInt8.toNat_lt _
  by_cases h1 : 97 ≤ c.toNat
  · by_cases h2 : c.toNat ≤ 102
    · have e : (upW c).toNat = c.toNat - 32 := by
        unfold upW; rw [if_pos ⟨h1, h2⟩, UInt8.toNat_ofNat']; omega
      have HE := Lib.hid (show ((upW c).toNat : Int) = (c.toNat : Int) - 32 by omega)
      clear e
      go_enter Tryz.func124, Tryz.ntmps124
      go_wp2
      go_ret
      refine ⟨?_, rfl⟩
      rw [HE.out]
      refine congrArg (fun x => Ending.returned (Value.int IntKind.u8 x)) ?_
      first | (simp; done) | omega
    · have HE := Lib.hid (show upW c = c by unfold upW; rw [if_neg (by omega)])
      go_enter Tryz.func124, Tryz.ntmps124
      go_wp2
      go_ret
      exact ⟨by rw [HE.out]; rfl, rfl⟩
  · have HE := Lib.hid (show upW c = c by unfold upW; rw [if_neg (by omega)])
    go_enter Tryz.func124, Tryz.ntmps124
    go_wp2
    go_ret
    exact ⟨by rw [HE.out]; rfl, rfl⟩
def digitsB : ByteArray := ⟨#[48, 49, 50, 51, 52, 53, 54, 55, 56, 57, 65, 66, 67, 68, 69, 70]⟩
def hexW (c : UInt8) : Int := indexByte digitsB.data.toList (upW c)
theorem hexW_all : ∀ c : Fin 256, hexW (UInt8.ofNat c.val) = -1 ∨ (0 ≤ hexW (UInt8.ofNat c.val) ∧ hexW (UInt8.ofNat c.val) < 16) := by decide +kernel
theorem hexW_r (c : UInt8) : hexW c = -1 ∨ (0 ≤ hexW c ∧ hexW c < 16) := by
  have := hexW_all ⟨c.toNat, UInt8.toNat_lt c⟩
  simpa using this
theorem index_digits (c : UInt8) (W : World) : Calls Tryz.prog 108 #[.string (⟨#[48, 49, 50, 51, 52, 53, 54, 55, 56, 57, 65, 66, 67, 68, 69, 70]⟩ : ByteArray), .int .u8 ((upW c).toNat : Int)] W fun e w' => e = .returned (.int .i64 (hexW c)) ∧ w' = W :=
  (Tryz.strings_IndexByte digitsB ((upW c).toNat : Int) W).mono (by
    rintro e w' ⟨rfl, rfl⟩
    refine ⟨?_, rfl⟩
    unfold hexW
    rw [show (((upW c).toNat : Int)).toNat.toUInt8 = upW c by simp])
theorem hex_or : ∀ a b : Fin 16, bits .or .i64 (wrap64 ((a.val : Int) * 16)) (b.val : Int) = ((16 * a.val + b.val : Nat) : Int) := by decide +kernel
def quotedL : List UInt8 → List UInt8
  | [] => []
  | [c] => [if c = 95 then 32 else c]
  | [c, d] => (if c = 95 then 32 else c) :: quotedL [d]
  | c :: a :: b :: r =>
    if c = 61 ∧ 0 ≤ hexW a ∧ 0 ≤ hexW b then UInt8.ofNat (16 * (hexW a).toNat + (hexW b).toNat) :: quotedL r
    else (if c = 95 then 32 else c) :: quotedL (a :: b :: r)
theorem quoted_len : ∀ (n : Nat) (l : List UInt8), l.length ≤ n → (quotedL l).length ≤ l.length
  | 0, l, h => by
    obtain rfl : l = [] := List.length_eq_zero_iff.1 (by omega)
    simp [quotedL]
  | n + 1, [], h => by simp [quotedL]
  | n + 1, [c], h => by simp [quotedL]
  | n + 1, [c, d], h => by simp [quotedL]
  | n + 1, c :: a :: b :: r, h => by
    simp only [quotedL]
    simp only [List.length_cons] at h
    split
    · have := quoted_len n r (by omega)
      simp only [List.length_cons]; omega
    · have := quoted_len n (a :: b :: r) (by simp only [List.length_cons]; omega)
      simp only [List.length_cons] at this ⊢; omega
end Go.Proofs.YtpcncpegbboljaaGreatDoor.WordQ
namespace Go.Proofs.YtpcncpegbboljaaGreatDoor.C
open Go.RowKit Go.Proofs.YtpcncpegbboljaaGreatDoorW.PrintWords Go.Proofs.YtpcncpegbboljaaGreatDoorW.PrintLast Go.Proofs.YtpcncpegbboljaaGreatDoorW.PrintMore
attribute [local go_sem] max2_int min2_int max_two min_two max_three min_three max_four min_four
set_option linter.unusedVariables false
set_option linter.unusedSimpArgs false
def errW : Option Int → Value
  | none => .nilIface
  | some c => .iface 0 (.int .i64 c)
theorem errW_none : errW none = .nilIface := rfl
theorem errW_some (c : Int) : errW (some c) = .iface 0 (.int .i64 c) := rfl
theorem info5 : (Tryz.prog.info? 5).map (fun i => (i.zero, i.size, i.bytes)) = some (some (.int .u8 0), 1, 1) := by kernel_rfl
end Go.Proofs.YtpcncpegbboljaaGreatDoor.C
namespace Go.Proofs.YtpcncpegbboljaaGreatDoor.C
open Go.RowKit Go.Proofs.YtpcncpegbboljaaGreatDoorW.PrintWords Go.Proofs.YtpcncpegbboljaaGreatDoorW.PrintLast Go.Proofs.YtpcncpegbboljaaGreatDoorW.PrintMore
attribute [local go_sem] max2_int min2_int max_two min_two max_three min_three max_four min_four
set_option linter.unusedVariables false
set_option linter.unusedSimpArgs false
mutual
def chars_Known.j0 : Nat → ByteArray → Bool → Option (ByteArray × Bool)
  | 0, _, _ => none
  | k + 1, x6, x7 => if x7 = true then (some ((⟨#[117, 116, 102, 45, 56]⟩ : ByteArray), true)) else (if x6.toList = ([119, 105, 110, 100, 111, 119, 115, 45, 49, 50, 53, 50] : List UInt8) then (chars_Known.j1 k x6 (x6.toList == ([119, 105, 110, 100, 111, 119, 115, 45, 49, 50, 53, 50] : List UInt8))) else (if x6.toList = ([99, 112, 49, 50, 53, 50] : List UInt8) then (chars_Known.j1 k x6 (x6.toList == ([99, 112, 49, 50, 53, 50] : List UInt8))) else (if x6.toList = ([117, 115, 45, 97, 115, 99, 105, 105] : List UInt8) then (chars_Known.j1 k x6 (x6.toList == ([117, 115, 45, 97, 115, 99, 105, 105] : List UInt8))) else (if x6.toList = ([97, 115, 99, 105, 105] : List UInt8) then (chars_Known.j1 k x6 (x6.toList == ([97, 115, 99, 105, 105] : List UInt8))) else (if x6.toList = ([105, 115, 111, 45, 56, 56, 53, 57, 45, 49] : List UInt8) then (chars_Known.j1 k x6 (x6.toList == ([105, 115, 111, 45, 56, 56, 53, 57, 45, 49] : List UInt8))) else (if x6.toList = ([105, 115, 111, 56, 56, 53, 57, 45, 49] : List UInt8) then (chars_Known.j1 k x6 (x6.toList == ([105, 115, 111, 56, 56, 53, 57, 45, 49] : List UInt8))) else (if x6.toList = ([108, 97, 116, 105, 110, 49] : List UInt8) then (chars_Known.j1 k x6 (x6.toList == ([108, 97, 116, 105, 110, 49] : List UInt8))) else (chars_Known.j1 k x6 (x6.toList == ([108, 49] : List UInt8))))))))))
def chars_Known.j1 : Nat → ByteArray → Bool → Option (ByteArray × Bool)
  | 0, _, _ => none
  | k + 1, x6, x11 => if x11 = true then (some ((⟨#[119, 105, 110, 100, 111, 119, 115, 45, 49, 50, 53, 50]⟩ : ByteArray), true)) else (if x6.toList = ([117, 116, 102, 45, 49, 54, 108, 101] : List UInt8) then (chars_Known.j2 k x6 (x6.toList == ([117, 116, 102, 45, 49, 54, 108, 101] : List UInt8))) else (if x6.toList = ([117, 116, 102, 45, 49, 54] : List UInt8) then (chars_Known.j2 k x6 (x6.toList == ([117, 116, 102, 45, 49, 54] : List UInt8))) else (if x6.toList = ([117, 110, 105, 99, 111, 100, 101] : List UInt8) then (chars_Known.j2 k x6 (x6.toList == ([117, 110, 105, 99, 111, 100, 101] : List UInt8))) else (chars_Known.j2 k x6 (x6.toList == ([117, 99, 115, 45, 50] : List UInt8))))))
def chars_Known.j2 : Nat → ByteArray → Bool → Option (ByteArray × Bool)
  | 0, _, _ => none
  | k + 1, x6, x20 => if x20 = true then (some ((⟨#[117, 116, 102, 45, 49, 54, 108, 101]⟩ : ByteArray), true)) else (if x6.toList = ([117, 116, 102, 45, 49, 54, 98, 101] : List UInt8) then (some ((⟨#[117, 116, 102, 45, 49, 54, 98, 101]⟩ : ByteArray), true)) else (if x6.toList = ([117, 110, 105, 99, 111, 100, 101, 102, 102, 102, 101] : List UInt8) then (some ((⟨#[117, 116, 102, 45, 49, 54, 98, 101]⟩ : ByteArray), true)) else (some ((⟨#[]⟩ : ByteArray), false))))
end
def chars_Known.f (k : Nat) (a0 : ByteArray) : Option (ByteArray × Bool) := (strings_Trim.f a0 (⟨#[32, 9, 10, 12, 13]⟩ : ByteArray)).bind fun t101 => ((chars_small.f t101).bind fun t102 => (if t102.toList = ([117, 116, 102, 45, 56] : List UInt8) then (chars_Known.j0 k t102 (t102.toList == ([117, 116, 102, 45, 56] : List UInt8))) else (if t102.toList = ([117, 116, 102, 56] : List UInt8) then (chars_Known.j0 k t102 (t102.toList == ([117, 116, 102, 56] : List UInt8))) else (chars_Known.j0 k t102 (t102.toList == ([117, 110, 105, 99, 111, 100, 101, 45, 49, 45, 49, 45, 117, 116, 102, 45, 56] : List UInt8))))))
theorem chars_Known.mono_l : ∀ k, (∀ y0 y1, LeO (chars_Known.j0 k y0 y1) (chars_Known.j0 (k + 1) y0 y1)) ∧ (∀ y0 y1, LeO (chars_Known.j1 k y0 y1) (chars_Known.j1 (k + 1) y0 y1)) ∧ (∀ y0 y1, LeO (chars_Known.j2 k y0 y1) (chars_Known.j2 (k + 1) y0 y1))
  | 0 => ⟨fun _ _ r h => by simp [chars_Known.j0] at h, fun _ _ r h => by simp [chars_Known.j1] at h, fun _ _ r h => by simp [chars_Known.j2] at h⟩
  | k + 1 => by
    obtain ⟨ih0, ih1, ih2⟩ := chars_Known.mono_l k
    refine ⟨?_, ?_, ?_⟩
    · intro y0 y1
      unfold chars_Known.j0
      repeat' first
      | (with_reducible exact ih0 _ _)
      | (with_reducible exact ih1 _ _)
      | (with_reducible exact ih2 _ _)
      | (with_reducible exact LeO.refl _)
      | (with_reducible exact LeO.none _)
      | (with_reducible refine LeO.ite ?_ ?_)
      | (with_reducible refine LeO.bind ?_ (fun _ => ?_))
      | exact ih0 _ _
      | exact ih1 _ _
      | exact ih2 _ _
      | exact LeO.none _
      | refine LeO.ite ?_ ?_
      | refine LeO.bind ?_ (fun _ => ?_)
    · intro y0 y1
      unfold chars_Known.j1
      repeat' first
      | (with_reducible exact ih0 _ _)
      | (with_reducible exact ih1 _ _)
      | (with_reducible exact ih2 _ _)
      | (with_reducible exact LeO.refl _)
      | (with_reducible exact LeO.none _)
      | (with_reducible refine LeO.ite ?_ ?_)
      | (with_reducible refine LeO.bind ?_ (fun _ => ?_))
      | exact ih0 _ _
      | exact ih1 _ _
      | exact ih2 _ _
      | exact LeO.none _
      | refine LeO.ite ?_ ?_
      | refine LeO.bind ?_ (fun _ => ?_)
    · intro y0 y1
      unfold chars_Known.j2
      repeat' first
      | (with_reducible exact ih0 _ _)
      | (with_reducible exact ih1 _ _)
      | (with_reducible exact ih2 _ _)
      | (with_reducible exact LeO.refl _)
      | (with_reducible exact LeO.none _)
      | (with_reducible refine LeO.ite ?_ ?_)
      | (with_reducible refine LeO.bind ?_ (fun _ => ?_))
      | exact ih0 _ _
      | exact ih1 _ _
      | exact ih2 _ _
      | exact LeO.none _
      | refine LeO.ite ?_ ?_
      | refine LeO.bind ?_ (fun _ => ?_)
set_option maxHeartbeats 8000000 in
set_option maxRecDepth 100000 in
theorem chars_Known.calls (k : Nat) (a0 : ByteArray) (r1 : ByteArray) (r2 : Bool) (w : World) (h : chars_Known.f k a0 = some (r1, r2)) :
    Calls Tryz.prog 97 #[.string a0] w fun e w' => e = .returned (.tuple #[.string r1, .bool r2]) ∧ Below w.heap.size w w' := by
  have HB := Aside0.mk (Below.refl w.heap.size w); have H : ((strings_Trim.f a0 (⟨#[32, 9, 10, 12, 13]⟩ : ByteArray)).bind fun t101 => ((chars_small.f t101).bind fun t102 => (if t102.toList = ([117, 116, 102, 45, 56] : List UInt8) then (chars_Known.j0 k t102 (t102.toList == ([117, 116, 102, 45, 56] : List UInt8))) else (if t102.toList = ([117, 116, 102, 56] : List UInt8) then (chars_Known.j0 k t102 (t102.toList == ([117, 116, 102, 56] : List UInt8))) else (chars_Known.j0 k t102 (t102.toList == ([117, 110, 105, 99, 111, 100, 101, 45, 49, 45, 49, 45, 117, 116, 102, 45, 56] : List UInt8))))))) = some (r1, r2) := h; clear h; replace H := Option.bind_eq_some_iff.mp H; obtain ⟨t101, A20, H⟩ := H; replace H : ((chars_small.f t101).bind fun t102 => (if t102.toList = ([117, 116, 102, 45, 56] : List UInt8) then (chars_Known.j0 k t102 (t102.toList == ([117, 116, 102, 45, 56] : List UInt8))) else (if t102.toList = ([117, 116, 102, 56] : List UInt8) then (chars_Known.j0 k t102 (t102.toList == ([117, 116, 102, 56] : List UInt8))) else (chars_Known.j0 k t102 (t102.toList == ([117, 110, 105, 99, 111, 100, 101, 45, 49, 45, 49, 45, 117, 116, 102, 45, 56] : List UInt8)))))) = some (r1, r2) := H; have A2 := Aside0.mk A20; clear A20; replace H := Option.bind_eq_some_iff.mp H; obtain ⟨t102, A30, H⟩ := H; replace H : (if t102.toList = ([117, 116, 102, 45, 56] : List UInt8) then (chars_Known.j0 k t102 (t102.toList == ([117, 116, 102, 45, 56] : List UInt8))) else (if t102.toList = ([117, 116, 102, 56] : List UInt8) then (chars_Known.j0 k t102 (t102.toList == ([117, 116, 102, 56] : List UInt8))) else (chars_Known.j0 k t102 (t102.toList == ([117, 110, 105, 99, 111, 100, 101, 45, 49, 45, 49, 45, 117, 116, 102, 45, 56] : List UInt8))))) = some (r1, r2) := H; have A3 := Aside0.mk A30; clear A30; have HC4 := Aside0.mk H; clear H
  go_enter Tryz.func97, Tryz.ntmps97
  go_upto_if 7 with (first | ((with_reducible refine gate_callee (f := 43) rfl ?_); refine goesL_ (some 5) rfl rfl Tryz.func43 (by kernel_rfl) rfl #[.string a0, .string (⟨#[32, 9, 10, 12, 13]⟩ : ByteArray)] rfl (by (try simp only [List.map_toArray, List.map_cons, List.map_nil]); first | done | rfl | (simp only [List.length_drop, List.length_take]; rfl)) ?_; (with_reducible refine (strings_Trim.calls a0 (⟨#[32, 9, 10, 12, 13]⟩ : ByteArray) t101 _ A2.out).mono ?_); rintro e w5 ⟨rfl, hb⟩; refine ⟨_, rfl, ?_⟩; have n0_ := Aside0.mk (below_step (by repeat (first | (with_reducible first | exact HB.out | apply below_alloc | apply pw_below_drewN | apply below_drew1) | exact HB.out)) hb); clear HB; have HB := n0_; clear n0_; (try clear hb); (try clear hb2); (try clear hk); (try clear hi)) | ((with_reducible refine gate_callee (f := 122) rfl ?_); refine goesL_ (some 6) rfl rfl Tryz.func122 (by kernel_rfl) rfl #[.string t101] rfl (by (try simp only [List.map_toArray, List.map_cons, List.map_nil]); first | done | rfl | (simp only [List.length_drop, List.length_take]; rfl)) ?_; (with_reducible refine (chars_small.calls t101 t102 _ A3.out).mono ?_); rintro e w6 ⟨rfl, hb⟩; refine ⟨_, rfl, ?_⟩; have n0_ := Aside0.mk (below_step (by repeat (first | (with_reducible first | exact HB.out | apply below_alloc | apply pw_below_drewN | apply below_drew1) | exact HB.out)) hb); clear HB; have HB := n0_; clear n0_; (try clear hb); (try clear hb2); (try clear hk); (try clear hi)))
  (try simp only [Act.put, List.setIfInBounds_toArray, List.set_cons_zero, List.set_cons_succ])
  go_cut [7] (fun v7 wc => ∃ (kq : Nat) (x7_3 : Bool), v7 = .bool x7_3 ∧ Aside0 (chars_Known.j0 kq t102 x7_3 = some (r1, r2)) ∧ Aside0 (kq ≤ k) ∧ Aside0 (Below w.heap.size w wc))
  case first =>
    have H := HC4.out; clear HC4
    by_cases c7 : t102.toList = ([117, 116, 102, 45, 56] : List UInt8)
    case pos =>
      rw [if_pos c7] at H; have c7b0 : (t102.toList == ([117, 116, 102, 45, 56] : List UInt8)) = true := beq_iff_eq.mpr c7; have c7b1 : (t102.toList != ([117, 116, 102, 45, 56] : List UInt8)) = false := bne_eq_false_iff_eq.mpr c7; clear c7
      (first | rw [c7b0] | (simp only [i64_w, i32_w]; rw [c7b0]) | skip)
      have H' := Aside0.mk H; clear H
      go_wp2
      go_meet
      case rel => exact ⟨_, ((t102.toList == ([117, 116, 102, 45, 56] : List UInt8))), (by first | rfl | (simp; done) | (simp [*]; done)), H', ⟨by first | omega | exact Nat.le_refl _⟩, ⟨by repeat (first | (with_reducible first | exact HB.out | apply below_alloc | apply pw_below_drewN | apply below_drew1) | exact HB.out)⟩⟩
    rw [if_neg c7] at H; have c7b0 : (t102.toList == ([117, 116, 102, 45, 56] : List UInt8)) = false := beq_eq_false_iff_ne.mpr c7; have c7b1 : (t102.toList != ([117, 116, 102, 45, 56] : List UInt8)) = true := bne_iff_ne.mpr c7
    (first | rw [c7b0] | (simp only [i64_w, i32_w]; rw [c7b0]) | skip)
    by_cases c8 : t102.toList = ([117, 116, 102, 56] : List UInt8)
    case pos =>
      rw [if_pos c8] at H; have c8b0 : (t102.toList == ([117, 116, 102, 56] : List UInt8)) = true := beq_iff_eq.mpr c8; have c8b1 : (t102.toList != ([117, 116, 102, 56] : List UInt8)) = false := bne_eq_false_iff_eq.mpr c8; clear c8; have H' := Aside0.mk H; clear H
      go_wp2
      go_meet
      case rel => exact ⟨_, ((t102.toList == ([117, 116, 102, 56] : List UInt8))), (by first | rfl | (simp; done) | (simp [*]; done)), H', ⟨by first | omega | exact Nat.le_refl _⟩, ⟨by repeat (first | (with_reducible first | exact HB.out | apply below_alloc | apply pw_below_drewN | apply below_drew1) | exact HB.out)⟩⟩
    rw [if_neg c8] at H; have c8b0 : (t102.toList == ([117, 116, 102, 56] : List UInt8)) = false := beq_eq_false_iff_ne.mpr c8; have c8b1 : (t102.toList != ([117, 116, 102, 56] : List UInt8)) = true := bne_iff_ne.mpr c8; have H' := Aside0.mk H; clear H
    go_wp2
    go_meet
    case rel => exact ⟨_, ((t102.toList == ([117, 110, 105, 99, 111, 100, 101, 45, 49, 45, 49, 45, 117, 116, 102, 45, 56] : List UInt8))), (by first | rfl | (simp; done) | (simp [*]; done)), H', ⟨by first | omega | exact Nat.le_refl _⟩, ⟨by repeat (first | (with_reducible first | exact HB.out | apply below_alloc | apply pw_below_drewN | apply below_drew1) | exact HB.out)⟩⟩
  case rest =>
    clear HC4; (try clear c1); (try clear p2); (try clear c4); (try clear c7); (try clear c7b0); (try clear c7b1); (try clear c8); (try clear c8b0); (try clear c8b1); obtain ⟨kq, x7_3, rfl, HA, HJ3, HB⟩ := hcut
    cases kq with
    | zero => exact absurd HA.out (by simp [chars_Known.j0])
    | succ kj3 =>
      have H := HA.out; clear HA; simp only [chars_Known.j0] at H
      by_cases c9 : x7_3 = true
      case pos =>
        subst c9
        have H1 : (some ((⟨#[117, 116, 102, 45, 56]⟩ : ByteArray), true)) = some (r1, r2) := by rw [if_pos rfl] at H; exact H
        clear H; have H := H1; clear H1; simp only [Option.some.injEq, Prod.mk.injEq] at H; obtain ⟨rfl, rfl⟩ := H
        go_wp2
        go_ret2
        exact ⟨by first | rfl | (simp [errW_none, errW_some] <;> rfl) | (simp [*, errW_none, errW_some] <;> rfl), by repeat (first | (with_reducible first | exact HB.out | apply below_alloc | apply pw_below_drewN | apply below_drew1) | exact HB.out)⟩
      replace c9 := Bool.eq_false_iff.mpr c9; subst c9
      have H1 : (if t102.toList = ([119, 105, 110, 100, 111, 119, 115, 45, 49, 50, 53, 50] : List UInt8) then (chars_Known.j1 kj3 t102 (t102.toList == ([119, 105, 110, 100, 111, 119, 115, 45, 49, 50, 53, 50] : List UInt8))) else (if t102.toList = ([99, 112, 49, 50, 53, 50] : List UInt8) then (chars_Known.j1 kj3 t102 (t102.toList == ([99, 112, 49, 50, 53, 50] : List UInt8))) else (if t102.toList = ([117, 115, 45, 97, 115, 99, 105, 105] : List UInt8) then (chars_Known.j1 kj3 t102 (t102.toList == ([117, 115, 45, 97, 115, 99, 105, 105] : List UInt8))) else (if t102.toList = ([97, 115, 99, 105, 105] : List UInt8) then (chars_Known.j1 kj3 t102 (t102.toList == ([97, 115, 99, 105, 105] : List UInt8))) else (if t102.toList = ([105, 115, 111, 45, 56, 56, 53, 57, 45, 49] : List UInt8) then (chars_Known.j1 kj3 t102 (t102.toList == ([105, 115, 111, 45, 56, 56, 53, 57, 45, 49] : List UInt8))) else (if t102.toList = ([105, 115, 111, 56, 56, 53, 57, 45, 49] : List UInt8) then (chars_Known.j1 kj3 t102 (t102.toList == ([105, 115, 111, 56, 56, 53, 57, 45, 49] : List UInt8))) else (if t102.toList = ([108, 97, 116, 105, 110, 49] : List UInt8) then (chars_Known.j1 kj3 t102 (t102.toList == ([108, 97, 116, 105, 110, 49] : List UInt8))) else (chars_Known.j1 kj3 t102 (t102.toList == ([108, 49] : List UInt8)))))))))) = some (r1, r2) := by rw [if_neg (show ¬ (false = true) by decide)] at H; exact H
      clear H; have H := H1; clear H1; have HC10 := Aside0.mk H; clear H
      go_upto_if 11 with (fail)
      go_cut [11] (fun v11 wc => ∃ (kq : Nat) (x11_9 : Bool), v11 = .bool x11_9 ∧ Aside0 (chars_Known.j1 kq t102 x11_9 = some (r1, r2)) ∧ Aside0 (kq ≤ kj3) ∧ Aside0 (Below w.heap.size w wc))
      case first =>
        have H := HC10.out; clear HC10
        by_cases c11 : t102.toList = ([119, 105, 110, 100, 111, 119, 115, 45, 49, 50, 53, 50] : List UInt8)
        case pos =>
          rw [if_pos c11] at H; have c11b0 : (t102.toList == ([119, 105, 110, 100, 111, 119, 115, 45, 49, 50, 53, 50] : List UInt8)) = true := beq_iff_eq.mpr c11; have c11b1 : (t102.toList != ([119, 105, 110, 100, 111, 119, 115, 45, 49, 50, 53, 50] : List UInt8)) = false := bne_eq_false_iff_eq.mpr c11; clear c11
          (first | rw [c11b0] | (simp only [i64_w, i32_w]; rw [c11b0]) | skip)
          have H' := Aside0.mk H; clear H
          go_wp2
          go_meet
          case rel => exact ⟨_, ((t102.toList == ([119, 105, 110, 100, 111, 119, 115, 45, 49, 50, 53, 50] : List UInt8))), (by first | rfl | (simp; done) | (simp [*]; done)), H', ⟨by have := HJ3.out; first | omega | exact Nat.le_refl _⟩, ⟨by repeat (first | (with_reducible first | exact HB.out | apply below_alloc | apply pw_below_drewN | apply below_drew1) | exact HB.out)⟩⟩
        rw [if_neg c11] at H; have c11b0 : (t102.toList == ([119, 105, 110, 100, 111, 119, 115, 45, 49, 50, 53, 50] : List UInt8)) = false := beq_eq_false_iff_ne.mpr c11; have c11b1 : (t102.toList != ([119, 105, 110, 100, 111, 119, 115, 45, 49, 50, 53, 50] : List UInt8)) = true := bne_iff_ne.mpr c11
        (first | rw [c11b0] | (simp only [i64_w, i32_w]; rw [c11b0]) | skip)
        by_cases c12 : t102.toList = ([99, 112, 49, 50, 53, 50] : List UInt8)
        case pos =>
          rw [if_pos c12] at H; have c12b0 : (t102.toList == ([99, 112, 49, 50, 53, 50] : List UInt8)) = true := beq_iff_eq.mpr c12; have c12b1 : (t102.toList != ([99, 112, 49, 50, 53, 50] : List UInt8)) = false := bne_eq_false_iff_eq.mpr c12; clear c12; have H' := Aside0.mk H; clear H
          go_wp2
          go_meet
          case rel => exact ⟨_, ((t102.toList == ([99, 112, 49, 50, 53, 50] : List UInt8))), (by first | rfl | (simp; done) | (simp [*]; done)), H', ⟨by have := HJ3.out; first | omega | exact Nat.le_refl _⟩, ⟨by repeat (first | (with_reducible first | exact HB.out | apply below_alloc | apply pw_below_drewN | apply below_drew1) | exact HB.out)⟩⟩
        rw [if_neg c12] at H; have c12b0 : (t102.toList == ([99, 112, 49, 50, 53, 50] : List UInt8)) = false := beq_eq_false_iff_ne.mpr c12; have c12b1 : (t102.toList != ([99, 112, 49, 50, 53, 50] : List UInt8)) = true := bne_iff_ne.mpr c12
        by_cases c13 : t102.toList = ([117, 115, 45, 97, 115, 99, 105, 105] : List UInt8)
        case pos =>
          rw [if_pos c13] at H; have c13b0 : (t102.toList == ([117, 115, 45, 97, 115, 99, 105, 105] : List UInt8)) = true := beq_iff_eq.mpr c13; have c13b1 : (t102.toList != ([117, 115, 45, 97, 115, 99, 105, 105] : List UInt8)) = false := bne_eq_false_iff_eq.mpr c13; clear c13; have H' := Aside0.mk H; clear H
          go_wp2
          go_meet
          case rel => exact ⟨_, ((t102.toList == ([117, 115, 45, 97, 115, 99, 105, 105] : List UInt8))), (by first | rfl | (simp; done) | (simp [*]; done)), H', ⟨by have := HJ3.out; first | omega | exact Nat.le_refl _⟩, ⟨by repeat (first | (with_reducible first | exact HB.out | apply below_alloc | apply pw_below_drewN | apply below_drew1) | exact HB.out)⟩⟩
        rw [if_neg c13] at H; have c13b0 : (t102.toList == ([117, 115, 45, 97, 115, 99, 105, 105] : List UInt8)) = false := beq_eq_false_iff_ne.mpr c13; have c13b1 : (t102.toList != ([117, 115, 45, 97, 115, 99, 105, 105] : List UInt8)) = true := bne_iff_ne.mpr c13
        by_cases c14 : t102.toList = ([97, 115, 99, 105, 105] : List UInt8)
        case pos =>
          rw [if_pos c14] at H; have c14b0 : (t102.toList == ([97, 115, 99, 105, 105] : List UInt8)) = true := beq_iff_eq.mpr c14; have c14b1 : (t102.toList != ([97, 115, 99, 105, 105] : List UInt8)) = false := bne_eq_false_iff_eq.mpr c14; clear c14; have H' := Aside0.mk H; clear H
          go_wp2
          go_meet
          case rel => exact ⟨_, ((t102.toList == ([97, 115, 99, 105, 105] : List UInt8))), (by first | rfl | (simp; done) | (simp [*]; done)), H', ⟨by have := HJ3.out; first | omega | exact Nat.le_refl _⟩, ⟨by repeat (first | (with_reducible first | exact HB.out | apply below_alloc | apply pw_below_drewN | apply below_drew1) | exact HB.out)⟩⟩
        rw [if_neg c14] at H; have c14b0 : (t102.toList == ([97, 115, 99, 105, 105] : List UInt8)) = false := beq_eq_false_iff_ne.mpr c14; have c14b1 : (t102.toList != ([97, 115, 99, 105, 105] : List UInt8)) = true := bne_iff_ne.mpr c14
        by_cases c15 : t102.toList = ([105, 115, 111, 45, 56, 56, 53, 57, 45, 49] : List UInt8)
        case pos =>
          rw [if_pos c15] at H; have c15b0 : (t102.toList == ([105, 115, 111, 45, 56, 56, 53, 57, 45, 49] : List UInt8)) = true := beq_iff_eq.mpr c15; have c15b1 : (t102.toList != ([105, 115, 111, 45, 56, 56, 53, 57, 45, 49] : List UInt8)) = false := bne_eq_false_iff_eq.mpr c15; clear c15; have H' := Aside0.mk H; clear H
          go_wp2
          go_meet
          case rel => exact ⟨_, ((t102.toList == ([105, 115, 111, 45, 56, 56, 53, 57, 45, 49] : List UInt8))), (by first | rfl | (simp; done) | (simp [*]; done)), H', ⟨by have := HJ3.out; first | omega | exact Nat.le_refl _⟩, ⟨by repeat (first | (with_reducible first | exact HB.out | apply below_alloc | apply pw_below_drewN | apply below_drew1) | exact HB.out)⟩⟩
        rw [if_neg c15] at H; have c15b0 : (t102.toList == ([105, 115, 111, 45, 56, 56, 53, 57, 45, 49] : List UInt8)) = false := beq_eq_false_iff_ne.mpr c15; have c15b1 : (t102.toList != ([105, 115, 111, 45, 56, 56, 53, 57, 45, 49] : List UInt8)) = true := bne_iff_ne.mpr c15
        by_cases c16 : t102.toList = ([105, 115, 111, 56, 56, 53, 57, 45, 49] : List UInt8)
        case pos =>
          rw [if_pos c16] at H; have c16b0 : (t102.toList == ([105, 115, 111, 56, 56, 53, 57, 45, 49] : List UInt8)) = true := beq_iff_eq.mpr c16; have c16b1 : (t102.toList != ([105, 115, 111, 56, 56, 53, 57, 45, 49] : List UInt8)) = false := bne_eq_false_iff_eq.mpr c16; clear c16; have H' := Aside0.mk H; clear H
          go_wp2
          go_meet
          case rel => exact ⟨_, ((t102.toList == ([105, 115, 111, 56, 56, 53, 57, 45, 49] : List UInt8))), (by first | rfl | (simp; done) | (simp [*]; done)), H', ⟨by have := HJ3.out; first | omega | exact Nat.le_refl _⟩, ⟨by repeat (first | (with_reducible first | exact HB.out | apply below_alloc | apply pw_below_drewN | apply below_drew1) | exact HB.out)⟩⟩
        rw [if_neg c16] at H; have c16b0 : (t102.toList == ([105, 115, 111, 56, 56, 53, 57, 45, 49] : List UInt8)) = false := beq_eq_false_iff_ne.mpr c16; have c16b1 : (t102.toList != ([105, 115, 111, 56, 56, 53, 57, 45, 49] : List UInt8)) = true := bne_iff_ne.mpr c16
        by_cases c17 : t102.toList = ([108, 97, 116, 105, 110, 49] : List UInt8)
        case neg =>
          rw [if_neg c17] at H; have c17b0 : (t102.toList == ([108, 97, 116, 105, 110, 49] : List UInt8)) = false := beq_eq_false_iff_ne.mpr c17; have c17b1 : (t102.toList != ([108, 97, 116, 105, 110, 49] : List UInt8)) = true := bne_iff_ne.mpr c17; have H' := Aside0.mk H; clear H
          go_wp2
          go_meet
          case rel => exact ⟨_, ((t102.toList == ([108, 49] : List UInt8))), (by first | rfl | (simp; done) | (simp [*]; done)), H', ⟨by have := HJ3.out; first | omega | exact Nat.le_refl _⟩, ⟨by repeat (first | (with_reducible first | exact HB.out | apply below_alloc | apply pw_below_drewN | apply below_drew1) | exact HB.out)⟩⟩
        rw [if_pos c17] at H; have c17b0 : (t102.toList == ([108, 97, 116, 105, 110, 49] : List UInt8)) = true := beq_iff_eq.mpr c17; have c17b1 : (t102.toList != ([108, 97, 116, 105, 110, 49] : List UInt8)) = false := bne_eq_false_iff_eq.mpr c17; clear c17; have H' := Aside0.mk H; clear H
        go_wp2
        go_meet
        case rel => exact ⟨_, ((t102.toList == ([108, 97, 116, 105, 110, 49] : List UInt8))), (by first | rfl | (simp; done) | (simp [*]; done)), H', ⟨by have := HJ3.out; first | omega | exact Nat.le_refl _⟩, ⟨by repeat (first | (with_reducible first | exact HB.out | apply below_alloc | apply pw_below_drewN | apply below_drew1) | exact HB.out)⟩⟩
      case rest =>
        clear HC10; (try clear c1); (try clear p2); (try clear c4); (try clear c7); (try clear c7b0); (try clear c7b1); (try clear c8); (try clear c8b0); (try clear c8b1); (try clear c9); (try clear c11); (try clear c11b0); (try clear c11b1); (try clear c12); (try clear c12b0); (try clear c12b1); (try clear c13); (try clear c13b0); (try clear c13b1); (try clear c14); (try clear c14b0); (try clear c14b1); (try clear c15); (try clear c15b0); (try clear c15b1); (try clear c16); (try clear c16b0); (try clear c16b1); (try clear c17); (try clear c17b0); (try clear c17b1); (try clear p2); obtain ⟨kq, x11_9, rfl, HA, HJ9, HB⟩ := hcut
        cases kq with
        | zero => exact absurd HA.out (by simp [chars_Known.j1])
        | succ kj9 =>
          have H := HA.out; clear HA; simp only [chars_Known.j1] at H
          by_cases c18 : x11_9 = true
          case pos =>
            subst c18
            have H1 : (some ((⟨#[119, 105, 110, 100, 111, 119, 115, 45, 49, 50, 53, 50]⟩ : ByteArray), true)) = some (r1, r2) := by rw [if_pos rfl] at H; exact H
            clear H; have H := H1; clear H1; simp only [Option.some.injEq, Prod.mk.injEq] at H; obtain ⟨rfl, rfl⟩ := H
            go_wp2
            go_ret2
            exact ⟨by first | rfl | (simp [errW_none, errW_some] <;> rfl) | (simp [*, errW_none, errW_some] <;> rfl), by repeat (first | (with_reducible first | exact HB.out | apply below_alloc | apply pw_below_drewN | apply below_drew1) | exact HB.out)⟩
          replace c18 := Bool.eq_false_iff.mpr c18; subst c18
          have H1 : (if t102.toList = ([117, 116, 102, 45, 49, 54, 108, 101] : List UInt8) then (chars_Known.j2 kj9 t102 (t102.toList == ([117, 116, 102, 45, 49, 54, 108, 101] : List UInt8))) else (if t102.toList = ([117, 116, 102, 45, 49, 54] : List UInt8) then (chars_Known.j2 kj9 t102 (t102.toList == ([117, 116, 102, 45, 49, 54] : List UInt8))) else (if t102.toList = ([117, 110, 105, 99, 111, 100, 101] : List UInt8) then (chars_Known.j2 kj9 t102 (t102.toList == ([117, 110, 105, 99, 111, 100, 101] : List UInt8))) else (chars_Known.j2 kj9 t102 (t102.toList == ([117, 99, 115, 45, 50] : List UInt8)))))) = some (r1, r2) := by rw [if_neg (show ¬ (false = true) by decide)] at H; exact H
          clear H; have H := H1; clear H1; have HC19 := Aside0.mk H; clear H
          go_upto_if 20 with (fail)
          go_cut [20] (fun v20 wc => ∃ (kq : Nat) (x20_18 : Bool), v20 = .bool x20_18 ∧ Aside0 (chars_Known.j2 kq t102 x20_18 = some (r1, r2)) ∧ Aside0 (kq ≤ kj9) ∧ Aside0 (Below w.heap.size w wc))
          case first =>
            have H := HC19.out; clear HC19
            by_cases c20 : t102.toList = ([117, 116, 102, 45, 49, 54, 108, 101] : List UInt8)
            case pos =>
              rw [if_pos c20] at H; have c20b0 : (t102.toList == ([117, 116, 102, 45, 49, 54, 108, 101] : List UInt8)) = true := beq_iff_eq.mpr c20; have c20b1 : (t102.toList != ([117, 116, 102, 45, 49, 54, 108, 101] : List UInt8)) = false := bne_eq_false_iff_eq.mpr c20; clear c20
              (first | rw [c20b0] | (simp only [i64_w, i32_w]; rw [c20b0]) | skip)
              have H' := Aside0.mk H; clear H
              go_wp2
              go_meet
              case rel => exact ⟨_, ((t102.toList == ([117, 116, 102, 45, 49, 54, 108, 101] : List UInt8))), (by first | rfl | (simp; done) | (simp [*]; done)), H', ⟨by have := HJ3.out; have := HJ9.out; first | omega | exact Nat.le_refl _⟩, ⟨by repeat (first | (with_reducible first | exact HB.out | apply below_alloc | apply pw_below_drewN | apply below_drew1) | exact HB.out)⟩⟩
            rw [if_neg c20] at H; have c20b0 : (t102.toList == ([117, 116, 102, 45, 49, 54, 108, 101] : List UInt8)) = false := beq_eq_false_iff_ne.mpr c20; have c20b1 : (t102.toList != ([117, 116, 102, 45, 49, 54, 108, 101] : List UInt8)) = true := bne_iff_ne.mpr c20
            (first | rw [c20b0] | (simp only [i64_w, i32_w]; rw [c20b0]) | skip)
            by_cases c21 : t102.toList = ([117, 116, 102, 45, 49, 54] : List UInt8)
            case pos =>
              rw [if_pos c21] at H; have c21b0 : (t102.toList == ([117, 116, 102, 45, 49, 54] : List UInt8)) = true := beq_iff_eq.mpr c21; have c21b1 : (t102.toList != ([117, 116, 102, 45, 49, 54] : List UInt8)) = false := bne_eq_false_iff_eq.mpr c21; clear c21; have H' := Aside0.mk H; clear H
              go_wp2
              go_meet
              case rel => exact ⟨_, ((t102.toList == ([117, 116, 102, 45, 49, 54] : List UInt8))), (by first | rfl | (simp; done) | (simp [*]; done)), H', ⟨by have := HJ3.out; have := HJ9.out; first | omega | exact Nat.le_refl _⟩, ⟨by repeat (first | (with_reducible first | exact HB.out | apply below_alloc | apply pw_below_drewN | apply below_drew1) | exact HB.out)⟩⟩
            rw [if_neg c21] at H; have c21b0 : (t102.toList == ([117, 116, 102, 45, 49, 54] : List UInt8)) = false := beq_eq_false_iff_ne.mpr c21; have c21b1 : (t102.toList != ([117, 116, 102, 45, 49, 54] : List UInt8)) = true := bne_iff_ne.mpr c21
            by_cases c22 : t102.toList = ([117, 110, 105, 99, 111, 100, 101] : List UInt8)
            case neg =>
              rw [if_neg c22] at H; have c22b0 : (t102.toList == ([117, 110, 105, 99, 111, 100, 101] : List UInt8)) = false := beq_eq_false_iff_ne.mpr c22; have c22b1 : (t102.toList != ([117, 110, 105, 99, 111, 100, 101] : List UInt8)) = true := bne_iff_ne.mpr c22; have H' := Aside0.mk H; clear H
              go_wp2
              go_meet
              case rel => exact ⟨_, ((t102.toList == ([117, 99, 115, 45, 50] : List UInt8))), (by first | rfl | (simp; done) | (simp [*]; done)), H', ⟨by have := HJ3.out; have := HJ9.out; first | omega | exact Nat.le_refl _⟩, ⟨by repeat (first | (with_reducible first | exact HB.out | apply below_alloc | apply pw_below_drewN | apply below_drew1) | exact HB.out)⟩⟩
            rw [if_pos c22] at H; have c22b0 : (t102.toList == ([117, 110, 105, 99, 111, 100, 101] : List UInt8)) = true := beq_iff_eq.mpr c22; have c22b1 : (t102.toList != ([117, 110, 105, 99, 111, 100, 101] : List UInt8)) = false := bne_eq_false_iff_eq.mpr c22; clear c22; have H' := Aside0.mk H; clear H
            go_wp2
            go_meet
            case rel => exact ⟨_, ((t102.toList == ([117, 110, 105, 99, 111, 100, 101] : List UInt8))), (by first | rfl | (simp; done) | (simp [*]; done)), H', ⟨by have := HJ3.out; have := HJ9.out; first | omega | exact Nat.le_refl _⟩, ⟨by repeat (first | (with_reducible first | exact HB.out | apply below_alloc | apply pw_below_drewN | apply below_drew1) | exact HB.out)⟩⟩
          case rest =>
            clear HC19; (try clear c1); (try clear c2); (try clear p2); (try clear c4); (try clear c7); (try clear c7b0); (try clear c7b1); (try clear c8); (try clear c8b0); (try clear c8b1); (try clear c9); (try clear c11); (try clear c11b0); (try clear c11b1); (try clear c12); (try clear c12b0); (try clear c12b1); (try clear c13); (try clear c13b0); (try clear c13b1); (try clear c14); (try clear c14b0); (try clear c14b1); (try clear c15); (try clear c15b0); (try clear c15b1); (try clear c16); (try clear c16b0); (try clear c16b1); (try clear c17); (try clear c17b0); (try clear c17b1); (try clear c18); (try clear c20); (try clear c20b0); (try clear c20b1); (try clear c21); (try clear c21b0); (try clear c21b1); (try clear c22); (try clear c22b0); (try clear c22b1); (try clear p2); obtain ⟨kq, x20_18, rfl, HA, HJ18, HB⟩ := hcut
            cases kq with
            | zero => exact absurd HA.out (by simp [chars_Known.j2])
            | succ kj18 =>
              have H := HA.out; clear HA; simp only [chars_Known.j2] at H
              by_cases c23 : x20_18 = true
              case pos =>
                subst c23
                have H1 : (some ((⟨#[117, 116, 102, 45, 49, 54, 108, 101]⟩ : ByteArray), true)) = some (r1, r2) := by rw [if_pos rfl] at H; exact H
                clear H; have H := H1; clear H1; simp only [Option.some.injEq, Prod.mk.injEq] at H; obtain ⟨rfl, rfl⟩ := H
                go_wp2
                go_ret2
                exact ⟨by first | rfl | (simp [errW_none, errW_some] <;> rfl) | (simp [*, errW_none, errW_some] <;> rfl), by repeat (first | (with_reducible first | exact HB.out | apply below_alloc | apply pw_below_drewN | apply below_drew1) | exact HB.out)⟩
              replace c23 := Bool.eq_false_iff.mpr c23; subst c23
              have H1 : (if t102.toList = ([117, 116, 102, 45, 49, 54, 98, 101] : List UInt8) then (some ((⟨#[117, 116, 102, 45, 49, 54, 98, 101]⟩ : ByteArray), true)) else (if t102.toList = ([117, 110, 105, 99, 111, 100, 101, 102, 102, 102, 101] : List UInt8) then (some ((⟨#[117, 116, 102, 45, 49, 54, 98, 101]⟩ : ByteArray), true)) else (some ((⟨#[]⟩ : ByteArray), false)))) = some (r1, r2) := by rw [if_neg (show ¬ (false = true) by decide)] at H; exact H
              clear H; have H := H1; clear H1
              by_cases c24 : t102.toList = ([117, 116, 102, 45, 49, 54, 98, 101] : List UInt8)
              case pos =>
                rw [if_pos c24] at H; have c24b0 : (t102.toList == ([117, 116, 102, 45, 49, 54, 98, 101] : List UInt8)) = true := beq_iff_eq.mpr c24; have c24b1 : (t102.toList != ([117, 116, 102, 45, 49, 54, 98, 101] : List UInt8)) = false := bne_eq_false_iff_eq.mpr c24; clear c24; simp only [Option.some.injEq, Prod.mk.injEq] at H; obtain ⟨rfl, rfl⟩ := H
                go_wp2
                go_ret2
                exact ⟨by first | rfl | (simp [errW_none, errW_some] <;> rfl) | (simp [*, errW_none, errW_some] <;> rfl), by repeat (first | (with_reducible first | exact HB.out | apply below_alloc | apply pw_below_drewN | apply below_drew1) | exact HB.out)⟩
              rw [if_neg c24] at H; have c24b0 : (t102.toList == ([117, 116, 102, 45, 49, 54, 98, 101] : List UInt8)) = false := beq_eq_false_iff_ne.mpr c24; have c24b1 : (t102.toList != ([117, 116, 102, 45, 49, 54, 98, 101] : List UInt8)) = true := bne_iff_ne.mpr c24
              by_cases c25 : t102.toList = ([117, 110, 105, 99, 111, 100, 101, 102, 102, 102, 101] : List UInt8)
              case neg =>
                rw [if_neg c25] at H; have c25b0 : (t102.toList == ([117, 110, 105, 99, 111, 100, 101, 102, 102, 102, 101] : List UInt8)) = false := beq_eq_false_iff_ne.mpr c25; have c25b1 : (t102.toList != ([117, 110, 105, 99, 111, 100, 101, 102, 102, 102, 101] : List UInt8)) = true := bne_iff_ne.mpr c25; simp only [Option.some.injEq, Prod.mk.injEq] at H; obtain ⟨rfl, rfl⟩ := H
                go_wp2
                go_ret2
                exact ⟨by first | rfl | (simp [errW_none, errW_some] <;> rfl) | (simp [*, errW_none, errW_some] <;> rfl), by repeat (first | (with_reducible first | exact HB.out | apply below_alloc | apply pw_below_drewN | apply below_drew1) | exact HB.out)⟩
              rw [if_pos c25] at H; have c25b0 : (t102.toList == ([117, 110, 105, 99, 111, 100, 101, 102, 102, 102, 101] : List UInt8)) = true := beq_iff_eq.mpr c25; have c25b1 : (t102.toList != ([117, 110, 105, 99, 111, 100, 101, 102, 102, 102, 101] : List UInt8)) = false := bne_eq_false_iff_eq.mpr c25; clear c25; simp only [Option.some.injEq, Prod.mk.injEq] at H; obtain ⟨rfl, rfl⟩ := H
              go_wp2
              go_ret2
              exact ⟨by first | rfl | (simp [errW_none, errW_some] <;> rfl) | (simp [*, errW_none, errW_some] <;> rfl), by repeat (first | (with_reducible first | exact HB.out | apply below_alloc | apply pw_below_drewN | apply below_drew1) | exact HB.out)⟩
def chars_Decode.f (k : Nat) (a0 : ByteArray) (a1 : ByteArray) : Option (ByteArray × Bool) := (chars_Known.f k a0).bind fun bt103 => (if bt103.1.toList = ([119, 105, 110, 100, 111, 119, 115, 45, 49, 50, 53, 50] : List UInt8) then ((chars_singles.f a1).bind fun t105 => (some (t105, bt103.2))) else (if bt103.1.toList = ([117, 116, 102, 45, 49, 54, 108, 101] : List UInt8) then ((chars_doubles.f a1 0 8).bind fun t106 => (some (t106, bt103.2))) else (if bt103.1.toList = ([117, 116, 102, 45, 49, 54, 98, 101] : List UInt8) then ((chars_doubles.f a1 8 0).bind fun t107 => (some (t107, bt103.2))) else ((chars_Valid.f a1).bind fun t108 => (some (t108, bt103.2))))))
set_option maxHeartbeats 8000000 in
set_option maxRecDepth 100000 in
theorem chars_Decode.calls (k : Nat) (a0 : ByteArray) (a1 : ByteArray) (r1 : ByteArray) (r2 : Bool) (w : World) (hGl : Glob w) (h : chars_Decode.f k a0 a1 = some (r1, r2)) :
    Calls Tryz.prog 100 #[.string a0, .string a1] w fun e w' => e = .returned (.tuple #[.string r1, .bool r2]) ∧ Below w.heap.size w w' := by
  have HGl := Aside0.mk hGl; clear hGl; have HB := Aside0.mk (Below.refl w.heap.size w); have H : ((chars_Known.f k a0).bind fun bt103 => (if bt103.1.toList = ([119, 105, 110, 100, 111, 119, 115, 45, 49, 50, 53, 50] : List UInt8) then ((chars_singles.f a1).bind fun t105 => (some (t105, bt103.2))) else (if bt103.1.toList = ([117, 116, 102, 45, 49, 54, 108, 101] : List UInt8) then ((chars_doubles.f a1 0 8).bind fun t106 => (some (t106, bt103.2))) else (if bt103.1.toList = ([117, 116, 102, 45, 49, 54, 98, 101] : List UInt8) then ((chars_doubles.f a1 8 0).bind fun t107 => (some (t107, bt103.2))) else ((chars_Valid.f a1).bind fun t108 => (some (t108, bt103.2))))))) = some (r1, r2) := h; clear h; replace H := Option.bind_eq_some_iff.mp H; obtain ⟨⟨t103, t104⟩, A30, H⟩ := H; replace H : (if t103.toList = ([119, 105, 110, 100, 111, 119, 115, 45, 49, 50, 53, 50] : List UInt8) then ((chars_singles.f a1).bind fun t105 => (some (t105, t104))) else (if t103.toList = ([117, 116, 102, 45, 49, 54, 108, 101] : List UInt8) then ((chars_doubles.f a1 0 8).bind fun t106 => (some (t106, t104))) else (if t103.toList = ([117, 116, 102, 45, 49, 54, 98, 101] : List UInt8) then ((chars_doubles.f a1 8 0).bind fun t107 => (some (t107, t104))) else ((chars_Valid.f a1).bind fun t108 => (some (t108, t104)))))) = some (r1, r2) := H; have A3 := Aside0.mk A30; clear A30
  by_cases c4 : t103.toList = ([119, 105, 110, 100, 111, 119, 115, 45, 49, 50, 53, 50] : List UInt8)
  case pos =>
    rw [if_pos c4] at H; have c4b0 : (t103.toList == ([119, 105, 110, 100, 111, 119, 115, 45, 49, 50, 53, 50] : List UInt8)) = true := beq_iff_eq.mpr c4; have c4b1 : (t103.toList != ([119, 105, 110, 100, 111, 119, 115, 45, 49, 50, 53, 50] : List UInt8)) = false := bne_eq_false_iff_eq.mpr c4; clear c4; replace H := Option.bind_eq_some_iff.mp H; obtain ⟨t105, A50, H⟩ := H; replace H : (some (t105, t104)) = some (r1, r2) := H; have A5 := Aside0.mk A50; clear A50; simp only [Option.some.injEq, Prod.mk.injEq] at H; obtain ⟨rfl, rfl⟩ := H
    go_enter Tryz.func100, Tryz.ntmps100
    go_wp2_with (first | ((with_reducible refine gate_callee (f := 97) rfl ?_); refine goesL_ (some 10) rfl rfl Tryz.func97 (by kernel_rfl) rfl #[.string a0] rfl (by (try simp only [List.map_toArray, List.map_cons, List.map_nil]); first | done | rfl | (simp only [List.length_drop, List.length_take]; rfl)) ?_; (with_reducible refine (chars_Known.calls k a0 t103 t104 _ A3.out).mono ?_); rintro e w6 ⟨rfl, hb⟩; refine ⟨_, rfl, ?_⟩; have n0_ := Aside0.mk (below_step (by repeat (first | (with_reducible first | exact HB.out | apply below_alloc | apply pw_below_drewN | apply below_drew1) | exact HB.out)) hb); clear HB; have HB := n0_; clear n0_; (try clear hb); (try clear hb2); (try clear hk); (try clear hi)) | ((with_reducible refine gate_callee (f := 125) rfl ?_); refine goesL_ (some 17) rfl rfl Tryz.func125 (by kernel_rfl) rfl #[.string a1] rfl (by (try simp only [List.map_toArray, List.map_cons, List.map_nil]); first | done | rfl | (simp only [List.length_drop, List.length_take]; rfl)) ?_; (with_reducible refine (chars_singles.calls a1 t105 _ ?sideGl A5.out).mono ?_); (case sideGl => exact HGl.out.below (by repeat (first | (with_reducible first | exact HB.out | apply below_alloc | apply pw_below_drewN | apply below_drew1) | exact HB.out))); rintro e w7 ⟨rfl, hb⟩; refine ⟨_, rfl, ?_⟩; have n0_ := Aside0.mk (below_step (by repeat (first | (with_reducible first | exact HB.out | apply below_alloc | apply pw_below_drewN | apply below_drew1) | exact HB.out)) hb); clear HB; have HB := n0_; clear n0_; (try clear hb); (try clear hb2); (try clear hk); (try clear hi)))
    go_ret2
    exact ⟨by first | rfl | (simp [errW_none, errW_some] <;> rfl) | (simp [*, errW_none, errW_some] <;> rfl), by repeat (first | (with_reducible first | exact HB.out | apply below_alloc | apply pw_below_drewN | apply below_drew1) | exact HB.out)⟩
  rw [if_neg c4] at H; have c4b0 : (t103.toList == ([119, 105, 110, 100, 111, 119, 115, 45, 49, 50, 53, 50] : List UInt8)) = false := beq_eq_false_iff_ne.mpr c4; have c4b1 : (t103.toList != ([119, 105, 110, 100, 111, 119, 115, 45, 49, 50, 53, 50] : List UInt8)) = true := bne_iff_ne.mpr c4
  by_cases c8 : t103.toList = ([117, 116, 102, 45, 49, 54, 108, 101] : List UInt8)
  case pos =>
    rw [if_pos c8] at H; have c8b0 : (t103.toList == ([117, 116, 102, 45, 49, 54, 108, 101] : List UInt8)) = true := beq_iff_eq.mpr c8; have c8b1 : (t103.toList != ([117, 116, 102, 45, 49, 54, 108, 101] : List UInt8)) = false := bne_eq_false_iff_eq.mpr c8; clear c8; replace H := Option.bind_eq_some_iff.mp H; obtain ⟨t106, A90, H⟩ := H; replace H : (some (t106, t104)) = some (r1, r2) := H; have A9 := Aside0.mk A90; clear A90; simp only [Option.some.injEq, Prod.mk.injEq] at H; obtain ⟨rfl, rfl⟩ := H
    go_enter Tryz.func100, Tryz.ntmps100
    go_wp2_with (first | ((with_reducible refine gate_callee (f := 97) rfl ?_); refine goesL_ (some 10) rfl rfl Tryz.func97 (by kernel_rfl) rfl #[.string a0] rfl (by (try simp only [List.map_toArray, List.map_cons, List.map_nil]); first | done | rfl | (simp only [List.length_drop, List.length_take]; rfl)) ?_; (with_reducible refine (chars_Known.calls k a0 t103 t104 _ A3.out).mono ?_); rintro e w10 ⟨rfl, hb⟩; refine ⟨_, rfl, ?_⟩; have n0_ := Aside0.mk (below_step (by repeat (first | (with_reducible first | exact HB.out | apply below_alloc | apply pw_below_drewN | apply below_drew1) | exact HB.out)) hb); clear HB; have HB := n0_; clear n0_; (try clear hb); (try clear hb2); (try clear hk); (try clear hi)) | ((with_reducible refine gate_callee (f := 126) rfl ?_); refine goesL_ (some 22) rfl rfl Tryz.func126 (by kernel_rfl) rfl #[.string a1, .int .i64 0, .int .i64 8] rfl (by (try simp only [List.map_toArray, List.map_cons, List.map_nil]); first | done | rfl | (simp only [List.length_drop, List.length_take]; rfl)) ?_; (with_reducible refine (chars_doubles.calls a1 0 8 t106 _ A9.out).mono ?_); rintro e w11 ⟨rfl, hb⟩; refine ⟨_, rfl, ?_⟩; have n0_ := Aside0.mk (below_step (by repeat (first | (with_reducible first | exact HB.out | apply below_alloc | apply pw_below_drewN | apply below_drew1) | exact HB.out)) hb); clear HB; have HB := n0_; clear n0_; (try clear hb); (try clear hb2); (try clear hk); (try clear hi)))
    go_ret2
    exact ⟨by first | rfl | (simp [errW_none, errW_some] <;> rfl) | (simp [*, errW_none, errW_some] <;> rfl), by repeat (first | (with_reducible first | exact HB.out | apply below_alloc | apply pw_below_drewN | apply below_drew1) | exact HB.out)⟩
  rw [if_neg c8] at H; have c8b0 : (t103.toList == ([117, 116, 102, 45, 49, 54, 108, 101] : List UInt8)) = false := beq_eq_false_iff_ne.mpr c8; have c8b1 : (t103.toList != ([117, 116, 102, 45, 49, 54, 108, 101] : List UInt8)) = true := bne_iff_ne.mpr c8
  by_cases c12 : t103.toList = ([117, 116, 102, 45, 49, 54, 98, 101] : List UInt8)
  case neg =>
    rw [if_neg c12] at H; have c12b0 : (t103.toList == ([117, 116, 102, 45, 49, 54, 98, 101] : List UInt8)) = false := beq_eq_false_iff_ne.mpr c12; have c12b1 : (t103.toList != ([117, 116, 102, 45, 49, 54, 98, 101] : List UInt8)) = true := bne_iff_ne.mpr c12; replace H := Option.bind_eq_some_iff.mp H; obtain ⟨t108, A160, H⟩ := H; replace H : (some (t108, t104)) = some (r1, r2) := H; have A16 := Aside0.mk A160; clear A160; simp only [Option.some.injEq, Prod.mk.injEq] at H; obtain ⟨rfl, rfl⟩ := H
    go_enter Tryz.func100, Tryz.ntmps100
    go_wp2_with (first | ((with_reducible refine gate_callee (f := 97) rfl ?_); refine goesL_ (some 10) rfl rfl Tryz.func97 (by kernel_rfl) rfl #[.string a0] rfl (by (try simp only [List.map_toArray, List.map_cons, List.map_nil]); first | done | rfl | (simp only [List.length_drop, List.length_take]; rfl)) ?_; (with_reducible refine (chars_Known.calls k a0 t103 t104 _ A3.out).mono ?_); rintro e w17 ⟨rfl, hb⟩; refine ⟨_, rfl, ?_⟩; have n0_ := Aside0.mk (below_step (by repeat (first | (with_reducible first | exact HB.out | apply below_alloc | apply pw_below_drewN | apply below_drew1) | exact HB.out)) hb); clear HB; have HB := n0_; clear n0_; (try clear hb); (try clear hb2); (try clear hk); (try clear hi)) | ((with_reducible refine gate_callee (f := 18) rfl ?_); refine goesL_ (some 30) rfl rfl Tryz.func18 (by kernel_rfl) rfl #[.string a1] rfl (by (try simp only [List.map_toArray, List.map_cons, List.map_nil]); first | done | rfl | (simp only [List.length_drop, List.length_take]; rfl)) ?_; (with_reducible refine (chars_Valid.calls a1 t108 _ A16.out).mono ?_); rintro e w18 ⟨rfl, hb⟩; refine ⟨_, rfl, ?_⟩; have n0_ := Aside0.mk (below_step (by repeat (first | (with_reducible first | exact HB.out | apply below_alloc | apply pw_below_drewN | apply below_drew1) | exact HB.out)) hb); clear HB; have HB := n0_; clear n0_; (try clear hb); (try clear hb2); (try clear hk); (try clear hi)))
    go_ret2
    exact ⟨by first | rfl | (simp [errW_none, errW_some] <;> rfl) | (simp [*, errW_none, errW_some] <;> rfl), by repeat (first | (with_reducible first | exact HB.out | apply below_alloc | apply pw_below_drewN | apply below_drew1) | exact HB.out)⟩
  rw [if_pos c12] at H; have c12b0 : (t103.toList == ([117, 116, 102, 45, 49, 54, 98, 101] : List UInt8)) = true := beq_iff_eq.mpr c12; have c12b1 : (t103.toList != ([117, 116, 102, 45, 49, 54, 98, 101] : List UInt8)) = false := bne_eq_false_iff_eq.mpr c12; clear c12; replace H := Option.bind_eq_some_iff.mp H; obtain ⟨t107, A130, H⟩ := H; replace H : (some (t107, t104)) = some (r1, r2) := H; have A13 := Aside0.mk A130; clear A130; simp only [Option.some.injEq, Prod.mk.injEq] at H; obtain ⟨rfl, rfl⟩ := H
  go_enter Tryz.func100, Tryz.ntmps100
  go_wp2_with (first | ((with_reducible refine gate_callee (f := 97) rfl ?_); refine goesL_ (some 10) rfl rfl Tryz.func97 (by kernel_rfl) rfl #[.string a0] rfl (by (try simp only [List.map_toArray, List.map_cons, List.map_nil]); first | done | rfl | (simp only [List.length_drop, List.length_take]; rfl)) ?_; (with_reducible refine (chars_Known.calls k a0 t103 t104 _ A3.out).mono ?_); rintro e w14 ⟨rfl, hb⟩; refine ⟨_, rfl, ?_⟩; have n0_ := Aside0.mk (below_step (by repeat (first | (with_reducible first | exact HB.out | apply below_alloc | apply pw_below_drewN | apply below_drew1) | exact HB.out)) hb); clear HB; have HB := n0_; clear n0_; (try clear hb); (try clear hb2); (try clear hk); (try clear hi)) | ((with_reducible refine gate_callee (f := 126) rfl ?_); refine goesL_ (some 27) rfl rfl Tryz.func126 (by kernel_rfl) rfl #[.string a1, .int .i64 8, .int .i64 0] rfl (by (try simp only [List.map_toArray, List.map_cons, List.map_nil]); first | done | rfl | (simp only [List.length_drop, List.length_take]; rfl)) ?_; (with_reducible refine (chars_doubles.calls a1 8 0 t107 _ A13.out).mono ?_); rintro e w15 ⟨rfl, hb⟩; refine ⟨_, rfl, ?_⟩; have n0_ := Aside0.mk (below_step (by repeat (first | (with_reducible first | exact HB.out | apply below_alloc | apply pw_below_drewN | apply below_drew1) | exact HB.out)) hb); clear HB; have HB := n0_; clear n0_; (try clear hb); (try clear hb2); (try clear hk); (try clear hi)))
  go_ret2
  exact ⟨by first | rfl | (simp [errW_none, errW_some] <;> rfl) | (simp [*, errW_none, errW_some] <;> rfl), by repeat (first | (with_reducible first | exact HB.out | apply below_alloc | apply pw_below_drewN | apply below_drew1) | exact HB.out)⟩
end Go.Proofs.YtpcncpegbboljaaGreatDoor.C
namespace Go.Proofs.YtpcncpegbboljaaGreatDoor.C
open Go.RowKit Go.Proofs.YtpcncpegbboljaaGreatDoorW.PrintWords Go.Proofs.YtpcncpegbboljaaGreatDoorW.PrintLast Go.Proofs.YtpcncpegbboljaaGreatDoorW.PrintMore
attribute [local go_sem] max2_int min2_int max_two min_two max_three min_three max_four min_four
set_option linter.unusedVariables false
set_option linter.unusedSimpArgs false
mutual
def muslinref04_Whole.j2 : Nat → ByteArray → Int → Int → Int → Int → Option (Int)
  | 0, _, _, _, _, _ => none
  | k + 1, x0, x1, x6, x7, x8 => if (wrap64 (x1 + x6)) > (x0.size : Int) then (some 0) else (muslinref04_Whole.l0 k x0 x1 x6 x7 x8 1)
def muslinref04_Whole.l0 : Nat → ByteArray → Int → Int → Int → Int → Int → Option (Int)
  | 0, _, _, _, _, _, _ => none
  | k + 1, x0, x1, x6, x7, x8, x9 => if x9 < x6 then (if 0 ≤ (wrap64 (x1 + x9)) then (if (wrap64 (x1 + x9)) < (x0.size : Int) then (if (wrap64 (bt x0 (wrap64 (x1 + x9)))) < 128 then (some 0) else (if (wrap64 (bt x0 (wrap64 (x1 + x9)))) > 191 then (some 0) else (muslinref04_Whole.l0 k x0 x1 x6 x7 (wrap64 ((wrap64 ((wrap64 (64 * x8)) + (wrap64 (bt x0 (wrap64 (x1 + x9)))))) - 128)) (wrap64 (x9 + 1))))) else (none)) else (none)) else (if x8 < x7 then (some 0) else (if x8 > 1114111 then (some 0) else (if x8 ≥ 55296 then (if x8 ≤ 57343 then (some 0) else (some x6)) else (some x6))))
def muslinref04_Whole.j0 : Nat → ByteArray → Int → Int → Bool → Option (Int)
  | 0, _, _, _, _ => none
  | k + 1, x0, x1, x5, x19 => if x19 = true then (muslinref04_Whole.j2 k x0 x1 2 128 (wrap64 (x5 - 192))) else (if x5 ≥ 224 then (muslinref04_Whole.j1 k x0 x1 x5 (decide (x5 < 240))) else (muslinref04_Whole.j1 k x0 x1 x5 false))
def muslinref04_Whole.j1 : Nat → ByteArray → Int → Int → Bool → Option (Int)
  | 0, _, _, _, _ => none
  | k + 1, x0, x1, x5, x28 => if x28 = true then (muslinref04_Whole.j2 k x0 x1 3 2048 (wrap64 (x5 - 224))) else (if x5 ≥ 240 then (if x5 < 248 then (muslinref04_Whole.j2 k x0 x1 4 65536 (wrap64 (x5 - 240))) else (some 0)) else (some 0))
end
def muslinref04_Whole.f (k : Nat) (a0 : ByteArray) (a1 : Int) : Option (Int) := if 0 ≤ a1 then (if a1 < (a0.size : Int) then (if (wrap64 (bt a0 a1)) < 128 then (some 1) else (if (wrap64 (bt a0 a1)) ≥ 192 then (muslinref04_Whole.j0 k a0 a1 (wrap64 (bt a0 a1)) (decide ((wrap64 (bt a0 a1)) < 224))) else (muslinref04_Whole.j0 k a0 a1 (wrap64 (bt a0 a1)) false))) else (none)) else (none)
set_option maxHeartbeats 8000000 in
set_option maxRecDepth 100000 in
theorem muslinref04_Whole.calls (k : Nat) (a0 : ByteArray) (a1 : Int) (r : Int) (w : World) (h : muslinref04_Whole.f k a0 a1 = some r) :
    Calls Tryz.prog 62 #[.string a0, .int .i64 a1] w fun e w' => e = .returned (.int .i64 r) ∧ Drawn0 w w' := by
  have H : (if 0 ≤ a1 then (if a1 < (a0.size : Int) then (if (wrap64 (bt a0 a1)) < 128 then (some 1) else (if (wrap64 (bt a0 a1)) ≥ 192 then (muslinref04_Whole.j0 k a0 a1 (wrap64 (bt a0 a1)) (decide ((wrap64 (bt a0 a1)) < 224))) else (muslinref04_Whole.j0 k a0 a1 (wrap64 (bt a0 a1)) false))) else (none)) else (none)) = some r := h; clear h
  by_cases c3 : 0 ≤ a1
  case neg =>
    rw [if_neg c3] at H
    exact absurd H (by simp)
  rw [if_pos c3] at H; have c3b0 : decide (0 ≤ a1) = true := decide_eq_true c3; clear c3
  by_cases c4 : a1 < (a0.size : Int)
  case neg =>
    rw [if_neg c4] at H
    exact absurd H (by simp)
  rw [if_pos c4] at H; have c4b0 : decide (a1 < (a0.size : Int)) = true := decide_eq_true c4; clear c4; have HC6 := Aside0.mk H; clear H; have p5 : 0 ≤ (a1 : Int) := of_decide_eq_true (by first | (with_reducible assumption) | assumption); have q5 : a1 < (a0.size : Int) := of_decide_eq_true (by first | (with_reducible assumption) | assumption); have hx5 := bt_at a0 a1; replace p5 := eq_true p5; replace q5 := eq_true q5
  go_enter Tryz.func62, Tryz.ntmps62
  go_upto_block 0 with (fail)
  go_cut [6, 7, 8] (fun v6 v7 v8 wc => ∃ (kq : Nat) (x6_5 : Int) (x7_5 : Int) (x8_5 : Int), v6 = .int .i64 x6_5 ∧ v7 = .int .i64 x7_5 ∧ v8 = .int .i64 x8_5 ∧ Aside0 (muslinref04_Whole.j2 kq a0 a1 x6_5 x7_5 x8_5 = some r) ∧ Aside0 (kq ≤ k) ∧ Drawn0 w wc)
  case first =>
    have H := HC6.out; clear HC6
    by_cases c7 : (wrap64 (bt a0 a1)) < 128
    case pos =>
      rw [if_pos c7] at H; have c7b0 : decide ((wrap64 (bt a0 a1)) < 128) = true := decide_eq_true c7; clear c7
      (first | rw [c7b0] | (simp only [i64_w, i32_w]; rw [c7b0]) | skip)
      obtain rfl := Option.some.inj H
      go_wp2
      go_ret
      exact ⟨by first | rfl | (simp; done) | (simp [*]; done), by repeat (first | exact Drawn0.refl _ | apply Drawn0.step)⟩
    rw [if_neg c7] at H; have c7b0 : decide ((wrap64 (bt a0 a1)) < 128) = false := decide_eq_false c7; clear c7
    (first | rw [c7b0] | (simp only [i64_w, i32_w]; rw [c7b0]) | skip)
    have HC8 := Aside0.mk H; clear H
    go_upto_region 8 with (fail)
    go_cut [19] (fun v19 wc => ∃ (kq : Nat) (x19_7 : Bool), v19 = .bool x19_7 ∧ Aside0 (muslinref04_Whole.j0 kq a0 a1 (wrap64 (bt a0 a1)) x19_7 = some r) ∧ Aside0 (kq ≤ k) ∧ Drawn0 w wc)
    case first =>
      have H := HC8.out; clear HC8
      by_cases c9 : (wrap64 (bt a0 a1)) ≥ 192
      case neg =>
        rw [if_neg c9] at H; have c9b0 : decide (192 ≤ (wrap64 (bt a0 a1))) = false := decide_eq_false c9; clear c9
        (first | rw [c9b0] | (simp only [i64_w, i32_w]; rw [c9b0]) | skip)
        have H' := Aside0.mk H; clear H
        go_wp2
        go_meet
        case rel => exact ⟨_, (false), (by first | rfl | (simp; done) | (simp [*]; done)), H', ⟨by first | omega | exact Nat.le_refl _⟩, by repeat (first | exact Drawn0.refl _ | apply Drawn0.step)⟩
      rw [if_pos c9] at H; have c9b0 : decide (192 ≤ (wrap64 (bt a0 a1))) = true := decide_eq_true c9; clear c9
      (first | rw [c9b0] | (simp only [i64_w, i32_w]; rw [c9b0]) | skip)
      have H' := Aside0.mk H; clear H
      go_wp2
      go_meet
      case rel => exact ⟨_, (decide ((wrap64 (bt a0 a1)) < 224)), (by first | rfl | (simp; done) | (simp [*]; done)), H', ⟨by first | omega | exact Nat.le_refl _⟩, by repeat (first | exact Drawn0.refl _ | apply Drawn0.step)⟩
    case rest =>
      clear HC8; (try clear p2); (try clear c3); (try clear c3b0); (try clear c4); (try clear c4b0); (try clear p5); (try clear q5); (try clear hx5); (try clear c6); (try clear p6); (try clear c7); (try clear c7b0); (try clear c9); (try clear c9b0); (try clear p5); (try clear q5); obtain ⟨kq, x19_7, rfl, HA, HJ7, ⟨mc7, rfl⟩⟩ := hcut
      cases kq with
      | zero => exact absurd HA.out (by simp [muslinref04_Whole.j0])
      | succ kj7 =>
        have H := HA.out; clear HA; simp only [muslinref04_Whole.j0] at H
        by_cases c10 : x19_7 = true
        case pos =>
          subst c10
          have H1 : (muslinref04_Whole.j2 kj7 a0 a1 2 128 (wrap64 ((wrap64 (bt a0 a1)) - 192))) = some r := by rw [if_pos rfl] at H; exact H
          clear H; have H := H1; clear H1; have H' := Aside0.mk H; clear H
          go_wp2
          go_meet
          case rel => exact ⟨_, (2), (128), (wrap64 ((wrap64 (bt a0 a1)) - 192)), (by first | rfl | (simp; done) | (simp [*]; done)), (by first | rfl | (simp; done) | (simp [*]; done)), (by first | rfl | (simp; done) | (simp [*]; done)), H', ⟨by have := HJ7.out; first | omega | exact Nat.le_refl _⟩, by repeat (first | exact Drawn0.refl _ | apply Drawn0.step)⟩
        replace c10 := Bool.eq_false_iff.mpr c10; subst c10
        have H1 : (if (wrap64 (bt a0 a1)) ≥ 224 then (muslinref04_Whole.j1 kj7 a0 a1 (wrap64 (bt a0 a1)) (decide ((wrap64 (bt a0 a1)) < 240))) else (muslinref04_Whole.j1 kj7 a0 a1 (wrap64 (bt a0 a1)) false)) = some r := by rw [if_neg (show ¬ (false = true) by decide)] at H; exact H
        clear H; have H := H1; clear H1; have HC11 := Aside0.mk H; clear H
        go_upto_region 12 with (fail)
        go_cut [28] (fun v28 wc => ∃ (kq : Nat) (x28_10 : Bool), v28 = .bool x28_10 ∧ Aside0 (muslinref04_Whole.j1 kq a0 a1 (wrap64 (bt a0 a1)) x28_10 = some r) ∧ Aside0 (kq ≤ kj7) ∧ Drawn0 w wc)
        case first =>
          have H := HC11.out; clear HC11
          by_cases c12 : (wrap64 (bt a0 a1)) ≥ 224
          case neg =>
            rw [if_neg c12] at H; have c12b0 : decide (224 ≤ (wrap64 (bt a0 a1))) = false := decide_eq_false c12; clear c12
            (first | rw [c12b0] | (simp only [i64_w, i32_w]; rw [c12b0]) | skip)
            have H' := Aside0.mk H; clear H
            go_wp2
            go_meet
            case rel => exact ⟨_, (false), (by first | rfl | (simp; done) | (simp [*]; done)), H', ⟨by have := HJ7.out; first | omega | exact Nat.le_refl _⟩, by repeat (first | exact Drawn0.refl _ | apply Drawn0.step)⟩
          rw [if_pos c12] at H; have c12b0 : decide (224 ≤ (wrap64 (bt a0 a1))) = true := decide_eq_true c12; clear c12
          (first | rw [c12b0] | (simp only [i64_w, i32_w]; rw [c12b0]) | skip)
          have H' := Aside0.mk H; clear H
          go_wp2
          go_meet
          case rel => exact ⟨_, (decide ((wrap64 (bt a0 a1)) < 240)), (by first | rfl | (simp; done) | (simp [*]; done)), H', ⟨by have := HJ7.out; first | omega | exact Nat.le_refl _⟩, by repeat (first | exact Drawn0.refl _ | apply Drawn0.step)⟩
        case rest =>
          clear HC11; (try clear c1); (try clear p2); (try clear c3); (try clear c3b0); (try clear c4); (try clear c4b0); (try clear p5); (try clear q5); (try clear hx5); (try clear c6); (try clear p6); (try clear c7); (try clear c7b0); (try clear c9); (try clear c9b0); (try clear c10); (try clear c12); (try clear c12b0); (try clear p2); (try clear p5); (try clear p6); (try clear q5); obtain ⟨kq, x28_10, rfl, HA, HJ10, ⟨mc10, rfl⟩⟩ := hcut
          cases kq with
          | zero => exact absurd HA.out (by simp [muslinref04_Whole.j1])
          | succ kj10 =>
            have H := HA.out; clear HA; simp only [muslinref04_Whole.j1] at H
            by_cases c13 : x28_10 = true
            case pos =>
              subst c13
              have H1 : (muslinref04_Whole.j2 kj10 a0 a1 3 2048 (wrap64 ((wrap64 (bt a0 a1)) - 224))) = some r := by rw [if_pos rfl] at H; exact H
              clear H; have H := H1; clear H1; have H' := Aside0.mk H; clear H
              go_wp2
              go_meet
              case rel => exact ⟨_, (3), (2048), (wrap64 ((wrap64 (bt a0 a1)) - 224)), (by first | rfl | (simp; done) | (simp [*]; done)), (by first | rfl | (simp; done) | (simp [*]; done)), (by first | rfl | (simp; done) | (simp [*]; done)), H', ⟨by have := HJ7.out; have := HJ10.out; first | omega | exact Nat.le_refl _⟩, by repeat (first | exact Drawn0.refl _ | apply Drawn0.step)⟩
            replace c13 := Bool.eq_false_iff.mpr c13; subst c13
            have H1 : (if (wrap64 (bt a0 a1)) ≥ 240 then (if (wrap64 (bt a0 a1)) < 248 then (muslinref04_Whole.j2 kj10 a0 a1 4 65536 (wrap64 ((wrap64 (bt a0 a1)) - 240))) else (some 0)) else (some 0)) = some r := by rw [if_neg (show ¬ (false = true) by decide)] at H; exact H
            clear H; have H := H1; clear H1
            by_cases c14 : (wrap64 (bt a0 a1)) ≥ 240
            case neg =>
              rw [if_neg c14] at H; have c14b0 : decide (240 ≤ (wrap64 (bt a0 a1))) = false := decide_eq_false c14; clear c14; obtain rfl := Option.some.inj H
              go_wp2
              go_ret
              exact ⟨by first | rfl | (simp; done) | (simp [*]; done), by repeat (first | exact Drawn0.refl _ | apply Drawn0.step)⟩
            rw [if_pos c14] at H; have c14b0 : decide (240 ≤ (wrap64 (bt a0 a1))) = true := decide_eq_true c14; clear c14
            by_cases c15 : (wrap64 (bt a0 a1)) < 248
            case neg =>
              rw [if_neg c15] at H; have c15b0 : decide ((wrap64 (bt a0 a1)) < 248) = false := decide_eq_false c15; clear c15; obtain rfl := Option.some.inj H
              go_wp2
              go_ret
              exact ⟨by first | rfl | (simp; done) | (simp [*]; done), by repeat (first | exact Drawn0.refl _ | apply Drawn0.step)⟩
            rw [if_pos c15] at H; have c15b0 : decide ((wrap64 (bt a0 a1)) < 248) = true := decide_eq_true c15; clear c15; have H' := Aside0.mk H; clear H
            go_wp2
            go_meet
            case rel => exact ⟨_, (4), (65536), (wrap64 ((wrap64 (bt a0 a1)) - 240)), (by first | rfl | (simp; done) | (simp [*]; done)), (by first | rfl | (simp; done) | (simp [*]; done)), (by first | rfl | (simp; done) | (simp [*]; done)), H', ⟨by have := HJ7.out; have := HJ10.out; first | omega | exact Nat.le_refl _⟩, by repeat (first | exact Drawn0.refl _ | apply Drawn0.step)⟩
  case rest =>
    clear HC6; (try clear c1); (try clear p2); (try clear c3); (try clear c3b0); (try clear c4); (try clear c4b0); (try clear p5); (try clear q5); (try clear hx5); (try clear c6); (try clear p6); (try clear c7); (try clear c7b0); (try clear c9); (try clear c9b0); (try clear c10); (try clear c12); (try clear c12b0); (try clear c13); (try clear c14); (try clear c14b0); (try clear c15); (try clear c15b0); (try clear p2); (try clear p5); (try clear p6); (try clear q5); obtain ⟨kq, x6_5, x7_5, x8_5, rfl, rfl, rfl, HA, HJ5, ⟨mc5, rfl⟩⟩ := hcut
    cases kq with
    | zero => exact absurd HA.out (by simp [muslinref04_Whole.j2])
    | succ kj5 =>
      have H := HA.out; clear HA; simp only [muslinref04_Whole.j2] at H
      by_cases c16 : (wrap64 (a1 + x6_5)) > (a0.size : Int)
      case pos =>
        rw [if_pos c16] at H; have c16b0 : decide ((a0.size : Int) < (wrap64 (a1 + x6_5))) = true := decide_eq_true c16; clear c16; obtain rfl := Option.some.inj H
        go_wp2
        go_ret
        exact ⟨by first | rfl | (simp; done) | (simp [*]; done), by repeat (first | exact Drawn0.refl _ | apply Drawn0.step)⟩
      rw [if_neg c16] at H; have c16b0 : decide ((a0.size : Int) < (wrap64 (a1 + x6_5))) = false := decide_eq_false c16; clear c16; have H' := Aside0.mk H; clear H
      go_wp2
      go_loopg [8, 9] kj5 (fun kq v8 v9 w' => ∃ (x8_2 : Int) (x9_2 : Int), v8 = .int .i64 x8_2 ∧ v9 = .int .i64 x9_2 ∧ Aside0 (muslinref04_Whole.l0 kq a0 a1 x6_5 x7_5 x8_2 x9_2 = some r) ∧ Aside0 (kq ≤ kj5) ∧ Drawn0 w w')
      case atStart => exact ⟨(x8_5), (1), (by first | rfl | (simp; done) | (simp [*]; done)), (by first | rfl | (simp; done) | (simp [*]; done)), H', ⟨Nat.le_refl _⟩, by repeat (first | exact Drawn0.refl _ | apply Drawn0.step)⟩
      case round =>
        clear H'; (try clear c1); (try clear p2); (try clear c3); (try clear c3b0); (try clear c4); (try clear c4b0); (try clear c5); (try clear p5); (try clear q5); (try clear hx5); (try clear c6); (try clear p6); (try clear c7); (try clear c7b0); (try clear c9); (try clear c9b0); (try clear c10); (try clear c12); (try clear c12b0); (try clear c13); (try clear c14); (try clear c14b0); (try clear c15); (try clear c15b0); (try clear c16); (try clear c16b0); (try clear p2); (try clear p5); (try clear p6); (try clear q5); obtain ⟨x8_2, x9_2, rfl, rfl, HA, HK2, ⟨m2, rfl⟩⟩ := hrel
        cases gk with
        | zero => exact absurd HA.out (by simp [muslinref04_Whole.l0])
        | succ k2 =>
          have H := HA.out; clear HA; simp only [muslinref04_Whole.l0] at H
          by_cases c17 : x9_2 < x6_5
          case neg =>
            rw [if_neg c17] at H; have c17b0 : decide (x9_2 < x6_5) = false := decide_eq_false c17; clear c17
            by_cases c24 : x8_2 < x7_5
            case pos =>
              rw [if_pos c24] at H; have c24b0 : decide (x8_2 < x7_5) = true := decide_eq_true c24; clear c24; obtain rfl := Option.some.inj H
              go_wp2
              go_ret
              exact ⟨by first | rfl | (simp; done) | (simp [*]; done), by repeat (first | exact Drawn0.refl _ | apply Drawn0.step)⟩
            rw [if_neg c24] at H; have c24b0 : decide (x8_2 < x7_5) = false := decide_eq_false c24; clear c24
            by_cases c25 : x8_2 > 1114111
            case pos =>
              rw [if_pos c25] at H; have c25b0 : decide (1114111 < x8_2) = true := decide_eq_true c25; clear c25; obtain rfl := Option.some.inj H
              go_wp2
              go_ret
              exact ⟨by first | rfl | (simp; done) | (simp [*]; done), by repeat (first | exact Drawn0.refl _ | apply Drawn0.step)⟩
            rw [if_neg c25] at H; have c25b0 : decide (1114111 < x8_2) = false := decide_eq_false c25; clear c25
            by_cases c26 : x8_2 ≥ 55296
            case neg =>
              rw [if_neg c26] at H; have c26b0 : decide (55296 ≤ x8_2) = false := decide_eq_false c26; clear c26; obtain rfl := Option.some.inj H
              go_wp2
              go_ret
              exact ⟨by first | rfl | (simp; done) | (simp [*]; done), by repeat (first | exact Drawn0.refl _ | apply Drawn0.step)⟩
            rw [if_pos c26] at H; have c26b0 : decide (55296 ≤ x8_2) = true := decide_eq_true c26; clear c26
            by_cases c27 : x8_2 ≤ 57343
            case pos =>
              rw [if_pos c27] at H; have c27b0 : decide (x8_2 ≤ 57343) = true := decide_eq_true c27; clear c27; obtain rfl := Option.some.inj H
              go_wp2
              go_ret
              exact ⟨by first | rfl | (simp; done) | (simp [*]; done), by repeat (first | exact Drawn0.refl _ | apply Drawn0.step)⟩
            rw [if_neg c27] at H; have c27b0 : decide (x8_2 ≤ 57343) = false := decide_eq_false c27; clear c27; obtain rfl := Option.some.inj H
            go_wp2
            go_ret
            exact ⟨by first | rfl | (simp; done) | (simp [*]; done), by repeat (first | exact Drawn0.refl _ | apply Drawn0.step)⟩
          rw [if_pos c17] at H; have c17b0 : decide (x9_2 < x6_5) = true := decide_eq_true c17; clear c17; obtain ⟨ji18, hji18⟩ : ∃ j_ : Int, (wrap64 (a1 + x9_2)) = j_ := ⟨_, rfl⟩
          replace H : (if 0 ≤ (ji18) then (if (ji18) < (a0.size : Int) then (if (wrap64 (bt a0 (ji18))) < 128 then (some 0) else (if (wrap64 (bt a0 (ji18))) > 191 then (some 0) else (muslinref04_Whole.l0 k2 a0 a1 x6_5 x7_5 (wrap64 ((wrap64 ((wrap64 (64 * x8_2)) + (wrap64 (bt a0 (ji18))))) - 128)) (wrap64 (x9_2 + 1))))) else (none)) else (none)) = some r := by first | (rw [hji18] at H; exact H) | (simp only [hji18] at H ⊢; exact H)
          have hji18w : (IntKind.i64.wrap (a1 + x9_2)) = ji18 := (i64_w _).trans hji18
          by_cases c19 : 0 ≤ (ji18)
          case neg =>
            rw [if_neg c19] at H
            exact absurd H (by simp)
          rw [if_pos c19] at H; have c19b0 : decide (0 ≤ (ji18)) = true := decide_eq_true c19; clear c19
          by_cases c20 : (ji18) < (a0.size : Int)
          case neg =>
            rw [if_neg c20] at H
            exact absurd H (by simp)
          rw [if_pos c20] at H; have c20b0 : decide ((ji18) < (a0.size : Int)) = true := decide_eq_true c20; clear c20
          by_cases c22 : (wrap64 (bt a0 (ji18))) < 128
          case pos =>
            rw [if_pos c22] at H; have c22b0 : decide ((wrap64 (bt a0 (ji18))) < 128) = true := decide_eq_true c22; clear c22; obtain rfl := Option.some.inj H; have p21 : 0 ≤ ((ji18) : Int) := of_decide_eq_true (by first | (with_reducible assumption) | assumption); have q21 : (ji18) < (a0.size : Int) := of_decide_eq_true (by first | (with_reducible assumption) | assumption); have hx21 := bt_at a0 (ji18); replace p21 := eq_true p21; replace q21 := eq_true q21
            go_wp2
            go_ret
            exact ⟨by first | rfl | (simp; done) | (simp only [← hji18] <;> (first | rfl | (simp; done) | (simp; simp only [hji18]; exact beq_iff_eq.1 (by assumption)))) | (simp [*]; done), by repeat (first | exact Drawn0.refl _ | apply Drawn0.step)⟩
          rw [if_neg c22] at H; have c22b0 : decide ((wrap64 (bt a0 (ji18))) < 128) = false := decide_eq_false c22; clear c22
          by_cases c23 : (wrap64 (bt a0 (ji18))) > 191
          case pos =>
            rw [if_pos c23] at H; have c23b0 : decide (191 < (wrap64 (bt a0 (ji18)))) = true := decide_eq_true c23; clear c23; obtain rfl := Option.some.inj H; have p21 : 0 ≤ ((ji18) : Int) := of_decide_eq_true (by first | (with_reducible assumption) | assumption); have q21 : (ji18) < (a0.size : Int) := of_decide_eq_true (by first | (with_reducible assumption) | assumption); have hx21 := bt_at a0 (ji18); replace p21 := eq_true p21; replace q21 := eq_true q21
            go_wp2
            go_ret
            exact ⟨by first | rfl | (simp; done) | (simp only [← hji18] <;> (first | rfl | (simp; done) | (simp; simp only [hji18]; exact beq_iff_eq.1 (by assumption)))) | (simp [*]; done), by repeat (first | exact Drawn0.refl _ | apply Drawn0.step)⟩
          rw [if_neg c23] at H; have c23b0 : decide (191 < (wrap64 (bt a0 (ji18)))) = false := decide_eq_false c23; clear c23; have H' := Aside0.mk H; clear H; have p21 : 0 ≤ ((ji18) : Int) := of_decide_eq_true (by first | (with_reducible assumption) | assumption); have q21 : (ji18) < (a0.size : Int) := of_decide_eq_true (by first | (with_reducible assumption) | assumption); have hx21 := bt_at a0 (ji18); replace p21 := eq_true p21; replace q21 := eq_true q21
          go_wp2
          go_roundg k2
          case measure => have := HJ5.out; have := HK2.out; omega
          case rel => exact ⟨(wrap64 ((wrap64 ((wrap64 (64 * x8_2)) + (wrap64 (bt a0 (ji18))))) - 128)), (wrap64 (x9_2 + 1)), (by first | rfl | (simp; done) | (simp only [← hji18] <;> (first | rfl | (simp; done) | (simp; simp only [hji18]; exact beq_iff_eq.1 (by assumption)))) | (simp [*]; done)), (by first | rfl | (simp; done) | (simp [*]; done)), H', ⟨by have := HJ5.out; have := HK2.out; omega⟩, by repeat (first | exact Drawn0.refl _ | apply Drawn0.step)⟩
def muslinref04_Valid.l0 : Nat → ByteArray → List Int → Int → Option (ByteArray)
  | 0, _, _, _ => none
  | k + 1, x0, x3, x4 => if x4 < (x0.size : Int) then ((muslinref04_Whole.f k x0 x4).bind fun t114 => (if t114 = 0 then (if x3.length + 3 < 140737488355328 then (muslinref04_Valid.l0 k x0 (x3 ++ bytesOf (⟨#[239, 191, 189]⟩ : ByteArray)) (wrap64 (x4 + 1))) else (none)) else (if 0 ≤ x4 then (if x4 ≤ (wrap64 (x4 + t114)) then (if (wrap64 (x4 + t114)) ≤ (x0.size : Int) then (if x3.length + (x0.extract (x4 : Int).toNat ((wrap64 (x4 + t114)) : Int).toNat).size < 140737488355328 then (muslinref04_Valid.l0 k x0 (x3 ++ bytesOf (x0.extract (x4 : Int).toNat ((wrap64 (x4 + t114)) : Int).toNat)) (wrap64 (x4 + t114))) else (none)) else (none)) else (none)) else (none)))) else (some (strOfNums x3))
def muslinref04_Valid.f (k : Nat) (a0 : ByteArray) : Option (ByteArray) := muslinref04_Valid.l0 k a0 ([] : List Int) 0
set_option maxHeartbeats 8000000 in
set_option maxRecDepth 100000 in
theorem muslinref04_Valid.calls (k : Nat) (a0 : ByteArray) (r : ByteArray) (w : World) (h : muslinref04_Valid.f k a0 = some r) :
    Calls Tryz.prog 61 #[.string a0] w fun e w' => e = .returned (.string r) ∧ Below w.heap.size w w' := by
  have HB := Aside0.mk (Below.refl w.heap.size w); have H : (muslinref04_Valid.l0 k a0 ([] : List Int) 0) = some r := h; clear h; have H' := Aside0.mk H; clear H
  go_enter Tryz.func61, Tryz.ntmps61
  go_wp2
  go_loopg [3, 4] k (fun kq v3 v4 w' => ∃ (x3_1 : List Int) (x4_1 : Int), v4 = .int .i64 x4_1 ∧ Aside0 (muslinref04_Valid.l0 kq a0 x3_1 x4_1 = some r) ∧ Aside0 (kq ≤ k) ∧ Aside0 (Kd.R (Kd.int .u8) 5 w' w.heap.size (fun _ => True) v3 x3_1) ∧ Aside0 (Below w.heap.size w w'))
  case atStart => exact ⟨(([] : List Int)), (0), (by first | rfl | (simp; done) | (simp [*]; done)), H', ⟨Nat.le_refl _⟩, ⟨by first | exact Kd.R_nil _ _ _ _ _ | exact Kd.N_nil _ _ _ _ _ | exact Kd.V_nil _ _ _ _ _ | exact Kd.Q_nil _ _ _ _ _ | exact Kd.S_nil _ _ _ _ _⟩, ⟨by repeat (first | (with_reducible first | exact HB.out | apply below_alloc | apply pw_below_drewN | apply below_drew1) | exact HB.out)⟩⟩
  case round =>
    clear H'; obtain ⟨x3_1, x4_1, rfl, HA, HK1, HO_3, HB⟩ := hrel
    cases gk with
    | zero => exact absurd HA.out (by simp [muslinref04_Valid.l0])
    | succ k1 =>
      have H := HA.out; clear HA; simp only [muslinref04_Valid.l0] at H
      by_cases c2 : x4_1 < (a0.size : Int)
      case neg =>
        rw [if_neg c2] at H; have c2b0 : decide (x4_1 < (a0.size : Int)) = false := decide_eq_false c2; clear c2; obtain rfl := Option.some.inj H; have hcv12 := own_string (P := Tryz.prog) Tryz.underlying45 Tryz.underlying5 Tryz.underlying9 (Kd.own_of_R HO_3.out)
        go_wp2
        go_ret
        exact ⟨by first | rfl | (simp [errW_none, errW_some] <;> rfl) | (simp [*, errW_none, errW_some] <;> rfl), by repeat (first | (with_reducible first | exact HB.out | apply below_alloc | apply pw_below_drewN | apply below_drew1) | exact HB.out)⟩
      rw [if_pos c2] at H; have c2b0 : decide (x4_1 < (a0.size : Int)) = true := decide_eq_true c2; clear c2; replace H := Option.bind_eq_some_iff.mp H; obtain ⟨t114, A30, H⟩ := H; replace H : (if t114 = 0 then (if x3_1.length + 3 < 140737488355328 then (muslinref04_Valid.l0 k1 a0 (x3_1 ++ bytesOf (⟨#[239, 191, 189]⟩ : ByteArray)) (wrap64 (x4_1 + 1))) else (none)) else (if 0 ≤ x4_1 then (if x4_1 ≤ (wrap64 (x4_1 + t114)) then (if (wrap64 (x4_1 + t114)) ≤ (a0.size : Int) then (if x3_1.length + (a0.extract (x4_1 : Int).toNat ((wrap64 (x4_1 + t114)) : Int).toNat).size < 140737488355328 then (muslinref04_Valid.l0 k1 a0 (x3_1 ++ bytesOf (a0.extract (x4_1 : Int).toNat ((wrap64 (x4_1 + t114)) : Int).toNat)) (wrap64 (x4_1 + t114))) else (none)) else (none)) else (none)) else (none))) = some r := H; have A3 := Aside0.mk A30; clear A30
      by_cases c4 : t114 = 0
      case pos =>
        rw [if_pos c4] at H; have c4b0 : (t114 == 0) = true := beq_iff_eq.mpr c4; have c4b1 : (t114 != 0) = false := bne_eq_false_iff_eq.mpr c4; clear c4
        by_cases c5 : x3_1.length + 3 < 140737488355328
        case neg =>
          rw [if_neg c5] at H
          exact absurd H (by simp)
        rw [if_pos c5] at H; have LMc5 := Aside0.mk c5; clear c5; obtain ⟨y115, hy115⟩ : ∃ y_ : List Int, y_ = (x3_1 ++ bytesOf (⟨#[239, 191, 189]⟩ : ByteArray)) := ⟨_, rfl⟩
        replace H : (muslinref04_Valid.l0 k1 a0 y115 (wrap64 (x4_1 + 1))) = some r := by first | (rw [hy115]; with_reducible exact H) | (have H2_ := (Option.bind_some _ _).symm.trans H; rw [hy115]; with_reducible exact H2_) | (have H2_ := (Option.bind_some _ _).symm.trans H; with_reducible exact H2_) | with_reducible exact H | (rw [hy115]; exact H) | exact H
        have Ny115 := Aside0.mk hy115; clear hy115; have H' := Aside0.mk H; clear H; go_wp2_with (first | ((with_reducible refine gate_callee (f := 62) rfl ?_); refine goesL_ (some 12) rfl rfl Tryz.func62 (by kernel_rfl) rfl #[.string a0, .int .i64 x4_1] rfl (by (try simp only [List.map_toArray, List.map_cons, List.map_nil]); first | done | rfl | (simp only [List.length_drop, List.length_take]; rfl)) ?_; (with_reducible refine (muslinref04_Whole.calls k1 a0 x4_1 t114 _ A3.out).mono ?_); rintro e w' ⟨rfl, ⟨nd, rfl⟩⟩; refine ⟨_, rfl, ?_⟩) | (at_builtin; refine print_append_str (w0 := w) w.heap.size rfl (.tmp 15) _ 45 9 5 rfl Tryz.underlying45 Tryz.underlying9 info5 u3 x3_1 (⟨#[239, 191, 189]⟩ : ByteArray) rfl rfl ?aO ?aB ?aS ?aL ?_; (case aB => exact (by repeat (first | (with_reducible first | exact HB.out | apply below_alloc | apply pw_below_drewN | apply below_drew1) | exact HB.out))); (case aO => exact (Kd.own_of_R (by (with_reducible repeat (first | apply Kd.R_alloc | apply Kd.R_drewN | apply Kd.R_drew)); exact HO_3.out))); (case aS => exact (below_size (by repeat (first | (with_reducible first | exact HB.out | apply below_alloc | apply pw_below_drewN | apply below_drew1) | exact HB.out)))); (case aL => have := LMc5.out; first | omega | exact Nat.le_of_lt this); intro v116 w6 ho0 hb hg; have ho := Kd.R_of_own (h1 := fun _ => rfl) (ok := fun _ => True) ho0 (fun _ _ => trivial); clear ho0; have hat := True.intro; rw [← Ny115.out] at ho; change Kd.R (Kd.int .u8) 5 w6 w.heap.size (fun _ => True) v116 y115 at ho; have n0_ := Aside0.mk (hb); have n1_ := Aside0.mk (ho); clear HB; clear HO_3; have HB := n0_; have HO117 := n1_; clear n0_ n1_; clear ho hb hg hat))
        go_roundg k1
        case measure => have := HK1.out; omega
        case rel => exact ⟨(y115), (wrap64 (x4_1 + 1)), (by first | rfl | (simp; done) | (simp [*]; done)), H', ⟨by have := HK1.out; omega⟩, ⟨by (with_reducible repeat (first | apply Kd.R_alloc | apply Kd.R_drewN | apply Kd.R_drew)); exact HO117.out⟩, ⟨by repeat (first | (with_reducible first | exact HB.out | apply below_alloc | apply pw_below_drewN | apply below_drew1) | exact HB.out)⟩⟩
      rw [if_neg c4] at H; have c4b0 : (t114 == 0) = false := beq_eq_false_iff_ne.mpr c4; have c4b1 : (t114 != 0) = true := bne_iff_ne.mpr c4
      by_cases c7 : 0 ≤ x4_1
      case neg =>
        rw [if_neg c7] at H
        exact absurd H (by simp)
      rw [if_pos c7] at H; have c7b0 := eq_true c7; have c7b1 : decide (0 ≤ x4_1) = true := decide_eq_true c7; clear c7
      by_cases c8 : x4_1 ≤ (wrap64 (x4_1 + t114))
      case neg =>
        rw [if_neg c8] at H
        exact absurd H (by simp)
      rw [if_pos c8] at H; have c8b0 := eq_true c8; have c8b1 : decide (x4_1 ≤ (wrap64 (x4_1 + t114))) = true := decide_eq_true c8
      by_cases c9 : (wrap64 (x4_1 + t114)) ≤ (a0.size : Int)
      case neg =>
        rw [if_neg c9] at H
        exact absurd H (by simp)
      rw [if_pos c9] at H; have c9b0 := eq_true c9; have c9b1 : decide ((wrap64 (x4_1 + t114)) ≤ (a0.size : Int)) = true := decide_eq_true c9
      by_cases c10 : x3_1.length + (a0.extract (x4_1 : Int).toNat ((wrap64 (x4_1 + t114)) : Int).toNat).size < 140737488355328
      case neg =>
        rw [if_neg c10] at H
        exact absurd H (by simp)
      rw [if_pos c10] at H; have LMc10 := Aside0.mk c10; clear c10; obtain ⟨y118, hy118⟩ : ∃ y_ : List Int, y_ = (x3_1 ++ bytesOf (a0.extract (x4_1 : Int).toNat ((wrap64 (x4_1 + t114)) : Int).toNat)) := ⟨_, rfl⟩
      replace H : (muslinref04_Valid.l0 k1 a0 y118 (wrap64 (x4_1 + t114))) = some r := by first | (rw [hy118]; with_reducible exact H) | (have H2_ := (Option.bind_some _ _).symm.trans H; rw [hy118]; with_reducible exact H2_) | (have H2_ := (Option.bind_some _ _).symm.trans H; with_reducible exact H2_) | with_reducible exact H | (rw [hy118]; exact H) | exact H
      have Ny118 := Aside0.mk hy118; clear hy118; have H' := Aside0.mk H; clear H; go_wp2_with (first | ((with_reducible refine gate_callee (f := 62) rfl ?_); refine goesL_ (some 12) rfl rfl Tryz.func62 (by kernel_rfl) rfl #[.string a0, .int .i64 x4_1] rfl (by (try simp only [List.map_toArray, List.map_cons, List.map_nil]); first | done | rfl | (simp only [List.length_drop, List.length_take]; rfl)) ?_; (with_reducible refine (muslinref04_Whole.calls k1 a0 x4_1 t114 _ A3.out).mono ?_); rintro e w' ⟨rfl, ⟨nd, rfl⟩⟩; refine ⟨_, rfl, ?_⟩) | (at_builtin; refine print_append_str (w0 := w) w.heap.size rfl (.tmp 19) _ 45 9 5 rfl Tryz.underlying45 Tryz.underlying9 info5 u3 x3_1 (a0.extract (x4_1 : Int).toNat ((wrap64 (x4_1 + t114)) : Int).toNat) rfl rfl ?aO ?aB ?aS ?aL ?_; (case aB => exact (by repeat (first | (with_reducible first | exact HB.out | apply below_alloc | apply pw_below_drewN | apply below_drew1) | exact HB.out))); (case aO => exact (Kd.own_of_R (by (with_reducible repeat (first | apply Kd.R_alloc | apply Kd.R_drewN | apply Kd.R_drew)); exact HO_3.out))); (case aS => exact (below_size (by repeat (first | (with_reducible first | exact HB.out | apply below_alloc | apply pw_below_drewN | apply below_drew1) | exact HB.out)))); (case aL => have := LMc10.out; first | omega | exact Nat.le_of_lt this); intro v119 w11 ho0 hb hg; have ho := Kd.R_of_own (h1 := fun _ => rfl) (ok := fun _ => True) ho0 (fun _ _ => trivial); clear ho0; have hat := True.intro; rw [← Ny118.out] at ho; change Kd.R (Kd.int .u8) 5 w11 w.heap.size (fun _ => True) v119 y118 at ho; have n0_ := Aside0.mk (hb); have n1_ := Aside0.mk (ho); clear HB; clear HO_3; have HB := n0_; have HO120 := n1_; clear n0_ n1_; clear ho hb hg hat))
      go_roundg k1
      case measure => have := HK1.out; omega
      case rel => exact ⟨(y118), (wrap64 (x4_1 + t114)), (by first | rfl | (simp; done) | (simp [*]; done)), H', ⟨by have := HK1.out; omega⟩, ⟨by (with_reducible repeat (first | apply Kd.R_alloc | apply Kd.R_drewN | apply Kd.R_drew)); exact HO120.out⟩, ⟨by repeat (first | (with_reducible first | exact HB.out | apply below_alloc | apply pw_below_drewN | apply below_drew1) | exact HB.out)⟩⟩
end Go.Proofs.YtpcncpegbboljaaGreatDoor.C
namespace Go.Proofs.YtpcncpegbboljaaGreatDoor.Pure
open Go.RowKit Go.Proofs.YtpcncpegbboljaaGreatDoor.C Go.Proofs.YtpcncpegbboljaaGreatDoorW.PrintWords Go.Proofs.YtpcncpegbboljaaGreatDoorW.PrintLast
set_option linter.unusedVariables false
set_option linter.unusedSimpArgs false
theorem bt_byteAt (s : ByteArray) (at_ j : Nat) : bt s ((at_ : Int) + (j : Int)) = byteAt (s.data.toList.drop at_) j := by
  unfold bt byteAt
  rw [List.getD_eq_getElem?_getD, List.getElem?_drop]
  have e : ((at_ : Int) + (j : Int)).toNat = at_ + j := by omega
  split
  · rename_i h
    rw [e] at h
    have h2 : at_ + j < s.data.toList.length := by simpa using h
    rw [List.getElem?_eq_getElem h2]
    simp only [Option.getD_some, e]
    rfl
  · rename_i h
    rw [e] at h
    have h2 : s.data.toList.length ≤ at_ + j := by simpa using h
    rw [List.getElem?_eq_none h2]
    rfl
section whole
variable (s : ByteArray) (hs : s.size ≤ 140737488351232)
include hs
theorem l0_step (k : Nat) (a n least v i : Int) (h0 : 0 ≤ a) (hi : 0 ≤ i) (hin : i < n) (ha : a + i < s.size) (hv : 0 ≤ v) (hv2 : v ≤ 1000000000) :
    muslinref04_Whole.l0 (k + 1) s a n least v i = if bt s (a + i) < 128 ∨ bt s (a + i) > 191 then some 0 else muslinref04_Whole.l0 k s a n least (64 * v + bt s (a + i) - 128) (i + 1) := by
  have hb := bt_range s (a + i)
  simp only [muslinref04_Whole.l0]
  rw [w64 (x := a + i) (by omega) (by omega), w64 (x := bt s (a + i)) (by omega) (by omega), if_pos hin, if_pos (by omega), if_pos ha,
    w64 (x := 64 * v) (by omega) (by omega), w64 (x := 64 * v + bt s (a + i)) (by omega) (by omega), w64 (x := 64 * v + bt s (a + i) - 128) (by omega) (by omega), w64 (x := i + 1) (by omega) (by omega)]
  by_cases c1 : bt s (a + i) < 128
  · rw [if_pos c1, if_pos (.inl c1)]
  · rw [if_neg c1]
    by_cases c2 : bt s (a + i) > 191
    · rw [if_pos c2, if_pos (.inr c2)]
    · rw [if_neg c2, if_neg (by omega)]
omit hs in
theorem l0_end (k : Nat) (a n least v i : Int) (hin : ¬ i < n) :
    muslinref04_Whole.l0 (k + 1) s a n least v i = if v < least ∨ v > 1114111 ∨ (v ≥ 55296 ∧ v ≤ 57343) then some 0 else some n := by
  simp only [muslinref04_Whole.l0]
  rw [if_neg hin]
  by_cases c1 : v < least
  · rw [if_pos c1, if_pos (.inl c1)]
  · rw [if_neg c1]
    by_cases c2 : v > 1114111
    · rw [if_pos c2, if_pos (.inr (.inl c2))]
    · rw [if_neg c2]
      by_cases c3 : v ≥ 55296
      · rw [if_pos c3]
        by_cases c4 : v ≤ 57343
        · rw [if_pos c4, if_pos (.inr (.inr ⟨c3, c4⟩))]
        · rw [if_neg c4, if_neg (by omega)]
      · rw [if_neg c3, if_neg (by omega)]
theorem whole_is (a : Nat) (ha : a < s.size) : Ev (fun k => muslinref04_Whole.f k s a) (wholeL (s.data.toList.drop a) : Int) := by
  have hb0 : bt s (a : Int) = byteAt (s.data.toList.drop a) 0 := by simpa using bt_byteAt s a 0
  have hb1 : bt s ((a : Int) + 1) = byteAt (s.data.toList.drop a) 1 := by simpa using bt_byteAt s a 1
  have hb2 : bt s ((a : Int) + 2) = byteAt (s.data.toList.drop a) 2 := by simpa using bt_byteAt s a 2
  have hb3 : bt s ((a : Int) + 3) = byteAt (s.data.toList.drop a) 3 := by simpa using bt_byteAt s a 3
  have hlen : (s.data.toList.drop a).length = s.size - a := by simp
  generalize hl : s.data.toList.drop a = l at *
  have r0 := byteAt_lt l 0
  have r1 := byteAt_lt l 1
  have r2 := byteAt_lt l 2
  have r3 := byteAt_lt l 3
  refine ⟨10, fun k hk => ?_⟩
  obtain ⟨m, rfl⟩ : ∃ m, k = m + 1 + 1 + 1 + 1 + 1 + 1 + 1 + 1 + 1 + 1 := ⟨k - 10, by omega⟩
  show muslinref04_Whole.f (m + 1 + 1 + 1 + 1 + 1 + 1 + 1 + 1 + 1 + 1) s a = _
  unfold muslinref04_Whole.f
  rw [if_pos (by omega), if_pos (by omega), hb0, w64 (x := (byteAt l 0 : Int)) (by omega) (by omega)]
  by_cases c0 : byteAt l 0 < 128
  · rw [if_pos (by omega), whole_low l c0]; rfl
  rw [if_neg (by omega)]
  by_cases c1 : byteAt l 0 < 192
  · rw [if_neg (by omega), whole_none l (by omega)]
    rw [muslinref04_Whole.j0, if_neg Bool.false_ne_true, if_neg (by omega), muslinref04_Whole.j1, if_neg Bool.false_ne_true, if_neg (by omega)]; rfl
  rw [if_pos (by omega)]
  by_cases c2 : byteAt l 0 < 224
  · rw [decide_eq_true (by omega : (byteAt l 0 : Int) < 224), whole_two l (by omega)]
    rw [muslinref04_Whole.j0, if_pos rfl, muslinref04_Whole.j2]
    rw [w64 (x := (byteAt l 0 : Int) - 192) (by omega) (by omega), w64 (x := (a : Int) + 2) (by omega) (by omega)]
    by_cases d : (a : Int) + 2 > s.size
    · rw [if_pos d, if_neg (by rw [contAt_iff]; omega)]; rfl
    rw [if_neg d, l0_step s hs _ a 2 128 _ 1 (by omega) (by omega) (by omega) (by omega) (by omega) (by omega), l0_end s _ a 2 128 _ (1 + 1) (by omega), hb1]
    simp only [contAt_iff]
    split
    · rename_i h1; rw [if_neg (by omega)]; rfl
    · split
      · rename_i h1 h2; rw [if_neg (by omega)]; rfl
      · rename_i h1 h2; rw [if_pos (by omega)]; rfl
  rw [decide_eq_false (by omega : ¬ (byteAt l 0 : Int) < 224)]
  by_cases c3 : byteAt l 0 < 240
  · rw [whole_three l (by omega)]
    rw [muslinref04_Whole.j0, if_neg Bool.false_ne_true, if_pos (by omega), decide_eq_true (by omega : (byteAt l 0 : Int) < 240), muslinref04_Whole.j1, if_pos rfl, muslinref04_Whole.j2]
    rw [w64 (x := (byteAt l 0 : Int) - 224) (by omega) (by omega), w64 (x := (a : Int) + 3) (by omega) (by omega)]
    by_cases d : (a : Int) + 3 > s.size
    · rw [if_pos d, if_neg (by rw [contAt_iff, contAt_iff]; omega)]; rfl
    rw [if_neg d, l0_step s hs _ a 3 2048 _ 1 (by omega) (by omega) (by omega) (by omega) (by omega) (by omega), hb1]
    simp only [contAt_iff, valid_iff]
    split
    · rename_i h1; rw [if_neg (by omega)]; rfl
    · rename_i h1
      rw [show ((1 : Int) + 1) = 2 from rfl, l0_step s hs _ a 3 2048 _ 2 (by omega) (by omega) (by omega) (by omega) (by omega) (by omega), hb2]
      split
      · rename_i h2; rw [if_neg (by omega)]; rfl
      · rename_i h2
        rw [l0_end s _ a 3 2048 _ (2 + 1) (by omega)]
        split
        · rename_i h3; rw [if_neg (by omega)]; rfl
        · rename_i h3; rw [if_pos (by omega)]; rfl
  by_cases c4 : byteAt l 0 < 248
  · rw [whole_four l (by omega)]
    rw [muslinref04_Whole.j0, if_neg Bool.false_ne_true, if_pos (by omega), decide_eq_false (by omega : ¬ (byteAt l 0 : Int) < 240), muslinref04_Whole.j1, if_neg Bool.false_ne_true, if_pos (by omega), if_pos (by omega), muslinref04_Whole.j2]
    rw [w64 (x := (byteAt l 0 : Int) - 240) (by omega) (by omega), w64 (x := (a : Int) + 4) (by omega) (by omega)]
    by_cases d : (a : Int) + 4 > s.size
    · rw [if_pos d, if_neg (by rw [contAt_iff, contAt_iff, contAt_iff]; omega)]; rfl
    rw [if_neg d, l0_step s hs _ a 4 65536 _ 1 (by omega) (by omega) (by omega) (by omega) (by omega) (by omega), hb1]
    simp only [contAt_iff, valid_iff]
    split
    · rename_i h1; rw [if_neg (by omega)]; rfl
    · rename_i h1
      rw [show ((1 : Int) + 1) = 2 from rfl, l0_step s hs _ a 4 65536 _ 2 (by omega) (by omega) (by omega) (by omega) (by omega) (by omega), hb2]
      split
      · rename_i h2; rw [if_neg (by omega)]; rfl
      · rename_i h2
        rw [show ((2 : Int) + 1) = 3 from rfl, l0_step s hs _ a 4 65536 _ 3 (by omega) (by omega) (by omega) (by omega) (by omega) (by omega), hb3]
        split
        · rename_i h3; rw [if_neg (by omega)]; rfl
        · rename_i h3
          rw [l0_end s _ a 4 65536 _ (3 + 1) (by omega)]
          split
          · rename_i h4; rw [if_neg (by omega)]; rfl
          · rename_i h4; rw [if_pos (by omega)]; rfl
  rw [whole_none l (by omega)]
  rw [muslinref04_Whole.j0, if_neg Bool.false_ne_true, if_pos (by omega), decide_eq_false (by omega : ¬ (byteAt l 0 : Int) < 240), muslinref04_Whole.j1, if_neg Bool.false_ne_true, if_pos (by omega), if_neg (by omega)]; rfl
end whole
theorem validFrom_valL (s : ByteArray) : ∀ (fuel pos : Nat), validFrom s fuel pos = valL fuel (s.data.toList.drop pos) := by
  intro fuel
  induction fuel with
  | zero => intro pos; rfl
  | succ n ih =>
    intro pos
    simp only [validFrom, valL]
    by_cases h : pos < s.size
    · rw [if_pos h, if_neg (by intro h2; have := congrArg List.length h2; simp at this; omega), decode_list, ih, List.drop_drop]
    · rw [if_neg h, if_pos (List.drop_eq_nil_of_le (by rw [sizeL]; omega))]
def vl (l : List UInt8) : List UInt8 := valL l.length l
theorem validS_eq (s : ByteArray) : validS s = ⟨(vl s.data.toList).toArray⟩ := by
  unfold validS vl
  rw [validFrom_valL, List.drop_zero, sizeL]
theorem vl_nil : vl [] = [] := rfl
theorem vl_cons (l : List UInt8) (h : l ≠ []) : vl l = Lib.encodeRune (uDec l).1 ++ vl (l.drop (uDec l).2) := by
  have hw := dec_width l h
  have e : vl l = valL (l.length - 1 + 1) l := by unfold vl; congr 1; omega
  rw [e]
  simp only [valL, if_neg h]
  unfold vl
  rw [valL_more _ _ (Nat.le_refl _) (l.length - 1) (by rw [List.length_drop]; omega)]
theorem valid_loop (s : ByteArray) (hs : s.size ≤ 35184372088832) : ∀ (n pos : Nat) (acc : List UInt8), s.size - pos ≤ n → pos ≤ s.size → acc.length + 3 * (s.size - pos) < 140737488355328 →
    Ev (fun k => muslinref04_Valid.l0 k s (intsOf acc) pos) (⟨(acc ++ vl (s.data.toList.drop pos)).toArray⟩ : ByteArray) := by
  intro n
  induction n with
  | zero =>
    intro pos acc h1 h2 h3
    refine Ev.round (fun k => by rw [muslinref04_Valid.l0]) ?_
    refine Ev.neg (by omega) ?_
    rw [strOf_ints, List.drop_eq_nil_of_le (by rw [sizeL]; omega), vl_nil, List.append_nil]
    exact Ev.now _
  | succ n ih =>
    intro pos acc h1 h2 h3
    refine Ev.round (fun k => by rw [muslinref04_Valid.l0]) ?_
    by_cases hp : pos < s.size
    · refine Ev.pos (by omega) ?_
      refine Ev.bind (whole_is s (by omega) pos hp) ?_
      have hne : s.data.toList.drop pos ≠ [] := by intro h; have := congrArg List.length h; simp at this; omega
      rw [vl_cons _ hne]
      rcases dec_cases _ hne with ⟨e0, e1, _⟩ | ⟨e0, e1, e2, e3, e4, e5⟩
      · rw [e0, e1]
        refine Ev.pos rfl ?_
        refine Ev.pos (by rw [intsOf_length]; omega) ?_
        have hb : intsOf acc ++ bytesOf (⟨#[239, 191, 189]⟩ : ByteArray) = intsOf (acc ++ [239, 191, 189]) := by rw [intsOf_append]; rfl
        rw [hb, w64 (by omega) (by omega)]
        have := ih (pos + 1) (acc ++ [239, 191, 189]) (by omega) (by omega) (by simp; omega)
        simp only [List.drop_drop]
        rw [show Lib.encodeRune ((65533 : Nat) : Int) = [239, 191, 189] from enc_65533, ← List.append_assoc]
        exact this
      · have hl : (s.data.toList.drop pos).length = s.size - pos := by simp
        rw [e0]
        refine Ev.neg (by omega) ?_
        refine Ev.pos (by omega) ?_
        have hw : wrap64 ((pos : Int) + (((uDec (s.data.toList.drop pos)).2 : Nat) : Int)) = ((pos + (uDec (s.data.toList.drop pos)).2 : Nat) : Int) := by rw [w64 (by omega) (by omega)]; omega
        rw [hw]
        refine Ev.pos (by omega) ?_
        refine Ev.pos (by omega) ?_
        have hx : (s.extract ((pos : Nat) : Int).toNat ((pos + (uDec (s.data.toList.drop pos)).2 : Nat) : Int).toNat).data.toList = (s.data.toList.drop pos).take (uDec (s.data.toList.drop pos)).2 := by
          rw [extract_list, Int.toNat_natCast, Int.toNat_natCast, List.drop_take, Nat.add_sub_cancel_left]
        have hxs : (s.extract ((pos : Nat) : Int).toNat ((pos + (uDec (s.data.toList.drop pos)).2 : Nat) : Int).toNat).size = (uDec (s.data.toList.drop pos)).2 := by
          rw [← sizeL, hx, List.length_take]; omega
        refine Ev.pos (by rw [intsOf_length, hxs]; omega) ?_
        rw [bytesOf_ints, hx, ← intsOf_append]
        have := ih (pos + (uDec (s.data.toList.drop pos)).2) (acc ++ (s.data.toList.drop pos).take (uDec (s.data.toList.drop pos)).2) (by omega) (by omega) (by rw [List.length_append, List.length_take]; omega)
        rw [e5, ← List.append_assoc, List.drop_drop]
        exact this
    · refine Ev.neg (by omega) ?_
      rw [strOf_ints, List.drop_eq_nil_of_le (by rw [sizeL]; omega), vl_nil, List.append_nil]
      exact Ev.now _
theorem refValid_is (s : ByteArray) (hs : s.size ≤ 35184372088832) : Ev (fun k => muslinref04_Valid.f k s) (validS s) := by
  rw [validS_eq]
  exact valid_loop s hs s.size 0 [] (by omega) (by omega) (by simp; omega)
end Go.Proofs.YtpcncpegbboljaaGreatDoor.Pure
namespace Go.Proofs.YtpcncpegbboljaaGreatDoor.Pure
open Go.RowKit Go.Proofs.YtpcncpegbboljaaGreatDoor.C Go.Proofs.YtpcncpegbboljaaGreatDoorW.PrintWords Go.Proofs.YtpcncpegbboljaaGreatDoorW.PrintLast
set_option linter.unusedVariables false
set_option linter.unusedSimpArgs false
def knownL (t : List UInt8) : ByteArray × Bool :=
  if t = [117, 116, 102, 45, 56] ∨ t = [117, 116, 102, 56] ∨ t = [117, 110, 105, 99, 111, 100, 101, 45, 49, 45, 49, 45, 117, 116, 102, 45, 56] then ((⟨#[117, 116, 102, 45, 56]⟩ : ByteArray), true)
  else if t = [119, 105, 110, 100, 111, 119, 115, 45, 49, 50, 53, 50] ∨ t = [99, 112, 49, 50, 53, 50] ∨ t = [117, 115, 45, 97, 115, 99, 105, 105] ∨ t = [97, 115, 99, 105, 105] ∨ t = [105, 115, 111, 45, 56, 56, 53, 57, 45, 49] ∨ t = [105, 115, 111, 56, 56, 53, 57, 45, 49] ∨ t = [108, 97, 116, 105, 110, 49] ∨ t = [108, 49] then ((⟨#[119, 105, 110, 100, 111, 119, 115, 45, 49, 50, 53, 50]⟩ : ByteArray), true)
  else if t = [117, 116, 102, 45, 49, 54, 108, 101] ∨ t = [117, 116, 102, 45, 49, 54] ∨ t = [117, 110, 105, 99, 111, 100, 101] ∨ t = [117, 99, 115, 45, 50] then ((⟨#[117, 116, 102, 45, 49, 54, 108, 101]⟩ : ByteArray), true)
  else if t = [117, 116, 102, 45, 49, 54, 98, 101] ∨ t = [117, 110, 105, 99, 111, 100, 101, 102, 102, 102, 101] then ((⟨#[117, 116, 102, 45, 49, 54, 98, 101]⟩ : ByteArray), true)
  else ((⟨#[]⟩ : ByteArray), false)
set_option maxHeartbeats 1000000 in
theorem chars_Known_tail (t : ByteArray) : Ev (fun k => if t.toList = ([117, 116, 102, 45, 56] : List UInt8) then chars_Known.j0 k t (t.toList == ([117, 116, 102, 45, 56] : List UInt8)) else if t.toList = ([117, 116, 102, 56] : List UInt8) then chars_Known.j0 k t (t.toList == ([117, 116, 102, 56] : List UInt8)) else chars_Known.j0 k t (t.toList == ([117, 110, 105, 99, 111, 100, 101, 45, 49, 45, 49, 45, 117, 116, 102, 45, 56] : List UInt8))) (knownL t.data.toList) := by
  rw [← toList_eq]
  refine Ev.of (k := 3) (fun k => ?_) ?_
  · intro r h
    have m := fun x y => (chars_Known.mono_l k).1 x y
    split at h
    · rename_i c; rw [if_pos c]; exact m _ _ _ h
    · rename_i c; rw [if_neg c]
      split at h
      · rename_i c2; rw [if_pos c2]; exact m _ _ _ h
      · rename_i c2; rw [if_neg c2]; exact m _ _ _ h
  by_cases h0 : t.toList = [117, 116, 102, 45, 56]
  · simp [chars_Known.j0, chars_Known.j1, chars_Known.j2, h0, knownL]
  by_cases h1 : t.toList = [117, 116, 102, 56]
  · simp [chars_Known.j0, chars_Known.j1, chars_Known.j2, h1, knownL]
  by_cases h2 : t.toList = [117, 110, 105, 99, 111, 100, 101, 45, 49, 45, 49, 45, 117, 116, 102, 45, 56]
  · simp [chars_Known.j0, chars_Known.j1, chars_Known.j2, h2, knownL]
  by_cases h3 : t.toList = [119, 105, 110, 100, 111, 119, 115, 45, 49, 50, 53, 50]
  · simp [chars_Known.j0, chars_Known.j1, chars_Known.j2, h3, knownL]
  by_cases h4 : t.toList = [99, 112, 49, 50, 53, 50]
  · simp [chars_Known.j0, chars_Known.j1, chars_Known.j2, h4, knownL]
  by_cases h5 : t.toList = [117, 115, 45, 97, 115, 99, 105, 105]
  · simp [chars_Known.j0, chars_Known.j1, chars_Known.j2, h5, knownL]
  by_cases h6 : t.toList = [97, 115, 99, 105, 105]
  · simp [chars_Known.j0, chars_Known.j1, chars_Known.j2, h6, knownL]
  by_cases h7 : t.toList = [105, 115, 111, 45, 56, 56, 53, 57, 45, 49]
  · simp [chars_Known.j0, chars_Known.j1, chars_Known.j2, h7, knownL]
  by_cases h8 : t.toList = [105, 115, 111, 56, 56, 53, 57, 45, 49]
  · simp [chars_Known.j0, chars_Known.j1, chars_Known.j2, h8, knownL]
  by_cases h9 : t.toList = [108, 97, 116, 105, 110, 49]
  · simp [chars_Known.j0, chars_Known.j1, chars_Known.j2, h9, knownL]
  by_cases h10 : t.toList = [108, 49]
  · simp [chars_Known.j0, chars_Known.j1, chars_Known.j2, h10, knownL]
  by_cases h11 : t.toList = [117, 116, 102, 45, 49, 54, 108, 101]
  · simp [chars_Known.j0, chars_Known.j1, chars_Known.j2, h11, knownL]
  by_cases h12 : t.toList = [117, 116, 102, 45, 49, 54]
  · simp [chars_Known.j0, chars_Known.j1, chars_Known.j2, h12, knownL]
  by_cases h13 : t.toList = [117, 110, 105, 99, 111, 100, 101]
  · simp [chars_Known.j0, chars_Known.j1, chars_Known.j2, h13, knownL]
  by_cases h14 : t.toList = [117, 99, 115, 45, 50]
  · simp [chars_Known.j0, chars_Known.j1, chars_Known.j2, h14, knownL]
  by_cases h15 : t.toList = [117, 116, 102, 45, 49, 54, 98, 101]
  · simp [chars_Known.j0, chars_Known.j1, chars_Known.j2, h15, knownL]
  by_cases h16 : t.toList = [117, 110, 105, 99, 111, 100, 101, 102, 102, 102, 101]
  · simp [chars_Known.j0, chars_Known.j1, chars_Known.j2, h16, knownL]
  simp [chars_Known.j0, chars_Known.j1, chars_Known.j2, knownL, h0, h1, h2, h3, h4, h5, h6, h7, h8, h9, h10, h11, h12, h13, h14, h15, h16]
def rdrop (p : UInt8 → Bool) (l : List UInt8) : List UInt8 := (l.reverse.dropWhile p).reverse
theorem rdrop_cons (p : UInt8 → Bool) (x : UInt8) (xs : List UInt8) : rdrop p (x :: xs) = if rdrop p xs = [] then (if p x then [] else [x]) else x :: rdrop p xs := by
  unfold rdrop
  rw [List.reverse_cons, List.dropWhile_append]
  by_cases h : xs.reverse.dropWhile p = []
  · simp only [h, List.isEmpty_nil, if_true, List.reverse_nil]
    by_cases hx : p x = true
    · simp [hx]
    · simp [hx]
  · have h2 : (xs.reverse.dropWhile p).isEmpty = false := by
      cases hh : xs.reverse.dropWhile p with
      | nil => exact absurd hh h
      | cons a b => rfl
    simp [h2, h]
theorem drop_rdrop (p : UInt8 → Bool) : ∀ l : List UInt8, (rdrop p l).dropWhile p = rdrop p (l.dropWhile p) := by
  intro l
  induction l with
  | nil => rfl
  | cons x xs ih =>
    rw [rdrop_cons]
    by_cases hx : p x = true
    · rw [List.dropWhile_cons_of_pos hx, ← ih]
      by_cases h : rdrop p xs = []
      · rw [if_pos h, if_pos hx, h]
      · rw [if_neg h, List.dropWhile_cons_of_pos hx]
    · rw [List.dropWhile_cons_of_neg hx, rdrop_cons]
      by_cases h : rdrop p xs = []
      · rw [if_pos h, if_neg hx, List.dropWhile_cons_of_neg hx]
      · rw [if_neg h, List.dropWhile_cons_of_neg hx]
def isSp (c : UInt8) : Bool := [32, 9, 10, 12, 13].contains c
theorem trimS_sp (l : List UInt8) : Lib.trimS l [32, 9, 10, 12, 13] = rdrop isSp (l.dropWhile isSp) := by
  rw [← drop_rdrop]; rfl
def labelL (a : ByteArray) : List UInt8 := (rdrop isSp (a.data.toList.dropWhile isSp)).map lowC
theorem trim_got (a : ByteArray) (h : a.size ≤ 9223372036854775000) : strings_Trim.f a (⟨#[32, 9, 10, 12, 13]⟩ : ByteArray) = some ⟨(rdrop isSp (a.data.toList.dropWhile isSp)).toArray⟩ := by
  unfold strings_Trim.f
  rw [if_pos ⟨by omega, by decide, by decide⟩]
  rw [show (⟨#[32, 9, 10, 12, 13]⟩ : ByteArray).data.toList = [32, 9, 10, 12, 13] from rfl, trimS_sp]
theorem rdrop_len (p : UInt8 → Bool) (l : List UInt8) : (rdrop p l).length ≤ l.length := by
  unfold rdrop
  rw [List.length_reverse]
  have := (List.dropWhile_sublist (p := p) (l := l.reverse)).length_le
  simpa using this
theorem known_is (a : ByteArray) (h : a.size ≤ 5000) : Ev (fun k => chars_Known.f k a) (knownL (labelL a)) := by
  unfold chars_Known.f
  refine Ev.got (trim_got a (by omega)) ?_
  have h1 := rdrop_len isSp (a.data.toList.dropWhile isSp)
  have h2 := (List.dropWhile_sublist (p := isSp) (l := a.data.toList)).length_le
  rw [sizeL] at h2
  refine Ev.got (x := chars_small.f _) (guard_of (by rw [mk_size]; omega)) ?_
  exact chars_Known_tail _
end Go.Proofs.YtpcncpegbboljaaGreatDoor.Pure
namespace Go.Proofs.YtpcncpegbboljaaGreatDoor.Pure
open Go.RowKit Go.Proofs.YtpcncpegbboljaaGreatDoor.C Go.Proofs.YtpcncpegbboljaaGreatDoorW.PrintWords Go.Proofs.YtpcncpegbboljaaGreatDoorW.PrintLast
set_option linter.unusedVariables false
set_option linter.unusedSimpArgs false
def nUtf : ByteArray := ⟨#[117, 116, 102, 45, 56]⟩
def nLat : ByteArray := ⟨#[119, 105, 110, 100, 111, 119, 115, 45, 49, 50, 53, 50]⟩
def nLe : ByteArray := ⟨#[117, 116, 102, 45, 49, 54, 108, 101]⟩
def nBe : ByteArray := ⟨#[117, 116, 102, 45, 49, 54, 98, 101]⟩
def nNone : ByteArray := ⟨#[]⟩
theorem known_cases (t : List UInt8) : knownL t = (nUtf, true) ∨ knownL t = (nLat, true) ∨ knownL t = (nLe, true) ∨ knownL t = (nBe, true) ∨ knownL t = (nNone, false) := by
  unfold knownL
  split
  · exact .inl rfl
  · split
    · exact .inr (.inl rfl)
    · split
      · exact .inr (.inr (.inl rfl))
      · split
        · exact .inr (.inr (.inr (.inl rfl)))
        · exact .inr (.inr (.inr (.inr rfl)))
def decL (n : ByteArray) (l : List UInt8) : List UInt8 :=
  if n.data.toList = nLat.data.toList then singlesL l else if n.data.toList = nLe.data.toList then dblL uLE l else if n.data.toList = nBe.data.toList then dblL uBE l else vl l
theorem nameEq {n : ByteArray} {l : List UInt8} (h : n.data.toList = l) : n.toList = l := by rw [toList_eq]; exact h
theorem nameNe {n : ByteArray} {l : List UInt8} (h : n.data.toList ≠ l) : ¬ n.toList = l := by rw [toList_eq]; exact h
theorem decode_is (a s : ByteArray) (ha : a.size ≤ 5000) (hs : s.size ≤ 11000000) : Ev (fun k => chars_Decode.f k a s) ((⟨(decL (knownL (labelL a)).1 s.data.toList).toArray⟩ : ByteArray), (knownL (labelL a)).2) := by
  unfold chars_Decode.f
  refine Ev.bind (known_is a ha) ?_
  have h5 : s.size ≤ 35184372088832 := by omega
  have hv : Ev (fun _ => (chars_Valid.f s).bind fun t => some (t, (knownL (labelL a)).2)) ((⟨(vl s.data.toList).toArray⟩ : ByteArray), (knownL (labelL a)).2) := by
    refine Ev.got (x := chars_Valid.f s) (guard_of h5) ?_
    rw [validS_eq]; exact Ev.now _
  rcases known_cases (labelL a) with h | h | h | h | h
  · rw [h] at hv ⊢
    refine Ev.neg (nameNe (by decide)) ?_
    refine Ev.neg (nameNe (by decide)) ?_
    refine Ev.neg (nameNe (by decide)) ?_
    exact hv
  · rw [h]
    refine Ev.pos (nameEq (by decide)) ?_
    refine Ev.got (x := chars_singles.f s) (guard_of h5) ?_
    exact Ev.now _
  · rw [h]
    refine Ev.neg (nameNe (by decide)) ?_
    refine Ev.pos (nameEq (by decide)) ?_
    refine Ev.got (x := chars_doubles.f s 0 8) (guard_of ⟨h5, .inl ⟨rfl, rfl⟩⟩) ?_
    exact Ev.now _
  · rw [h]
    refine Ev.neg (nameNe (by decide)) ?_
    refine Ev.neg (nameNe (by decide)) ?_
    refine Ev.pos (nameEq (by decide)) ?_
    refine Ev.got (x := chars_doubles.f s 8 0) (guard_of ⟨h5, .inr ⟨rfl, rfl⟩⟩) ?_
    exact Ev.now _
  · rw [h] at hv ⊢
    refine Ev.neg (nameNe (by decide)) ?_
    refine Ev.neg (nameNe (by decide)) ?_
    refine Ev.neg (nameNe (by decide)) ?_
    exact hv
theorem vl_Val (l : List UInt8) : Val (vl l) := valL_Val _ _
theorem enc_len3 (r : Int) (h : r ≤ 65535) : (Lib.encodeRune r).length ≤ 3 := by
  simp only [Lib.encodeRune, List.length_map, Lib.encodeRuneZ]
  split
  · simp
  · split
    · simp
    · split
      · simp
      · split
        · omega
        · simp
theorem singles_len (l : List UInt8) : (singlesL l).length ≤ 3 * l.length := by
  induction l with
  | nil => simp [singlesL]
  | cons c r ih =>
    have h := enc_len3 (hiC c) (hiC_range c).2
    have e : singlesL (c :: r) = Lib.encodeRune (hiC c) ++ singlesL r := by simp [singlesL]
    rw [e, List.length_append, List.length_cons]; omega
theorem dblL_len (u : UInt8 → UInt8 → Int) (hu : ∀ a b, u a b ≤ 65535) : ∀ (n : Nat) (l : List UInt8), l.length ≤ n → (dblL u l).length ≤ 3 * l.length := by
  intro n
  induction n with
  | zero => intro l h; obtain rfl : l = [] := List.eq_nil_of_length_eq_zero (by omega); simp [dblL]
  | succ n ih =>
    intro l h
    match l with
    | [] => simp [dblL]
    | [a] => simp only [dblL]; exact enc_len3 _ (by omega)
    | [a, b] => simp only [dblL]; have := enc_len3 _ (hu a b); simp; omega
    | [a, b, c] => simp only [dblL]; have := enc_len3 _ (hu a b); have := enc_len3 65533 (by omega); simp; omega
    | a :: b :: c :: d :: r =>
      simp only [dblL]
      split
      · have := ih r (by simp at h; omega)
        have := (enc_len (65536 + (u a b - 55296) * 1024 + u c d - 56320)).2
        rw [List.length_append]; simp only [List.length_cons]; omega
      · have := ih (c :: d :: r) (by simp at h ⊢; omega)
        have := enc_len3 _ (hu a b)
        rw [List.length_append]; simp only [List.length_cons] at *; omega
theorem decL_len (n : ByteArray) (l : List UInt8) : (decL n l).length ≤ 3 * l.length := by
  unfold decL
  split
  · exact singles_len _
  · split
    · exact dblL_len _ (fun a b => (uLE_range a b).2) _ _ (Nat.le_refl _)
    · split
      · exact dblL_len _ (fun a b => (uBE_range a b).2) _ _ (Nat.le_refl _)
      · exact valL_len _ _
end Go.Proofs.YtpcncpegbboljaaGreatDoor.Pure
namespace Go.Proofs.YtpcncpegbboljaaGreatDoor.WordL
open Go.RowKit Go.Lib Go.Proofs.YtpcncpegbboljaaGreatDoor Go.Proofs.YtpcncpegbboljaaGreatDoor.Pure
set_option linter.unusedVariables false
set_option linter.unusedSimpArgs false
def white (c : UInt8) : Bool := [32, 9, 10, 13].contains c
def begins (l : List UInt8) : Bool := hasPrefix l [61, 63]
def oneL (l : List UInt8) : List UInt8 × Nat :=
  if begins l = true ∧ (cutL 63 (l.drop 2)).2.2 = true ∧ (cutL 63 (cutL 63 (l.drop 2)).2.1).2.2 = true ∧ (cutL 63 (cutL 63 (cutL 63 (l.drop 2)).2.1).2.1).2.2 = true
      ∧ hasPrefix (cutL 63 (cutL 63 (cutL 63 (l.drop 2)).2.1).2.1).2.1 [61] = true ∧ 1 ≤ (cutL 63 (l.drop 2)).1.length ∧ (cutL 63 (l.drop 2)).1.length ≤ 40
      ∧ ((cutL 63 (l.drop 2)).1 ++ (cutL 63 (cutL 63 (l.drop 2)).2.1).1 ++ (cutL 63 (cutL 63 (cutL 63 (l.drop 2)).2.1).2.1).1).any white = false
      ∧ (knownL (labelL ⟨(cutL 42 (cutL 63 (l.drop 2)).1).1.toArray⟩)).2 = true then
    if (cutL 63 (cutL 63 (l.drop 2)).2.1).1 = [66] ∨ (cutL 63 (cutL 63 (l.drop 2)).2.1).1 = [98] then
      (decL (knownL (labelL ⟨(cutL 42 (cutL 63 (l.drop 2)).1).1.toArray⟩)).1 (B64.b64DecL (cutL 63 (cutL 63 (cutL 63 (l.drop 2)).2.1).2.1).1), l.length - ((cutL 63 (cutL 63 (cutL 63 (l.drop 2)).2.1).2.1).2.1.length - 1))
    else if (cutL 63 (cutL 63 (l.drop 2)).2.1).1 = [81] ∨ (cutL 63 (cutL 63 (l.drop 2)).2.1).1 = [113] then
      (decL (knownL (labelL ⟨(cutL 42 (cutL 63 (l.drop 2)).1).1.toArray⟩)).1 (WordQ.quotedL (cutL 63 (cutL 63 (cutL 63 (l.drop 2)).2.1).2.1).1), l.length - ((cutL 63 (cutL 63 (cutL 63 (l.drop 2)).2.1).2.1).2.1.length - 1))
    else ([], 0)
  else ([], 0)
theorem one_none (l : List UInt8) (h : begins l = false) : oneL l = ([], 0) := by
  unfold oneL; rw [if_neg (by rw [h]; simp)]
theorem one_le (l : List UInt8) : (oneL l).2 ≤ l.length := by
  unfold oneL; split
  · split
    · exact Nat.sub_le _ _
    · split
      · exact Nat.sub_le _ _
      · exact Nat.zero_le _
  · exact Nat.zero_le _
theorem begins_cons (a b : UInt8) (r : List UInt8) : begins (a :: b :: r) = (a == 61 && b == 63) := by
  simp only [begins, hasPrefix, List.isPrefixOf]
  rw [Bool.beq_comm (a := (61 : UInt8)), Bool.beq_comm (a := (63 : UInt8))]; simp
theorem begins_one (a : UInt8) : begins [a] = false := by simp [begins, hasPrefix, List.isPrefixOf]
def wordGo : Nat → List UInt8 → Bool → List UInt8 → List UInt8
  | 0, p, _, _ => vl p
  | n + 1, p, b, l =>
    match l with
    | [] => vl p
    | c :: r => if (oneL (c :: r)).2 = 0 then wordGo n (p ++ [c]) b r
      else (if (b && p.all white) = true then [] else vl p) ++ (oneL (c :: r)).1 ++ wordGo n [] true ((c :: r).drop (oneL (c :: r)).2)
theorem wordGo_more : ∀ (n : Nat) (p : List UInt8) (b : Bool) (l : List UInt8), l.length ≤ n → ∀ m, n ≤ m → wordGo m p b l = wordGo n p b l := by
  intro n
  induction n with
  | zero =>
    intro p b l h m _
    obtain rfl := List.eq_nil_of_length_eq_zero (by omega : l.length = 0)
    cases m <;> rfl
  | succ n ih =>
    intro p b l h m hm
    obtain ⟨m, rfl⟩ : ∃ k, m = k + 1 := ⟨m - 1, by omega⟩
    match l with
    | [] => rfl
    | c :: r =>
      simp only [List.length_cons] at h
      simp only [wordGo]
      by_cases h0 : (oneL (c :: r)).2 = 0
      · rw [if_pos h0, if_pos h0, ih _ _ _ (by omega) m (by omega)]
      · rw [if_neg h0, if_neg h0, ih _ _ _ (by simp only [List.length_drop, List.length_cons]; omega) m (by omega)]
def wordF (p : List UInt8) (b : Bool) (l : List UInt8) : List UInt8 := wordGo l.length p b l
def wordL (l : List UInt8) : List UInt8 := wordF [] false l
theorem wordF_nil (p : List UInt8) (b : Bool) : wordF p b [] = vl p := rfl
theorem wordF_no (p : List UInt8) (b : Bool) (c : UInt8) (r : List UInt8) (h : (oneL (c :: r)).2 = 0) : wordF p b (c :: r) = wordF (p ++ [c]) b r := by
  simp only [wordF, List.length_cons, wordGo]; rw [if_pos h]
theorem wordF_yes (p : List UInt8) (b : Bool) (l : List UInt8) (h : ¬ (oneL l).2 = 0) :
    wordF p b l = (if (b && p.all white) = true then [] else vl p) ++ (oneL l).1 ++ wordF [] true (l.drop (oneL l).2) := by
  match l with
  | [] => exact absurd (by have := one_le []; simpa using this) h
  | c :: r =>
    simp only [wordF, List.length_cons, wordGo]
    rw [if_neg h, wordGo_more ((c :: r).drop (oneL (c :: r)).2).length _ _ _ (Nat.le_refl _) r.length (by simp only [List.length_drop, List.length_cons]; omega)]
theorem wordF_skip : ∀ (i : Nat) (p : List UInt8) (b : Bool) (l : List UInt8), i ≤ l.length → (∀ j, j < i → begins (l.drop j) = false) → wordF p b l = wordF (p ++ l.take i) b (l.drop i)
  | 0, p, b, l, _, _ => by simp
  | i + 1, p, b, [], h, _ => by simp at h
  | i + 1, p, b, c :: r, h, hn => by
    rw [wordF_no p b c r (by rw [one_none _ (by simpa using hn 0 (by omega))])]
    rw [wordF_skip i (p ++ [c]) b r (by simp only [List.length_cons] at h; omega) (fun j hj => by have := hn (j + 1) (by omega); simpa using this)]
    simp
theorem wordF_plain (p : List UInt8) (b : Bool) (l : List UInt8) (h : ∀ j, j < l.length → begins (l.drop j) = false) : wordF p b l = vl (p ++ l) := by
  rw [wordF_skip l.length p b l (Nat.le_refl _) h]; simp [wordF_nil]
theorem index_begins : ∀ l : List UInt8, (∀ i : Nat, index l [61, 63] = (i : Int) → i < l.length ∧ begins (l.drop i) = true ∧ ∀ j, j < i → begins (l.drop j) = false) ∧ (index l [61, 63] < 0 → ∀ j, j < l.length → begins (l.drop j) = false)
  | [] => by
    constructor
    · intro i h
      have e : index [] [61, 63] = -1 := by decide
      rw [e] at h; omega
    · intro _ j hj; simp at hj
  | c :: r => by
    obtain ⟨h1, h2⟩ := index_begins r
    by_cases hb : begins (c :: r) = true
    · have e : index (c :: r) [61, 63] = 0 := by
        have : [61, 63].isPrefixOf (c :: r) = true := hb
        simp only [index, this, if_true]
      refine ⟨fun i hi => ?_, fun h => by omega⟩
      obtain rfl : i = 0 := by omega
      exact ⟨by simp, by simpa using hb, fun j hj => by omega⟩
    · have hb2 : [61, 63].isPrefixOf (c :: r) = false := Bool.eq_false_iff.2 hb
      have hb3 : begins (c :: r) = false := hb2
      by_cases hr : index r [61, 63] = -1
      · have e : index (c :: r) [61, 63] = -1 := by
          simp only [index, hb2, hr]; simp
        refine ⟨fun i hi => by omega, fun _ j hj => ?_⟩
        cases j with
        | zero => simpa using hb3
        | succ j => simpa using h2 (by omega) j (by simp only [List.length_cons] at hj; omega)
      · have e : index (c :: r) [61, 63] = index r [61, 63] + 1 := by
          simp only [index, hb2]; simp [hr]
        have hge : -1 ≤ index r [61, 63] := index_ge _ _
        refine ⟨fun i hi => ?_, fun h => by omega⟩
        obtain ⟨k, rfl⟩ : ∃ k, i = k + 1 := ⟨i - 1, by omega⟩
        obtain ⟨a1, a2, a3⟩ := h1 k (by omega)
        refine ⟨by simp only [List.length_cons]; omega, by simpa using a2, fun j hj => ?_⟩
        cases j with
        | zero => simpa using hb3
        | succ j => simpa using a3 j (by omega)
def okC (c : UInt8) : Bool := decide (32 ≤ c.toNat ∧ c.toNat ≤ 126)
def plainE (l : List UInt8) : Bool := decide (index l [61, 63] < 0) && l.all okC
def chunk : Nat → List UInt8 → Nat → Nat
  | 0, _, n => n
  | f + 1, l, n => if l = [] then n else if 30 < n + (uDec l).2 then n else chunk f (l.drop (uDec l).2) (n + (uDec l).2)
theorem chunk_more : ∀ (f : Nat) (l : List UInt8) (n : Nat), l.length ≤ f → ∀ g, f ≤ g → chunk g l n = chunk f l n := by
  intro f
  induction f with
  | zero =>
    intro l n h g _
    obtain rfl := List.eq_nil_of_length_eq_zero (by omega : l.length = 0)
    cases g <;> simp [chunk]
  | succ f ih =>
    intro l n h g hg
    obtain ⟨g, rfl⟩ : ∃ k, g = k + 1 := ⟨g - 1, by omega⟩
    simp only [chunk]
    by_cases h0 : l = []
    · rw [if_pos h0, if_pos h0]
    · rw [if_neg h0, if_neg h0]
      have := dec_width l h0
      rw [ih _ _ (by rw [List.length_drop]; omega) g (by omega)]
theorem chunk_bd : ∀ (f : Nat) (l : List UInt8) (n : Nat), n ≤ chunk f l n ∧ chunk f l n ≤ n + l.length
  | 0, l, n => by simp [chunk]
  | f + 1, l, n => by
    simp only [chunk]
    split
    · omega
    · rename_i h0
      split
      · omega
      · have := dec_width l h0
        have ih := chunk_bd f (l.drop (uDec l).2) (n + (uDec l).2)
        rw [List.length_drop] at ih
        omega
theorem width4 (l : List UInt8) (h : l ≠ []) : (uDec l).2 ≤ 4 := by
  rcases dec_cases l h with ⟨_, h, _⟩ | ⟨_, _, h, _⟩
  · rw [h]; decide
  · exact h
theorem chunk_pos (f : Nat) (l : List UInt8) (h : l ≠ []) (hf : l.length ≤ f) : 1 ≤ chunk f l 0 := by
  obtain ⟨g, rfl⟩ : ∃ k, f = k + 1 := ⟨f - 1, by have := List.length_pos_iff.2 h; omega⟩
  have := width4 l h
  have hw := dec_width l h
  simp only [chunk]
  rw [if_neg h, if_neg (by omega)]
  have := (chunk_bd g (l.drop (uDec l).2) (0 + (uDec l).2)).1
  omega
def chunks : Nat → List UInt8 → List (List UInt8)
  | 0, _ => []
  | f + 1, l => if l = [] then [] else l.take (chunk l.length l 0) :: chunks f (l.drop (chunk l.length l 0))
theorem chunks_more : ∀ (f : Nat) (l : List UInt8), l.length ≤ f → ∀ g, f ≤ g → chunks g l = chunks f l := by
  intro f
  induction f with
  | zero =>
    intro l h g _
    obtain rfl := List.eq_nil_of_length_eq_zero (by omega : l.length = 0)
    cases g <;> simp [chunks]
  | succ f ih =>
    intro l h g hg
    obtain ⟨g, rfl⟩ : ∃ k, g = k + 1 := ⟨g - 1, by omega⟩
    simp only [chunks]
    by_cases h0 : l = []
    · rw [if_pos h0, if_pos h0]
    · rw [if_neg h0, if_neg h0]
      have := chunk_pos l.length l h0 (Nat.le_refl _)
      rw [ih _ (by rw [List.length_drop]; omega) g (by omega)]
def wordOf (x : List UInt8) : List UInt8 := [61, 63, 117, 116, 102, 45, 56, 63, 66, 63] ++ B64.b64EncL x ++ [63, 61]
def wordsL (l : List UInt8) : List (List UInt8) := (chunks l.length l).map wordOf
def encL (l : List UInt8) : List UInt8 := if plainE l = true then l else [32].intercalate (wordsL (vl l))
theorem chunk_Val : ∀ (f : Nat) (v : List UInt8) (n : Nat), Val v → v.length ≤ f → ∃ a b, v = a ++ b ∧ Val a ∧ Val b ∧ chunk f v n = n + a.length ∧ (n + a.length ≤ 30 ∨ a = []) := by
  intro f
  induction f with
  | zero =>
    intro v n hv h
    obtain rfl := List.eq_nil_of_length_eq_zero (by omega : v.length = 0)
    exact ⟨[], [], rfl, Val.nil, Val.nil, by simp [chunk], .inr rfl⟩
  | succ f ih =>
    intro v n hv h
    obtain ⟨rs, rfl⟩ := hv
    match rs with
    | [] => exact ⟨[], [], rfl, Val.nil, Val.nil, by simp [chunk], .inr rfl⟩
    | r :: rs =>
      rw [List.flatMap_cons] at h ⊢
      have hd := dec_enc r (rs.flatMap Lib.encodeRune)
      have hne : Lib.encodeRune r ++ rs.flatMap Lib.encodeRune ≠ [] := by
        intro e; exact enc_ne r (List.append_eq_nil_iff.1 e).1
      have hl := enc_len r
      rw [List.length_append] at h
      simp only [chunk]
      rw [if_neg hne, hd]
      simp only
      by_cases h30 : 30 < n + (Lib.encodeRune r).length
      · rw [if_pos h30]
        exact ⟨[], _, rfl, Val.nil, (Val.enc r).append ⟨rs, rfl⟩, by simp, .inr rfl⟩
      · rw [if_neg h30]
        obtain ⟨a, b, e1, e2, e3, e4, e5⟩ := ih (rs.flatMap Lib.encodeRune) (n + (Lib.encodeRune r).length) ⟨rs, rfl⟩ (by omega)
        refine ⟨Lib.encodeRune r ++ a, b, by rw [e1, List.append_assoc], (Val.enc r).append e2, e3, ?_, .inl ?_⟩
        · rw [List.drop_left, e4, List.length_append]; omega
        · rw [List.length_append]
          rcases e5 with e5 | e5
          · omega
          · rw [e5, List.length_nil]; omega
theorem chunks_Val : ∀ (f : Nat) (v : List UInt8), Val v → v.length ≤ f → (chunks f v).flatten = v ∧ ∀ x ∈ chunks f v, Val x ∧ x.length ≤ 30 := by
  intro f
  induction f with
  | zero =>
    intro v hv h
    obtain rfl := List.eq_nil_of_length_eq_zero (by omega : v.length = 0)
    exact ⟨rfl, by simp [chunks]⟩
  | succ f ih =>
    intro v hv h
    simp only [chunks]
    by_cases h0 : v = []
    · subst h0; exact ⟨rfl, by simp⟩
    · rw [if_neg h0]
      obtain ⟨a, b, e1, e2, e3, e4, e5⟩ := chunk_Val v.length v 0 hv (Nat.le_refl _)
      have hp := chunk_pos v.length v h0 (Nat.le_refl _)
      rw [e4, Nat.zero_add] at hp ⊢
      have ha : a.length ≤ 30 := by
        rcases e5 with e5 | e5
        · omega
        · rw [e5]; decide
      subst e1
      rw [List.take_left, List.drop_left]
      rw [List.length_append] at h
      obtain ⟨h1, h2⟩ := ih b e3 (by omega)
      refine ⟨by rw [List.flatten_cons, h1], fun x hx => ?_⟩
      rcases List.mem_cons.1 hx with rfl | hx
      · exact ⟨e2, ha⟩
      · exact h2 x hx
theorem cut_at (c : UInt8) (a r : List UInt8) (h : c ∉ a) : cutL c (a ++ c :: r) = (a, r, true) := by
  unfold cutL
  rw [if_pos (by simp)]
  have ht : (a ++ c :: r).takeWhile (· != c) = a := by
    rw [List.takeWhile_append_of_pos (fun x hx => by simp only [bne_iff_ne]; rintro rfl; exact h hx)]
    simp
  have hd : (a ++ c :: r).dropWhile (· != c) = c :: r := by
    rw [List.dropWhile_append_of_pos (fun x hx => by simp only [bne_iff_ne]; rintro rfl; exact h hx)]
    simp
  rw [ht, hd]; rfl
theorem wordOf_len (x : List UInt8) : (wordOf x).length = 12 + (B64.b64EncL x).length := by
  unfold wordOf; simp only [List.length_append, List.length_cons, List.length_nil]; omega
theorem inter_cons (w v : List UInt8) (r : List (List UInt8)) : [32].intercalate (w :: v :: r) = w ++ 32 :: [32].intercalate (v :: r) := by
  simp [List.intercalate]
theorem inter_one (w : List UInt8) : [32].intercalate [w] = w := by simp [List.intercalate]
theorem inter_nil : [32].intercalate ([] : List (List UInt8)) = [] := by simp [List.intercalate]
theorem vl_ne (l : List UInt8) (h : l ≠ []) : vl l ≠ [] := by
  intro e
  have hp := List.length_pos_iff.2 h
  unfold vl at e
  obtain ⟨n, hn⟩ : ∃ n, l.length = n + 1 := ⟨l.length - 1, by omega⟩
  rw [hn] at e
  simp only [valL, if_neg h] at e
  exact enc_ne _ (List.append_eq_nil_iff.1 e).1
theorem plainE_not {l : List UInt8} (h : ¬ plainE l = true) : l ≠ [] := by
  rintro rfl
  exact h (by decide)
end Go.Proofs.YtpcncpegbboljaaGreatDoor.WordL
namespace Go.Proofs.YtpcncpegbboljaaGreatDoor.WordQ
open Go.RowKit Go.Lib Go.Proofs.YtpcncpegbboljaaGreatDoor Go.Proofs.YtpcncpegbboljaaGreatDoor.Pure
set_option linter.unusedVariables false
set_option linter.unusedSimpArgs false
theorem drop1 (t : ByteArray) : (t.extract 1 t.size).data.toList = t.data.toList.drop 1 := by
  rw [extract_list, List.take_of_length_le (by simp)]
set_option maxRecDepth 100000 in
set_option maxHeartbeats 8000000 in
theorem quoted_c (s : ByteArray) (hs : s.size ≤ 1100000) (w : World) :
    Calls Tryz.prog 99 #[.string s] w fun e w' => e = .returned (.string ⟨(quotedL s.data.toList).toArray⟩) ∧ Below w.heap.size w w' := by
  have WB : ∀ (acc : List UInt8) (x : UInt8) (W : World), IsBuilderF 48 5 w.heap.size w.heap.size (byteCells acc) W → acc.length ≤ 2200000 → w.heap.size ≤ W.heap.size →
      Calls Tryz.prog 67 #[.pointer (some ⟨w.heap.size, 0, none⟩), .int .u8 (x.toNat : Int)] W fun e w' => e = .returned .nilIface ∧ (IsBuilderF 48 5 w.heap.size w.heap.size (byteCells (acc ++ [x])) w' ∧ Below w.heap.size W w') := by
    intro acc x W h h1 h2
    refine (Bld.WriteByte_k _ _ _ (x.toNat : Int) W h (by simp [byteCells]; omega) h2).mono ?_
    rintro e w' ⟨rfl, k1, k2, _⟩
    exact ⟨rfl, by simpa [byteCells] using k1, k2⟩
  have HWB := Lib.hid WB
  clear WB
  go_enter Tryz.func99, Tryz.ntmps99
  go_wp2
  go_loopw [0] (fun v wr => ∃ (t : ByteArray) (acc : List UInt8), v = .string t ∧ t.size ≤ s.size ∧ acc ++ quotedL t.data.toList = quotedL s.data.toList ∧ acc.length + t.size ≤ s.size ∧ IsBuilderF 48 5 w.heap.size w.heap.size (byteCells acc) wr ∧ Below w.heap.size w wr) (fun v _ => match v with | .string t => t.size | _ => 0)
  case atStart => exact ⟨s, [], rfl, Nat.le_refl _, rfl, by simp, IsBuilderF.of (Lib.fresh_isBuilder 48 5 w), (Below.refl _ w).alloc (Nat.le_refl _) _⟩
  case round =>
    obtain ⟨t, acc, rfl, hts, he, hal, hI, hB⟩ := hrel
    have HI := Lib.hid hI; have HB := Lib.hid hB; have HE := Lib.hid he
    clear hI hB he
    have hlt : t.data.toList.length = t.size := by simp
    have HLT := Lib.hid hlt
    clear hlt
    by_cases ht : t.size = 0
    · have hnil : t.data.toList = [] := List.length_eq_zero_iff.1 (by rw [HLT.out]; exact ht)
      have htl : t.toList = [] := by rw [toList_eq]; exact hnil
      have he2 : acc = quotedL s.data.toList := by have := HE.out; rw [hnil] at this; simpa [quotedL] using this
      have HE2 := Lib.hid he2
      have hsz : w.heap.size ≤ wr.heap.size := HB.out.size
      clear he2 hnil
      go_wp2_with (go_at_call 36; refine (Tryz.Builder_String_any_k w.heap.size w.heap.size acc _ HI.out hsz).mono ?_; rintro e W1 ⟨rfl, _, b1, _⟩; have HB1 := Lib.hid b1; clear b1)
      go_ret
      exact ⟨by rw [← HE2.out]; rfl, HB.out.trans HB1.out⟩
    · have hne : ¬ t.toList = [] := by
        rw [toList_eq]; intro e; have := HLT.out; rw [e] at this; simp at this; omega
      have hem : t.toList.isEmpty = false := by cases h : t.toList with
        | nil => exact absurd h hne
        | cons x y => rfl
      have hsz : w.heap.size ≤ wr.heap.size := HB.out.size
      obtain ⟨c, r, hcr⟩ : ∃ c r, t.data.toList = c :: r := by
        cases h : t.data.toList with
        | nil => have := HLT.out; rw [h] at this; simp at this; omega
        | cons c r => exact ⟨c, r, rfl⟩
      have hr : (t.extract 1 t.size).data.toList = r := by rw [drop1, hcr]; rfl
      have hrz : (t.extract 1 t.size).size = t.size - 1 := by simp
      have hp0 : 0 < t.size := by omega
      have hp1 : 1 ≤ t.size := by omega
      have h0 : t[0] = c := by
        have h1 : t.data.toList[0]'(by rw [hcr]; simp) = c := by simp [hcr]
        exact h1
      have HCR := Lib.hid hcr; have HR := Lib.hid hr
      clear hcr hr
      have hc : c.toNat < 256 := UInt8.toNat_lt _
      by_cases h95 : c.toNat = 95
      · have hq : quotedL (c :: r) = 32 :: quotedL r := by
          have e : c = 95 := UInt8.toNat_inj.1 h95
          subst e
          match r with
          | [] => rfl
          | [d] => rfl
          | a :: b :: r' => simp only [quotedL]; rw [if_neg (by simp)]; rfl
        have HQ := Lib.hid hq
        clear hq
        go_wp2_with (go_at_call 67; refine (HWB.out acc 32 _ HI.out (by omega) HB.out.size).mono ?_; rintro e W1 ⟨rfl, k1, k2⟩; have HK1 := Lib.hid k1; have HK2 := Lib.hid k2; clear k1 k2)
        go_roundw
        case rel =>
          refine ⟨_, acc ++ [32], rfl, by omega, ?_, by rw [List.length_append, hrz]; simp; omega, HK1.out, HB.out.trans HK2.out⟩
          rw [← HE.out, HCR.out, HQ.out, HR.out]; simp
        case measure => simp only [hrz]; omega
      · have hc95 : ¬ c = 95 := fun e => h95 (by rw [e]; rfl)
        by_cases h61 : c.toNat = 61
        · obtain rfl : c = 61 := UInt8.toNat_inj.1 h61
          clear h61 hc h95
          have w61 : ∀ (W : World), IsBuilderF 48 5 w.heap.size w.heap.size (byteCells acc) W → w.heap.size ≤ W.heap.size → Calls Tryz.prog 67 #[.pointer (some ⟨w.heap.size, 0, none⟩), .int .u8 61] W fun e w' => e = .returned .nilIface ∧ (IsBuilderF 48 5 w.heap.size w.heap.size (byteCells (acc ++ [61])) w' ∧ Below w.heap.size W w') := fun W h1 h2 => HWB.out acc 61 W h1 (by omega) h2
          have W61 := Lib.hid w61
          clear w61
          obtain ⟨u, hu⟩ : ∃ u, t.extract 1 t.size = u := ⟨_, rfl⟩
          have hrl : r.length = u.size := by rw [← HR.out, hu]; simp
          have hts2 : t.size = u.size + 1 := by rw [← hu]; simp; omega
          have HRL := Lib.hid hrl; have HTS := Lib.hid hts2
          have hru : u.data.toList = r := by rw [← hu]; exact HR.out
          have HRU := Lib.hid hru
          clear hrl hts2 hru HR hrz
          by_cases hl2 : u.size ≤ 1
          · have hq : quotedL (61 :: r) = 61 :: quotedL r := by
              match r, HRL.out with
              | [], _ => simp [quotedL, hc95]
              | [d], _ => simp [quotedL, hc95]
              | a :: b :: r', h => simp only [List.length_cons] at h; omega
            have HQ := Lib.hid hq
            have hg : ¬ (1 : Int) < (u.size : Int) := by omega
            have hg2 : ¬ 1 < u.size := by omega
            clear hq
            go_wp2_with (go_at_call 67; refine (W61.out _ HI.out HB.out.size).mono ?_; rintro e W1 ⟨rfl, k1, k2⟩; have HK1 := Lib.hid k1; have HK2 := Lib.hid k2; clear k1 k2)
            go_roundw
            case rel =>
              have := HTS.out
              refine ⟨_, acc ++ [61], rfl, by omega, ?_, by rw [List.length_append]; simp; omega, HK1.out, HB.out.trans HK2.out⟩
              rw [← HE.out, HCR.out, HQ.out, HRU.out]; simp
            case measure => have := HTS.out; simp only; omega
          · obtain ⟨a, b, r', rfl⟩ : ∃ a b r', r = a :: b :: r' := by
              match r, HRL.out with
              | [], h => simp only [List.length_nil] at h; omega
              | [d], h => simp only [List.length_cons, List.length_nil] at h; omega
              | a :: b :: r', _ => exact ⟨a, b, r', rfl⟩
            have hg : (1 : Int) < (u.size : Int) := by omega
            have hg2 : 1 < u.size := by omega
            have hg3 : 0 < u.size := by omega
            have hg4 : 2 ≤ u.size := by omega
            have hg5 : (2 : Int) ≤ (u.size : Int) := by omega
            have hg6 : (0 : Int) < (u.size : Int) := by omega
            have u0 : u[0] = a := by
              have h1 : u.data.toList[0]'(by rw [HRU.out]; simp) = a := by simp [HRU.out]
              exact h1
            have u1 : u[1] = b := by
              have h1 : u.data.toList[1]'(by rw [HRU.out]; simp) = b := by simp [HRU.out]
              exact h1
            have UA := Lib.hid (upper_e a); have UB := Lib.hid (upper_e b)
            have IA := Lib.hid (index_digits a); have IB := Lib.hid (index_digits b)
            have hxa := hexW_r a; have hxb := hexW_r b
            have hqq : quotedL (61 :: a :: b :: r') = if 0 ≤ hexW a ∧ 0 ≤ hexW b then UInt8.ofNat (16 * (hexW a).toNat + (hexW b).toNat) :: quotedL r' else 61 :: quotedL (a :: b :: r') := by
              simp only [quotedL]
              by_cases hh : 0 ≤ hexW a ∧ 0 ≤ hexW b
              · rw [if_pos ⟨trivial, hh⟩, if_pos hh]
              · rw [if_neg (fun h => hh h.2), if_neg hh, if_neg hc95]
            have HQQ := Lib.hid hqq
            clear hqq
            generalize hexW a = xa at *
            generalize hexW b = xb at *
            go_upto_region 8 with fail
            go_quiet ((first
              | (go_at_call 124; first | ((with_reducible refine (UA.out _).mono ?_); rintro e W ⟨rfl, rfl⟩; exact ⟨rfl, _, rfl⟩) | ((with_reducible refine (UB.out _).mono ?_); rintro e W ⟨rfl, rfl⟩; exact ⟨rfl, _, rfl⟩))
              | (go_at_call 108; first | ((with_reducible refine (IA.out _).mono ?_); rintro e W ⟨rfl, rfl⟩; exact ⟨rfl, _, rfl⟩) | ((with_reducible refine (IB.out _).mono ?_); rintro e W ⟨rfl, rfl⟩; exact ⟨rfl, _, rfl⟩))))
            rename_i nq
            have hI4 := IsBuilderF.below (W' := wr.drewN nq) HI.out (bdrewN (Below.refl _ _) nq)
            have hB4 : Below w.heap.size w (wr.drewN nq) := bdrewN HB.out nq
            have hS4 : w.heap.size ≤ (wr.drewN nq).heap.size := hB4.size
            generalize wr.drewN nq = W0 at *
            have HI4 := Lib.hid hI4; have HB4 := Lib.hid hB4
            clear hI4 hB4
            have key : ¬ (0 ≤ xa ∧ 0 ≤ xb) → acc ++ [61] ++ quotedL u.data.toList = quotedL s.data.toList := by
              intro hn
              rw [← HE.out, HCR.out, HQQ.out, if_neg hn, HRU.out]; simp
            have KEY := Lib.hid key
            clear key
            rcases hxa with rfl | ⟨hxa0, hxa1⟩
            · go_wp2_with (go_at_call 67; refine (W61.out _ HI4.out HB4.out.size).mono ?_; rintro e W1 ⟨rfl, k1, k2⟩; have HK1 := Lib.hid k1; have HK2 := Lib.hid k2; clear k1 k2)
              go_roundw
              case rel =>
                have := HTS.out
                exact ⟨_, acc ++ [61], rfl, by omega, KEY.out (by omega), by rw [List.length_append]; simp; omega, HK1.out, HB4.out.trans HK2.out⟩
              case measure => have := HTS.out; simp only; omega
            · rcases hxb with rfl | ⟨hxb0, hxb1⟩
              · go_wp2_with (go_at_call 67; refine (W61.out _ HI4.out HB4.out.size).mono ?_; rintro e W1 ⟨rfl, k1, k2⟩; have HK1 := Lib.hid k1; have HK2 := Lib.hid k2; clear k1 k2)
                go_roundw
                case rel =>
                  have := HTS.out
                  exact ⟨_, acc ++ [61], rfl, by omega, KEY.out (by omega), by rw [List.length_append]; simp; omega, HK1.out, HB4.out.trans HK2.out⟩
                case measure => have := HTS.out; simp only; omega
              · obtain ⟨p, rfl⟩ : ∃ p : Nat, xa = (p : Int) := ⟨xa.toNat, by omega⟩
                obtain ⟨q, rfl⟩ : ∃ q : Nat, xb = (q : Int) := ⟨xb.toNat, by omega⟩
                have hor : bits .or .i64 (wrap64 ((p : Int) * 16)) (q : Int) = ((16 * p + q : Nat) : Int) := hex_or ⟨p, by omega⟩ ⟨q, by omega⟩
                have hpq : ((16 * p + q : Nat) : Int) < 256 := by omega
                have hpq0 : (0 : Int) ≤ ((16 * p + q : Nat) : Int) := by omega
                obtain ⟨x, hx⟩ : ∃ x : UInt8, x.toNat = 16 * p + q := ⟨UInt8.ofNat (16 * p + q), by rw [UInt8.toNat_ofNat']; omega⟩
                have hqe : acc ++ [x] ++ quotedL r' = quotedL s.data.toList := by
                  have e : UInt8.ofNat (16 * ((p : Int)).toNat + ((q : Int)).toNat) = x := by
                    apply UInt8.toNat_inj.1
                    rw [hx, UInt8.toNat_ofNat']; simp only [Int.toNat_natCast]; omega
                  rw [← HE.out, HCR.out, HQQ.out, if_pos ⟨hxa0, hxb0⟩, e]; simp
                have HQE := Lib.hid hqe
                clear hqe
                have HC : Hid (bits .or .i64 ((p : Int) * 16) (q : Int) % 256 = (x.toNat : Int)) := Lib.hid (by rw [show ((p : Int) * 16) = wrap64 ((p : Int) * 16) by unfold wrap64; omega, hor, hx]; omega)
                clear hor hpq hpq0
                have HX := Lib.hid hx
                clear hx
                go_upto_region 10 with fail
                go_quiet (fail)
                have hdr : (u.extract 2 u.size).data.toList = r' := by
                  rw [extract_list, List.take_of_length_le (by simp), HRU.out]; rfl
                have hdz : (u.extract 2 u.size).size = u.size - 2 := by simp
                go_wp2_with fail
                rw [HC.out]
                refine (HWB.out acc x _ (IsBuilderF.below HI4.out (bdrewN (Below.refl _ _) nq)) (by omega) HB4.out.size).mono ?_
                rintro e W1 ⟨rfl, k1, k2⟩
                have HK1 := Lib.hid k1; have HK2 := Lib.hid k2
                clear k1 k2
                go_wp2_with fail
                go_roundw
                case rel =>
                  have := HTS.out
                  exact ⟨_, acc ++ [x], rfl, by omega, by rw [hdr]; exact HQE.out, by rw [List.length_append, hdz]; simp; omega, HK1.out, HB4.out.trans (bdrewN (Below.refl _ _) nq |>.trans HK2.out)⟩
                case measure => have := HTS.out; simp only; omega
        · have hq : quotedL (c :: r) = c :: quotedL r := by
            have e : ¬ c = 61 := fun e => h61 (by rw [e]; rfl)
            match r with
            | [] => simp [quotedL, hc95]
            | [d] => simp [quotedL, hc95]
            | a :: b :: r' => simp only [quotedL]; rw [if_neg (fun h => e h.1), if_neg hc95]
          have HQ := Lib.hid hq
          clear hq
          go_wp2_with (go_at_call 67; refine (HWB.out acc c _ HI.out (by omega) HB.out.size).mono ?_; rintro e W1 ⟨rfl, k1, k2⟩; have HK1 := Lib.hid k1; have HK2 := Lib.hid k2; clear k1 k2)
          go_roundw
          case rel =>
            refine ⟨_, acc ++ [c], rfl, by omega, ?_, by rw [List.length_append, hrz]; simp; omega, HK1.out, HB.out.trans HK2.out⟩
            rw [← HE.out, HCR.out, HQ.out, HR.out]; simp
          case measure => simp only [hrz]; omega
end Go.Proofs.YtpcncpegbboljaaGreatDoor.WordQ
