/- Parts of the proof of the law WordDecodes, in one text: Pure05f, Pure05g, Laid05. -/
import Derived.Test.YtokkgjiofhhlkaaDoorMgWordDecodes13
import Derived.Test.YtokkgjiofhhlkaaDoorRows
import Derived.Lay
import Derived.PinnedBridge
import Derived.Lib.LaidU8
import Derived.Stop.LaidErr
import Derived.LaidMore
import Derived.ProofKit
import Derived.HandedShaped
import Derived.Handed
namespace Go.Proofs.YtokkgjiofhhlkaaDoor.Pure
open Go.RowKit Go.Lib Go.Proofs.YtokkgjiofhhlkaaDoor Go.Proofs.YtokkgjiofhhlkaaDoor.P Go.Proofs.YtokkgjiofhhlkaaDoor.WordL Go.Proofs.YtokkgjiofhhlkaaDoorW.PrintWords Go.Proofs.YtokkgjiofhhlkaaDoorW.PrintLast Go.Proofs.YtokkgjiofhhlkaaDoorW.PrintMore
theorem noneEv {f : Nat → Option (ByteArray × Int)} {L : List UInt8} (h : oneL L = ([], 0)) (k : Ev f ((⟨#[]⟩ : ByteArray), 0)) : Ev f (⟨(oneL L).1.toArray⟩, ((oneL L).2 : Int)) := by rw [h]; exact k
theorem j0_true (s : ByteArray) : Ev (fun k => muslinref05_One.j0 k s true) ((⟨#[]⟩ : ByteArray), (0 : Int)) := by
  refine Ev.round (fun k => by rw [muslinref05_One.j0]) ?_
  refine Ev.pos rfl ?_
  exact Ev.now _
theorem j1_true (s : ByteArray) (a : Int) : Ev (fun k => muslinref05_One.j1 k s a true) ((⟨#[]⟩ : ByteArray), (0 : Int)) := by
  refine Ev.round (fun k => by rw [muslinref05_One.j1]) ?_
  refine Ev.pos rfl ?_
  exact Ev.now _
theorem j3_true (s : ByteArray) (a : Int) (x : ByteArray) (b : Int) : Ev (fun k => muslinref05_One.j3 k s a x b true) ((⟨#[]⟩ : ByteArray), (0 : Int)) := by
  refine Ev.round (fun k => by rw [muslinref05_One.j3]) ?_
  refine Ev.pos rfl ?_
  exact Ev.now _
theorem j4_true (s : ByteArray) (a : Int) (x : ByteArray) (b c : Int) : Ev (fun k => muslinref05_One.j4 k s a x b c true) ((⟨#[]⟩ : ByteArray), (0 : Int)) := by
  refine Ev.round (fun k => by rw [muslinref05_One.j4]) ?_
  refine Ev.pos rfl ?_
  exact Ev.now _
theorem star_loop (s : ByteArray) (a : Int) {R : ByteArray × Int} : ∀ (n i : Nat) (x : ByteArray), x.size - i ≤ n → x.size ≤ 1000 → i ≤ x.size + 1 → (∀ c ∈ x.data.toList.take i, c ≠ 42) →
    Ev (fun k => (muslinref04_Known.f ⟨(cutL 42 x.data.toList).1.toArray⟩).bind fun bt127 => ((muslinref05_until.f k s (wrap64 (a + 1))).bind fun t129 => (if bt127.2 = true then (muslinref05_One.j3 k s a ⟨(cutL 42 x.data.toList).1.toArray⟩ t129 (t129 != (wrap64 (a + 2)))) else (muslinref05_One.j3 k s a ⟨(cutL 42 x.data.toList).1.toArray⟩ t129 true)))) R →
    Ev (fun k => muslinref05_One.l0 k s a x (i : Int)) R := by
  have fin : ∀ (x : ByteArray) (i : Nat), x.size ≤ i → (∀ c ∈ x.data.toList, c ≠ 42) →
      Ev (fun k => (muslinref04_Known.f ⟨(cutL 42 x.data.toList).1.toArray⟩).bind fun bt127 => ((muslinref05_until.f k s (wrap64 (a + 1))).bind fun t129 => (if bt127.2 = true then (muslinref05_One.j3 k s a ⟨(cutL 42 x.data.toList).1.toArray⟩ t129 (t129 != (wrap64 (a + 2)))) else (muslinref05_One.j3 k s a ⟨(cutL 42 x.data.toList).1.toArray⟩ t129 true)))) R →
      Ev (fun k => muslinref05_One.l0 k s a x (i : Int)) R := by
    intro x i hi hn h
    have e : (⟨(cutL 42 x.data.toList).1.toArray⟩ : ByteArray) = x := by
      unfold cutL
      rw [if_neg (fun hm => hn 42 hm rfl)]
    rw [e] at h
    refine Ev.round (fun k => by rw [muslinref05_One.l0]) ?_
    refine Ev.neg (by omega) ?_
    exact h
  intro n
  induction n with
  | zero =>
    intro i x h1 h2 h3 h4 h
    refine fin x i (by omega) (fun c hc => ?_) h
    exact h4 c (by rw [List.take_of_length_le (by rw [sizeL]; omega)]; exact hc)
  | succ n ih =>
    intro i x h1 h2 h3 h4 h
    cases hd : x.data.toList.drop i with
    | nil =>
      have := at_end hd
      refine fin x i this (fun c hc => ?_) h
      exact h4 c (by rw [List.take_of_length_le (by rw [sizeL]; omega)]; exact hc)
    | cons c r =>
      obtain ⟨hb, hlt, hr⟩ := at_drop hd
      have hw : wrap64 ((i : Int) + 1) = ((i + 1 : Nat) : Int) := (w64 (by omega) (by omega)).trans (by omega)
      refine Ev.round (fun k => by rw [muslinref05_One.l0]) ?_
      refine Ev.pos (by omega) ?_
      refine Ev.pos (by omega) ?_
      rw [hb, hw]
      clear hw
      by_cases h42 : c = 42
      · subst h42
        refine Ev.pos rfl ?_
        refine Ev.pos (by omega) ?_
        rw [Int.toNat_natCast]
        have hx : x.data.toList = x.data.toList.take i ++ 42 :: r := by rw [← hd, List.take_append_drop]
        have hcut : (cutL 42 x.data.toList).1 = x.data.toList.take i := by
          rw [hx, cut_at 42 _ r (fun hm => h4 42 hm rfl), ← hx]
        have hex : x.extract 0 i = ⟨(x.data.toList.take i).toArray⟩ := by
          apply ba_ext; rw [extract_list]; rfl
        have hexs : (x.extract 0 i).size = i := by simp; omega
        rw [hcut, ← hex] at h
        have hc2 : (⟨(cutL 42 (x.extract 0 i).data.toList).1.toArray⟩ : ByteArray) = x.extract 0 i := by
          unfold cutL
          rw [if_neg (by rw [hex]; exact fun hm => h4 42 hm rfl)]
        refine fin (x.extract 0 i) (i + 1) (by omega) (by rw [hex]; exact h4) ?_
        rw [hc2]; exact h
      · have h42n : ¬ (c.toNat : Int) = 42 := by intro hh; exact h42 (UInt8.toNat_inj.1 (by show c.toNat = 42; omega))
        refine Ev.neg h42n ?_
        refine ih (i + 1) x (by omega) h2 (by omega) (fun y hy => ?_) h
        have hi : i < x.data.toList.length := by rw [sizeL]; exact hlt
        rw [List.take_succ_eq_append_getElem hi] at hy
        rcases List.mem_append.1 hy with hy | hy
        · exact h4 y hy
        · have e : x.data.toList[i] = c := by
            have := List.drop_eq_getElem_cons hi
            rw [hd] at this
            injection this with h5 h6
            exact h5.symm
          rw [List.mem_singleton.1 hy, e]; exact h42
theorem until_got (s : ByteArray) (hs : s.size ≤ 1000000) (i : Nat) (hi : i ≤ 10000000) : Ev (fun k => muslinref05_until.f k s (i : Int)) (if untilF (s.data.toList.drop i) < 0 then -1 else (i : Int) + untilF (s.data.toList.drop i)) := by
  unfold muslinref05_until.f
  exact until_is s hs _ i (Nat.le_refl _) hi
theorem extract_mk (s : ByteArray) (a b : Nat) : (s.extract a b).data.toList = (s.data.toList.drop a).take (b - a) := by
  rw [extract_list, List.drop_take]
set_option maxHeartbeats 1000000 in
theorem refOne_is (s : ByteArray) (hs : s.size ≤ 2000) : Ev (fun k => muslinref05_One.f k s) (⟨(oneL s.data.toList).1.toArray⟩, ((oneL s.data.toList).2 : Int)) := by
  have hl : s.data.toList.length = s.size := sizeL s
  unfold muslinref05_One.f
  by_cases hb : begins s.data.toList = true
  · obtain ⟨y, hy⟩ := begins_split hb
    have hz : s.size = y.length + 2 := by rw [← hl, hy]; rfl
    have hd2 : s.data.toList.drop 2 = y := by rw [hy]; rfl
    refine Ev.neg (by omega) ?_
    refine Ev.pos (by omega) ?_
    refine Ev.pos (by omega) ?_
    have he : ((s.extract 0 2).toList != ([61, 63] : List UInt8)) = false := by
      rw [toList_eq, extract_list, hy]; rfl
    rw [he]
    refine Ev.round (fun k => by rw [muslinref05_One.j0]) ?_
    refine Ev.neg Bool.false_ne_true ?_
    have hu2 := until_got s (by omega) 2 (by omega)
    rw [show ((2 : Nat) : Int) = 2 from rfl] at hu2
    refine Ev.bind hu2 ?_
    clear hu2
    rw [hd2]
    obtain ⟨u1, u2⟩ := untilF_cut y
    have hge := untilF_ge y
    by_cases hn1 : untilF y < 0
    · rw [if_pos hn1]
      refine Ev.pos (by omega) ?_
      refine noneEv ?_ (j1_true s _)
      unfold oneL
      rw [hd2]
      refine if_neg ?_
      rintro ⟨c1, c2, c3, c4, c5, c6, c7, c8, c9⟩
      rw [List.any_append, List.any_append] at c8
      simp only [Bool.or_eq_false_iff] at c8
      exact u2 hn1 ⟨c2, c8.1.1⟩
    · obtain ⟨n1, hn⟩ : ∃ n : Nat, untilF y = (n : Int) := ⟨(untilF y).toNat, by omega⟩
      obtain ⟨v1, v2, v3⟩ := u1 n1 hn
      rw [if_neg hn1, hn]
      by_cases ha : 1 ≤ n1 ∧ n1 ≤ 40
      · refine Ev.neg (by omega) ?_
        rw [decide_eq_false (by omega)]
        refine Ev.round (fun k => by rw [muslinref05_One.j1]) ?_
        refine Ev.neg Bool.false_ne_true ?_
        refine Ev.pos (by omega) ?_
        refine Ev.pos (by omega) ?_
        have hnm : (s.extract 2 ((2 : Int) + (n1 : Int)).toNat).data.toList = y.take n1 := by
          rw [show ((2 : Int) + (n1 : Int)).toNat = 2 + n1 by omega, extract_mk, hd2, show 2 + n1 - 2 = n1 by omega]
        have hnz : (s.extract 2 ((2 : Int) + (n1 : Int)).toNat).size = n1 := by rw [← sizeL, hnm, List.length_take]; omega
        generalize s.extract 2 ((2 : Int) + (n1 : Int)).toNat = X at *
        refine star_loop s _ X.size 0 X (by omega) (by omega) (by omega) (by simp) ?_
        rw [hnm]
        have hk : (⟨(cutL 42 (y.take n1)).1.toArray⟩ : ByteArray).size ≤ 5000 := by
          rw [mk_size]; have := (cut_len 42 (y.take n1)).1; rw [List.length_take] at this; omega
        have hr1 : s.data.toList.drop (3 + n1) = y.drop (n1 + 1) := by
          rw [hy, show 3 + n1 = n1 + 1 + 1 + 1 by omega]; rfl
        generalize hNM : (⟨(cutL 42 (y.take n1)).1.toArray⟩ : ByteArray) = NM at *
        refine Ev.got (x := muslinref04_Known.f NM) (guard_of hk) ?_
        have w1 : wrap64 ((2 : Int) + (n1 : Int) + 1) = ((3 + n1 : Nat) : Int) := (w64 (by omega) (by omega)).trans (by omega)
        have w2 : wrap64 ((2 : Int) + (n1 : Int) + 2) = ((4 + n1 : Nat) : Int) := (w64 (by omega) (by omega)).trans (by omega)
        have HW1 := Lib.hid w1; have HW2 := Lib.hid w2
        clear w1 w2
        rw [HW1.out]
        refine Ev.bind (until_got s (by omega) (3 + n1) (by omega)) ?_
        rw [hr1, HW2.out]
        obtain ⟨p1, p2⟩ := untilF_cut (y.drop (n1 + 1))
        have hge2 := untilF_ge (y.drop (n1 + 1))
        have hdl : (y.drop (n1 + 1)).length = y.length - (n1 + 1) := List.length_drop
        generalize hR1 : y.drop (n1 + 1) = r1 at *
        have cond : oneL s.data.toList = if (cutL 63 r1).2.2 = true ∧ (cutL 63 (cutL 63 r1).2.1).2.2 = true ∧ hasPrefix (cutL 63 (cutL 63 r1).2.1).2.1 [61] = true ∧ (y.take n1 ++ (cutL 63 r1).1 ++ (cutL 63 (cutL 63 r1).2.1).1).any white = false ∧ (knownL (labelL NM)).2 = true then
            (if (cutL 63 r1).1 = [66] ∨ (cutL 63 r1).1 = [98] then (decL (knownL (labelL NM)).1 (B64.b64DecL (cutL 63 (cutL 63 r1).2.1).1), s.data.toList.length - ((cutL 63 (cutL 63 r1).2.1).2.1.length - 1))
             else if (cutL 63 r1).1 = [81] ∨ (cutL 63 r1).1 = [113] then (decL (knownL (labelL NM)).1 (WordQ.quotedL (cutL 63 (cutL 63 r1).2.1).1), s.data.toList.length - ((cutL 63 (cutL 63 r1).2.1).2.1.length - 1))
             else ([], 0)) else ([], 0) := by
          unfold oneL
          rw [hd2, v2]
          simp only
          rw [hNM]
          have htl : (y.take n1).length = n1 := by rw [List.length_take]; omega
          by_cases hq : (cutL 63 r1).2.2 = true ∧ (cutL 63 (cutL 63 r1).2.1).2.2 = true ∧ hasPrefix (cutL 63 (cutL 63 r1).2.1).2.1 [61] = true ∧ (y.take n1 ++ (cutL 63 r1).1 ++ (cutL 63 (cutL 63 r1).2.1).1).any white = false ∧ (knownL (labelL NM)).2 = true
          · rw [if_pos ⟨hb, trivial, hq.1, hq.2.1, hq.2.2.1, by omega, by omega, hq.2.2.2.1, hq.2.2.2.2⟩, if_pos hq]
          · rw [if_neg (fun h => hq ⟨h.2.2.1, h.2.2.2.1, h.2.2.2.2.1, h.2.2.2.2.2.2.2.1, h.2.2.2.2.2.2.2.2⟩), if_neg hq]
        by_cases hkn : (knownL (labelL NM)).2 = true
        · refine Ev.pos hkn ?_
          by_cases hn2 : untilF r1 < 0
          · rw [if_pos hn2]
            have hbn : ((-1 : Int) != ((4 + n1 : Nat) : Int)) = true := by rw [bne_iff_ne]; omega
            rw [hbn]
            refine noneEv ?_ (j3_true s _ _ _)
            rw [cond]
            refine if_neg ?_
            rintro ⟨c1, c2, c3, c4, c5⟩
            rw [List.any_append, List.any_append] at c4
            simp only [Bool.or_eq_false_iff] at c4
            exact p2 hn2 ⟨c1, c4.1.2⟩
          · obtain ⟨n2, hnn⟩ : ∃ n : Nat, untilF r1 = (n : Int) := ⟨(untilF r1).toNat, by omega⟩
            obtain ⟨q1, q2, q3⟩ := p1 n2 hnn
            rw [if_neg hn2, hnn]
            rw [q2] at cond
            simp only at cond
            by_cases h1 : n2 = 1
            · subst h1
              have hbn : (((3 + n1 : Nat) : Int) + ((1 : Nat) : Int) != ((4 + n1 : Nat) : Int)) = false := by rw [bne_eq_false_iff_eq]; omega
              rw [hbn]
              match r1, q1, hR1, cond, hdl with
              | x :: z :: r2, q1, hR1, cond, hdl =>
                simp only [List.length_cons] at hdl
                simp only [List.take_succ_cons, List.take_zero, List.drop_succ_cons, List.drop_zero] at cond
                refine Ev.round (fun k => by rw [muslinref05_One.j3]) ?_
                refine Ev.neg Bool.false_ne_true ?_
                have w3 : wrap64 (((3 + n1 : Nat) : Int) + ((1 : Nat) : Int) + 1) = ((5 + n1 : Nat) : Int) := (w64 (by omega) (by omega)).trans (by omega)
                have HW3 := Lib.hid w3
                clear w3
                rw [HW3.out]
                refine Ev.bind (until_got s (by omega) (5 + n1) (by omega)) ?_
                have hr2 : s.data.toList.drop (5 + n1) = r2 := by
                  rw [show 5 + n1 = 3 + n1 + 2 by omega, ← List.drop_drop, hr1]; rfl
                have hx : bt s ((3 + n1 : Nat) : Int) = (x.toNat : Int) := (at_drop (r := z :: r2) hr1).1
                rw [hr2]
                obtain ⟨m1, m2⟩ := untilF_cut r2
                have hge3 := untilF_ge r2
                by_cases hn3 : untilF r2 < 0
                · rw [if_pos hn3]
                  refine Ev.pos (by omega) ?_
                  refine noneEv ?_ (j4_true s _ _ _ _)
                  rw [cond]
                  refine if_neg ?_
                  rintro ⟨c1, c2, c3, c4, c5⟩
                  rw [List.any_append] at c4
                  simp only [Bool.or_eq_false_iff] at c4
                  exact m2 hn3 ⟨c2, c4.2⟩
                · obtain ⟨n3, hnn3⟩ : ∃ n : Nat, untilF r2 = (n : Int) := ⟨(untilF r2).toNat, by omega⟩
                  obtain ⟨k1, k2, k3⟩ := m1 n3 hnn3
                  rw [if_neg hn3, hnn3]
                  rw [k2] at cond
                  simp only at cond
                  refine Ev.neg (by omega) ?_
                  have hw45 : wrap64 (((5 + n1 : Nat) : Int) + (n3 : Int) + 1) = ((6 + n1 + n3 : Nat) : Int) ∧ wrap64 (((5 + n1 : Nat) : Int) + (n3 : Int) + 2) = ((7 + n1 + n3 : Nat) : Int) :=
                    ⟨(w64 (by omega) (by omega)).trans (by omega), (w64 (by omega) (by omega)).trans (by omega)⟩
                  have HW4 := Lib.hid hw45.1; have HW5 := Lib.hid hw45.2
                  clear hw45
                  rw [HW4.out]
                  have hr3 : s.data.toList.drop (6 + n1 + n3) = r2.drop (n3 + 1) := by
                    rw [show 6 + n1 + n3 = 5 + n1 + (n3 + 1) by omega, ← List.drop_drop, hr2]
                  have hwall : ((y.take n1 ++ [x] ++ r2.take n3).any white = false) := by
                    rw [List.any_append, List.any_append, v3, k3]
                    simp only [List.take_succ_cons, List.take_zero] at q3
                    rw [q3]; rfl
                  have hl3 : (r2.drop (n3 + 1)).length = r2.length - (n3 + 1) := List.length_drop
                  by_cases hend : 6 + n1 + n3 ≥ s.size
                  · refine Ev.pos (by omega) ?_
                    refine noneEv ?_ (j4_true s _ _ _ _)
                    rw [cond]
                    refine if_neg ?_
                    rintro ⟨c1, c2, c3, c4, c5⟩
                    rw [List.drop_eq_nil_of_le (by omega)] at c3
                    simp [hasPrefix, List.isPrefixOf] at c3
                  · refine Ev.neg (by omega) ?_
                    refine Ev.pos (by omega) ?_
                    refine Ev.pos (by omega) ?_
                    cases hr3c : r2.drop (n3 + 1) with
                    | nil => rw [hr3c] at hl3; simp at hl3; omega
                    | cons e r3 =>
                      rw [hr3c] at hr3 cond
                      have he3 : bt s ((6 + n1 + n3 : Nat) : Int) = (e.toNat : Int) := (at_drop hr3).1
                      rw [he3]
                      by_cases h61 : e = 61
                      · subst h61
                        rw [show ((((61 : UInt8).toNat : Int)) != 61) = false from rfl]
                        have hp61 : hasPrefix (61 :: r3) [61] = true := by simp [hasPrefix, List.isPrefixOf]
                        rw [if_pos ⟨trivial, trivial, hp61, hwall, hkn⟩] at cond
                        have hlen : s.data.toList.length - ((61 :: r3).length - 1) = 7 + n1 + n3 := by
                          rw [hr3c] at hl3
                          simp only [List.length_cons] at hl3 ⊢
                          rw [hl]; omega
                        rw [hlen] at cond
                        have tx : (s.extract ((5 + n1 : Nat) : Int).toNat (((5 + n1 : Nat) : Int) + (n3 : Int)).toNat) = ⟨(r2.take n3).toArray⟩ := by
                          rw [Int.toNat_natCast, show (((5 + n1 : Nat) : Int) + (n3 : Int)).toNat = 5 + n1 + n3 by omega]
                          apply ba_ext
                          rw [extract_mk, hr2, show 5 + n1 + n3 - (5 + n1) = n3 by omega]
                        have txz : (⟨(r2.take n3).toArray⟩ : ByteArray).size ≤ 2000 := by rw [mk_size, List.length_take]; omega
                        have hdz := b64Dec_len (r2.take n3)
                        have hqz := WordQ.quoted_len _ (r2.take n3) (Nat.le_refl _)
                        rw [List.length_take] at hdz hqz
                        refine Ev.round (fun k => by rw [muslinref05_One.j4]) ?_
                        refine Ev.neg Bool.false_ne_true ?_
                        rw [HW1.out]
                        refine Ev.pos (by omega) ?_
                        refine Ev.pos (by omega) ?_
                        rw [hx]
                        have bcase : ([x] = [66] ∨ [x] = [98]) → Ev (fun k => muslinref05_One.j5 k s NM (((3 + n1 : Nat) : Int) + ((1 : Nat) : Int)) (((5 + n1 : Nat) : Int) + (n3 : Int)) (x.toNat : Int) true) (⟨(oneL s.data.toList).1.toArray⟩, ((oneL s.data.toList).2 : Int)) := by
                          intro hc
                          rw [if_pos hc] at cond
                          rw [cond]
                          refine Ev.round (fun k => by rw [muslinref05_One.j5]) ?_
                          refine Ev.pos rfl ?_
                          rw [HW3.out]
                          refine Ev.pos (by omega) ?_
                          refine Ev.pos (by omega) ?_
                          refine Ev.pos (by omega) ?_
                          rw [tx]
                          refine Ev.bind (refDec64_is _ (by omega)) ?_
                          refine Ev.got (x := muslinref04_Decode.f NM _) (guard_of ⟨hk, by rw [mk_size, mk_toList]; omega⟩) ?_
                          rw [HW5.out]
                          exact Ev.now _
                        have ncase : ¬ ([x] = [66] ∨ [x] = [98]) → Ev (fun k => muslinref05_One.j5 k s NM (((3 + n1 : Nat) : Int) + ((1 : Nat) : Int)) (((5 + n1 : Nat) : Int) + (n3 : Int)) (x.toNat : Int) false) (⟨(oneL s.data.toList).1.toArray⟩, ((oneL s.data.toList).2 : Int)) := by
                          intro hc
                          rw [if_neg hc] at cond
                          refine Ev.round (fun k => by rw [muslinref05_One.j5]) ?_
                          refine Ev.neg Bool.false_ne_true ?_
                          have qcase : ([x] = [81] ∨ [x] = [113]) → Ev (fun k => muslinref05_One.j6 k s NM (((3 + n1 : Nat) : Int) + ((1 : Nat) : Int)) (((5 + n1 : Nat) : Int) + (n3 : Int)) true) (⟨(oneL s.data.toList).1.toArray⟩, ((oneL s.data.toList).2 : Int)) := by
                            intro hc2
                            rw [if_pos hc2] at cond
                            rw [cond]
                            refine Ev.round (fun k => by rw [muslinref05_One.j6]) ?_
                            refine Ev.pos rfl ?_
                            rw [HW3.out]
                            refine Ev.pos (by omega) ?_
                            refine Ev.pos (by omega) ?_
                            refine Ev.pos (by omega) ?_
                            rw [tx]
                            refine Ev.bind (refQuoted_is _ (by omega)) ?_
                            refine Ev.got (x := muslinref04_Decode.f NM _) (guard_of ⟨hk, by rw [mk_size, mk_toList]; omega⟩) ?_
                            rw [HW5.out]
                            exact Ev.now _
                          by_cases h81 : x = 81
                          · subst h81
                            refine Ev.pos rfl ?_
                            exact qcase (.inl rfl)
                          · have h81n : ¬ (x.toNat : Int) = 81 := by intro h; exact h81 (UInt8.toNat_inj.1 (by show x.toNat = 81; omega))
                            refine Ev.neg h81n ?_
                            by_cases h113 : x = 113
                            · subst h113
                              exact qcase (.inr rfl)
                            · have h113n : (((x.toNat : Int)) == 113) = false := by
                                rw [beq_eq_false_iff_ne]; intro h; exact h113 (UInt8.toNat_inj.1 (by show x.toNat = 113; omega))
                              rw [h113n]
                              rw [if_neg (by simp [h81, h113])] at cond
                              refine Ev.round (fun k => by rw [muslinref05_One.j6]) ?_
                              refine Ev.neg Bool.false_ne_true ?_
                              rw [cond]
                              exact Ev.now _
                        by_cases h66 : x = 66
                        · subst h66
                          refine Ev.pos rfl ?_
                          exact bcase (.inl rfl)
                        · have h66n : ¬ (x.toNat : Int) = 66 := by intro h; exact h66 (UInt8.toNat_inj.1 (by show x.toNat = 66; omega))
                          refine Ev.neg h66n ?_
                          by_cases h98 : x = 98
                          · subst h98
                            exact bcase (.inr rfl)
                          · have h98n : (((x.toNat : Int)) == 98) = false := by
                              rw [beq_eq_false_iff_ne]; intro h; exact h98 (UInt8.toNat_inj.1 (by show x.toNat = 98; omega))
                            rw [h98n]
                            exact ncase (by simp [h66, h98])
                      · have h61n : ((e.toNat : Int) != 61) = true := by
                          rw [bne_iff_ne]; intro h; exact h61 (UInt8.toNat_inj.1 (by show e.toNat = 61; omega))
                        rw [h61n]
                        refine noneEv ?_ (j4_true s _ _ _ _)
                        rw [cond]
                        refine if_neg ?_
                        rintro ⟨c1, c2, c3, c4, c5⟩
                        simp [hasPrefix, List.isPrefixOf] at c3
                        exact h61 c3.symm
            · have hbn : (((3 + n1 : Nat) : Int) + (n2 : Int) != ((4 + n1 : Nat) : Int)) = true := by rw [bne_iff_ne]; omega
              rw [hbn]
              refine noneEv ?_ (j3_true s _ _ _)
              rw [cond]
              split
              · have hlen : (r1.take n2).length = n2 := by rw [List.length_take]; omega
                have hne : ∀ x : UInt8, r1.take n2 ≠ [x] := by intro x h; rw [h] at hlen; exact h1 hlen.symm
                rw [if_neg (by rintro (h | h) <;> exact hne _ h), if_neg (by rintro (h | h) <;> exact hne _ h)]
              · rfl
        · refine Ev.neg hkn ?_
          refine noneEv ?_ (j3_true s _ _ _)
          rw [cond]
          exact if_neg (fun h => hkn h.2.2.2.2)
      · have hfail : oneL s.data.toList = ([], 0) := by
          unfold oneL
          rw [hd2, v2]
          refine if_neg ?_
          rintro ⟨c1, c2, c3, c4, c5, c6, c7, c8, c9⟩
          simp only [List.length_take] at c6 c7
          omega
        by_cases h3 : (2 : Int) + (n1 : Int) < 3
        · refine Ev.pos h3 ?_
          exact noneEv hfail (j1_true s _)
        · refine Ev.neg h3 ?_
          rw [decide_eq_true (by omega)]
          exact noneEv hfail (j1_true s _)
  · have hfail := one_none s.data.toList (Bool.eq_false_iff.2 hb)
    refine noneEv hfail ?_
    by_cases h2 : (s.size : Int) < 2
    · refine Ev.pos h2 ?_
      exact j0_true s
    · refine Ev.neg h2 ?_
      refine Ev.pos (by omega) ?_
      refine Ev.pos (by omega) ?_
      have he : ((s.extract 0 2).toList != ([61, 63] : List UInt8)) = true := by
        rw [bne_iff_ne, toList_eq, extract_list, List.drop_zero]
        intro h
        apply hb
        match hh : s.data.toList, hl with
        | [], hl => simp at hl; omega
        | [q], hl => simp at hl; omega
        | q :: z :: r, _ =>
          rw [hh] at h
          simp only [List.take_succ_cons, List.take_zero] at h
          rw [begins_cons]
          injection h with h1 h2
          injection h2 with h2 _
          rw [h1, h2]; rfl
      rw [he]
      exact j0_true s
theorem wh_loop (s x3 x4 : ByteArray) (at_ : Nat) (t : ByteArray) (m : Nat) {R : ByteArray} (hz : x4.size ≤ 100000) (b : Bool)
    (h : Ev (fun k => if (b && x4.data.toList.all white) = true then (if x3.size + t.size ≤ 9223372036854775807 then muslinref05_Decode.l0 k s (x3 ++ t) (⟨#[]⟩ : ByteArray) true (wrap64 ((at_ : Int) + (m : Int))) else none) else ((muslinref04_Valid.f x4).bind fun t141 => (if x3.size + t141.size ≤ 9223372036854775807 then (if (x3 ++ t141).size + t.size ≤ 9223372036854775807 then muslinref05_Decode.l0 k s ((x3 ++ t141) ++ t) (⟨#[]⟩ : ByteArray) true (wrap64 ((at_ : Int) + (m : Int))) else none) else none))) R) :
    ∀ (n i : Nat) (c : Bool), x4.size - i ≤ n → i ≤ x4.size → c = (b && (x4.data.toList.take i).all white) → Ev (fun k => muslinref05_Decode.l1 k s x3 x4 (at_ : Int) t (m : Int) c (i : Int)) R := by
  have fin : ∀ (i : Nat) (c : Bool), x4.size ≤ i → c = (b && (x4.data.toList.take i).all white) → Ev (fun k => muslinref05_Decode.l1 k s x3 x4 (at_ : Int) t (m : Int) c (i : Int)) R := by
    intro i c hi hc
    rw [List.take_of_length_le (by rw [sizeL]; exact hi)] at hc
    rw [← hc] at h
    refine Ev.round (fun k => by rw [muslinref05_Decode.l1]) ?_
    refine Ev.neg (by omega) ?_
    exact h
  intro n
  induction n with
  | zero => intro i c h1 h2 h3; exact fin i c (by omega) h3
  | succ n ih =>
    intro i c h1 h2 h3
    cases hd : x4.data.toList.drop i with
    | nil => exact fin i c (at_end hd) h3
    | cons q r =>
      obtain ⟨hb, hlt, hr⟩ := at_drop hd
      have hi : i < x4.data.toList.length := by rw [sizeL]; exact hlt
      have hq : x4.data.toList[i] = q := by
        have := List.drop_eq_getElem_cons hi
        rw [hd] at this
        injection this with h5 h6
        exact h5.symm
      have hst : (x4.data.toList.take (i + 1)).all white = ((x4.data.toList.take i).all white && white q) := by
        rw [List.take_succ_eq_append_getElem hi, List.all_append, hq]; simp
      have hw : wrap64 ((i : Int) + 1) = ((i + 1 : Nat) : Int) := (w64 (by omega) (by omega)).trans (by omega)
      have HW := Lib.hid hw
      clear hw
      refine Ev.round (fun k => by rw [muslinref05_Decode.l1]) ?_
      refine Ev.pos (by omega) ?_
      rw [HW.out]
      cases c with
      | true =>
        refine Ev.pos rfl ?_
        refine Ev.pos (by omega) ?_
        rw [hb]
        refine Ev.got (white_is q) ?_
        refine ih (i + 1) _ (by omega) (by omega) ?_
        rw [hst, ← Bool.and_assoc, ← h3]; simp
      | false =>
        refine Ev.neg Bool.false_ne_true ?_
        refine ih (i + 1) _ (by omega) (by omega) ?_
        rw [hst, ← Bool.and_assoc, ← h3]; simp
theorem bsize (x y : ByteArray) : (x ++ y).size = x.size + y.size := ByteArray.size_append
theorem decode_loop (s : ByteArray) (hs : s.size ≤ 2000) : ∀ (n i : Nat) (o p : ByteArray) (b : Bool), s.size - i ≤ n → i ≤ s.size → p.size ≤ i → o.size ≤ 100000 * i →
    o.data.toList ++ wordF p.data.toList b (s.data.toList.drop i) = wordL s.data.toList →
    Ev (fun k => muslinref05_Decode.l0 k s o p b (i : Int)) (⟨(wordL s.data.toList).toArray⟩ : ByteArray) := by
  have hl : s.data.toList.length = s.size := sizeL s
  have fin : ∀ (i : Nat) (o p : ByteArray) (b : Bool), s.size ≤ i → i ≤ s.size → p.size ≤ i → o.size ≤ 100000 * i → o.data.toList ++ wordF p.data.toList b (s.data.toList.drop i) = wordL s.data.toList →
      Ev (fun k => muslinref05_Decode.l0 k s o p b (i : Int)) (⟨(wordL s.data.toList).toArray⟩ : ByteArray) := by
    intro i o p b h1 h2 h3 h4 he
    rw [List.drop_eq_nil_of_le (by omega), wordF_nil] at he
    refine Ev.round (fun k => by rw [muslinref05_Decode.l0]) ?_
    refine Ev.neg (by omega) ?_
    refine Ev.got (x := muslinref04_Valid.f p) (guard_of (by omega)) ?_
    have hv := vl_len p.data.toList
    rw [sizeL] at hv
    have hvz : (⟨(vl p.data.toList).toArray⟩ : ByteArray).size = (vl p.data.toList).length := mk_size _
    refine Ev.pos (by rw [hvz]; omega) ?_
    have e : o ++ (⟨(vl p.data.toList).toArray⟩ : ByteArray) = ⟨(wordL s.data.toList).toArray⟩ := by
      apply ba_ext; rw [← he]; simp
    rw [e]; exact Ev.now _
  intro n
  induction n with
  | zero => intro i o p b h1 h2 h3 h4 h5; exact fin i o p b (by omega) h2 h3 h4 h5
  | succ n ih =>
    intro i o p b h1 h2 h3 h4 h5
    by_cases hlt : i < s.size
    · have hU : (s.extract i s.size).data.toList = s.data.toList.drop i := by rw [extract_list, List.take_of_length_le (by omega)]
      have hUz : (s.extract i s.size).size ≤ 2000 := by simp; omega
      have hone := refOne_is (s.extract i s.size) hUz
      rw [hU] at hone
      have hn1 := one_len1 (s.data.toList.drop i)
      have hn2 := one_le (s.data.toList.drop i)
      rw [List.length_drop, hl] at hn1 hn2
      have hc : s.data.toList.drop i = s.data.toList[i]'(by omega) :: s.data.toList.drop (i + 1) := List.drop_eq_getElem_cons (by omega)
      refine Ev.round (fun k => by rw [muslinref05_Decode.l0]) ?_
      refine Ev.pos (by omega) ?_
      refine Ev.pos (by omega) ?_
      refine Ev.pos (by omega) ?_
      rw [Int.toNat_natCast]
      refine Ev.bind hone ?_
      by_cases hn : (oneL (s.data.toList.drop i)).2 = 0
      · have hw : wrap64 ((i : Int) + 1) = ((i + 1 : Nat) : Int) := (w64 (by omega) (by omega)).trans (by omega)
        have HW := Lib.hid hw
        clear hw
        refine Ev.pos (by omega) ?_
        rw [HW.out]
        refine Ev.pos (by omega) ?_
        refine Ev.pos (by omega) ?_
        rw [Int.toNat_natCast]
        have hb1 : (s.extract i (i + 1)).size = 1 := by simp; omega
        refine Ev.pos (by rw [hb1]; omega) ?_
        refine ih (i + 1) o _ b (by omega) (by omega) (by rw [bsize, hb1]; omega) (by omega) ?_
        have hb2 : (s.extract i (i + 1)).data.toList = [s.data.toList[i]'(by omega)] := by
          rw [extract_mk, hc, show i + 1 - i = 1 by omega]; rfl
        have hap : (p ++ s.extract i (i + 1)).data.toList = p.data.toList ++ [s.data.toList[i]'(by omega)] := by
          rw [← hb2]; simp
        rw [hap, ← h5]
        conv => rhs; rw [hc]
        rw [wordF_no _ _ _ _ (by rw [← hc]; exact hn)]
      · have hy := wordF_yes p.data.toList b _ hn
        refine Ev.neg (by omega) ?_
        generalize oneL (s.data.toList.drop i) = d at *
        obtain ⟨t, m⟩ := d
        simp only at hn1 hn2 hn hy ⊢
        have hv := vl_len p.data.toList
        rw [sizeL] at hv
        have htz : (⟨t.toArray⟩ : ByteArray).size = t.length := mk_size t
        have htd : (⟨t.toArray⟩ : ByteArray).data.toList = t := rfl
        have hvz : (⟨(vl p.data.toList).toArray⟩ : ByteArray).size = (vl p.data.toList).length := mk_size _
        have hvd : (⟨(vl p.data.toList).toArray⟩ : ByteArray).data.toList = vl p.data.toList := rfl
        have hfin : (s.data.toList.drop i).drop m = s.data.toList.drop (i + m) := by rw [List.drop_drop]
        refine wh_loop s o p i _ m (by omega) b ?_ p.size 0 b (by omega) (by omega) (by simp)
        have hw : wrap64 ((i : Int) + (m : Int)) = ((i + m : Nat) : Int) := (w64 (by omega) (by omega)).trans (by omega)
        have HW := Lib.hid hw
        clear hw
        rw [HW.out]
        by_cases hb : (b && p.data.toList.all white) = true
        · refine Ev.pos hb ?_
          refine Ev.pos (by omega) ?_
          refine ih (i + m) _ _ true (by omega) (by omega) (by show 0 ≤ _; omega) (by rw [bsize, htz]; omega) ?_
          rw [if_pos hb] at hy
          rw [← h5, hy, hfin]
          show (o ++ (⟨t.toArray⟩ : ByteArray)).data.toList ++ _ = _
          simp
        · refine Ev.neg hb ?_
          refine Ev.got (x := muslinref04_Valid.f p) (guard_of (by omega)) ?_
          refine Ev.pos (by omega) ?_
          refine Ev.pos (by rw [bsize]; omega) ?_
          refine ih (i + m) _ _ true (by omega) (by omega) (by show 0 ≤ _; omega) (by rw [bsize, bsize, htz, hvz]; omega) ?_
          rw [if_neg hb] at hy
          rw [← h5, hy, hfin]
          show (o ++ (⟨(vl p.data.toList).toArray⟩ : ByteArray) ++ (⟨t.toArray⟩ : ByteArray)).data.toList ++ _ = _
          simp
    · exact fin i o p b (by omega) h2 h3 h4 h5
theorem refDecode5_is (s : ByteArray) (hs : s.size ≤ 2000) : Ev (fun k => muslinref05_Decode.f k s) (⟨(wordL s.data.toList).toArray⟩ : ByteArray) := by
  unfold muslinref05_Decode.f
  exact decode_loop s hs s.size 0 _ _ false (by omega) (by omega) (by decide) (by decide) rfl
theorem WordDecodes : muslinlaw05_WordDecodes.Pure := by
  intro a _
  refine Ev.rounds (r := true) (g := fun k => muslinlaw05_WordDecodes.f k a) ?_
  unfold muslinlaw05_WordDecodes.f
  by_cases h : a.size ≤ 2000
  · refine Ev.got (short_yes a h) ?_
    refine Ev.pos rfl ?_
    refine Ev.got (x := word_One.f a) (guard_of (by omega)) ?_
    refine Ev.bind (refOne_is a h) ?_
    refine Ev.got (x := word_Decode.f a) (guard_of (by omega)) ?_
    refine Ev.bind (refDecode5_is a h) ?_
    refine Ev.pos rfl ?_
    refine Ev.pos rfl ?_
    refine Ev.pos rfl ?_
    exact live_end
  · refine Ev.got (short_no a h) ?_
    refine Ev.neg Bool.false_ne_true ?_
    exact live_end
end Go.Proofs.YtokkgjiofhhlkaaDoor.Pure
namespace Go.Proofs.YtokkgjiofhhlkaaDoor
open Go.RowKit Go.ChangeShapes Go.WideShapes Go.ChangeAt Go.Lib
theorem glob_of {W : World} {a : DataW Unit} (ha : a = acceptData) (h : laidMet Tryd.prog [("unicode/utf8.acceptRanges", a), ("muslin/chars.high", Lib.tabData .i32 highTab), ("unicode/utf8.first", Go.Pinned.utf8First)] W) (hsh : W.ShapedOpen Tryd.prog) : Glob W := by
  refine ⟨Lib.tabIs_of_head (show Tryd.prog.globalNamed "muslin/chars.high" = some 0 from by kernel_rfl) (show (Tryd.prog.globals[0]?).map (·.type) = some 80 from by kernel_rfl) Tryd.underlying80 Tryd.underlying21 (by kernel_rfl) (by kernel_rfl) h.tail, ?_, ?_⟩
  · obtain ⟨ps, hl, _⟩ := h
    have rd := LaidVars_reads hl
    have r1 := rd "unicode/utf8.acceptRanges" a (by simp)
    have r3 := rd "unicode/utf8.first" Go.Pinned.utf8First (by simp)
    rw [ha] at r1
    rw [Go.Pinned.utf8First_eq] at r3
    exact utf8Tabs_of_reads Tryd.lays260 ⟨by kernel_rfl, by kernel_rfl, by kernel_rfl, by kernel_rfl, by kernel_rfl, by kernel_rfl, by kernel_rfl⟩ r3 r1
  · exact Go.Proofs.cell_of_shapedOpen_int (zero := #[.int .i64 0]) (t := 3) hsh (of_decide_eq_true (by kernel_rfl)) (by kernel_rfl) rfl (by kernel_rfl) (by kernel_rfl) Tryd.underlying3
theorem glob_wordDecodes {W : World} (h : laidMetH Tryd.prog Rows.wordDecodesRow.laid W) (hsh : W.ShapedOpen Tryd.prog) : Glob W := glob_of (by kernel_rfl) h hsh
theorem wrap_shaped {H : Type} {enc : TypeId × Value → H} {a : Assume} {C : Checked} {os : Os} {f : FuncId} {fn : Func} {s : ChangeSpec} {conds : List PathCond} {apart fresh handsOn again : Bool} {X : World → Array Value → Prop}
    (hX : ∀ (w w' : World) (args : Array Value), w.heap = w'.heap → X w args → X w' args)
    (own : ownKnob C.prog.godebug = none) (started : os.Started) (noInit : C.prog.inits.idxOf? f = none) (hfn : C.prog.funcs[f]? = some fn)
    (witness : ∃ (w : World) (tape : Tape) (i : Input), w.os = os ∧ (w.forCall tape i).Shaped C.prog ∧ i.vars = [] ∧ Input.okWide C.prog (w.forCall tape i) .any w.heap.size f i ∧
      ((s.pre enc C.prog fn conds apart (w.forCall tape i).memory i.args ∧ X (w.forCall tape i).memory i.args) ∧ sizedMet enc C.prog fn (OpenSpec.ofChange s) apart (w.forCall tape i).memory i.args) ∧ a.holds C.prog (lone (Frame.enter C.prog f i.args .normal) [] (w.forCall tape i)))
    (contract : ∀ (W : World) (base : Nat) (args : Array Value) (ds gs : List (DataW H)) (before : List MemPlace),
      (∀ (j : Nat) t v, fn.params[j]? = some t → args[j]? = some v → Value.okWide C.prog W .any base t v) →
      DataW.Whole enc C.prog fn.params.toList s.vars apart W args.toList ds gs before →
      conds.all (PathCond.test C.prog ⟨fn.params.toList, ds, s.plain.varTypes C.prog, gs⟩) = true →
      (DataW.weightsEach C.prog (fn.params.toList ++ s.plain.varTypes C.prog) (ds ++ gs)).all (· ≤ reachBytes) = true → X W args → W.ShapedOpen C.prog →
      a.holds C.prog (lone (Frame.enter C.prog f args .normal) [] W) →
      Calls C.prog f args W fun e W' => ∃ v, e = .returned v ∧ s.post enc C.prog fn apart fresh handsOn again W args v W') :
    ReturnsInHanded a C os f .any (fun w args => (s.pre enc C.prog fn conds apart w args ∧ X w args) ∧ sizedMet enc C.prog fn (OpenSpec.ofChange s) apart w args) (s.post enc C.prog fn apart fresh handsOn again) := by
  refine returnsInHanded_of_calls own started noInit witness ?_
  intro w tape i _ hsh _ hok hpre hholds
  obtain ⟨_, _, _, fn', hfn', _, _, _, _, hval⟩ := hok
  obtain rfl : fn' = fn := Option.some.inj (hfn'.symm.trans hfn)
  obtain ⟨⟨⟨ds, gs, before, hw, hc⟩, hx⟩, hz⟩ := hpre
  refine (contract (w.forCall tape i) w.heap.size i.args ds gs before hval (DataW.Whole.of_heap (w' := w.forCall tape i) (by rfl) hw) hc (hz.weights hw) (hX _ _ _ (by rfl) hx) hsh hholds).mono fun e W' ⟨v, he, hp⟩ => ?_
  subst he
  exact ChangeSpec.post_blind hp
end Go.Proofs.YtokkgjiofhhlkaaDoor
