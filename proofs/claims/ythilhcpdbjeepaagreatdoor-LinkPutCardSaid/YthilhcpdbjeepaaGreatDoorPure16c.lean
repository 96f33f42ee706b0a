/- Links: kinds, and the statements that go by the printed walks. -/
import Derived.Test.YthilhcpdbjeepaaGreatDoorPure16b
namespace Go.Proofs.YthilhcpdbjeepaaGreatDoor.Pure
open Go.RowKit Go.Lib Go.Proofs.YthilhcpdbjeepaaGreatDoor Go.Proofs.YthilhcpdbjeepaaGreatDoor.P Go.Proofs.YthilhcpdbjeepaaGreatDoorW.PrintWords Go.Proofs.YthilhcpdbjeepaaGreatDoorW.PrintLast
set_option linter.unusedVariables false
set_option linter.unusedSimpArgs false
theorem kind_is (s : ByteArray) (hs : s.size ≤ 100000000) : ∀ k, link_Kind.f (k + 2) s = some (kindC (cleanL s.data.toList)) := by
  intro k
  have h1 : link_Scheme.f s = some (⟨(schemeC (cleanL s.data.toList)).1.toArray⟩, (schemeC (cleanL s.data.toList)).2) := guard_of hs
  have h2 : link_Clean.f s = some ⟨(cleanL s.data.toList).toArray⟩ := guard_of hs
  have hc := clean_len s.data.toList
  rw [sizeL] at hc
  have h3 : link_hosted.f ⟨(cleanL s.data.toList).toArray⟩ = some (hostedL (cleanL s.data.toList)) := by
    have := hosted_is ⟨(cleanL s.data.toList).toArray⟩ (by rw [mk_size]; omega)
    exact this
  unfold link_Kind.f
  rw [h1]
  simp only [Option.bind_some]
  unfold kindC
  generalize (schemeC (cleanL s.data.toList)).1 = n at *
  generalize (schemeC (cleanL s.data.toList)).2 = is at *
  rw [toList_eq, mk_toList]
  cases is with
  | false => simp
  | true =>
    simp only [if_true]
    simp only [link_Kind.j0, link_Kind.j1, toList_eq, mk_toList, h2, Option.bind_some, h3]
    by_cases a1 : n = [104, 116, 116, 112]
    · subst a1
      cases hostedL (cleanL s.data.toList) <;> simp
    · by_cases a2 : n = [104, 116, 116, 112, 115]
      · subst a2
        cases hostedL (cleanL s.data.toList) <;> simp
      · simp [a1, a2]
        by_cases a3 : n = [109, 97, 105, 108, 116, 111]
        · simp [a3]
        · by_cases a4 : n = [99, 105, 100]
          · simp [a4]
          · simp [a3, a4]
theorem kind_ev (s : ByteArray) (hs : s.size ≤ 100000000) : Ev (fun k => link_Kind.f k s) (kindC (cleanL s.data.toList)) := by
  refine Ev.step (f := fun k => link_Kind.f (k + 1) s) (fun k => rfl) ?_
  refine Ev.step (f := fun k => link_Kind.f (k + 2) s) (fun k => rfl) ?_
  exact Ev.congr (fun k => kind_is s hs k) (Ev.now _)
theorem live_is : muslinlaw16_live.f 2 = some true := by kernel_rfl
theorem live_mono : ∀ k, muslinlaw16_live.f (k + 2) = some true := by
  intro k
  induction k with
  | zero => exact live_is
  | succ k ih => exact muslinlaw16_live.mono _ _ ih
theorem live_end : Ev (fun k => (muslinlaw16_live.f k).bind fun t => some t) true := by
  refine Ev.step (f := fun k => (muslinlaw16_live.f (k + 1)).bind fun t => some t) (fun k => rfl) ?_
  refine Ev.step (f := fun k => (muslinlaw16_live.f (k + 2)).bind fun t => some t) (fun k => rfl) ?_
  exact Ev.congr (fun k => by rw [live_mono k]; rfl) (Ev.now _)
theorem short_yes (a : ByteArray) (h : a.size ≤ 3000) : muslinlaw16_short.f a = some true := by
  unfold muslinlaw16_short.f
  have : ((a.size : Int) ≤ 3000) := by omega
  simp [this]
theorem short_no (a : ByteArray) (h : ¬ a.size ≤ 3000) : muslinlaw16_short.f a = some false := by
  unfold muslinlaw16_short.f
  have : ¬ ((a.size : Int) ≤ 3000) := by omega
  simp [this]
/-- Of a clean address with a scheme: what is ahead of the colon, and behind. -/
theorem scheme_split (c : List UInt8) (h : (schemeC c).2 = true) : ∃ nm rest, c = nm ++ 58 :: rest ∧ noCol nm ∧ (cutL 58 c) = (nm, rest, true) ∧ (schemeC c).1 = nm.map lowC ∧ nm.all goodC = true ∧ ∃ a q, nm = a :: q ∧ isLb a = true := by
  by_cases hm : 58 ∈ c
  · have e : c.takeWhile (· != 58) ++ c.dropWhile (· != 58) = c := List.takeWhile_append_dropWhile
    have hn : noCol (c.takeWhile (· != 58)) := fun x hx => by
      have := tw_mem _ c x hx
      simpa using this
    obtain ⟨b, hb⟩ : ∃ b, c.dropWhile (· != 58) = 58 :: b := by
      cases hd2 : c.dropWhile (· != 58) with
      | nil =>
        rw [hd2, List.append_nil] at e
        exact absurd (by rw [e]; exact hm) (fun h : 58 ∈ c.takeWhile (· != 58) => hn 58 h rfl)
      | cons x b =>
        have hx := List.head_dropWhile_not (· != 58) (l := c) (by rw [hd2]; simp)
        simp only [hd2, List.head_cons] at hx
        have : x = 58 := by simpa using hx
        exact ⟨b, by rw [this]⟩
    rw [hb] at e
    have hcut := cut_at _ b hn
    rw [e] at hcut
    generalize c.takeWhile (· != 58) = nm at *
    unfold schemeC at h ⊢
    rw [hcut] at h ⊢
    cases nm with
    | nil => simp [nameL] at h
    | cons a q =>
      by_cases ha : isLb a = true
      · by_cases hg : (a :: q).all goodC = true
        · refine ⟨a :: q, b, e.symm, hn, rfl, ?_, hg, a, q, rfl, ha⟩
          simp only [nameL]
          rw [if_pos ha, if_pos hg]
        · simp only [nameL] at h
          rw [if_pos ha, if_neg hg] at h
          exact absurd h Bool.false_ne_true
      · simp only [nameL] at h
        rw [if_neg ha] at h
        exact absurd h Bool.false_ne_true
  · unfold schemeC at h
    rw [cut_none c (fun x hx => by rintro rfl; exact hm hx), name_none] at h
    exact absurd h Bool.false_ne_true
theorem refKind_is (s : ByteArray) (hs : s.size ≤ 100000000) : Ev (fun k => muslinref16_Kind.f k s) (kindC (cleanL s.data.toList)) := by
  unfold muslinref16_Kind.f
  refine Ev.bind (refScheme_is s hs) ?_
  rw [scheme_is]
  have hc := clean_len s.data.toList
  rw [sizeL] at hc
  by_cases h : (schemeC (cleanL s.data.toList)).2 = true
  · refine Ev.pos h ?_
    refine Ev.bind (refClean_is s hs) ?_
    obtain ⟨nm, rest, hsp, hn, hcut, hs1, hg, a, q, hnm, ha⟩ := scheme_split _ h
    have hz : (⟨(cleanL s.data.toList).toArray⟩ : ByteArray).size = (cleanL s.data.toList).length := mk_size _
    have hhost : hostedL (cleanL s.data.toList) = hostL rest := by unfold hostedL; rw [hcut]
    unfold kindC
    rw [if_pos h, hhost, hs1]
    have hnz : (⟨(nm.map lowC).toArray⟩ : ByteArray).size = nm.length := by rw [mk_size, List.length_map]
    have hlen : (cleanL s.data.toList).length = nm.length + 1 + rest.length := by rw [hsp]; simp; omega
    have hdata : (⟨(cleanL s.data.toList).toArray⟩ : ByteArray).data.toList = nm ++ 58 :: rest := by rw [mk_toList, hsp]
    rw [hnz]
    generalize (⟨(cleanL s.data.toList).toArray⟩ : ByteArray) = C at *
    have fin : ∀ b : Bool, Ev (fun k => muslinref16_Kind.j0 k (⟨(nm.map lowC).toArray⟩ : ByteArray) b) (if nm.map lowC = [104, 116, 116, 112] ∧ b = true then 1 else if nm.map lowC = [104, 116, 116, 112, 115] ∧ b = true then 2 else if nm.map lowC = [109, 97, 105, 108, 116, 111] then 3 else if nm.map lowC = [99, 105, 100] then 4 else 5) := by
      intro b
      generalize nm.map lowC = n
      refine Ev.step (f := fun k => muslinref16_Kind.j0 (k + 1) (⟨n.toArray⟩ : ByteArray) b) (fun k => rfl) ?_
      refine Ev.step (f := fun k => muslinref16_Kind.j0 (k + 2) (⟨n.toArray⟩ : ByteArray) b) (fun k => rfl) ?_
      refine Ev.step (f := fun k => muslinref16_Kind.j0 (k + 3) (⟨n.toArray⟩ : ByteArray) b) (fun k => rfl) ?_
      refine Ev.congr (fun k => ?_) (Ev.now _)
      simp only [muslinref16_Kind.j0, muslinref16_Kind.j1, muslinref16_Kind.j2, toList_eq, mk_toList]
      by_cases a1 : n = [104, 116, 116, 112]
      · subst a1
        cases b <;> simp
      · by_cases a2 : n = [104, 116, 116, 112, 115]
        · subst a2
          cases b <;> simp
        · simp [a1, a2]
          by_cases a3 : n = [109, 97, 105, 108, 116, 111]
          · simp [a3]
          · by_cases a4 : n = [99, 105, 100]
            · simp [a4]
            · simp [a3, a4]
    have hx : (C.extract (nm.length + 1) (nm.length + 3)).data.toList = rest.take 2 := by
      rw [extract_list, hdata]
      rw [show nm ++ 58 :: rest = (nm ++ [58]) ++ rest from by simp, List.drop_take, List.drop_left' (by simp)]
      congr 1; omega
    rw [w64 (x := (nm.length : Int) + 3) (by omega) (by omega), w64 (x := (nm.length : Int) + 1) (by omega) (by omega)]
    by_cases h3 : (C.size : Int) > (nm.length : Int) + 3
    · refine Ev.pos h3 ?_
      refine Ev.pos (by omega) ?_
      refine Ev.pos (by omega) ?_
      refine Ev.pos (by omega) ?_
      rw [show ((nm.length : Int) + 1).toNat = nm.length + 1 from by omega, show ((nm.length : Int) + 3).toNat = nm.length + 3 from by omega, toList_eq, hx]
      match rest, hlen with
      | [], hlen => simp only [List.length_nil] at hlen; omega
      | [_], hlen => simp only [List.length_cons, List.length_nil] at hlen; omega
      | [_, _], hlen => simp only [List.length_cons, List.length_nil] at hlen; omega
      | x :: y :: z :: t, hlen =>
        by_cases hxy : (x :: y :: z :: t).take 2 = [47, 47]
        · refine Ev.pos hxy ?_
          refine Ev.pos (by omega) ?_
          refine Ev.pos (by omega) ?_
          obtain ⟨rfl, rfl⟩ : x = 47 ∧ y = 47 := by simpa using hxy
          have hb : bt C ((nm.length : Int) + 3) = (z.toNat : Int) := by
            have := bt_get C (nm.length + 3) (by rw [hdata]; simp)
            rw [show ((nm.length + 3 : Nat) : Int) = (nm.length : Int) + 3 from by omega] at this
            rw [this]
            congr 2
            simp only [hdata]
            rw [List.getElem_append_right (by omega)]
            simp [show nm.length + 3 - nm.length = 3 from by omega]
          rw [hb]
          have hh : hostL (47 :: 47 :: z :: t) = !([47, 63, 35, 92] : List UInt8).contains z := rfl
          rw [hh]
          by_cases b1 : (z.toNat : Int) = 47
          · have : z = 47 := UInt8.toNat_inj.1 (by show z.toNat = 47; omega)
            subst this
            exact Ev.pos b1 (fin false)
          refine Ev.neg b1 ?_
          by_cases b2 : (z.toNat : Int) = 63
          · have : z = 63 := UInt8.toNat_inj.1 (by show z.toNat = 63; omega)
            subst this
            exact Ev.pos b2 (fin false)
          refine Ev.neg b2 ?_
          by_cases b3 : (z.toNat : Int) = 35
          · have : z = 35 := UInt8.toNat_inj.1 (by show z.toNat = 35; omega)
            subst this
            exact Ev.pos b3 (fin false)
          refine Ev.neg b3 ?_
          have e : (!([47, 63, 35, 92] : List UInt8).contains z) = ((z.toNat : Int) != 92) := by
            have n1 : ¬ z = 47 := fun h => b1 (by rw [h]; rfl)
            have n2 : ¬ z = 63 := fun h => b2 (by rw [h]; rfl)
            have n3 : ¬ z = 35 := fun h => b3 (by rw [h]; rfl)
            by_cases n4 : z = 92
            · subst n4; rfl
            · have : ((z.toNat : Int) != 92) = true := bne_iff_ne.2 (fun h => n4 (UInt8.toNat_inj.1 (by show z.toNat = 92; omega)))
              rw [this]
              simp [n1, n2, n3, n4]
          rw [e]
          exact fin _
        · refine Ev.neg hxy ?_
          have hh : hostL (x :: y :: z :: t) = false := by
            unfold hostL
            split
            · rename_i h5
              injection h5 with h6 h7
              injection h7 with h8 h9
              exact absurd (by rw [h6, h8]; rfl) hxy
            · rfl
          rw [hh]
          exact fin false
    · refine Ev.neg h3 ?_
      have hh : hostL rest = false := by
        match rest, hlen with
        | [], _ => rfl
        | [_], _ => unfold hostL; split <;> simp_all
        | [_, _], _ => unfold hostL; split <;> simp_all
        | _ :: _ :: _ :: _, hlen => simp only [List.length_cons] at hlen; omega
      rw [hh]
      exact fin false
  · refine Ev.neg h ?_
    unfold kindC
    rw [if_neg h]
    exact Ev.now _
theorem LinkKinds : muslinlaw16_LinkKinds.Pure := by
  intro a _
  refine Ev.rounds (r := true) (g := fun k => muslinlaw16_LinkKinds.f k a) ?_
  unfold muslinlaw16_LinkKinds.f
  by_cases h : a.size ≤ 3000
  · refine Ev.got (short_yes a h) ?_
    refine Ev.pos rfl ?_
    refine Ev.got (x := link_Scheme.f a) (guard_of (by omega)) ?_
    refine Ev.bind (refScheme_is a (by omega)) ?_
    refine Ev.got (x := link_Clean.f a) (guard_of (by omega)) ?_
    refine Ev.bind (refClean_is a (by omega)) ?_
    refine Ev.pos rfl ?_
    refine Ev.pos rfl ?_
    refine Ev.pos (by simp) ?_
    refine Ev.bind (kind_ev a (by omega)) ?_
    refine Ev.bind (refKind_is a (by omega)) ?_
    refine Ev.pos rfl ?_
    exact live_end
  · refine Ev.got (short_no a h) ?_
    refine Ev.neg Bool.false_ne_true ?_
    exact live_end
end Go.Proofs.YthilhcpdbjeepaaGreatDoor.Pure
