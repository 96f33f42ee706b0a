/- Parts of the proof of the law AddrWrites, in one text: Alph, WordO, WordD, WordE, AddrH, AddrI, AddrL, Once, Repl, ReplB, ReplC, ReplD, AddrJ, AddrK, AddrM, AddrN, AddrO, AddrXa, G0. -/
import Derived.Test.YtpcncpegbboljaaGreatDoorMgAddrWrites1
import Derived.Shelf.Spec.BytesMap
import Derived.Tactics2
import Derived.Defers
import Derived.Laws.Pointers
import Derived.Laws.LoneSync
import Derived.RegionTactic
import Derived.RegionCalls
import Derived.ChangeAlike
import Derived.Lib.SliceRun
import Derived.Laws.AppendOwn
import Derived.Laws.CopyOwn
import Derived.Laws.NewBlocks
import Derived.Deep.DeepFit
import Derived.Deep.RegionLaw
set_option linter.unusedVariables false
set_option linter.unusedSimpArgs false
namespace Go.Proofs.YtpcncpegbboljaaGreatDoor.Alph
open Go.RowKit Go.Lib Go.Proofs.YtpcncpegbboljaaGreatDoor Go.Proofs.YtpcncpegbboljaaGreatDoor.C Go.Proofs.YtpcncpegbboljaaGreatDoor.Pure
set_option linter.unusedVariables false
theorem known_c (a : ByteArray) (ha : a.size ≤ 5000) (w : World) : Calls Tryz.prog 97 #[.string a] w fun e w' => e = .returned (.tuple #[.string (knownL (labelL a)).1, .bool (knownL (labelL a)).2]) ∧ Below w.heap.size w w' := by
  obtain ⟨r, h⟩ := known_is a ha
  exact chars_Known.calls r a _ _ w (h r (Nat.le_refl _))
theorem decode_c (a s : ByteArray) (ha : a.size ≤ 5000) (hs : s.size ≤ 11000000) (w : World) (hGl : Glob w) : Calls Tryz.prog 100 #[.string a, .string s] w fun e w' => e = .returned (.tuple #[.string ⟨(decL (knownL (labelL a)).1 s.data.toList).toArray⟩, .bool (knownL (labelL a)).2]) ∧ Below w.heap.size w w' := by
  obtain ⟨r, h⟩ := decode_is a s ha hs
  exact chars_Decode.calls r a s _ _ w hGl (h r (Nat.le_refl _))
theorem refValid_c (s : ByteArray) (hs : s.size ≤ 35184372088832) (w : World) : Calls Tryz.prog 61 #[.string s] w fun e w' => e = .returned (.string (validS s)) ∧ Below w.heap.size w w' := by
  obtain ⟨r, h⟩ := refValid_is s hs
  exact muslinref04_Valid.calls r s _ w (h r (Nat.le_refl _))
end Go.Proofs.YtpcncpegbboljaaGreatDoor.Alph
namespace Go.Proofs.YtpcncpegbboljaaGreatDoor
open Go.RowKit Go.Lib Go.Proofs.YtpcncpegbboljaaGreatDoor.Pure
set_option linter.unusedVariables false
def chars_Known.f (a : ByteArray) : Option (ByteArray × Bool) := if a.size ≤ 5000 then some (knownL (labelL a)) else none
theorem chars_Known.calls (a r1 : ByteArray) (r2 : Bool) (w : World) (h : chars_Known.f a = some (r1, r2)) :
    Calls Tryz.prog 97 #[.string a] w fun e w' => e = .returned (.tuple #[.string r1, .bool r2]) ∧ Below w.heap.size w w' := by
  obtain ⟨h1, h2⟩ := of_guard h
  have := Alph.known_c a h1 w
  rw [h2] at this; exact this
def chars_Decode.f (a s : ByteArray) : Option (ByteArray × Bool) := if a.size ≤ 5000 ∧ s.size ≤ 11000000 then some (⟨(decL (knownL (labelL a)).1 s.data.toList).toArray⟩, (knownL (labelL a)).2) else none
theorem chars_Decode.calls (a s r1 : ByteArray) (r2 : Bool) (w : World) (hGl : Glob w) (h : chars_Decode.f a s = some (r1, r2)) :
    Calls Tryz.prog 100 #[.string a, .string s] w fun e w' => e = .returned (.tuple #[.string r1, .bool r2]) ∧ Below w.heap.size w w' := by
  obtain ⟨⟨h1, h2⟩, h3⟩ := of_guard h
  injection h3 with h4 h5
  subst h4 h5
  exact Alph.decode_c a s h1 h2 w hGl
def muslinref04_Valid.f (s : ByteArray) : Option ByteArray := if s.size ≤ 35184372088832 then some ⟨(vl s.data.toList).toArray⟩ else none
theorem muslinref04_Valid.calls (s r : ByteArray) (w : World) (h : muslinref04_Valid.f s = some r) :
    Calls Tryz.prog 61 #[.string s] w fun e w' => e = .returned (.string r) ∧ Below w.heap.size w w' := by
  obtain ⟨h1, h2⟩ := of_guard h
  have := Alph.refValid_c s h1 w
  rw [validS_eq, h2] at this; exact this
def muslinref04_Whole.f (s : ByteArray) (a : Int) : Option Int := if 0 ≤ a ∧ a < (s.size : Int) ∧ s.size ≤ 35184372088832 then some (wholeL (s.data.toList.drop a.toNat) : Int) else none
theorem muslinref04_Whole.calls (s : ByteArray) (a r : Int) (w : World) (h : muslinref04_Whole.f s a = some r) :
    Calls Tryz.prog 62 #[.string s, .int .i64 a] w fun e w' => e = .returned (.int .i64 r) ∧ Below w.heap.size w w' := by
  obtain ⟨⟨h0, h1, h2⟩, rfl⟩ := of_guard h
  obtain ⟨n, rfl⟩ : ∃ n : Nat, a = (n : Int) := ⟨a.toNat, by omega⟩
  obtain ⟨r, h⟩ := whole_is s (by omega) n (by omega)
  exact (C.muslinref04_Whole.calls r s (n : Int) _ w (h r (Nat.le_refl _))).mono (by rintro e w' ⟨rfl, n, rfl⟩; exact ⟨rfl, bdrewN (Below.refl _ _) n⟩)
end Go.Proofs.YtpcncpegbboljaaGreatDoor
namespace Go.Proofs.YtpcncpegbboljaaGreatDoor.WordL
open Go.RowKit Go.Lib Go.Proofs.YtpcncpegbboljaaGreatDoor Go.Proofs.YtpcncpegbboljaaGreatDoor.Pure
set_option linter.unusedVariables false
set_option linter.unusedSimpArgs false
theorem cut_len (c : UInt8) (l : List UInt8) : (cutL c l).1.length ≤ l.length ∧ (cutL c l).2.1.length ≤ l.length := by
  unfold cutL
  split
  · refine ⟨List.IsPrefix.length_le (List.takeWhile_prefix _), ?_⟩
    have := List.IsSuffix.length_le (List.dropWhile_suffix (l := l) (· != c))
    simp only [List.length_drop]; omega
  · exact ⟨Nat.le_refl _, by simp⟩
theorem trim_len (l p : List UInt8) : (trimPrefix l p).length ≤ l.length := by
  unfold trimPrefix; split
  · simp
  · exact Nat.le_refl _
theorem mk_l (l : List UInt8) : (⟨l.toArray⟩ : ByteArray).data.toList = l := rfl
theorem cut_got (s : ByteArray) (c : UInt8) (hs : s.size ≤ 1100000) : strings_Cut.f s ⟨#[c]⟩ = some (⟨(cutL c s.data.toList).1.toArray⟩, ⟨(cutL c s.data.toList).2.1.toArray⟩, (cutL c s.data.toList).2.2) := by
  unfold strings_Cut.f
  rw [if_pos ⟨rfl, by omega⟩]; rfl
theorem one_split (s : ByteArray) (hs : s.size ≤ 1100000) : ∃ (R0 N1 R1 N2 R2 N3 R3 R4 NM X5 : ByteArray) (is f1 f2 f3 f4 f5 : Bool),
    strings_CutPrefix.f s ⟨#[61, 63]⟩ = some (R0, is) ∧ strings_Cut.f R0 ⟨#[63]⟩ = some (N1, R1, f1) ∧ strings_Cut.f R1 ⟨#[63]⟩ = some (N2, R2, f2) ∧ strings_Cut.f R2 ⟨#[63]⟩ = some (N3, R3, f3)
    ∧ strings_CutPrefix.f R3 ⟨#[61]⟩ = some (R4, f4) ∧ strings_Cut.f N1 ⟨#[42]⟩ = some (NM, X5, f5)
    ∧ N1.size ≤ s.size ∧ N2.size ≤ s.size ∧ N3.size ≤ s.size ∧ R4.size ≤ s.size ∧ NM.size ≤ N1.size
    ∧ (is = false ∨ f1 = false ∨ f2 = false ∨ f3 = false ∨ f4 = false ∨ N1.size < 1 ∨ 40 < N1.size ∨ (N1 ++ N2 ++ N3).data.toList.any white = true ∨ (knownL (labelL NM)).2 = false → oneL s.data.toList = ([], 0))
    ∧ (is = true → f1 = true → f2 = true → f3 = true → f4 = true → 1 ≤ N1.size → N1.size ≤ 40 → (N1 ++ N2 ++ N3).data.toList.any white = false → (knownL (labelL NM)).2 = true →
        ((N2.data.toList = [66] ∨ N2.data.toList = [98]) → oneL s.data.toList = (decL (knownL (labelL NM)).1 (B64.b64DecL N3.data.toList), s.size - R4.size))
        ∧ (¬ N2.data.toList = [66] → ¬ N2.data.toList = [98] → (N2.data.toList = [81] ∨ N2.data.toList = [113]) → oneL s.data.toList = (decL (knownL (labelL NM)).1 (WordQ.quotedL N3.data.toList), s.size - R4.size))
        ∧ (¬ N2.data.toList = [66] → ¬ N2.data.toList = [98] → ¬ N2.data.toList = [81] → ¬ N2.data.toList = [113] → oneL s.data.toList = ([], 0))) := by
  have hl : s.data.toList.length = s.size := by simp
  have d0 := trim_len s.data.toList [61, 63]
  have d1 := cut_len 63 (trimPrefix s.data.toList [61, 63])
  have d2 := cut_len 63 (cutL 63 (trimPrefix s.data.toList [61, 63])).2.1
  have d3 := cut_len 63 (cutL 63 (cutL 63 (trimPrefix s.data.toList [61, 63])).2.1).2.1
  have d4 := trim_len (cutL 63 (cutL 63 (cutL 63 (trimPrefix s.data.toList [61, 63])).2.1).2.1).2.1 [61]
  have d5 := cut_len 42 (cutL 63 (trimPrefix s.data.toList [61, 63])).1
  refine ⟨_, _, _, _, _, _, _, _, _, _, _, _, _, _, _, _, rfl, cut_got _ 63 ?_, cut_got _ 63 ?_, cut_got _ 63 ?_, rfl, cut_got _ 42 ?_, ?_, ?_, ?_, ?_, ?_, ?_, ?_⟩
  any_goals (simp only [mk_l, mk_size]; omega)
  · simp only [mk_l, mk_size]
    intro h
    unfold oneL
    refine if_neg ?_
    rintro ⟨c1, c2, c3, c4, c5, c6, c7, c8, c9⟩
    have e0 : trimPrefix s.data.toList [61, 63] = s.data.toList.drop 2 := by
      unfold trimPrefix
      rw [if_pos (show hasPrefix s.data.toList [61, 63] = true from c1)]; rfl
    have c1' : hasPrefix s.data.toList [61, 63] = true := c1
    rw [e0] at h
    simp only [ByteArray.data_append, Array.toList_append] at h
    rcases h with h | h | h | h | h | h | h | h | h
    · rw [c1'] at h; simp at h
    · rw [c2] at h; simp at h
    · rw [c3] at h; simp at h
    · rw [c4] at h; simp at h
    · rw [c5] at h; simp at h
    · omega
    · omega
    · rw [c8] at h; simp at h
    · rw [c9] at h; simp at h
  · simp only [mk_l, mk_size]
    intro h1 h2 h3 h4 h5 h6 h7 h8 h9
    have e0 : trimPrefix s.data.toList [61, 63] = s.data.toList.drop 2 := by
      unfold trimPrefix
      rw [if_pos h1]; rfl
    simp only [ByteArray.data_append, Array.toList_append] at h8
    rw [e0] at h2 h3 h4 h5 h6 h7 h8 h9 ⊢
    have e4 : (trimPrefix (cutL 63 (cutL 63 (cutL 63 (s.data.toList.drop 2)).2.1).2.1).2.1 [61]).length = (cutL 63 (cutL 63 (cutL 63 (s.data.toList.drop 2)).2.1).2.1).2.1.length - 1 := by
      unfold trimPrefix; rw [if_pos h5]; simp
    rw [e4, ← hl]
    refine ⟨fun hb => ?_, fun n1 n2 hq => ?_, fun n1 n2 n3 n4 => ?_⟩
    · unfold oneL; rw [if_pos ⟨h1, h2, h3, h4, h5, h6, h7, h8, h9⟩, if_pos hb]
    · unfold oneL; rw [if_pos ⟨h1, h2, h3, h4, h5, h6, h7, h8, h9⟩, if_neg (fun h => h.elim n1 n2), if_pos hq]
    · unfold oneL; rw [if_pos ⟨h1, h2, h3, h4, h5, h6, h7, h8, h9⟩, if_neg (fun h => h.elim n1 n2), if_neg (fun h => h.elim n3 n4)]
theorem decGo_len : ∀ (l : List UInt8) (a b : Nat), (B64.decGo a b l).length ≤ 2 * l.length
  | [], _, _ => by simp [B64.decGo]
  | c :: r, a, b => by
    simp only [B64.decGo, List.length_cons]
    split
    · rw [List.length_append]
      have := B64.emit_len 8 ((a * 2 ^ 6 + (B64.placeC c).toNat) % 65536) 2 (b + 6)
      have := decGo_len r ((a * 2 ^ 6 + (B64.placeC c).toNat) % 65536) ((b + 6) % 8)
      omega
    · have := decGo_len r a b; omega
theorem b64Dec_len (l : List UInt8) : (B64.b64DecL l).length ≤ 2 * l.length := by
  unfold B64.b64DecL
  rw [List.length_map]
  have := decGo_len (cutL 61 l).1 0 0
  have := (cut_len 61 l).1
  omega
theorem white_any (N : ByteArray) : N.data.toList.any (⟨#[32, 9, 10, 13]⟩ : ByteArray).data.toList.contains = N.data.toList.any white := rfl
set_option maxRecDepth 100000 in
set_option maxHeartbeats 8000000 in
theorem one_c (s : ByteArray) (hs : s.size ≤ 1100000) (w : World) (hGl : Glob w) :
    Calls Tryz.prog 68 #[.string s] w fun e w' => e = .returned (.tuple #[.string ⟨(oneL s.data.toList).1.toArray⟩, .int .i64 ((oneL s.data.toList).2 : Int)]) ∧ Below w.heap.size w w' := by
  obtain ⟨R0, N1, R1, N2, R2, N3, R3, R4, NM, X5, is, f1, f2, f3, f4, f5, g0, g1, g2, g3, g4, g5, z1, z2, z3, z4, z5, hno, hyes⟩ := one_split s hs
  have HNO := Lib.hid hno; have HYES := Lib.hid hyes; have GL := Lib.hid hGl
  have CP0 := Lib.hid (fun W => strings_CutPrefix.calls s _ _ _ W g0)
  have CU0 := Lib.hid (fun W => strings_Cut.calls R0 _ _ _ _ W g1)
  have CU1 := Lib.hid (fun W => strings_Cut.calls R1 _ _ _ _ W g2)
  have CU2 := Lib.hid (fun W => strings_Cut.calls R2 _ _ _ _ W g3)
  have CP3 := Lib.hid (fun W => strings_CutPrefix.calls R3 _ _ _ W g4)
  have CU4 := Lib.hid (fun W => strings_Cut.calls N1 _ _ _ _ W g5)
  have hcat : (N1 ++ N2 ++ N3).size = N1.size + N2.size + N3.size := by rw [ByteArray.size_append, ByteArray.size_append]
  have CA := Lib.hid (fun W => containsAny_c (N1 ++ N2 ++ N3) (⟨#[32, 9, 10, 13]⟩ : ByteArray) (by decide) (by decide) (by decide) (by rw [hcat]; omega) W)
  rw [white_any] at CA
  have DB := Lib.hid (fun W => B64.Decode_c N3 (by omega) W)
  have DQ := Lib.hid (fun W => WordQ.quoted_c N3 (by omega) W)
  have tb : (⟨(B64.b64DecL N3.data.toList).toArray⟩ : ByteArray).size ≤ 11000000 := by
    rw [mk_size]; have := b64Dec_len N3.data.toList; have : N3.data.toList.length = N3.size := by simp
    omega
  have tq : (⟨(WordQ.quotedL N3.data.toList).toArray⟩ : ByteArray).size ≤ 11000000 := by
    rw [mk_size]; have := WordQ.quoted_len _ N3.data.toList (Nat.le_refl _); have : N3.data.toList.length = N3.size := by simp
    omega
  generalize hwh : (N1 ++ N2 ++ N3).data.toList.any white = wh at *
  clear hno hyes g0 g1 g2 g3 g4 g5 hGl hwh
  have s1 : N1.size + N2.size ≤ 11000000 := by omega
  go_enter Tryz.func68, Tryz.ntmps68
  go_upto_region 6 with (first
    | (go_at_call 96; first
        | ((with_reducible refine (CP0.out _).mono ?_); rintro e w1 ⟨rfl, hb1⟩; have HB1 := Lib.hid hb1; clear hb1)
        | ((with_reducible refine (CP3.out _).mono ?_); rintro e w5 ⟨rfl, hb5⟩; have HB5 := Lib.hid (HB4.out.trans (hb5.mono HB4.out.size)); clear hb5))
    | (go_at_call 23; first
        | ((with_reducible refine (CU0.out _).mono ?_); rintro e w2 ⟨rfl, hb2⟩; have HB2 := Lib.hid (HB1.out.trans (hb2.mono HB1.out.size)); clear hb2)
        | ((with_reducible refine (CU1.out _).mono ?_); rintro e w3 ⟨rfl, hb3⟩; have HB3 := Lib.hid (HB2.out.trans (hb3.mono HB2.out.size)); clear hb3)
        | ((with_reducible refine (CU2.out _).mono ?_); rintro e w4 ⟨rfl, hb4⟩; have HB4 := Lib.hid (HB3.out.trans (hb4.mono HB3.out.size)); clear hb4)))
  cases is with
  | false =>
    have HE := Lib.hid (HNO.out (by simp))
    go_wp2_with fail
    go_ret2
    exact ⟨by rw [HE.out]; rfl, HB5.out⟩
  | true =>
  cases f1 with
  | false =>
    have HE := Lib.hid (HNO.out (by simp))
    go_wp2_with fail
    go_ret2
    exact ⟨by rw [HE.out]; rfl, HB5.out⟩
  | true =>
  cases f2 with
  | false =>
    have HE := Lib.hid (HNO.out (by simp))
    go_wp2_with fail
    go_ret2
    exact ⟨by rw [HE.out]; rfl, HB5.out⟩
  | true =>
  cases f3 with
  | false =>
    have HE := Lib.hid (HNO.out (by simp))
    go_wp2_with fail
    go_ret2
    exact ⟨by rw [HE.out]; rfl, HB5.out⟩
  | true =>
  cases f4 with
  | false =>
    have HE := Lib.hid (HNO.out (by simp))
    go_wp2_with fail
    go_ret2
    exact ⟨by rw [HE.out]; rfl, HB5.out⟩
  | true =>
  by_cases m1 : N1.size < 1
  · have m1i : (N1.size : Int) < 1 := by omega
    have HE := Lib.hid (HNO.out (by simp [m1]))
    go_wp2_with fail
    go_ret2
    exact ⟨by rw [HE.out]; rfl, HB5.out⟩
  · have m1i : ¬ (N1.size : Int) < 1 := by omega
    have m1j : ¬ N1.size = 0 := by omega
    by_cases m2 : 40 < N1.size
    · have m2i : (40 : Int) < (N1.size : Int) := by omega
      have HE := Lib.hid (HNO.out (by simp [m2]))
      go_wp2_with fail
      go_ret2
      exact ⟨by rw [HE.out]; rfl, HB5.out⟩
    · have m2i : ¬ (40 : Int) < (N1.size : Int) := by omega
      have KN := Lib.hid (fun W => Alph.known_c NM (by omega) W)
      have hnm : NM.size ≤ 5000 := by omega
      cases wh with
      | true =>
        have HE := Lib.hid (HNO.out (by simp))
        go_wp2_with (go_at_call 25; refine (CA.out _).mono ?_; rintro e w6 ⟨rfl, hb6⟩; have HB6 := Lib.hid (HB5.out.trans (hb6.mono HB5.out.size)); clear hb6)
        go_ret2
        exact ⟨by rw [HE.out]; rfl, HB6.out⟩
      | false =>
        have DC1 := Lib.hid (fun W g => Alph.decode_c NM _ hnm tb W g)
        have DC2 := Lib.hid (fun W g => Alph.decode_c NM _ hnm tq W g)
        simp only [mk_l] at DC1 DC2
        generalize knownL (labelL NM) = kn at *
        obtain ⟨K1, k2⟩ := kn
        simp only at HNO HYES KN DC1 DC2
        cases k2 with
        | false =>
          have HE := Lib.hid (HNO.out (by simp))
          go_wp2_with (first
            | (go_at_call 25; refine (CA.out _).mono ?_; rintro e w6 ⟨rfl, hb6⟩; have HB6 := Lib.hid (HB5.out.trans (hb6.mono HB5.out.size)); clear hb6)
            | (go_at_call 23; refine (CU4.out _).mono ?_; rintro e w7 ⟨rfl, hb7⟩; have HB7 := Lib.hid (HB6.out.trans (hb7.mono HB6.out.size)); clear hb7)
            | (go_at_call 97; refine (KN.out _).mono ?_; rintro e w8 ⟨rfl, hb8⟩; have HB8 := Lib.hid (HB7.out.trans (hb8.mono HB7.out.size)); clear hb8))
          go_ret2
          exact ⟨by rw [HE.out]; rfl, HB8.out⟩
        | true =>
          obtain ⟨yb, yq, yn⟩ := HYES.out (by simp) (by simp) (by simp) (by simp) (by simp) (by omega) (by omega) (by simp) (by simp)
          have HSUB := Lib.hid (show ((s.size - R4.size : Nat) : Int) = (s.size : Int) - (R4.size : Int) by omega)
          clear HYES HNO
          generalize B64.b64DecL N3.data.toList = TB at *
          generalize WordQ.quotedL N3.data.toList = TQ at *
          by_cases n66 : N2.data.toList = [66]
          · have HY := Lib.hid (yb (.inl n66))
            obtain rfl : N2 = ⟨#[66]⟩ := ba_ext n66
            clear yb yq yn n66
            go_wp2_with (first
              | (go_at_call 25; refine (CA.out _).mono ?_; rintro e w6 ⟨rfl, hb6⟩; have HB6 := Lib.hid (HB5.out.trans (hb6.mono HB5.out.size)); clear hb6)
              | (go_at_call 23; refine (CU4.out _).mono ?_; rintro e w7 ⟨rfl, hb7⟩; have HB7 := Lib.hid (HB6.out.trans (hb7.mono HB6.out.size)); clear hb7)
              | (go_at_call 97; refine (KN.out _).mono ?_; rintro e w8 ⟨rfl, hb8⟩; have HB8 := Lib.hid (HB7.out.trans (hb8.mono HB7.out.size)); clear hb8)
              | (go_at_call 98; refine (DB.out _).mono ?_; rintro e w9 ⟨rfl, hb9⟩; have HB9 := Lib.hid (HB8.out.trans (hb9.mono HB8.out.size)); clear hb9)
              | (go_at_call 100; refine (DC1.out _ (GL.out.below HB9.out)).mono ?_; rintro e wA ⟨rfl, hbA⟩; have HBA := Lib.hid (HB9.out.trans (hbA.mono HB9.out.size)); clear hbA))
            go_ret2
            refine ⟨?_, HBA.out⟩
            rw [HY.out]
            show _ = Ending.returned (.tuple #[.string _, .int .i64 ((s.size - R4.size : Nat) : Int)])
            rw [HSUB.out]
            rfl
          by_cases n98 : N2.data.toList = [98]
          · have HY := Lib.hid (yb (.inr n98))
            obtain rfl : N2 = ⟨#[98]⟩ := ba_ext n98
            clear yb yq yn n98 n66
            go_wp2_with (first
              | (go_at_call 25; refine (CA.out _).mono ?_; rintro e w6 ⟨rfl, hb6⟩; have HB6 := Lib.hid (HB5.out.trans (hb6.mono HB5.out.size)); clear hb6)
              | (go_at_call 23; refine (CU4.out _).mono ?_; rintro e w7 ⟨rfl, hb7⟩; have HB7 := Lib.hid (HB6.out.trans (hb7.mono HB6.out.size)); clear hb7)
              | (go_at_call 97; refine (KN.out _).mono ?_; rintro e w8 ⟨rfl, hb8⟩; have HB8 := Lib.hid (HB7.out.trans (hb8.mono HB7.out.size)); clear hb8)
              | (go_at_call 98; refine (DB.out _).mono ?_; rintro e w9 ⟨rfl, hb9⟩; have HB9 := Lib.hid (HB8.out.trans (hb9.mono HB8.out.size)); clear hb9)
              | (go_at_call 100; refine (DC1.out _ (GL.out.below HB9.out)).mono ?_; rintro e wA ⟨rfl, hbA⟩; have HBA := Lib.hid (HB9.out.trans (hbA.mono HB9.out.size)); clear hbA))
            go_ret2
            refine ⟨?_, HBA.out⟩
            rw [HY.out]
            show _ = Ending.returned (.tuple #[.string _, .int .i64 ((s.size - R4.size : Nat) : Int)])
            rw [HSUB.out]
            rfl
          by_cases n81 : N2.data.toList = [81]
          · have HY := Lib.hid (yq n66 n98 (.inl n81))
            obtain rfl : N2 = ⟨#[81]⟩ := ba_ext n81
            clear yb yq yn n81 n66 n98
            go_wp2_with (first
              | (go_at_call 25; refine (CA.out _).mono ?_; rintro e w6 ⟨rfl, hb6⟩; have HB6 := Lib.hid (HB5.out.trans (hb6.mono HB5.out.size)); clear hb6)
              | (go_at_call 23; refine (CU4.out _).mono ?_; rintro e w7 ⟨rfl, hb7⟩; have HB7 := Lib.hid (HB6.out.trans (hb7.mono HB6.out.size)); clear hb7)
              | (go_at_call 97; refine (KN.out _).mono ?_; rintro e w8 ⟨rfl, hb8⟩; have HB8 := Lib.hid (HB7.out.trans (hb8.mono HB7.out.size)); clear hb8)
              | (go_at_call 99; refine (DQ.out _).mono ?_; rintro e w9 ⟨rfl, hb9⟩; have HB9 := Lib.hid (HB8.out.trans (hb9.mono HB8.out.size)); clear hb9)
              | (go_at_call 100; refine (DC2.out _ (GL.out.below HB9.out)).mono ?_; rintro e wA ⟨rfl, hbA⟩; have HBA := Lib.hid (HB9.out.trans (hbA.mono HB9.out.size)); clear hbA))
            go_ret2
            refine ⟨?_, HBA.out⟩
            rw [HY.out]
            show _ = Ending.returned (.tuple #[.string _, .int .i64 ((s.size - R4.size : Nat) : Int)])
            rw [HSUB.out]
            rfl
          by_cases n113 : N2.data.toList = [113]
          · have HY := Lib.hid (yq n66 n98 (.inr n113))
            obtain rfl : N2 = ⟨#[113]⟩ := ba_ext n113
            clear yb yq yn n113 n66 n98 n81
            go_wp2_with (first
              | (go_at_call 25; refine (CA.out _).mono ?_; rintro e w6 ⟨rfl, hb6⟩; have HB6 := Lib.hid (HB5.out.trans (hb6.mono HB5.out.size)); clear hb6)
              | (go_at_call 23; refine (CU4.out _).mono ?_; rintro e w7 ⟨rfl, hb7⟩; have HB7 := Lib.hid (HB6.out.trans (hb7.mono HB6.out.size)); clear hb7)
              | (go_at_call 97; refine (KN.out _).mono ?_; rintro e w8 ⟨rfl, hb8⟩; have HB8 := Lib.hid (HB7.out.trans (hb8.mono HB7.out.size)); clear hb8)
              | (go_at_call 99; refine (DQ.out _).mono ?_; rintro e w9 ⟨rfl, hb9⟩; have HB9 := Lib.hid (HB8.out.trans (hb9.mono HB8.out.size)); clear hb9)
              | (go_at_call 100; refine (DC2.out _ (GL.out.below HB9.out)).mono ?_; rintro e wA ⟨rfl, hbA⟩; have HBA := Lib.hid (HB9.out.trans (hbA.mono HB9.out.size)); clear hbA))
            go_ret2
            refine ⟨?_, HBA.out⟩
            rw [HY.out]
            show _ = Ending.returned (.tuple #[.string _, .int .i64 ((s.size - R4.size : Nat) : Int)])
            rw [HSUB.out]
            rfl
          have HY := Lib.hid (yn n66 n98 n81 n113)
          clear yb yq yn
          have p66 : ¬ N2.toList = [66] := by rw [toList_eq]; exact n66
          have q66 : (N2.toList == [66]) = false := by simpa using p66
          clear n66
          have p98 : ¬ N2.toList = [98] := by rw [toList_eq]; exact n98
          have q98 : (N2.toList == [98]) = false := by simpa using p98
          clear n98
          have p81 : ¬ N2.toList = [81] := by rw [toList_eq]; exact n81
          have q81 : (N2.toList == [81]) = false := by simpa using p81
          clear n81
          have p113 : ¬ N2.toList = [113] := by rw [toList_eq]; exact n113
          have q113 : (N2.toList == [113]) = false := by simpa using p113
          clear n113
          go_wp2_with (first
            | (go_at_call 25; refine (CA.out _).mono ?_; rintro e w6 ⟨rfl, hb6⟩; have HB6 := Lib.hid (HB5.out.trans (hb6.mono HB5.out.size)); clear hb6)
            | (go_at_call 23; refine (CU4.out _).mono ?_; rintro e w7 ⟨rfl, hb7⟩; have HB7 := Lib.hid (HB6.out.trans (hb7.mono HB6.out.size)); clear hb7)
            | (go_at_call 97; refine (KN.out _).mono ?_; rintro e w8 ⟨rfl, hb8⟩; have HB8 := Lib.hid (HB7.out.trans (hb8.mono HB7.out.size)); clear hb8))
          go_ret2
          exact ⟨by rw [HY.out]; rfl, HB8.out⟩
end Go.Proofs.YtpcncpegbboljaaGreatDoor.WordL
namespace Go.Proofs.YtpcncpegbboljaaGreatDoor.WordL
open Go.RowKit Go.Lib Go.Proofs.YtpcncpegbboljaaGreatDoor Go.Proofs.YtpcncpegbboljaaGreatDoor.Pure
set_option linter.unusedVariables false
set_option linter.unusedSimpArgs false
def pc (L : List UInt8) (f a : Nat) : List UInt8 := (L.take a).drop f
theorem pc_add (L : List UInt8) (f a i : Nat) (h : f ≤ a) (h2 : a ≤ L.length) : pc L f (a + i) = pc L f a ++ (L.drop a).take i := by
  unfold pc
  rw [List.take_add, List.drop_append_of_le_length (by rw [List.length_take]; omega)]
theorem pc_self (L : List UInt8) (a : Nat) : pc L a a = [] := by
  unfold pc; exact List.drop_eq_nil_of_le (by rw [List.length_take]; omega)
theorem dec_end (L : List UInt8) (f a : Nat) (b : Bool) (h : f ≤ a) (h2 : a ≤ L.length) (hi : index (L.drop a) [61, 63] < 0) : wordF (pc L f a) b (L.drop a) = vl (L.drop f) := by
  rw [wordF_plain _ _ _ ((index_begins (L.drop a)).2 hi)]
  congr 1
  have := pc_add L f a (L.length - a) h h2
  rw [show a + (L.length - a) = L.length by omega, List.take_of_length_le (l := L.drop a) (by simp)] at this
  rw [← this]; unfold pc; rw [List.take_length]
theorem dec_fin (L : List UInt8) (f a : Nat) (b : Bool) (h2 : a = L.length) : wordF (pc L f a) b (L.drop a) = vl (L.drop f) := by
  subst h2
  rw [List.drop_length, wordF_nil]; unfold pc; rw [List.take_length]
theorem dec_skip (L : List UInt8) (f a i : Nat) (b : Bool) (h : f ≤ a) (h2 : a ≤ L.length) (hi : index (L.drop a) [61, 63] = (i : Int)) :
    a + i < L.length ∧ wordF (pc L f a) b (L.drop a) = wordF (pc L f (a + i)) b (L.drop (a + i)) := by
  obtain ⟨h3, h4, h5⟩ := (index_begins (L.drop a)).1 i hi
  rw [List.length_drop] at h3
  refine ⟨by omega, ?_⟩
  rw [wordF_skip i _ _ _ (by rw [List.length_drop]; omega) h5, pc_add L f a i h h2, List.drop_drop]
theorem dec_no (L : List UInt8) (f a : Nat) (b : Bool) (h : f ≤ a) (h2 : a < L.length) (h0 : (oneL (L.drop a)).2 = 0) :
    wordF (pc L f a) b (L.drop a) = wordF (pc L f (a + 1)) b (L.drop (a + 1)) := by
  have hc : L.drop a = L[a] :: L.drop (a + 1) := List.drop_eq_getElem_cons h2
  rw [pc_add L f a 1 h (by omega), hc, wordF_no _ _ _ _ (by rw [← hc]; exact h0)]
  rfl
theorem dec_yes (L : List UInt8) (f a : Nat) (b : Bool) (h0 : ¬ (oneL (L.drop a)).2 = 0) :
    wordF (pc L f a) b (L.drop a) = (if (b && (pc L f a).all white) = true then [] else vl (pc L f a)) ++ (oneL (L.drop a)).1 ++ wordF (pc L (a + (oneL (L.drop a)).2) (a + (oneL (L.drop a)).2)) true (L.drop (a + (oneL (L.drop a)).2)) := by
  rw [wordF_yes _ _ _ h0, pc_self, List.drop_drop]
theorem one_len1 (l : List UInt8) : (oneL l).1.length ≤ 6 * l.length := by
  have d1 := cut_len 63 (l.drop 2)
  have d2 := cut_len 63 (cutL 63 (l.drop 2)).2.1
  have d3 := cut_len 63 (cutL 63 (cutL 63 (l.drop 2)).2.1).2.1
  rw [List.length_drop] at d1
  unfold oneL
  split
  · split
    · have := decL_len (knownL (labelL ⟨(cutL 42 (cutL 63 (l.drop 2)).1).1.toArray⟩)).1 (B64.b64DecL (cutL 63 (cutL 63 (cutL 63 (l.drop 2)).2.1).2.1).1)
      have := b64Dec_len (cutL 63 (cutL 63 (cutL 63 (l.drop 2)).2.1).2.1).1
      simp only; omega
    · split
      · have := decL_len (knownL (labelL ⟨(cutL 42 (cutL 63 (l.drop 2)).1).1.toArray⟩)).1 (WordQ.quotedL (cutL 63 (cutL 63 (cutL 63 (l.drop 2)).2.1).2.1).1)
        have := WordQ.quoted_len _ (cutL 63 (cutL 63 (cutL 63 (l.drop 2)).2.1).2.1).1 (Nat.le_refl _)
        simp only; omega
      · simp
  · simp
theorem trim_white (l : List UInt8) : Lib.trimS l [32, 9, 10, 13] = [] ↔ l.all white = true := by
  have e : Lib.trimS l [32, 9, 10, 13] = rdrop white (l.dropWhile white) := by
    rw [← drop_rdrop]; rfl
  have key : ∀ l : List UInt8, rdrop white l = [] ↔ l.all white = true := by
    intro l
    induction l with
    | nil => simp [rdrop]
    | cons x xs ih =>
      rw [rdrop_cons, List.all_cons]
      by_cases hx : rdrop white xs = []
      · rw [if_pos hx, ih.1 hx]
        cases white x <;> simp
      · rw [if_neg hx]
        have : xs.all white = false := Bool.eq_false_iff.2 (fun h => hx (ih.2 h))
        simp [this]
  rw [e, key]
  clear e
  induction l with
  | nil => simp
  | cons x xs ih =>
    rw [List.dropWhile_cons, List.all_cons]
    cases hx : white x with
    | true => rw [if_pos rfl]; simp only [Bool.true_and]; exact ih
    | false => simp [hx]
theorem valid_c (V : ByteArray) (hV : V.size ≤ 11000000) (W : World) : Calls Tryz.prog 18 #[.string V] W fun e w' => e = .returned (.string ⟨(vl V.data.toList).toArray⟩) ∧ Below W.heap.size W w' := by
  have := chars_Valid.calls V (validS V) W (guard_of (by omega))
  rw [validS_eq] at this
  exact this
theorem trim_c (P : ByteArray) (hP : P.size ≤ 11000000) (W : World) : Calls Tryz.prog 43 #[.string P, .string (⟨#[32, 9, 10, 13]⟩ : ByteArray)] W fun e w' => e = .returned (.string ⟨(Lib.trimS P.data.toList [32, 9, 10, 13]).toArray⟩) ∧ Below W.heap.size W w' :=
  strings_Trim.calls P _ _ W (guard_of ⟨by omega, by decide, by decide⟩)
theorem vl_len (l : List UInt8) : (vl l).length ≤ 3 * l.length := valL_len _ _
set_option maxRecDepth 100000 in
set_option maxHeartbeats 8000000 in
theorem Decode_c (s : ByteArray) (hs : s.size ≤ 1100000) (w : World) (hGl : Glob w) :
    Calls Tryz.prog 42 #[.string s] w fun e w' => e = .returned (.string ⟨(wordL s.data.toList).toArray⟩) ∧ Below w.heap.size w w' := by
  have WS : ∀ (acc : List UInt8) (x : ByteArray) (W : World), IsBuilderF 48 5 w.heap.size w.heap.size (byteCells acc) W → acc.length + x.size ≤ 100000000000000 → w.heap.size ≤ W.heap.size →
      Calls Tryz.prog 41 #[.pointer (some ⟨w.heap.size, 0, none⟩), .string x] W fun e w' => e = .returned (.tuple #[.int .i64 x.size, .nilIface]) ∧ (IsBuilderF 48 5 w.heap.size w.heap.size (byteCells (acc ++ x.data.toList)) w' ∧ Below w.heap.size W w') := by
    intro acc x W h h1 h2
    refine (Bld.WriteString_k _ _ _ x W h (by rw [byteCells_length]; omega) h2).mono ?_
    rintro e w' ⟨rfl, k1, k2, _⟩
    exact ⟨rfl, by rw [byteCells_append]; exact k1, k2⟩
  have HWS := Lib.hid WS
  have GL := Lib.hid hGl
  clear WS hGl
  have hl : s.data.toList.length = s.size := by simp
  have HL := Lib.hid hl
  clear hl
  go_enter Tryz.func42, Tryz.ntmps42
  go_wp2
  go_step3
  go_wp2_with fail
  go_step3
  go_wp2_with fail
  go_loopw [4, 5, 6] (fun fv bv av wr => ∃ (f a : Nat) (b : Bool) (acc : List UInt8), fv = .int .i64 (f : Int) ∧ bv = .bool b ∧ av = .int .i64 (a : Int) ∧ f ≤ a ∧ a ≤ s.size ∧ acc ++ wordF (pc s.data.toList f a) b (s.data.toList.drop a) = wordL s.data.toList ∧ acc.length ≤ 11000000 * a ∧ IsBuilderF 48 5 w.heap.size w.heap.size (byteCells acc) wr ∧ Below w.heap.size w wr) (fun _ _ av _ => s.size - (RowKit.intOf av).toNat)
  case atStart => exact ⟨0, 0, false, [], rfl, rfl, rfl, Nat.le_refl _, Nat.zero_le _, rfl, by simp, IsBuilderF.of (Lib.fresh_isBuilder 48 5 w), (Below.refl _ w).alloc (Nat.le_refl _) _⟩
  case round =>
    obtain ⟨f, a, b, acc, rfl, rfl, rfl, hfa, has, he, hal, hI, hB⟩ := hrel
    have HE := Lib.hid he; have HI := Lib.hid hI; have HB := Lib.hid hB; have HAL := Lib.hid hal
    clear he hI hB hal
    by_cases hlt : a < s.size
    · have hlti : (a : Int) < (s.size : Int) := by omega
      have hasi : (a : Int) ≤ (s.size : Int) := by omega
      obtain ⟨U, hU⟩ : ∃ U, s.extract a s.size = U := ⟨_, rfl⟩
      have hUd : U.data.toList = s.data.toList.drop a := by rw [← hU, extract_list, List.take_of_length_le (by rw [HL.out]; exact Nat.le_refl _)]
      have hUz : U.size ≤ 1100000 := by rw [← hU]; simp; omega
      obtain ⟨m, hm⟩ := (GL.out.below HB.out).maxl
      have IX := Lib.hid (fun (W : World) (h : W.cell? ⟨0, 0, none⟩ = some (.int .i64 m)) => Tryz.strings_Index U (⟨#[61, 63]⟩ : ByteArray) m W (by omega) h)
      have HM := Lib.hid hm
      rw [hUd, show (⟨#[61, 63]⟩ : ByteArray).data.toList = [61, 63] from rfl] at IX
      clear hm
      by_cases hneg : index (s.data.toList.drop a) [61, 63] < 0
      · have he2 : acc ++ vl (s.data.toList.drop f) = wordL s.data.toList := by rw [← HE.out, dec_end _ _ _ _ hfa (by rw [HL.out]; omega) hneg]
        generalize index (s.data.toList.drop a) [61, 63] = ix at *
        obtain ⟨V, hV⟩ : ∃ V, s.extract f s.size = V := ⟨_, rfl⟩
        have hVd : V.data.toList = s.data.toList.drop f := by rw [← hV, extract_list, List.take_of_length_le (by rw [HL.out]; exact Nat.le_refl _)]
        have hVz : V.size ≤ 1100000 := by rw [← hV]; simp; omega
        have VC := Lib.hid (fun W => valid_c V (by omega) W)
        have hvl : (vl V.data.toList).length ≤ 3300000 := by (have := vl_len V.data.toList; have h3 : V.data.toList.length = V.size := (by simp); omega)
        rw [← hVd] at he2
        have HE2 := Lib.hid he2; have HVL := Lib.hid hvl
        clear he2 hVd hvl
        have hfi : (f : Int) ≤ (s.size : Int) := by omega
        have hfs : f ≤ s.size := by omega
        generalize vl V.data.toList = vv at *
        go_wp2_with (first
          | (go_at_call 52; refine (IX.out _ HM.out).mono ?_; rintro e W0 ⟨rfl, rfl⟩)
          | (go_at_call 18; refine (VC.out _).mono ?_; rintro e W1 ⟨rfl, b1⟩; have B1 := Lib.hid b1; clear b1)
          | (go_at_call 41; refine (HWS.out acc _ _ (IsBuilderF.below HI.out B1.out) (by rw [mk_size]; have := HVL.out; have := HAL.out; omega) (HB.out.trans (B1.out.mono HB.out.size)).size).mono ?_; rintro e W2 ⟨rfl, k1, k2⟩; have K1 := Lib.hid k1; have K2 := Lib.hid ((HB.out.trans (B1.out.mono HB.out.size)).trans k2); clear k1 k2)
          | (go_at_call 36; refine (Tryz.Builder_String_any_k w.heap.size w.heap.size _ _ K1.out K2.out.size).mono ?_; rintro e W3 ⟨rfl, _, b3, _⟩; have B3 := Lib.hid b3; clear b3))
        first | go_ret | (rw [Exit.noGoto_ret]; go_ret) | (rw [Exit.noGoto_ret]; change Exit.noGoto _ Exit.ret _ _; rw [Exit.noGoto_ret]; go_ret)
        exact ⟨by rw [← HE2.out]; rfl, K2.out.trans B3.out⟩
      · obtain ⟨i, hi⟩ : ∃ i : Nat, index (s.data.toList.drop a) [61, 63] = (i : Int) := ⟨(index (s.data.toList.drop a) [61, 63]).toNat, by omega⟩
        obtain ⟨hcl, hsk⟩ := dec_skip _ f a i b hfa (by rw [HL.out]; omega) hi
        rw [HL.out] at hcl
        rw [hi] at IX
        clear hneg hi
        obtain ⟨c, hc⟩ : ∃ c, a + i = c := ⟨_, rfl⟩
        rw [hc] at hcl hsk
        have hac : (a : Int) + (i : Int) = (c : Int) := by omega
        have hfc : f ≤ c := by omega
        have hcs : c ≤ s.size := by omega
        have hcsi : (c : Int) ≤ (s.size : Int) := by omega
        have hfci : (f : Int) ≤ (c : Int) := by omega
        obtain ⟨U2, hU2⟩ : ∃ U, s.extract c s.size = U := ⟨_, rfl⟩
        have hUd2 : U2.data.toList = s.data.toList.drop c := by rw [← hU2, extract_list, List.take_of_length_le (by rw [HL.out]; exact Nat.le_refl _)]
        have hUz2 : U2.size ≤ 1100000 := by rw [← hU2]; simp; omega
        have ONE := Lib.hid (fun W g => one_c U2 hUz2 W g)
        rw [hUd2] at ONE
        have hn1 := one_len1 (s.data.toList.drop c)
        have hn2 := one_le (s.data.toList.drop c)
        rw [List.length_drop, HL.out] at hn1 hn2
        have hno := dec_no s.data.toList f c b hfc (by rw [HL.out]; omega)
        have hye := dec_yes s.data.toList f c b
        have HSK := Lib.hid hsk; have HAC := Lib.hid hc
        clear hsk hUd2 hc hUd
        generalize oneL (s.data.toList.drop c) = d at *
        obtain ⟨tt, n⟩ := d
        simp only at ONE hn1 hn2 hno hye
        have hai : a ≤ c := by have := HAC.out; omega
        have HNO := Lib.hid hno; have HYE := Lib.hid hye
        clear hno hye
        by_cases hn : n = 0
        · subst hn
          go_wp2_with (first
            | (go_at_call 52; refine (IX.out _ HM.out).mono ?_; rintro e W0 ⟨rfl, rfl⟩)
            | (go_at_call 68; refine (ONE.out _ (GL.out.below HB.out)).mono ?_; rintro e W1 ⟨rfl, b1⟩; have B1 := Lib.hid b1; clear b1))
          go_roundw
          case rel =>
            have := HAL.out
            exact ⟨f, c + 1, b, acc, rfl, rfl, by go_num, by omega, by omega, by rw [← HNO.out (by simp), ← HSK.out]; exact HE.out, by omega, IsBuilderF.below HI.out B1.out, HB.out.trans (B1.out.mono HB.out.size)⟩
          case measure => simp [RowKit.intOf]; omega
        · have hni : ¬ (n : Int) = 0 := by omega
          obtain ⟨P, hP⟩ : ∃ P, s.extract f c = P := ⟨_, rfl⟩
          have hPd : P.data.toList = pc s.data.toList f c := by rw [← hP, extract_list]; rfl
          have hPz : P.size ≤ 1100000 := by rw [← hP]; simp; omega
          have VP := Lib.hid (fun W => valid_c P (by omega) W)
          have TP := Lib.hid (fun W => trim_c P (by omega) W)
          have hvl : (vl P.data.toList).length ≤ 3300000 := by (have := vl_len P.data.toList; have h3 : P.data.toList.length = P.size := (by simp); omega)
          have htz : (⟨tt.toArray⟩ : ByteArray).size = tt.length := mk_size tt
          have htl : tt.length ≤ 6600000 := by omega
          have hte := trim_white P.data.toList
          have hye := HYE.out hn
          rw [← hPd] at hye
          have HPD := Lib.hid hPd; have HYE2 := Lib.hid hye; have HVL := Lib.hid hvl; have HTZ := Lib.hid htz
          clear HNO HYE hPd hvl hye htz hn1
          have hcn : c + n ≤ s.size := by omega
          have hcni : (c : Int) + (n : Int) ≤ (s.size : Int) := by omega
          have hxs : (⟨(Lib.trimS P.data.toList [32, 9, 10, 13]).toArray⟩ : ByteArray).data.toList = Lib.trimS P.data.toList [32, 9, 10, 13] := rfl
          generalize (⟨(Lib.trimS P.data.toList [32, 9, 10, 13]).toArray⟩ : ByteArray) = TT at *
          generalize Lib.trimS P.data.toList [32, 9, 10, 13] = tl at *
          have HVV : Hid ((⟨(vl P.data.toList).toArray⟩ : ByteArray).data.toList = vl P.data.toList) := Lib.hid rfl
          have HTX : Hid ((⟨tt.toArray⟩ : ByteArray).data.toList = tt) := Lib.hid rfl
          have hvz : (⟨(vl P.data.toList).toArray⟩ : ByteArray).size ≤ 3300000 := by rw [mk_size]; exact HVL.out
          generalize (⟨(vl P.data.toList).toArray⟩ : ByteArray) = VV at *
          generalize (⟨tt.toArray⟩ : ByteArray) = TX at *
          cases b with
          | false =>
            go_wp2_with (first
              | (go_at_call 52; refine (IX.out _ HM.out).mono ?_; rintro e W0 ⟨rfl, rfl⟩)
              | (go_at_call 68; refine (ONE.out _ (GL.out.below HB.out)).mono ?_; rintro e W1 ⟨rfl, b1⟩; have B1 := Lib.hid (HB.out.trans (b1.mono HB.out.size)); have I1 := Lib.hid (IsBuilderF.below HI.out b1); clear b1)
              | (go_at_call 18; refine (VP.out _).mono ?_; rintro e W2 ⟨rfl, b2⟩; have B2 := Lib.hid (B1.out.trans (b2.mono B1.out.size)); have I2 := Lib.hid (IsBuilderF.below I1.out b2); clear b2)
              | (go_at_call 41; first
                | ((with_reducible refine (HWS.out acc VV _ I2.out (by have := HVL.out; have := HAL.out; omega) B2.out.size).mono ?_); rintro e W3 ⟨rfl, k1, k2⟩; have I3 := Lib.hid k1; have B3 := Lib.hid (B2.out.trans k2); clear k1 k2)
                | ((with_reducible refine (HWS.out (acc ++ VV.data.toList) TX _ I3.out (by have := HVL.out; have := HAL.out; have := HTZ.out; rw [List.length_append, HVV.out]; omega) B3.out.size).mono ?_); rintro e W4 ⟨rfl, k1, k2⟩; have I4 := Lib.hid k1; have B4 := Lib.hid (B3.out.trans k2); clear k1 k2)))
            go_roundw
            case rel =>
              have hal := HAL.out; have hvl := HVL.out
              exact ⟨c + n, c + n, true, acc ++ VV.data.toList ++ TX.data.toList, by go_num, rfl, by go_num, Nat.le_refl _, hcn, by rw [← HE.out, HSK.out, ← HPD.out, HYE2.out, if_neg (by simp), HTX.out, HVV.out]; simp, by rw [List.length_append, List.length_append, HVV.out, HTX.out]; omega, I4.out, B4.out⟩
            case measure => simp [RowKit.intOf]; omega
          | true =>
            by_cases hw : P.data.toList.all white = true
            · have ht0 : TT.toList = [] := by rw [toList_eq, hxs, hte.2 hw]
              have ht1 : TT.toList.isEmpty = true := by rw [ht0]; rfl
              go_wp2_with (first
                | (go_at_call 52; refine (IX.out _ HM.out).mono ?_; rintro e W0 ⟨rfl, rfl⟩)
                | (go_at_call 68; refine (ONE.out _ (GL.out.below HB.out)).mono ?_; rintro e W1 ⟨rfl, b1⟩; have B1 := Lib.hid (HB.out.trans (b1.mono HB.out.size)); have I1 := Lib.hid (IsBuilderF.below HI.out b1); clear b1)
                | (go_at_call 43; refine (TP.out _).mono ?_; rintro e W5 ⟨rfl, b5⟩; have B5 := Lib.hid (B1.out.trans (b5.mono B1.out.size)); have I5 := Lib.hid (IsBuilderF.below I1.out b5); clear b5)
                | (go_at_call 41; (refine (HWS.out acc TX _ I5.out (by have := HAL.out; have := HTZ.out; omega) B5.out.size).mono ?_; rintro e W4 ⟨rfl, k1, k2⟩; have I4 := Lib.hid k1; have B4 := Lib.hid (B5.out.trans k2); clear k1 k2)))
              go_roundw
              case rel =>
                have hal := HAL.out; have hvl := HVL.out
                exact ⟨c + n, c + n, true, acc ++ TX.data.toList, by go_num, rfl, by go_num, Nat.le_refl _, hcn, by rw [← HE.out, HSK.out, ← HPD.out, HYE2.out, if_pos (by simp [hw]), HTX.out]; simp, by rw [List.length_append, HTX.out]; omega, I4.out, B4.out⟩
              case measure => simp [RowKit.intOf]; omega
            · have ht0 : ¬ TT.toList = [] := by rw [toList_eq, hxs]; exact fun h => hw (hte.1 h)
              have ht1 : TT.toList.isEmpty = false := by
                cases h : TT.toList with
                | nil => exact absurd h ht0
                | cons x y => rfl
              go_wp2_with (first
                | (go_at_call 52; refine (IX.out _ HM.out).mono ?_; rintro e W0 ⟨rfl, rfl⟩)
                | (go_at_call 68; refine (ONE.out _ (GL.out.below HB.out)).mono ?_; rintro e W1 ⟨rfl, b1⟩; have B1 := Lib.hid (HB.out.trans (b1.mono HB.out.size)); have I1 := Lib.hid (IsBuilderF.below HI.out b1); clear b1)
                | (go_at_call 43; refine (TP.out _).mono ?_; rintro e W5 ⟨rfl, b5⟩; have B5 := Lib.hid (B1.out.trans (b5.mono B1.out.size)); have I5 := Lib.hid (IsBuilderF.below I1.out b5); clear b5)
                | (go_at_call 18; refine (VP.out _).mono ?_; rintro e W2 ⟨rfl, b2⟩; have B2 := Lib.hid (B5.out.trans (b2.mono B5.out.size)); have I2 := Lib.hid (IsBuilderF.below I5.out b2); clear b2)
                | (go_at_call 41; first
                  | ((with_reducible refine (HWS.out acc VV _ I2.out (by have := HVL.out; have := HAL.out; omega) B2.out.size).mono ?_); rintro e W3 ⟨rfl, k1, k2⟩; have I3 := Lib.hid k1; have B3 := Lib.hid (B2.out.trans k2); clear k1 k2)
                  | ((with_reducible refine (HWS.out (acc ++ VV.data.toList) TX _ I3.out (by have := HVL.out; have := HAL.out; have := HTZ.out; rw [List.length_append, HVV.out]; omega) B3.out.size).mono ?_); rintro e W4 ⟨rfl, k1, k2⟩; have I4 := Lib.hid k1; have B4 := Lib.hid (B3.out.trans k2); clear k1 k2)))
              go_roundw
              case rel =>
                have hal := HAL.out; have hvl := HVL.out
                exact ⟨c + n, c + n, true, acc ++ VV.data.toList ++ TX.data.toList, by go_num, rfl, by go_num, Nat.le_refl _, hcn, by rw [← HE.out, HSK.out, ← HPD.out, HYE2.out, if_neg (by simp [hw]), HTX.out, HVV.out]; simp, by rw [List.length_append, List.length_append, HVV.out, HTX.out]; omega, I4.out, B4.out⟩
              case measure => simp [RowKit.intOf]; omega
    · have he2 : acc ++ vl (s.data.toList.drop f) = wordL s.data.toList := by rw [← HE.out, dec_fin _ _ _ _ (by rw [HL.out]; omega)]
      have hlti : ¬ (a : Int) < (s.size : Int) := by omega
      obtain ⟨V, hV⟩ : ∃ V, s.extract f s.size = V := ⟨_, rfl⟩
      have hVd : V.data.toList = s.data.toList.drop f := by rw [← hV, extract_list, List.take_of_length_le (by rw [HL.out]; exact Nat.le_refl _)]
      have hVz : V.size ≤ 1100000 := by rw [← hV]; simp; omega
      have VC := Lib.hid (fun W => valid_c V (by omega) W)
      have hvl : (vl V.data.toList).length ≤ 3300000 := by (have := vl_len V.data.toList; have h3 : V.data.toList.length = V.size := (by simp); omega)
      rw [← hVd] at he2
      have HE2 := Lib.hid he2; have HVL := Lib.hid hvl
      clear he2 hVd hvl
      have hfi : (f : Int) ≤ (s.size : Int) := by omega
      have hfs : f ≤ s.size := by omega
      generalize vl V.data.toList = vv at *
      go_wp2_with (first
        | (go_at_call 18; refine (VC.out _).mono ?_; rintro e W1 ⟨rfl, b1⟩; have B1 := Lib.hid b1; clear b1)
        | (go_at_call 41; refine (HWS.out acc _ _ (IsBuilderF.below HI.out B1.out) (by rw [mk_size]; have := HVL.out; have := HAL.out; omega) (HB.out.trans (B1.out.mono HB.out.size)).size).mono ?_; rintro e W2 ⟨rfl, k1, k2⟩; have K1 := Lib.hid k1; have K2 := Lib.hid ((HB.out.trans (B1.out.mono HB.out.size)).trans k2); clear k1 k2)
        | (go_at_call 36; refine (Tryz.Builder_String_any_k w.heap.size w.heap.size _ _ K1.out K2.out.size).mono ?_; rintro e W3 ⟨rfl, _, b3, _⟩; have B3 := Lib.hid b3; clear b3))
      first | go_ret | (rw [Exit.noGoto_ret]; go_ret) | (rw [Exit.noGoto_ret]; change Exit.noGoto _ Exit.ret _ _; rw [Exit.noGoto_ret]; go_ret)
      exact ⟨by rw [← HE2.out]; rfl, K2.out.trans B3.out⟩
end Go.Proofs.YtpcncpegbboljaaGreatDoor.WordL
namespace Go.Proofs.YtpcncpegbboljaaGreatDoor.WordL
open Go.RowKit Go.Lib Go.Proofs.YtpcncpegbboljaaGreatDoor Go.Proofs.YtpcncpegbboljaaGreatDoor.Pure
set_option linter.unusedVariables false
set_option linter.unusedSimpArgs false
theorem okC_low (c : UInt8) : okC c = true → c.toNat < 128 := by
  unfold okC; intro h; have := of_decide_eq_true h; omega
def badR (x : Nat) : Bool := decide ((x : Int) < 32) || decide (126 < (x : Int))
theorem idx_ok (s : ByteArray) : ∀ (f pos : Nat), s.size ≤ pos + f → decide (0 ≤ idxFuncFrom badR true s f pos) = !((s.data.toList.drop pos).all okC)
  | 0, pos, h => by
    rw [List.drop_eq_nil_of_le (by simp; omega)]; rfl
  | f + 1, pos, h => by
    have hl : s.data.toList.length = s.size := by simp
    unfold idxFuncFrom
    by_cases hp : pos < s.size
    · rw [if_pos hp, decode_list]
      have hc : s.data.toList.drop pos = s.data.toList[pos] :: s.data.toList.drop (pos + 1) := List.drop_eq_getElem_cons (by rw [hl]; exact hp)
      generalize s.data.toList[pos]'(by rw [hl]; exact hp) = c at hc
      have hb : byteAt (s.data.toList.drop pos) 0 = c.toNat := by rw [hc]; rfl
      by_cases h1 : c.toNat < 128
      · have hd : uDec (s.data.toList.drop pos) = (c.toNat, 1) := by unfold uDec; rw [hb, if_pos h1]
        rw [hd, hc, List.all_cons]
        simp only
        have ih := idx_ok s f (pos + 1) (by omega)
        by_cases hk : okC c = true
        · have hn : ¬ badR c.toNat = true := by
            unfold okC at hk; have := of_decide_eq_true hk
            unfold badR; simp; omega
          rw [if_neg hn, ih, hk, Bool.true_and]
        · have hn : badR c.toNat = true := by
            unfold okC at hk
            have : ¬ (32 ≤ c.toNat ∧ c.toNat ≤ 126) := fun h => hk (decide_eq_true h)
            unfold badR; simp; omega
          rw [if_pos hn, Bool.eq_false_iff.2 hk]
          simp
      · have hd := (dec_highs (s.data.toList.drop pos) (by rw [hc]; simp) (by rw [hb]; omega)).1
        have hn : badR (uDec (s.data.toList.drop pos)).1 = true := by unfold badR; simp; omega
        rw [if_pos hn, hc, List.all_cons]
        have hk : okC c = false := by
          rw [Bool.eq_false_iff]; intro h; exact h1 (okC_low c h)
        rw [hk]; simp
    · rw [if_neg hp, List.drop_eq_nil_of_le (by rw [hl]; omega)]; rfl
theorem idx_all (s : ByteArray) : decide (0 ≤ idxFunc badR true s) = !(s.data.toList.all okC) := by
  have := idx_ok s s.size 0 (by omega)
  rw [List.drop_zero] at this
  exact this
theorem bad_c (W : World) (x : Nat) (hx : x ≤ 1114111) : Calls Tryz.prog 55 #[.int .i32 (x : Int)] W fun e w' => e = .returned (.bool (badR x)) ∧ Below W.heap.size W w' := by
  unfold badR
  by_cases h1 : (x : Int) < 32
  · have h1' : x < 32 := by omega
    go_enter Tryz.func55, Tryz.ntmps55
    go_wp2
    go_ret
    refine ⟨?_, Below.refl _ _⟩
    simp [h1']
    try omega
  · have h1' : ¬ x < 32 := by omega
    go_enter Tryz.func55, Tryz.ntmps55
    go_wp2
    go_ret
    refine ⟨?_, Below.refl _ _⟩
    simp [h1']
    try omega
theorem containsF_c (s : ByteArray) (W : World) : Calls Tryz.prog 26 #[.string s, .func (.func 55) #[] #[]] W fun e w' => e = .returned (.bool (!(s.data.toList.all okC))) ∧ Below W.heap.size W w' := by
  have h := Tryz.strings_ContainsFunc_grows 55 #[] (enters_of Tryz.func55 (by kernel_rfl) rfl) badR s W (fun W2 x hx _ => bad_c W2 x hx)
  rw [idx_all] at h
  exact h
theorem words_step (v : List UInt8) (h : v ≠ []) : wordsL v = wordOf (v.take (chunk v.length v 0)) :: wordsL (v.drop (chunk v.length v 0)) := by
  obtain ⟨n, hn⟩ : ∃ n, v.length = n + 1 := ⟨v.length - 1, by have := List.length_pos_iff.2 h; omega⟩
  have hp := chunk_pos v.length v h (Nat.le_refl _)
  have e : chunks (n + 1) v = v.take (chunk v.length v 0) :: chunks n (v.drop (chunk v.length v 0)) := by
    simp only [chunks]; rw [if_neg h]
  unfold wordsL
  rw [hn, e, List.map_cons, chunks_more _ _ (Nat.le_refl _) n (by rw [List.length_drop]; omega), ← hn]
theorem words_nil : wordsL [] = [] := rfl
theorem wordOf_52 (x : List UInt8) (h : x.length ≤ 30) : (wordOf x).length ≤ 52 := by
  rw [wordOf_len, B64.b64_len]; omega
theorem inter_len : ∀ ws : List (List UInt8), (∀ w ∈ ws, w.length ≤ 52) → ([32].intercalate ws).length ≤ 53 * ws.length
  | [], _ => by rw [inter_nil]; simp
  | [w], h => by rw [inter_one]; have := h w (by simp); simp only [List.length_cons, List.length_nil]; omega
  | w :: v :: r, h => by
    have := h w (by simp)
    have ih := inter_len (v :: r) (fun w hw => h w (List.mem_cons_of_mem _ hw))
    rw [inter_cons, List.length_append, List.length_cons]
    simp only [List.length_cons] at ih ⊢; omega
theorem infoStr : (Tryz.prog.info? 9).map (fun i => (i.zero, i.size, i.bytes)) = some (some (.string ⟨#[]⟩), 1, 16) := by kernel_rfl
set_option maxRecDepth 100000 in
set_option maxHeartbeats 8000000 in
theorem Encode_c (s : ByteArray) (hs : s.size ≤ 1100000) (w : World) (hGl : Glob w) :
    Calls Tryz.prog 30 #[.string s] w fun e w' => e = .returned (.string ⟨(encL s.data.toList).toArray⟩) ∧ Below w.heap.size w w' := by
  obtain ⟨m, hm⟩ := hGl.maxl
  have CO := Lib.hid (Tryz.strings_Contains s (⟨#[61, 63]⟩ : ByteArray) m w (by omega) hm)
  have CF := Lib.hid (fun W => containsF_c s W)
  have GL := Lib.hid hGl
  clear hm hGl
  rw [show Lib.contains s.data.toList (⟨#[61, 63]⟩ : ByteArray).data.toList = decide (0 ≤ index s.data.toList [61, 63]) from rfl] at CO
  have hpl : plainE s.data.toList = (!(decide (0 ≤ index s.data.toList [61, 63])) && s.data.toList.all okC) := by
    unfold plainE
    congr 1
    rw [← decide_not]; exact decide_eq_decide.2 (by omega)
  have HPL := Lib.hid hpl
  clear hpl
  generalize decide (0 ≤ index s.data.toList [61, 63]) = cb at *
  generalize s.data.toList.all okC = fb at *
  have VS := Lib.hid (fun W => valid_c s (by omega) W)
  have hvz : (⟨(vl s.data.toList).toArray⟩ : ByteArray).size ≤ 3300000 := by
    rw [mk_size]; have := vl_len s.data.toList; have : s.data.toList.length = s.size := by simp
    omega
  have hvd : (⟨(vl s.data.toList).toArray⟩ : ByteArray).data.toList = vl s.data.toList := rfl
  have HVD := Lib.hid hvd
  clear hvd
  generalize (⟨(vl s.data.toList).toArray⟩ : ByteArray) = V0 at *
  go_enter Tryz.func30, Tryz.ntmps30
  go_upto_region 1 with fail
  go_cut [15] (fun v wc => v = .bool (plainE s.data.toList) ∧ Below w.heap.size w wc)
  case first =>
    cases cb with
    | true =>
      go_wp2_with (go_at_call 24; refine CO.out.mono ?_; rintro e w1 ⟨rfl, rfl⟩)
      go_meet
      case rel => exact ⟨by rw [HPL.out]; rfl, Below.refl _ _⟩
    | false =>
      cases fb with
      | true =>
        go_wp2_with (first
          | (go_at_call 24; refine CO.out.mono ?_; rintro e w1 ⟨rfl, rfl⟩)
          | (go_at_call 26; refine (CF.out _).mono ?_; rintro e w2 ⟨rfl, b2⟩; have B2 := Lib.hid b2; clear b2))
        go_meet
        case rel => exact ⟨by rw [HPL.out]; rfl, B2.out⟩
      | false =>
        go_wp2_with (first
          | (go_at_call 24; refine CO.out.mono ?_; rintro e w1 ⟨rfl, rfl⟩)
          | (go_at_call 26; refine (CF.out _).mono ?_; rintro e w2 ⟨rfl, b2⟩; have B2 := Lib.hid b2; clear b2))
        go_meet
        case rel => exact ⟨by rw [HPL.out]; rfl, B2.out⟩
  case rest =>
    obtain ⟨rfl, hbc⟩ := hcut
    have HBC := Lib.hid hbc
    clear hbc CO CF HPL
    have HE1 : Hid (plainE s.data.toList = true → encL s.data.toList = s.data.toList) := Lib.hid (fun hp => by unfold encL; rw [if_pos hp])
    have HE2 : Hid (plainE s.data.toList = false → encL s.data.toList = [32].intercalate (wordsL V0.data.toList) ∧ V0.data.toList ≠ []) := Lib.hid (fun hp => by
      rw [HVD.out]
      exact ⟨by unfold encL; rw [if_neg (by rw [hp]; exact Bool.false_ne_true)], vl_ne _ (plainE_not (by rw [hp]; exact Bool.false_ne_true))⟩)
    generalize plainE s.data.toList = pb at *
    cases pb with
    | true =>
      have HP := Lib.hid (HE1.out rfl)
      go_wp2
      go_ret
      exact ⟨by rw [HP.out, mk_back]; rfl, HBC.out⟩
    | false =>
      have HP := Lib.hid (HE2.out rfl).1
      have HV0 := Lib.hid (HE2.out rfl).2
      clear HE1 HE2
      go_wp2_with (go_at_call 18; refine (VS.out _).mono ?_; rintro e w2 ⟨rfl, b2⟩; have HB2 := Lib.hid (HBC.out.trans (b2.mono HBC.out.size)); clear b2)
      go_loopw [3, 4] (fun sv vv wr => ∃ (x : Value) (v : ByteArray) (ws : List ByteArray), x = sv ∧ vv = .string v ∧ v.size ≤ 3300000 ∧ ws.length + v.size ≤ 3300000 ∧ ws.map (·.data.toList) ++ wordsL v.data.toList = wordsL V0.data.toList ∧ (∀ x ∈ ws, x.size ≤ 52) ∧ wr.ownsRow w.heap.size 9 1 x ws.length (ws.map Value.string) ∧ Below w.heap.size w wr) (fun _ vv _ => match vv with | .string t => t.size | _ => 0)
      case atStart => exact ⟨_, V0, [], rfl, rfl, by omega, by simpa using hvz, rfl, by simp, World.ownsRow_nil _ _ _ _, HB2.out⟩
      case round =>
        obtain ⟨x, v, ws, rfl, rfl, hvz2, hwv, hw, hle, hown, hbw⟩ := hrel
        have HW := Lib.hid hw; have HLE := Lib.hid hle; have HO := Lib.hid hown; have HB := Lib.hid hbw
        clear hw hle hown hbw hvz
        have hvl : v.data.toList.length = v.size := by simp
        by_cases hv : v.size = 0
        · have hnil : v.data.toList = [] := List.length_eq_zero_iff.1 (by rw [hvl]; exact hv)
          have hve : v.toList = [] := by rw [toList_eq]; exact hnil
          have hve2 : v.toList.isEmpty = true := by rw [hve]; rfl
          have hwe : ws.map (·.data.toList) = wordsL V0.data.toList := by have := HW.out; rw [hnil, words_nil, List.append_nil] at this; exact this
          have hwn : ws.length ≠ 0 := by
            intro h0
            have h1 : ws = [] := List.length_eq_zero_iff.1 h0
            rw [h1, words_step _ HV0.out] at hwe
            simp at hwe
          have hjl := inter_len (wordsL V0.data.toList) (by
            rw [← hwe]; intro y hy; obtain ⟨z, hz, rfl⟩ := List.mem_map.1 hy
            have := HLE.out z hz; simpa using this)
          rw [← hwe, List.length_map] at hjl
          rw [← hwe] at HP
          have JO : ∀ (g cap : Nat) (W : World), W.ownsRow w.heap.size 9 1 (.slice (some ⟨g, 0, none⟩) ws.length cap) ws.length (ws.map Value.string) → ws.length ≤ cap → Calls Tryz.prog 33 #[.slice (some ⟨g, 0, none⟩) ws.length cap, .string (⟨#[32]⟩ : ByteArray)] W fun e w' => e = .returned (.string ⟨([32].intercalate (ws.map (·.data.toList))).toArray⟩) ∧ Below W.heap.size W w' := by
            intro g cap W hown hcap
            have h := Tryz.strings_Join g 0 cap ws (⟨#[32]⟩ : ByteArray) W (fun j y hj => by
              have := hown.cells (g := g) rfl j (.string y) (by rw [List.getElem?_map, hj]; rfl)
              have e : (⟨g, 0, none⟩ : Addr).add j = ⟨g, 0 + j, none⟩ := by unfold Addr.add; split <;> simp_all
              rw [e] at this
              exact this) (hown.lt g rfl).2 (by omega) hcap (by
                show ([32].intercalate (ws.map (·.data.toList))).length ≤ _
                omega)
            exact h
          have HJO := Lib.hid JO
          have HWN := Lib.hid hwn
          clear JO hwe hjl hnil hwn
          rcases HO.out.2 with ⟨hx, h0⟩ | ⟨g, cap, cur, hx, hg, hh, hcp, hrest⟩
          · exact absurd h0 HWN.out
          · have HO2 := Lib.hid HO.out
            subst hx
            have HCP := Lib.hid hcp
            clear hg hh hcp hrest
            go_wp2_with (go_at_call 33; refine (HJO.out _ _ _ HO2.out (by have := HCP.out; omega)).mono ?_; rintro e w9 ⟨rfl, b9⟩; have B9 := Lib.hid b9; clear b9)
            go_ret
            exact ⟨by rw [HP.out]; rfl, HB.out.trans (B9.out.mono HB.out.size)⟩
        · have hne : v.data.toList ≠ [] := by intro e; rw [e] at hvl; simp at hvl; omega
          have HNE := Lib.hid hne
          have hve : ¬ v.toList = [] := by rw [toList_eq]; exact hne
          have hve2 : v.toList.isEmpty = false := by
            cases h : v.toList with
            | nil => exact absurd h hve
            | cons x y => rfl
          have HVL := Lib.hid hvl
          clear hne hvl
          go_wp2
          go_loopw [5] (fun nv wq => ∃ n : Nat, nv = .int .i64 (n : Int) ∧ n ≤ v.size ∧ n ≤ 30 ∧ chunk (v.data.toList.drop n).length (v.data.toList.drop n) n = chunk v.data.toList.length v.data.toList 0 ∧ wq.ownsRow w.heap.size 9 1 x ws.length (ws.map Value.string) ∧ Below w.heap.size w wq) (fun nv _ => v.size - (RowKit.intOf nv).toNat)
          case atStart => exact ⟨0, rfl, Nat.zero_le _, by omega, rfl, HO.out, HB.out⟩
          case round =>
            obtain ⟨n, rfl, hn1, hn2, hch, hown3, hb3⟩ := hrel
            have HO3 := Lib.hid hown3; have HB3 := Lib.hid hb3
            have HNZ0 := Lib.hid hch
            clear hown3 hb3
            by_cases hlt : n < v.size
            · have hlti : (n : Int) < (v.size : Int) := by omega
              have hni : (n : Int) ≤ (v.size : Int) := by omega
              obtain ⟨U, hU⟩ : ∃ U, v.extract n v.size = U := ⟨_, rfl⟩
              have hUd : U.data.toList = v.data.toList.drop n := by rw [← hU, extract_list, List.take_of_length_le (by simp)]
              have hUz : ¬ U.size = 0 := by rw [← hU]; simp; omega
              have hdne : v.data.toList.drop n ≠ [] := by intro e; have := congrArg List.length e; rw [List.length_drop, HVL.out] at this; simp at this; omega
              have hdg : Lib.decodeGo U = uDec (v.data.toList.drop n) := by
                unfold Lib.decodeGo
                rw [if_neg hUz, decode_list, List.drop_zero, hUd]
              have DR := Lib.hid (fun W g => Tryz.utf8_DecodeRuneInString U W g)
              rw [hdg] at DR
              have hw4 := width4 _ hdne
              have hwd := dec_width _ hdne
              rw [List.length_drop, HVL.out] at hwd
              have hstep : chunk (v.data.toList.drop n).length (v.data.toList.drop n) n = if 30 < n + (uDec (v.data.toList.drop n)).2 then n else chunk (v.data.toList.drop (n + (uDec (v.data.toList.drop n)).2)).length (v.data.toList.drop (n + (uDec (v.data.toList.drop n)).2)) (n + (uDec (v.data.toList.drop n)).2) := by
                obtain ⟨q, hq⟩ : ∃ q, (v.data.toList.drop n).length = q + 1 := ⟨(v.data.toList.drop n).length - 1, by have := List.length_pos_iff.2 hdne; omega⟩
                rw [hq]
                simp only [chunk]
                rw [if_neg hdne, List.drop_drop]
                split
                · rfl
                · exact chunk_more _ _ _ (Nat.le_refl _) q (by rw [List.length_drop] at hq ⊢; omega)
              rw [hch] at hstep
              have HST := Lib.hid hstep
              clear hstep hdg hUd hUz hdne hch HNZ0
              generalize uDec (v.data.toList.drop n) = d at *
              obtain ⟨r, k⟩ := d
              simp only at DR hw4 hwd HST
              by_cases h30 : 30 < n + k
              · have h30i : (30 : Int) < (n : Int) + (k : Int) := by omega
                have hch : chunk v.data.toList.length v.data.toList 0 = n := by rw [HST.out, if_pos h30]
                have HNZ : Hid (1 ≤ n) := Lib.hid (by omega)
                clear HST
                obtain ⟨T, hT⟩ : ∃ T, v.extract 0 n = T := ⟨_, rfl⟩
                have hTd : T.data.toList = v.data.toList.take n := by rw [← hT, extract_list, List.drop_zero]
                have hTz : T.size ≤ 1100000 := by rw [← hT]; simp; omega
                have EC := Lib.hid (fun W => B64.Encode_c T hTz W)
                rw [hTd] at EC
                obtain ⟨Y, hY⟩ : ∃ Y, v.extract n v.size = Y := ⟨_, rfl⟩
                have hUY : Y = U := hY.symm.trans hU
                subst hUY
                clear hU
                have hYd : Y.data.toList = v.data.toList.drop n := by rw [← hY, extract_list, List.take_of_length_le (by simp)]
                have hYz : Y.size = v.size - n := by rw [← hY]; simp
                have hnv : n ≤ v.size := by omega
                have hnvi : (n : Int) ≤ (v.size : Int) := by omega
                have hws : ws.map (·.data.toList) ++ wordOf (v.data.toList.take n) :: wordsL Y.data.toList = wordsL V0.data.toList := by
                  rw [← HW.out, words_step _ (HNE.out), hch, hYd]
                have hwl : (wordOf (v.data.toList.take n)).length ≤ 52 := wordOf_52 _ (by rw [List.length_take]; omega)
                have HWS := Lib.hid hws; have HWL := Lib.hid hwl; have HYZ := Lib.hid hYz
                have hwx : ((⟨#[61, 63, 117, 116, 102, 45, 56, 63, 66, 63]⟩ : ByteArray) ++ (⟨(B64.b64EncL (v.data.toList.take n)).toArray⟩ : ByteArray) ++ (⟨#[63, 61]⟩ : ByteArray)).data.toList = wordOf (v.data.toList.take n) := by
                  simp [wordOf]
                have HWX := Lib.hid hwx
                clear hws hwl hYz hwx hYd hTd hch
                have hXz : (⟨(B64.b64EncL (v.data.toList.take n)).toArray⟩ : ByteArray).size ≤ 100 := by rw [mk_size, B64.b64_len, List.length_take]; omega
                generalize hX : (⟨(B64.b64EncL (v.data.toList.take n)).toArray⟩ : ByteArray) = X at *
                generalize wordOf (v.data.toList.take n) = wx at *
                clear hX
                obtain ⟨i0, hi, hi0, hi1, hi2⟩ := info_parts infoStr
                have hwl2 : ws.length ≤ 3300000 := by omega
                go_wp2_with (first
                  | (go_at_call 56; refine (DR.out _ (GL.out.below HB3.out).tabs).mono ?_; rintro e w4 ⟨rfl, b4⟩; have HB4 := Lib.hid (HB3.out.trans (b4.mono HB3.out.size)); have HO4 := Lib.hid (ownsRow_below HO3.out b4); clear b4)
                  | (go_at_call 57; refine (EC.out _).mono ?_; rintro e w5 ⟨rfl, b5⟩; have HB5 := Lib.hid (HB4.out.trans (b5.mono HB4.out.size)); have HO5 := Lib.hid (ownsRow_below HO4.out b5); clear b5)
                  | (at_builtin; refine wpList_append_own _ rfl (.tmp 39) (.tmp 46) 34 rfl w.heap.size 9 i0 _ 1 16 Tryz.underlying34 hi hi0 hi1 hi2 rfl (by decide) _ _ _ rfl (HO5.out.alloc _) ⟨w5.heap.size, 0, none⟩ 1 1 [.string (⟨#[61, 63, 117, 116, 102, 45, 56, 63, 66, 63]⟩ ++ X ++ ⟨#[63, 61]⟩)] rfl rfl ?c1 ?c2 ?c3 ?c4 ?c5 ?_))
                case c1 =>
                  intro j u hj
                  cases j with
                  | zero =>
                    obtain rfl := Option.some.inj hj
                    rw [show (⟨w5.heap.size, 0, none⟩ : Addr).add 0 = ⟨w5.heap.size, 0, none⟩ from by unfold Addr.add; simp]
                    simp
                  | succ j => exact absurd hj (by simp)
                case c2 => intro u hu; simp at hu; subst hu; rfl
                case c3 => simp only [maxLen]; omega
                case c4 => omega
                case c5 => have := HB5.out.size; simp; omega
                intro v1 w6 hown1 hgr1 _
                have hw5 : w.heap.size ≤ w5.heap.size := HB5.out.size
                have HO6 := Lib.hid hown1
                have HB6 := Lib.hid ((HB5.out.alloc HB5.out.size _).grown hgr1 (by simp; omega) (fun k hk => (HO5.out.lt k hk).1))
                obtain ⟨a1, n1, k1, rfl⟩ : ∃ a n c, v1 = .slice a n c := by
                  rcases HO6.out.2 with ⟨rfl, _⟩ | ⟨_, _, _, rfl, _⟩
                  · exact ⟨_, _, _, rfl⟩
                  · exact ⟨_, _, _, rfl⟩
                clear hown1 hgr1
                go_wp2
                go_roundw
                case rel =>
                  have := HYZ.out; have hz := HNZ.out
                  refine ⟨_, Y, ws ++ [⟨#[61, 63, 117, 116, 102, 45, 56, 63, 66, 63]⟩ ++ X ++ ⟨#[63, 61]⟩], rfl, rfl, by omega, by rw [List.length_append]; simp only [List.length_cons, List.length_nil]; omega, ?_, ?_, ?_, HB6.out⟩
                  · rw [List.map_append, List.map_cons, List.map_nil, HWX.out, List.append_assoc]; exact HWS.out
                  · intro x hx
                    rcases List.mem_append.1 hx with hx | hx
                    · exact HLE.out x hx
                    · rw [List.mem_singleton.1 hx]
                      have h1 := congrArg List.length HWX.out
                      have h2 := HWL.out
                      rw [Array.length_toList] at h1
                      have h3 : ((⟨#[61, 63, 117, 116, 102, 45, 56, 63, 66, 63]⟩ ++ X ++ ⟨#[63, 61]⟩) : ByteArray).size = wx.length := h1
                      omega
                  · have := HO6.out
                    simpa using this
                case measure => have := HYZ.out; have hz := HNZ.out; simp only; omega
              · have h30i : ¬ (30 : Int) < (n : Int) + (k : Int) := by omega
                go_wp2_with (go_at_call 56; refine (DR.out _ (GL.out.below HB3.out).tabs).mono ?_; rintro e w4 ⟨rfl, b4⟩; have HB4 := Lib.hid (HB3.out.trans (b4.mono HB3.out.size)); have HO4 := Lib.hid (ownsRow_below HO3.out b4); clear b4)
                go_roundw
                case rel => exact ⟨n + k, by go_num, by omega, by omega, by rw [HST.out, if_neg h30], HO4.out, HB4.out⟩
                case measure => simp [RowKit.intOf]; omega
            · have hlti : ¬ (n : Int) < (v.size : Int) := by omega
              have hch2 : chunk v.data.toList.length v.data.toList 0 = n := by
                rw [← hch, List.drop_eq_nil_of_le (by rw [HVL.out]; omega)]; rfl
              have HNZ : Hid (1 ≤ n) := Lib.hid (by omega)
              clear hch HNZ0
              have hch := hch2
              clear hch2
              have HB4 := HB3; have HO4 := HO3
              obtain ⟨T, hT⟩ : ∃ T, v.extract 0 n = T := ⟨_, rfl⟩
              have hTd : T.data.toList = v.data.toList.take n := by rw [← hT, extract_list, List.drop_zero]
              have hTz : T.size ≤ 1100000 := by rw [← hT]; simp; omega
              have EC := Lib.hid (fun W => B64.Encode_c T hTz W)
              rw [hTd] at EC
              obtain ⟨Y, hY⟩ : ∃ Y, v.extract n v.size = Y := ⟨_, rfl⟩
              have hYd : Y.data.toList = v.data.toList.drop n := by rw [← hY, extract_list, List.take_of_length_le (by simp)]
              have hYz : Y.size = v.size - n := by rw [← hY]; simp
              have hnv : n ≤ v.size := by omega
              have hnvi : (n : Int) ≤ (v.size : Int) := by omega
              have hws : ws.map (·.data.toList) ++ wordOf (v.data.toList.take n) :: wordsL Y.data.toList = wordsL V0.data.toList := by
                rw [← HW.out, words_step _ (HNE.out), hch, hYd]
              have hwl : (wordOf (v.data.toList.take n)).length ≤ 52 := wordOf_52 _ (by rw [List.length_take]; omega)
              have HWS := Lib.hid hws; have HWL := Lib.hid hwl; have HYZ := Lib.hid hYz
              have hwx : ((⟨#[61, 63, 117, 116, 102, 45, 56, 63, 66, 63]⟩ : ByteArray) ++ (⟨(B64.b64EncL (v.data.toList.take n)).toArray⟩ : ByteArray) ++ (⟨#[63, 61]⟩ : ByteArray)).data.toList = wordOf (v.data.toList.take n) := by
                simp [wordOf]
              have HWX := Lib.hid hwx
              clear hws hwl hYz hwx hYd hTd hch
              have hXz : (⟨(B64.b64EncL (v.data.toList.take n)).toArray⟩ : ByteArray).size ≤ 100 := by rw [mk_size, B64.b64_len, List.length_take]; omega
              generalize hX : (⟨(B64.b64EncL (v.data.toList.take n)).toArray⟩ : ByteArray) = X at *
              generalize wordOf (v.data.toList.take n) = wx at *
              clear hX
              obtain ⟨i0, hi, hi0, hi1, hi2⟩ := info_parts infoStr
              have hwl2 : ws.length ≤ 3300000 := by omega
              go_wp2_with (first
                | (go_at_call 57; refine (EC.out _).mono ?_; rintro e w5 ⟨rfl, b5⟩; have HB5 := Lib.hid (HB4.out.trans (b5.mono HB4.out.size)); have HO5 := Lib.hid (ownsRow_below HO4.out b5); clear b5)
                | (at_builtin; refine wpList_append_own _ rfl (.tmp 39) (.tmp 46) 34 rfl w.heap.size 9 i0 _ 1 16 Tryz.underlying34 hi hi0 hi1 hi2 rfl (by decide) _ _ _ rfl (HO5.out.alloc _) ⟨w5.heap.size, 0, none⟩ 1 1 [.string (⟨#[61, 63, 117, 116, 102, 45, 56, 63, 66, 63]⟩ ++ X ++ ⟨#[63, 61]⟩)] rfl rfl ?c1 ?c2 ?c3 ?c4 ?c5 ?_))
              case c1 =>
                intro j u hj
                cases j with
                | zero =>
                  obtain rfl := Option.some.inj hj
                  rw [show (⟨w5.heap.size, 0, none⟩ : Addr).add 0 = ⟨w5.heap.size, 0, none⟩ from by unfold Addr.add; simp]
                  simp
                | succ j => exact absurd hj (by simp)
              case c2 => intro u hu; simp at hu; subst hu; rfl
              case c3 => simp only [maxLen]; omega
              case c4 => omega
              case c5 => have := HB5.out.size; simp; omega
              intro v1 w6 hown1 hgr1 _
              have hw5 : w.heap.size ≤ w5.heap.size := HB5.out.size
              have HO6 := Lib.hid hown1
              have HB6 := Lib.hid ((HB5.out.alloc HB5.out.size _).grown hgr1 (by simp; omega) (fun k hk => (HO5.out.lt k hk).1))
              obtain ⟨a1, n1, k1, rfl⟩ : ∃ a n c, v1 = .slice a n c := by
                rcases HO6.out.2 with ⟨rfl, _⟩ | ⟨_, _, _, rfl, _⟩
                · exact ⟨_, _, _, rfl⟩
                · exact ⟨_, _, _, rfl⟩
              clear hown1 hgr1
              go_wp2
              go_roundw
              case rel =>
                have := HYZ.out; have hz := HNZ.out
                refine ⟨_, Y, ws ++ [⟨#[61, 63, 117, 116, 102, 45, 56, 63, 66, 63]⟩ ++ X ++ ⟨#[63, 61]⟩], rfl, rfl, by omega, by rw [List.length_append]; simp only [List.length_cons, List.length_nil]; omega, ?_, ?_, ?_, HB6.out⟩
                · rw [List.map_append, List.map_cons, List.map_nil, HWX.out, List.append_assoc]; exact HWS.out
                · intro x hx
                  rcases List.mem_append.1 hx with hx | hx
                  · exact HLE.out x hx
                  · rw [List.mem_singleton.1 hx]
                    have h1 := congrArg List.length HWX.out
                    have h2 := HWL.out
                    rw [Array.length_toList] at h1
                    have h3 : ((⟨#[61, 63, 117, 116, 102, 45, 56, 63, 66, 63]⟩ ++ X ++ ⟨#[63, 61]⟩) : ByteArray).size = wx.length := h1
                    omega
                · have := HO6.out
                  simpa using this
              case measure => have := HYZ.out; have hz := HNZ.out; simp only; omega
end Go.Proofs.YtpcncpegbboljaaGreatDoor.WordL
namespace Go.Proofs.YtpcncpegbboljaaGreatDoor.Addr
open Go.RowKit Go.Lib Go.Proofs.YtpcncpegbboljaaGreatDoor Go.Proofs.YtpcncpegbboljaaGreatDoor.Pure Go.Proofs.YtpcncpegbboljaaGreatDoorW.PrintWords
set_option linter.unusedVariables false
set_option linter.unusedSimpArgs false
def trimW (l : List UInt8) : List UInt8 := Lib.trimS l [32, 9, 10, 13]
theorem dropWhile_le8 (p : UInt8 → Bool) : ∀ (l : List UInt8), (l.dropWhile p).length ≤ l.length
  | [] => by simp
  | c :: r => by
    rw [List.dropWhile_cons]
    split
    · have := dropWhile_le8 p r; simp only [List.length_cons]; omega
    · exact Nat.le_refl _
theorem trimW_le (l : List UInt8) : (trimW l).length ≤ l.length := by
  unfold trimW Lib.trimS Lib.trimLeftS Lib.trimRightS
  refine Nat.le_trans (dropWhile_le8 _ _) ?_
  rw [List.length_reverse]
  refine Nat.le_trans (dropWhile_le8 _ _) ?_
  rw [List.length_reverse]
  exact Nat.le_refl _
theorem trimW_c (s : ByteArray) (hs : s.size ≤ 11000000) (T : ByteArray) (hT : T.data.toList = trimW s.data.toList) (W : World) :
    Calls Tryz.prog 43 #[.string s, .string (⟨#[32, 9, 10, 13]⟩ : ByteArray)] W fun e w' => e = .returned (.string T) ∧ Below W.heap.size W w' := by
  refine (WordL.trim_c s hs W).mono ?_
  rintro e w' ⟨rfl, h⟩
  refine ⟨?_, h⟩
  rw [show T = ⟨(Lib.trimS s.data.toList [32, 9, 10, 13]).toArray⟩ from ba_ext hT]
def calledL (l : List UInt8) : List UInt8 :=
  match trimW l with
  | [] => WordL.wordL []
  | c :: r => if c = 34 then WordL.wordL (innerL ((c :: r).take (stretchL (c :: r)).1) (stretchL (c :: r)).2) else WordL.wordL (c :: r)
set_option maxRecDepth 100000 in
set_option maxHeartbeats 8000000 in
theorem called_c (s : ByteArray) (hs : s.size ≤ 1100000) (w : World) (hGl : Glob w) :
    Calls Tryz.prog 44 #[.string s] w fun e w' => e = .returned (.string ⟨(calledL s.data.toList).toArray⟩) ∧ Below w.heap.size w w' := by
  obtain ⟨T, hT⟩ : ∃ T : ByteArray, T.data.toList = trimW s.data.toList := ⟨⟨(trimW s.data.toList).toArray⟩, rfl⟩
  have hTz : T.size ≤ s.size := by
    have := trimW_le s.data.toList
    rw [← hT] at this
    simpa using this
  have hTl : T.data.toList.length = T.size := by simp
  have TR := Lib.hid (fun W => trimW_c s (by omega) T hT W)
  have GL := Lib.hid hGl
  have WD := Lib.hid (fun W h => WordL.Decode_c T (by omega) W h)
  have hcl : calledL s.data.toList = match T.data.toList with
    | [] => WordL.wordL []
    | c :: r => if c = 34 then WordL.wordL (innerL ((c :: r).take (stretchL (c :: r)).1) (stretchL (c :: r)).2) else WordL.wordL (c :: r) := by rw [hT]; rfl
  have hTT : T.toList = T.data.toList := toList_eq _
  clear hT hGl
  cases hd : T.data.toList with
  | nil =>
    rw [hd] at hcl hTT hTl
    have HE : Hid (calledL s.data.toList = WordL.wordL T.data.toList) := Lib.hid (by rw [hcl, hd])
    have x1 : T.toList.isEmpty = true := by rw [hTT]; rfl
    clear hcl hd hTT hTl
    go_enter Tryz.func44, Tryz.ntmps44
    go_wp2_with (first
      | (go_at_call 43; refine (TR.out _).mono ?_; rintro e w1 ⟨rfl, b1⟩; have B1 := Lib.hid b1; clear b1)
      | (go_at_call 42; refine (WD.out _ (GL.out.below B1.out)).mono ?_; rintro e w2 ⟨rfl, b2⟩; have B2 := Lib.hid (B1.out.trans (b2.mono B1.out.size)); clear b2))
    go_ret
    exact ⟨by rw [HE.out]; rfl, B2.out⟩
  | cons c r =>
    rw [hd] at hcl hTT hTl
    simp only [List.length_cons] at hTl
    have x1 : T.toList.isEmpty = false := by rw [hTT]; rfl
    have x2 : ¬ T.toList = [] := by rw [hTT]; simp
    have h0 : 0 < T.size := by omega
    have hsc : T[0] = c := by
      have hd0 : T.data.toList.drop 0 = c :: r := hd
      have e := List.drop_eq_getElem_cons (l := T.data.toList) (i := 0) (by rw [hd]; simp)
      rw [hd0] at e
      injection e with e1 _
      exact e1.symm
    by_cases h34 : c = 34
    · subst h34
      have hst : T.data.toList = 34 :: r := hd
      have SC := Lib.hid (fun W => stretch_c T (by omega) _ _ hst (.inl rfl) W)
      have hln := stretchL_len 34 r
      have htwo := itemL_two 34 r
      have hitem : itemL (34 :: r) = stretchL (34 :: r) := by simp only [itemL]; rw [if_pos (.inl trivial)]
      rw [hitem] at htwo
      rw [hd] at SC
      simp only at hcl
      rw [if_pos trivial] at hcl
      generalize stretchL (34 :: r) = it at *
      obtain ⟨n, b⟩ := it
      simp only at SC hln htwo hcl
      obtain ⟨X, hX⟩ : ∃ X, T.extract 0 n = X := ⟨_, rfl⟩
      have hXd : X.data.toList = (34 :: r).take n := by rw [← hX, extract_list, hd, List.drop_zero]
      have hXz : X.size = n := by rw [← hX]; simp; omega
      have IN := Lib.hid (fun W => inner_c X b (by omega) (by omega) (by rw [hXz]; exact htwo) W)
      have hil := innerL_len X.data.toList b
      obtain ⟨Y, hY⟩ : ∃ Y : ByteArray, (⟨(innerL X.data.toList b).toArray⟩ : ByteArray) = Y := ⟨_, rfl⟩
      have hYd : Y.data.toList = innerL X.data.toList b := by rw [← hY]
      have hYz : Y.size ≤ n := by
        have e1 : Y.data.toList.length = Y.size := by simp
        have e2 : X.data.toList.length = X.size := by simp
        rw [hYd] at e1
        omega
      have WD2 := Lib.hid (fun W h => WordL.Decode_c Y (by omega) W h)
      have HE : Hid (calledL s.data.toList = WordL.wordL Y.data.toList) := Lib.hid (by rw [hcl, hYd, hXd])
      have hn : (n : Int) ≤ (T.size : Int) := by omega
      rw [hY] at IN
      clear hcl hd hTT hTl hst hln htwo hitem hXd hXz hil hY hYd hYz
      go_enter Tryz.func44, Tryz.ntmps44
      go_wp2_with (first
        | (go_at_call 43; refine (TR.out _).mono ?_; rintro e w1 ⟨rfl, b1⟩; have B1 := Lib.hid b1; clear b1)
        | (go_at_call 66; refine (SC.out _).mono ?_; rintro e w2 ⟨rfl, q, rfl⟩; have B2 := Lib.hid (bdrewN B1.out q))
        | (go_at_call 40; refine (IN.out _).mono ?_; rintro e w3 ⟨rfl, b3⟩; have B3 := Lib.hid (B2.out.trans (b3.mono B2.out.size)); clear b3)
        | (go_at_call 42; refine (WD2.out _ (GL.out.below B3.out)).mono ?_; rintro e w4 ⟨rfl, b4⟩; have B4 := Lib.hid (B3.out.trans (b4.mono B3.out.size)); clear b4))
      go_ret
      exact ⟨by rw [HE.out]; rfl, B4.out⟩
    · have HE : Hid (calledL s.data.toList = WordL.wordL T.data.toList) := Lib.hid (by rw [hcl]; simp only; rw [if_neg h34, hd])
      have hb1 : (((T[0]).toNat : Int) == 34) = false := by rw [hsc]; exact u8f h34 (by decide)
      have hb2 : ¬ ((T[0]).toNat : Int) = 34 := beq_eq_false_iff_ne.1 hb1
      clear hcl hd hTT hTl hsc h34
      go_enter Tryz.func44, Tryz.ntmps44
      go_wp2_with (first
        | (go_at_call 43; refine (TR.out _).mono ?_; rintro e w1 ⟨rfl, b1⟩; have B1 := Lib.hid b1; clear b1)
        | (go_at_call 42; refine (WD.out _ (GL.out.below B1.out)).mono ?_; rintro e w2 ⟨rfl, b2⟩; have B2 := Lib.hid (B1.out.trans (b2.mono B1.out.size)); clear b2))
      go_ret
      exact ⟨by rw [HE.out]; rfl, B2.out⟩
def boxS (s : ByteArray) : BxSt := foldA (bxStep s) 0 s.data.toList ⟨-1, -1, [], false, []⟩
def boxN (s : ByteArray) : List UInt8 := if (boxS s).a < 0 then WordL.wordL (trimW (boxS s).remark) else calledL (s.data.toList.take (boxS s).a.toNat)
def boxM (s : ByteArray) : List UInt8 := if (boxS s).a < 0 then trimW (boxS s).rest else trimW ((s.data.toList.take (if (boxS s).z < 0 then s.size else (boxS s).z.toNat)).drop ((boxS s).a.toNat + 1))
theorem infoBox : (Tryz.prog.info? 32).map (·.size) = some 2 := by kernel_rfl
theorem start7 (w : World) (s : ByteArray) : ∃ W, W = (((((((w.alloc (.cells #[.string s] 9)).alloc (.cells #[.string ⟨#[]⟩, .string ⟨#[]⟩] 32)).alloc (.cells #[.int .i64 (-1)] 3)).alloc (.cells #[.int .i64 (-1)] 3)).alloc (.cells #[.string ⟨#[]⟩] 9)).alloc (.cells #[.bool false] 4)).alloc (.cells #[.pointer none, .slice none 0 0] 48)) ∧ BxK w.heap.size s 0 ⟨-1, -1, [], false, []⟩ W ∧ Below w.heap.size w W := by
  obtain ⟨V, hV, b0, b1, b2, b3, hz, hb⟩ := start4 w (.cells #[.string s] 9) (.cells #[.string ⟨#[]⟩, .string ⟨#[]⟩] 32) (.cells #[.int .i64 (-1)] 3) (.cells #[.int .i64 (-1)] 3)
  rw [← hV]
  have old : ∀ (v : World) (o : Obj) (k : Nat) x, k < v.heap.size → v.heap[k]? = some x → (v.alloc o).heap[k]? = some x := fun v o k x hk h => (Below.heap_alloc v o k hk).trans h
  have z1 : (V.alloc (.cells #[.string ⟨#[]⟩] 9)).heap.size = w.heap.size + 5 := by simp [hz]
  have z2 : ((V.alloc (.cells #[.string ⟨#[]⟩] 9)).alloc (.cells #[.bool false] 4)).heap.size = w.heap.size + 6 := by simp [hz]
  have n4 := heap_alloc_new V (.cells #[.string ⟨#[]⟩] 9)
  have n5 := heap_alloc_new (V.alloc (.cells #[.string ⟨#[]⟩] 9)) (.cells #[.bool false] 4)
  have n6 := Lib.fresh_isBuilder 48 5 ((V.alloc (.cells #[.string ⟨#[]⟩] 9)).alloc (.cells #[.bool false] 4))
  rw [hz] at n4
  rw [z1] at n5
  rw [z2] at n6
  have up : ∀ (k : Nat) x, k < w.heap.size + 4 → V.heap[k]? = some x → (((V.alloc (.cells #[.string ⟨#[]⟩] 9)).alloc (.cells #[.bool false] 4)).alloc (.cells #[.pointer none, .slice none 0 0] 48)).heap[k]? = some x := fun k x hk h =>
    old _ _ _ _ (by omega) (old _ _ _ _ (by omega) (old _ _ _ _ (by omega) h))
  refine ⟨_, rfl, ⟨⟨by simp [hz], up _ _ (by omega) b0, up _ _ (by omega) b1, up _ _ (by omega) b2, up _ _ (by omega) b3, old _ _ _ _ (by omega) (old _ _ _ _ (by omega) n4), old _ _ _ _ (by omega) n5, IsBuilderF.of n6⟩, .inl rfl, .inl rfl, by simp, by simp⟩, ((hb.alloc (by omega) _).alloc (by omega) _).alloc (by omega) _⟩
set_option maxRecDepth 100000 in
set_option maxHeartbeats 8000000 in
theorem out_box (s : ByteArray) (hs : s.size ≤ 11000000) (M : Nat) (W : World) (h0 : BxK M s 0 ⟨-1, -1, [], false, []⟩ W) (hM : M ≤ W.heap.size) :
    Calls Tryz.prog 37 #[.string s, .func (.func 39) #[] #[.pointer (some ⟨M, 0, none⟩), .pointer (some ⟨M + 2, 0, none⟩), .pointer (some ⟨M + 3, 0, none⟩), .pointer (some ⟨M + 5, 0, none⟩), .pointer (some ⟨M + 4, 0, none⟩), .pointer (some ⟨M + 6, 0, none⟩)]] W fun e w' => e = .returned (.tuple #[]) ∧ BxK M s s.size (boxS s) w' ∧ Below M W w' := by
  refine outside_c s hs 39 _ (enters_of Tryz.func39 (by kernel_rfl) rfl) M (BxK M s) (bxStep s) (fun _ _ _ n h => h.draws n) ?_ _ W h0 hM
  intro st i c r W2 hc hK hB
  exact box1_c M s hs i st c r _ _ (itemL_len c r).1 (itemL_len c r).2 (itemL_two c r) W2 hc hK
structure BxJ (w : World) (s : ByteArray) (st : BxSt) (W : World) : Prop where
  c : BxC w.heap.size s st W
  g : Glob W
  b : Below w.heap.size w W
theorem BxJ.below {w : World} {s : ByteArray} {st : BxSt} {W W' : World} (h : BxJ w s st W) (hb : Below W.heap.size W W') : BxJ w s st W' := ⟨h.c.below hb, h.g.below hb, h.b.trans (hb.mono h.b.size)⟩
theorem BxJ.draw {w : World} {s : ByteArray} {st : BxSt} {W : World} (h : BxJ w s st W) : BxJ w s st W.drew := h.below (Below.refl _ _).drew
set_option maxRecDepth 100000 in
set_option maxHeartbeats 8000000 in
theorem box_c (s : ByteArray) (hs : s.size ≤ 1100000) (w : World) (hGl : Glob w) :
    Calls Tryz.prog 20 #[.string s] w fun e w' => e = .returned (.agg #[.string ⟨(boxN s).toArray⟩, .string ⟨(boxM s).toArray⟩]) ∧ Below w.heap.size w w' := by
  obtain ⟨W, hW, hK, hb⟩ := start7 w s
  have HC := Lib.hid (out_box s (by omega) w.heap.size W hK hb.size)
  have HW := Lib.hid hW; have HB := Lib.hid hb; have GL := Lib.hid hGl
  clear hW hK hb hGl
  have hN : boxN s = if (boxS s).a < 0 then WordL.wordL (trimW (boxS s).remark) else calledL (s.data.toList.take (boxS s).a.toNat) := rfl
  have hMl : boxM s = if (boxS s).a < 0 then trimW (boxS s).rest else trimW ((s.data.toList.take (if (boxS s).z < 0 then s.size else (boxS s).z.toNat)).drop ((boxS s).a.toNat + 1)) := rfl
  generalize boxS s = st at *
  have HN := Lib.hid hN; have HM := Lib.hid hMl
  clear hN hMl
  go_enter Tryz.func20, Tryz.ntmps20
  go_upto_region 5 with (go_at_call 37; rw [← HW.out]; refine HC.out.mono ?_; rintro e w1 ⟨rfl, hk, hb1⟩; have HK := Lib.hid hk; have HB1 := Lib.hid (HB.out.trans hb1); clear hk hb1)
  obtain ⟨hC, hI⟩ := HK.out
  have hrm := hI.remark
  have hrs := hI.rest
  have hia := hI.a
  have hiz := hI.z
  have c0 := Joins.cell_of_block hC.b0 0
  have c10 := Joins.cell_of_block hC.b1 0
  have c11 := Joins.cell_of_block hC.b1 1
  have c2 := Joins.cell_of_block hC.b2 0
  have c3 := Joins.cell_of_block hC.b3 0
  have c4 := Joins.cell_of_block hC.b4 0
  have u10 := Joins.unfrozen_of_block hC.b1 0
  have u11 := Joins.unfrozen_of_block hC.b1 1
  have u3 := Joins.unfrozen_of_block hC.b3 0
  simp at c0 c10 c11 c2 c3 c4
  have HC1 := Lib.hid hC; have HI := Lib.hid hI
  clear hC hI HK
  have hsz := HB1.out.size
  by_cases ha : st.a < 0
  ·
    obtain ⟨T, hT⟩ : ∃ T : ByteArray, T.data.toList = trimW st.remark := ⟨⟨(trimW st.remark).toArray⟩, rfl⟩
    obtain ⟨U, hU⟩ : ∃ U : ByteArray, U.data.toList = trimW st.rest := ⟨⟨(trimW st.rest).toArray⟩, rfl⟩
    have hTz : T.size ≤ 1100000 := by
      have h1 := trimW_le st.remark
      rw [← hT] at h1
      have h2 : T.data.toList.length = T.size := by simp
      omega
    have hrz : (⟨st.remark.toArray⟩ : ByteArray).size = st.remark.length := mk_size _
    have hrz2 : (⟨st.rest.toArray⟩ : ByteArray).size = st.rest.length := mk_size _
    have TR := Lib.hid (fun W => trimW_c ⟨st.remark.toArray⟩ (by omega) T hT W)
    have TR2 := Lib.hid (fun W => trimW_c ⟨st.rest.toArray⟩ (by omega) U hU W)
    have WD := Lib.hid (fun W h => WordL.Decode_c T hTz W h)
    have HE : Hid (boxN s = WordL.wordL T.data.toList ∧ boxM s = U.data.toList) := Lib.hid ⟨by rw [HN.out, if_pos ha, hT], by rw [HM.out, if_pos ha, hU]⟩
    clear hT hU hTz hrz hrz2 hia hiz
    go_wp2_with (first
      | (go_at_call 43; first
          | (with_reducible refine (TR.out _).mono ?_; rintro e w2 ⟨rfl, b2⟩; have D2 := Lib.hid (HC1.out.below b2); have B2 := Lib.hid (HB1.out.trans (b2.mono HB1.out.size)); clear b2)
          | (with_reducible refine (TR2.out _).mono ?_; rintro e w5 ⟨rfl, b5⟩; have C5 := D4.out.below b5; have B5 := Lib.hid (B4.out.trans (b5.mono B4.out.size)); have e10 := Joins.cell_of_block C5.b1 0; have e11 := Joins.cell_of_block C5.b1 1; have v10 := Joins.unfrozen_of_block C5.b1 0; have v11 := Joins.unfrozen_of_block C5.b1 1; simp at e10 e11; have D5 := Lib.hid C5; clear b5 C5))
      | (go_at_call 42; refine (WD.out _ (GL.out.below B2.out)).mono ?_; rintro e w3 ⟨rfl, b3⟩; have D3 := Lib.hid (D2.out.below b3); have B3 := Lib.hid (B2.out.trans (b3.mono B2.out.size)); clear b3)
      | (go_at_call 36; refine (Tryz.Builder_String_any_k _ _ st.rest _ D3.out.b6 (by have := D3.out.size; omega)).mono ?_; rintro e w4 ⟨rfl, i4, b4, _⟩; have D4 := Lib.hid (D3.out.write b4 i4); have B4 := Lib.hid (B3.out.trans (b4.mono (by omega))); clear i4 b4))
    refine bodyPost_ret_by (v := .agg #[.string ⟨(WordL.wordL T.data.toList).toArray⟩, .string U]) ?_ rfl ?_
    · exact results_cell_row rfl _ _ (w.heap.size + 1) _ #[.string ⟨(WordL.wordL T.data.toList).toArray⟩, .string U] _ _ rfl (Joins.block_setCell (Joins.block_setCell D5.out.b1 _) _) Tryz.underlying32 rfl infoBox
    · exact ⟨by rw [HE.out.1, HE.out.2], (B5.out.setCell (p := ⟨w.heap.size + 1, 0, none⟩) (by show w.heap.size ≤ w.heap.size + 1; omega) _).setCell (p := ⟨w.heap.size + 1, 1, none⟩) (by show w.heap.size ≤ w.heap.size + 1; omega) _⟩
  ·
    obtain ⟨f, hfa, hf1, hf2⟩ : ∃ f : Nat, st.a = (f : Int) ∧ f < s.size ∧ f < s.size := by
      rcases hia with h | ⟨f, h, h2, h3⟩
      · omega
      · exact ⟨f, h, h3, h3⟩
    obtain ⟨t, ht1, ht2, htz⟩ : ∃ t : Nat, f < t ∧ t ≤ s.size ∧ t = (if st.z < 0 then s.size else st.z.toNat) := by
      rcases hiz with h | ⟨f2, t, h, h2, h3, h4, h5⟩
      · exact ⟨s.size, hf1, Nat.le_refl _, by rw [if_pos (by omega)]⟩
      · exact ⟨t, by omega, by omega, by rw [if_neg (by omega), h2]; rfl⟩
    obtain ⟨X, hX⟩ : ∃ X, s.extract 0 f = X := ⟨_, rfl⟩
    obtain ⟨Y, hY⟩ : ∃ Y, s.extract (f + 1) t = Y := ⟨_, rfl⟩
    have hXd : X.data.toList = s.data.toList.take f := by rw [← hX, extract_list, List.drop_zero]
    have hYd : Y.data.toList = (s.data.toList.take t).drop (f + 1) := by rw [← hY, extract_list]
    have hXz : X.size ≤ 1100000 := by rw [← hX]; simp; omega
    have hYz : Y.size ≤ 11000000 := by rw [← hY]; simp; omega
    obtain ⟨U, hU⟩ : ∃ U : ByteArray, U.data.toList = trimW Y.data.toList := ⟨⟨(trimW Y.data.toList).toArray⟩, rfl⟩
    have TR := Lib.hid (fun W => trimW_c Y hYz U hU W)
    have CL := Lib.hid (fun W h => called_c X hXz W h)
    have HE : Hid (boxN s = calledL X.data.toList ∧ boxM s = U.data.toList) := Lib.hid ⟨by rw [HN.out, if_neg ha, hXd, hfa]; rfl, by rw [HM.out, if_neg ha, hU, hYd, ← htz, hfa]; rfl⟩
    rw [hfa] at c2 ha
    have hfn : (f : Int) ≤ (s.size : Int) := by omega
    have hft : (f : Int) + 1 ≤ (t : Int) := by omega
    have htn : (t : Int) ≤ (s.size : Int) := by omega
    have hf1n : ((f : Int) + 1).toNat = f + 1 := by omega
    have hf10 : (0 : Int) ≤ (f : Int) + 1 := by omega
    have hf00 : (0 : Int) ≤ (f : Int) := by omega
    have hfb : f ≤ 1100000 := by omega
    by_cases hz : st.z < 0
    · have hts : t = s.size := by rw [htz, if_pos hz]
      subst hts
      clear htz hXd hYd hXz hYz hU hia hiz
      have hb3 : Below w.heap.size w (w1.setCell ⟨w.heap.size + 3, 0, none⟩ (.int .i64 (s.size : Int))) := HB1.out.setCell (p := ⟨w.heap.size + 3, 0, none⟩) (by show w.heap.size ≤ w.heap.size + 3; omega) _
      have J0 : BxJ w s { st with z := (s.size : Int) } (w1.setCell ⟨w.heap.size + 3, 0, none⟩ (.int .i64 (s.size : Int))) := ⟨HC1.out.set_z (s.size : Int), GL.out.below hb3, hb3⟩
      have CLJ : Hid (∀ W, BxJ w s { st with z := (s.size : Int) } W → Calls Tryz.prog 44 #[.string X] W fun e w' => e = .returned (.string ⟨(calledL X.data.toList).toArray⟩) ∧ BxJ w s { st with z := (s.size : Int) } w') := Lib.hid fun W h => (CL.out W h.g).mono (by rintro e w' ⟨rfl, b⟩; exact ⟨rfl, h.below b⟩)
      have TRJ : Hid (∀ W, BxJ w s { st with z := (s.size : Int) } W → Calls Tryz.prog 43 #[.string Y, .string (⟨#[32, 9, 10, 13]⟩ : ByteArray)] W fun e w' => e = .returned (.string U) ∧ BxJ w s { st with z := (s.size : Int) } w') := Lib.hid fun W h => (TR.out W).mono (by rintro e w' ⟨rfl, b⟩; exact ⟨rfl, h.below b⟩)
      have HJ := Lib.hid J0.draw
      have p0 : (w1.setCell ⟨w.heap.size + 1 + 1 + 1, 0, none⟩ (.int .i64 (s.size : Int))).cell? ⟨w.heap.size, 0, none⟩ = some (.string s) := (Joins.cell_of_block J0.c.b0 0).trans rfl
      have p3 : (w1.setCell ⟨w.heap.size + 1 + 1 + 1, 0, none⟩ (.int .i64 (s.size : Int))).cell? ⟨w.heap.size + 1 + 1 + 1, 0, none⟩ = some (.int .i64 (s.size : Int)) := (Joins.cell_of_block J0.c.b3 0).trans rfl
      have p0d : (w1.setCell ⟨w.heap.size + 1 + 1 + 1, 0, none⟩ (.int .i64 (s.size : Int))).drew.cell? ⟨w.heap.size, 0, none⟩ = some (.string s) := p0
      have p3d : (w1.setCell ⟨w.heap.size + 1 + 1 + 1, 0, none⟩ (.int .i64 (s.size : Int))).drew.cell? ⟨w.heap.size + 1 + 1 + 1, 0, none⟩ = some (.int .i64 (s.size : Int)) := p3
      clear J0 hb3
      go_wp2_with fail
      have hw1 : IntKind.i64.wrap ((f : Int) + 1) = (f : Int) + 1 := by rw [IntWalk.i64_left, IntWalk.wrap64_in _ (by omega)]
      go_region_held3 (fun w' => w'.cell? ⟨w.heap.size, 0, none⟩ = some (.string s) ∧ w'.cell? ⟨w.heap.size + 1 + 1, 0, none⟩ = some (.int .i64 (f : Int)) ∧ w'.cell? ⟨w.heap.size + 1 + 1 + 1, 0, none⟩ = some (.int .i64 (s.size : Int))) (go_keep) (first
        | (go_at_call 44; first
            | (with_reducible refine (CLJ.out _ HJ.out).mono ?_; rintro e w2 ⟨rfl, j2⟩; have J2 := Lib.hid j2; have q0 := Joins.cell_of_block j2.c.b0 0; have q2 := Joins.cell_of_block j2.c.b2 0; have q3 := Joins.cell_of_block j2.c.b3 0; have q10 := Joins.cell_of_block j2.c.b1 0; have q11 := Joins.cell_of_block j2.c.b1 1; have qv0 := Joins.unfrozen_of_block j2.c.b1 0; have qv1 := Joins.unfrozen_of_block j2.c.b1 1; simp [hfa] at q0 q2 q3 q10 q11; clear j2)
            | (with_reducible refine (CLJ.out _ J3.out).mono ?_; rintro e w2 ⟨rfl, j2⟩; have J2 := Lib.hid j2; have q0 := Joins.cell_of_block j2.c.b0 0; have q2 := Joins.cell_of_block j2.c.b2 0; have q3 := Joins.cell_of_block j2.c.b3 0; have q10 := Joins.cell_of_block j2.c.b1 0; have q11 := Joins.cell_of_block j2.c.b1 1; have qv0 := Joins.unfrozen_of_block j2.c.b1 0; have qv1 := Joins.unfrozen_of_block j2.c.b1 1; simp [hfa] at q0 q2 q3 q10 q11; clear j2))
        | (go_at_call 43; first
            | (with_reducible refine (TRJ.out _ HJ.out).mono ?_; rintro e w3 ⟨rfl, j3⟩; have J3 := Lib.hid j3; have r0 := Joins.cell_of_block j3.c.b0 0; have r2 := Joins.cell_of_block j3.c.b2 0; have r3 := Joins.cell_of_block j3.c.b3 0; have r10 := Joins.cell_of_block j3.c.b1 0; have r11 := Joins.cell_of_block j3.c.b1 1; have rv0 := Joins.unfrozen_of_block j3.c.b1 0; have rv1 := Joins.unfrozen_of_block j3.c.b1 1; simp [hfa] at r0 r2 r3 r10 r11; clear j3)
            | (with_reducible refine (TRJ.out _ J2.out).mono ?_; rintro e w3 ⟨rfl, j3⟩; have J3 := Lib.hid j3; have r0 := Joins.cell_of_block j3.c.b0 0; have r2 := Joins.cell_of_block j3.c.b2 0; have r3 := Joins.cell_of_block j3.c.b3 0; have r10 := Joins.cell_of_block j3.c.b1 0; have r11 := Joins.cell_of_block j3.c.b1 1; have rv0 := Joins.unfrozen_of_block j3.c.b1 0; have rv1 := Joins.unfrozen_of_block j3.c.b1 1; simp [hfa] at r0 r2 r3 r10 r11; clear j3)))
      all_goals go_wp2_with fail
      all_goals first
        | (refine bodyPost_ret_by (v := .agg #[.string ⟨(calledL X.data.toList).toArray⟩, .string U]) (results_cell_row rfl _ _ (w.heap.size + 1) _ #[.string ⟨(calledL X.data.toList).toArray⟩, .string U] _ _ rfl (Joins.block_setCell (Joins.block_setCell J3.out.c.b1 _) _) Tryz.underlying32 rfl infoBox) rfl ?_
           exact ⟨by rw [HE.out.1, HE.out.2], (J3.out.b.setCell (p := ⟨w.heap.size + 1, 0, none⟩) (by show w.heap.size ≤ w.heap.size + 1; omega) _).setCell (p := ⟨w.heap.size + 1, 1, none⟩) (by show w.heap.size ≤ w.heap.size + 1; omega) _⟩)
        | (refine bodyPost_ret_by (v := .agg #[.string ⟨(calledL X.data.toList).toArray⟩, .string U]) (results_cell_row rfl _ _ (w.heap.size + 1) _ #[.string ⟨(calledL X.data.toList).toArray⟩, .string U] _ _ rfl (Joins.block_setCell (Joins.block_setCell J2.out.c.b1 _) _) Tryz.underlying32 rfl infoBox) rfl ?_
           exact ⟨by rw [HE.out.1, HE.out.2], (J2.out.b.setCell (p := ⟨w.heap.size + 1, 0, none⟩) (by show w.heap.size ≤ w.heap.size + 1; omega) _).setCell (p := ⟨w.heap.size + 1, 1, none⟩) (by show w.heap.size ≤ w.heap.size + 1; omega) _⟩)
    · have hzt : st.z = (t : Int) := by rw [htz, if_neg hz]; omega
      rw [hzt] at c3 hz
      clear htz hXd hYd hXz hYz hU hia hiz
      have HC2 := HC1
      have J0 : BxJ w s st w1 := ⟨HC1.out, GL.out.below HB1.out, HB1.out⟩
      have CLJ : Hid (∀ W, BxJ w s st W → Calls Tryz.prog 44 #[.string X] W fun e w' => e = .returned (.string ⟨(calledL X.data.toList).toArray⟩) ∧ BxJ w s st w') := Lib.hid fun W h => (CL.out W h.g).mono (by rintro e w' ⟨rfl, b⟩; exact ⟨rfl, h.below b⟩)
      have TRJ : Hid (∀ W, BxJ w s st W → Calls Tryz.prog 43 #[.string Y, .string (⟨#[32, 9, 10, 13]⟩ : ByteArray)] W fun e w' => e = .returned (.string U) ∧ BxJ w s st w') := Lib.hid fun W h => (TR.out W).mono (by rintro e w' ⟨rfl, b⟩; exact ⟨rfl, h.below b⟩)
      have HJ := Lib.hid J0.draw
      clear J0
      go_wp2_with fail
      have hw1 : IntKind.i64.wrap ((f : Int) + 1) = (f : Int) + 1 := by rw [IntWalk.i64_left, IntWalk.wrap64_in _ (by omega)]
      go_region_held3 (fun w' => w'.cell? ⟨w.heap.size, 0, none⟩ = some (.string s) ∧ w'.cell? ⟨w.heap.size + 1 + 1, 0, none⟩ = some (.int .i64 (f : Int)) ∧ w'.cell? ⟨w.heap.size + 1 + 1 + 1, 0, none⟩ = some (.int .i64 (t : Int))) (go_keep) (first
        | (go_at_call 44; first
            | (with_reducible refine (CLJ.out _ HJ.out).mono ?_; rintro e w2 ⟨rfl, j2⟩; have J2 := Lib.hid j2; have q0 := Joins.cell_of_block j2.c.b0 0; have q2 := Joins.cell_of_block j2.c.b2 0; have q3 := Joins.cell_of_block j2.c.b3 0; have q10 := Joins.cell_of_block j2.c.b1 0; have q11 := Joins.cell_of_block j2.c.b1 1; have qv0 := Joins.unfrozen_of_block j2.c.b1 0; have qv1 := Joins.unfrozen_of_block j2.c.b1 1; simp [hfa, hzt] at q0 q2 q3 q10 q11; clear j2)
            | (with_reducible refine (CLJ.out _ J3.out).mono ?_; rintro e w2 ⟨rfl, j2⟩; have J2 := Lib.hid j2; have q0 := Joins.cell_of_block j2.c.b0 0; have q2 := Joins.cell_of_block j2.c.b2 0; have q3 := Joins.cell_of_block j2.c.b3 0; have q10 := Joins.cell_of_block j2.c.b1 0; have q11 := Joins.cell_of_block j2.c.b1 1; have qv0 := Joins.unfrozen_of_block j2.c.b1 0; have qv1 := Joins.unfrozen_of_block j2.c.b1 1; simp [hfa, hzt] at q0 q2 q3 q10 q11; clear j2))
        | (go_at_call 43; first
            | (with_reducible refine (TRJ.out _ HJ.out).mono ?_; rintro e w3 ⟨rfl, j3⟩; have J3 := Lib.hid j3; have r0 := Joins.cell_of_block j3.c.b0 0; have r2 := Joins.cell_of_block j3.c.b2 0; have r3 := Joins.cell_of_block j3.c.b3 0; have r10 := Joins.cell_of_block j3.c.b1 0; have r11 := Joins.cell_of_block j3.c.b1 1; have rv0 := Joins.unfrozen_of_block j3.c.b1 0; have rv1 := Joins.unfrozen_of_block j3.c.b1 1; simp [hfa, hzt] at r0 r2 r3 r10 r11; clear j3)
            | (with_reducible refine (TRJ.out _ J2.out).mono ?_; rintro e w3 ⟨rfl, j3⟩; have J3 := Lib.hid j3; have r0 := Joins.cell_of_block j3.c.b0 0; have r2 := Joins.cell_of_block j3.c.b2 0; have r3 := Joins.cell_of_block j3.c.b3 0; have r10 := Joins.cell_of_block j3.c.b1 0; have r11 := Joins.cell_of_block j3.c.b1 1; have rv0 := Joins.unfrozen_of_block j3.c.b1 0; have rv1 := Joins.unfrozen_of_block j3.c.b1 1; simp [hfa, hzt] at r0 r2 r3 r10 r11; clear j3)))
      all_goals go_wp2_with fail
      all_goals first
        | (refine bodyPost_ret_by (v := .agg #[.string ⟨(calledL X.data.toList).toArray⟩, .string U]) (results_cell_row rfl _ _ (w.heap.size + 1) _ #[.string ⟨(calledL X.data.toList).toArray⟩, .string U] _ _ rfl (Joins.block_setCell (Joins.block_setCell J3.out.c.b1 _) _) Tryz.underlying32 rfl infoBox) rfl ?_
           exact ⟨by rw [HE.out.1, HE.out.2], (J3.out.b.setCell (p := ⟨w.heap.size + 1, 0, none⟩) (by show w.heap.size ≤ w.heap.size + 1; omega) _).setCell (p := ⟨w.heap.size + 1, 1, none⟩) (by show w.heap.size ≤ w.heap.size + 1; omega) _⟩)
        | (refine bodyPost_ret_by (v := .agg #[.string ⟨(calledL X.data.toList).toArray⟩, .string U]) (results_cell_row rfl _ _ (w.heap.size + 1) _ #[.string ⟨(calledL X.data.toList).toArray⟩, .string U] _ _ rfl (Joins.block_setCell (Joins.block_setCell J2.out.c.b1 _) _) Tryz.underlying32 rfl infoBox) rfl ?_
           exact ⟨by rw [HE.out.1, HE.out.2], (J2.out.b.setCell (p := ⟨w.heap.size + 1, 0, none⟩) (by show w.heap.size ≤ w.heap.size + 1; omega) _).setCell (p := ⟨w.heap.size + 1, 1, none⟩) (by show w.heap.size ≤ w.heap.size + 1; omega) _⟩)
end Go.Proofs.YtpcncpegbboljaaGreatDoor.Addr
namespace Go.Proofs.YtpcncpegbboljaaGreatDoor.Addr
open Go.RowKit Go.Lib Go.Proofs.YtpcncpegbboljaaGreatDoor Go.Proofs.YtpcncpegbboljaaGreatDoor.Pure Go.Proofs.YtpcncpegbboljaaGreatDoorW.PrintWords
set_option linter.unusedVariables false
set_option linter.unusedSimpArgs false
theorem infoBoxes : (Tryz.prog.info? 32).map (fun i => (i.zero, i.size, i.bytes)) = some (some (.agg #[.string ⟨#[]⟩, .string ⟨#[]⟩]), 2, 32) := by kernel_rfl
def mailL (t : ByteArray) : List UInt8 := if goodL (boxM t) = true then boxM t else []
def parseStep (acc : List (List UInt8 × List UInt8)) (t : ByteArray) : List (List UInt8 × List UInt8) :=
  if boxN t = [] ∧ mailL t = [] then acc else acc ++ [(boxN t, mailL t)]
def parseL (s : ByteArray) : List (List UInt8 × List UInt8) := (textsL s).foldl parseStep []
def boxesV (l : List (List UInt8 × List UInt8)) : List Value := l.flatMap fun x => [.string ⟨x.1.toArray⟩, .string ⟨x.2.toArray⟩]
theorem own_below {w w' : World} {B n size : Nat} {e : TypeId} {v : Value} {xs : List Value} (h : w.ownsRow B e size v n xs) (hb : Below w.heap.size w w') : w'.ownsRow B e size v n xs := by
  have key : ∀ k x, w.heap[k]? = some x → w'.heap[k]? = some x := fun k x hk => (hb.block k (Array.getElem?_eq_some_iff.1 hk).1).trans hk
  exact ⟨h.1, h.2.elim Or.inl fun ⟨g, cap, cur, hv, hg, hh, r⟩ => Or.inr ⟨g, cap, cur, hv, hg, key _ _ hh, r⟩⟩
theorem good_ne {l : List UInt8} (h : goodL l = true) : l ≠ [] := by
  rintro rfl
  exact absurd h (by decide)
theorem boxesV_snoc (l : List (List UInt8 × List UInt8)) (x : List UInt8 × List UInt8) : boxesV (l ++ [x]) = boxesV l ++ [.string ⟨x.1.toArray⟩, .string ⟨x.2.toArray⟩] := by
  unfold boxesV; simp
theorem foldA_inv {σ : Type} (s : ByteArray) (step : σ → Nat → Nat → Bool → σ) (P : Nat → σ → Prop)
    (hstep : ∀ (st : σ) (i : Nat) (c : UInt8) (r : List UInt8), s.data.toList.drop i = c :: r → i + (itemL (c :: r)).1 ≤ s.size → 1 ≤ (itemL (c :: r)).1 → P i st → P (i + (itemL (c :: r)).1) (step st i (itemL (c :: r)).1 (itemL (c :: r)).2)) :
    ∀ (n i : Nat) (st : σ), s.size - i ≤ n → i ≤ s.size → P i st → P s.size (foldA step i (s.data.toList.drop i) st) := by
  have hl : s.data.toList.length = s.size := by simp
  intro n
  induction n with
  | zero =>
    intro i st h1 h2 h
    rw [List.drop_eq_nil_of_le (by rw [hl]; omega), foldA_nil]
    have e : i = s.size := by omega
    rw [← e]; exact h
  | succ n ih =>
    intro i st h1 h2 h
    cases hd : s.data.toList.drop i with
    | nil =>
      have := at_end hd
      have e : i = s.size := by omega
      rw [foldA_nil, ← e]; exact h
    | cons c r =>
      have hz := congrArg List.length hd
      rw [List.length_drop, hl, List.length_cons] at hz
      have hit := itemL_len c r
      rw [foldA_cons _ _ _ _ (by simp), ← hd, List.drop_drop, hd]
      have hn : i + (itemL (c :: r)).1 ≤ s.size := by omega
      exact ih _ _ (by omega) hn (hstep st i c r hd hn hit.1 h)
theorem boxS_len (s : ByteArray) : (boxS s).rest.length ≤ s.size ∧ (boxS s).remark.length ≤ s.size := by
  have h := foldA_inv s (bxStep s) (fun i st => st.rest.length ≤ i ∧ st.remark.length ≤ i) ?_ s.size 0 ⟨-1, -1, [], false, []⟩ (by omega) (by omega) ⟨by simp, by simp⟩
  · exact h
  · intro st i c r hd hn h1 ⟨p1, p2⟩
    unfold bxStep
    rw [hd]
    have ht : ((c :: r).take (itemL (c :: r)).1).length ≤ (itemL (c :: r)).1 := by rw [List.length_take]; omega
    have hi := innerL_len ((c :: r).take (itemL (c :: r)).1) (itemL (c :: r)).2
    simp only
    split
    · exact ⟨by show (st.rest ++ List.take (itemL (c :: r)).1 (c :: r)).length ≤ _; rw [List.length_append]; omega, by show st.remark.length ≤ _; omega⟩
    · split
      · exact ⟨by show (st.rest ++ List.take (itemL (c :: r)).1 (c :: r)).length ≤ _; rw [List.length_append]; omega, by show st.remark.length ≤ _; omega⟩
      · split
        · split
          · exact ⟨by omega, by omega⟩
          · exact ⟨by show st.rest.length ≤ _; omega, by show (innerL _ _).length ≤ _; omega⟩
        · exact ⟨by show (st.rest ++ List.take (itemL (c :: r)).1 (c :: r)).length ≤ _; rw [List.length_append]; omega, by show st.remark.length ≤ _; omega⟩
theorem boxM_len (s : ByteArray) : (boxM s).length ≤ s.size := by
  have hl : s.data.toList.length = s.size := by simp
  unfold boxM
  split
  · exact Nat.le_trans (trimW_le _) (boxS_len s).1
  · refine Nat.le_trans (trimW_le _) ?_
    rw [List.length_drop, List.length_take]; omega
theorem textsS_len (s : ByteArray) : (textsS s).from_ ≤ s.size ∧ (textsS s).l.length ≤ s.size ∧ ∀ t ∈ (textsS s).l, t.size ≤ s.size := by
  have h := foldA_inv s (txStep s) (fun i st => st.from_ ≤ i ∧ st.l.length ≤ i ∧ ∀ t ∈ st.l, t.size ≤ s.size) ?_ s.size 0 ⟨[], 0, false⟩ (by omega) (by omega) ⟨by simp, by simp, by simp⟩
  · exact h
  · intro st i c r hd hn h1 ⟨p1, p2, p3⟩
    unfold txStep
    rw [hd]
    simp only
    split
    · exact ⟨by show st.from_ ≤ _; omega, by show st.l.length ≤ _; omega, p3⟩
    · split
      · exact ⟨by show st.from_ ≤ _; omega, by show st.l.length ≤ _; omega, p3⟩
      · split
        · refine ⟨by show i + 1 ≤ _; omega, by show (st.l ++ [_]).length ≤ _; simp; omega, ?_⟩
          intro t ht
          rcases List.mem_append.1 ht with ht | ht
          · exact p3 t ht
          · simp at ht
            rw [ht]; simp; omega
        · exact ⟨by omega, by omega, p3⟩
theorem textsL_len (s : ByteArray) : (textsL s).length ≤ s.size + 1 ∧ ∀ t ∈ textsL s, t.size ≤ s.size := by
  obtain ⟨h1, h2, h3⟩ := textsS_len s
  unfold textsL
  refine ⟨by simp; omega, ?_⟩
  intro t ht
  rcases List.mem_append.1 ht with ht | ht
  · exact h3 t ht
  · simp at ht
    rw [ht]; simp
set_option maxRecDepth 100000 in
set_option maxHeartbeats 8000000 in
theorem Parse_c (s : ByteArray) (hs : s.size ≤ 1100000) (w : World) (hGl : Glob w) :
    Calls Tryz.prog 11 #[.string s] w fun e w' => ∃ v, e = .returned v ∧ w'.ownsRow w.heap.size 32 2 v (parseL s).length (boxesV (parseL s)) ∧ Below w.heap.size w w' := by
  have TX := Lib.hid (fun W => texts_c s (by omega) W)
  have hsl : ∀ t ∈ textsL s, t.size ≤ 1100000 := fun t h => Nat.le_trans ((textsL_len s).2 t h) hs
  have hln : (textsL s).length ≤ 1100001 := Nat.le_trans (textsL_len s).1 (by omega)
  have hpos : 0 < (textsL s).length := by unfold textsL; simp
  have hp : parseL s = (textsL s).foldl parseStep [] := rfl
  generalize textsL s = xs at *
  have HP := Lib.hid hp; have GL := Lib.hid hGl; have HSL := Lib.hid hsl
  clear hp hGl hsl
  go_enter Tryz.func11, Tryz.ntmps11
  go_wp2_with (go_at_call 19; refine (TX.out _).mono ?_; rintro e w1 ⟨v, rfl, hown, hb⟩; obtain ⟨g, cap, rfl⟩ := Joins.ownsRow_form hown hpos; have HO := Lib.hid hown; have HB := Lib.hid hb; clear hown hb)
  go_loopw [3, 10] (fun lv iv wr => ∃ (i : Nat) (acc : List (List UInt8 × List UInt8)), iv = .int .i64 (i : Int) ∧ i ≤ xs.length ∧ acc.length ≤ i ∧ (xs.drop i).foldl parseStep acc = parseL s ∧ wr.ownsRow w1.heap.size 32 2 lv acc.length (boxesV acc) ∧ Below w1.heap.size w1 wr) (fun _ iv _ => xs.length - (RowKit.intOf iv).toNat)
  case atStart => exact ⟨0, [], rfl, Nat.zero_le _, Nat.zero_le _, by rw [HP.out]; rfl, World.ownsRow_nil _ _ _ _, Below.refl _ _⟩
  case round =>
    obtain ⟨i, acc, rfl, hi, hal, he, hown, hb⟩ := hrel
    have HE := Lib.hid he; have HN := Lib.hid hown; have HB2 := Lib.hid hb
    clear he hown hb
    by_cases hlt : i < xs.length
    · have hlti : (i : Int) < (xs.length : Int) := by omega
      obtain ⟨t, ht⟩ : ∃ t, xs[i] = t := ⟨_, rfl⟩
      have hm : t ∈ xs := ht ▸ List.getElem_mem hlt
      have BX := Lib.hid (fun W h => box_c t (HSL.out t hm) W h)
      obtain ⟨N, hN⟩ : ∃ N : ByteArray, (⟨(boxN t).toArray⟩ : ByteArray) = N := ⟨_, rfl⟩
      obtain ⟨M, hM⟩ : ∃ M : ByteArray, (⟨(boxM t).toArray⟩ : ByteArray) = M := ⟨_, rfl⟩
      rw [hN, hM] at BX
      have hMd : M.data.toList = boxM t := by rw [← hM]
      have hNd : N.data.toList = boxN t := by rw [← hN]
      have hMz : M.size ≤ 11000000 := by
        have h1 := boxM_len t
        have h2 := HSL.out t hm
        rw [← hMd] at h1
        have h3 : M.data.toList.length = M.size := by simp
        omega
      have GD := Lib.hid (fun W => Good_c M hMz W)
      rw [hMd] at GD
      have hcell : wr.cell? ⟨g, i, none⟩ = some (.string t) := by
        have h1 := HO.out.cellAt i (by omega)
        rw [List.getElem?_map, List.getElem?_eq_getElem hlt, ht] at h1
        exact (HB2.out.cell (World.block_lt_of_cell? _ _ h1)).trans h1
      have hstep : (xs.drop (i + 1)).foldl parseStep (parseStep acc t) = parseL s := by
        rw [← HE.out, List.drop_eq_getElem_cons hlt, List.foldl_cons, ht]
      have HST := Lib.hid hstep
      have hps : parseStep acc t = if boxN t = [] ∧ mailL t = [] then acc else acc ++ [(boxN t, mailL t)] := rfl
      have hml : mailL t = if goodL (boxM t) = true then boxM t else [] := rfl
      have HPS := Lib.hid hps; have HML := Lib.hid hml; have HMD := Lib.hid hMd; have HND := Lib.hid hNd; have HT := Lib.hid ht
      have hgn := fun h => good_ne (l := boxM t) h
      have hMe : boxM t ≠ [] → ¬ M = ⟨#[]⟩ := fun h e => h (by rw [← hMd, e])
      have HM := Lib.hid hM; have HNN := Lib.hid hN
      clear hstep hps hml hMd hNd hM hN hm ht hMz
      generalize goodL (boxM t) = q at *
      cases q with
      | true =>
        have hMe := hMe (hgn rfl)
        have hMt : ¬ M.toList = [] := fun h => hMe (ba_ext (by rw [← toList_eq, h]))
        have hNt : N.toList = [] ∨ ¬ N.toList = [] := Classical.em _
        have hPS : Hid (parseStep acc t = acc ++ [(boxN t, boxM t)]) := Lib.hid (by rw [HPS.out, HML.out, if_pos rfl, if_neg (fun h => hgn rfl h.2)])
        obtain ⟨i0, hi0, hz0, hz1, hz2⟩ := info_parts infoBoxes
        have HI0 := Lib.hid hi0
        clear hgn
        go_wp2_with (first
          | (go_at_call 20; refine (BX.out _ (GL.out.below (HB.out.trans (HB2.out.mono HB.out.size)))).mono ?_; rintro e w2 ⟨rfl, b2⟩; have B2 := Lib.hid b2; clear b2)
          | (go_at_call 13; refine (GD.out _).mono ?_; rintro e w3 ⟨rfl, b3⟩; have k3 := (b3.block w2.heap.size (by simp)).trans (heap_alloc_new w2 _); have k0 := Joins.cell_of_block k3 0; have k1 := Joins.cell_of_block k3 1; have k2 := Joins.unfrozen_of_block k3 0; have k4 := Joins.unfrozen_of_block k3 1; simp at k0 k1; have K3 := Lib.hid k3; have B3 := Lib.hid ((B2.out.trans (((Below.refl _ w2).alloc B2.out.size _))).trans (b3.mono (by have := B2.out.size; simp; omega))); clear b3 k3)
          | (at_builtin; refine wpList_append_own _ rfl (.tmp 24) (.tmp 26) 25 rfl w1.heap.size 32 i0 _ 2 32 Tryz.underlying25 HI0.out hz0 hz1 hz2 rfl (by decide) _ _ _ rfl ((own_below HN.out B3.out).alloc _) ⟨w3.heap.size, 0, none⟩ 1 1 [.string N, .string M] rfl rfl ?c1 ?c2 ?c3 ?c4 ?c5 ?_))
        case c1 =>
          intro j u hj
          match j, hj with
          | 0, hj =>
            obtain rfl : Value.string N = u := Option.some.inj hj
            rw [show (⟨w3.heap.size, 0, none⟩ : Addr).add 0 = ⟨w3.heap.size, 0, none⟩ from by unfold Addr.add; simp]
            simp
          | 1, hj =>
            obtain rfl : Value.string M = u := Option.some.inj hj
            rw [show (⟨w3.heap.size, 0, none⟩ : Addr).add 1 = ⟨w3.heap.size, 1, none⟩ from by unfold Addr.add; simp]
            simp
          | j + 2, hj => exact absurd hj (by simp)
        case c2 => intro u hu; simp at hu; rcases hu with rfl | rfl <;> rfl
        case c3 => simp only [maxLen]; omega
        case c4 => omega
        case c5 => have h1 := HB2.out.size; have h2 := B3.out.size; simp; omega
        intro v' w4 hown4 hgr4 _
        have hb4 : Below w1.heap.size w1 w4 := (((HB2.out.trans (B3.out.mono HB2.out.size)).alloc (by have h1 := HB2.out.size; have h2 := B3.out.size; omega) _).grown hgr4 (by have h1 := HB2.out.size; have h2 := B3.out.size; simp; omega) (own_base HN.out))
        have H4 := Lib.hid hown4; have B4 := Lib.hid hb4
        clear hown4 hgr4 hb4
        go_wp2_with fail
        go_roundw
        case rel => exact ⟨i + 1, _, by go_num, by omega, by rw [hPS.out]; simp; omega, HST.out, by rw [hPS.out, boxesV_snoc, List.length_append, HNN.out, HM.out]; exact H4.out, B4.out⟩
        case measure => simp [RowKit.intOf]; omega
      | false =>
        have hml0 : Hid (mailL t = []) := Lib.hid (by rw [HML.out, if_neg (by decide)])
        obtain ⟨i0, hi0, hz0, hz1, hz2⟩ := info_parts infoBoxes
        have HI0 := Lib.hid hi0
        have HEM : Hid ((⟨#[]⟩ : ByteArray) = ⟨(mailL t).toArray⟩) := Lib.hid (by rw [hml0.out])
        clear hgn hMe
        by_cases hNt : N.toList = []
        · have hPS : Hid (parseStep acc t = acc) := Lib.hid (by rw [HPS.out, if_pos ⟨by rw [← HND.out, ← toList_eq, hNt], hml0.out⟩])
          go_wp2_with (first
            | (go_at_call 20; refine (BX.out _ (GL.out.below (HB.out.trans (HB2.out.mono HB.out.size)))).mono ?_; rintro e w2 ⟨rfl, b2⟩; have B2 := Lib.hid b2; clear b2)
            | (go_at_call 13; refine (GD.out _).mono ?_; rintro e w3 ⟨rfl, b3⟩; have k3 := (b3.block w2.heap.size (by simp)).trans (heap_alloc_new w2 _); have k0 := Joins.cell_of_block k3 0; have k1 := Joins.cell_of_block k3 1; have k2 := Joins.unfrozen_of_block k3 0; have k4 := Joins.unfrozen_of_block k3 1; simp at k0 k1; have K3 := Lib.hid k3; have b33 := (B2.out.trans (((Below.refl _ w2).alloc B2.out.size _))).trans (b3.mono (by have := B2.out.size; simp; omega)); have B3 := Lib.hid b33; have H3 := Lib.hid (ownsRow_setCell_other (a := ⟨w2.heap.size, 1, none⟩) (own_below HN.out b33) (fun e => by have h1 := (HN.out.lt _ e).2; have h2 := B2.out.size; simp only at h1; omega) (.string ⟨#[]⟩)); have B5 := Lib.hid ((HB2.out.trans (b33.mono HB2.out.size)).setCell (p := ⟨w2.heap.size, 1, none⟩) (by have := B2.out.size; have := HB2.out.size; show w1.heap.size ≤ w2.heap.size; omega) (.string ⟨#[]⟩)); clear b3 k3 b33))
          go_roundw
          case rel => exact ⟨i + 1, acc, by go_num, by omega, by omega, by rw [← HST.out, hPS.out], H3.out, B5.out⟩
          case measure => simp [RowKit.intOf]; omega
        · have hPS : Hid (parseStep acc t = acc ++ [(boxN t, mailL t)]) := Lib.hid (by rw [HPS.out, if_neg (fun h => hNt (by rw [toList_eq, HND.out, h.1]))])
          go_wp2_with (first
            | (go_at_call 20; refine (BX.out _ (GL.out.below (HB.out.trans (HB2.out.mono HB.out.size)))).mono ?_; rintro e w2 ⟨rfl, b2⟩; have B2 := Lib.hid b2; clear b2)
            | (go_at_call 13; refine (GD.out _).mono ?_; rintro e w3 ⟨rfl, b3⟩; have k3 := (b3.block w2.heap.size (by simp)).trans (heap_alloc_new w2 _); have k0 := Joins.cell_of_block k3 0; have k1 := Joins.cell_of_block k3 1; have k2 := Joins.unfrozen_of_block k3 0; have k4 := Joins.unfrozen_of_block k3 1; simp at k0 k1; have K3 := Lib.hid k3; have b33 := (B2.out.trans (((Below.refl _ w2).alloc B2.out.size _))).trans (b3.mono (by have := B2.out.size; simp; omega)); have B3 := Lib.hid b33; have H3 := Lib.hid (ownsRow_setCell_other (a := ⟨w2.heap.size, 1, none⟩) (own_below HN.out b33) (fun e => by have h1 := (HN.out.lt _ e).2; have h2 := B2.out.size; simp only at h1; omega) (.string ⟨#[]⟩)); have B5 := Lib.hid ((HB2.out.trans (b33.mono HB2.out.size)).setCell (p := ⟨w2.heap.size, 1, none⟩) (by have := B2.out.size; have := HB2.out.size; show w1.heap.size ≤ w2.heap.size; omega) (.string ⟨#[]⟩)); clear b3 k3 b33)
            | (at_builtin; refine wpList_append_own _ rfl (.tmp 24) (.tmp 26) 25 rfl w1.heap.size 32 i0 _ 2 32 Tryz.underlying25 HI0.out hz0 hz1 hz2 rfl (by decide) _ _ _ rfl (H3.out.alloc _) ⟨w3.heap.size, 0, none⟩ 1 1 [.string N, .string ⟨#[]⟩] rfl rfl ?c1 ?c2 ?c3 ?c4 ?c5 ?_))
          case c1 =>
            intro j u hj
            match j, hj with
            | 0, hj =>
              obtain rfl : Value.string N = u := Option.some.inj hj
              rw [show (⟨w3.heap.size, 0, none⟩ : Addr).add 0 = ⟨w3.heap.size, 0, none⟩ from by unfold Addr.add; simp]
              rw [World.cell?_alloc_at (hn := by simp)]; rfl
            | 1, hj =>
              obtain rfl : Value.string (⟨#[]⟩ : ByteArray) = u := Option.some.inj hj
              rw [show (⟨w3.heap.size, 0, none⟩ : Addr).add 1 = ⟨w3.heap.size, 1, none⟩ from by unfold Addr.add; simp]
              rw [World.cell?_alloc_at (hn := by simp)]; rfl
            | j + 2, hj => exact absurd hj (by simp)
          case c2 => intro u hu; simp at hu; rcases hu with rfl | rfl <;> rfl
          case c3 => simp only [maxLen]; omega
          case c4 => omega
          case c5 => have h1 := HB2.out.size; have h2 := B3.out.size; simp; omega
          intro v' w4 hown4 hgr4 _
          have hb4 : Below w1.heap.size w1 w4 := ((B5.out.alloc (by have h2 := B5.out.size; exact h2) _).grown hgr4 (by have h2 := B5.out.size; simp at h2 ⊢; omega) (own_base HN.out))
          have H4 := Lib.hid hown4; have B4 := Lib.hid hb4
          clear hown4 hgr4 hb4
          go_wp2_with fail
          go_roundw
          case rel => exact ⟨i + 1, _, by go_num, by omega, by rw [hPS.out]; simp; omega, HST.out, by rw [hPS.out, boxesV_snoc, List.length_append, HNN.out, ← HEM.out]; exact H4.out, B4.out⟩
          case measure => simp [RowKit.intOf]; omega
    · have hlti : ¬ (i : Int) < (xs.length : Int) := by omega
      have he := HE.out
      rw [List.drop_eq_nil_of_le (by omega)] at he
      have HE2 : Hid (acc = parseL s) := Lib.hid he
      clear he
      go_wp2
      go_ret
      refine ⟨_, rfl, ?_, HB.out.trans (HB2.out.mono HB.out.size)⟩
      rw [← HE2.out]
      exact Joins.ownsRow_le HN.out HB.out.size
end Go.Proofs.YtpcncpegbboljaaGreatDoor.Addr
namespace Go.Proofs.YtpcncpegbboljaaGreatDoor.Addr
open Go.RowKit Go.Lib Go.Proofs.YtpcncpegbboljaaGreatDoor Go.Proofs.YtpcncpegbboljaaGreatDoor.Pure
set_option linter.unusedVariables false
set_option linter.unusedSimpArgs false
def textsG : Nat → List UInt8 → Bool → List UInt8 → List (List UInt8)
  | 0, cur, _, _ => [cur]
  | f + 1, cur, ang, l =>
    match l with
    | [] => [cur]
    | c :: r =>
      if c = 60 then textsG f (cur ++ [c]) true r
      else if c = 62 then textsG f (cur ++ [c]) false r
      else if (c = 44 ∨ c = 59) ∧ ang = false then cur :: textsG f [] ang r
      else textsG f (cur ++ (c :: r).take (itemL (c :: r)).1) ang ((c :: r).drop (itemL (c :: r)).1)
theorem textsG_more : ∀ (f : Nat) (cur : List UInt8) (ang : Bool) (l : List UInt8), l.length ≤ f → ∀ g, f ≤ g → textsG g cur ang l = textsG f cur ang l := by
  intro f
  induction f with
  | zero =>
    intro cur ang l h g _
    obtain rfl := List.eq_nil_of_length_eq_zero (by omega : l.length = 0)
    cases g <;> simp [textsG]
  | succ f ih =>
    intro cur ang l h g hg
    obtain ⟨g, rfl⟩ : ∃ k, g = k + 1 := ⟨g - 1, by omega⟩
    cases l with
    | nil => simp [textsG]
    | cons c r =>
      simp only [List.length_cons] at h
      have hi := itemL_len c r
      simp only [textsG]
      rw [ih _ _ r (by omega) g (by omega), ih _ _ r (by omega) g (by omega), ih _ _ r (by omega) g (by omega), ih _ _ _ (by rw [List.length_drop, List.length_cons]; omega) g (by omega)]
def textsF (cur : List UInt8) (ang : Bool) (l : List UInt8) : List (List UInt8) := textsG l.length cur ang l
theorem textsF_nil (cur : List UInt8) (ang : Bool) : textsF cur ang [] = [cur] := rfl
theorem textsF_cons (cur : List UInt8) (ang : Bool) (c : UInt8) (r : List UInt8) : textsF cur ang (c :: r) =
    if c = 60 then textsF (cur ++ [c]) true r
      else if c = 62 then textsF (cur ++ [c]) false r
      else if (c = 44 ∨ c = 59) ∧ ang = false then cur :: textsF [] ang r
      else textsF (cur ++ (c :: r).take (itemL (c :: r)).1) ang ((c :: r).drop (itemL (c :: r)).1) := by
  have hi := itemL_len c r
  unfold textsF
  simp only [List.length_cons, textsG]
  rw [textsG_more _ _ _ ((c :: r).drop (itemL (c :: r)).1) (Nat.le_refl _) r.length (by rw [List.length_drop, List.length_cons]; omega)]
theorem item_one (c : UInt8) (r : List UInt8) (h1 : c ≠ 34) (h2 : c ≠ 40) : itemL (c :: r) = (1, false) := by
  simp only [itemL]; rw [if_neg (by rintro (h | h); exact h1 h; exact h2 h)]
theorem texts_is (s : ByteArray) : ∀ (n i : Nat) (st : TxSt) (cur : List UInt8), s.size - i ≤ n → i ≤ s.size → st.from_ ≤ i → (s.data.toList.take i).drop st.from_ = cur →
    ((foldA (txStep s) i (s.data.toList.drop i) st).l ++ [s.extract (foldA (txStep s) i (s.data.toList.drop i) st).from_ s.size]).map (·.data.toList) = st.l.map (·.data.toList) ++ textsF cur st.angle (s.data.toList.drop i) := by
  have hl : s.data.toList.length = s.size := by simp
  have fin : ∀ (i : Nat) (st : TxSt) (cur : List UInt8), s.size ≤ i → i ≤ s.size → st.from_ ≤ i → (s.data.toList.take i).drop st.from_ = cur →
      ((foldA (txStep s) i (s.data.toList.drop i) st).l ++ [s.extract (foldA (txStep s) i (s.data.toList.drop i) st).from_ s.size]).map (·.data.toList) = st.l.map (·.data.toList) ++ textsF cur st.angle (s.data.toList.drop i) := by
    intro i st cur h1 h2 h3 h4
    obtain rfl : i = s.size := by omega
    rw [List.drop_eq_nil_of_le (by rw [hl]; omega), foldA_nil, textsF_nil, List.map_append, List.map_cons, List.map_nil, extract_list, h4]
  intro n
  induction n with
  | zero => intro i st cur h1 h2 h3 h4; exact fin i st cur (by omega) h2 h3 h4
  | succ n ih =>
    intro i st cur h1 h2 h3 h4
    cases hd : s.data.toList.drop i with
    | nil => have := fin i st cur (at_end hd) h2 h3 h4; rw [hd] at this; exact this
    | cons c r =>
      obtain ⟨_, hlt, hr⟩ := at_drop hd
      have hz := congrArg List.length hd
      rw [List.length_drop, hl, List.length_cons] at hz
      have hit := itemL_len c r
      have hcur : ∀ k, 1 ≤ k → k ≤ r.length + 1 → (s.data.toList.take (i + k)).drop st.from_ = cur ++ (c :: r).take k := by
        intro k hk1 hk2
        rw [List.take_add, List.drop_append_of_le_length (by rw [List.length_take, hl]; omega), h4, hd]
      have hstep : txStep s st i (itemL (c :: r)).1 (itemL (c :: r)).2 = if c = 60 then { st with angle := true } else if c = 62 then { st with angle := false } else if (c = 44 ∨ c = 59) ∧ st.angle = false then { st with l := st.l ++ [s.extract st.from_ i], from_ := i + 1 } else st := by
        unfold txStep; rw [hd]
      rw [foldA_cons _ _ _ _ (by simp), ← hd, List.drop_drop, hd, hstep, textsF_cons]
      have one : c ≠ 34 → c ≠ 40 → (itemL (c :: r)).1 = 1 := fun a b => by rw [item_one c r a b]
      by_cases h60 : c = 60
      · have h1' := one (by rw [h60]; decide) (by rw [h60]; decide)
        rw [if_pos h60, if_pos h60, h1']
        have e := hcur 1 (by omega) (by omega)
        have := ih (i + 1) { st with angle := true } (cur ++ [c]) (by omega) (by omega) (by show st.from_ ≤ _; omega) e
        rw [hr] at this ⊢
        exact this
      · rw [if_neg h60, if_neg h60]
        by_cases h62 : c = 62
        · have h1' := one (by rw [h62]; decide) (by rw [h62]; decide)
          rw [if_pos h62, if_pos h62, h1']
          have e := hcur 1 (by omega) (by omega)
          have := ih (i + 1) { st with angle := false } (cur ++ [c]) (by omega) (by omega) (by show st.from_ ≤ _; omega) e
          rw [hr] at this ⊢
          exact this
        · rw [if_neg h62, if_neg h62]
          by_cases h44 : (c = 44 ∨ c = 59) ∧ st.angle = false
          · have h1' := one (by rcases h44.1 with h | h <;> rw [h] <;> decide) (by rcases h44.1 with h | h <;> rw [h] <;> decide)
            rw [if_pos h44, if_pos h44, h1']
            have := ih (i + 1) { st with l := st.l ++ [s.extract st.from_ i], from_ := i + 1 } [] (by omega) (by omega) (by show i + 1 ≤ _; omega) (List.drop_eq_nil_of_le (by show (List.take (i + 1) s.data.toList).length ≤ i + 1; rw [List.length_take]; omega))
            rw [hr] at this ⊢
            rw [this]
            simp only [List.map_append, List.map_cons, List.map_nil, extract_list, h4, List.append_assoc]; rfl
          · rw [if_neg h44, if_neg h44]
            have := ih (i + (itemL (c :: r)).1) st (cur ++ (c :: r).take (itemL (c :: r)).1) (by omega) (by omega) (by omega) (hcur _ hit.1 hit.2)
            rw [this, ← hd, List.drop_drop]
theorem textsL_is (s : ByteArray) : (textsL s).map (·.data.toList) = textsF [] false s.data.toList := by
  have := texts_is s s.size 0 ⟨[], 0, false⟩ [] (by omega) (by omega) (Nat.le_refl _) (by simp)
  rw [List.drop_zero] at this
  exact this
def angG : Nat → List UInt8 → List UInt8
  | 0, _ => []
  | f + 1, l =>
    match l with
    | [] => []
    | c :: r => if c = 62 then [] else (c :: r).take (itemL (c :: r)).1 ++ angG f ((c :: r).drop (itemL (c :: r)).1)
theorem angG_more : ∀ (f : Nat) (l : List UInt8), l.length ≤ f → ∀ g, f ≤ g → angG g l = angG f l := by
  intro f
  induction f with
  | zero =>
    intro l h g _
    obtain rfl := List.eq_nil_of_length_eq_zero (by omega : l.length = 0)
    cases g <;> simp [angG]
  | succ f ih =>
    intro l h g hg
    obtain ⟨g, rfl⟩ : ∃ k, g = k + 1 := ⟨g - 1, by omega⟩
    cases l with
    | nil => simp [angG]
    | cons c r =>
      simp only [List.length_cons] at h
      have hi := itemL_len c r
      simp only [angG]
      rw [ih _ (by rw [List.length_drop, List.length_cons]; omega) g (by omega)]
def angF (l : List UInt8) : List UInt8 := angG l.length l
theorem angF_nil : angF [] = [] := rfl
theorem angF_cons (c : UInt8) (r : List UInt8) : angF (c :: r) = if c = 62 then [] else (c :: r).take (itemL (c :: r)).1 ++ angF ((c :: r).drop (itemL (c :: r)).1) := by
  have hi := itemL_len c r
  unfold angF
  simp only [List.length_cons, angG]
  rw [angG_more _ ((c :: r).drop (itemL (c :: r)).1) (Nat.le_refl _) r.length (by rw [List.length_drop, List.length_cons]; omega)]
def boxG : Nat → List UInt8 → List UInt8 → List UInt8 → Bool → List UInt8 → List UInt8 × List UInt8
  | 0, _, rest, remark, _, _ => (WordL.wordL (trimW remark), trimW rest)
  | f + 1, pre, rest, remark, found, l =>
    match l with
    | [] => (WordL.wordL (trimW remark), trimW rest)
    | c :: r =>
      if c = 60 then (calledL pre, trimW (angF r))
      else if c = 40 then boxG f (pre ++ (c :: r).take (itemL (c :: r)).1) rest (if found = true then remark else innerL ((c :: r).take (itemL (c :: r)).1) (itemL (c :: r)).2) true ((c :: r).drop (itemL (c :: r)).1)
      else boxG f (pre ++ (c :: r).take (itemL (c :: r)).1) (rest ++ (c :: r).take (itemL (c :: r)).1) remark found ((c :: r).drop (itemL (c :: r)).1)
theorem boxG_more : ∀ (f : Nat) (pre rest remark : List UInt8) (found : Bool) (l : List UInt8), l.length ≤ f → ∀ g, f ≤ g → boxG g pre rest remark found l = boxG f pre rest remark found l := by
  intro f
  induction f with
  | zero =>
    intro pre rest remark found l h g _
    obtain rfl := List.eq_nil_of_length_eq_zero (by omega : l.length = 0)
    cases g <;> simp [boxG]
  | succ f ih =>
    intro pre rest remark found l h g hg
    obtain ⟨g, rfl⟩ : ∃ k, g = k + 1 := ⟨g - 1, by omega⟩
    cases l with
    | nil => simp [boxG]
    | cons c r =>
      simp only [List.length_cons] at h
      have hi := itemL_len c r
      simp only [boxG]
      rw [ih _ _ _ _ _ (by rw [List.length_drop, List.length_cons]; omega) g (by omega), ih _ _ _ _ _ (by rw [List.length_drop, List.length_cons]; omega) g (by omega)]
def boxF (pre rest remark : List UInt8) (found : Bool) (l : List UInt8) : List UInt8 × List UInt8 := boxG l.length pre rest remark found l
theorem boxF_nil (pre rest remark : List UInt8) (found : Bool) : boxF pre rest remark found [] = (WordL.wordL (trimW remark), trimW rest) := rfl
theorem boxF_cons (pre rest remark : List UInt8) (found : Bool) (c : UInt8) (r : List UInt8) : boxF pre rest remark found (c :: r) =
    if c = 60 then (calledL pre, trimW (angF r))
      else if c = 40 then boxF (pre ++ (c :: r).take (itemL (c :: r)).1) rest (if found = true then remark else innerL ((c :: r).take (itemL (c :: r)).1) (itemL (c :: r)).2) true ((c :: r).drop (itemL (c :: r)).1)
      else boxF (pre ++ (c :: r).take (itemL (c :: r)).1) (rest ++ (c :: r).take (itemL (c :: r)).1) remark found ((c :: r).drop (itemL (c :: r)).1) := by
  have hi := itemL_len c r
  unfold boxF
  simp only [List.length_cons, boxG]
  rw [boxG_more _ _ _ _ _ ((c :: r).drop (itemL (c :: r)).1) (Nat.le_refl _) r.length (by rw [List.length_drop, List.length_cons]; omega),
    boxG_more _ _ _ _ _ ((c :: r).drop (itemL (c :: r)).1) (Nat.le_refl _) r.length (by rw [List.length_drop, List.length_cons]; omega)]
def boxR (s : ByteArray) (st : BxSt) : List UInt8 × List UInt8 :=
  (if st.a < 0 then WordL.wordL (trimW st.remark) else calledL (s.data.toList.take st.a.toNat),
   if st.a < 0 then trimW st.rest else trimW ((s.data.toList.take (if st.z < 0 then s.size else st.z.toNat)).drop (st.a.toNat + 1)))
theorem box_done (s : ByteArray) : ∀ (n i : Nat) (st : BxSt), s.size - i ≤ n → i ≤ s.size → ¬ st.a < 0 → ¬ st.z < 0 → (foldA (bxStep s) i (s.data.toList.drop i) st).a = st.a ∧ (foldA (bxStep s) i (s.data.toList.drop i) st).z = st.z := by
  have hl : s.data.toList.length = s.size := by simp
  intro n
  induction n with
  | zero =>
    intro i st h1 h2 ha hz
    rw [List.drop_eq_nil_of_le (by rw [hl]; omega), foldA_nil]; exact ⟨rfl, rfl⟩
  | succ n ih =>
    intro i st h1 h2 ha hz
    cases hd : s.data.toList.drop i with
    | nil => rw [foldA_nil]; exact ⟨rfl, rfl⟩
    | cons c r =>
      obtain ⟨_, hlt, hr⟩ := at_drop hd
      have hz1 := congrArg List.length hd
      rw [List.length_drop, hl, List.length_cons] at hz1
      have hit := itemL_len c r
      rw [foldA_cons _ _ _ _ (by simp), ← hd, List.drop_drop, hd]
      have hs : (bxStep s st i (itemL (c :: r)).1 (itemL (c :: r)).2).a = st.a ∧ (bxStep s st i (itemL (c :: r)).1 (itemL (c :: r)).2).z = st.z := by
        unfold bxStep; rw [hd]; simp only
        rw [if_neg (fun h => ha h.2), if_neg (fun h => hz h.2.2)]
        split
        · split <;> exact ⟨rfl, rfl⟩
        · exact ⟨rfl, rfl⟩
      have := ih (i + (itemL (c :: r)).1) _ (by omega) (by omega) (by rw [hs.1]; exact ha) (by rw [hs.2]; exact hz)
      rw [hs.1, hs.2] at this
      exact this
theorem box_ang (s : ByteArray) : ∀ (n i : Nat) (st : BxSt) (f : Nat), s.size - i ≤ n → i ≤ s.size → st.a = (f : Int) → f + 1 ≤ i → st.z < 0 →
    boxR s (foldA (bxStep s) i (s.data.toList.drop i) st) = (calledL (s.data.toList.take f), trimW ((s.data.toList.take i).drop (f + 1) ++ angF (s.data.toList.drop i))) := by
  have hl : s.data.toList.length = s.size := by simp
  have fin : ∀ (i : Nat) (st : BxSt) (f : Nat), s.size ≤ i → i ≤ s.size → st.a = (f : Int) → f + 1 ≤ i → st.z < 0 →
      boxR s (foldA (bxStep s) i (s.data.toList.drop i) st) = (calledL (s.data.toList.take f), trimW ((s.data.toList.take i).drop (f + 1) ++ angF (s.data.toList.drop i))) := by
    intro i st f h1 h2 h3 h4 h5
    obtain rfl : i = s.size := by omega
    rw [List.drop_eq_nil_of_le (by rw [hl]; omega), foldA_nil, angF_nil, List.append_nil]
    unfold boxR
    rw [if_neg (by omega), if_neg (by omega), if_pos h5, h3, Int.toNat_natCast]
  intro n
  induction n with
  | zero => intro i st f h1 h2 h3 h4 h5; exact fin i st f (by omega) h2 h3 h4 h5
  | succ n ih =>
    intro i st f h1 h2 h3 h4 h5
    cases hd : s.data.toList.drop i with
    | nil => have := fin i st f (at_end hd) h2 h3 h4 h5; rw [hd] at this; exact this
    | cons c r =>
      obtain ⟨_, hlt, hr⟩ := at_drop hd
      have hz1 := congrArg List.length hd
      rw [List.length_drop, hl, List.length_cons] at hz1
      have hit := itemL_len c r
      rw [foldA_cons _ _ _ _ (by simp), ← hd, List.drop_drop, hd, angF_cons]
      by_cases h62 : c = 62
      · rw [if_pos h62, List.append_nil]
        have hs : (bxStep s st i (itemL (c :: r)).1 (itemL (c :: r)).2).a = st.a ∧ (bxStep s st i (itemL (c :: r)).1 (itemL (c :: r)).2).z = (i : Int) := by
          unfold bxStep; rw [hd]; simp only
          rw [if_neg (fun h => absurd h.1 (by rw [h62]; decide)), if_pos ⟨h62, by omega, h5⟩]
          exact ⟨rfl, rfl⟩
        have hdn := box_done s s.size (i + (itemL (c :: r)).1) (bxStep s st i (itemL (c :: r)).1 (itemL (c :: r)).2) (by omega) (by omega) (by rw [hs.1]; omega) (by rw [hs.2]; omega)
        unfold boxR
        rw [hdn.1, hdn.2, hs.1, hs.2, if_neg (by omega), if_neg (by omega), if_neg (by omega), h3, Int.toNat_natCast, Int.toNat_natCast]
      · rw [if_neg h62]
        have hs : (bxStep s st i (itemL (c :: r)).1 (itemL (c :: r)).2).a = st.a ∧ (bxStep s st i (itemL (c :: r)).1 (itemL (c :: r)).2).z = st.z := by
          unfold bxStep; rw [hd]; simp only
          rw [if_neg (fun h => absurd h.2 (by omega)), if_neg (fun h => h62 h.1)]
          split
          · split <;> exact ⟨rfl, rfl⟩
          · exact ⟨rfl, rfl⟩
        rw [ih (i + (itemL (c :: r)).1) _ f (by omega) (by omega) (by rw [hs.1]; exact h3) (by omega) (by rw [hs.2]; exact h5)]
        rw [List.take_add, List.drop_append_of_le_length (by rw [List.length_take, hl]; omega), hd, List.append_assoc, ← hd, List.drop_drop]
theorem box_is (s : ByteArray) : ∀ (n i : Nat) (st : BxSt), s.size - i ≤ n → i ≤ s.size → st.a < 0 →
    boxR s (foldA (bxStep s) i (s.data.toList.drop i) { st with z := -1 }) = boxF (s.data.toList.take i) st.rest st.remark st.found (s.data.toList.drop i) := by
  have hl : s.data.toList.length = s.size := by simp
  have fin : ∀ (i : Nat) (st : BxSt), s.size ≤ i → i ≤ s.size → st.a < 0 →
      boxR s (foldA (bxStep s) i (s.data.toList.drop i) { st with z := -1 }) = boxF (s.data.toList.take i) st.rest st.remark st.found (s.data.toList.drop i) := by
    intro i st h1 h2 h3
    rw [List.drop_eq_nil_of_le (by rw [hl]; omega), foldA_nil, boxF_nil]
    unfold boxR
    rw [if_pos h3, if_pos h3]
  intro n
  induction n with
  | zero => intro i st h1 h2 h3; exact fin i st (by omega) h2 h3
  | succ n ih =>
    intro i st h1 h2 h3
    cases hd : s.data.toList.drop i with
    | nil => have := fin i st (at_end hd) h2 h3; rw [hd] at this; exact this
    | cons c r =>
      obtain ⟨_, hlt, hr⟩ := at_drop hd
      have hz1 := congrArg List.length hd
      rw [List.length_drop, hl, List.length_cons] at hz1
      have hit := itemL_len c r
      rw [foldA_cons _ _ _ _ (by simp), ← hd, List.drop_drop, hd, boxF_cons]
      have ht : ∀ k, s.data.toList.take i ++ (c :: r).take k = s.data.toList.take (i + k) := by
        intro k; rw [List.take_add, hd]
      by_cases h60 : c = 60
      · have h1' : (itemL (c :: r)).1 = 1 := by rw [item_one c r (by rw [h60]; decide) (by rw [h60]; decide)]
        rw [if_pos h60]
        have hs : (bxStep s { st with z := -1 } i (itemL (c :: r)).1 (itemL (c :: r)).2).a = (i : Int) ∧ (bxStep s { st with z := -1 } i (itemL (c :: r)).1 (itemL (c :: r)).2).z = -1 := by
          unfold bxStep; rw [hd]; simp only
          rw [if_pos ⟨h60, h3⟩]; exact ⟨rfl, rfl⟩
        rw [h1'] at hs ⊢
        rw [box_ang s s.size (i + 1) _ i (by omega) (by omega) hs.1 (by omega) (by rw [hs.2]; decide)]
        rw [List.drop_eq_nil_of_le (by rw [List.length_take]; omega), List.nil_append, hr]
      · rw [if_neg h60, ht]
        have hdr : (c :: r).drop (itemL (c :: r)).1 = s.data.toList.drop (i + (itemL (c :: r)).1) := by rw [← hd, List.drop_drop]
        rw [hdr]
        by_cases h40 : c = 40
        · rw [if_pos h40]
          have hs : bxStep s { st with z := -1 } i (itemL (c :: r)).1 (itemL (c :: r)).2 = { (if st.found = true then st else { st with remark := innerL ((c :: r).take (itemL (c :: r)).1) (itemL (c :: r)).2, found := true }) with z := -1 } := by
            unfold bxStep; rw [hd]; simp only
            rw [if_neg (fun h => h60 h.1), if_neg (fun h => absurd h.1 (by rw [h40]; decide)), if_pos h40]
            split <;> rfl
          rw [hs]
          have := ih (i + (itemL (c :: r)).1) (if st.found = true then st else { st with remark := innerL ((c :: r).take (itemL (c :: r)).1) (itemL (c :: r)).2, found := true }) (by omega) (by omega) (by split <;> exact h3)
          rw [this]
          by_cases hf : st.found = true
          · rw [if_pos hf, if_pos hf, hf]
          · rw [if_neg hf, if_neg hf]
        · rw [if_neg h40]
          have hs : bxStep s { st with z := -1 } i (itemL (c :: r)).1 (itemL (c :: r)).2 = { { st with rest := st.rest ++ (c :: r).take (itemL (c :: r)).1 } with z := -1 } := by
            unfold bxStep; rw [hd]; simp only
            rw [if_neg (fun h => h60 h.1), if_neg (fun h => absurd h3 h.2.1), if_neg h40]
          rw [hs]
          exact ih (i + (itemL (c :: r)).1) { st with rest := st.rest ++ (c :: r).take (itemL (c :: r)).1 } (by omega) (by omega) h3
def boxP (l : List UInt8) : List UInt8 × List UInt8 := boxF [] [] [] false l
theorem boxNM_is (s : ByteArray) : boxN s = (boxP s.data.toList).1 ∧ boxM s = (boxP s.data.toList).2 := by
  have h := box_is s s.size 0 ⟨-1, -1, [], false, []⟩ (by omega) (by omega) (by decide)
  rw [List.drop_zero, List.take_zero] at h
  have hR : boxR s (boxS s) = boxP s.data.toList := h
  exact ⟨congrArg Prod.fst hR, congrArg Prod.snd hR⟩
def keepP (x : List UInt8 × List UInt8) : List (List UInt8 × List UInt8) :=
  if x.1 = [] ∧ (if goodL x.2 = true then x.2 else []) = [] then [] else [(x.1, if goodL x.2 = true then x.2 else [])]
def parseP (l : List UInt8) : List (List UInt8 × List UInt8) := (textsF [] false l).flatMap fun t => keepP (boxP t)
theorem parse_fold (xs : List ByteArray) : ∀ acc, xs.foldl parseStep acc = acc ++ (xs.map (·.data.toList)).flatMap fun t => keepP (boxP t) := by
  induction xs with
  | nil => intro acc; simp
  | cons x xs ih =>
    intro acc
    have h := boxNM_is x
    have hs : parseStep acc x = acc ++ keepP (boxP x.data.toList) := by
      unfold parseStep keepP mailL
      rw [h.1, h.2]
      by_cases hc : (boxP x.data.toList).1 = [] ∧ (if goodL (boxP x.data.toList).2 = true then (boxP x.data.toList).2 else []) = []
      · rw [if_pos hc, if_pos hc, List.append_nil]
      · rw [if_neg hc, if_neg hc]
    rw [List.foldl_cons, ih, hs, List.map_cons, List.flatMap_cons, List.append_assoc]
theorem parseL_is (s : ByteArray) : parseL s = parseP s.data.toList := by
  unfold parseL parseP
  rw [parse_fold, textsL_is, List.nil_append]
end Go.Proofs.YtpcncpegbboljaaGreatDoor.Addr
namespace Go.Proofs.YtpcncpegbboljaaGreatDoor.Once
set_option linter.unusedVariables false
set_option linter.unusedSimpArgs false
theorem disable (w : World) : (callFunc 150 #[]).run Tryz.prog w = .ok (.value (.tuple #[])) w := run_call_mark0 Tryz.func150 (by kernel_rfl) (by kernel_rfl) (by kernel_rfl) .disable (by kernel_rfl) w
theorem enable (w : World) : (callFunc 152 #[]).run Tryz.prog w = .ok (.value (.tuple #[])) w := run_call_mark0 Tryz.func152 (by kernel_rfl) (by kernel_rfl) (by kernel_rfl) .enable (by kernel_rfl) w
theorem acquire (a : Addr) (w : World) : (callFunc 153 #[.pointer (some a)]).run Tryz.prog w = .ok (.value (.tuple #[])) w := run_call_marked Tryz.func153 (by kernel_rfl) (by kernel_rfl) (by kernel_rfl) .acquire (by kernel_rfl) a w
theorem releaseMerge (a : Addr) (w : World) : (callFunc 155 #[.pointer (some a)]).run Tryz.prog w = .ok (.value (.tuple #[])) w := run_call_marked Tryz.func155 (by kernel_rfl) (by kernel_rfl) (by kernel_rfl) .releaseMerge (by kernel_rfl) a w
theorem store_deferred (a : Addr) (x : Value) (u : FrameMode) (w : World) (hc : w.cell? a = some x) (hz : w.frozen? a = false) :
    CallsD Tryz.prog 117 #[.pointer (some a), .bool true] u w fun e u' w' => u' = u ∧ (e = .returned (.tuple #[]) ∧ w' = w.drew.setCell a (.int .u32 1)) := by
  have hc' : w.drew.cell? a = some x := by go_simp
  have hz' : w.drew.frozen? a = false := by go_simp
  have hst := run_call_store (P := Tryz.prog) Tryz.func140 (by kernel_rfl) (by kernel_rfl) (by kernel_rfl) (by kernel_rfl) (k := .u32) (y := 1) hc' hz'
  go_enter_d Tryz.func117, Tryz.ntmps117
  go_wp2
  go_region_calls
  all_goals (go_end0; exact ⟨rfl, rfl⟩)
set_option maxRecDepth 100000 in
set_option maxHeartbeats 1600000 in
theorem unlock_deferred (a : Addr) (u : FrameMode) (w : World) (hc : w.cell? a = some (.int .i32 1)) (hz : w.frozen? a = false) :
    CallsD Tryz.prog 116 #[.pointer (some a)] u w fun e u' w' => u' = u ∧ (e = .returned (.tuple #[]) ∧ w' = w.setCell a (.int .i32 0)) := by
  have hd := disable
  have he := enable
  have hr := releaseMerge
  have hadd := run_call_add (P := Tryz.prog) Tryz.func156 (by kernel_rfl) (by kernel_rfl) (by kernel_rfl) .i32 (by kernel_rfl) (y := -1) (s := 0) hc hz (by simp [go_sem]; rfl)
  have hcv := run_convert_to_unsafe (P := Tryz.prog) (src := 165) (dst := 108) Tryz.underlying165 Tryz.underlying108 (by kernel_rfl) hc
  go_enter_d Tryz.func116, Tryz.ntmps116
  go_wp2
  go_end0
  go_wp2
  go_end0
  exact ⟨rfl, rfl⟩
set_option maxRecDepth 100000 in
set_option maxHeartbeats 1600000 in
theorem lock_free (a : Addr) (w : World) (hc : w.cell? a = some (.int .i32 0)) (hz : w.frozen? a = false) :
    Calls Tryz.prog 115 #[.pointer (some a)] w fun e w' => e = .returned (.tuple #[]) ∧ w' = w.setCell a (.int .i32 1) := by
  have hd := disable
  have he := enable
  have ha := acquire
  have hcas := run_call_cas_hit (P := Tryz.prog) Tryz.func151 (by kernel_rfl) (by kernel_rfl) (by kernel_rfl) .i32 (by kernel_rfl) (y := 1) hc hz
  have hc' : (w.setCell a (.int .i32 1)).cell? a = some (.int .i32 1) := World.cell?_setCell_same w a _ hc
  have hcv := run_convert_to_unsafe (P := Tryz.prog) (src := 165) (dst := 108) Tryz.underlying165 Tryz.underlying108 (by kernel_rfl) hc'
  go_enter Tryz.func115, Tryz.ntmps115
  go_wp2
  first | go_end0 | (simp only [Exit.inBlock, Exit.then]; refine bodyPost_ret (results_none rfl _ _ _) rfl ?_) | refine bodyPost_ret (results_none rfl _ _ _) rfl ?_
  go_wp2
  go_end0
  exact ⟨rfl, rfl⟩
set_option maxRecDepth 100000 in
set_option maxHeartbeats 1600000 in
theorem slow_any (b : Nat) (cap : Array Value) (w : World) (Q : World → Prop)
    (h0 : w.cell? ⟨b, 0, none⟩ = some (.int .u32 0)) (h1 : w.cell? ⟨b, 1, none⟩ = some (.int .i32 0))
    (f1 : w.frozen? ⟨b, 1, none⟩ = false)
    (hg : Calls Tryz.prog 59 cap (w.setCell ⟨b, 1, none⟩ (.int .i32 1)) fun e w' => e = .returned (.tuple #[]) ∧ Q w')
    (hq : ∀ w', Q w' → (∃ x, w'.cell? ⟨b, 0, none⟩ = some x) ∧ w'.cell? ⟨b, 1, none⟩ = some (.int .i32 1) ∧ w'.frozen? ⟨b, 0, none⟩ = false ∧ w'.frozen? ⟨b, 1, none⟩ = false) :
    Calls Tryz.prog 90 #[.pointer (some ⟨b, 0, none⟩), .func (.func 59) cap #[]] w fun e w' => e = .returned (.tuple #[]) ∧
      ∃ w1, Q w1 ∧ w' = (w1.drew.setCell ⟨b, 0, none⟩ (.int .u32 1)).setCell ⟨b, 1, none⟩ (.int .i32 0) := by
  have hl := run_call_load (P := Tryz.prog) Tryz.func114 (by kernel_rfl) (by kernel_rfl) (by kernel_rfl) .u32 (by kernel_rfl) (w := w.setCell ⟨b, 1, none⟩ (.int .i32 1)) (a := ⟨b, 0, none⟩) (x := 0) ((World.cell?_setCell_other _ ⟨b, 1, none⟩ ⟨b, 0, none⟩ _ (by simp)).trans h0)
  have hnot : ∀ (x : Bool) (w : World), (Op.unary .not (.bool x)).run Tryz.prog w = .ok (.bool (!x)) w := fun _ _ => rfl
  go_enter_defers Tryz.func90, Tryz.ntmps90
  go_wp2_with (go_at_call 115; refine (lock_free ⟨b, 1, none⟩ _ (by go_simp) (by go_simp)).mono ?_; rintro e w' ⟨rfl, rfl⟩)
  go_wp2_with (first | (go_at_call 89; go_in) | (go_at_call 59; refine hg.mono ?_; rintro e w' ⟨rfl, hQ⟩))
  obtain ⟨⟨x, q0⟩, q1, q2, q3⟩ := hq _ hQ
  refine leaves_cons (f := 117) (args := #[.pointer (some ⟨b, 0, none⟩), .bool true]) (by simp) (by simp [go_sem]) ?_
  refine (store_deferred ⟨b, 0, none⟩ x .returning _ q0 q2).mono ?_
  rintro e u' w'' ⟨rfl, rfl, rfl⟩
  refine leaves_cons (f := 116) (args := #[.pointer (some ⟨b, 1, none⟩)]) (by simp [settle]) (by simp [go_sem]) ?_
  refine (unlock_deferred ⟨b, 1, none⟩ _ _ ?_ (by simp [q3])).mono ?_
  · refine (World.cell?_setCell_other _ ⟨b, 0, none⟩ ⟨b, 1, none⟩ _ (by simp)).trans ?_
    rw [World.cell?_drew]
    exact q1
  rintro e u' w'' ⟨rfl, rfl, rfl⟩
  simp [Leaves, settle, results, Tryz.results90]
  exact ⟨_, hQ, rfl⟩
set_option maxRecDepth 100000 in
set_option maxHeartbeats 1600000 in
theorem do_first (b : Nat) (cap : Array Value) (w : World) (Q : World → Prop)
    (h0 : w.cell? ⟨b, 0, none⟩ = some (.int .u32 0)) (h1 : w.cell? ⟨b, 1, none⟩ = some (.int .i32 0))
    (f1 : w.frozen? ⟨b, 1, none⟩ = false)
    (hg : Calls Tryz.prog 59 cap (w.setCell ⟨b, 1, none⟩ (.int .i32 1)) fun e w' => e = .returned (.tuple #[]) ∧ Q w')
    (hq : ∀ w', Q w' → (∃ x, w'.cell? ⟨b, 0, none⟩ = some x) ∧ w'.cell? ⟨b, 1, none⟩ = some (.int .i32 1) ∧ w'.frozen? ⟨b, 0, none⟩ = false ∧ w'.frozen? ⟨b, 1, none⟩ = false) :
    Calls Tryz.prog 58 #[.pointer (some ⟨b, 0, none⟩), .func (.func 59) cap #[]] w fun e w' => e = .returned (.tuple #[]) ∧
      ∃ w1, Q w1 ∧ w' = (w1.drew.setCell ⟨b, 0, none⟩ (.int .u32 1)).setCell ⟨b, 1, none⟩ (.int .i32 0) := by
  have hl := run_call_load (P := Tryz.prog) Tryz.func114 (by kernel_rfl) (by kernel_rfl) (by kernel_rfl) .u32 (by kernel_rfl) h0
  have hnot : ∀ (x : Bool) (w : World), (Op.unary .not (.bool x)).run Tryz.prog w = .ok (.bool (!x)) w := fun _ _ => rfl
  have HS := Lib.hid (slow_any b cap w Q h0 h1 f1 hg hq)
  clear hg hq
  go_enter Tryz.func58, Tryz.ntmps58
  go_wp2_with (first | (go_at_call 90; refine HS.out.mono ?_; rintro e w' ⟨rfl, hQ⟩) | (go_at_call 89; go_in))
  go_end0
  exact ⟨rfl, hQ⟩
end Go.Proofs.YtpcncpegbboljaaGreatDoor.Once
namespace Go.Proofs.YtpcncpegbboljaaGreatDoor.Repl
open Go.RowKit Go.Proofs.YtpcncpegbboljaaGreatDoor.Row
set_option linter.unusedVariables false
set_option linter.unusedSimpArgs false
abbrev Pairs := List (UInt8 × ByteArray)
def look (ps : Pairs) (b : Nat) : Option ByteArray := (ps.find? fun p => p.1.toNat == b).map (·.2)
def oldnew (ps : Pairs) : List ByteArray := ps.flatMap fun p => [⟨#[p.1]⟩, p.2]
def RepCell (M : Nat) (w : World) (r : Option ByteArray) (v : Value) : Prop :=
  match r with
  | none => v = .slice none 0 0
  | some s => ∃ B c, M ≤ B ∧ v = .slice (some ⟨B, 0, none⟩) s.size c ∧ Row 5 w B s.data.toList
def Part (M : Nat) (w : World) (R : Nat) (qs : Pairs) : Prop :=
  ∃ (C : Array Value) (tv : Value), M ≤ R ∧ w.heap[R]? = some (.cells C 135 (0, 0)) ∧ C.size = 257 ∧ C[256]? = some tv ∧
    w.ownsRow M 9 1 tv qs.length (qs.reverse.map fun p => .string ⟨#[p.1]⟩) ∧ ∀ b, b < 256 → ∃ v, C[b]? = some v ∧ RepCell M w (look qs b) v
def Lies (w : World) (g : Nat) (ps : Pairs) : Prop := ∀ k, (h : k < ps.length) → w.cell? ⟨g, 2 * k, none⟩ = some (.string ⟨#[(ps[k]).1]⟩) ∧ w.cell? ⟨g, 2 * k + 1, none⟩ = some (.string (ps[k]).2)
def allNew (ps : Pairs) : Bool := ps.all fun p => p.2.size == 1
theorem allNew_snoc (ps : Pairs) (k : Nat) (h : k < ps.length) : allNew (ps.take (k + 1)) = (allNew (ps.take k) && ((ps[k]).2.size == 1)) := by
  unfold allNew
  rw [List.take_succ_eq_append_getElem h, List.all_append]
  simp
theorem infoStr : (Tryz.prog.info? 9).map (fun i => (i.zero, i.size, i.bytes)) = some (some (.string ByteArray.empty), 1, 16) := by kernel_rfl
theorem make_strs (w : World) (n : Nat) (h : n ≤ 100) : ∃ mc : Array Value, mc.size = n ∧
    (Instr.makeSlice 34 (.int .i64 0) (.int .i64 (n : Int))).run Tryz.prog w = .ok (.slice (some ⟨w.heap.size, 0, none⟩) 0 n) (w.alloc (.cells mc 9)) := by
  obtain ⟨i0, hi, hz0, hz1, hz2⟩ := info_parts infoStr
  have hr := run_make (P := Tryz.prog) w 34 9 i0 _ Tryz.underlying34 hi hz0 .i64 .i64 0 n (Int.le_refl _) (by omega) (by rw [hz2]; omega) (by omega)
  simp only [Int.toNat_zero, Int.toNat_natCast] at hr
  exact ⟨_, by rw [size_madeCells, hz1, Nat.mul_one], hr⟩
theorem zc_eq : Tryz.zeroCells135 = Array.replicate 257 (.slice none 0 0) := by kernel_rfl
theorem start_gen (w : World) (mc : Array Value) (n M : Nat) (hm : mc.size = n) (hn : n ≤ 100) : ∃ w2,
    (storeCells ⟨w.heap.size + 1, 0, none⟩ ((Array.replicate (M + 1) (Value.slice none 0 0)).toList.set M (.slice (some ⟨w.heap.size, 0, none⟩) 0 n))).run Tryz.prog ((w.alloc (.cells mc 9)).alloc (.cells (Array.replicate (M + 1) (Value.slice none 0 0)) 135)) = .ok () w2 ∧
    (∃ (C : Array Value) (tv : Value), w2.heap[w.heap.size + 1]? = some (.cells C 135 (0, 0)) ∧ C.size = M + 1 ∧ C[M]? = some tv ∧
      w2.ownsRow w.heap.size 9 1 tv 0 [] ∧ ∀ b, b < M → C[b]? = some (.slice none 0 0)) ∧ Below w.heap.size w w2 ∧ w.heap.size + 2 ≤ w2.heap.size := by
  have hs1 : (w.alloc (.cells mc 9)).heap.size = w.heap.size + 1 := by simp
  have hg : ((w.alloc (.cells mc 9)).alloc (.cells (Array.replicate (M + 1) (.slice none 0 0)) 135)).heap[w.heap.size + 1]? = some (.cells (Array.replicate (M + 1) (.slice none 0 0)) 135 (0, 0)) := by
    rw [← hs1]; exact heap_alloc_new _ _
  have hw0 : ((w.alloc (.cells mc 9)).alloc (.cells (Array.replicate (M + 1) (.slice none 0 0)) 135)).heap[w.heap.size]? = some (.cells mc 9 (0, 0)) := by
    rw [heap_alloc_old]
    · exact heap_alloc_new _ _
    · rw [hs1]; omega
  have hb : Below w.heap.size w ((w.alloc (.cells mc 9)).alloc (.cells (Array.replicate (M + 1) (.slice none 0 0)) 135)) := ((Below.refl _ w).alloc (Nat.le_refl _) _).alloc (by simp) _
  have hsz : ((w.alloc (.cells mc 9)).alloc (.cells (Array.replicate (M + 1) (.slice none 0 0)) 135)).heap.size = w.heap.size + 2 := by simp
  generalize hvs : (Array.replicate (M + 1) (Value.slice none 0 0)).toList.set M (.slice (some ⟨w.heap.size, 0, none⟩) 0 n) = vs at *
  have hlen : vs.length = M + 1 := by rw [← hvs]; simp
  have hone : ∀ v ∈ vs, v.oneCell' = true := by
    intro v hv
    rw [← hvs] at hv
    rcases List.mem_or_eq_of_mem_set hv with h | h
    · have : v = .slice none 0 0 := by simpa using h
      rw [this]; rfl
    · rw [h]; rfl
  generalize (w.alloc (.cells mc 9)).alloc (.cells (Array.replicate (M + 1) (.slice none 0 0)) 135) = W at *
  have hr := run_storeCells_at (P := Tryz.prog) (w.heap.size + 1) 0 135 vs 0 _ W hg (by rw [hlen]; simp) hone
  have e : ((Array.replicate (M + 1) (Value.slice none 0 0)).toList.take (0 + 0) ++ vs ++ (Array.replicate (M + 1) (Value.slice none 0 0)).toList.drop (0 + 0 + vs.length)).toArray = vs.toArray := by
    rw [hlen]; simp
  rw [e] at hr
  refine ⟨_, hr, ?_, below_setRow hb (by omega) _, by simp; omega⟩
  refine ⟨vs.toArray, .slice (some ⟨w.heap.size, 0, none⟩) 0 n, setRow_heap _ _ _ _ _ _ hg, by simp [hlen], ?_, ?_, ?_⟩
  · rw [← hvs]; simp
  · refine ⟨by simp, .inr ⟨w.heap.size, n, mc, rfl, Nat.le_refl _, ?_, Nat.zero_le _, by simp [maxLen]; omega, by omega, by simp⟩⟩
    rw [setRow_other _ _ _ _ (by omega)]; exact hw0
  · intro b hb
    rw [← hvs]
    simp only [List.getElem?_toArray]
    rw [List.getElem?_set_ne (by omega), Array.toList_replicate, List.getElem?_replicate, if_pos (by omega)]
theorem start_repl (w : World) (mc : Array Value) (n : Nat) (hm : mc.size = n) (hn : n ≤ 100) : ∃ w2,
    (storeCells ⟨w.heap.size + 1, 0, none⟩ (Tryz.zeroCells135.toList.set 256 (.slice (some ⟨w.heap.size, 0, none⟩) 0 n))).run Tryz.prog ((w.alloc (.cells mc 9)).alloc (.cells Tryz.zeroCells135 135)) = .ok () w2 ∧
    Part w.heap.size w2 (w.heap.size + 1) [] ∧ Below w.heap.size w w2 ∧ w.heap.size + 2 ≤ w2.heap.size := by
  rw [zc_eq]
  obtain ⟨w2, hr, ⟨C, tv, h1, h2, h3, h4, h5⟩, hb, hs⟩ := start_gen w mc n 256 hm hn
  exact ⟨w2, hr, ⟨C, tv, Nat.le_succ _, h1, h2, h3, h4, fun b hb => ⟨_, h5 b hb, rfl⟩⟩, hb, hs⟩
theorem look_none (ps : Pairs) (hnd : (ps.map (·.1)).Nodup) (k : Nat) (h : k < ps.length) : look (ps.drop (k + 1)) (ps[k]).1.toNat = none := by
  unfold look
  rw [Option.map_eq_none_iff, List.find?_eq_none]
  intro p hp
  rw [List.drop_eq_getElem_cons h |> fun e => show ps = ps.take k ++ ps[k] :: ps.drop (k + 1) by rw [← e, List.take_append_drop]] at hnd
  rw [List.map_append, List.map_cons, List.nodup_append] at hnd
  have h2 := (List.nodup_cons.1 hnd.2.1).1
  intro he
  apply h2
  rw [List.mem_map]
  exact ⟨p, hp, UInt8.toNat_inj.1 (by simpa using he)⟩
theorem below_grown {B : Nat} {w0 w w1 : World} {row : Option Nat} (hb : Below B w0 w) (hg : w.grownBy w1 row) (hr : ∀ j, row = some j → B ≤ j) (hB : B ≤ w.heap.size) : Below B w0 w1 :=
  ⟨hg.os.trans hb.os, hg.tape.trans hb.tape, hg.output.trans hb.output, Nat.le_trans hb.size hg.size, fun k hk => (hg.block k (Nat.lt_of_lt_of_le hk hB) (fun e => by have := hr k e.symm; omega)).trans (hb.block k hk)⟩
theorem Row.of_heap {e : Nat} {w w' : World} {B : Nat} {l : List UInt8} (h : Row e w B l) (hh : w'.heap[B]? = w.heap[B]?) : Row e w' B l := by
  obtain ⟨C, hC, h2⟩ := h
  exact ⟨C, by rw [hh]; exact hC, h2⟩
theorem own_apart {w : World} {M e n : Nat} {v : Value} {xs : List Value} {R : Nat} {C : Array Value} {t : TypeId} {fr : Nat × Nat} (h : w.ownsRow M e 1 v n xs) (hC : w.heap[R]? = some (.cells C t fr)) (hne : t ≠ e ∨ fr ≠ (0, 0)) : v.ownBlock ≠ some R := by
  intro hb
  rcases h.2 with ⟨rfl, _⟩ | ⟨g, cap, cur, rfl, _, hg, _⟩
  · simp [Value.ownBlock] at hb
  · simp only [Value.ownBlock, Option.some.injEq] at hb
    subst hb
    rw [hC] at hg
    injection hg with hg
    injection hg with _ h2 h3
    rcases hne with h | h
    · exact h h2
    · exact h h3
theorem own_of_heap {w w' : World} {M e n : Nat} {v : Value} {xs : List Value} (h : w.ownsRow M e 1 v n xs) (hh : ∀ k, v.ownBlock = some k → w'.heap[k]? = w.heap[k]?) : w'.ownsRow M e 1 v n xs := by
  refine ⟨h.1, ?_⟩
  rcases h.2 with hn | ⟨g, cap, cur, rfl, hb, hg, rest⟩
  · exact .inl hn
  · exact .inr ⟨g, cap, cur, rfl, hb, by rw [hh g rfl]; exact hg, rest⟩
theorem setCell_heap_at (w : World) (B j : Nat) (C : Array Value) (t : TypeId) (fr : Nat × Nat) (v : Value) (hC : w.heap[B]? = some (.cells C t fr)) : (w.setCell ⟨B, j, none⟩ v).heap[B]? = some (.cells (C.setIfInBounds j v) t fr) := by
  rw [setCell_eq_setRow w B j C t fr v hC]; exact setRow_heap _ _ _ _ _ _ hC
theorem setCell_heap_ne (w : World) (B j k : Nat) (v : Value) (h : k ≠ B) : (w.setCell ⟨B, j, none⟩ v).heap[k]? = w.heap[k]? := by
  simp only [World.setCell]
  rw [Array.getElem?_modify, if_neg (fun e => h e.symm)]
theorem part_step (M R : Nat) (wr w1 : World) (o1 o2 o : Obj) (C : Array Value) (tv v1 : Value) (qs : Pairs) (c : UInt8) (ns : ByteArray) (cap : Nat)
    (hMR : M ≤ R) (hMw : M ≤ wr.heap.size) (hC : wr.heap[R]? = some (.cells C 135 (0, 0))) (hCz : C.size = 257) (hown : wr.ownsRow M 9 1 tv qs.length (qs.reverse.map fun p => .string ⟨#[p.1]⟩))
    (hcells : ∀ b, b < 256 → ∃ v, C[b]? = some v ∧ RepCell M wr (look qs b) v)
    (hgr : ((wr.alloc o1).alloc o2).grownBy w1 tv.ownBlock) (hown1 : w1.ownsRow M 9 1 v1 (qs.length + 1) ((qs.reverse.map fun p => Value.string ⟨#[p.1]⟩) ++ [.string ⟨#[c]⟩]))
    (hrow : Row 5 ((w1.setCell ⟨R, 256, none⟩ v1).alloc o) w1.heap.size ns.data.toList) :
    Part M (((w1.setCell ⟨R, 256, none⟩ v1).alloc o).drew.setCell ⟨R, c.toNat, none⟩ (.slice (some ⟨w1.heap.size, 0, none⟩) ns.size cap)) R ((c, ns) :: qs) := by
  have h256 := UInt8.toNat_lt c
  have hRlt : R < wr.heap.size := (Array.getElem?_eq_some_iff.1 hC).1
  have hs2 : ((wr.alloc o1).alloc o2).heap.size = wr.heap.size + 2 := by simp
  have hs1 : wr.heap.size + 2 ≤ w1.heap.size := by have := hgr.size; omega
  have hold : ∀ k, k < wr.heap.size → tv.ownBlock ≠ some k → w1.heap[k]? = wr.heap[k]? := by
    intro k hk hne
    rw [hgr.block k (by omega) (fun h => hne h.symm), heap_alloc_old, heap_alloc_old]
    · exact hk
    · simp; omega
  have hC1 : w1.heap[R]? = some (.cells C 135 (0, 0)) := by
    rw [hold R hRlt (own_apart hown hC (.inl (by decide)))]; exact hC
  have hne1 : v1.ownBlock ≠ some R := own_apart hown1 hC1 (.inl (by decide))
  have hz2 : (w1.setCell ⟨R, 256, none⟩ v1).heap.size = w1.heap.size := by simp
  have hC2 := setCell_heap_at w1 R 256 C _ _ v1 hC1
  have hC3 : (((w1.setCell ⟨R, 256, none⟩ v1).alloc o).drew).heap[R]? = some (.cells (C.setIfInBounds 256 v1) 135 (0, 0)) := by
    show ((w1.setCell ⟨R, 256, none⟩ v1).alloc o).heap[R]? = _
    rw [heap_alloc_old]
    · exact hC2
    · omega
  have hC4 := setCell_heap_at _ R c.toNat _ _ _ (.slice (some ⟨w1.heap.size, 0, none⟩) ns.size cap) hC3
  have hkeep : ∀ k, k ≠ R → k < w1.heap.size → (((w1.setCell ⟨R, 256, none⟩ v1).alloc o).drew.setCell ⟨R, c.toNat, none⟩ (.slice (some ⟨w1.heap.size, 0, none⟩) ns.size cap)).heap[k]? = w1.heap[k]? := by
    intro k hk hlt
    rw [setCell_heap_ne _ _ _ _ _ hk]
    show ((w1.setCell ⟨R, 256, none⟩ v1).alloc o).heap[k]? = _
    rw [heap_alloc_old]
    · exact setCell_heap_ne _ _ _ _ _ hk
    · omega
  refine ⟨_, v1, hMR, hC4, by simp [hCz], ?_, ?_, ?_⟩
  · rw [Array.getElem?_setIfInBounds_ne (by omega), Array.getElem?_setIfInBounds_self_of_lt (by omega)]
  · have e : (((c, ns) :: qs).reverse.map fun p => Value.string ⟨#[p.1]⟩) = (qs.reverse.map fun p => Value.string ⟨#[p.1]⟩) ++ [.string ⟨#[c]⟩] := by simp
    rw [e]
    refine own_of_heap hown1 fun k hk => hkeep k ?_ (hown1.lt k hk).2
    rintro rfl
    exact hne1 hk
  · intro b hb
    by_cases hbc : b = c.toNat
    · subst hbc
      refine ⟨_, Array.getElem?_setIfInBounds_self_of_lt (by simp; omega), ?_⟩
      have hl : look ((c, ns) :: qs) c.toNat = some ns := by simp [look]
      rw [hl]
      refine ⟨w1.heap.size, cap, by omega, rfl, ?_⟩
      refine Row.of_heap hrow ?_
      rw [setCell_heap_ne _ _ _ _ _ (by omega)]
      rfl
    · obtain ⟨v, hv, hr⟩ := hcells b hb
      refine ⟨v, ?_, ?_⟩
      · rw [Array.getElem?_setIfInBounds_ne (by omega), Array.getElem?_setIfInBounds_ne (by omega)]; exact hv
      · have hl : look ((c, ns) :: qs) b = look qs b := by
          unfold look
          rw [List.find?_cons_of_neg]
          simp; omega
        rw [hl]
        cases hk : look qs b with
        | none => rw [hk] at hr; exact hr
        | some s =>
          rw [hk] at hr
          obtain ⟨B, c', hB, rfl, hrw⟩ := hr
          refine ⟨B, c', hB, rfl, Row.of_heap hrw ?_⟩
          obtain ⟨CB, hCB, _⟩ := id hrw
          have hBlt : B < wr.heap.size := hrw.lt
          have hBR : B ≠ R := by
            rintro rfl
            rw [hC] at hCB
            injection hCB with h
            injection h with _ h2
            exact absurd h2 (by decide)
          rw [hkeep B hBR (by omega)]
          exact hold B hBlt (own_apart hown hCB (.inl (by decide)))
set_option maxRecDepth 100000 in
set_option maxHeartbeats 4000000 in
theorem build_any (b g cap : Nat) (ps : Pairs) (w : World) (hn : 2 ≤ ps.length) (hn2 : ps.length ≤ 100) (hnew : allNew ps = false) (hnd : (ps.map (·.1)).Nodup)
    (hb : w.cell? ⟨b, 4, none⟩ = some (.slice (some ⟨g, 0, none⟩) (2 * ps.length) cap)) (hl : Lies w g ps) :
    Calls Tryz.prog 91 #[.pointer (some ⟨b, 0, none⟩)] w fun e w' => ∃ R, e = .returned (.iface 136 (.pointer (some ⟨R, 0, none⟩))) ∧ Part w.heap.size w' R ps ∧ Below w.heap.size w w' := by
  have HL := Lib.hid hl
  have HN := Lib.hid hnew
  have l2 : ¬ ((2 * ps.length : Nat) : Int) = 2 := by omega
  have l3 : 2 * ps.length ≤ 9223372036854775807 := by omega
  clear hl hnew
  go_enter Tryz.func91, Tryz.ntmps91
  go_wp2
  go_loop [4, 5] (fun u i => ∃ k : Nat, k ≤ ps.length ∧ i = .int .i64 ((2 * k : Nat) : Int) ∧ u = .bool (allNew (ps.take k))) (fun _ i => 2 * ps.length - (intOf i).toNat)
  case atStart => exact ⟨0, Nat.zero_le _, rfl, rfl⟩
  case round =>
    obtain ⟨k, hk, rfl, rfl⟩ := hrel
    by_cases hlt : k < ps.length
    · obtain ⟨c1, c2⟩ := HL.out k hlt
      have hsn := Lib.hid (allNew_snoc ps k hlt)
      have i1 : ((2 * k : Nat) : Int) < ((2 * ps.length : Nat) : Int) := by omega
      have i2 : 2 * k < 2 * ps.length := by omega
      have i3 : 2 * k + 1 < 2 * ps.length := by omega
      have i4 : ((2 * k : Nat) : Int) + 1 < ((2 * ps.length : Nat) : Int) := by omega
      have i5 : (2 * k : Int) + 1 < (2 * ps.length : Int) := by omega
      have i6 : (2 * k : Int) < (2 * ps.length : Int) := by omega
      by_cases h1 : (ps[k]).2.size = 1
      · have h2 : (((ps[k]).2.size : Nat) : Int) = 1 := by omega
        go_wp2
        go_round
        case rel => exact ⟨k + 1, by omega, by go_num, by rw [hsn.out]; simp [h1]⟩
        case measure => simp [intOf]; omega
      · have h2 : ¬ (((ps[k]).2.size : Nat) : Int) = 1 := by omega
        go_wp2
        go_round
        case rel => exact ⟨k + 1, by omega, by go_num, by rw [hsn.out]; simp [h1]⟩
        case measure => simp [intOf]; omega
    · obtain rfl : k = ps.length := by omega
      rw [List.take_length, HN.out]
      obtain ⟨mc, hmz, hmk⟩ := make_strs w ps.length hn2
      obtain ⟨w2, hst, hpart, hbel, hsz⟩ := start_repl w mc ps.length hmz hn2
      have HP := Lib.hid hpart; have HB := Lib.hid hbel
      have qT : ∀ (w : World) (a : Option Addr) (n c n' c' : Nat), (binOp .eql 45 (.slice a n c) (.slice none n' c')).run Tryz.prog w = .ok (.bool a.isNone) w := fun w a n c n' c' => Lib.run_eql_slice_nil w _ _ a n c n' c' Tryz.underlying45
      clear hpart hbel
      go_wp2
      go_loopw [12] (fun i wr => ∃ (k : Nat) (x : Int), k ≤ ps.length ∧ i = .int .i64 x ∧ x = 2 * (k : Int) - 2 ∧ Part w.heap.size wr (w.heap.size + 1) (ps.drop k) ∧ Below w.heap.size w wr ∧ w.heap.size + 2 ≤ wr.heap.size) (fun i _ => (intOf i + 2).toNat)
      case atStart => exact ⟨ps.length, _, Nat.le_refl _, rfl, rfl, by rw [List.drop_length]; exact HP.out, HB.out, hsz⟩
      case round =>
        obtain ⟨k, x, hk2, rfl, hx, hpart, hbel, hszr⟩ := hrel
        by_cases h0 : k = 0
        · subst h0
          have hx0 : ¬ 0 ≤ x := by omega
          have HPt := Lib.hid hpart
          clear hx hpart
          go_wp2
          go_ret
          exact ⟨_, rfl, by have := HPt.out; rw [List.drop_zero] at this; exact this, hbel⟩
        · obtain ⟨k, rfl⟩ : ∃ m, k = m + 1 := ⟨k - 1, by omega⟩
          obtain rfl : x = ((2 * k : Nat) : Int) := by omega
          have hkl : k < ps.length := by omega
          obtain ⟨c1, c2⟩ := HL.out k hkl
          have c1' := cell_later hbel c1
          have c2' := cell_later hbel c2
          have i1 : ((2 * k : Nat) : Int) < ((2 * ps.length : Nat) : Int) := by omega
          have i2 : 2 * k < 2 * ps.length := by omega
          have i3 : 2 * k + 1 < 2 * ps.length := by omega
          have i4 : ((2 * k : Nat) : Int) + 1 < ((2 * ps.length : Nat) : Int) := by omega
          have i5 : (2 * k : Int) + 1 < (2 * ps.length : Int) := by omega
          have i6 : (2 * k : Int) < (2 * ps.length : Int) := by omega
          have h256 : (ps[k]).1.toNat < 256 := UInt8.toNat_lt _
          have g0 : ∀ c : UInt8, (⟨#[c]⟩ : ByteArray).size = 1 := fun _ => rfl
          have hlk := look_none ps hnd k hkl
          obtain ⟨C, tv, hMR, hC, hCz, hC6, hown, hcells⟩ := hpart
          obtain ⟨v0, hv0, hr0⟩ := hcells (ps[k]).1.toNat h256
          rw [hlk] at hr0
          obtain rfl : v0 = .slice none 0 0 := hr0
          have d1 : wr.cell? ⟨w.heap.size + 1, (ps[k]).1.toNat, none⟩ = some (.slice none 0 0) := by rw [cell_of_row _ _ _ _ _ _ hC]; exact hv0
          have d2 : wr.cell? ⟨w.heap.size + 1, 256, none⟩ = some tv := by rw [cell_of_row _ _ _ _ _ _ hC]; exact hC6
          have fz : ∀ j, wr.frozen? ⟨w.heap.size + 1, j, none⟩ = false := fun j => by simp [World.frozen?, hC]
          generalize hcc : (ps[k]).1 = c at *
          generalize hnn : (ps[k]).2 = ns at *
          have hz1 : (⟨#[c]⟩ : ByteArray).size = 1 := rfl
          have hz2 : ∀ h, (⟨#[c]⟩ : ByteArray)[0]'h = c := fun _ => rfl
          generalize hos : (⟨#[c]⟩ : ByteArray) = os at *
          have HC := Lib.hid hC; have HCZ := Lib.hid hCz; have HC6 := Lib.hid hC6; have HOW := Lib.hid hown; have HCS := Lib.hid hcells
          have HOS := Lib.hid hos; have HCC := Lib.hid hcc; have HNN := Lib.hid hnn
          have hcv : (convert 45 9 (.slice (some ⟨wr.heap.size, 0, none⟩) 1 1)).run Tryz.prog (wr.alloc (.cells #[.int .u8 (c.toNat : Int)] 5)) = .ok (.string os) (wr.alloc (.cells #[.int .u8 (c.toNat : Int)] 5)) := by
            rw [← hos]
            exact run_convert_bytes_back (P := Tryz.prog) (wr.alloc (.cells #[.int .u8 (c.toNat : Int)] 5)) 45 9 5 ⟨wr.heap.size, 0, none⟩ 1 [c] Tryz.underlying45 Tryz.underlying5 Tryz.underlying9 (fun j hj => by
              obtain rfl : j = 0 := by simpa using hj
              rw [show (⟨wr.heap.size, 0, none⟩ : Addr).add 0 = ⟨wr.heap.size, 0, none⟩ from by unfold Addr.add; simp]
              simp)
          obtain ⟨i0, hi, hi0, hi1, hi2⟩ := info_parts infoStr
          have hlen : (ps.drop (k + 1)).length ≤ 100 := by rw [List.length_drop]; omega
          have hwr : w.heap.size ≤ wr.heap.size := by omega
          clear hC hCz hC6 hown hcells hx c1 c2 hlk hv0 hcc hnn hos
          go_wp2_with (at_builtin; refine wpList_append_own _ rfl (.tmp 119) (.tmp 123) 34 rfl w.heap.size 9 i0 _ 1 16 Tryz.underlying34 hi hi0 hi1 hi2 rfl (by decide) _ _ _ rfl ((HOW.out.alloc _).alloc _) ⟨wr.heap.size + 1, 0, none⟩ 1 1 [.string os] rfl rfl ?c1 ?c2 ?c3 ?c4 ?c5 ?_)
          case c1 =>
            intro j u hj
            cases j with
            | zero =>
              obtain rfl : Value.string os = u := Option.some.inj hj
              rw [show (⟨wr.heap.size + 1, 0, none⟩ : Addr).add 0 = ⟨wr.heap.size + 1, 0, none⟩ from by unfold Addr.add; simp]
              simp
            | succ j => exact absurd hj (by simp)
          case c2 => intro u hu; simp at hu; subst hu; rfl
          case c3 => simp only [maxLen]; omega
          case c4 => omega
          case c5 => simp; omega
          intro v1 w1 hown1 hgr1 _
          obtain ⟨a1, n1, k1, rfl⟩ : ∃ a n c, v1 = .slice a n c := by
            rcases hown1.2 with ⟨rfl, _⟩ | ⟨_, _, _, rfl, _⟩
            · exact ⟨_, _, _, rfl⟩
            · exact ⟨_, _, _, rfl⟩
          have hR1 : some (w.heap.size + 1) ≠ tv.ownBlock := fun h => own_apart HOW.out HC.out (.inl (by decide)) h.symm
          have hlt2 : w.heap.size + 1 < wr.heap.size := by omega
          have hC1 : w1.heap[w.heap.size + 1]? = some (.cells C 135 (0, 0)) := by
            rw [hgr1.block _ (by simp; omega) hR1, heap_alloc_old, heap_alloc_old]
            · exact HC.out
            · omega
            · simp; omega
          have e1 : w1.cell? ⟨w.heap.size + 1, 256, none⟩ = some tv := by rw [cell_of_row _ _ _ _ _ _ hC1]; exact HC6.out
          have e2 : ∀ j, w1.frozen? ⟨w.heap.size + 1, j, none⟩ = false := fun j => by simp [World.frozen?, hC1]
          have e3 : (w1.setCell ⟨w.heap.size + 1, 256, none⟩ (.slice a1 n1 k1)).cell? ⟨w.heap.size + 1, c.toNat, none⟩ = some (.slice none 0 0) := by
            rw [World.cell?_setCell_other _ _ _ _ (by first | (simp; done) | (simp; omega)), cell_of_row _ _ _ _ _ _ hC1]
            rw [cell_of_row _ _ _ _ _ _ HC.out] at d1
            exact d1
          obtain ⟨cap2, o2, hconv, hrow⟩ := Row.run_conv (P := Tryz.prog) (w1.setCell ⟨w.heap.size + 1, 256, none⟩ (.slice a1 n1 k1)) 9 45 5 ns Tryz.underlying9 Tryz.underlying45 Tryz.underlying5
          rw [show (w1.setCell ⟨w.heap.size + 1, 256, none⟩ (.slice a1 n1 k1)).heap.size = w1.heap.size from by simp] at hconv hrow
          have hw1 : w.heap.size + 1 < (w1.setCell ⟨w.heap.size + 1, 256, none⟩ (.slice a1 n1 k1)).heap.size := by have := hgr1.size; simp at this ⊢; omega
          have e4 : ((w1.setCell ⟨w.heap.size + 1, 256, none⟩ (.slice a1 n1 k1)).alloc o2).cell? ⟨w.heap.size + 1, c.toNat, none⟩ = some (.slice none 0 0) := by rw [World.cell?_alloc_past _ _ _ hw1]; exact e3
          have e5 : ((w1.setCell ⟨w.heap.size + 1, 256, none⟩ (.slice a1 n1 k1)).alloc o2).frozen? ⟨w.heap.size + 1, c.toNat, none⟩ = false := by
            rw [World.frozen?_alloc_past _ _ _ hw1]; simp [e2]
          have HG1 := Lib.hid hgr1; have HO1 := Lib.hid hown1; have HRW := Lib.hid hrow
          clear hgr1 hown1 hrow hC1 d1 d2 hR1
          go_wp2
          go_roundw
          case rel =>
            have hos := HOS.out
            subst hos
            refine ⟨k, _, by omega, rfl, by omega, ?_, ?_, ?_⟩
            · rw [List.drop_eq_getElem_cons hkl, show ps[k] = (c, ns) from Prod.ext HCC.out HNN.out]
              have ho1 := HO1.out
              rw [show ps.length - (k + 1) = (ps.drop (k + 1)).length from by simp, show (List.drop (k + 1) (ps.map fun p => Value.string ⟨#[p.1]⟩)).reverse = (ps.drop (k + 1)).reverse.map (fun p => Value.string ⟨#[p.1]⟩) from by simp] at ho1
              exact part_step w.heap.size (w.heap.size + 1) wr w1 _ _ o2 C tv (.slice a1 n1 k1) (ps.drop (k + 1)) c ns cap2 (by omega) (by omega) HC.out HCZ.out HOW.out HCS.out HG1.out ho1 HRW.out
            · have b1 : Below w.heap.size w ((wr.alloc (.cells #[.int .u8 (c.toNat : Int)] 5)).alloc (.cells #[.string ⟨#[c]⟩] 9)) := (hbel.alloc (by omega) _).alloc (by simp; omega) _
              have b2 := below_grown b1 HG1.out (fun j hj => (HOW.out.lt j hj).1) (by simp; omega)
              exact (((b2.setCell (by simp) _).alloc (by simp; have := b2.size; omega) _).drew).setCell (by simp) _
            · have := HG1.out.size
              simp at this ⊢
              omega
          case measure => simp [intOf]; omega
end Go.Proofs.YtpcncpegbboljaaGreatDoor.Repl
namespace Go.Proofs.YtpcncpegbboljaaGreatDoor.Repl
open Go.RowKit Go.Proofs.YtpcncpegbboljaaGreatDoor.Row
set_option linter.unusedVariables false
set_option linter.unusedSimpArgs false
def repB (ps : Pairs) (c : UInt8) : List UInt8 := match look ps c.toNat with | some n => n.data.toList | none => [c]
def replL (ps : Pairs) (l : List UInt8) : List UInt8 := l.flatMap (repB ps)
def hit (ps : Pairs) (l : List UInt8) : Bool := l.any fun c => (look ps c.toNat).isSome
theorem replL_append (ps : Pairs) (a b : List UInt8) : replL ps (a ++ b) = replL ps a ++ replL ps b := by simp [replL]
theorem replL_same (ps : Pairs) (l : List UInt8) (h : hit ps l = false) : replL ps l = l := by
  induction l with
  | nil => rfl
  | cons c r ih =>
    simp only [hit, List.any_cons, Bool.or_eq_false_iff] at h
    have h1 : repB ps c = [c] := by
      unfold repB
      cases hk : look ps c.toNat with
      | none => rfl
      | some n => rw [hk] at h; simp at h
    show repB ps c ++ replL ps r = _
    rw [h1, ih h.2]; rfl
def gain (qs : Pairs) (l : List UInt8) : Int := (qs.map fun p => (l.count p.1 : Int) * ((p.2.size : Int) - 1)).sum
def anyQ (qs : Pairs) (l : List UInt8) : Bool := qs.any fun p => l.count p.1 != 0
theorem look_nil (b : Nat) : look [] b = none := rfl
theorem look_cons (c : UInt8) (n : ByteArray) (ps : Pairs) (b : Nat) : look ((c, n) :: ps) b = if c.toNat = b then some n else look ps b := by
  unfold look
  by_cases h : c.toNat = b
  · rw [if_pos h, List.find?_cons_of_pos (by simpa using h)]; rfl
  · rw [if_neg h, List.find?_cons_of_neg (by simpa using h)]
theorem look_mem : ∀ (ps : Pairs) (c : UInt8), (look ps c.toNat).isSome = true ↔ ∃ p ∈ ps, p.1 = c
  | [], c => by simp [look_nil]
  | (a, n) :: ps, c => by
    rw [look_cons]
    by_cases h : a.toNat = c.toNat
    · rw [if_pos h]
      simp [UInt8.toNat_inj.1 h]
    · rw [if_neg h, look_mem ps c]
      have : ¬ a = c := fun e => h (by rw [e])
      simp [this]
theorem look_pair : ∀ (ps : Pairs) (p : UInt8 × ByteArray), (ps.map (·.1)).Nodup → p ∈ ps → look ps p.1.toNat = some p.2
  | [], p, _, h => by simp at h
  | (a, n) :: ps, p, hnd, h => by
    rw [List.map_cons, List.nodup_cons] at hnd
    rw [look_cons]
    rcases List.mem_cons.1 h with rfl | h
    · rw [if_pos rfl]
    · rw [if_neg (fun e => hnd.1 (List.mem_map.2 ⟨p, h, (UInt8.toNat_inj.1 e).symm⟩))]
      exact look_pair ps p hnd.2 h
def delta (ps : Pairs) (c : UInt8) : Int := match look ps c.toNat with | some n => (n.size : Int) - 1 | none => 0
theorem delta_len (ps : Pairs) (c : UInt8) : ((repB ps c).length : Int) = 1 + delta ps c := by
  unfold repB delta
  cases look ps c.toNat with
  | none => rfl
  | some n => simp; omega
theorem gain_cons (ps : Pairs) (hnd : (ps.map (·.1)).Nodup) (c : UInt8) (l : List UInt8) : gain ps (c :: l) = gain ps l + delta ps c := by
  induction ps with
  | nil => rfl
  | cons p ps ih =>
    obtain ⟨a, n⟩ := p
    rw [List.map_cons, List.nodup_cons] at hnd
    have h1 := ih hnd.2
    have e1 : ∀ l, gain ((a, n) :: ps) l = (l.count a : Int) * ((n.size : Int) - 1) + gain ps l := fun l => by simp [gain]
    rw [e1, e1, h1]
    unfold delta
    rw [look_cons]
    by_cases h : a = c
    · subst h
      rw [if_pos rfl, List.count_cons_self]
      have h2 : look ps a.toNat = none := by
        cases hk : look ps a.toNat with
        | none => rfl
        | some m =>
          obtain ⟨p, hp, e⟩ := (look_mem ps a).1 (by rw [hk]; rfl)
          exact absurd (List.mem_map.2 ⟨p, hp, e⟩) hnd.1
      rw [h2]
      simp only
      rw [show (((l.count a + 1 : Nat)) : Int) = (l.count a : Int) + 1 from by omega, Int.add_mul, Int.one_mul]
      omega
    · rw [if_neg (fun e => h (UInt8.toNat_inj.1 e)), List.count_cons_of_ne (fun e => h e.symm)]
      omega
theorem gain_all (ps : Pairs) (hnd : (ps.map (·.1)).Nodup) (l : List UInt8) : (l.length : Int) + gain ps l = ((replL ps l).length : Int) := by
  induction l with
  | nil =>
    have : gain ps [] = 0 := by
      unfold gain
      induction ps with
      | nil => rfl
      | cons p ps ih => rw [List.map_cons, List.sum_cons, ih (by simpa using (List.nodup_cons.1 (by simpa using hnd)).2)]; simp
    rw [this]; rfl
  | cons c r ih =>
    rw [gain_cons ps hnd, show replL ps (c :: r) = repB ps c ++ replL ps r from rfl, List.length_append, List.length_cons]
    have := delta_len ps c
    push_cast at *
    omega
theorem gain_reverse (ps : Pairs) (l : List UInt8) : gain ps.reverse l = gain ps l := by
  unfold gain
  rw [List.map_reverse, List.sum_reverse]
theorem anyQ_hit (ps : Pairs) (l : List UInt8) : anyQ ps.reverse l = hit ps l := by
  rw [Bool.eq_iff_iff]
  unfold anyQ hit
  rw [List.any_eq_true, List.any_eq_true]
  constructor
  · rintro ⟨p, hp, h⟩
    have h0 : l.count p.1 ≠ 0 := by simpa using h
    exact ⟨p.1, List.count_pos_iff.1 (by omega), (look_mem ps p.1).2 ⟨p, by simpa using hp, rfl⟩⟩
  · rintro ⟨c, hc, h⟩
    obtain ⟨p, hp, rfl⟩ := (look_mem ps c).1 h
    exact ⟨p, by simpa using hp, by have := List.count_pos_iff.2 hc; simp only [bne_iff_ne]; omega⟩
theorem gain_snoc (qs : Pairs) (l : List UInt8) (k : Nat) (h : k < qs.length) : gain (qs.take (k + 1)) l = gain (qs.take k) l + (l.count (qs[k]).1 : Int) * (((qs[k]).2.size : Int) - 1) := by
  unfold gain
  rw [List.take_succ_eq_append_getElem h, List.map_append, List.sum_append]
  simp
theorem anyQ_snoc (qs : Pairs) (l : List UInt8) (k : Nat) (h : k < qs.length) : anyQ (qs.take (k + 1)) l = (anyQ (qs.take k) l || l.count (qs[k]).1 != 0) := by
  unfold anyQ
  rw [List.take_succ_eq_append_getElem h, List.any_append]
  simp
theorem gain_bound (qs : Pairs) (l : List UInt8) (hq : ∀ p ∈ qs, p.2.size ≤ 100) : -((qs.length * l.length : Nat) : Int) ≤ gain qs l ∧ gain qs l ≤ ((100 * qs.length * l.length : Nat) : Int) := by
  unfold gain
  induction qs with
  | nil => simp
  | cons p qs ih =>
    have h1 := ih (fun p hp => hq p (by simp [hp]))
    have h2 := hq p (by simp)
    have h3 : l.count p.1 ≤ l.length := List.count_le_length
    rw [List.map_cons, List.sum_cons]
    have h4 : (l.count p.1 : Int) * ((p.2.size : Int) - 1) ≤ (l.count p.1 : Int) * 100 := Int.mul_le_mul_of_nonneg_left (by omega) (by omega)
    have h5 : (l.count p.1 : Int) * (-1) ≤ (l.count p.1 : Int) * ((p.2.size : Int) - 1) := Int.mul_le_mul_of_nonneg_left (by omega) (by omega)
    simp only [List.length_cons]
    have e1 : (qs.length + 1) * l.length = qs.length * l.length + l.length := by rw [Nat.add_mul, Nat.one_mul]
    have e2 : 100 * (qs.length + 1) * l.length = 100 * qs.length * l.length + 100 * l.length := by rw [Nat.mul_add, Nat.add_mul]
    omega
theorem repl_snoc (ps : Pairs) (l : List UInt8) (k : Nat) (h : k < l.length) : replL ps (l.take (k + 1)) = replL ps (l.take k) ++ repB ps l[k] := by
  rw [List.take_succ_eq_append_getElem h, replL_append]
  simp [replL]
theorem hit_snoc (ps : Pairs) (l : List UInt8) (k : Nat) (h : k < l.length) : hit ps (l.take (k + 1)) = (hit ps (l.take k) || (look ps (l[k]).toNat).isSome) := by
  unfold hit
  rw [List.take_succ_eq_append_getElem h, List.any_append]
  simp
theorem repl_len (ps : Pairs) (l : List UInt8) (hq : ∀ p ∈ ps, p.2.size ≤ 100) : (replL ps l).length ≤ 100 * l.length := by
  induction l with
  | nil => simp [replL]
  | cons c r ih =>
    rw [show replL ps (c :: r) = repB ps c ++ replL ps r from rfl, List.length_append, List.length_cons]
    have : (repB ps c).length ≤ 100 := by
      unfold repB
      cases hk : look ps c.toNat with
      | none => simp
      | some n =>
        unfold look at hk
        obtain ⟨p, hp, rfl⟩ := Option.map_eq_some_iff.1 hk
        have := hq p (List.mem_of_find?_eq_some hp)
        simpa using this
    omega
end Go.Proofs.YtpcncpegbboljaaGreatDoor.Repl
namespace Go.Proofs.YtpcncpegbboljaaGreatDoor.Repl
open Go.RowKit Go.Proofs.YtpcncpegbboljaaGreatDoor.Row
set_option linter.unusedVariables false
set_option linter.unusedSimpArgs false
theorem bdrewN {B : Nat} {w0 w : World} (h : Below B w0 w) (n : Nat) : Below B w0 (w.drewN n) := ⟨h.os, h.tape, h.output, h.size, h.block⟩
theorem infoByte : (Tryz.prog.info? 5).map (fun i => (i.zero, i.size, i.bytes)) = some (some (.int .u8 0), 1, 1) := by kernel_rfl
theorem make_bytes (w : World) (n : Nat) (h : n ≤ 100000000000) : ∃ mc : Array Value, mc.size = n ∧
    (Instr.makeSlice 45 (.int .i64 (n : Int)) (.int .i64 (n : Int))).run Tryz.prog w = .ok (.slice (some ⟨w.heap.size, 0, none⟩) n n) (w.alloc (.cells mc 5)) := by
  obtain ⟨i0, hi, hz0, hz1, hz2⟩ := info_parts infoByte
  have hr := run_make (P := Tryz.prog) w 45 5 i0 _ Tryz.underlying45 hi hz0 .i64 .i64 n n (by omega) (by omega) (by rw [hz2]; omega) (by omega)
  simp only [Int.toNat_natCast] at hr
  exact ⟨_, by rw [size_madeCells, hz1, Nat.mul_one], hr⟩
def Fill (w : World) (g n : Nat) (l : List UInt8) : Prop :=
  ∃ C : Array Value, w.heap[g]? = some (.cells C 5 (0, 0)) ∧ C.size = n ∧ C.toList.take l.length = Lib.byteCells l
theorem Fill.cell {w : World} {g n : Nat} {l : List UInt8} (h : Fill w g n l) (j : Nat) (hj : j < n) : ∃ v, w.cell? ⟨g, j, none⟩ = some v := by
  obtain ⟨C, hC, hz, _⟩ := h
  exact ⟨_, by rw [cell_of_row _ _ _ _ _ _ hC]; exact Array.getElem?_eq_getElem (by omega)⟩
theorem Fill.free {w : World} {g n : Nat} {l : List UInt8} (h : Fill w g n l) (j : Nat) : w.frozen? ⟨g, j, none⟩ = false := by
  obtain ⟨C, hC, _⟩ := h
  simp [World.frozen?, hC]
theorem Fill.put {w : World} {g n : Nat} {l : List UInt8} (h : Fill w g n l) (c : UInt8) (hl : l.length < n) : Fill (w.setCell ⟨g, l.length, none⟩ (.int .u8 (c.toNat : Int))) g n (l ++ [c]) := by
  obtain ⟨C, hC, hz, ht⟩ := h
  refine ⟨_, setCell_heap_at _ _ _ _ _ _ _ hC, by simpa using hz, ?_⟩
  rw [Array.toList_setIfInBounds, List.length_append, List.length_singleton, List.take_set, List.take_succ_eq_append_getElem (by simpa [hz] using hl), ht]
  have hb : (Lib.byteCells l).length = l.length := by simp [Lib.byteCells]
  rw [List.set_append_right _ _ (by omega), hb, Nat.sub_self]
  simp [Lib.byteCells]
theorem Fill.splice {w' : World} {g n : Nat} {l : List UInt8} {C : Array Value} (hz : C.size = n) (ht : C.toList.take l.length = Lib.byteCells l) (ns : List UInt8) (hl : l.length + ns.length ≤ n)
    (h : w'.heap[g]? = some (.cells (Go.splice C.toList l.length (Lib.byteCells ns)).toArray 5 (0, 0))) : Fill w' g n (l ++ ns) := by
  have hb : ∀ x : List UInt8, (Lib.byteCells x).length = x.length := fun x => by simp [Lib.byteCells]
  refine ⟨_, h, ?_, ?_⟩
  · rw [List.size_toArray, length_splice _ _ _ (by rw [hb]; simp; omega)]
    simpa using hz
  · show (Go.splice C.toList l.length (Lib.byteCells ns)).take (l ++ ns).length = _
    unfold Go.splice
    rw [ht, ← List.append_assoc, List.take_append_of_le_length (by simp only [List.length_append, hb]; exact Nat.le_refl _), List.take_of_length_le (by simp only [List.length_append, hb]; exact Nat.le_refl _)]
    simp [Lib.byteCells]
theorem Fill.back {w : World} {g n : Nat} {l : List UInt8} (h : Fill w g n l) (hn : l.length = n) :
    (convert 45 9 (.slice (some ⟨g, 0, none⟩) n n)).run Tryz.prog w = .ok (.string ⟨l.toArray⟩) w := by
  subst hn
  obtain ⟨C, hC, hz, ht⟩ := h
  refine run_convert_bytes_back (P := Tryz.prog) w 45 9 5 ⟨g, 0, none⟩ _ l Tryz.underlying45 Tryz.underlying5 Tryz.underlying9 (fun j hj => ?_)
  rw [show (⟨g, 0, none⟩ : Addr).add j = ⟨g, j, none⟩ from by unfold Addr.add; split <;> simp_all, cell_of_row _ _ _ _ _ _ hC]
  have h3 : (C.toList.take l.length)[j]? = (Lib.byteCells l)[j]? := by rw [ht]
  rw [List.getElem?_take_of_lt hj] at h3
  simp [Lib.byteCells, List.getElem?_eq_getElem hj] at h3
  simpa using h3
theorem Part.own {M R : Nat} {w : World} {ps : Pairs} (h : Part M w R ps) (hn : 1 ≤ ps.length) : ∃ g1 k1, w.cell? ⟨R, 256, none⟩ = some (.slice (some ⟨g1, 0, none⟩) ps.length k1) ∧
    ∀ j, (hj : j < ps.length) → w.cell? ⟨g1, j, none⟩ = some (.string ⟨#[(ps.reverse[j]'(by simpa using hj)).1]⟩) := by
  obtain ⟨C, tv, _, hC, _, h6, hown, _⟩ := h
  rcases hown.2 with ⟨_, h0⟩ | ⟨g, cap, cur, rfl, _⟩
  · omega
  · refine ⟨g, cap, by rw [cell_of_row _ _ _ _ _ _ hC]; exact h6, fun j hj => ?_⟩
    rw [hown.cellAt j (by omega)]
    rw [List.getElem?_map, List.getElem?_eq_getElem (by simpa using hj)]
    rfl
theorem Part.at {M R : Nat} {w : World} {ps : Pairs} (h : Part M w R ps) (b : Nat) (hb : b < 256) : ∃ v, w.cell? ⟨R, b, none⟩ = some v ∧ RepCell M w (look ps b) v := by
  obtain ⟨C, tv, _, hC, _, h6, hown, hc⟩ := h
  obtain ⟨v, hv, hr⟩ := hc b hb
  exact ⟨v, by rw [cell_of_row _ _ _ _ _ _ hC]; exact hv, hr⟩
set_option maxRecDepth 100000 in
set_option maxHeartbeats 4000000 in
theorem bsr_Replace (M R : Nat) (ps : Pairs) (s : ByteArray) (w : World) (hP : Part M w R ps) (hnd : (ps.map (·.1)).Nodup) (hn : 1 ≤ ps.length) (hn2 : ps.length ≤ 100) (hq : ∀ p ∈ ps, p.2.size ≤ 100) (hs : s.size ≤ 100000000) :
    Calls Tryz.prog 193 #[.pointer (some ⟨R, 0, none⟩), .string s] w fun e w' => e = .returned (.string ⟨(replL ps s.data.toList).toArray⟩) ∧ Below w.heap.size w w' := by
  obtain ⟨g1, k1, ht, hts⟩ := hP.own hn
  have HT := Lib.hid hts
  have HP := Lib.hid hP
  have HQ := Lib.hid hq
  have hsl : s.data.toList.length = s.size := by simp
  have HSL := Lib.hid hsl
  have qT : ∀ (w : World) (a : Option Addr) (n c n' c' : Nat), (binOp .neq 45 (.slice a n c) (.slice none n' c')).run Tryz.prog w = .ok (.bool (!a.isNone)) w := fun w a n c n' c' => run_neq_slice_nil_any w _ _ a n c n' c' Tryz.underlying45
  have hnot : ∀ (x : Bool) (w : World), (Op.unary .not (.bool x)).run Tryz.prog w = .ok (.bool (!x)) w := fun _ _ => rfl
  clear hts hP hq hsl
  go_enter Tryz.func193, Tryz.ntmps193
  go_upto_if 26 with fail
  go_cut [5, 6] (fun u v wc => u = .int .i64 ((replL ps s.data.toList).length : Int) ∧ v = .bool (hit ps s.data.toList) ∧ Below w.heap.size w wc)
  case first =>
    by_cases h8 : ps.length * 8 ≤ s.size
    · have h8' : (ps.length : Int) * 8 ≤ (s.size : Int) := by omega
      go_wp2
      rw [decide_eq_true h8']
      go_loopw [5, 6, 32] (fun u v i wr => ∃ (k : Nat) (x : Int), k ≤ ps.length ∧ i = .int .i64 (k : Int) ∧ u = .int .i64 x ∧ x = (s.size : Int) + gain (ps.reverse.take k) s.data.toList ∧ v = .bool (anyQ (ps.reverse.take k) s.data.toList) ∧ Below w.heap.size w wr) (fun _ _ i _ => ps.length - (intOf i).toNat)
      case atStart => exact ⟨0, _, Nat.zero_le _, rfl, rfl, by simp [gain], rfl, Below.refl _ _⟩
      case round =>
        obtain ⟨k, x, hk, rfl, rfl, hx, rfl, hbel⟩ := hrel
        have hrl : ps.reverse.length = ps.length := by simp
        by_cases hlt : k < ps.length
        · have hlr : k < ps.reverse.length := by omega
          have c1 := cell_later hbel (HT.out k hlt)
          have hgs := gain_snoc ps.reverse s.data.toList k hlr
          have has := anyQ_snoc ps.reverse s.data.toList k hlr
          have hmem : ps.reverse[k] ∈ ps := List.mem_reverse.1 (List.getElem_mem hlr)
          have hqk := HQ.out _ hmem
          have hlk := look_pair ps _ hnd hmem
          obtain ⟨v0, hv0, hr0⟩ := HP.out.at (ps.reverse[k]).1.toNat (UInt8.toNat_lt _)
          rw [hlk] at hr0
          obtain ⟨B, cB, _, rfl, hrow⟩ := hr0
          have d1 := cell_later hbel hv0
          have hct : s.data.toList.count (ps.reverse[k]).1 ≤ s.size := by rw [← HSL.out]; exact List.count_le_length
          have hb1 := gain_bound (ps.reverse.take k) s.data.toList (fun p hp => HQ.out p (by have := List.mem_of_mem_take hp; simpa using this))
          have hb2 := gain_bound (ps.reverse.take (k + 1)) s.data.toList (fun p hp => HQ.out p (by have := List.mem_of_mem_take hp; simpa using this))
          have hl1 : (ps.reverse.take k).length ≤ 100 := by rw [List.length_take]; omega
          have hl2 : (ps.reverse.take (k + 1)).length ≤ 100 := by rw [List.length_take]; omega
          rw [HSL.out] at hb1 hb2
          have m1 : (ps.reverse.take k).length * s.size ≤ 100 * 100000000 := Nat.mul_le_mul hl1 hs
          have m2 : (ps.reverse.take (k + 1)).length * s.size ≤ 100 * 100000000 := Nat.mul_le_mul hl2 hs
          rw [Nat.mul_assoc] at hb1 hb2
          have h256 : (ps.reverse[k]).1.toNat < 256 := UInt8.toNat_lt _
          have hcn := Lib.hid (Tryz.strings_Count_one s (ps.reverse[k]).1)
          generalize (ps.reverse[k]).1 = c at *
          generalize (ps.reverse[k]).2 = ns at *
          have hp1 : (s.data.toList.count c : Int) * ((ns.size : Int) - 1) ≤ (s.data.toList.count c : Int) * 100 := Int.mul_le_mul_of_nonneg_left (by omega) (by omega)
          have hp2 : (s.data.toList.count c : Int) * (-1) ≤ (s.data.toList.count c : Int) * ((ns.size : Int) - 1) := Int.mul_le_mul_of_nonneg_left (by omega) (by omega)
          have hcb : Lib.countByte s.data.toList c = s.data.toList.count c := rfl
          rw [hcb] at hcn
          generalize s.data.toList.count c = ct at *
          have x1 : -1000000000000 ≤ x := by omega
          have x2 : x ≤ 10000000000000 := by omega
          have y1 : -1000000000000 ≤ (ct : Int) * ((ns.size : Int) - 1) := by omega
          have y2 : (ct : Int) * ((ns.size : Int) - 1) ≤ 10000000000000 := by omega
          have hz1 : (⟨#[c]⟩ : ByteArray).size = 1 := rfl
          have hz2 : ∀ h, (⟨#[c]⟩ : ByteArray)[0]'h = c := fun _ => rfl
          generalize hos : (⟨#[c]⟩ : ByteArray) = os at *
          have w1 : IntKind.i64.wrap ((ns.size : Int) - 1) = (ns.size : Int) - 1 := IntWalk.i64_in _ (by omega)
          have w2 : IntKind.i64.wrap ((ct : Int) * ((ns.size : Int) - 1)) = (ct : Int) * ((ns.size : Int) - 1) := IntWalk.i64_in _ (by omega)
          have w3 : IntKind.i64.wrap (x + (ct : Int) * ((ns.size : Int) - 1)) = x + (ct : Int) * ((ns.size : Int) - 1) := IntWalk.i64_in _ (by omega)
          have HGS := Lib.hid hgs; have HAS := Lib.hid has; have HX := Lib.hid hx; have HB := Lib.hid hbel
          clear hgs has hx hb1 hb2 m1 m2 hp1 hp2 hlk hmem hrow hcb hbel hv0 hl1 hl2
          by_cases hc0 : ct = 0
          · have hc0b : ((ct : Int) != 0) = false := by simp [hc0]
            have hc0c : ¬ (ct : Int) ≠ 0 := by omega
            go_wp2_with (go_at_call 195; refine (hcn.out _).mono ?_; rintro e w' ⟨rfl, rfl⟩)
            go_roundw
            case rel => exact ⟨k + 1, _, by omega, by go_num, rfl, by rw [HGS.out, HX.out, hc0]; simp <;> omega, by rw [HAS.out, hc0]; simp, HB.out⟩
            case measure => simp [intOf]; omega
          · have hc0b : ((ct : Int) != 0) = true := by simp [hc0]
            have hc0c : (ct : Int) ≠ 0 := by omega
            go_wp2_with (go_at_call 195; refine (hcn.out _).mono ?_; rintro e w' ⟨rfl, rfl⟩)
            go_quiet (fail)
            rename_i nq
            go_wp2_with fail
            go_roundw
            case rel => exact ⟨k + 1, _, by omega, by go_num, rfl, by rw [HGS.out, HX.out]; omega, by rw [HAS.out]; simp [hc0], bdrewN HB.out nq⟩
            case measure => simp [intOf]; omega
        · obtain rfl : k = ps.length := by omega
          rw [List.take_of_length_le (by omega)] at *
          rw [gain_reverse] at hx
          rw [anyQ_hit]
          have hga := gain_all ps hnd s.data.toList
          rw [HSL.out] at hga
          have HX := Lib.hid hx; have HGA := Lib.hid hga; have HB := Lib.hid hbel
          clear hx hga hbel
          go_wp2
          go_meet
          case rel => exact ⟨by rw [HX.out, HGA.out], rfl, HB.out⟩
    · have h8' : ¬ (ps.length : Int) * 8 ≤ (s.size : Int) := by omega
      go_wp2
      rw [decide_eq_false (by omega)]
      go_loopw [5, 6, 10] (fun u v i wr => ∃ (k : Nat) (x : Int), k ≤ s.size ∧ i = .int .i64 (k : Int) ∧ u = .int .i64 x ∧ x = ((replL ps (s.data.toList.take k)).length : Int) + ((s.size : Int) - (k : Int)) ∧ v = .bool (hit ps (s.data.toList.take k)) ∧ wr = w) (fun _ _ i _ => s.size - (intOf i).toNat)
      case atStart => exact ⟨0, _, Nat.zero_le _, rfl, rfl, by simp [replL], rfl, rfl⟩
      case round =>
        obtain ⟨k, x, hk, rfl, rfl, hx, rfl, rfl⟩ := hrel
        by_cases hlt : k < s.size
        · have hlr : k < s.data.toList.length := by rw [HSL.out]; exact hlt
          have hrs := repl_snoc ps s.data.toList k hlr
          have hhs := hit_snoc ps s.data.toList k hlr
          have hln := repl_len ps (s.data.toList.take k) HQ.out
          have hlk : (s.data.toList.take k).length ≤ s.size := by rw [List.length_take, HSL.out]; omega
          have hdl := delta_len ps s.data.toList[k]
          have hcs : s[k] = s.data.toList[k] := rfl
          obtain ⟨v0, hv0, hr0⟩ := HP.out.at (s.data.toList[k]).toNat (UInt8.toNat_lt _)
          have h256 : (s.data.toList[k]).toNat < 256 := UInt8.toNat_lt _
          have x1 : 0 ≤ x := by omega
          have x2 : x ≤ 100 * 100000000 + 100000000 := by omega
          unfold delta at hdl
          generalize s.data.toList[k] = c at *
          have HRS := Lib.hid hrs; have HHS := Lib.hid hhs; have HX := Lib.hid hx; have HDL := Lib.hid hdl
          clear hrs hhs hx hln hlk hdl
          cases hlook : look ps c.toNat with
          | none =>
            rw [hlook] at hr0
            obtain rfl : v0 = .slice none 0 0 := hr0
            have HLK := Lib.hid hlook; clear hlook
            go_wp2
            go_roundw
            case rel => exact ⟨k + 1, _, by omega, by go_num, rfl, by rw [HRS.out, List.length_append, HX.out]; have := HDL.out; rw [HLK.out] at this; simp only at this; omega, by rw [HHS.out, HLK.out]; simp, by first | trivial | rfl⟩
            case measure => simp [intOf]; omega
          | some ns =>
            rw [hlook] at hr0
            obtain ⟨B, cB, _, rfl, hrow⟩ := hr0
            have hnz : ns.size ≤ 100 := by
              unfold look at hlook
              obtain ⟨p, hp, rfl⟩ := Option.map_eq_some_iff.1 hlook
              exact HQ.out p (List.mem_of_find?_eq_some hp)
            have HLK := Lib.hid hlook; clear hlook hrow
            go_wp2
            go_roundw
            case rel => exact ⟨k + 1, _, by omega, by go_num, rfl, by rw [HRS.out, List.length_append, HX.out]; have := HDL.out; rw [HLK.out] at this; simp only at this; omega, by rw [HHS.out, HLK.out]; simp, by first | trivial | rfl⟩
            case measure => simp [intOf]; omega
        · obtain rfl : k = s.size := by omega
          rw [List.take_of_length_le (by rw [HSL.out]; exact Nat.le_refl _)] at *
          have HX := Lib.hid hx
          clear hx
          go_wp2
          go_meet
          case rel => exact ⟨by rw [HX.out]; congr 1; omega, rfl, Below.refl _ _⟩
  case rest =>
    obtain ⟨rfl, rfl, hbel⟩ := hcut
    cases hh : hit ps s.data.toList with
    | false =>
      have HS := Lib.hid (replL_same ps s.data.toList hh)
      clear hh
      go_wp2
      go_ret
      exact ⟨by rw [HS.out]; exact congrArg (fun x => Ending.returned (Value.string x)) (by apply ByteArray.ext; simp), hbel⟩
    | true =>
      have hln := repl_len ps s.data.toList HQ.out
      rw [HSL.out] at hln
      obtain ⟨mc, hmz, hmk⟩ := make_bytes wc (replL ps s.data.toList).length (by omega)
      clear hh
      have HMZ := Lib.hid hmz
      clear hmz
      go_wp2
      go_loopw [13, 14] (fun j i wr => ∃ k : Nat, k ≤ s.size ∧ i = .int .i64 (k : Int) ∧ j = .int .i64 ((replL ps (s.data.toList.take k)).length : Int) ∧ Fill wr wc.heap.size (replL ps s.data.toList).length (replL ps (s.data.toList.take k)) ∧ Below wc.heap.size wc wr) (fun _ i _ => s.size - (intOf i).toNat)
      case atStart => exact ⟨0, Nat.zero_le _, rfl, by simp [replL], ⟨mc, heap_alloc_new _ _, HMZ.out, by simp [replL, Lib.byteCells]⟩, (Below.refl _ _).alloc (Nat.le_refl _) _⟩
      case round =>
        obtain ⟨k, hk, rfl, rfl, hfill, hb2⟩ := hrel
        by_cases hlt : k < s.size
        · have hlr : k < s.data.toList.length := by rw [HSL.out]; exact hlt
          have hrs := repl_snoc ps s.data.toList k hlr
          have hcs : s[k] = s.data.toList[k] := rfl
          obtain ⟨v0, hv0, hr0⟩ := HP.out.at (s.data.toList[k]).toNat (UInt8.toNat_lt _)
          have h256 : (s.data.toList[k]).toNat < 256 := UInt8.toNat_lt _
          have hd0 := cell_later (hbel.trans (hb2.mono hbel.size)) hv0
          have htot : (replL ps (s.data.toList.take k)).length + (repB ps s.data.toList[k]).length ≤ (replL ps s.data.toList).length := by
            have e : replL ps s.data.toList = replL ps (s.data.toList.take (k + 1)) ++ replL ps (s.data.toList.drop (k + 1)) := by rw [← replL_append, List.take_append_drop]
            rw [e, hrs, List.length_append, List.length_append]; omega
          generalize s.data.toList[k] = c at *
          generalize hn0 : (replL ps s.data.toList).length = n0 at *
          generalize hrk : replL ps (s.data.toList.take k) = rk at *
          have HRS := Lib.hid hrs; have HF := Lib.hid hfill; have HB2 := Lib.hid hb2
          clear hrs hn0 hrk hfill hb2
          cases hlook : look ps c.toNat with
          | none =>
            rw [hlook] at hr0
            obtain rfl : v0 = .slice none 0 0 := hr0
            have hrb : repB ps c = [c] := by unfold repB; rw [hlook]
            rw [hrb] at htot
            have HRB := Lib.hid hrb
            simp only [List.length_singleton] at htot
            obtain ⟨u0, hu0⟩ := HF.out.cell rk.length (by omega)
            have hf0 := HF.out.free rk.length
            have HPUT := Lib.hid (HF.out.put c (by omega))
            clear hlook hrb
            go_wp2
            go_roundw
            case rel => exact ⟨k + 1, by omega, by go_num, by rw [HRS.out, HRB.out, List.length_append]; go_num, by rw [HRS.out, HRB.out]; exact HPUT.out, HB2.out.setCell (Nat.le_refl _) _⟩
            case measure => simp [intOf]; omega
          | some ns =>
            rw [hlook] at hr0
            obtain ⟨B, cB, _, rfl, hrow⟩ := hr0
            have hrb : repB ps c = ns.data.toList := by unfold repB; rw [hlook]
            rw [hrb] at htot
            have hnz : ns.data.toList.length = ns.size := by simp
            rw [hnz] at htot
            have HRB := Lib.hid hrb; have HR := Lib.hid hrow
            obtain ⟨CF, hCF, hCFz, hCFt⟩ := HF.out
            have hbl : (Lib.byteCells ns.data.toList).length = ns.size := by simp [Lib.byteCells]
            have HN1 := Lib.hid (show (Lib.byteCells ns.data.toList).length = Nat.min ns.size (n0 - rk.length) by rw [hbl]; exact (Nat.min_eq_left (by omega)).symm)
            have HFIT := Lib.hid (show rk.length + (Lib.byteCells ns.data.toList).length ≤ CF.toList.length by rw [hbl]; simp [hCFz]; omega)
            have HONE := Lib.hid (show ∀ v ∈ Lib.byteCells ns.data.toList, v.oneCell' = true by intro v hv; simp only [Lib.byteCells, List.mem_map] at hv; obtain ⟨x, _, rfl⟩ := hv; rfl)
            have HCF := Lib.hid hCF; have HCFZ := Lib.hid hCFz; have HCFT := Lib.hid hCFt; have HBL := Lib.hid hbl
            have HSRC := Lib.hid (show ∀ j v, (Lib.byteCells ns.data.toList)[j]? = some v → wr.cell? ((⟨B, 0, none⟩ : Addr).add j) = some v by
              intro j v hv
              obtain ⟨hj, rfl⟩ := List.getElem?_eq_some_iff.1 hv
              rw [hbl] at hj
              rw [show (⟨B, 0, none⟩ : Addr).add j = ⟨B, j, none⟩ from by unfold Addr.add; split <;> simp_all]
              have hj2 : j < ns.data.toList.length := by simpa using hj
              rw [cell_later (hbel.trans (HB2.out.mono hbel.size)) (HR.out.cell j hj2)]
              simp [Lib.byteCells])
            have szb : (Tryz.prog.info? 5).map (·.size) = some 1 := by kernel_rfl
            clear hlook hrb hrow hnz hCF hCFz hCFt hbl
            have h256i : (c.toNat : Int) < 256 := by omega
            by_cases hend : rk.length = n0
            · have hend2 : (rk.length : Int) = (n0 : Int) := by omega
              go_wp2
              go_region_law (refine step_copy_splice rfl (.tmp 105) (.tmp 111) 45 45 rfl 5 Tryz.underlying45 szb (some ⟨wc.heap.size, 0, none⟩) (some ⟨B, 0, none⟩) 0 0 ns.size cB (by simp [Act.eval, Act.put]) (by simp [Act.eval, Act.put]) wc.heap.size rk.length CF.toList 5 HCF.out (Lib.byteCells ns.data.toList) (by rw [HN1.out, hend, Nat.sub_self]) (fun h => by rw [HBL.out] at h; omega) HFIT.out HONE.out wc.heap.size wc HB2.out.drew (Nat.le_refl _) ?_; intro w4 hg4 hb4)
              go_wp2
              go_roundw
              case rel =>
                exact ⟨k + 1, by omega, by go_num, by rw [HRS.out, HRB.out, List.length_append, HBL.out, show ns.data.toList.length = ns.size from by simp]; congr 1; unfold wrap64; omega, by rw [HRS.out, HRB.out]; exact Fill.splice HCFZ.out HCFT.out ns.data.toList (by rw [show ns.data.toList.length = ns.size from by simp]; omega) hg4.out, hb4⟩
              case measure => simp [intOf]; omega
            · have hend2 : rk.length < n0 := by omega
              have j1 : (rk.length : Int) ≤ (n0 : Int) := by omega
              have j2 : rk.length ≤ n0 := by omega
              have j3 : ¬ n0 = rk.length := by omega
              have j4 : (rk.length : Int) < (n0 : Int) := by omega
              have j5 : ¬ (n0 : Int) < (rk.length : Int) := by omega
              go_wp2
              go_region_law (refine step_copy_splice rfl (.tmp 105) (.tmp 111) 45 45 rfl 5 Tryz.underlying45 szb (some ⟨wc.heap.size, rk.length, none⟩) (some ⟨B, 0, none⟩) (n0 - rk.length) (n0 - rk.length) ns.size cB (by simp [Act.eval, Act.put]) (by simp [Act.eval, Act.put]) wc.heap.size rk.length CF.toList 5 HCF.out (Lib.byteCells ns.data.toList) HN1.out (fun _ => ⟨rfl, _, rfl, HSRC.out⟩) HFIT.out HONE.out wc.heap.size wc HB2.out.drew (Nat.le_refl _) ?_; intro w4 hg4 hb4)
              go_wp2
              go_roundw
              case rel =>
                exact ⟨k + 1, by omega, by go_num, by rw [HRS.out, HRB.out, List.length_append, HBL.out, show ns.data.toList.length = ns.size from by simp]; congr 1; unfold wrap64; omega, by rw [HRS.out, HRB.out]; exact Fill.splice HCFZ.out HCFT.out ns.data.toList (by rw [show ns.data.toList.length = ns.size from by simp]; omega) hg4.out, hb4⟩
              case measure => simp [intOf]; omega
        · obtain rfl : k = s.size := by omega
          rw [List.take_of_length_le (by rw [HSL.out]; exact Nat.le_refl _)] at *
          have HCV := Lib.hid (hfill.back rfl)
          have hcv := HCV.out
          have HF := Lib.hid hfill
          clear hfill
          go_wp2
          go_ret
          exact ⟨rfl, hbel.trans (hb2.mono hbel.size)⟩
end Go.Proofs.YtpcncpegbboljaaGreatDoor.Repl
namespace Go.Proofs.YtpcncpegbboljaaGreatDoor.Repl
open Go.RowKit Go.Proofs.YtpcncpegbboljaaGreatDoor.Row Go.Proofs.YtpcncpegbboljaaGreatDoor.Once
set_option linter.unusedVariables false
set_option linter.unusedSimpArgs false
def New (M : Nat) (w : World) (b : Nat) (ps : Pairs) : Prop :=
  ∃ v, M ≤ b ∧ w.heap[b]? = some (.cells #[.int .u32 0, .int .i32 0, .int .u32 0, .nilIface, v] 81 (0, 0)) ∧ w.ownsRow M 9 1 v (2 * ps.length) ((oldnew ps).map Value.string)
theorem oldnew_len (ps : Pairs) : (oldnew ps).length = 2 * ps.length := by
  induction ps with
  | nil => rfl
  | cons p ps ih => rw [show oldnew (p :: ps) = [⟨#[p.1]⟩, p.2] ++ oldnew ps from rfl, List.length_append, ih]; simp; omega
theorem oldnew_at : ∀ (ps : Pairs) (k : Nat) (h : k < ps.length), (oldnew ps)[2 * k]? = some ⟨#[(ps[k]).1]⟩ ∧ (oldnew ps)[2 * k + 1]? = some (ps[k]).2
  | [], k, h => by simp at h
  | p :: ps, 0, h => ⟨rfl, rfl⟩
  | p :: ps, k + 1, h => by
    have := oldnew_at ps k (by simpa using h)
    rw [show oldnew (p :: ps) = ⟨#[p.1]⟩ :: p.2 :: oldnew ps from rfl]
    exact this
theorem New.lies {M b : Nat} {w : World} {ps : Pairs} {v : Value} (hn : 1 ≤ ps.length) (hown : w.ownsRow M 9 1 v (2 * ps.length) ((oldnew ps).map Value.string)) :
    ∃ g cap, v = .slice (some ⟨g, 0, none⟩) (2 * ps.length) cap ∧ Lies w g ps := by
  rcases hown.2 with ⟨_, h0⟩ | ⟨g, cap, cur, rfl, _⟩
  · omega
  · refine ⟨g, cap, rfl, fun k hk => ?_⟩
    have := oldnew_at ps k hk
    constructor
    · rw [hown.cellAt _ (by omega), List.getElem?_map, this.1]; rfl
    · rw [hown.cellAt _ (by omega), List.getElem?_map, this.2]; rfl
theorem Part.of_heap {M R : Nat} {w w' : World} {ps : Pairs} (h : Part M w R ps) (hh : ∀ k, M ≤ k → k < w.heap.size → w'.heap[k]? = w.heap[k]?) : Part M w' R ps := by
  obtain ⟨C, tv, hMR, hC, hz, h6, hown, hc⟩ := h
  refine ⟨C, tv, hMR, by rw [hh R hMR (Array.getElem?_eq_some_iff.1 hC).1]; exact hC, hz, h6, own_of_heap hown fun k hk => hh k (hown.lt k hk).1 (hown.lt k hk).2, fun b hb => ?_⟩
  obtain ⟨v, hv, hr⟩ := hc b hb
  refine ⟨v, hv, ?_⟩
  cases hk : look ps b with
  | none => rw [hk] at hr; exact hr
  | some s =>
    rw [hk] at hr
    obtain ⟨B, c', hB, rfl, hrw⟩ := hr
    exact ⟨B, c', hB, rfl, Row.of_heap hrw (hh B hB hrw.lt)⟩
theorem Part.setCell {M R b j : Nat} {w : World} {ps : Pairs} (h : Part M w R ps) (hb : b < M) (v : Value) : Part M (w.setCell ⟨b, j, none⟩ v) R ps :=
  h.of_heap fun k hk _ => setCell_heap_ne _ _ _ _ _ (by omega)
theorem New.below {M b : Nat} {w w' : World} {ps : Pairs} (h : New M w b ps) (hb : Below w.heap.size w w') : New M w' b ps := by
  obtain ⟨v, hMb, hC, hown⟩ := h
  exact ⟨v, hMb, by rw [hb.block b (Array.getElem?_eq_some_iff.1 hC).1]; exact hC, own_of_heap hown fun k hk => hb.block k (hown.lt k hk).2⟩
theorem cells_lit (w : World) (cs : Array Value) (e : TypeId) (l : List Value) (hl : cs.toList = l) : ∀ j u, l[j]? = some u → (w.alloc (.cells cs e)).cell? ((⟨w.heap.size, 0, none⟩ : Addr).add j) = some u := by
  subst hl
  intro j u hu
  rw [show (⟨w.heap.size, 0, none⟩ : Addr).add j = ⟨w.heap.size, j, none⟩ from by unfold Addr.add; split <;> simp_all, cell_of_row _ _ _ _ _ _ (heap_alloc_new _ _)]
  simpa using hu
def Mid (M : Nat) (w0 : World) (b : Nat) (ps : Pairs) (w : World) : Prop :=
  ∃ R, w.heap[b]? = some (.cells #[.int .u32 0, .int .i32 1, .int .u32 0, .iface 136 (.pointer (some ⟨R, 0, none⟩)), .slice none 0 0] 81 (0, 0)) ∧ Part w0.heap.size w R ps ∧ Below M w0 w ∧ M ≤ b ∧ b < w0.heap.size
set_option maxRecDepth 100000 in
set_option maxHeartbeats 4000000 in
theorem buildOnce_any (M b : Nat) (ps : Pairs) (w : World) (hn : 2 ≤ ps.length) (hn2 : ps.length ≤ 100) (hnew : allNew ps = false) (hnd : (ps.map (·.1)).Nodup) (h : New M w b ps) :
    Calls Tryz.prog 59 #[.pointer (some ⟨b, 0, none⟩)] (w.setCell ⟨b, 1, none⟩ (.int .i32 1)) fun e w' => e = .returned (.tuple #[]) ∧ Mid M w b ps w' := by
  obtain ⟨v, hMb, hC, hown⟩ := h
  obtain ⟨g, cap, rfl, hlies⟩ := New.lies (b := b) (by omega) hown
  have hblt : b < w.heap.size := (Array.getElem?_eq_some_iff.1 hC).1
  have hgb : g ≠ b := by
    rintro rfl
    exact own_apart hown hC (.inl (by decide)) rfl
  have hC1 := setCell_heap_at w b 1 _ _ _ (.int .i32 1) hC
  have hz : (w.setCell ⟨b, 1, none⟩ (.int .i32 1)).heap.size = w.heap.size := by simp
  have hl1 : Lies (w.setCell ⟨b, 1, none⟩ (.int .i32 1)) g ps := fun k hk => by
    obtain ⟨h1, h2⟩ := hlies k hk
    exact ⟨(World.cell?_setCell_other _ _ _ _ (fun e => hgb (congrArg Addr.block e).symm)).trans h1, (World.cell?_setCell_other _ _ _ _ (fun e => hgb (congrArg Addr.block e).symm)).trans h2⟩
  have hbM : Below M w (w.setCell ⟨b, 1, none⟩ (.int .i32 1)) := (Below.refl _ _).setCell hMb _
  generalize w.setCell ⟨b, 1, none⟩ (.int .i32 1) = w1 at *
  have hc4 : w1.cell? ⟨b, 4, none⟩ = some (.slice (some ⟨g, 0, none⟩) (2 * ps.length) cap) := by rw [cell_of_row _ _ _ _ _ _ hC1]; rfl
  have BU := Lib.hid (build_any b g cap ps w1 hn hn2 hnew hnd hc4 hl1)
  have HC := Lib.hid hC1; have HZ := Lib.hid hz
  have AF := Lib.hid (show ∀ w2, Below w1.heap.size w1 w2 → w2.cell? ⟨b, 3, none⟩ = some .nilIface ∧ w2.cell? ⟨b, 4, none⟩ = some (.slice (some ⟨g, 0, none⟩) (2 * ps.length) cap) ∧ w2.frozen? ⟨b, 3, none⟩ = false ∧ w2.frozen? ⟨b, 4, none⟩ = false from fun w2 hb => by
    have hCb := (hb.block b (by rw [hz]; exact hblt)).trans hC1
    refine ⟨?_, ?_, ?_, ?_⟩
    · rw [cell_of_row _ _ _ _ _ _ hCb]; rfl
    · rw [cell_of_row _ _ _ _ _ _ hCb]; rfl
    · simp [World.frozen?, hCb]
    · simp [World.frozen?, hCb])
  clear hlies hl1 hC hC1 hown hnew hnd hc4 hz
  go_enter Tryz.func59, Tryz.ntmps59
  go_wp2_with (go_at_call 91; refine BU.out.mono ?_; rintro e w2 ⟨R, rfl, hpart, hbel⟩; obtain ⟨q3, q4, f3, f4⟩ := AF.out w2 hbel; have HPA := Lib.hid hpart; have HBE := Lib.hid hbel; clear hpart hbel)
  go_end0
  refine ⟨rfl, R, ?_, ?_, ?_, hMb, hblt⟩
  · have hCb := (HBE.out.block b (by rw [HZ.out]; exact hblt)).trans HC.out
    have h3 := setCell_heap_at w2 b 3 _ _ _ (.iface 136 (.pointer (some ⟨R, 0, none⟩))) hCb
    have h4 := setCell_heap_at _ b 4 _ _ _ (.slice none 0 0) h3
    rw [h4]
    rfl
  · have hp := HPA.out
    rw [HZ.out] at hp
    exact (hp.setCell hblt _).setCell hblt _
  · exact (((hbM.trans (HBE.out.mono (by rw [HZ.out]; omega))).setCell hMb _).setCell hMb _)
set_option maxRecDepth 100000 in
set_option maxHeartbeats 4000000 in
theorem NewReplacer_any (g cap : Nat) (ps : Pairs) (w : World) (hn : 1 ≤ ps.length) (hn2 : ps.length ≤ 100)
    (hc : ∀ j u, ((oldnew ps).map Value.string)[j]? = some u → w.cell? ((⟨g, 0, none⟩ : Addr).add j) = some u) :
    Calls Tryz.prog 31 #[.slice (some ⟨g, 0, none⟩) (2 * ps.length) cap] w fun e w' => ∃ b, e = .returned (.pointer (some ⟨b, 0, none⟩)) ∧ New w.heap.size w' b ps ∧ Below w.heap.size w w' := by
  obtain ⟨i0, hi, hi0, hi1, hi2⟩ := info_parts infoStr
  have HC := Lib.hid hc
  have l2 : 2 * ps.length ≤ 9223372036854775807 := by omega
  have l3 : ((2 * ps.length : Nat) : Int) % 2 = 0 := by omega
  have l4 : (2 * (ps.length : Int)) % 2 = 0 := by omega
  have hln : ((oldnew ps).map Value.string).length = 2 * ps.length * 1 := by rw [List.length_map, oldnew_len, Nat.mul_one]
  have HLN := Lib.hid hln
  clear hc hln
  go_enter Tryz.func31, Tryz.ntmps31
  go_wp2_with (at_builtin; refine wpList_append_own _ rfl (.const (.slice none 0 0)) (.tmp 8) 34 rfl w.heap.size 9 i0 _ 1 16 Tryz.underlying34 hi hi0 hi1 hi2 rfl (by decide) (.slice none 0 0) 0 [] rfl (World.ownsRow_nil _ _ _ _) ⟨g, 0, none⟩ (2 * ps.length) cap ((oldnew ps).map Value.string) rfl HLN.out HC.out ?c2 ?c3 ?c4 (Nat.le_refl _) ?_)
  case c2 =>
    intro u hu
    obtain ⟨x, _, rfl⟩ := List.mem_map.1 hu
    rfl
  case c3 => simp only [maxLen]; omega
  case c4 => omega
  intro v1 w1 hown1 hgr1 _
  obtain ⟨a1, n1, k1, rfl⟩ : ∃ a n c, v1 = .slice a n c := by
    rcases hown1.2 with ⟨rfl, _⟩ | ⟨_, _, _, rfl, _⟩
    · exact ⟨_, _, _, rfl⟩
    · exact ⟨_, _, _, rfl⟩
  have HO := Lib.hid hown1; have HG := Lib.hid hgr1
  clear hown1 hgr1
  go_wp2
  go_ret
  have h1 : w.heap.size ≤ w1.heap.size := HG.out.size
  refine ⟨w1.heap.size, rfl, ⟨.slice a1 n1 k1, h1, heap_alloc_new _ _, ?_⟩, ?_⟩
  · have := HO.out.alloc (.cells #[.int .u32 0, .int .i32 0, .int .u32 0, .nilIface, .slice a1 n1 k1] 81)
    simpa using this
  · exact (below_grown (Below.refl _ _) HG.out (fun j hj => by simp [Value.ownBlock] at hj) (Nat.le_refl _)).alloc h1 _
set_option maxRecDepth 100000 in
set_option maxHeartbeats 4000000 in
theorem Replace_any (M b : Nat) (ps : Pairs) (s : ByteArray) (w : World) (hn : 2 ≤ ps.length) (hn2 : ps.length ≤ 100) (hnew : allNew ps = false) (hnd : (ps.map (·.1)).Nodup) (hq : ∀ p ∈ ps, p.2.size ≤ 100) (hs : s.size ≤ 100000000) (h : New M w b ps) (hMw : M ≤ w.heap.size) :
    Calls Tryz.prog 32 #[.pointer (some ⟨b, 0, none⟩), .string s] w fun e w' => e = .returned (.string ⟨(replL ps s.data.toList).toArray⟩) ∧ Below M w w' := by
  have hmf : ∀ (fn : Fn) (first cap : Array Value) (w : World), (Instr.makeFunc fn first cap).run Tryz.prog w = .ok (.func fn first cap) w := fun _ _ _ _ => rfl
  have HB1 := Lib.hid (buildOnce_any M b ps w hn hn2 hnew hnd h)
  obtain ⟨v, hMb, hC, hown⟩ := id h
  have h0 : w.cell? ⟨b, 0, none⟩ = some (.int .u32 0) := by rw [cell_of_row _ _ _ _ _ _ hC]; rfl
  have h1 : w.cell? ⟨b, 1, none⟩ = some (.int .i32 0) := by rw [cell_of_row _ _ _ _ _ _ hC]; rfl
  have f1 : w.frozen? ⟨b, 1, none⟩ = false := by simp [World.frozen?, hC]
  have HQ : Hid (∀ w', Mid M w b ps w' → (∃ x, w'.cell? ⟨b, 0, none⟩ = some x) ∧ w'.cell? ⟨b, 1, none⟩ = some (.int .i32 1) ∧ w'.frozen? ⟨b, 0, none⟩ = false ∧ w'.frozen? ⟨b, 1, none⟩ = false) := Lib.hid (by
    rintro w' ⟨R, hC', _⟩
    refine ⟨⟨_, by rw [cell_of_row _ _ _ _ _ _ hC']; rfl⟩, by rw [cell_of_row _ _ _ _ _ _ hC']; rfl, by simp [World.frozen?, hC'], by simp [World.frozen?, hC']⟩)
  have DO0 := (do_first b #[.pointer (some ⟨b, 0, none⟩)] w (Mid M w b ps) h0 h1 f1 HB1.out HQ.out)
  have AF := (show ∀ w1, Mid M w b ps w1 → ∃ R, ((w1.drew.setCell ⟨b, 0, none⟩ (.int .u32 1)).setCell ⟨b, 1, none⟩ (.int .i32 0)).cell? ⟨b, 3, none⟩ = some (.iface 136 (.pointer (some ⟨R, 0, none⟩))) ∧ Part w.heap.size ((w1.drew.setCell ⟨b, 0, none⟩ (.int .u32 1)).setCell ⟨b, 1, none⟩ (.int .i32 0)) R ps ∧ Below M w ((w1.drew.setCell ⟨b, 0, none⟩ (.int .u32 1)).setCell ⟨b, 1, none⟩ (.int .i32 0)) from by
    rintro w1 ⟨R, hC', hp, hb, _, hbl⟩
    have hC2 : w1.drew.heap[b]? = _ := hC'
    have h2 := setCell_heap_at w1.drew b 0 _ _ _ (.int .u32 1) hC2
    have h3 := setCell_heap_at _ b 1 _ _ _ (.int .i32 0) h2
    refine ⟨R, by rw [cell_of_row _ _ _ _ _ _ h3]; rfl, ?_, ((hb.drew).setCell hMb _).setCell hMb _⟩
    exact ((hp.of_heap (w' := w1.drew) (fun _ _ _ => rfl)).setCell hbl _).setCell hbl _)
  have DO : Hid (Calls Tryz.prog 58 #[.pointer (some ⟨b, 0, none⟩), .func (.func 59) #[.pointer (some ⟨b, 0, none⟩)] #[]] w fun e w' => e = .returned (.tuple #[]) ∧ ∃ R, w'.cell? ⟨b, 3, none⟩ = some (.iface 136 (.pointer (some ⟨R, 0, none⟩))) ∧ Part w.heap.size w' R ps ∧ Below M w w') := Lib.hid (DO0.mono (by
    rintro e w' ⟨rfl, w1, hm, rfl⟩
    exact ⟨rfl, AF w1 hm⟩))
  have hm : ∀ (R : Nat) (w : World), (method 303 136 (.pointer (some ⟨R, 0, none⟩)) "Replace").run Tryz.prog w = .ok (193, .pointer (some ⟨R, 0, none⟩)) w := fun _ _ => by kernel_rfl
  have RP := Lib.hid (fun (M R : Nat) (W : World) (hP : Part M W R ps) => bsr_Replace M R ps s W hP hnd (by omega) hn2 hq hs)
  clear h hnew hown hC HB1 HQ DO0 AF hnd hq
  go_enter Tryz.func32, Tryz.ntmps32
  go_wp2_with (first | (go_at_call 193; refine (RP.out _ _ _ HPA.out).mono ?_; rintro e w4 ⟨rfl, b4⟩) | (go_at_call 58; refine DO.out.mono ?_; rintro e w3 ⟨rfl, R, q3, hpart, hbel⟩; have HPA := Lib.hid hpart; have HBE := Lib.hid hbel; clear hpart hbel))
  go_ret
  exact ⟨rfl, HBE.out.trans (b4.mono (Nat.le_trans hMw HBE.out.size))⟩
end Go.Proofs.YtpcncpegbboljaaGreatDoor.Repl
namespace Go.Proofs.YtpcncpegbboljaaGreatDoor.Addr
open Go.RowKit Go.Lib Go.Proofs.YtpcncpegbboljaaGreatDoor Go.Proofs.YtpcncpegbboljaaGreatDoor.Pure Go.Proofs.YtpcncpegbboljaaGreatDoorW.PrintWords
set_option linter.unusedVariables false
set_option linter.unusedSimpArgs false
def ctlC (c : UInt8) : Bool := decide (c.toNat < 32 ∨ c.toNat = 127)
def ctlR (x : Nat) : Bool := decide ((x : Int) < 32) || decide ((x : Int) = 127)
def hiC (c : UInt8) : Bool := decide (126 < c.toNat)
def hiR (x : Nat) : Bool := decide (126 < (x : Int))
theorem ctl_c (W : World) (x : Nat) (hx : x ≤ 1114111) : Calls Tryz.prog 28 #[.int .i32 (x : Int)] W fun e w' => e = .returned (.bool (ctlR x)) ∧ Below W.heap.size W w' := by
  unfold ctlR
  by_cases h1 : (x : Int) < 32
  · have h1' : x < 32 := by omega
    go_enter Tryz.func28, Tryz.ntmps28
    go_wp2
    go_ret
    refine ⟨?_, Below.refl _ _⟩
    simp [h1']
    try omega
  · have h1' : ¬ x < 32 := by omega
    by_cases h2 : (x : Int) = 127
    · have h2b : ((x : Int) == 127) = true := by simpa using h2
      go_enter Tryz.func28, Tryz.ntmps28
      go_wp2
      go_ret
      refine ⟨?_, Below.refl _ _⟩
      simp [h1', h2]
      try omega
    · have h2b : ((x : Int) == 127) = false := by simpa using h2
      go_enter Tryz.func28, Tryz.ntmps28
      go_wp2
      go_ret
      refine ⟨?_, Below.refl _ _⟩
      simp [h1', h2]
      try omega
theorem hi_c (W : World) (x : Nat) (hx : x ≤ 1114111) : Calls Tryz.prog 29 #[.int .i32 (x : Int)] W fun e w' => e = .returned (.bool (hiR x)) ∧ Below W.heap.size W w' := by
  unfold hiR
  go_enter Tryz.func29, Tryz.ntmps29
  go_wp2
  go_ret
  refine ⟨?_, Below.refl _ _⟩
  simp
theorem ctlF_c (s : ByteArray) (W : World) : Calls Tryz.prog 26 #[.string s, .func (.func 28) #[] #[]] W fun e w' => e = .returned (.bool (s.data.toList.any ctlC)) ∧ Below W.heap.size W w' := by
  have h := Tryz.strings_ContainsFunc_grows 28 #[] (enters_of Tryz.func28 (by kernel_rfl) rfl) ctlR s W (fun W2 x hx _ => ctl_c W2 x hx)
  rw [idx_low_all ctlR ctlC (fun c h => by unfold ctlR ctlC; rw [Bool.eq_iff_iff]; simp; omega) (fun r h => by unfold ctlR; simp; omega) (fun c h => by unfold ctlC; exact decide_eq_false (by omega))] at h
  exact h
theorem hiF_c (s : ByteArray) (W : World) : Calls Tryz.prog 26 #[.string s, .func (.func 29) #[] #[]] W fun e w' => e = .returned (.bool (s.data.toList.any hiC)) ∧ Below W.heap.size W w' := by
  have h := Tryz.strings_ContainsFunc_grows 29 #[] (enters_of Tryz.func29 (by kernel_rfl) rfl) hiR s W (fun W2 x hx _ => hi_c W2 x hx)
  rw [idx_high hiR hiC (fun c h => by unfold hiR hiC; rw [Bool.eq_iff_iff]; simp; omega) (fun r h => by unfold hiR; simp; omega) (fun c h => by unfold hiC; exact decide_eq_true (by omega))] at h
  exact h
end Go.Proofs.YtpcncpegbboljaaGreatDoor.Addr
namespace Go.Proofs.YtpcncpegbboljaaGreatDoor.Addr
open Go.RowKit Go.Lib Go.Proofs.YtpcncpegbboljaaGreatDoor Go.Proofs.YtpcncpegbboljaaGreatDoor.Pure
set_option linter.unusedVariables false
def escL : List UInt8 → List UInt8
  | [] => []
  | c :: r => (if c = 34 ∨ c = 92 then [92, c] else [c]) ++ escL r
def asksL : List UInt8 → Bool
  | [] => false
  | [_] => false
  | c :: d :: r => (c == 61 && d == 63) || asksL (d :: r)
def oneW (name mail : List UInt8) : Option (List UInt8) :=
  if goodL mail = false ∨ name.any ctlC = true then none
  else if name = [] then some mail
  else if asksL name = true ∨ name.any hiC = true then some (WordL.encL name ++ [32, 60] ++ mail ++ [62])
  else some ([34] ++ escL name ++ [34, 32, 60] ++ mail ++ [62])
theorem escL_len (l : List UInt8) : (escL l).length ≤ 2 * l.length := by
  induction l with
  | nil => simp [escL]
  | cons c r ih =>
    simp only [escL, List.length_append, List.length_cons]
    split <;> simp <;> omega
end Go.Proofs.YtpcncpegbboljaaGreatDoor.Addr
namespace Go.Proofs.YtpcncpegbboljaaGreatDoor.Addr
open Go.RowKit Go.Lib Go.Proofs.YtpcncpegbboljaaGreatDoor Go.Proofs.YtpcncpegbboljaaGreatDoor.Pure
set_option linter.unusedVariables false
set_option linter.unusedSimpArgs false
theorem asks_begins : ∀ l : List UInt8, asksL l = false → ∀ j, j < l.length → WordL.begins (l.drop j) = false
  | [], _, j, h => by simp at h
  | [a], _, j, h => by
    obtain rfl : j = 0 := by simp at h; omega
    exact WordL.begins_one a
  | a :: b :: r, h, j, hj => by
    simp only [asksL, Bool.or_eq_false_iff] at h
    cases j with
    | zero => rw [List.drop_zero, WordL.begins_cons]; exact h.1
    | succ j => exact asks_begins (b :: r) h.2 j (by simp only [List.length_cons] at hj ⊢; omega)
theorem asks_index : ∀ l : List UInt8, asksL l = true → ¬ index l [61, 63] < 0
  | [], h => by simp [asksL] at h
  | [a], h => by simp [asksL] at h
  | a :: b :: r, h => by
    intro hi
    have hb := (WordL.index_begins (a :: b :: r)).2 hi
    have h0 := hb 0 (by simp)
    rw [List.drop_zero, WordL.begins_cons] at h0
    simp only [asksL, h0, Bool.false_or] at h
    have h1 := asks_index (b :: r) h
    have : ∀ j, j < (b :: r).length → WordL.begins ((b :: r).drop j) = false := fun j hj => hb (j + 1) (by simp only [List.length_cons] at hj ⊢; omega)
    apply h1
    rcases Int.lt_or_le (index (b :: r) [61, 63]) 0 with h2 | h2
    · exact h2
    · obtain ⟨k, hk⟩ := Int.eq_ofNat_of_zero_le h2
      obtain ⟨k1, k2, _⟩ := (WordL.index_begins (b :: r)).1 k hk
      rw [this k k1] at k2; cases k2
def writesL : List (List UInt8 × List UInt8) → Option (List (List UInt8))
  | [] => some []
  | x :: l => (oneW x.1 x.2).bind fun e => (writesL l).bind fun es => some (e :: es)
def joinW (es : List (List UInt8)) : List UInt8 := [44, 32].intercalate es
theorem joinW_nil : joinW [] = [] := rfl
theorem joinW_one (e : List UInt8) : joinW [e] = e := by simp [joinW, List.intercalate]
theorem joinW_cons (e f : List UInt8) (r : List (List UInt8)) : joinW (e :: f :: r) = e ++ 44 :: 32 :: joinW (f :: r) := by simp [joinW, List.intercalate]
theorem chunk_27 : ∀ (f : Nat) (l : List UInt8) (n : Nat), l.length ≤ f → 27 ≤ WordL.chunk f l n ∨ WordL.chunk f l n = n + l.length := by
  intro f
  induction f with
  | zero =>
    intro l n h
    right
    obtain rfl := List.eq_nil_of_length_eq_zero (by omega : l.length = 0)
    rfl
  | succ f ih =>
    intro l n h
    show 27 ≤ WordL.chunk (f + 1) l n ∨ WordL.chunk (f + 1) l n = n + l.length
    simp only [WordL.chunk]
    by_cases h0 : l = []
    · rw [if_pos h0, h0]; right; rfl
    · rw [if_neg h0]
      have h4 := WordL.width4 l h0
      have hw := dec_width l h0
      split
      · left; omega
      · have := ih (l.drop (uDec l).2) (n + (uDec l).2) (by rw [List.length_drop]; omega)
        rw [List.length_drop] at this
        rcases this with h | h
        · exact .inl h
        · right; show WordL.chunk f _ _ = _; rw [show WordL.chunk f (l.drop (uDec l).2) (n + (uDec l).2) = n + (uDec l).2 + (l.length - (uDec l).2) from h]; omega
theorem chunks_count : ∀ (f : Nat) (l : List UInt8), l.length ≤ f → 27 * (WordL.chunks f l).length ≤ l.length + 27 := by
  intro f
  induction f with
  | zero => intro l h; simp [WordL.chunks]
  | succ f ih =>
    intro l h
    simp only [WordL.chunks]
    by_cases h0 : l = []
    · rw [if_pos h0]; simp
    · rw [if_neg h0, List.length_cons]
      have hp := WordL.chunk_pos l.length l h0 (Nat.le_refl _)
      have hb := (WordL.chunk_bd l.length l 0).2
      have h27 := chunk_27 l.length l 0 (Nat.le_refl _)
      have hi := ih (l.drop (WordL.chunk l.length l 0)) (by rw [List.length_drop]; omega)
      rw [List.length_drop] at hi
      have hI : 27 * ((WordL.chunks f (l.drop (WordL.chunk l.length l 0))).length + 1) = 27 * (WordL.chunks f (l.drop (WordL.chunk l.length l 0))).length + 27 := by omega
      rcases h27 with h27 | h27
      · have : 27 ≤ WordL.chunk l.length l 0 := h27
        omega
      · have h27' : WordL.chunk l.length l 0 = 0 + l.length := h27
        have hnil : WordL.chunks f (l.drop (WordL.chunk l.length l 0)) = [] := by
          rw [List.drop_eq_nil_of_le (by omega)]
          cases f <;> simp [WordL.chunks]
        rw [hnil]; simp
end Go.Proofs.YtpcncpegbboljaaGreatDoor.Addr
namespace Go.Proofs.YtpcncpegbboljaaGreatDoor.Addr
open Go.RowKit Go.Lib Go.Proofs.YtpcncpegbboljaaGreatDoor Go.Proofs.YtpcncpegbboljaaGreatDoor.Pure Go.Proofs.YtpcncpegbboljaaGreatDoorW.PrintWords
set_option linter.unusedVariables false
set_option linter.unusedSimpArgs false
def boxOf (x : P.S32) : List UInt8 × List UInt8 := (x.f0.data.toList, x.f1.data.toList)
def toBox (x : List UInt8 × List UInt8) : P.S32 := ⟨⟨x.1.toArray⟩, ⟨x.2.toArray⟩⟩
theorem boxes_reps {w : World} {base : Nat} {ok : Nat → Prop} (l : List (List UInt8 × List UInt8)) : Reps (P.k32.M w base ok) 2 (l.map toBox) (boxesV l) := by
  have key : ∀ (a b : List (List UInt8 × List UInt8)), Reps (P.k32.M w base ok) 2 (a.map toBox) (boxesV a) → Reps (P.k32.M w base ok) 2 ((a ++ b).map toBox) (boxesV (a ++ b)) := by
    intro a b
    induction b generalizing a with
    | nil => intro h; simpa using h
    | cons x b ih =>
      intro h
      have h2 := ih (a ++ [x]) (by
        rw [boxesV_snoc, List.map_append]
        exact h.snoc (P.k32_mkM w base ok (toBox x)) rfl)
      simpa using h2
  have := key [] l (Reps.none _ _)
  simpa using this
theorem Parse_k (s : ByteArray) (hs : s.size ≤ 1100000) (w : World) (hGl : Glob w) :
    Calls Tryz.prog 11 #[.string s] w fun e w' => ∃ v0_ : Value, e = .returned (v0_) ∧ Kd.R P.k32 32 w' w.heap.size (fun _ => True) v0_ ((parseP s.data.toList).map toBox) ∧ Below w.heap.size w w' := by
  refine (Parse_c s hs w hGl).mono ?_
  rintro e w' ⟨v, rfl, hown, hb⟩
  refine ⟨v, rfl, ⟨fun _ _ => trivial, boxesV (parseL s), ?_, ?_⟩, hb⟩
  · rw [List.length_map, ← parseL_is]; exact hown
  · rw [← parseL_is]; exact boxes_reps _
end Go.Proofs.YtpcncpegbboljaaGreatDoor.Addr
namespace Go.Proofs.YtpcncpegbboljaaGreatDoor.Addr
open Go.RowKit Go.Lib Go.Proofs.YtpcncpegbboljaaGreatDoor Go.Proofs.YtpcncpegbboljaaGreatDoor.Pure Go.Proofs.YtpcncpegbboljaaGreatDoorW.PrintWords
set_option linter.unusedVariables false
set_option linter.unusedSimpArgs false
def writeL (l : List (List UInt8 × List UInt8)) : List UInt8 × Int := match writesL l with
  | none => ([], 1)
  | some es => (joinW es, 0)
theorem encL_small (l : List UInt8) (h : l.length ≤ 300) : (WordL.encL l).length ≤ 2000 := by
  unfold WordL.encL
  split
  · omega
  · obtain ⟨h1, h2⟩ := WordL.chunks_Val (vl l).length (vl l) (vl_Val l) (Nat.le_refl _)
    have h3 := WordL.inter_len (WordL.wordsL (vl l)) (fun w hw => by
      obtain ⟨x, hx, rfl⟩ := List.mem_map.1 hw
      exact WordL.wordOf_52 x (h2 x hx).2)
    have h4 : (WordL.wordsL (vl l)).length = (WordL.chunks (vl l).length (vl l)).length := by unfold WordL.wordsL; rw [List.length_map]
    have h5 := WordL.vl_len l
    have h6 := chunks_count (vl l).length (vl l) (Nat.le_refl _)
    omega
theorem oneW_small (name mail e : List UInt8) (h1 : name.length ≤ 300) (h2 : mail.length ≤ 300) (h : oneW name mail = some e) : e.length ≤ 2400 := by
  unfold oneW at h
  split at h
  · cases h
  · split at h
    · obtain rfl := Option.some.inj h; omega
    · split at h
      · obtain rfl := Option.some.inj h
        have := encL_small name h1
        simp only [List.length_append, List.length_cons, List.length_nil]; omega
      · obtain rfl := Option.some.inj h
        have := escL_len name
        simp only [List.length_append, List.length_cons, List.length_nil]; omega
def escPs : Repl.Pairs := [(34, ⟨#[92, 34]⟩), (92, ⟨#[92, 92]⟩)]
theorem repl_esc (l : List UInt8) : Repl.replL escPs l = escL l := by
  induction l with
  | nil => rfl
  | cons c l ih =>
    have h : ∀ c : Fin 256, Repl.repB escPs (UInt8.ofNat c.val) = if UInt8.ofNat c.val = 34 ∨ UInt8.ofNat c.val = 92 then [92, UInt8.ofNat c.val] else [UInt8.ofNat c.val] := by decide +kernel
    have hc := h ⟨c.toNat, UInt8.toNat_lt c⟩
    simp only at hc
    rw [show UInt8.ofNat c.toNat = c by simp] at hc
    show Repl.repB escPs c ++ Repl.replL escPs l = (if c = 34 ∨ c = 92 then [92, c] else [c]) ++ escL l
    rw [ih, hc]
theorem asks_contains (l : List UInt8) : Lib.contains l [61, 63] = asksL l := by
  show decide (0 ≤ index l [61, 63]) = asksL l
  cases h : asksL l with
  | true => exact decide_eq_true (by have := asks_index l h; omega)
  | false =>
    refine decide_eq_false (fun h0 => ?_)
    obtain ⟨k, hk⟩ := Int.eq_ofNat_of_zero_le h0
    obtain ⟨k1, k2, _⟩ := (WordL.index_begins l).1 k hk
    rw [asks_begins l h k k1] at k2; cases k2
theorem wr_step {xs : List (List UInt8 × List UInt8)} {i : Nat} {x : List UInt8 × List UInt8} {e : List UInt8} {acc : List (List UInt8)} {T : Option (List (List UInt8))} (hd : xs.drop i = x :: xs.drop (i + 1)) (h1 : oneW x.1 x.2 = some e)
    (he : (writesL (xs.drop i)).map (fun es => acc ++ es) = T) : (writesL (xs.drop (i + 1))).map (fun es => (acc ++ [e]) ++ es) = T := by
  rw [← he, hd]
  simp only [writesL, h1, Option.bind_some]
  cases writesL (xs.drop (i + 1)) <;> simp
theorem wr_none {xs : List (List UInt8 × List UInt8)} {i : Nat} {x : List UInt8 × List UInt8} {acc : List (List UInt8)} {T : Option (List (List UInt8))} (hd : xs.drop i = x :: xs.drop (i + 1)) (h1 : oneW x.1 x.2 = none)
    (he : (writesL (xs.drop i)).map (fun es => acc ++ es) = T) : T = none := by
  rw [← he, hd]
  simp only [writesL, h1, Option.bind_none]; rfl
theorem join_len : ∀ (es : List (List UInt8)), (∀ e ∈ es, e.length ≤ 2400) → (joinW es).length ≤ 2402 * es.length
  | [], _ => by simp [joinW_nil]
  | [e], h => by rw [joinW_one]; have := h e (by simp); simp; omega
  | e :: f :: r, h => by
    rw [joinW_cons]
    have h1 := h e (by simp)
    have ih := join_len (f :: r) (fun x hx => h x (List.mem_cons_of_mem _ hx))
    simp only [List.length_append, List.length_cons] at ih ⊢; omega
theorem row_set {w : World} {B n k j : Nat} {e : TypeId} {v x : Value} {xs : List Value} (h : w.ownsRow B e 1 v n xs) (hk : ∀ g, v.ownBlock = some g → g ≠ k) : (w.setCell ⟨k, j, none⟩ x).ownsRow B e 1 v n xs :=
  ownsRow_setCell_other (a := ⟨k, j, none⟩) h (fun e => hk _ e rfl) x
theorem own_lower8 {w : World} {M M' e n : Nat} {v : Value} {xs : List Value} (h : w.ownsRow M' e 1 v n xs) (hM : M ≤ M') : w.ownsRow M e 1 v n xs := by
  refine ⟨h.1, ?_⟩
  rcases h.2 with h | ⟨g, cap, cur, h1, h2, h3⟩
  · exact .inl h
  · exact .inr ⟨g, cap, cur, h1, Nat.le_trans hM h2, h3⟩
set_option maxRecDepth 100000 in
set_option maxHeartbeats 16000000 in
theorem Write_c (A : Option Addr) (c : Nat) (l : List P.S32) (hl : l.length ≤ 40) (hsz : ∀ x ∈ l, x.f0.size ≤ 300 ∧ x.f1.size ≤ 300) (w : World) (hGl : Glob w) (hr : Kd.C P.k32 w A l.length l) (hc : l.length ≤ c) :
    Calls Tryz.prog 16 #[.slice A l.length c] w fun e w' => e = .returned (.tuple #[.string ⟨(writeL (l.map boxOf)).1.toArray⟩, .int .i64 (writeL (l.map boxOf)).2]) ∧ Below w.heap.size w w' := by
  have HR := Lib.hid hr; have GL := Lib.hid hGl; have HSZ := Lib.hid hsz
  clear hr hGl hsz
  go_enter Tryz.func16, Tryz.ntmps16
  go_wp2
  go_loopw [4, 9] (fun lv iv wr => ∃ (i : Nat) (acc : List ByteArray) (x : Value), x = lv ∧ iv = .int .i64 (i : Int) ∧ i ≤ l.length ∧ acc.length = i ∧ (writesL ((l.map boxOf).drop i)).map (fun es => acc.map (·.data.toList) ++ es) = writesL (l.map boxOf) ∧ (∀ e ∈ acc, e.size ≤ 2400) ∧ wr.ownsRow w.heap.size 9 1 x acc.length (acc.map Value.string) ∧ Below w.heap.size w wr) (fun _ iv _ => l.length - (RowKit.intOf iv).toNat)
  case atStart => exact ⟨0, [], _, rfl, rfl, Nat.zero_le _, rfl, by rw [List.drop_zero]; simp, by simp, World.ownsRow_nil _ _ _ _, Below.refl _ _⟩
  case round =>
    obtain ⟨i, acc, lv, rfl, rfl, hi, hal, he, hes, hown, hb⟩ := hrel
    have HE := Lib.hid he; have HES := Lib.hid hes; have HN := Lib.hid hown; have HB := Lib.hid hb; have HAL := Lib.hid hal
    have hacc : acc.length ≤ 40 := by omega
    clear he hes hown hb hal
    by_cases hlt : i < l.length
    · have hlti : (i : Int) < (l.length : Int) := by omega
      obtain ⟨x, hx⟩ : ∃ x, l[i] = x := ⟨_, rfl⟩
      have hm : x ∈ l := hx ▸ List.getElem_mem hlt
      obtain ⟨hs0, hs1⟩ := HSZ.out x hm
      obtain ⟨ad, cs, hA, hcl, hK, hcell⟩ := Kd.C_get (Kd.C_below HR.out HB.out) P.z32 (i : Int) (by omega) (by omega)
      have hxd : l.getD i P.z32 = x := by rw [List.getD_eq_getElem?_getD, List.getElem?_eq_getElem hlt, hx]; rfl
      rw [Int.toNat_natCast, hxd] at hK
      rw [Int.toNat_natCast] at hcell
      obtain rfl := P.k32_open hK
      have k0 : wr.cell? (ad.add (i * 2)) = some (.string x.f0) := hcell 0 (.string x.f0) rfl
      have k1 : wr.cell? ⟨(ad.add (i * 2)).block, (ad.add (i * 2)).off + 1, none⟩ = some (.string x.f1) := by
        have := hcell 1 (.string x.f1) rfl
        rw [← add_field _ _ 1 (by omega)]; exact this
      have hdrop : (l.map boxOf).drop i = boxOf x :: (l.map boxOf).drop (i + 1) := by
        rw [List.drop_eq_getElem_cons (by rw [List.length_map]; exact hlt), List.getElem_map, hx]
      have HD := Lib.hid hdrop
      subst hA
      obtain ⟨N, hN⟩ : ∃ N, x.f0 = N := ⟨_, rfl⟩
      obtain ⟨M, hM⟩ : ∃ M, x.f1 = M := ⟨_, rfl⟩
      have hbx : boxOf x = (N.data.toList, M.data.toList) := by rw [← hN, ← hM]; rfl
      rw [hN] at k0 hs0
      rw [hM] at k1 hs1
      have HBX := Lib.hid hbx
      have hNl : N.data.toList.length = N.size := by simp
      have hMl : M.data.toList.length = M.size := by simp
      have hON : Hid (∀ e, oneW N.data.toList M.data.toList = some e → e.length ≤ 2400) := Lib.hid fun e h => oneW_small _ _ e (by omega) (by omega) h
      have HSTEP : Hid (∀ e : ByteArray, oneW N.data.toList M.data.toList = some e.data.toList → (writesL ((l.map boxOf).drop (i + 1))).map (fun es => (acc ++ [e]).map (·.data.toList) ++ es) = writesL (l.map boxOf)) := Lib.hid (by
        intro e h
        have := wr_step HD.out (by rw [HBX.out]; exact h) HE.out
        simpa using this)
      have HNONE : Hid (oneW N.data.toList M.data.toList = none → writeL (l.map boxOf) = ([], 1)) := Lib.hid (by
        intro h
        have := wr_none HD.out (by rw [HBX.out]; exact h) HE.out
        unfold writeL; rw [this])
      have hone : oneW N.data.toList M.data.toList = if goodL M.data.toList = false ∨ N.data.toList.any ctlC = true then none else if N.data.toList = [] then some M.data.toList else if asksL N.data.toList = true ∨ N.data.toList.any hiC = true then some (WordL.encL N.data.toList ++ [32, 60] ++ M.data.toList ++ [62]) else some ([34] ++ escL N.data.toList ++ [34, 32, 60] ++ M.data.toList ++ [62]) := rfl
      have GD := Lib.hid (fun W => Good_c M (by omega) W)
      have CF := Lib.hid (fun W => ctlF_c N W)
      have HF := Lib.hid (fun W => hiF_c N W)
      have CO : Hid (∀ W, Glob W → Calls Tryz.prog 24 #[.string N, .string (⟨#[61, 63]⟩ : ByteArray)] W fun e w' => e = .returned (.bool (asksL N.data.toList)) ∧ w' = W) := Lib.hid (fun W h => by
        obtain ⟨m, hm⟩ := h.maxl
        have := Tryz.strings_Contains N (⟨#[61, 63]⟩ : ByteArray) m W (by omega) hm
        rw [show Lib.contains N.data.toList (⟨#[61, 63]⟩ : ByteArray).data.toList = asksL N.data.toList from asks_contains _] at this
        exact this)
      have EN := Lib.hid (fun W h => WordL.Encode_c N (by omega) W h)
      obtain ⟨V, hV⟩ : ∃ V : ByteArray, (⟨(WordL.encL N.data.toList).toArray⟩ : ByteArray) = V := ⟨_, rfl⟩
      have hVd : V.data.toList = WordL.encL N.data.toList := by rw [← hV]
      have hVz : V.size ≤ 2000 := by
        have := encL_small N.data.toList (by omega)
        rw [← hVd] at this; simpa using this
      rw [hV] at EN
      have HVD := Lib.hid hVd
      have hNe : N.toList = N.data.toList := toList_eq _
      clear hK hcell hcl hxd hx hm hdrop hbx hV hVd hN hM
      generalize goodL M.data.toList = q at *
      generalize N.data.toList.any ctlC = ct at *
      generalize N.data.toList.any hiC = hi' at *
      generalize asksL N.data.toList = ak at *
      have HONE := Lib.hid hone; have HNE := Lib.hid hNe; have HNL := Lib.hid hNl
      clear hone hNe hNl hMl
      cases q with
      | false =>
        have hz : Hid (writeL (l.map boxOf) = ([], 1)) := Lib.hid (HNONE.out (by rw [HONE.out, if_pos (.inl rfl)]))
        go_wp2_with (go_at_call 13; refine (GD.out _).mono ?_; rintro e w1 ⟨rfl, b1⟩; have h1 := (b1.block wr.heap.size (by simp)).trans (heap_alloc_new wr _); have k10 := Joins.cell_of_block h1 0; have k11 := Joins.cell_of_block h1 1; have u10 := Joins.unfrozen_of_block h1 0; simp at k10 k11; have D1 := Lib.hid h1; have B1 := Lib.hid (((Below.refl _ wr).alloc (Nat.le_refl _) _).trans (b1.mono (by simp))); clear b1 h1)
        go_ret2
        rw [hz.out]
        exact ⟨rfl, HB.out.trans (B1.out.mono HB.out.size)⟩
      | true =>
      cases ct with
      | true =>
        have hz : Hid (writeL (l.map boxOf) = ([], 1)) := Lib.hid (HNONE.out (by rw [HONE.out, if_pos (.inr rfl)]))
        go_wp2_with (first
          | (go_at_call 13; refine (GD.out _).mono ?_; rintro e w1 ⟨rfl, b1⟩; have h1 := (b1.block wr.heap.size (by simp)).trans (heap_alloc_new wr _); have k10 := Joins.cell_of_block h1 0; have k11 := Joins.cell_of_block h1 1; have u10 := Joins.unfrozen_of_block h1 0; simp at k10 k11; have D1 := Lib.hid h1; have B1 := Lib.hid (((Below.refl _ wr).alloc (Nat.le_refl _) _).trans (b1.mono (by simp))); clear b1 h1)
          | (go_at_call 26; with_reducible refine (CF.out _).mono ?_; rintro e w2 ⟨rfl, b2⟩; have h2 := (b2.block wr.heap.size (Array.getElem?_eq_some_iff.1 D1.out).1).trans D1.out; have k20 := Joins.cell_of_block h2 0; have k21 := Joins.cell_of_block h2 1; have u20 := Joins.unfrozen_of_block h2 0; simp at k20 k21; have D2 := Lib.hid h2; have B2 := Lib.hid (B1.out.trans (b2.mono B1.out.size)); clear b2 h2))
        go_ret2
        rw [hz.out]
        exact ⟨rfl, HB.out.trans (B2.out.mono HB.out.size)⟩
      | false =>
      have hq1 : Hid (oneW N.data.toList M.data.toList = if N.data.toList = [] then some M.data.toList else if ak = true ∨ hi' = true then some (WordL.encL N.data.toList ++ [32, 60] ++ M.data.toList ++ [62]) else some ([34] ++ escL N.data.toList ++ [34, 32, 60] ++ M.data.toList ++ [62])) := Lib.hid (by rw [HONE.out, if_neg (by rintro (h | h) <;> cases h)])
      obtain ⟨i0, hi0, hz0, hz1, hz2⟩ := info_parts infoStr
      have HI0 := Lib.hid hi0
      clear hi0
      by_cases hNn : N.toList = []
      · have hNn2 : N.toList.isEmpty = true := by rw [hNn]; rfl
        have ho : Hid (oneW N.data.toList M.data.toList = some M.data.toList) := Lib.hid (by rw [hq1.out, if_pos (by rw [← HNE.out]; exact hNn)])
        go_wp2_with (first
          | (go_at_call 13; refine (GD.out _).mono ?_; rintro e w1 ⟨rfl, b1⟩; have h1 := (b1.block wr.heap.size (by simp)).trans (heap_alloc_new wr _); have k10 := Joins.cell_of_block h1 0; have k11 := Joins.cell_of_block h1 1; have u10 := Joins.unfrozen_of_block h1 0; simp at k10 k11; have D1 := Lib.hid h1; have B1 := Lib.hid (((Below.refl _ wr).alloc (Nat.le_refl _) _).trans (b1.mono (by simp))); clear b1 h1)
          | (go_at_call 26; with_reducible refine (CF.out _).mono ?_; rintro e w2 ⟨rfl, b2⟩; have h2 := (b2.block wr.heap.size (Array.getElem?_eq_some_iff.1 D1.out).1).trans D1.out; have k20 := Joins.cell_of_block h2 0; have k21 := Joins.cell_of_block h2 1; have u20 := Joins.unfrozen_of_block h2 0; simp at k20 k21; have D2 := Lib.hid h2; have B2 := Lib.hid (B1.out.trans (b2.mono B1.out.size)); clear b2 h2)
          | (at_builtin; refine wpList_append_own _ rfl (.tmp 34) (.tmp 37) 34 rfl w.heap.size 9 i0 _ 1 16 Tryz.underlying34 HI0.out hz0 hz1 hz2 rfl (by decide) _ _ _ rfl ((own_below HN.out B2.out).alloc _) ⟨w2.heap.size, 0, none⟩ 1 1 [.string M] rfl rfl ?c1 ?c2 ?c3 ?c4 ?c5 ?_))
        case c1 =>
          intro j u hj
          match j, hj with
          | 0, hj =>
            obtain rfl : Value.string M = u := Option.some.inj hj
            rw [show (⟨w2.heap.size, 0, none⟩ : Addr).add 0 = ⟨w2.heap.size, 0, none⟩ from by unfold Addr.add; simp]
            simp
          | j + 1, hj => exact absurd hj (by simp)
        case c2 => intro u hu; simp at hu; rcases hu with rfl; rfl
        case c3 => simp only [maxLen]; omega
        case c4 => omega
        case c5 => have h1 := HB.out.size; have h2 := B2.out.size; simp; omega
        intro v' w5 hown5 hgr5 _
        have hb5 : Below w.heap.size w w5 := ((HB.out.trans (B2.out.mono HB.out.size)).alloc (by have h1 := HB.out.size; have h2 := B2.out.size; omega) _).grown hgr5 (by have h1 := HB.out.size; have h2 := B2.out.size; simp; omega) (own_base HN.out)
        have H5 := Lib.hid hown5; have B5 := Lib.hid hb5
        clear hown5 hgr5 hb5
        go_wp2_with fail
        go_roundw
        case rel => exact ⟨i + 1, acc ++ [M], _, rfl, by go_num, by omega, by rw [List.length_append, HAL.out]; rfl, HSTEP.out M ho.out, fun e he => (List.mem_append.1 he).elim (HES.out e) (fun h => by rw [List.mem_singleton.1 h]; omega), by rw [List.length_append, List.map_append]; exact H5.out, B5.out⟩
        case measure => simp [RowKit.intOf]; omega
      · have hNn2 : N.toList.isEmpty = false := by cases h : N.toList with
          | nil => exact absurd h hNn
          | cons a b => rfl
        by_cases hch : ak = true ∨ hi' = true
        · have ho : Hid (oneW N.data.toList M.data.toList = some (((V ++ (⟨#[32, 60]⟩ : ByteArray)) ++ M) ++ (⟨#[62]⟩ : ByteArray)).data.toList) := Lib.hid (by
            rw [hq1.out, if_neg (by rw [← HNE.out]; exact hNn), if_pos hch, ← HVD.out]; simp)
          have HCH := Lib.hid hch
          clear hch
          cases ak with
          | true =>
            go_wp2_with (first
              | (go_at_call 13; refine (GD.out _).mono ?_; rintro e w1 ⟨rfl, b1⟩; have h1 := (b1.block wr.heap.size (by simp)).trans (heap_alloc_new wr _); have k10 := Joins.cell_of_block h1 0; have k11 := Joins.cell_of_block h1 1; have u10 := Joins.unfrozen_of_block h1 0; simp at k10 k11; have D1 := Lib.hid h1; have B1 := Lib.hid (((Below.refl _ wr).alloc (Nat.le_refl _) _).trans (b1.mono (by simp))); clear b1 h1)
              | (go_at_call 26; with_reducible refine (CF.out _).mono ?_; rintro e w2 ⟨rfl, b2⟩; have h2 := (b2.block wr.heap.size (Array.getElem?_eq_some_iff.1 D1.out).1).trans D1.out; have k20 := Joins.cell_of_block h2 0; have k21 := Joins.cell_of_block h2 1; have u20 := Joins.unfrozen_of_block h2 0; simp at k20 k21; have D2 := Lib.hid h2; have B2 := Lib.hid (B1.out.trans (b2.mono B1.out.size)); clear b2 h2)
              | (go_at_call 24; refine (CO.out _ (GL.out.below (HB.out.trans (B2.out.mono HB.out.size)))).mono ?_; rintro e w3 ⟨rfl, rfl⟩)
              | (go_at_call 30; refine (EN.out _ (GL.out.below (HB.out.trans (B2.out.mono HB.out.size)))).mono ?_; rintro e w4 ⟨rfl, b4⟩; have h4 := (b4.block wr.heap.size (Array.getElem?_eq_some_iff.1 D2.out).1).trans D2.out; have k40 := Joins.cell_of_block h4 0; have k41 := Joins.cell_of_block h4 1; have u40 := Joins.unfrozen_of_block h4 0; simp at k40 k41; have D4 := Lib.hid h4; have B4 := Lib.hid (B2.out.trans (b4.mono B2.out.size)); have H4 := Lib.hid (row_set (k := wr.heap.size) (j := 0) (x := .string V) (own_below HN.out B4.out) (fun g hg => by have := (HN.out.lt _ hg).2; omega)); have B9 := Lib.hid ((HB.out.trans (B4.out.mono HB.out.size)).setCell (p := ⟨wr.heap.size, 0, none⟩) HB.out.size (.string V)); have hz9 := B4.out.size; clear b4 h4)
              | (at_builtin; refine wpList_append_own _ rfl (.tmp 52) (.tmp 60) 34 rfl w.heap.size 9 i0 _ 1 16 Tryz.underlying34 HI0.out hz0 hz1 hz2 rfl (by decide) _ _ _ rfl (H4.out.alloc _) ⟨w4.heap.size, 0, none⟩ 1 1 [.string (V ++ (⟨#[32, 60]⟩ : ByteArray) ++ M ++ (⟨#[62]⟩ : ByteArray))] rfl rfl ?c1 ?c2 ?c3 ?c4 ?c5 ?_))
            case c1 =>
              intro j u hj
              match j, hj with
              | 0, hj =>
                obtain rfl : Value.string (V ++ (⟨#[32, 60]⟩ : ByteArray) ++ M ++ (⟨#[62]⟩ : ByteArray)) = u := Option.some.inj hj
                rw [show (⟨w4.heap.size, 0, none⟩ : Addr).add 0 = ⟨w4.heap.size, 0, none⟩ from by unfold Addr.add; simp]
                rw [World.cell?_alloc_at (hn := by simp)]; rfl
              | j + 1, hj => exact absurd hj (by simp)
            case c2 => intro u hu; simp at hu; rcases hu with rfl; rfl
            case c3 => simp only [maxLen]; omega
            case c4 => omega
            case c5 => have h1 := HB.out.size; simp; omega
            intro v' w9 hown9 hgr9 _
            have hb9 : Below w.heap.size w w9 := (B9.out.alloc (by have h1 := HB.out.size; simp; omega) _).grown hgr9 (by have h1 := HB.out.size; simp; omega) (own_base HN.out)
            have H9 := Lib.hid hown9; have B10 := Lib.hid hb9
            clear hown9 hgr9 hb9
            go_wp2_with fail
            go_roundw
            case rel => exact ⟨i + 1, acc ++ [V ++ (⟨#[32, 60]⟩ : ByteArray) ++ M ++ (⟨#[62]⟩ : ByteArray)], _, rfl, by go_num, by omega, by rw [List.length_append, HAL.out]; rfl, HSTEP.out _ ho.out, fun e he => (List.mem_append.1 he).elim (HES.out e) (fun h => by rw [List.mem_singleton.1 h, ← sizeL]; exact hON.out _ ho.out), by rw [List.length_append, List.map_append]; exact H9.out, B10.out⟩
            case measure => simp [RowKit.intOf]; omega
          | false =>
            obtain rfl : hi' = true := by rcases HCH.out with h | h; cases h; exact h
            go_wp2_with (first
              | (go_at_call 13; refine (GD.out _).mono ?_; rintro e w1 ⟨rfl, b1⟩; have h1 := (b1.block wr.heap.size (by simp)).trans (heap_alloc_new wr _); have k10 := Joins.cell_of_block h1 0; have k11 := Joins.cell_of_block h1 1; have u10 := Joins.unfrozen_of_block h1 0; simp at k10 k11; have D1 := Lib.hid h1; have B1 := Lib.hid (((Below.refl _ wr).alloc (Nat.le_refl _) _).trans (b1.mono (by simp))); clear b1 h1)
              | (go_at_call 26; with_reducible refine (CF.out _).mono ?_; rintro e w2 ⟨rfl, b2⟩; have h2 := (b2.block wr.heap.size (Array.getElem?_eq_some_iff.1 D1.out).1).trans D1.out; have k20 := Joins.cell_of_block h2 0; have k21 := Joins.cell_of_block h2 1; have u20 := Joins.unfrozen_of_block h2 0; simp at k20 k21; have D2 := Lib.hid h2; have B2 := Lib.hid (B1.out.trans (b2.mono B1.out.size)); clear b2 h2)
              | (go_at_call 24; refine (CO.out _ (GL.out.below (HB.out.trans (B2.out.mono HB.out.size)))).mono ?_; rintro e w3 ⟨rfl, rfl⟩)
              | (go_at_call 26; with_reducible refine (HF.out _).mono ?_; rintro e w4 ⟨rfl, b4⟩; have h4 := (b4.block wr.heap.size (Array.getElem?_eq_some_iff.1 D2.out).1).trans D2.out; have k40 := Joins.cell_of_block h4 0; have k41 := Joins.cell_of_block h4 1; have u40 := Joins.unfrozen_of_block h4 0; simp at k40 k41; have D4 := Lib.hid h4; have B4 := Lib.hid (B2.out.trans (b4.mono B2.out.size)); clear b4 h4)
              | (go_at_call 30; refine (EN.out _ (GL.out.below (HB.out.trans (B4.out.mono HB.out.size)))).mono ?_; rintro e w5 ⟨rfl, b5⟩; have h5 := (b5.block wr.heap.size (Array.getElem?_eq_some_iff.1 D4.out).1).trans D4.out; have k50 := Joins.cell_of_block h5 0; have k51 := Joins.cell_of_block h5 1; have u50 := Joins.unfrozen_of_block h5 0; simp at k50 k51; have D5 := Lib.hid h5; have B5 := Lib.hid (B4.out.trans (b5.mono B4.out.size)); have H5 := Lib.hid (row_set (k := wr.heap.size) (j := 0) (x := .string V) (own_below HN.out B5.out) (fun g hg => by have := (HN.out.lt _ hg).2; omega)); have B9 := Lib.hid ((HB.out.trans (B5.out.mono HB.out.size)).setCell (p := ⟨wr.heap.size, 0, none⟩) HB.out.size (.string V)); have hz9 := B5.out.size; clear b5 h5)
              | (at_builtin; refine wpList_append_own _ rfl (.tmp 52) (.tmp 60) 34 rfl w.heap.size 9 i0 _ 1 16 Tryz.underlying34 HI0.out hz0 hz1 hz2 rfl (by decide) _ _ _ rfl (H5.out.alloc _) ⟨w5.heap.size, 0, none⟩ 1 1 [.string (V ++ (⟨#[32, 60]⟩ : ByteArray) ++ M ++ (⟨#[62]⟩ : ByteArray))] rfl rfl ?c1 ?c2 ?c3 ?c4 ?c5 ?_))
            case c1 =>
              intro j u hj
              match j, hj with
              | 0, hj =>
                obtain rfl : Value.string (V ++ (⟨#[32, 60]⟩ : ByteArray) ++ M ++ (⟨#[62]⟩ : ByteArray)) = u := Option.some.inj hj
                rw [show (⟨w5.heap.size, 0, none⟩ : Addr).add 0 = ⟨w5.heap.size, 0, none⟩ from by unfold Addr.add; simp]
                rw [World.cell?_alloc_at (hn := by simp)]; rfl
              | j + 1, hj => exact absurd hj (by simp)
            case c2 => intro u hu; simp at hu; rcases hu with rfl; rfl
            case c3 => simp only [maxLen]; omega
            case c4 => omega
            case c5 => have h1 := HB.out.size; simp; omega
            intro v' w9 hown9 hgr9 _
            have hb9 : Below w.heap.size w w9 := (B9.out.alloc (by have h1 := HB.out.size; simp; omega) _).grown hgr9 (by have h1 := HB.out.size; simp; omega) (own_base HN.out)
            have H9 := Lib.hid hown9; have B10 := Lib.hid hb9
            clear hown9 hgr9 hb9
            go_wp2_with fail
            go_roundw
            case rel => exact ⟨i + 1, acc ++ [V ++ (⟨#[32, 60]⟩ : ByteArray) ++ M ++ (⟨#[62]⟩ : ByteArray)], _, rfl, by go_num, by omega, by rw [List.length_append, HAL.out]; rfl, HSTEP.out _ ho.out, fun e he => (List.mem_append.1 he).elim (HES.out e) (fun h => by rw [List.mem_singleton.1 h, ← sizeL]; exact hON.out _ ho.out), by rw [List.length_append, List.map_append]; exact H9.out, B10.out⟩
            case measure => simp [RowKit.intOf]; omega
        · obtain rfl : ak = false := by cases ak; rfl; exact absurd (.inl rfl) hch
          obtain rfl : hi' = false := by cases hi'; rfl; exact absurd (.inr rfl) hch
          obtain ⟨R, hR⟩ : ∃ R : ByteArray, (⟨(Repl.replL escPs N.data.toList).toArray⟩ : ByteArray) = R := ⟨_, rfl⟩
          have hRd : R.data.toList = escL N.data.toList := by rw [← hR]; exact repl_esc _
          have hRz : R.size ≤ 600 := by
            have := escL_len N.data.toList
            rw [← hRd] at this
            have h2 : R.data.toList.length = R.size := by simp
            have h3 := HNL.out
            omega
          have RP := Lib.hid (fun M b W (hN : Repl.New M W b escPs) hM => Repl.Replace_any M b escPs N W (by decide) (by decide) (by decide) (by decide) (by decide) (by omega) hN hM)
          rw [hR] at RP
          have NR : Hid (∀ (W : World), Calls Tryz.prog 31 #[.slice (some ⟨W.heap.size, 0, none⟩) 4 4] (W.alloc (.cells #[.string ⟨#[34]⟩, .string ⟨#[92, 34]⟩, .string ⟨#[92]⟩, .string ⟨#[92, 92]⟩] 9)) fun e w' => ∃ b, e = .returned (.pointer (some ⟨b, 0, none⟩)) ∧ Repl.New W.heap.size w' b escPs ∧ Below W.heap.size W w') := Lib.hid (fun W => by
            refine (Repl.NewReplacer_any W.heap.size 4 escPs _ (by decide) (by decide) (Repl.cells_lit W _ _ _ rfl)).mono ?_
            rintro e w' ⟨b, rfl, ⟨v, h1, h2, h3⟩, hb⟩
            have hs : ∀ o, (W.alloc o).heap.size = W.heap.size + 1 := fun o => by simp
            have h1' := h1
            rw [hs] at h1'
            exact ⟨b, rfl, ⟨v, by omega, h2, own_lower8 h3 (by rw [hs]; omega)⟩, ((Below.refl _ _).alloc (Nat.le_refl _) _).trans (hb.mono (by rw [hs]; omega))⟩)
          have NRD : Hid (∀ (W : World), Calls Tryz.prog 31 #[.slice (some ⟨W.heap.size, 0, none⟩) 4 4] (W.alloc (.cells #[.string ⟨#[34]⟩, .string ⟨#[92, 34]⟩, .string ⟨#[92]⟩, .string ⟨#[92, 92]⟩] 9)).drew fun e w' => ∃ b, e = .returned (.pointer (some ⟨b, 0, none⟩)) ∧ Repl.New W.heap.size w' b escPs ∧ Below W.heap.size W w') := Lib.hid (fun W => (NR.out W.drew).mono (by
            rintro e w' ⟨b, rfl, h1, h2⟩
            exact ⟨b, rfl, h1, (Below.refl _ W).drew.trans h2⟩))
          have ho : Hid (oneW N.data.toList M.data.toList = some ((⟨#[34]⟩ : ByteArray) ++ R ++ (⟨#[34]⟩ : ByteArray) ++ (⟨#[32, 60]⟩ : ByteArray) ++ M ++ (⟨#[62]⟩ : ByteArray)).data.toList) := Lib.hid (by
            rw [hq1.out, if_neg (by rw [← HNE.out]; exact hNn), if_neg hch, ← hRd]; simp)
          clear hch hRd hR
          go_upto_region 7 with (first
            | (go_at_call 13; refine (GD.out _).mono ?_; rintro e w1 ⟨rfl, b1⟩; have h1 := (b1.block wr.heap.size (by simp)).trans (heap_alloc_new wr _); have k10 := Joins.cell_of_block h1 0; have k11 := Joins.cell_of_block h1 1; have u10 := Joins.unfrozen_of_block h1 0; simp at k10 k11; have D1 := Lib.hid h1; have B1 := Lib.hid (((Below.refl _ wr).alloc (Nat.le_refl _) _).trans (b1.mono (by simp))); clear b1 h1)
            | (go_at_call 26; with_reducible refine (CF.out _).mono ?_; rintro e w2 ⟨rfl, b2⟩; have h2 := (b2.block wr.heap.size (Array.getElem?_eq_some_iff.1 D1.out).1).trans D1.out; have k20 := Joins.cell_of_block h2 0; have k21 := Joins.cell_of_block h2 1; have u20 := Joins.unfrozen_of_block h2 0; simp at k20 k21; have D2 := Lib.hid h2; have B2 := Lib.hid (B1.out.trans (b2.mono B1.out.size)); clear b2 h2)
            | (go_at_call 24; refine (CO.out _ (GL.out.below (HB.out.trans (B2.out.mono HB.out.size)))).mono ?_; rintro e w3 ⟨rfl, rfl⟩)
            | (go_at_call 26; with_reducible refine (HF.out _).mono ?_; rintro e w4 ⟨rfl, b4⟩; have h4 := (b4.block wr.heap.size (Array.getElem?_eq_some_iff.1 D2.out).1).trans D2.out; have k40 := Joins.cell_of_block h4 0; have k41 := Joins.cell_of_block h4 1; have u40 := Joins.unfrozen_of_block h4 0; simp at k40 k41; have D4 := Lib.hid h4; have B4 := Lib.hid (B2.out.trans (b4.mono B2.out.size)); clear b4 h4))
          go_wp2_with fail
          have hz4 := B4.out.size
          have hlt4 : wr.heap.size < w4.heap.size := (Array.getElem?_eq_some_iff.1 D4.out).1
          have hR0 : 1 + R.size ≤ 9223372036854775807 := by omega
          have hR1 : 1 + R.size ≤ 9223372036854775806 := by omega
          have hR2 : ¬ 9223372036854775807 < 1 + R.size := by omega
          have hR3 : ¬ 9223372036854775807 < 1 + R.size + 1 := by omega
          go_region_law (first
            | (go_simp; go_at_call 31; refine (NRD.out w4).mono ?_; rintro e w5 ⟨rb, rfl, hnew, b5⟩; have HNEW := Lib.hid hnew; have h5 := (b5.block wr.heap.size (Array.getElem?_eq_some_iff.1 D4.out).1).trans D4.out; have k50 := Joins.cell_of_block h5 0; have k51 := Joins.cell_of_block h5 1; have u50 := Joins.unfrozen_of_block h5 0; simp at k50 k51; have D5 := Lib.hid h5; have B5 := Lib.hid (B4.out.trans (b5.mono B4.out.size)); have hz5 := b5.size; clear hnew b5 h5)
            | (go_simp; go_at_call 32; refine (RP.out _ _ _ HNEW.out hz5).mono ?_; rintro e w6 ⟨rfl, b6⟩; have h6 := (b6.block wr.heap.size (by have := (Array.getElem?_eq_some_iff.1 D4.out).1; exact this)).trans D5.out; have k60 := Joins.cell_of_block h6 0; have k61 := Joins.cell_of_block h6 1; have u60 := Joins.unfrozen_of_block h6 0; simp at k60 k61; have D6 := Lib.hid h6; have B6 := Lib.hid (B5.out.trans (b6.mono (by exact B4.out.size))); have hz6 := B6.out.size; clear b6 h6))
          all_goals (
            have hz6 := B6.out.size
            have H6 := Lib.hid (row_set (k := wr.heap.size) (j := 0) (x := .string ((⟨#[34]⟩ : ByteArray) ++ R ++ (⟨#[34]⟩ : ByteArray))) (own_below HN.out B6.out) (fun g hg => by have := (HN.out.lt _ hg).2; omega))
            have B9 := Lib.hid ((HB.out.trans (B6.out.mono HB.out.size)).setCell (p := ⟨wr.heap.size, 0, none⟩) HB.out.size (.string ((⟨#[34]⟩ : ByteArray) ++ R ++ (⟨#[34]⟩ : ByteArray))))
            go_wp2_with (at_builtin; refine wpList_append_own _ rfl (.tmp 52) (.tmp 60) 34 rfl w.heap.size 9 i0 _ 1 16 Tryz.underlying34 HI0.out hz0 hz1 hz2 rfl (by decide) _ _ _ rfl (H6.out.alloc _) ⟨w6.heap.size, 0, none⟩ 1 1 [.string ((⟨#[34]⟩ : ByteArray) ++ R ++ (⟨#[34]⟩ : ByteArray) ++ (⟨#[32, 60]⟩ : ByteArray) ++ M ++ (⟨#[62]⟩ : ByteArray))] rfl rfl ?c1 ?c2 ?c3 ?c4 ?c5 ?_)
            case c1 =>
              intro j u hj
              match j, hj with
              | 0, hj =>
                obtain rfl : Value.string ((⟨#[34]⟩ : ByteArray) ++ R ++ (⟨#[34]⟩ : ByteArray) ++ (⟨#[32, 60]⟩ : ByteArray) ++ M ++ (⟨#[62]⟩ : ByteArray)) = u := Option.some.inj hj
                rw [show (⟨w6.heap.size, 0, none⟩ : Addr).add 0 = ⟨w6.heap.size, 0, none⟩ from by unfold Addr.add; simp]
                rw [World.cell?_alloc_at (hn := by simp)]; rfl
              | j + 1, hj => exact absurd hj (by simp)
            case c2 => intro u hu; simp at hu; rcases hu with rfl; rfl
            case c3 => simp only [maxLen]; omega
            case c4 => omega
            case c5 => have h1 := HB.out.size; simp; omega
            intro v' w9 hown9 hgr9 _
            have hb9 : Below w.heap.size w w9 := (B9.out.alloc (by have h1 := HB.out.size; simp; omega) _).grown hgr9 (by have h1 := HB.out.size; simp; omega) (own_base HN.out)
            have H9 := Lib.hid hown9; have B10 := Lib.hid hb9
            clear hown9 hgr9 hb9
            go_wp2_with fail
            go_roundw
            case rel => exact ⟨i + 1, acc ++ [(⟨#[34]⟩ : ByteArray) ++ R ++ (⟨#[34]⟩ : ByteArray) ++ (⟨#[32, 60]⟩ : ByteArray) ++ M ++ (⟨#[62]⟩ : ByteArray)], _, rfl, by go_num, by omega, by rw [List.length_append, HAL.out]; rfl, HSTEP.out _ ho.out, fun e he => (List.mem_append.1 he).elim (HES.out e) (fun h => by rw [List.mem_singleton.1 h, ← sizeL]; exact hON.out _ ho.out), by rw [List.length_append, List.map_append]; exact H9.out, B10.out⟩
            case measure => simp [RowKit.intOf]; omega
            )
    · have hlti : ¬ (i : Int) < (l.length : Int) := by omega
      have he := HE.out
      rw [List.drop_eq_nil_of_le (by rw [List.length_map]; omega)] at he
      simp only [writesL, Option.map_some, List.append_nil] at he
      have HW : Hid (writeL (l.map boxOf) = (joinW (acc.map (·.data.toList)), 0)) := Lib.hid (by unfold writeL; rw [← he])
      clear he
      have hjl := join_len (acc.map (·.data.toList)) (fun e he => by
        obtain ⟨x, hx, rfl⟩ := List.mem_map.1 he
        rw [sizeL]; exact HES.out x hx)
      rw [List.length_map] at hjl
      have hsz := HB.out.size
      rcases HN.out.2 with ⟨hx, h0⟩ | ⟨g, cap, cur, hx, hg, hh, hcp, hrest⟩
      · subst hx
        have hac : acc = [] := List.eq_nil_of_length_eq_zero h0
        have HAC := Lib.hid hac
        clear hac h0 hjl
        go_wp2_with (go_at_call 33; refine (Tryz.strings_Join_none none 0 (⟨#[44, 32]⟩ : ByteArray) _).mono ?_; rintro e w9 ⟨rfl, rfl⟩)
        go_ret2
        rw [HW.out, HAC.out]
        exact ⟨rfl, HB.out⟩
      · have JO : ∀ (W : World), W.ownsRow w.heap.size 9 1 (.slice (some ⟨g, 0, none⟩) acc.length cap) acc.length (acc.map Value.string) → acc.length ≤ cap → Calls Tryz.prog 33 #[.slice (some ⟨g, 0, none⟩) acc.length cap, .string (⟨#[44, 32]⟩ : ByteArray)] W fun e w' => e = .returned (.string ⟨(joinW (acc.map (·.data.toList))).toArray⟩) ∧ Below W.heap.size W w' := by
          intro W hown hcap
          exact Tryz.strings_Join g 0 cap acc (⟨#[44, 32]⟩ : ByteArray) W (fun j y hj => by
            have := hown.cells (g := g) rfl j (.string y) (by rw [List.getElem?_map, hj]; rfl)
            have e : (⟨g, 0, none⟩ : Addr).add j = ⟨g, 0 + j, none⟩ := by unfold Addr.add; split <;> simp_all
            rw [e] at this
            exact this) (hown.lt g rfl).2 (by omega) hcap (by
              show (joinW (acc.map (·.data.toList))).length ≤ _
              omega)
        have HJO := Lib.hid JO
        have HN2 := Lib.hid HN.out
        subst hx
        have HCP := Lib.hid hcp
        clear hg hh hcp hrest JO hjl
        go_wp2_with (go_at_call 33; refine (HJO.out _ HN2.out (by have := HCP.out; omega)).mono ?_; rintro e w9 ⟨rfl, b9⟩; have B9 := Lib.hid b9; clear b9)
        go_ret2
        rw [HW.out]
        exact ⟨rfl, HB.out.trans (B9.out.mono HB.out.size)⟩
end Go.Proofs.YtpcncpegbboljaaGreatDoor.Addr
namespace Go.Proofs.YtpcncpegbboljaaGreatDoor
open Go.RowKit Go.Lib Go.Proofs.YtpcncpegbboljaaGreatDoor.Pure Go.Proofs.YtpcncpegbboljaaGreatDoorW.PrintWords
set_option linter.unusedVariables false
def addr_Parse.f (s : ByteArray) : Option (List P.S32) := if s.size ≤ 1100000 then some ((Addr.parseP s.data.toList).map Addr.toBox) else none
theorem addr_Parse.calls (s : ByteArray) (r : List P.S32) (w : World) (hGl : Glob w) (h : addr_Parse.f s = some r) :
    Calls Tryz.prog 11 #[.string s] w fun e w' => ∃ v0_ : Value, e = .returned (v0_) ∧ Kd.R P.k32 32 w' w.heap.size (fun _ => True) v0_ r ∧ Below w.heap.size w w' := by
  obtain ⟨h1, rfl⟩ := of_guard h
  exact Addr.Parse_k s h1 w hGl
def smallB (l : List P.S32) : Prop := l.length ≤ 40 ∧ ∀ x ∈ l, x.f0.size ≤ 300 ∧ x.f1.size ≤ 300
instance (l : List P.S32) : Decidable (smallB l) := by unfold smallB; infer_instance
def addr_Write.f (l : List P.S32) : Option (ByteArray × Int) := if smallB l then some (⟨(Addr.writeL (l.map Addr.boxOf)).1.toArray⟩, (Addr.writeL (l.map Addr.boxOf)).2) else none
theorem addr_Write.calls (A0 : Option Addr) (c0 : Nat) (l0 : List P.S32) (r1 : ByteArray) (r2 : Int) (w : World) (hr0 : Kd.C P.k32 w A0 l0.length l0) (hc0 : l0.length ≤ c0) (hGl : Glob w) (h : addr_Write.f l0 = some (r1, r2)) :
    Calls Tryz.prog 16 #[.slice A0 l0.length c0] w fun e w' => e = .returned (.tuple #[.string r1, .int .i64 r2]) ∧ Below w.heap.size w w' := by
  obtain ⟨h1, h2⟩ := of_guard h
  injection h2 with h2 h3
  subst h2 h3
  exact Addr.Write_c A0 c0 l0 h1.1 h1.2 w hGl hr0 hc0
def addr_Good.f (s : ByteArray) : Option Bool := if s.size ≤ 11000000 then some (Addr.goodL s.data.toList) else none
theorem addr_Good.calls (s : ByteArray) (r : Bool) (w : World) (h : addr_Good.f s = some r) :
    Calls Tryz.prog 13 #[.string s] w fun e w' => e = .returned (.bool r) ∧ Below w.heap.size w w' := Addr.addr_Good.calls s r w h
end Go.Proofs.YtpcncpegbboljaaGreatDoor
namespace Go.Proofs.YtpcncpegbboljaaGreatDoor.G
open Go.RowKit Go.Proofs.YtpcncpegbboljaaGreatDoorW.PrintWords Go.Proofs.YtpcncpegbboljaaGreatDoorW.PrintLast Go.Proofs.YtpcncpegbboljaaGreatDoorW.PrintMore
attribute [local go_sem] max2_int min2_int max_two min_two max_three min_three max_four min_four
set_option linter.unusedVariables false
set_option linter.unusedSimpArgs false
def errW : Option Int → Value
  | none => .nilIface
  | some c => .iface 0 (.int .i64 c)
theorem errW_none : errW none = .nilIface := rfl
theorem errW_some (c : Int) : errW (some c) = .iface 0 (.int .i64 c) := rfl
end Go.Proofs.YtpcncpegbboljaaGreatDoor.G
