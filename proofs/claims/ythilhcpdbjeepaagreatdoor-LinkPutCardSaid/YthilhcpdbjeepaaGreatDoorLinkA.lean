/- link.Clean, walked. -/
import Derived.Test.YthilhcpdbjeepaaGreatDoorReplD
import Derived.Test.YthilhcpdbjeepaaGreatDoorStd
namespace Go.Proofs.YthilhcpdbjeepaaGreatDoor
open Go.RowKit Go.Shelf Go.Lib Go.Proofs.YthilhcpdbjeepaaGreatDoor.Repl
set_option linter.unusedVariables false
set_option linter.unusedSimpArgs false
def blanksL : List UInt8 := [0, 1, 2, 3, 4, 5, 6, 7, 8, 9, 10, 11, 12, 13, 14, 15, 16, 17, 18, 19, 20, 21, 22, 23, 24, 25, 26, 27, 28, 29, 30, 31, 32]
def cleanPs : Pairs := [(9, ⟨#[]⟩), (10, ⟨#[]⟩), (13, ⟨#[]⟩)]
def cleanL (l : List UInt8) : List UInt8 := replL cleanPs (Lib.trimS l blanksL)
def link_Clean.f (s : ByteArray) : Option ByteArray := if s.size ≤ 100000000 then some ⟨(cleanL s.data.toList).toArray⟩ else none
theorem trimS_le (l c : List UInt8) : (Lib.trimS l c).length ≤ l.length := by
  unfold Lib.trimS Lib.trimLeftS Lib.trimRightS
  have h1 := (List.dropWhile_sublist (p := (c.contains ·)) (l := (l.reverse.dropWhile (c.contains ·)).reverse)).length_le
  have h2 := (List.dropWhile_sublist (p := (c.contains ·)) (l := l.reverse)).length_le
  simp only [List.length_reverse] at h1 h2
  omega
theorem own_lower {w : World} {M M' e n : Nat} {v : Value} {xs : List Value} (h : w.ownsRow M' e 1 v n xs) (hM : M ≤ M') : w.ownsRow M e 1 v n xs := by
  refine ⟨h.1, ?_⟩
  rcases h.2 with h | ⟨g, cap, cur, h1, h2, h3⟩
  · exact .inl h
  · exact .inr ⟨g, cap, cur, h1, Nat.le_trans hM h2, h3⟩
set_option maxRecDepth 100000 in
set_option maxHeartbeats 4000000 in
theorem link_Clean.calls (s r : ByteArray) (w : World) (h : link_Clean.f s = some r) :
    Calls Tryz.prog 12 #[.string s] w fun e w' => e = .returned (.string r) ∧ Below w.heap.size w w' := by
  obtain ⟨hs, rfl⟩ := of_guard h
  clear h
  have hsl : s.data.toList.length = s.size := by simp
  have TR := Lib.hid (fun W => strings_Trim.calls s ⟨blanksL.toArray⟩ ⟨(Lib.trimS s.data.toList blanksL).toArray⟩ W (guard_of ⟨by omega, by decide, by decide⟩))
  have htl := trimS_le s.data.toList blanksL
  have htz : (⟨(Lib.trimS s.data.toList blanksL).toArray⟩ : ByteArray).size = (Lib.trimS s.data.toList blanksL).length := by simp [ByteArray.size]
  have RP := Lib.hid (fun M b W (hN : New M W b cleanPs) hM => Repl.Replace_any M b cleanPs ⟨(Lib.trimS s.data.toList blanksL).toArray⟩ W (by decide) (by decide) (by decide) (by decide) (by decide) (by omega) hN hM)
  have NR : Hid (∀ (W : World), Calls Tryz.prog 22 #[.slice (some ⟨W.heap.size, 0, none⟩) 6 6] (W.alloc (.cells #[.string ⟨#[9]⟩, .string ⟨#[]⟩, .string ⟨#[10]⟩, .string ⟨#[]⟩, .string ⟨#[13]⟩, .string ⟨#[]⟩] 9)) fun e w' => ∃ b, e = .returned (.pointer (some ⟨b, 0, none⟩)) ∧ New W.heap.size w' b cleanPs ∧ Below W.heap.size W w') := Lib.hid (fun W => by
    refine (NewReplacer_any W.heap.size 6 cleanPs _ (by decide) (by decide) (cells_lit W _ _ _ rfl)).mono ?_
    rintro e w' ⟨b, rfl, ⟨v, h1, h2, h3⟩, hb⟩
    have hs : ∀ o, (W.alloc o).heap.size = W.heap.size + 1 := fun o => by simp
    have h1' := h1
    rw [hs] at h1'
    exact ⟨b, rfl, ⟨v, by omega, h2, own_lower h3 (by rw [hs]; omega)⟩, ((Below.refl _ _).alloc (Nat.le_refl _) _).trans (hb.mono (by rw [hs]; omega))⟩)
  clear hsl htl htz
  go_enter Tryz.func12, Tryz.ntmps12
  go_wp2_with (first
    | (go_at_call 22; refine (NR.out _).mono ?_; rintro e w1 ⟨b, rfl, hnew, hb1⟩; have HN := Lib.hid hnew; have HB1 := Lib.hid hb1; clear hnew hb1)
    | (go_at_call 24; refine (TR.out _).mono ?_; rintro e w2 ⟨rfl, hb2⟩; have HN2 := Lib.hid (HN.out.below hb2); have HB2 := Lib.hid (HB1.out.trans (hb2.mono HB1.out.size)); clear hb2)
    | (go_at_call 23; refine (RP.out _ _ _ HN2.out HB2.out.size).mono ?_; rintro e w3 ⟨rfl, hb3⟩))
  go_ret
  exact ⟨rfl, HB2.out.trans hb3⟩
end Go.Proofs.YthilhcpdbjeepaaGreatDoor
