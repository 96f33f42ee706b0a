/- Functions of Go's package strings as plain Lean functions, and that the calls come to them. -/
import Derived.Test.YthilhcpdbjeepaaGreatDoorProg
import Derived.Test.YthilhcpdbjeepaaGreatDoorLow
import Derived.Test.YthilhcpdbjeepaaGreatDoorShelf
import Derived.Shelf.Strings.SlTrimAscii
import Derived.Lib.IndexLaws
import Derived.Deep.QuietTactic
import Derived.BigQuiet
import Derived.IntWalk
namespace Go.Proofs.YthilhcpdbjeepaaGreatDoor
open Go.RowKit Go.Shelf Go.Lib
set_option linter.unusedVariables false
set_option linter.unusedSimpArgs false
def asciiB (c : ByteArray) : Bool := c.data.toList.all fun b => b.toNat < 128
def strings_Trim.f (s c : ByteArray) : Option ByteArray :=
  if s.size ≤ 9223372036854775807 ∧ c.size < 4294967281 ∧ asciiB c = true then some ⟨(Lib.trimS s.data.toList c.data.toList).toArray⟩ else none
theorem strings_Trim.calls (s c r : ByteArray) (w : World) (h : strings_Trim.f s c = some r) :
    Calls Tryz.prog 24 #[.string s, .string c] w fun e w' => e = .returned (.string r) ∧ Below w.heap.size w w' := by
  obtain ⟨⟨h1, h2, h3⟩, rfl⟩ := of_guard h
  refine Any.strings_Trim_laid Tryz.lays160 (by kernel_rfl) s c w h1 h2 (fun j b hb => ?_)
  have := List.all_eq_true.1 h3 b (List.mem_of_getElem? hb)
  simpa using this
def strings_CutPrefix.f (s p : ByteArray) : Option (ByteArray × Bool) := some (⟨(Lib.trimPrefix s.data.toList p.data.toList).toArray⟩, Lib.hasPrefix s.data.toList p.data.toList)
theorem strings_CutPrefix.calls (s p r1 : ByteArray) (r2 : Bool) (w : World) (h : strings_CutPrefix.f s p = some (r1, r2)) :
    Calls Tryz.prog 37 #[.string s, .string p] w fun e w' => e = .returned (.tuple #[.string r1, .bool r2]) ∧ Below w.heap.size w w' := by
  injection h with h
  injection h with h1 h2
  subst h1 h2
  exact (Tryz.strings_CutPrefix s p w).mono (by rintro e w' ⟨rfl, rfl⟩; exact ⟨rfl, Below.refl _ _⟩)
def strings_HasPrefix.f (s p : ByteArray) : Option Bool := some (Lib.hasPrefix s.data.toList p.data.toList)
theorem strings_HasPrefix.calls (s p : ByteArray) (r : Bool) (w : World) (h : strings_HasPrefix.f s p = some r) :
    Calls Tryz.prog 77 #[.string s, .string p] w fun e w' => e = .returned (.bool r) ∧ Below w.heap.size w w' := by
  injection h with h
  subst h
  exact (Tryz.strings_HasPrefix s p w).mono (by rintro e w' ⟨rfl, rfl⟩; exact ⟨rfl, Below.refl _ _⟩)
def strings_IndexByte.f (s : ByteArray) (c : Int) : Option Int := some (Lib.indexByte s.data.toList c.toNat.toUInt8)
theorem strings_IndexByte.calls (s : ByteArray) (c r : Int) (w : World) (h : strings_IndexByte.f s c = some r) :
    Calls Tryz.prog 18 #[.string s, .int .u8 c] w fun e w' => e = .returned (.int .i64 r) ∧ Below w.heap.size w w' := by
  injection h with h
  subst h
  exact (Tryz.strings_IndexByte s c w).mono (by rintro e w' ⟨rfl, rfl⟩; exact ⟨rfl, Below.refl _ _⟩)
/-- A text, cut at the first of a byte. -/
def cutL (c : UInt8) (l : List UInt8) : List UInt8 × List UInt8 × Bool := if c ∈ l then (l.takeWhile (· != c), (l.dropWhile (· != c)).drop 1, true) else (l, [], false)
theorem index_split (c : UInt8) : ∀ l : List UInt8, (c ∈ l → ∃ i : Nat, Lib.indexByte l c = (i : Int) ∧ i < l.length ∧ l.take i = l.takeWhile (· != c) ∧ l.drop (i + 1) = (l.dropWhile (· != c)).drop 1) ∧ (c ∉ l → Lib.indexByte l c = -1)
  | [] => ⟨fun h => by simp at h, fun _ => rfl⟩
  | b :: l => by
    obtain ⟨h1, h2⟩ := index_split c l
    by_cases hb : b = c
    · subst hb
      refine ⟨fun _ => ⟨0, by simp [Lib.indexByte], by simp, by simp, by simp⟩, fun h => absurd (by simp) h⟩
    · have hb1 : (b == c) = false := by simpa using hb
      have hb2 : (b != c) = true := by simpa using hb
      constructor
      · intro h
        have hm : c ∈ l := by
          rcases List.mem_cons.1 h with h | h
          · exact absurd h.symm hb
          · exact h
        obtain ⟨i, e1, e2, e3, e4⟩ := h1 hm
        refine ⟨i + 1, ?_, by simp only [List.length_cons]; omega, ?_, ?_⟩
        · have : ¬ ((i : Int) == -1) = true := by simp <;> omega
          simp only [Lib.indexByte, hb1, e1, Bool.false_eq_true, if_false, this]
          omega
        · rw [List.take_succ_cons, List.takeWhile_cons, if_pos (by exact hb2), e3]
        · rw [List.drop_succ_cons, List.dropWhile_cons, if_pos (by exact hb2), e4]
      · intro h
        have hm : c ∉ l := fun h' => h (by simp [h'])
        simp [Lib.indexByte, hb1, h2 hm]
theorem extract_l (s : ByteArray) (i j : Nat) : s.extract i j = ⟨((s.data.toList.take j).drop i).toArray⟩ := by
  apply ByteArray.ext
  apply Array.ext'
  simp [List.drop_take]
theorem one_byte {p : ByteArray} (h : p.size = 1) : ∃ c, p = ⟨#[c]⟩ := by
  obtain ⟨⟨l⟩⟩ := p
  match l, h with
  | [c], _ => exact ⟨c, rfl⟩
def strings_Cut.f (s p : ByteArray) : Option (ByteArray × ByteArray × Bool) :=
  if p.size = 1 ∧ s.size ≤ 9223372036854775000 then some (⟨(cutL (p.data.toList.getD 0 0) s.data.toList).1.toArray⟩, ⟨(cutL (p.data.toList.getD 0 0) s.data.toList).2.1.toArray⟩, (cutL (p.data.toList.getD 0 0) s.data.toList).2.2) else none
set_option maxHeartbeats 1000000 in
theorem slite_cut (s : ByteArray) (c : UInt8) (hs : s.size ≤ 9223372036854775000) (w : World) :
    Calls Tryz.prog 26 #[.string s, .string ⟨#[c]⟩] w fun e w' => e = .returned (.tuple #[.string ⟨(cutL c s.data.toList).1.toArray⟩, .string ⟨(cutL c s.data.toList).2.1.toArray⟩, .bool (cutL c s.data.toList).2.2]) ∧ ∃ n, w' = w.drewN n := by
  have hsl : s.data.toList.length = s.size := by simp
  have IX := Lib.hid (Tryz.stringslite_Index_one s c)
  have hz1 : (⟨#[c]⟩ : ByteArray).size = 1 := rfl
  by_cases hm : c ∈ s.data.toList
  · obtain ⟨i, e1, e2, e3, e4⟩ := (index_split c s.data.toList).1 hm
    have i1 : (i : Int) ≤ (s.size : Int) := by omega
    have i2 : i ≤ s.size := by omega
    have i3 : i + 1 ≤ s.size := by omega
    have i4 : (i : Int) + 1 ≤ (s.size : Int) := by omega
    have w1 : IntKind.i64.wrap ((i : Int) + 1) = (i : Int) + 1 := IntWalk.i64_in _ (by omega)
    have x1 : s.extract 0 i = ⟨(cutL c s.data.toList).1.toArray⟩ := by
      unfold cutL; rw [if_pos hm, extract_l, List.drop_zero, e3]
    have x2 : s.extract (i + 1) s.size = ⟨(cutL c s.data.toList).2.1.toArray⟩ := by
      unfold cutL; rw [if_pos hm, extract_l, List.take_of_length_le (by omega), e4]
    have x3 : (cutL c s.data.toList).2.2 = true := by unfold cutL; rw [if_pos hm]
    rw [e1] at IX
    have t1 : ((i : Int) + 1).toNat = i + 1 := by omega
    generalize hos : (⟨#[c]⟩ : ByteArray) = os at *
    generalize cutL c s.data.toList = ct at *
    have X1 := Lib.hid x1; have X2 := Lib.hid x2; have X3 := Lib.hid x3
    clear hsl e1 e2 e3 e4 x1 x2 x3 hm hos
    go_enter Tryz.func26, Tryz.ntmps26
    go_wp2_with (go_at_call 38; refine (IX.out _).mono ?_; rintro e w' ⟨rfl, rfl⟩)
    go_quiet (fail)
    rename_i nq
    go_wp2_with fail
    go_ret3
    exact ⟨by rw [X1.out, X2.out, X3.out]; rfl, nq, rfl⟩
  · have e1 := (index_split c s.data.toList).2 hm
    rw [e1] at IX
    have x1 : cutL c s.data.toList = (s.data.toList, [], false) := by unfold cutL; rw [if_neg hm]
    have X1 := Lib.hid x1
    generalize hos : (⟨#[c]⟩ : ByteArray) = os at *
    clear hsl e1 hm x1 hos
    go_enter Tryz.func26, Tryz.ntmps26
    go_wp2_with (go_at_call 38; refine (IX.out _).mono ?_; rintro e w' ⟨rfl, rfl⟩)
    go_ret3
    exact ⟨by rw [X1.out]; exact congrArg Ending.returned (congrArg Value.tuple (by congr 1)), 0, rfl⟩
theorem strings_Cut.calls (s p r1 r2 : ByteArray) (r3 : Bool) (w : World) (h : strings_Cut.f s p = some (r1, r2, r3)) :
    Calls Tryz.prog 16 #[.string s, .string p] w fun e w' => e = .returned (.tuple #[.string r1, .string r2, .bool r3]) ∧ Below w.heap.size w w' := by
  obtain ⟨⟨h1, h2⟩, h⟩ := of_guard h
  obtain ⟨c, rfl⟩ := one_byte h1
  injection h with e1 h
  injection h with e2 e3
  subst e1 e2 e3
  have SC := Lib.hid (slite_cut s c h2 w)
  have hg : (⟨#[c]⟩ : ByteArray).data.toList.getD 0 0 = c := rfl
  rw [hg]
  clear h1 h2 hg
  go_enter Tryz.func16, Tryz.ntmps16
  go_wp2_with (go_at_call 26; refine SC.out.mono ?_; rintro e w' ⟨rfl, n, rfl⟩)
  go_ret3
  exact ⟨rfl, ⟨rfl, rfl, rfl, Nat.le_refl _, fun _ _ => rfl⟩⟩
end Go.Proofs.YthilhcpdbjeepaaGreatDoor
