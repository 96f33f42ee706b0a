/- Quoted-printable: what qp.hex, strings.TrimLeft at a cutset of ASCII and the small cuts of package strings come to, on bytes. -/
import Derived.Test.YtjmeoplajfmieaaDoorProg
import Derived.Test.YtjmeoplajfmieaaDoorBld
import Derived.Test.YtjmeoplajfmieaaDoorShelf
import Derived.Shelf.Strings.SlTrimAscii
import Derived.Lib.OthersKept
import Derived.Lib.Hide
import Derived.WalkSmall
import Derived.WalkSpells
import Derived.LoopTactic
import Derived.Laws.BitsAllLaws
import Derived.Deep.QuietTactic
import Derived.BigQuiet
import Derived.BigCall
import Derived.WalkMore
namespace Go.Proofs.YtjmeoplajfmieaaDoor
open Go.RowKit Go.Shelf Go.Lib
set_option linter.unusedVariables false
set_option linter.unusedSimpArgs false

/-- What a guarded answer tells. -/
theorem of_guard {α : Type} {c : Prop} [Decidable c] {x r : α} (h : (if c then some x else none) = some r) : c ∧ x = r := by
  split at h
  · rename_i hc; exact ⟨hc, Option.some.inj h⟩
  · cases h
theorem guard_of {α : Type} {c : Prop} [Decidable c] {x : α} (h : c) : (if c then some x else none) = some x := if_pos h
def asciiB (c : ByteArray) : Bool := c.data.toList.all fun b => b.toNat < 128

/-- The package tables. -/
structure Glob (w : World) : Prop where
  tabs : Lib.Utf8Tabs 1 2 w
  cases : CaseVar 3 caseA w

set_option maxHeartbeats 2000000 in
set_option maxRecDepth 1000000 in
theorem indexRune_bad (s : ByteArray) (ha : ∀ b ∈ s.data.toList, b.toNat < 128) (w : World) :
    Calls Tryd.prog 35 #[.string s, .int .i32 65533] w fun e w' => e = .returned (.int .i64 (-1)) ∧ Below w.heap.size w w' := by
  have HA := Lib.hid ha
  clear ha
  go_enter Tryd.func35, Tryd.ntmps35
  go_wp2
  go_loopw [] (fun wr => ∃ pos : Nat, wr.heap[w.heap.size]? = some (.stringIter s pos) ∧ Below w.heap.size w wr) (fun wr => s.size - wr.iterPos w.heap.size)
  case atStart =>
    refine ⟨0, ?_, (Below.refl _ w).alloc (Nat.le_refl _) _⟩
    exact World.iter_heap w s 0
  case round =>
    obtain ⟨pos, hit, hbw⟩ := hrel
    by_cases hp : pos < s.size
    · have hnx : ∀ ty, (Instr.next (.pointer (some ⟨w.heap.size, 0, none⟩)) true ty).run Tryd.prog wr = _ := fun ty => Lib.run_next_any_at wr w.heap.size s pos ty hit hp
      have hb : (s[pos]'hp).toNat < 128 := HA.out _ (by show s.data[pos] ∈ s.data.toList; simp)
      rw [decode_ascii s pos hp hb] at hnx
      simp only at hnx
      generalize (s[pos]'hp).toNat = c at *
      have c1 : ¬ ((c : Nat) : Int) = 65533 := by omega
      have hit2 := Lib.iterAt_heap wr w.heap.size s pos (pos + 1) hit
      have hbw2 := Lib.below_iterAt hbw (k := w.heap.size) (by omega) s (pos + 1)
      go_wp2
      go_roundw
      case rel => exact ⟨pos + 1, hit2, hbw2⟩
      case measure =>
        simp only [World.iterPos, hit2, hit]
        omega
    · have hnx : ∀ ty, (Instr.next (.pointer (some ⟨w.heap.size, 0, none⟩)) true ty).run Tryd.prog wr = _ := fun ty => Lib.run_next_end_at wr w.heap.size s pos ty hit hp
      go_wp2
      go_ret
      exact ⟨rfl, hbw⟩

theorem index_none : ∀ (l : List UInt8) (c : UInt8), (∀ b ∈ l, b.toNat < 128) → 128 ≤ c.toNat → Lib.indexByte l c = -1
  | [], _, _, _ => rfl
  | b :: l, c, h, hc => by
    have hb := h b (by simp)
    have hne : (b == c) = false := by
      apply beq_eq_false_iff_ne.2
      rintro rfl
      omega
    have ih := index_none l c (fun x hx => h x (by simp [hx])) hc
    simp [Lib.indexByte, hne, ih]
theorem mem_extract {s : ByteArray} {a b : Nat} {x : UInt8} (h : x ∈ (s.extract a b).data.toList) : x ∈ s.data.toList := by
  rw [ByteArray.data_extract, Array.toList_extract] at h
  exact List.mem_of_mem_drop (List.mem_of_mem_take h)
theorem u8_back (c : UInt8) : ((c.toNat : Int).toNat).toUInt8 = c := by
  show UInt8.ofNat c.toNat = c
  simp
set_option maxHeartbeats 2000000 in
set_option maxRecDepth 1000000 in
theorem indexRune_high (s : ByteArray) (ha : ∀ b ∈ s.data.toList, b.toNat < 128) (hs : 4 ≤ s.size) (hs2 : s.size ≤ 1000) (r : Int) (h0 : 128 ≤ r) (h1 : r ≤ 2147483647) (hr : r ≠ 65533) (w : World) :
    Calls Tryd.prog 35 #[.string s, .int .i32 r] w fun e w' => e = .returned (.int .i64 (-1)) ∧ Below w.heap.size w w' := by
  have HA := Lib.hid ha
  clear ha
  by_cases hv : Lib.validRune r = true
  · have HV := Lib.hid hv
    clear hv
    have hu : Utf8.valid r = true := by
      have := HV.out
      simp [Lib.validRune, Utf8.valid] at this ⊢
      omega
    obtain ⟨g1, g2, g3⟩ := encode_facts r hu h0
    have hcv : ∀ W, (convert 21 9 (.int .i32 r)).run Tryd.prog W = .ok (.string (Utf8.encode r)) W := fun W => run_convert_int_string W _ _ _ _ (by rw [Tryd.underlying21]; rfl) Tryd.underlying9
    generalize Utf8.encode r = rs at *
    have i1 : rs.size - 1 < s.size := by omega
    have i2 : ((rs.size : Int) - 1) < (s.size : Int) := by omega
    have i3 : rs.size - 1 < rs.size := by omega
    have i4 : ((rs.size : Int) - 1) < (rs.size : Int) := by omega
    have j1 : (s[rs.size - 1]'i1).toNat < 128 := HA.out _ (by show s.data[rs.size - 1] ∈ s.data.toList; simp)
    have j2 : 128 ≤ (rs[rs.size - 1]'i3).toNat := g3 i3
    generalize hm : rs.size - 1 = m at *
    have hrs : rs.size = m + 1 := by omega
    have i7 : (rs.size : Int) - 1 = (m : Int) := by omega
    have HRS := Lib.hid hrs; have I4 := Lib.hid i4
    clear hrs i4 i2
    go_enter Tryd.func35, Tryd.ntmps35
    go_wp2_with (go_at_call 48; refine (Tryd.utf8_ValidRune r _).mono ?_; rintro e W1 ⟨rfl, rfl⟩; rw [HV.out])
    go_step3
    go_wp2_with fail
    go_loopw [9] (fun i wr => i = .int .i64 (m : Int) ∧ wr = W1) (fun _ _ => 0)
    case atStart => exact ⟨rfl, rfl⟩
    case round =>
      obtain ⟨rfl, rfl⟩ := hrel
      have i5 : (m : Int) < (s.size : Int) := by omega
      have i6 : (m : Int) < (rs.size : Int) := by omega
      go_wp2_with fail
      go_step3
      go_wp2_with fail
      go_quiet (fail)
      go_wp2_with fail
      have k1 : ∀ a b W, Calls Tryd.prog 47 #[.string (s.extract a b), .int .u8 (rs[m].toNat : Int)] W fun e w' => e = .returned (.int .i64 (-1)) ∧ w' = W := fun a b W =>
        (Tryd.strings_IndexByte _ _ W).mono (by rintro e W2 ⟨rfl, rfl⟩; rw [u8_back, index_none _ _ (fun x hx => HA.out x (mem_extract hx)) j2]; exact ⟨rfl, rfl⟩)
      have K1 := Lib.hid k1
      clear k1
      have i8 : m + 1 ≤ s.size := by omega
      have i9 : (m : Int) + 1 ≤ (s.size : Int) := by omega
      have i10 : IntKind.i64.wrap ((m : Int) + 1) = (m : Int) + 1 := wrap_small _ (by omega) (by omega)
      have i11 : (0 : Int) ≤ (m : Int) + 1 := by omega
      have hsl : ∀ W, (Instr.slice 9 (.string s) (some (.int .i64 ((m : Int) + 1))) none none).run Tryd.prog W = .ok (.string (s.extract (m + 1) s.size)) W := fun W => by
        rw [run_slice_string_l W 9 s Tryd.underlying9 .i64 _ i11 i9]
        rfl
      go_quiet ((go_at_call 47; refine (K1.out _ _ _).mono ?_; rintro e W ⟨rfl, rfl⟩; exact ⟨rfl, _, rfl⟩))
      go_wp2_with fail
      rw [Exit.noGoto_ret]
      repeat (change Exit.noGoto _ Exit.ret _ _; rw [Exit.noGoto_ret])
      change bodyPost Tryd.prog Tryd.f35 _ Exit.ret _ _
      go_ret
      exact ⟨rfl, below_drewN (Below.refl _ _) _⟩
  · have HV := Lib.hid (Bool.eq_false_iff.2 hv)
    clear hv
    go_enter Tryd.func35, Tryd.ntmps35
    go_wp2_with (go_at_call 48; refine (Tryd.utf8_ValidRune r _).mono ?_; rintro e W1 ⟨rfl, rfl⟩; rw [HV.out])
    go_ret
    exact ⟨rfl, Below.refl _ _⟩


def dig : ByteArray := ⟨#[48, 49, 50, 51, 52, 53, 54, 55, 56, 57, 65, 66, 67, 68, 69, 70]⟩
/-- The place of a sign among the digits. -/
def idxR (r : Nat) : Int := if r < 128 then Lib.indexByte dig.data.toList r.toUInt8 else -1
theorem indexRune_dig (r : Nat) (hr : r ≤ 2147483647) (w : World) :
    Calls Tryd.prog 35 #[.string ⟨#[48, 49, 50, 51, 52, 53, 54, 55, 56, 57, 65, 66, 67, 68, 69, 70]⟩, .int .i32 (r : Int)] w fun e w' => e = .returned (.int .i64 (idxR r)) ∧ Below w.heap.size w w' := by
  have hasc : ∀ b ∈ (⟨#[48, 49, 50, 51, 52, 53, 54, 55, 56, 57, 65, 66, 67, 68, 69, 70]⟩ : ByteArray).data.toList, b.toNat < 128 := by decide
  by_cases h : r < 128
  · refine (Tryd.strings_IndexRune_ascii _ (r : Int) w (by omega) (by omega)).mono ?_
    rintro e w' ⟨rfl, rfl⟩
    unfold idxR
    rw [if_pos h]
    exact ⟨rfl, Below.refl _ _⟩
  · unfold idxR
    rw [if_neg h]
    by_cases h2 : r = 65533
    · subst h2
      exact indexRune_bad _ hasc w
    · exact indexRune_high _ hasc (by decide) (by decide) _ (by omega) (by omega) (by omega) w
def upperS (s : ByteArray) : ByteArray := ⟨(Lib.toUpperD s.data.toList).toArray⟩
def hexGo (t : ByteArray) : Nat → Nat → Int → Int × Bool
  | 0, _, n => (n, true)
  | f + 1, pos, n => if pos < t.size then (if idxR (Utf8.decode t pos).1 < 0 then (0, false) else hexGo t f (pos + (Utf8.decode t pos).2) (bits .or .i64 (wrap64 (n * 16)) (idxR (Utf8.decode t pos).1))) else (n, true)
theorem hexGo_end (t : ByteArray) (f pos : Nat) (n : Int) (h : ¬ pos < t.size) : hexGo t f pos n = (n, true) := by
  cases f with
  | zero => rfl
  | succ f => simp [hexGo, h]
theorem width_pos (s : ByteArray) (pos : Nat) (h : pos < s.size) : 1 ≤ (Utf8.decode s pos).2 := by
  by_cases ha : (s[pos]'h).toNat < 128
  · rw [decode_ascii s pos h ha]
    exact Nat.le_refl _
  · exact (decode_high s pos h (by omega)).2
def qp_hex.f (s : ByteArray) : Option (Int × Bool) := if s.size ≤ 1000 then some (hexGo (upperS s) (upperS s).size 0 0) else none
set_option maxHeartbeats 2000000 in
set_option maxRecDepth 1000000 in
theorem qp_hex.calls (s : ByteArray) (r1 : Int) (r2 : Bool) (w : World) (hGl : Glob w) (h : qp_hex.f s = some (r1, r2)) :
    Calls Tryd.prog 25 #[.string s] w fun e w' => e = .returned (.tuple #[.int .i64 r1, .bool r2]) ∧ Below w.heap.size w w' := by
  obtain ⟨hs, hr⟩ := of_guard h
  clear h
  have GL := Lib.hid hGl
  clear hGl
  have up : ∀ W : World, Glob W → Calls Tryd.prog 34 #[.string s] W fun e w' => e = .returned (.string (upperS s)) ∧ Below W.heap.size W w' := fun W g => Tryd.strings_ToUpper_any s W (by omega) g.cases g.tabs
  generalize upperS s = t at *
  have HR := Lib.hid hr; have UP := Lib.hid up
  clear hr up
  go_enter Tryd.func25, Tryd.ntmps25
  go_wp2_with (go_at_call 34; refine (UP.out _ GL.out).mono ?_; rintro e W1 ⟨rfl, b1⟩)
  go_loopw [4] (fun i wr => ∃ (pos fuel : Nat) (n : Int), i = .int .i64 n ∧ wr.heap[W1.heap.size]? = some (.stringIter t pos) ∧ Below w.heap.size w wr ∧ hexGo t fuel pos n = (r1, r2) ∧ t.size ≤ pos + fuel) (fun i wr => t.size - wr.iterPos W1.heap.size)
  case atStart =>
    exact ⟨0, t.size, 0, rfl, World.iter_heap W1 t 0, b1.alloc b1.size _, HR.out, by omega⟩
  case round =>
    obtain ⟨pos, fuel, n, rfl, hit, hbw, hgo, hfu⟩ := hrel
    have hB := b1.size
    have hszB : W1.heap.size < wr.heap.size := (Array.getElem?_eq_some_iff.1 hit).1
    by_cases hp : pos < t.size
    · have hnx : ∀ ty, (Instr.next (.pointer (some ⟨W1.heap.size, 0, none⟩)) true ty).run Tryd.prog wr = _ := fun ty => Lib.run_next_any_at wr W1.heap.size t pos ty hit hp
      have hwd := width_pos t pos hp
      have hd1 := decode_le t pos
      have IR := Lib.hid (indexRune_dig (Utf8.decode t pos).1 (by omega))
      have hit2 := Lib.iterAt_heap wr W1.heap.size t pos (pos + (Utf8.decode t pos).2) hit
      have hbw2 := Lib.below_iterAt hbw (k := W1.heap.size) (by omega) t (pos + (Utf8.decode t pos).2)
      have hszB2 : W1.heap.size < (wr.iterAt W1.heap.size t (pos + (Utf8.decode t pos).2)).heap.size := by rw [Lib.iterAt_size]; exact hszB
      obtain ⟨f, rfl⟩ : ∃ f, fuel = f + 1 := ⟨fuel - 1, by omega⟩
      simp only [hexGo, if_pos hp] at hgo
      by_cases hi : idxR (Utf8.decode t pos).1 < 0
      · rw [if_pos hi] at hgo
        injection hgo with hg1 hg2
        subst hg1 hg2
        have BW2 := Lib.hid hbw2
        go_wp2_with (go_at_call 35; refine (IR.out _).mono ?_; rintro e W2 ⟨rfl, b2⟩)
        go_ret2
        exact ⟨rfl, BW2.out.trans (b2.mono (by have := BW2.out.size; omega))⟩
      · rw [if_neg hi] at hgo
        have HG := Lib.hid hgo
        have BW2 := Lib.hid hbw2
        have hi2 : 0 ≤ idxR (Utf8.decode t pos).1 := by omega
        clear hgo hbw2
        go_wp2_with (go_at_call 35; refine (IR.out _).mono ?_; rintro e W2 ⟨rfl, b2⟩)
        go_roundw
        case rel => exact ⟨pos + (Utf8.decode t pos).2, f, _, rfl, by rw [b2.block _ hszB2]; exact hit2, BW2.out.trans (b2.mono (by have := BW2.out.size; omega)), HG.out, by omega⟩
        case measure =>
          have e1 : W2.heap[W1.heap.size]? = some (.stringIter t (pos + (Utf8.decode t pos).2)) := by rw [b2.block _ hszB2]; exact hit2
          simp only [World.iterPos, e1, hit]
          omega
    · have hnx : ∀ ty, (Instr.next (.pointer (some ⟨W1.heap.size, 0, none⟩)) true ty).run Tryd.prog wr = _ := fun ty => Lib.run_next_end_at wr W1.heap.size t pos ty hit hp
      rw [hexGo_end t fuel pos n hp] at hgo
      injection hgo with hg1 hg2
      subst hg1 hg2
      go_wp2
      go_ret2
      exact ⟨rfl, hbw⟩

def strings_TrimLeft.f (s c : ByteArray) : Option ByteArray :=
  if c.size < 4294967281 ∧ asciiB c = true then some ⟨(Lib.trimLeftS s.data.toList c.data.toList).toArray⟩ else none
theorem strings_TrimLeft.calls (s c r : ByteArray) (w : World) (h : strings_TrimLeft.f s c = some r) :
    Calls Tryd.prog 23 #[.string s, .string c] w fun e w' => e = .returned (.string r) ∧ Below w.heap.size w w' := by
  obtain ⟨⟨h2, h3⟩, rfl⟩ := of_guard h
  refine Any.strings_TrimLeft_laid Tryd.lays161 (by kernel_rfl) s c w h2 (fun j b hb => ?_)
  have := List.all_eq_true.1 h3 b (List.mem_of_getElem? hb)
  simpa using this
def strings_CutPrefix.f (s p : ByteArray) : Option (ByteArray × Bool) := some (⟨(Lib.trimPrefix s.data.toList p.data.toList).toArray⟩, Lib.hasPrefix s.data.toList p.data.toList)
theorem strings_CutPrefix.calls (s p r1 : ByteArray) (r2 : Bool) (w : World) (h : strings_CutPrefix.f s p = some (r1, r2)) :
    Calls Tryd.prog 32 #[.string s, .string p] w fun e w' => e = .returned (.tuple #[.string r1, .bool r2]) ∧ Below w.heap.size w w' := by
  injection h with h
  injection h with h1 h2
  subst h1 h2
  exact (Tryd.strings_CutPrefix s p w).mono (by rintro e w' ⟨rfl, rfl⟩; exact ⟨rfl, Below.refl _ _⟩)
def strings_TrimPrefix.f (s p : ByteArray) : Option ByteArray := some ⟨(Lib.trimPrefix s.data.toList p.data.toList).toArray⟩
theorem strings_TrimPrefix.calls (s p r : ByteArray) (w : World) (h : strings_TrimPrefix.f s p = some r) :
    Calls Tryd.prog 33 #[.string s, .string p] w fun e w' => e = .returned (.string r) ∧ Below w.heap.size w w' := by
  injection h with h
  subst h
  exact (Tryd.strings_TrimPrefix s p w).mono (by rintro e w' ⟨rfl, rfl⟩; exact ⟨rfl, Below.refl _ _⟩)
def strings_CutSuffix.f (s p : ByteArray) : Option (ByteArray × Bool) := if s.size ≤ 9223372036854775807 then some (⟨(Lib.trimSuffix s.data.toList p.data.toList).toArray⟩, Lib.hasSuffix s.data.toList p.data.toList) else none
theorem strings_CutSuffix.calls (s p r1 : ByteArray) (r2 : Bool) (w : World) (h : strings_CutSuffix.f s p = some (r1, r2)) :
    Calls Tryd.prog 21 #[.string s, .string p] w fun e w' => e = .returned (.tuple #[.string r1, .bool r2]) ∧ Below w.heap.size w w' := by
  obtain ⟨hs, h⟩ := of_guard h
  injection h with h1 h2
  subst h1 h2
  exact (Tryd.strings_CutSuffix s p w hs).mono (by rintro e w' ⟨rfl, rfl⟩; exact ⟨rfl, Below.refl _ _⟩)
theorem Glob.below {w w1 : World} (h : Glob w) (hb : Below w.heap.size w w1) : Glob w1 := ⟨Utf8Tabs_below h.tabs hb, CaseVar_below h.cases hb⟩
end Go.Proofs.YtjmeoplajfmieaaDoor
