/- Small letters: the functions that make a text's letters small come to one plain function on bytes. -/
import Derived.Test.YthilhcpdbjeepaaGreatDoorProg
import Derived.Test.YthilhcpdbjeepaaGreatDoorRow
import Derived.WalkSpells
import Derived.LoopTactic
import Derived.Lib.Hide
namespace Go.Proofs.YthilhcpdbjeepaaGreatDoor
open Go.RowKit Go.Proofs.YthilhcpdbjeepaaGreatDoor.Row
set_option linter.unusedVariables false
set_option linter.unusedSimpArgs false

/-- What a guarded answer tells. -/
theorem of_guard {α : Type} {c : Prop} [Decidable c] {x r : α} (h : (if c then some x else none) = some r) : c ∧ x = r := by
  split at h
  · rename_i hc; exact ⟨hc, Option.some.inj h⟩
  · cases h
theorem guard_of {α : Type} {c : Prop} [Decidable c] {x : α} (h : c) : (if c then some x else none) = some x := if_pos h
/-- A to Z become a to z. -/
def lowC (c : UInt8) : UInt8 := if 65 ≤ c.toNat ∧ c.toNat ≤ 90 then (c.toNat + 32).toUInt8 else c
def lowS (s : ByteArray) : ByteArray := ⟨(s.data.toList.map lowC).toArray⟩
/-- The first k bytes made small. -/
def lowTo (l : List UInt8) (k : Nat) : List UInt8 := (l.take k).map lowC ++ l.drop k
theorem lowTo_zero (l : List UInt8) : lowTo l 0 = l := by simp [lowTo]
theorem lowTo_length (l : List UInt8) (k : Nat) : (lowTo l k).length = l.length := by simp [lowTo]; omega
theorem lowTo_all (l : List UInt8) (k : Nat) (h : l.length ≤ k) : lowTo l k = l.map lowC := by simp [lowTo, List.take_of_length_le h, List.drop_eq_nil_of_le h]
theorem lowTo_get (l : List UInt8) (k : Nat) (h : k < l.length) : (lowTo l k)[k]'(by rw [lowTo_length]; exact h) = l[k] := by
  simp only [lowTo]
  rw [List.getElem_append_right (by simp; omega)]
  simp [List.getElem_drop, Nat.min_eq_left (Nat.le_of_lt h)]
theorem lowTo_succ (l : List UInt8) (k : Nat) (h : k < l.length) : lowTo l (k + 1) = (lowTo l k).set k (lowC l[k]) := by
  simp only [lowTo]
  rw [List.set_append_right _ _ (by simp; omega)]
  simp only [List.length_map, List.length_take, Nat.min_eq_left (Nat.le_of_lt h), Nat.sub_self]
  rw [List.take_succ_eq_append_getElem h, List.drop_eq_getElem_cons h, List.map_append, List.append_assoc]
  rfl
theorem lowTo_same (l : List UInt8) (k : Nat) (h : k < l.length) (hc : lowC l[k] = l[k]) : lowTo l (k + 1) = lowTo l k := by
  rw [lowTo_succ l k h, hc, ← lowTo_get l k h, List.set_getElem_self]
theorem lowC_yes (c : UInt8) (h1 : 65 ≤ c.toNat) (h2 : c.toNat ≤ 90) : ((lowC c).toNat : Int) = (c.toNat : Int) - 65 + 97 := by
  simp only [lowC, h1, h2, and_self, if_true]
  have : ((c.toNat + 32).toUInt8).toNat = c.toNat + 32 := by
    show (UInt8.ofNat (c.toNat + 32)).toNat = _
    rw [UInt8.toNat_ofNat']; omega
  omega
theorem lowC_yes' (c : UInt8) (h1 : 65 ≤ c.toNat) (h2 : c.toNat ≤ 90) : ((lowC c).toNat : Int) = (c.toNat : Int) + 32 := by
  have := lowC_yes c h1 h2; omega
theorem lowC_no (c : UInt8) (h : c.toNat < 65 ∨ 90 < c.toNat) : lowC c = c := by
  simp only [lowC]; rw [if_neg (by omega)]
def muslinref03_Small.f (s : ByteArray) : Option ByteArray := if s.size ≤ 9223372036854775807 then some (lowS s) else none
set_option maxRecDepth 100000 in
set_option maxHeartbeats 1000000 in
theorem muslinref03_Small.calls (s r : ByteArray) (w : World) (h : muslinref03_Small.f s = some r) :
    Calls Tryz.prog 19 #[.string s] w fun e w' => e = .returned (.string r) ∧ Below w.heap.size w w' := by
  obtain ⟨hs, rfl⟩ := of_guard h
  obtain ⟨cap, o, hconv, hrow⟩ := Row.run_conv (P := Tryz.prog) w 9 30 5 s Tryz.underlying9 Tryz.underlying30 Tryz.underlying5
  have HR := Lib.hid hrow; clear hrow h
  go_enter Tryz.func19, Tryz.ntmps19
  go_wp2
  go_loopw [4] (fun i wr => ∃ k : Nat, k ≤ s.size ∧ i = .int .i64 k ∧ Row 5 wr w.heap.size (lowTo s.data.toList k) ∧ Below w.heap.size w wr) (fun i _ => s.size - (intOf i).toNat)
  case atStart => exact ⟨0, Nat.zero_le _, rfl, by rw [lowTo_zero]; exact HR.out, ((Below.refl _ _).alloc (Nat.le_refl _) _).drew⟩
  case round =>
    obtain ⟨k, hk, rfl, hrow, hb⟩ := hrel
    have hl : s.data.toList.length = s.size := by simp
    by_cases hlt : k < s.size
    · have hlt2 : k < s.data.toList.length := by omega
      have hlt3 : k < (lowTo s.data.toList k).length := by rw [lowTo_length]; exact hlt2
      have hc := hrow.cell k hlt3
      have hf := hrow.frozen k hlt3
      have hset := hrow.set k (lowC s.data.toList[k]) hlt3
      rw [← lowTo_succ _ _ hlt2] at hset
      rw [lowTo_get _ _ hlt2] at hc
      have hsame := lowTo_same s.data.toList k hlt2
      have hyes := lowC_yes' s.data.toList[k]
      have hno := lowC_no s.data.toList[k]
      have h256 : s.data.toList[k].toNat < 256 := UInt8.toNat_lt _
      generalize hcc : s.data.toList[k] = c at *
      have HS := Lib.hid hset; have HY := Lib.hid hyes; have HN := Lib.hid hno; have HE := Lib.hid hsame; have HR2 := Lib.hid hrow; have HL := Lib.hid hl
      clear hset hyes hno hsame hrow hl hcc HR
      by_cases c1 : 65 ≤ c.toNat ∧ c.toNat ≤ 90
      · obtain ⟨c1, c2⟩ := c1
        go_wp2
        go_roundw
        case rel => exact ⟨k + 1, by omega, by go_num, by have := HS.out; rw [HY.out c1 c2] at this; exact this, hb.setCell (p := ⟨w.heap.size, k, none⟩) (Nat.le_refl _) _⟩
        case measure => simp [intOf]; omega
      · have hce := HN.out (by omega)
        have HS2 : Hid (lowTo s.data.toList (k + 1) = lowTo s.data.toList k) := Lib.hid (HE.out hce)
        clear HE hce HS HY HN
        have c3 : c.toNat < 65 ∨ 90 < c.toNat := by omega
        rcases c3 with c3 | c3
        all_goals
          clear c1
          go_wp2
          go_roundw
          case rel => exact ⟨k + 1, by omega, by go_num, by rw [HS2.out]; exact HR2.out, hb⟩
          case measure => simp [intOf]; omega
    · have hk2 : k = s.size := by omega
      subst hk2
      rw [lowTo_all _ _ (by omega)] at hrow
      have hback := hrow.back (P := Tryz.prog) 30 9 cap Tryz.underlying30 Tryz.underlying5 Tryz.underlying9
      simp only [List.length_map] at hback
      rw [hl] at hback
      clear hrow HR hl
      go_wp2
      go_ret
      exact ⟨rfl, hb⟩
end Go.Proofs.YthilhcpdbjeepaaGreatDoor
