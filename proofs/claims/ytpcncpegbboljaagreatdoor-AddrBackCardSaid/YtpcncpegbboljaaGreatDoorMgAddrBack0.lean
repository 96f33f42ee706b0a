/- Parts of the proof of the law AddrBack, in one text: PS, Row, Low, Shelf, Std, Utf, Any, Bld, Chars, Glob05, Ev, AddrA, A0, A1, AddrB, AddrC, AddrD, AddrE, AddrF, AddrG, ShelfR, B64, B64b. -/
import Derived.Test.YtpcncpegbboljaaGreatDoorProg
import Derived.Below
import Derived.Deep.Draws
import Derived.Deep.AppendLies
import Derived.Maps.AppendAt
import Derived.OwnWalk
import Derived.Laws.BytesArg
import Derived.Laws.MakeOwn
import Derived.Laws.OwnMore
import Derived.Deep.OwnRows
import Derived.Tactics
import Derived.Lib.ConvBytes
import Derived.Laws.Slices
import Derived.WalkKit
import Derived.KernelRfl
import Derived.RowKit3
import Derived.Deep.LoopGhost
import Derived.Deep.QuietTactic
import Derived.BigQuiet
import Derived.WideLaws
import Derived.Deep.DeepCutAuto
import Derived.Deep.CutBlock
import Derived.Deep.RegionHeld3
import Derived.Laws.Rows
import Derived.Lib.AppendStr
import Derived.ArgAppend
import Derived.Laws.IdiomCopy
import Derived.OrdersHeld
import Derived.Laws.BitsLemmas
import Derived.RowKit
import Derived.Test.YtpcncpegbboljaaGreatDoorWWords
import Derived.Test.YtpcncpegbboljaaGreatDoorWLast
import Derived.Test.YtpcncpegbboljaaGreatDoorWTab
import Derived.Test.YtpcncpegbboljaaGreatDoorWQPut
import Derived.Test.YtpcncpegbboljaaGreatDoorWApart
import Derived.Test.YtpcncpegbboljaaGreatDoorWArr
import Derived.Test.YtpcncpegbboljaaGreatDoorWZeros
import Derived.Test.YtpcncpegbboljaaGreatDoorWFoot
import Derived.Test.YtpcncpegbboljaaGreatDoorWKept
import Derived.Test.YtpcncpegbboljaaGreatDoorWShare
import Derived.Test.YtpcncpegbboljaaGreatDoorWN
import Derived.Test.YtpcncpegbboljaaGreatDoorWFootNe
import Derived.Test.YtpcncpegbboljaaGreatDoorWEqStruct
import Derived.Test.YtpcncpegbboljaaGreatDoorWRepsOne
import Derived.Test.YtpcncpegbboljaaGreatDoorWInv
import Derived.Test.YtpcncpegbboljaaGreatDoorWInvWords
import Derived.Test.YtpcncpegbboljaaGreatDoorWNEv
import Derived.Test.YtpcncpegbboljaaGreatDoorWMore
import Derived.Laws.IdiomStrings
import Derived.Lib.UnsafeStr
import Derived.Lib.Builder
import Derived.WalkSpells
import Derived.LoopTactic
import Derived.Lib.Hide
import Derived.Shelf.Strings.Builder1
import Derived.Shelf.Strings.Builder2
import Derived.Shelf.Strings.OnBuilder
import Derived.Shelf.Strings.Trim
import Derived.Shelf.Small.Utf8
import Derived.Shelf.Small.Strs
import Derived.Shelf.Small.Wraps
import Derived.Shelf.Strings.BuilderF
import Derived.Shelf.Strings.BuilderK
import Derived.Shelf.Strings.BuilderRune
import Derived.Shelf.Utf8.AppendRune
import Derived.Shelf.Strings.Builder2Cap
import Derived.Shelf.Strings.Search1
import Derived.Shelf.Strings.Search2
import Derived.Shelf.Strings.Search3
import Derived.Shelf.Strings.Cut
import Derived.Shelf.Strings.Count
import Derived.Shelf.LaysM
import Derived.Shelf.Strings.Shaped
import Derived.Shelf.GgClosure.StringsIndexFunc
import Derived.Ground.GgwProg
import Derived.Shelf.GgClosure.StringsIndexFuncTop
import Derived.Shelf.GgClosure.StringsRunes
import Derived.Shelf.Strings.Prefix
import Derived.Shelf.Strings.Split
import Derived.Shelf.Strings.Runes
import Derived.Shelf.Strings.IndexAny
import Derived.Shelf.Strings.AsciiSet
import Derived.Shelf.Strings.IndexAnyAll
import Derived.Shelf.Bits.Mul64
import Derived.Shelf.Unicode.DecodeSlow
import Derived.Shelf.Unicode.DecodeAny
import Derived.Shelf.Unicode.DecodeLast
import Derived.Shelf.Strings.FuncGrows
import Derived.Shelf.Strings.BuilderCap
import Derived.Shelf.Strings.SlTrimAscii
import Derived.Lib.IndexLaws
import Derived.IntWalk
import Derived.Lib.RuneBytes
import Derived.Lib.OthersKept
import Derived.Laws.RangeAny
import Derived.WalkMore
import Derived.BigCall
import Derived.Lib.LaidTab
import Derived.WalkSmall
import Derived.Laws.BitsAllLaws
import Derived.Shelf.Strings.MapGrows
import Derived.Deep.RegionLawGrows
import Derived.Lib.SmallJoins
import Derived.BigRegion
import Derived.Shelf.Strings.Repeat
import Derived.Deep.RegionWith
import Derived.Deep.Heap
import Derived.Lib.BufferKept
set_option linter.unusedVariables false
set_option linter.unusedSimpArgs false
namespace Go.Proofs.YtpcncpegbboljaaGreatDoor.P
open Go.RowKit Go.Proofs.YtpcncpegbboljaaGreatDoorW.PrintWords Go.Proofs.YtpcncpegbboljaaGreatDoorW.PrintLast Go.Proofs.YtpcncpegbboljaaGreatDoorW.PrintMore
attribute [local go_sem] max2_int min2_int max_two min_two max_three min_three max_four min_four
set_option linter.unusedVariables false
set_option linter.unusedSimpArgs false
def errW : Option Int → Value
  | none => .nilIface
  | some c => .iface 0 (.int .i64 c)
theorem errW_none : errW none = .nilIface := rfl
theorem errW_some (c : Int) : errW (some c) = .iface 0 (.int .i64 c) := rfl
structure S32 where
  f0 : ByteArray
  f1 : ByteArray
def z32 : S32 := ⟨(⟨#[]⟩ : ByteArray), (⟨#[]⟩ : ByteArray)⟩
def k32 : Kd S32 := Kd.iso (Kd.pair Kd.string Kd.string) (fun x : S32 => (x.f0, x.f1))
theorem k32_open {w : World} {x : S32} {cs : List Value} (h : k32.K w x cs) : cs = [.string x.f0, .string x.f1] := by
  obtain ⟨_, _, rfl, rfl, rfl⟩ := h
  exact rfl
theorem k32_mk (w : World) (x : S32)  : k32.K w x [.string x.f0, .string x.f1] := ⟨[.string x.f0], [.string x.f1], rfl, rfl, rfl⟩
theorem k32_mkM (w : World) (base : Nat) (ok : Nat → Prop) (x : S32)  : k32.M w base ok x [.string x.f0, .string x.f1] := ⟨[.string x.f0], [.string x.f1], rfl, rfl, rfl⟩
def rd_T32 (xs : List S32) (i : Int) : S32 := xs.getD i.toNat z32
theorem at_T32 {w : World} {A : Option Addr} {n : Nat} {xs : List S32} (h : Kd.C k32 w A n xs) (i : Int) (h0 : 0 ≤ i) (h1 : i < n) : ∃ ad , A = some ad ∧ w.cell? (ad.add (i.toNat * 2)) = some (.string (rd_T32 xs i).f0) ∧ w.cell? ⟨(ad.add (i.toNat * 2)).block, (ad.add (i.toNat * 2)).off + 1, none⟩ = some (.string (rd_T32 xs i).f1) := by
  obtain ⟨ad, c, e, _, hK, hc0⟩ := Kd.C_get h z32 i h0 h1
  have hc : ∀ j u, c[j]? = some u → w.cell? (ad.add (i.toNat * 2 + j)) = some u := hc0
  obtain rfl := k32_open hK
  exact ⟨ad, e, hc 0 _ rfl, by rw [← add_field _ _ 1 (by omega)]; exact hc 1 _ rfl⟩
end Go.Proofs.YtpcncpegbboljaaGreatDoor.P
namespace Go.Proofs.YtpcncpegbboljaaGreatDoor.Row
open Go.RowKit
variable {P : Program}
def Row (e : Nat) (w : World) (B : Nat) (l : List UInt8) : Prop :=
  ∃ C : Array Value, w.heap[B]? = some (.cells C e (C.size, C.size + 1)) ∧ l.length ≤ C.size ∧ C.toList.take l.length = Lib.byteCells l
theorem Row.drew {e : Nat} {w : World} {B : Nat} {l : List UInt8} (h : Row e w B l) : Row e w.drew B l := h
theorem Row.drewN {e : Nat} {w : World} {B : Nat} {l : List UInt8} (h : Row e w B l) (n : Nat) : Row e (w.drewN n) B l := h
theorem Row.lt {e : Nat} {w : World} {B : Nat} {l : List UInt8} (h : Row e w B l) : B < w.heap.size := by
  obtain ⟨C, hC, _⟩ := h
  exact (Array.getElem?_eq_some_iff.1 hC).1
theorem Row.below {e : Nat} {w w1 : World} {B : Nat} {l : List UInt8} (h : Row e w B l) (hb : Below w.heap.size w w1) : Row e w1 B l := by
  have hlt := h.lt
  obtain ⟨C, hC, h2⟩ := h
  exact ⟨C, by rw [hb.block B hlt]; exact hC, h2⟩
theorem row_get {C : Array Value} {l : List UInt8} (h2 : C.toList.take l.length = Lib.byteCells l) (j : Nat) (hj : j < l.length) :
    C[j]? = some (.int .u8 (l[j].toNat : Int)) := by
  have h3 : (C.toList.take l.length)[j]? = (Lib.byteCells l)[j]? := by rw [h2]
  rw [List.getElem?_take_of_lt hj] at h3
  simp [Lib.byteCells, List.getElem?_eq_getElem hj] at h3
  simpa using h3
theorem Row.cell {e : Nat} {w : World} {B : Nat} {l : List UInt8} (h : Row e w B l) (j : Nat) (hj : j < l.length) :
    w.cell? ⟨B, j, none⟩ = some (.int .u8 (l[j].toNat : Int)) := by
  obtain ⟨C, hC, h1, h2⟩ := h
  rw [Lib.cell_of_heap hC]
  exact row_get h2 j hj
theorem Row.frozen {e : Nat} {w : World} {B : Nat} {l : List UInt8} (h : Row e w B l) (j : Nat) (hj : j < l.length) :
    w.frozen? ⟨B, j, none⟩ = false := by
  obtain ⟨C, hC, h1, h2⟩ := h
  simp [World.frozen?, hC]
  omega
theorem Row.set {e : Nat} {w : World} {B : Nat} {l : List UInt8} (h : Row e w B l) (j : Nat) (x : UInt8) (hj : j < l.length) :
    Row e (w.setCell ⟨B, j, none⟩ (.int .u8 (x.toNat : Int))) B (l.set j x) := by
  obtain ⟨C, hC, h1, h2⟩ := h
  refine ⟨C.setIfInBounds j (.int .u8 (x.toNat : Int)), ?_, by simpa using h1, ?_⟩
  · rw [setCell_eq_setRow w B j C e _ _ hC, setRow_heap w B C _ e _ hC, Array.size_setIfInBounds]
  · rw [Array.toList_setIfInBounds, List.length_set]
    have : Lib.byteCells (l.set j x) = (Lib.byteCells l).set j (.int .u8 (x.toNat : Int)) := by
      simp [Lib.byteCells, List.map_set]
    rw [this, ← h2, List.take_set]
theorem Row.made (e : Nat) (w : World) (s : ByteArray) (cap : Nat) :
    Row e (w.alloc (.cells (bytesRow s cap) e ((bytesRow s cap).size, (bytesRow s cap).size + 1))) w.heap.size s.data.toList := by
  refine ⟨bytesRow s cap, ?_, ?_, ?_⟩
  · show (w.heap.push _)[w.heap.size]? = _
    simp
  · simp [bytesRow]
  · simp [bytesRow, Lib.byteCells]
theorem run_conv (w : World) (src dst e : TypeId) (s : ByteArray) (hs : P.underlying src = some .string) (hd : P.underlying dst = some (.slice e)) (he : P.underlying e = some (.int .u8)) :
    ∃ cap o, (convert src dst (.string s)).run P w = .ok (.slice (some ⟨w.heap.size, 0, none⟩) s.size cap) (w.alloc o).drew ∧ Row e (w.alloc o) w.heap.size s.data.toList :=
  ⟨_, _, run_bytes_of_string w src dst e s hs hd he, Row.made e w s _⟩
theorem Row.back {e : Nat} {w : World} {B : Nat} {l : List UInt8} (h : Row e w B l) (src dst cap : Nat) (hs : P.underlying src = some (.slice e)) (he : P.underlying e = some (.int .u8)) (hd : P.underlying dst = some .string) :
    (convert src dst (.slice (some ⟨B, 0, none⟩) l.length cap)).run P w = .ok (.string ⟨l.toArray⟩) w :=
  run_convert_bytes_back w src dst e ⟨B, 0, none⟩ cap l hs he hd (fun j hj => by
    have h1 := h.cell j hj
    unfold Addr.add
    split
    · rename_i h0; subst h0; exact h1
    · simpa using h1)
end Go.Proofs.YtpcncpegbboljaaGreatDoor.Row
namespace Go.Proofs.YtpcncpegbboljaaGreatDoor
open Go.RowKit Go.Proofs.YtpcncpegbboljaaGreatDoor.Row
set_option linter.unusedVariables false
set_option linter.unusedSimpArgs false
theorem of_guard {α : Type} {c : Prop} [Decidable c] {x r : α} (h : (if c then some x else none) = some r) : c ∧ x = r := by
  split at h
  · rename_i hc; exact ⟨hc, Option.some.inj h⟩
  · cases h
theorem guard_of {α : Type} {c : Prop} [Decidable c] {x : α} (h : c) : (if c then some x else none) = some x := if_pos h
def lowC (c : UInt8) : UInt8 := if 65 ≤ c.toNat ∧ c.toNat ≤ 90 then (c.toNat + 32).toUInt8 else c
def lowS (s : ByteArray) : ByteArray := ⟨(s.data.toList.map lowC).toArray⟩
def lowTo (l : List UInt8) (k : Nat) : List UInt8 := (l.take k).map lowC ++ l.drop k
theorem lowTo_zero (l : List UInt8) : lowTo l 0 = l := by simp [lowTo]
theorem lowTo_length (l : List UInt8) (k : Nat) : (lowTo l k).length = l.length := by simp [lowTo]; omega
theorem lowTo_all (l : List UInt8) (k : Nat) (h : l.length ≤ k) : lowTo l k = l.map lowC := by simp [lowTo, List.take_of_length_le h, List.drop_eq_nil_of_le h]
theorem lowTo_get (l : List UInt8) (k : Nat) (h : k < l.length) : (lowTo l k)[k]'(by rw [lowTo_length]; exact h) = l[k] := by
  simp only [lowTo]
  rw [List.getElem_append_right (by simp; omega)]
  simp [List.getElem_drop, Nat.min_eq_left (Nat.le_of_lt h)]
theorem lowTo_succ (l : List UInt8) (k : Nat) (h : k < l.length) : lowTo l (k + 1) = (lowTo l k).set k (lowC l[k]) := by
  simp only [lowTo]
  rw [List.set_append_right _ _ (by simp; omega)]
  simp only [List.length_map, List.length_take, Nat.min_eq_left (Nat.le_of_lt h), Nat.sub_self]
  rw [List.take_succ_eq_append_getElem h, List.drop_eq_getElem_cons h, List.map_append, List.append_assoc]
  rfl
theorem lowTo_same (l : List UInt8) (k : Nat) (h : k < l.length) (hc : lowC l[k] = l[k]) : lowTo l (k + 1) = lowTo l k := by
  rw [lowTo_succ l k h, hc, ← lowTo_get l k h, List.set_getElem_self]
theorem lowC_yes (c : UInt8) (h1 : 65 ≤ c.toNat) (h2 : c.toNat ≤ 90) : ((lowC c).toNat : Int) = (c.toNat : Int) - 65 + 97 := by
  simp only [lowC, h1, h2, and_self, if_true]
  have : ((c.toNat + 32).toUInt8).toNat = c.toNat + 32 := by
    show (UInt8.ofNat (c.toNat + 32)).toNat = _
    rw [UInt8.toNat_ofNat']; omega
  omega
theorem lowC_no (c : UInt8) (h : c.toNat < 65 ∨ 90 < c.toNat) : lowC c = c := by
  simp only [lowC]; rw [if_neg (by omega)]
def chars_small.f (s : ByteArray) : Option ByteArray := if s.size ≤ 9223372036854775807 then some (lowS s) else none
set_option maxRecDepth 100000 in
set_option maxHeartbeats 1000000 in
theorem chars_small.calls (s r : ByteArray) (w : World) (h : chars_small.f s = some r) :
    Calls Tryz.prog 122 #[.string s] w fun e w' => e = .returned (.string r) ∧ Below w.heap.size w w' := by
  obtain ⟨hs, rfl⟩ := of_guard h
  obtain ⟨cap, o, hconv, hrow⟩ := Row.run_conv (P := Tryz.prog) w 9 45 5 s Tryz.underlying9 Tryz.underlying45 Tryz.underlying5
  have HR := Lib.hid hrow; clear hrow h
  go_enter Tryz.func122, Tryz.ntmps122
  go_wp2
  go_loopw [10] (fun i wr => ∃ k : Nat, k ≤ s.size ∧ i = .int .i64 k ∧ Row 5 wr w.heap.size (lowTo s.data.toList k) ∧ Below w.heap.size w wr) (fun i _ => s.size - (intOf i).toNat)
  case atStart => exact ⟨0, Nat.zero_le _, rfl, by rw [lowTo_zero]; exact HR.out, ((Below.refl _ _).alloc (Nat.le_refl _) _).drew⟩
  case round =>
    obtain ⟨k, hk, rfl, hrow, hb⟩ := hrel
    have hl : s.data.toList.length = s.size := by simp
    by_cases hlt : k < s.size
    · have hlt2 : k < s.data.toList.length := by omega
      have hlt3 : k < (lowTo s.data.toList k).length := by rw [lowTo_length]; exact hlt2
      have hc := hrow.cell k hlt3
      have hf := hrow.frozen k hlt3
      have hset := hrow.set k (lowC s.data.toList[k]) hlt3
      rw [← lowTo_succ _ _ hlt2] at hset
      rw [lowTo_get _ _ hlt2] at hc
      have hsame := lowTo_same s.data.toList k hlt2
      have hyes := lowC_yes s.data.toList[k]
      have hno := lowC_no s.data.toList[k]
      have h256 : s.data.toList[k].toNat < 256 := UInt8.toNat_lt _
      generalize hcc : s.data.toList[k] = c at *
      have HS := Lib.hid hset; have HY := Lib.hid hyes; have HN := Lib.hid hno; have HE := Lib.hid hsame; have HR2 := Lib.hid hrow; have HL := Lib.hid hl
      clear hset hyes hno hsame hrow hl hcc HR
      by_cases c1 : 65 ≤ c.toNat ∧ c.toNat ≤ 90
      · obtain ⟨c1, c2⟩ := c1
        go_wp2
        go_roundw
        case rel => exact ⟨k + 1, by omega, by go_num, by have := HS.out; rw [HY.out c1 c2] at this; exact this, hb.setCell (p := ⟨w.heap.size, k, none⟩) (Nat.le_refl _) _⟩
        case measure => simp [intOf]; omega
      · have hce := HN.out (by omega)
        have HS2 : Hid (lowTo s.data.toList (k + 1) = lowTo s.data.toList k) := Lib.hid (HE.out hce)
        clear HE hce HS HY HN
        have c3 : c.toNat < 65 ∨ 90 < c.toNat := by omega
        rcases c3 with c3 | c3
        all_goals
          clear c1
          go_wp2
          go_roundw
          case rel => exact ⟨k + 1, by omega, by go_num, by rw [HS2.out]; exact HR2.out, hb⟩
          case measure => simp [intOf]; omega
    · have hk2 : k = s.size := by omega
      subst hk2
      rw [lowTo_all _ _ (by omega)] at hrow
      have hback := hrow.back (P := Tryz.prog) 45 9 cap Tryz.underlying45 Tryz.underlying5 Tryz.underlying9
      simp only [List.length_map] at hback
      rw [hl] at hback
      clear hrow HR hl
      go_wp2
      go_ret
      exact ⟨rfl, hb⟩
end Go.Proofs.YtpcncpegbboljaaGreatDoor
namespace Go.Proofs
open Go.Shelf
def Tryz.lays169_ren : Go.Shelf.Ren := ⟨fun | 169 => 36 | n => n, fun | 70 => 46 | 9 => 9 | 0 => 0 | 72 => 48 | 37 => 45 | 127 => 86 | 3 => 3 | 5 => 5 | n => n, fun | n => n⟩
theorem Tryz.lays169 : Go.Proofs.Lays.n169 Tryz.prog Tryz.lays169_ren := {
  mixed := by kernel_rfl
  f169 := Tryz.func36.trans (congrArg some (by kernel_rfl))
  t0 := Tryz.underlying0
  a0 := Tryz.isAgg0
  z0 := Tryz.sizeOf0
  v0 := Tryz.zeroValue0
  t3 := Tryz.underlying3
  a3 := Tryz.isAgg3
  z3 := Tryz.sizeOf3
  v3 := Tryz.zeroValue3
  t9 := Tryz.underlying9
  a9 := Tryz.isAgg9
  z9 := Tryz.sizeOf9
  v9 := Tryz.zeroValue9
  t37 := Tryz.underlying45
  a37 := Tryz.isAgg45
  z37 := Tryz.sizeOf45
  v37 := Tryz.zeroValue45
  t70 := Tryz.underlying46
  a70 := Tryz.isAgg46
  z70 := Tryz.sizeOf46
  v70 := Tryz.zeroValue46
  t72 := Tryz.underlying48
  a72 := Tryz.isAgg48
  z72 := Tryz.sizeOf48
  v72 := Tryz.zeroValue48
  t127 := Tryz.underlying86
  a127 := Tryz.isAgg86
  z127 := Tryz.sizeOf86
  v127 := Tryz.zeroValue86 }
theorem Tryz.Builder_Extra_169 : Builder.Extra Tryz.prog Tryz.lays169_ren := {
  sizeBuilder := by kernel_rfl
  liesBuilder := by kernel_rfl
  t5 := Tryz.underlying5
  a5 := Tryz.isAgg5
  z5 := Tryz.sizeOf5
  v5 := Tryz.zeroValue5
  infoByte := by kernel_rfl
  cellsByte := by kernel_rfl
  sizeByte := by kernel_rfl
  neB5 := by decide }
def Tryz.lays156_ren : Go.Shelf.Ren := ⟨fun | 156 => 33 | 165 => 60 | 166 => 41 | 169 => 36 | 240 => 64 | 241 => 92 | 276 => 94 | 277 => 120 | n => n, fun | 31 => 34 | 9 => 9 | 3 => 3 | 4 => 4 | 0 => 0 | 20 => 20 | 72 => 48 | 76 => 51 | 70 => 46 | 37 => 45 | 75 => 50 | 127 => 86 | 164 => 108 | 5 => 5 | 80 => 53 | n => n, fun | n => n⟩
theorem Tryz.lays156 : Go.Proofs.Lays.n156 Tryz.prog Tryz.lays156_ren := {
  mixed := by kernel_rfl
  f156 := Tryz.func33.trans (congrArg some (by kernel_rfl))
  f165 := Tryz.func60.trans (congrArg some (by kernel_rfl))
  f166 := Tryz.func41.trans (congrArg some (by kernel_rfl))
  f169 := Tryz.func36.trans (congrArg some (by kernel_rfl))
  f240 := Tryz.func64.trans (congrArg some (by kernel_rfl))
  f241 := Tryz.func92.trans (congrArg some (by kernel_rfl))
  f276 := Tryz.func94.trans (congrArg some (by kernel_rfl))
  f277 := Tryz.func120.trans (congrArg some (by kernel_rfl))
  t0 := Tryz.underlying0
  a0 := Tryz.isAgg0
  z0 := Tryz.sizeOf0
  v0 := Tryz.zeroValue0
  t3 := Tryz.underlying3
  a3 := Tryz.isAgg3
  z3 := Tryz.sizeOf3
  v3 := Tryz.zeroValue3
  t4 := Tryz.underlying4
  a4 := Tryz.isAgg4
  z4 := Tryz.sizeOf4
  v4 := Tryz.zeroValue4
  t9 := Tryz.underlying9
  a9 := Tryz.isAgg9
  z9 := Tryz.sizeOf9
  v9 := Tryz.zeroValue9
  t20 := Tryz.underlying20
  a20 := Tryz.isAgg20
  z20 := Tryz.sizeOf20
  v20 := Tryz.zeroValue20
  t31 := Tryz.underlying34
  a31 := Tryz.isAgg34
  z31 := Tryz.sizeOf34
  v31 := Tryz.zeroValue34
  t37 := Tryz.underlying45
  a37 := Tryz.isAgg45
  z37 := Tryz.sizeOf45
  v37 := Tryz.zeroValue45
  t70 := Tryz.underlying46
  a70 := Tryz.isAgg46
  z70 := Tryz.sizeOf46
  v70 := Tryz.zeroValue46
  t72 := Tryz.underlying48
  a72 := Tryz.isAgg48
  z72 := Tryz.sizeOf48
  v72 := Tryz.zeroValue48
  t75 := Tryz.underlying50
  a75 := Tryz.isAgg50
  z75 := Tryz.sizeOf50
  v75 := Tryz.zeroValue50
  t76 := Tryz.underlying51
  a76 := Tryz.isAgg51
  z76 := Tryz.sizeOf51
  v76 := Tryz.zeroValue51
  t127 := Tryz.underlying86
  a127 := Tryz.isAgg86
  z127 := Tryz.sizeOf86
  v127 := Tryz.zeroValue86
  t164 := Tryz.underlying108
  a164 := Tryz.isAgg108
  z164 := Tryz.sizeOf108
  v164 := Tryz.zeroValue108 }
theorem Tryz.Builder_Extra_156 : Builder.Extra Tryz.prog Tryz.lays156_ren := {
  sizeBuilder := by kernel_rfl
  liesBuilder := by kernel_rfl
  t5 := Tryz.underlying5
  a5 := Tryz.isAgg5
  z5 := Tryz.sizeOf5
  v5 := Tryz.zeroValue5
  infoByte := by kernel_rfl
  cellsByte := by kernel_rfl
  sizeByte := by kernel_rfl
  neB5 := by decide }
open Go.RowKit in
theorem Tryz.strings_Join_none (a : Option Addr) (c : Nat) (sep : ByteArray) (w : World) :
    Calls Tryz.prog 33 #[.slice a 0 c, .string sep] w fun e w' => e = .returned (.string ⟨#[]⟩) ∧ w' = w := Any.strings_Join_none Tryz.lays156 Tryz.Builder_Extra_156 a c sep w
open Go.RowKit in
theorem Tryz.strings_Join (bk o c : Nat) (xs : List ByteArray) (sep : ByteArray) (w : World) (hcells : ∀ (j : Nat) x, xs[j]? = some x → w.cell? ⟨bk, o + j, none⟩ = some (.string x)) (hbk : bk < w.heap.size) (hN : xs.length ≤ 140737488355328) (hcap : xs.length ≤ c) (hlen : (Lib.join (xs.map (·.data.toList)) sep.data.toList).length ≤ 140737488355328) :
    Calls Tryz.prog 33 #[.slice (some ⟨bk, o, none⟩) xs.length c, .string sep] w fun e w' => e = .returned (.string ⟨(Lib.join (xs.map (·.data.toList)) sep.data.toList).toArray⟩) ∧ Below w.heap.size w w' := Any.strings_Join Tryz.lays156 Tryz.Builder_Extra_156 bk o c xs sep w hcells hbk hN hcap hlen
def Tryz.lays160_ren : Go.Shelf.Ren := ⟨fun | 160 => 43 | 232 => 70 | 231 => 69 | 227 => 71 | 234 => 73 | 233 => 72 | 236 => 75 | 235 => 74 | 228 => 83 | 271 => 102 | 151 => 101 | 197 => 56 | 120 => 127 | 152 => 81 | 260 => 85 | 137 => 108 | 119 => 109 | 224 => 106 | 225 => 105 | 217 => 104 | 266 => 133 | n => n, fun | 9 => 9 | 4 => 4 | 3 => 3 | 5 => 5 | 117 => 95 | 116 => 94 | 0 => 0 | 124 => 98 | 21 => 21 | 105 => 64 | 46 => 115 | 119 => 116 | 139 => 119 | 138 => 118 | n => n, fun | 3 => 1 | 4 => 2 | n => n⟩
theorem Tryz.lays160 : Go.Proofs.Lays.n160 Tryz.prog Tryz.lays160_ren := {
  mixed := by kernel_rfl
  f119 := Tryz.func109.trans (congrArg some (by kernel_rfl))
  f120 := Tryz.func127.trans (congrArg some (by kernel_rfl))
  f137 := Tryz.func108.trans (congrArg some (by kernel_rfl))
  f151 := Tryz.func101.trans (congrArg some (by kernel_rfl))
  f152 := Tryz.func81.trans (congrArg some (by kernel_rfl))
  f160 := Tryz.func43.trans (congrArg some (by kernel_rfl))
  f197 := Tryz.func56.trans (congrArg some (by kernel_rfl))
  f217 := Tryz.func104.trans (congrArg some (by kernel_rfl))
  f224 := Tryz.func106.trans (congrArg some (by kernel_rfl))
  f225 := Tryz.func105.trans (congrArg some (by kernel_rfl))
  f227 := Tryz.func71.trans (congrArg some (by kernel_rfl))
  f228 := Tryz.func83.trans (congrArg some (by kernel_rfl))
  f231 := Tryz.func69.trans (congrArg some (by kernel_rfl))
  f232 := Tryz.func70.trans (congrArg some (by kernel_rfl))
  f233 := Tryz.func72.trans (congrArg some (by kernel_rfl))
  f234 := Tryz.func73.trans (congrArg some (by kernel_rfl))
  f235 := Tryz.func74.trans (congrArg some (by kernel_rfl))
  f236 := Tryz.func75.trans (congrArg some (by kernel_rfl))
  f260 := Tryz.func85.trans (congrArg some (by kernel_rfl))
  f266 := Tryz.func133.trans (congrArg some (by kernel_rfl))
  f271 := Tryz.func102.trans (congrArg some (by kernel_rfl))
  t0 := Tryz.underlying0
  a0 := Tryz.isAgg0
  z0 := Tryz.sizeOf0
  v0 := Tryz.zeroValue0
  t3 := Tryz.underlying3
  a3 := Tryz.isAgg3
  z3 := Tryz.sizeOf3
  v3 := Tryz.zeroValue3
  t4 := Tryz.underlying4
  a4 := Tryz.isAgg4
  z4 := Tryz.sizeOf4
  v4 := Tryz.zeroValue4
  t5 := Tryz.underlying5
  a5 := Tryz.isAgg5
  z5 := Tryz.sizeOf5
  v5 := Tryz.zeroValue5
  t9 := Tryz.underlying9
  a9 := Tryz.isAgg9
  z9 := Tryz.sizeOf9
  v9 := Tryz.zeroValue9
  t21 := Tryz.underlying21
  a21 := Tryz.isAgg21
  z21 := Tryz.sizeOf21
  v21 := Tryz.zeroValue21
  t46 := Tryz.underlying115
  a46 := Tryz.isAgg115
  z46 := Tryz.sizeOf115
  v46 := Tryz.zeroValue115
  t105 := Tryz.underlying64
  a105 := Tryz.isAgg64
  z105 := Tryz.sizeOf64
  v105 := Tryz.zeroValue64
  t116 := Tryz.underlying94
  a116 := Tryz.isAgg94
  z116 := Tryz.sizeOf94
  t117 := Tryz.underlying95
  a117 := Tryz.isAgg95
  z117 := Tryz.sizeOf95
  v117 := Tryz.zeroValue95
  t119 := Tryz.underlying116
  a119 := Tryz.isAgg116
  z119 := Tryz.sizeOf116
  t124 := Tryz.underlying98
  a124 := Tryz.isAgg98
  z124 := Tryz.sizeOf98
  v124 := Tryz.zeroValue98
  t138 := Tryz.underlying118
  a138 := Tryz.isAgg118
  z138 := Tryz.sizeOf118
  v138 := Tryz.zeroValue118
  t139 := Tryz.underlying119
  a139 := Tryz.isAgg119
  z139 := Tryz.sizeOf119
  v139 := Tryz.zeroValue119
  g3 := by kernel_rfl
  g4 := by kernel_rfl }
def Tryz.lays119_ren : Go.Shelf.Ren := ⟨fun | 119 => 109 | n => n, fun | 21 => 21 | 4 => 4 | n => n, fun | n => n⟩
theorem Tryz.lays119 : Go.Proofs.Lays.n119 Tryz.prog Tryz.lays119_ren := {
  mixed := by kernel_rfl
  f119 := Tryz.func109.trans (congrArg some (by kernel_rfl))
  t4 := Tryz.underlying4
  a4 := Tryz.isAgg4
  z4 := Tryz.sizeOf4
  v4 := Tryz.zeroValue4
  t21 := Tryz.underlying21
  a21 := Tryz.isAgg21
  z21 := Tryz.sizeOf21
  v21 := Tryz.zeroValue21 }
theorem Tryz.utf8_ValidRune (r : Int) (w : World) :
    Calls Tryz.prog 109 #[.int .i32 r] w fun e w' => e = .returned (.bool (Lib.validRune r)) ∧ w' = w := Any.utf8_ValidRune Tryz.lays119 r w
def Tryz.lays137_ren : Go.Shelf.Ren := ⟨fun | 137 => 108 | 217 => 104 | 266 => 133 | n => n, fun | 9 => 9 | 5 => 5 | 3 => 3 | n => n, fun | n => n⟩
theorem Tryz.lays137 : Go.Proofs.Lays.n137 Tryz.prog Tryz.lays137_ren := {
  mixed := by kernel_rfl
  f137 := Tryz.func108.trans (congrArg some (by kernel_rfl))
  f217 := Tryz.func104.trans (congrArg some (by kernel_rfl))
  f266 := Tryz.func133.trans (congrArg some (by kernel_rfl))
  t3 := Tryz.underlying3
  a3 := Tryz.isAgg3
  z3 := Tryz.sizeOf3
  v3 := Tryz.zeroValue3
  t5 := Tryz.underlying5
  a5 := Tryz.isAgg5
  z5 := Tryz.sizeOf5
  v5 := Tryz.zeroValue5
  t9 := Tryz.underlying9
  a9 := Tryz.isAgg9
  z9 := Tryz.sizeOf9
  v9 := Tryz.zeroValue9 }
open Go.RowKit in
theorem Tryz.strings_IndexByte (s : ByteArray) (c : Int) (w : World) :
    Calls Tryz.prog 108 #[.string s, .int .u8 c] w fun e w' => e = .returned (.int .i64 (Lib.indexByte s.data.toList c.toNat.toUInt8)) ∧ w' = w := Any.strings_IndexByte Tryz.lays137 s c w
def Tryz.lays103_ren : Go.Shelf.Ren := ⟨fun | 103 => 96 | 210 => 121 | 206 => 137 | n => n, fun | 9 => 9 | 4 => 4 | 24 => 110 | 3 => 3 | n => n, fun | n => n⟩
theorem Tryz.lays103 : Go.Proofs.Lays.n103 Tryz.prog Tryz.lays103_ren := {
  mixed := by kernel_rfl
  f103 := Tryz.func96.trans (congrArg some (by kernel_rfl))
  f206 := Tryz.func137.trans (congrArg some (by kernel_rfl))
  f210 := Tryz.func121.trans (congrArg some (by kernel_rfl))
  t3 := Tryz.underlying3
  a3 := Tryz.isAgg3
  z3 := Tryz.sizeOf3
  v3 := Tryz.zeroValue3
  t4 := Tryz.underlying4
  a4 := Tryz.isAgg4
  z4 := Tryz.sizeOf4
  v4 := Tryz.zeroValue4
  t9 := Tryz.underlying9
  a9 := Tryz.isAgg9
  z9 := Tryz.sizeOf9
  v9 := Tryz.zeroValue9
  t24 := Tryz.underlying110
  a24 := Tryz.isAgg110
  z24 := Tryz.sizeOf110
  v24 := Tryz.zeroValue110 }
open Go.RowKit in
theorem Tryz.strings_CutPrefix (s p : ByteArray) (w : World) :
    Calls Tryz.prog 96 #[.string s, .string p] w fun e w' => e = .returned (.tuple #[.string ⟨(Lib.trimPrefix s.data.toList p.data.toList).toArray⟩, .bool (Lib.hasPrefix s.data.toList p.data.toList)]) ∧ w' = w := Any.strings_CutPrefix Tryz.lays103 s p w
open Go.RowKit in
theorem Tryz.Builder_String_any_k (B b : Nat) (l : List UInt8) (w : World) (h : Lib.IsBuilderF 48 5 B b (Lib.byteCells l) w) (hBw : B ≤ w.heap.size) :
    Calls Tryz.prog 36 #[.pointer (some ⟨b, 0, none⟩)] w fun e w' => e = .returned (.string ⟨l.toArray⟩) ∧ (Lib.IsBuilderF 48 5 B b (Lib.byteCells l) w' ∧ Below B w w' ∧ Lib.OthersKept 5 (some b) w w') := Any.Builder_String_any_k Tryz.lays169 Tryz.Builder_Extra_169 B b l w h hBw
def Tryz.lays242_ren : Go.Shelf.Ren := ⟨fun | 242 => 65 | 278 => 95 | n => n, fun | 37 => 45 | 21 => 21 | 51 => 69 | 4 => 4 | 5 => 5 | 46 => 115 | n => n, fun | n => n⟩
theorem Tryz.lays242 : Go.Proofs.Lays.n242 Tryz.prog Tryz.lays242_ren := {
  mixed := by kernel_rfl
  f242 := Tryz.func65.trans (congrArg some (by kernel_rfl))
  f278 := Tryz.func95.trans (congrArg some (by kernel_rfl))
  t4 := Tryz.underlying4
  a4 := Tryz.isAgg4
  z4 := Tryz.sizeOf4
  v4 := Tryz.zeroValue4
  t5 := Tryz.underlying5
  a5 := Tryz.isAgg5
  z5 := Tryz.sizeOf5
  v5 := Tryz.zeroValue5
  t21 := Tryz.underlying21
  a21 := Tryz.isAgg21
  z21 := Tryz.sizeOf21
  v21 := Tryz.zeroValue21
  t37 := Tryz.underlying45
  a37 := Tryz.isAgg45
  z37 := Tryz.sizeOf45
  v37 := Tryz.zeroValue45
  t46 := Tryz.underlying115
  a46 := Tryz.isAgg115
  z46 := Tryz.sizeOf115
  v46 := Tryz.zeroValue115
  t51 := Tryz.underlying69
  a51 := Tryz.isAgg69
  z51 := Tryz.sizeOf69
  v51 := Tryz.zeroValue69 }
open Go.RowKit in
theorem Tryz.utf8_AppendRune_row (B : Nat) (v : Value) (n : Nat) (xs : List Value) (r : Int) (hr0 : -2147483648 ≤ r) (hr1 : r ≤ 2147483647) (w : World) (hown : w.ownsRowF B 5 1 v n xs) (hlen : n + 4 ≤ 140737488355328) (hBw : B ≤ w.heap.size) :
    Calls Tryz.prog 65 #[v, .int .i32 r] w fun e w' => ∃ v', e = .returned v' ∧ w'.ownsRowF B 5 1 v' (n + (Lib.runeCells r).length) (xs ++ Lib.runeCells r) ∧ ∃ o, (w.alloc o).grownBy w' v.ownBlock := Any.utf8_AppendRune_row Tryz.lays242 (by kernel_rfl) B v n xs r hr0 hr1 w hown hlen hBw
def Tryz.lays219_ren : Go.Shelf.Ren := ⟨fun | 219 => 80 | 217 => 104 | 225 => 105 | 224 => 106 | 267 => 107 | 266 => 133 | 314 => 134 | n => n, fun | 9 => 9 | 3 => 3 | 4 => 4 | 5 => 5 | 46 => 115 | 146 => 140 | 51 => 69 | n => n, fun | 1 => 0 | n => n⟩
theorem Tryz.lays219 : Go.Proofs.Lays.n219 Tryz.prog Tryz.lays219_ren := {
  mixed := by kernel_rfl
  f217 := Tryz.func104.trans (congrArg some (by kernel_rfl))
  f219 := Tryz.func80.trans (congrArg some (by kernel_rfl))
  f224 := Tryz.func106.trans (congrArg some (by kernel_rfl))
  f225 := Tryz.func105.trans (congrArg some (by kernel_rfl))
  f266 := Tryz.func133.trans (congrArg some (by kernel_rfl))
  f267 := Tryz.func107.trans (congrArg some (by kernel_rfl))
  f314 := Tryz.func134.trans (congrArg some (by kernel_rfl))
  t3 := Tryz.underlying3
  a3 := Tryz.isAgg3
  z3 := Tryz.sizeOf3
  v3 := Tryz.zeroValue3
  t4 := Tryz.underlying4
  a4 := Tryz.isAgg4
  z4 := Tryz.sizeOf4
  v4 := Tryz.zeroValue4
  t5 := Tryz.underlying5
  a5 := Tryz.isAgg5
  z5 := Tryz.sizeOf5
  v5 := Tryz.zeroValue5
  t9 := Tryz.underlying9
  a9 := Tryz.isAgg9
  z9 := Tryz.sizeOf9
  v9 := Tryz.zeroValue9
  t46 := Tryz.underlying115
  a46 := Tryz.isAgg115
  z46 := Tryz.sizeOf115
  v46 := Tryz.zeroValue115
  t51 := Tryz.underlying69
  a51 := Tryz.isAgg69
  z51 := Tryz.sizeOf69
  v51 := Tryz.zeroValue69
  t146 := Tryz.underlying140
  a146 := Tryz.isAgg140
  z146 := Tryz.sizeOf140
  v146 := Tryz.zeroValue140
  g1 := by kernel_rfl }
open Go.RowKit Go.Lib in
theorem Tryz.stringslite_Index_one (s : ByteArray) (c : UInt8) (w : World) :
    Calls Tryz.prog 80 #[.string s, .string ⟨#[c]⟩] w fun e w' => e = .returned (.int .i64 (Lib.indexByte s.data.toList c)) ∧ w' = w := Any.stringslite_Index_one Tryz.lays219 s c w
def Tryz.lays143_ren : Go.Shelf.Ren := ⟨fun | 143 => 52 | 219 => 80 | 217 => 104 | 225 => 105 | 224 => 106 | 267 => 107 | 266 => 133 | 314 => 134 | n => n, fun | 9 => 9 | 3 => 3 | 4 => 4 | 5 => 5 | 46 => 115 | 146 => 140 | 51 => 69 | n => n, fun | 1 => 0 | n => n⟩
theorem Tryz.lays143 : Go.Proofs.Lays.n143 Tryz.prog Tryz.lays143_ren := {
  mixed := by kernel_rfl
  f143 := Tryz.func52.trans (congrArg some (by kernel_rfl))
  f217 := Tryz.func104.trans (congrArg some (by kernel_rfl))
  f219 := Tryz.func80.trans (congrArg some (by kernel_rfl))
  f224 := Tryz.func106.trans (congrArg some (by kernel_rfl))
  f225 := Tryz.func105.trans (congrArg some (by kernel_rfl))
  f266 := Tryz.func133.trans (congrArg some (by kernel_rfl))
  f267 := Tryz.func107.trans (congrArg some (by kernel_rfl))
  f314 := Tryz.func134.trans (congrArg some (by kernel_rfl))
  t3 := Tryz.underlying3
  a3 := Tryz.isAgg3
  z3 := Tryz.sizeOf3
  v3 := Tryz.zeroValue3
  t4 := Tryz.underlying4
  a4 := Tryz.isAgg4
  z4 := Tryz.sizeOf4
  v4 := Tryz.zeroValue4
  t5 := Tryz.underlying5
  a5 := Tryz.isAgg5
  z5 := Tryz.sizeOf5
  v5 := Tryz.zeroValue5
  t9 := Tryz.underlying9
  a9 := Tryz.isAgg9
  z9 := Tryz.sizeOf9
  v9 := Tryz.zeroValue9
  t46 := Tryz.underlying115
  a46 := Tryz.isAgg115
  z46 := Tryz.sizeOf115
  v46 := Tryz.zeroValue115
  t51 := Tryz.underlying69
  a51 := Tryz.isAgg69
  z51 := Tryz.sizeOf69
  v51 := Tryz.zeroValue69
  t146 := Tryz.underlying140
  a146 := Tryz.isAgg140
  z146 := Tryz.sizeOf140
  v146 := Tryz.zeroValue140
  g1 := by kernel_rfl }
open Go.RowKit Go.Lib in
theorem Tryz.strings_Index (s sub : ByteArray) (m : Int) (w : World) (hs : s.size < 4294967281) (hm : w.cell? ⟨0, 0, none⟩ = some (.int .i64 m)) :
    Calls Tryz.prog 52 #[.string s, .string sub] w fun e w' => e = .returned (.int .i64 (Lib.index s.data.toList sub.data.toList)) ∧ w' = w := Any.strings_Index Tryz.lays143 s sub m w hs hm
def Tryz.lays144_ren : Go.Shelf.Ren := ⟨fun | 144 => 24 | 143 => 52 | 219 => 80 | 217 => 104 | 225 => 105 | 224 => 106 | 267 => 107 | 266 => 133 | 314 => 134 | n => n, fun | 9 => 9 | 4 => 4 | 3 => 3 | 5 => 5 | 46 => 115 | 146 => 140 | 51 => 69 | n => n, fun | 1 => 0 | n => n⟩
theorem Tryz.lays144 : Go.Proofs.Lays.n144 Tryz.prog Tryz.lays144_ren := {
  mixed := by kernel_rfl
  f143 := Tryz.func52.trans (congrArg some (by kernel_rfl))
  f144 := Tryz.func24.trans (congrArg some (by kernel_rfl))
  f217 := Tryz.func104.trans (congrArg some (by kernel_rfl))
  f219 := Tryz.func80.trans (congrArg some (by kernel_rfl))
  f224 := Tryz.func106.trans (congrArg some (by kernel_rfl))
  f225 := Tryz.func105.trans (congrArg some (by kernel_rfl))
  f266 := Tryz.func133.trans (congrArg some (by kernel_rfl))
  f267 := Tryz.func107.trans (congrArg some (by kernel_rfl))
  f314 := Tryz.func134.trans (congrArg some (by kernel_rfl))
  t3 := Tryz.underlying3
  a3 := Tryz.isAgg3
  z3 := Tryz.sizeOf3
  v3 := Tryz.zeroValue3
  t4 := Tryz.underlying4
  a4 := Tryz.isAgg4
  z4 := Tryz.sizeOf4
  v4 := Tryz.zeroValue4
  t5 := Tryz.underlying5
  a5 := Tryz.isAgg5
  z5 := Tryz.sizeOf5
  v5 := Tryz.zeroValue5
  t9 := Tryz.underlying9
  a9 := Tryz.isAgg9
  z9 := Tryz.sizeOf9
  v9 := Tryz.zeroValue9
  t46 := Tryz.underlying115
  a46 := Tryz.isAgg115
  z46 := Tryz.sizeOf115
  v46 := Tryz.zeroValue115
  t51 := Tryz.underlying69
  a51 := Tryz.isAgg69
  z51 := Tryz.sizeOf69
  v51 := Tryz.zeroValue69
  t146 := Tryz.underlying140
  a146 := Tryz.isAgg140
  z146 := Tryz.sizeOf140
  v146 := Tryz.zeroValue140
  g1 := by kernel_rfl }
open Go.RowKit Go.Lib in
theorem Tryz.strings_Contains_one (s : ByteArray) (c : UInt8) (w : World) :
    Calls Tryz.prog 24 #[.string s, .string ⟨#[c]⟩] w fun e w' => e = .returned (.bool (decide (0 ≤ Lib.indexByte s.data.toList c))) ∧ w' = w := Any.strings_Contains_one Tryz.lays144 s c w
open Go.RowKit Go.Lib in
theorem Tryz.strings_Contains (s sub : ByteArray) (m : Int) (w : World) (hs : s.size < 4294967281) (hm : w.cell? ⟨0, 0, none⟩ = some (.int .i64 m)) :
    Calls Tryz.prog 24 #[.string s, .string sub] w fun e w' => e = .returned (.bool (Lib.contains s.data.toList sub.data.toList)) ∧ w' = w := Any.strings_Contains Tryz.lays144 s sub m w hs hm
def Tryz.lays138_ren : Go.Shelf.Ren := ⟨fun | 138 => 195 | 195 => 196 | 218 => 197 | 143 => 52 | 219 => 80 | 217 => 104 | 225 => 105 | 224 => 106 | 267 => 107 | 266 => 133 | 314 => 134 | n => n, fun | 9 => 9 | 3 => 3 | 4 => 4 | 5 => 5 | 0 => 0 | 46 => 115 | 146 => 140 | 51 => 69 | n => n, fun | 1 => 0 | n => n⟩
theorem Tryz.lays138 : Go.Proofs.Lays.n138 Tryz.prog Tryz.lays138_ren := {
  mixed := by kernel_rfl
  f138 := Tryz.func195.trans (congrArg some (by kernel_rfl))
  f143 := Tryz.func52.trans (congrArg some (by kernel_rfl))
  f195 := Tryz.func196.trans (congrArg some (by kernel_rfl))
  f217 := Tryz.func104.trans (congrArg some (by kernel_rfl))
  f218 := Tryz.func197.trans (congrArg some (by kernel_rfl))
  f219 := Tryz.func80.trans (congrArg some (by kernel_rfl))
  f224 := Tryz.func106.trans (congrArg some (by kernel_rfl))
  f225 := Tryz.func105.trans (congrArg some (by kernel_rfl))
  f266 := Tryz.func133.trans (congrArg some (by kernel_rfl))
  f267 := Tryz.func107.trans (congrArg some (by kernel_rfl))
  f314 := Tryz.func134.trans (congrArg some (by kernel_rfl))
  t0 := Tryz.underlying0
  a0 := Tryz.isAgg0
  z0 := Tryz.sizeOf0
  v0 := Tryz.zeroValue0
  t3 := Tryz.underlying3
  a3 := Tryz.isAgg3
  z3 := Tryz.sizeOf3
  v3 := Tryz.zeroValue3
  t4 := Tryz.underlying4
  a4 := Tryz.isAgg4
  z4 := Tryz.sizeOf4
  v4 := Tryz.zeroValue4
  t5 := Tryz.underlying5
  a5 := Tryz.isAgg5
  z5 := Tryz.sizeOf5
  v5 := Tryz.zeroValue5
  t9 := Tryz.underlying9
  a9 := Tryz.isAgg9
  z9 := Tryz.sizeOf9
  v9 := Tryz.zeroValue9
  t46 := Tryz.underlying115
  a46 := Tryz.isAgg115
  z46 := Tryz.sizeOf115
  v46 := Tryz.zeroValue115
  t51 := Tryz.underlying69
  a51 := Tryz.isAgg69
  z51 := Tryz.sizeOf69
  v51 := Tryz.zeroValue69
  t146 := Tryz.underlying140
  a146 := Tryz.isAgg140
  z146 := Tryz.sizeOf140
  v146 := Tryz.zeroValue140
  g1 := by kernel_rfl }
open Go.RowKit Go.Lib in
theorem Tryz.strings_Count_one (s : ByteArray) (c : UInt8) (w : World) :
    Calls Tryz.prog 195 #[.string s, .string ⟨#[c]⟩] w fun e w' => e = .returned (.int .i64 (Lib.countByte s.data.toList c)) ∧ w' = w := Any.strings_Count_one Tryz.lays138 s c w
def Tryz.laysGw17_ren : Go.Shelf.Ren := ⟨fun | 17 => 26 | 15 => 54 | 20 => 84 | n => n, fun | 9 => 9 | 23 => 41 | 4 => 4 | 3 => 3 | 0 => 0 | 21 => 21 | n => n, fun | n => n⟩
theorem Tryz.laysGw17 : Go.Proofs.LaysGw.n17 Tryz.prog Tryz.laysGw17_ren := {
  mixed := by kernel_rfl
  f15 := Tryz.func54.trans (congrArg some (by kernel_rfl))
  f17 := Tryz.func26.trans (congrArg some (by kernel_rfl))
  f20 := Tryz.func84.trans (congrArg some (by kernel_rfl))
  t0 := Tryz.underlying0
  a0 := Tryz.isAgg0
  z0 := Tryz.sizeOf0
  v0 := Tryz.zeroValue0
  i0 := by kernel_rfl
  t3 := Tryz.underlying3
  a3 := Tryz.isAgg3
  z3 := Tryz.sizeOf3
  v3 := Tryz.zeroValue3
  i3 := by kernel_rfl
  t4 := Tryz.underlying4
  a4 := Tryz.isAgg4
  z4 := Tryz.sizeOf4
  v4 := Tryz.zeroValue4
  i4 := by kernel_rfl
  t9 := Tryz.underlying9
  a9 := Tryz.isAgg9
  z9 := Tryz.sizeOf9
  v9 := Tryz.zeroValue9
  i9 := by kernel_rfl
  t21 := Tryz.underlying21
  a21 := Tryz.isAgg21
  z21 := Tryz.sizeOf21
  v21 := Tryz.zeroValue21
  i21 := by kernel_rfl
  t23 := Tryz.underlying41
  a23 := Tryz.isAgg41
  z23 := Tryz.sizeOf41
  v23 := Tryz.zeroValue41
  i23 := by kernel_rfl }
def Tryz.lays152_ren : Go.Shelf.Ren := ⟨fun | 152 => 81 | 137 => 108 | 119 => 109 | 224 => 106 | 225 => 105 | 217 => 104 | 266 => 133 | n => n, fun | 9 => 9 | 21 => 21 | 3 => 3 | 4 => 4 | 5 => 5 | 0 => 0 | 46 => 115 | n => n, fun | n => n⟩
theorem Tryz.lays152 : Go.Proofs.Lays.n152 Tryz.prog Tryz.lays152_ren := {
  mixed := by kernel_rfl
  f119 := Tryz.func109.trans (congrArg some (by kernel_rfl))
  f137 := Tryz.func108.trans (congrArg some (by kernel_rfl))
  f152 := Tryz.func81.trans (congrArg some (by kernel_rfl))
  f217 := Tryz.func104.trans (congrArg some (by kernel_rfl))
  f224 := Tryz.func106.trans (congrArg some (by kernel_rfl))
  f225 := Tryz.func105.trans (congrArg some (by kernel_rfl))
  f266 := Tryz.func133.trans (congrArg some (by kernel_rfl))
  t0 := Tryz.underlying0
  a0 := Tryz.isAgg0
  z0 := Tryz.sizeOf0
  v0 := Tryz.zeroValue0
  t3 := Tryz.underlying3
  a3 := Tryz.isAgg3
  z3 := Tryz.sizeOf3
  v3 := Tryz.zeroValue3
  t4 := Tryz.underlying4
  a4 := Tryz.isAgg4
  z4 := Tryz.sizeOf4
  v4 := Tryz.zeroValue4
  t5 := Tryz.underlying5
  a5 := Tryz.isAgg5
  z5 := Tryz.sizeOf5
  v5 := Tryz.zeroValue5
  t9 := Tryz.underlying9
  a9 := Tryz.isAgg9
  z9 := Tryz.sizeOf9
  v9 := Tryz.zeroValue9
  t21 := Tryz.underlying21
  a21 := Tryz.isAgg21
  z21 := Tryz.sizeOf21
  v21 := Tryz.zeroValue21
  t46 := Tryz.underlying115
  a46 := Tryz.isAgg115
  z46 := Tryz.sizeOf115
  v46 := Tryz.zeroValue115 }
open Go.RowKit Go.Lib in
theorem Tryz.strings_IndexRune_ascii (s : ByteArray) (r : Int) (w : World) (h0 : 0 ≤ r) (h1 : r < 128) :
    Calls Tryz.prog 81 #[.string s, .int .i32 r] w fun e w' => e = .returned (.int .i64 (Lib.indexByte s.data.toList r.toNat.toUInt8)) ∧ w' = w := Any.strings_IndexRune_ascii Tryz.lays152 s r w h0 h1
def Tryz.lays226_ren : Go.Shelf.Ren := ⟨fun | 226 => 82 | n => n, fun | 3 => 3 | 4 => 4 | n => n, fun | n => n⟩
theorem Tryz.lays226 : Go.Proofs.Lays.n226 Tryz.prog Tryz.lays226_ren := {
  mixed := by kernel_rfl
  f226 := Tryz.func82.trans (congrArg some (by kernel_rfl))
  t3 := Tryz.underlying3
  a3 := Tryz.isAgg3
  z3 := Tryz.sizeOf3
  v3 := Tryz.zeroValue3
  t4 := Tryz.underlying4
  a4 := Tryz.isAgg4
  z4 := Tryz.sizeOf4
  v4 := Tryz.zeroValue4 }
open Go.RowKit Go.Lib in
theorem Tryz.strings_shouldUseASCIISet (n : Int) (w : World) :
    Calls Tryz.prog 82 #[.int .i64 n] w fun e w' => e = .returned (.bool (decide (8 < n))) ∧ w' = w := Any.strings_shouldUseASCIISet Tryz.lays226 n w
def Tryz.lays153_ren : Go.Shelf.Ren := ⟨fun | 153 => 53 | 152 => 81 | 226 => 82 | 227 => 71 | 228 => 83 | 137 => 108 | 119 => 109 | 224 => 106 | 225 => 105 | 217 => 104 | 266 => 133 | n => n, fun | 9 => 9 | 3 => 3 | 4 => 4 | 5 => 5 | 21 => 21 | 117 => 95 | 116 => 94 | 0 => 0 | 46 => 115 | 124 => 98 | n => n, fun | n => n⟩
theorem Tryz.lays153 : Go.Proofs.Lays.n153 Tryz.prog Tryz.lays153_ren := {
  mixed := by kernel_rfl
  f119 := Tryz.func109.trans (congrArg some (by kernel_rfl))
  f137 := Tryz.func108.trans (congrArg some (by kernel_rfl))
  f152 := Tryz.func81.trans (congrArg some (by kernel_rfl))
  f153 := Tryz.func53.trans (congrArg some (by kernel_rfl))
  f217 := Tryz.func104.trans (congrArg some (by kernel_rfl))
  f224 := Tryz.func106.trans (congrArg some (by kernel_rfl))
  f225 := Tryz.func105.trans (congrArg some (by kernel_rfl))
  f226 := Tryz.func82.trans (congrArg some (by kernel_rfl))
  f227 := Tryz.func71.trans (congrArg some (by kernel_rfl))
  f228 := Tryz.func83.trans (congrArg some (by kernel_rfl))
  f266 := Tryz.func133.trans (congrArg some (by kernel_rfl))
  t0 := Tryz.underlying0
  a0 := Tryz.isAgg0
  z0 := Tryz.sizeOf0
  v0 := Tryz.zeroValue0
  t3 := Tryz.underlying3
  a3 := Tryz.isAgg3
  z3 := Tryz.sizeOf3
  v3 := Tryz.zeroValue3
  t4 := Tryz.underlying4
  a4 := Tryz.isAgg4
  z4 := Tryz.sizeOf4
  v4 := Tryz.zeroValue4
  t5 := Tryz.underlying5
  a5 := Tryz.isAgg5
  z5 := Tryz.sizeOf5
  v5 := Tryz.zeroValue5
  t9 := Tryz.underlying9
  a9 := Tryz.isAgg9
  z9 := Tryz.sizeOf9
  v9 := Tryz.zeroValue9
  t21 := Tryz.underlying21
  a21 := Tryz.isAgg21
  z21 := Tryz.sizeOf21
  v21 := Tryz.zeroValue21
  t46 := Tryz.underlying115
  a46 := Tryz.isAgg115
  z46 := Tryz.sizeOf115
  v46 := Tryz.zeroValue115
  t116 := Tryz.underlying94
  a116 := Tryz.isAgg94
  z116 := Tryz.sizeOf94
  t117 := Tryz.underlying95
  a117 := Tryz.isAgg95
  z117 := Tryz.sizeOf95
  v117 := Tryz.zeroValue95
  t124 := Tryz.underlying98
  a124 := Tryz.isAgg98
  z124 := Tryz.sizeOf98
  v124 := Tryz.zeroValue98 }
open Go.RowKit Go.Lib in
theorem Tryz.strings_IndexAny_long (hv116 : ∀ w, (zeroValue 94).run Tryz.prog w = .ok (.agg (Array.replicate 256 (.bool false))) w) (s chars : ByteArray) (w : World) (h2 : 2 ≤ chars.size) (h8 : 8 < s.size) (hs : s.size < 4294967281) (hcs : chars.size < 4294967281) (hascii : ∀ (j : Nat) b, chars.data.toList[j]? = some b → b.toNat < 128) :
    Calls Tryz.prog 53 #[.string s, .string chars] w fun e w' => e = .returned (.int .i64 (Lib.indexAny s.data.toList chars.data.toList)) ∧ w' = ((w.alloc (.cells (Lib.setCells chars.data.toList) 94)).alloc (.cells (Lib.setCells chars.data.toList) 94)) := Any.strings_IndexAny_long Tryz.lays153 hv116 (by kernel_rfl) s chars w h2 h8 hs hcs hascii
def Tryz.lays260_ren : Go.Shelf.Ren := ⟨fun | 260 => 85 | n => n, fun | 9 => 9 | 21 => 21 | 3 => 3 | 4 => 4 | 5 => 5 | 119 => 116 | 0 => 0 | 46 => 115 | 139 => 119 | 138 => 118 | n => n, fun | 3 => 1 | 4 => 2 | n => n⟩
theorem Tryz.lays260 : Go.Proofs.Lays.n260 Tryz.prog Tryz.lays260_ren := {
  mixed := by kernel_rfl
  f260 := Tryz.func85.trans (congrArg some (by kernel_rfl))
  t0 := Tryz.underlying0
  a0 := Tryz.isAgg0
  z0 := Tryz.sizeOf0
  v0 := Tryz.zeroValue0
  t3 := Tryz.underlying3
  a3 := Tryz.isAgg3
  z3 := Tryz.sizeOf3
  v3 := Tryz.zeroValue3
  t4 := Tryz.underlying4
  a4 := Tryz.isAgg4
  z4 := Tryz.sizeOf4
  v4 := Tryz.zeroValue4
  t5 := Tryz.underlying5
  a5 := Tryz.isAgg5
  z5 := Tryz.sizeOf5
  v5 := Tryz.zeroValue5
  t9 := Tryz.underlying9
  a9 := Tryz.isAgg9
  z9 := Tryz.sizeOf9
  v9 := Tryz.zeroValue9
  t21 := Tryz.underlying21
  a21 := Tryz.isAgg21
  z21 := Tryz.sizeOf21
  v21 := Tryz.zeroValue21
  t46 := Tryz.underlying115
  a46 := Tryz.isAgg115
  z46 := Tryz.sizeOf115
  v46 := Tryz.zeroValue115
  t119 := Tryz.underlying116
  a119 := Tryz.isAgg116
  z119 := Tryz.sizeOf116
  t138 := Tryz.underlying118
  a138 := Tryz.isAgg118
  z138 := Tryz.sizeOf118
  v138 := Tryz.zeroValue118
  t139 := Tryz.underlying119
  a139 := Tryz.isAgg119
  z139 := Tryz.sizeOf119
  v139 := Tryz.zeroValue119
  g3 := by kernel_rfl
  g4 := by kernel_rfl }
def Tryz.lays197_ren : Go.Shelf.Ren := ⟨fun | 197 => 56 | 260 => 85 | n => n, fun | 9 => 9 | 21 => 21 | 3 => 3 | 4 => 4 | 5 => 5 | 105 => 64 | 119 => 116 | 0 => 0 | 46 => 115 | 139 => 119 | 138 => 118 | n => n, fun | 3 => 1 | 4 => 2 | n => n⟩
theorem Tryz.lays197 : Go.Proofs.Lays.n197 Tryz.prog Tryz.lays197_ren := {
  mixed := by kernel_rfl
  f197 := Tryz.func56.trans (congrArg some (by kernel_rfl))
  f260 := Tryz.func85.trans (congrArg some (by kernel_rfl))
  t0 := Tryz.underlying0
  a0 := Tryz.isAgg0
  z0 := Tryz.sizeOf0
  v0 := Tryz.zeroValue0
  t3 := Tryz.underlying3
  a3 := Tryz.isAgg3
  z3 := Tryz.sizeOf3
  v3 := Tryz.zeroValue3
  t4 := Tryz.underlying4
  a4 := Tryz.isAgg4
  z4 := Tryz.sizeOf4
  v4 := Tryz.zeroValue4
  t5 := Tryz.underlying5
  a5 := Tryz.isAgg5
  z5 := Tryz.sizeOf5
  v5 := Tryz.zeroValue5
  t9 := Tryz.underlying9
  a9 := Tryz.isAgg9
  z9 := Tryz.sizeOf9
  v9 := Tryz.zeroValue9
  t21 := Tryz.underlying21
  a21 := Tryz.isAgg21
  z21 := Tryz.sizeOf21
  v21 := Tryz.zeroValue21
  t46 := Tryz.underlying115
  a46 := Tryz.isAgg115
  z46 := Tryz.sizeOf115
  v46 := Tryz.zeroValue115
  t105 := Tryz.underlying64
  a105 := Tryz.isAgg64
  z105 := Tryz.sizeOf64
  v105 := Tryz.zeroValue64
  t119 := Tryz.underlying116
  a119 := Tryz.isAgg116
  z119 := Tryz.sizeOf116
  t138 := Tryz.underlying118
  a138 := Tryz.isAgg118
  z138 := Tryz.sizeOf118
  v138 := Tryz.zeroValue118
  t139 := Tryz.underlying119
  a139 := Tryz.isAgg119
  z139 := Tryz.sizeOf119
  v139 := Tryz.zeroValue119
  g3 := by kernel_rfl
  g4 := by kernel_rfl }
open Go.RowKit Go.Lib in
theorem Tryz.utf8_DecodeRuneInString (s : ByteArray) (w : World) (hT : Lib.Utf8Tabs 1 2 w) :
    Calls Tryz.prog 56 #[.string s] w fun e w' => e = .returned (.tuple #[.int .i32 (Lib.decodeGo s).1, .int .i64 (Lib.decodeGo s).2]) ∧ Below w.heap.size w w' := Any.utf8_DecodeRuneInString Tryz.lays197 s w hT
open Go.RowKit Go.Lib in
theorem Tryz.strings_ContainsFunc_grows (g : Nat) (lb : Array Value) (eg : ∀ args w, (callFunc g args).run Tryz.prog w = .ok (.enter g args) w) (p : Nat → Bool) (s : ByteArray) (w : World) (hp : PredGrows Tryz.prog g lb p w) :
    Calls Tryz.prog 26 #[.string s, .func (.func g) #[] lb] w fun e w' => e = .returned (.bool (decide (0 ≤ Lib.idxFunc p true s))) ∧ Below w.heap.size w w' := Any.strings_ContainsFunc_grows Tryz.laysGw17 g lb eg p s w hp
end Go.Proofs
namespace Go.Proofs.YtpcncpegbboljaaGreatDoor
open Go.RowKit Go.Shelf Go.Lib
set_option linter.unusedVariables false
set_option linter.unusedSimpArgs false
theorem bdrewN {B : Nat} {w0 w : World} (h : Below B w0 w) (n : Nat) : Below B w0 (w.drewN n) := ⟨h.os, h.tape, h.output, h.size, h.block⟩
def asciiB (c : ByteArray) : Bool := c.data.toList.all fun b => b.toNat < 128
def strings_Trim.f (s c : ByteArray) : Option ByteArray :=
  if s.size ≤ 9223372036854775807 ∧ c.size < 4294967281 ∧ asciiB c = true then some ⟨(Lib.trimS s.data.toList c.data.toList).toArray⟩ else none
theorem strings_Trim.calls (s c r : ByteArray) (w : World) (h : strings_Trim.f s c = some r) :
    Calls Tryz.prog 43 #[.string s, .string c] w fun e w' => e = .returned (.string r) ∧ Below w.heap.size w w' := by
  obtain ⟨⟨h1, h2, h3⟩, rfl⟩ := of_guard h
  refine Any.strings_Trim_laid Tryz.lays160 (by kernel_rfl) s c w h1 h2 (fun j b hb => ?_)
  have := List.all_eq_true.1 h3 b (List.mem_of_getElem? hb)
  simpa using this
def strings_CutPrefix.f (s p : ByteArray) : Option (ByteArray × Bool) := some (⟨(Lib.trimPrefix s.data.toList p.data.toList).toArray⟩, Lib.hasPrefix s.data.toList p.data.toList)
theorem strings_CutPrefix.calls (s p r1 : ByteArray) (r2 : Bool) (w : World) (h : strings_CutPrefix.f s p = some (r1, r2)) :
    Calls Tryz.prog 96 #[.string s, .string p] w fun e w' => e = .returned (.tuple #[.string r1, .bool r2]) ∧ Below w.heap.size w w' := by
  injection h with h
  injection h with h1 h2
  subst h1 h2
  exact (Tryz.strings_CutPrefix s p w).mono (by rintro e w' ⟨rfl, rfl⟩; exact ⟨rfl, Below.refl _ _⟩)
def strings_IndexByte.f (s : ByteArray) (c : Int) : Option Int := some (Lib.indexByte s.data.toList c.toNat.toUInt8)
theorem strings_IndexByte.calls (s : ByteArray) (c r : Int) (w : World) (h : strings_IndexByte.f s c = some r) :
    Calls Tryz.prog 108 #[.string s, .int .u8 c] w fun e w' => e = .returned (.int .i64 r) ∧ Below w.heap.size w w' := by
  injection h with h
  subst h
  exact (Tryz.strings_IndexByte s c w).mono (by rintro e w' ⟨rfl, rfl⟩; exact ⟨rfl, Below.refl _ _⟩)
def cutL (c : UInt8) (l : List UInt8) : List UInt8 × List UInt8 × Bool := if c ∈ l then (l.takeWhile (· != c), (l.dropWhile (· != c)).drop 1, true) else (l, [], false)
theorem index_split (c : UInt8) : ∀ l : List UInt8, (c ∈ l → ∃ i : Nat, Lib.indexByte l c = (i : Int) ∧ i < l.length ∧ l.take i = l.takeWhile (· != c) ∧ l.drop (i + 1) = (l.dropWhile (· != c)).drop 1) ∧ (c ∉ l → Lib.indexByte l c = -1)
  | [] => ⟨fun h => by simp at h, fun _ => rfl⟩
  | b :: l => by
    obtain ⟨h1, h2⟩ := index_split c l
    by_cases hb : b = c
    · subst hb
      refine ⟨fun _ => ⟨0, by simp [Lib.indexByte], by simp, by simp, by simp⟩, fun h => absurd (by simp) h⟩
    · have hb1 : (b == c) = false := by simpa using hb
      have hb2 : (b != c) = true := by simpa using hb
      constructor
      · intro h
        have hm : c ∈ l := by
          rcases List.mem_cons.1 h with h | h
          · exact absurd h.symm hb
          · exact h
        obtain ⟨i, e1, e2, e3, e4⟩ := h1 hm
        refine ⟨i + 1, ?_, by simp only [List.length_cons]; omega, ?_, ?_⟩
        · have : ¬ ((i : Int) == -1) = true := by simp <;> omega
          simp only [Lib.indexByte, hb1, e1, Bool.false_eq_true, if_false, this]
          omega
        · rw [List.take_succ_cons, List.takeWhile_cons, if_pos (by exact hb2), e3]
        · rw [List.drop_succ_cons, List.dropWhile_cons, if_pos (by exact hb2), e4]
      · intro h
        have hm : c ∉ l := fun h' => h (by simp [h'])
        simp [Lib.indexByte, hb1, h2 hm]
theorem extract_l (s : ByteArray) (i j : Nat) : s.extract i j = ⟨((s.data.toList.take j).drop i).toArray⟩ := by
  apply ByteArray.ext
  apply Array.ext'
  simp [List.drop_take]
theorem one_byte {p : ByteArray} (h : p.size = 1) : ∃ c, p = ⟨#[c]⟩ := by
  obtain ⟨⟨l⟩⟩ := p
  match l, h with
  | [c], _ => exact ⟨c, rfl⟩
def strings_Cut.f (s p : ByteArray) : Option (ByteArray × ByteArray × Bool) :=
  if p.size = 1 ∧ s.size ≤ 9223372036854775000 then some (⟨(cutL (p.data.toList.getD 0 0) s.data.toList).1.toArray⟩, ⟨(cutL (p.data.toList.getD 0 0) s.data.toList).2.1.toArray⟩, (cutL (p.data.toList.getD 0 0) s.data.toList).2.2) else none
set_option maxHeartbeats 1000000 in
theorem slite_cut (s : ByteArray) (c : UInt8) (hs : s.size ≤ 9223372036854775000) (w : World) :
    Calls Tryz.prog 51 #[.string s, .string ⟨#[c]⟩] w fun e w' => e = .returned (.tuple #[.string ⟨(cutL c s.data.toList).1.toArray⟩, .string ⟨(cutL c s.data.toList).2.1.toArray⟩, .bool (cutL c s.data.toList).2.2]) ∧ ∃ n, w' = w.drewN n := by
  have hsl : s.data.toList.length = s.size := by simp
  have IX := Lib.hid (Tryz.stringslite_Index_one s c)
  have hz1 : (⟨#[c]⟩ : ByteArray).size = 1 := rfl
  by_cases hm : c ∈ s.data.toList
  · obtain ⟨i, e1, e2, e3, e4⟩ := (index_split c s.data.toList).1 hm
    have i1 : (i : Int) ≤ (s.size : Int) := by omega
    have i2 : i ≤ s.size := by omega
    have i3 : i + 1 ≤ s.size := by omega
    have i4 : (i : Int) + 1 ≤ (s.size : Int) := by omega
    have w1 : IntKind.i64.wrap ((i : Int) + 1) = (i : Int) + 1 := IntWalk.i64_in _ (by omega)
    have x1 : s.extract 0 i = ⟨(cutL c s.data.toList).1.toArray⟩ := by
      unfold cutL; rw [if_pos hm, extract_l, List.drop_zero, e3]
    have x2 : s.extract (i + 1) s.size = ⟨(cutL c s.data.toList).2.1.toArray⟩ := by
      unfold cutL; rw [if_pos hm, extract_l, List.take_of_length_le (by omega), e4]
    have x3 : (cutL c s.data.toList).2.2 = true := by unfold cutL; rw [if_pos hm]
    rw [e1] at IX
    have t1 : ((i : Int) + 1).toNat = i + 1 := by omega
    generalize hos : (⟨#[c]⟩ : ByteArray) = os at *
    generalize cutL c s.data.toList = ct at *
    have X1 := Lib.hid x1; have X2 := Lib.hid x2; have X3 := Lib.hid x3
    clear hsl e1 e2 e3 e4 x1 x2 x3 hm hos
    go_enter Tryz.func51, Tryz.ntmps51
    go_wp2_with (go_at_call 80; refine (IX.out _).mono ?_; rintro e w' ⟨rfl, rfl⟩)
    go_quiet (fail)
    rename_i nq
    go_wp2_with fail
    go_ret3
    exact ⟨by rw [X1.out, X2.out, X3.out]; rfl, nq, rfl⟩
  · have e1 := (index_split c s.data.toList).2 hm
    rw [e1] at IX
    have x1 : cutL c s.data.toList = (s.data.toList, [], false) := by unfold cutL; rw [if_neg hm]
    have X1 := Lib.hid x1
    generalize hos : (⟨#[c]⟩ : ByteArray) = os at *
    clear hsl e1 hm x1 hos
    go_enter Tryz.func51, Tryz.ntmps51
    go_wp2_with (go_at_call 80; refine (IX.out _).mono ?_; rintro e w' ⟨rfl, rfl⟩)
    go_ret3
    exact ⟨by rw [X1.out]; exact congrArg Ending.returned (congrArg Value.tuple (by congr 1)), 0, rfl⟩
theorem strings_Cut.calls (s p r1 r2 : ByteArray) (r3 : Bool) (w : World) (h : strings_Cut.f s p = some (r1, r2, r3)) :
    Calls Tryz.prog 23 #[.string s, .string p] w fun e w' => e = .returned (.tuple #[.string r1, .string r2, .bool r3]) ∧ Below w.heap.size w w' := by
  obtain ⟨⟨h1, h2⟩, h⟩ := of_guard h
  obtain ⟨c, rfl⟩ := one_byte h1
  injection h with e1 h
  injection h with e2 e3
  subst e1 e2 e3
  have SC := Lib.hid (slite_cut s c h2 w)
  have hg : (⟨#[c]⟩ : ByteArray).data.toList.getD 0 0 = c := rfl
  rw [hg]
  clear h1 h2 hg
  go_enter Tryz.func23, Tryz.ntmps23
  go_wp2_with (go_at_call 51; refine SC.out.mono ?_; rintro e w' ⟨rfl, n, rfl⟩)
  go_ret3
  exact ⟨rfl, ⟨rfl, rfl, rfl, Nat.le_refl _, fun _ _ => rfl⟩⟩
end Go.Proofs.YtpcncpegbboljaaGreatDoor
namespace Go.Proofs.YtpcncpegbboljaaGreatDoor
set_option linter.unusedVariables false
set_option linter.unusedSimpArgs false
def byteAt (l : List UInt8) (j : Nat) : Nat := (l.getD j 0).toNat
def contAt (l : List UInt8) (j : Nat) : Bool := decide (j < l.length) && byteAt l j / 64 == 2
def uDec (l : List UInt8) : Nat × Nat :=
  if byteAt l 0 < 128 then (byteAt l 0, 1)
  else if byteAt l 0 / 32 == 6 && contAt l 1 then
    if byteAt l 0 % 32 * 64 + byteAt l 1 % 64 ≥ 128 then (byteAt l 0 % 32 * 64 + byteAt l 1 % 64, 2) else (65533, 1)
  else if byteAt l 0 / 16 == 14 && contAt l 1 && contAt l 2 then
    if byteAt l 0 % 16 * 4096 + byteAt l 1 % 64 * 64 + byteAt l 2 % 64 ≥ 2048 && Utf8.valid ((byteAt l 0 % 16 * 4096 + byteAt l 1 % 64 * 64 + byteAt l 2 % 64 : Nat) : Int) then (byteAt l 0 % 16 * 4096 + byteAt l 1 % 64 * 64 + byteAt l 2 % 64, 3) else (65533, 1)
  else if byteAt l 0 / 8 == 30 && contAt l 1 && contAt l 2 && contAt l 3 then
    if byteAt l 0 % 8 * 262144 + byteAt l 1 % 64 * 4096 + byteAt l 2 % 64 * 64 + byteAt l 3 % 64 ≥ 65536 && Utf8.valid ((byteAt l 0 % 8 * 262144 + byteAt l 1 % 64 * 4096 + byteAt l 2 % 64 * 64 + byteAt l 3 % 64 : Nat) : Int) then (byteAt l 0 % 8 * 262144 + byteAt l 1 % 64 * 4096 + byteAt l 2 % 64 * 64 + byteAt l 3 % 64, 4) else (65533, 1)
  else (65533, 1)
theorem decode_list (s : ByteArray) (i : Nat) : Utf8.decode s i = uDec (s.data.toList.drop i) := by
  have hg : ∀ k, (s.get! (i + k)).toNat = byteAt (s.data.toList.drop i) k := by
    intro k
    simp only [byteAt, List.getD_eq_getElem?_getD, List.getElem?_drop, ByteArray.get!]
    rw [Array.getElem?_toList]
    simp [getElem!_def]
    cases s.data[i + k]? <;> rfl
  have hc : ∀ k, (decide (i + k < s.size) && byteAt (s.data.toList.drop i) k / 64 == 2) = contAt (s.data.toList.drop i) k := by
    intro k
    simp only [contAt, List.length_drop, Array.length_toList]
    congr 1
    simp only [ByteArray.size, decide_eq_decide]
    omega
  simp only [Utf8.decode, hg, hc]
  simp only [uDec, Utf8.runeError]
theorem byte_back {x : Int} {a : UInt8} (h : x = (a.toNat : Int)) : x.toNat.toUInt8 = a := by
  subst h
  simp
theorem valid_iff (r : Int) : Utf8.valid r = true ↔ (0 ≤ r ∧ r < 55296) ∨ (57344 ≤ r ∧ r ≤ 1114111) := by
  simp only [Utf8.valid, Bool.or_eq_true, Bool.and_eq_true, decide_eq_true_eq]
theorem enc_one {r : Int} (h0 : 0 ≤ r) (h1 : r ≤ 127) : Lib.encodeRune r = [r.toNat.toUInt8] := by
  simp [Lib.encodeRune, Lib.encodeRuneZ_one h0 h1]
theorem enc_two {r : Int} (h0 : 128 ≤ r) (h1 : r ≤ 2047) : Lib.encodeRune r = [(192 + r / 64).toNat.toUInt8, (128 + r % 64).toNat.toUInt8] := by
  simp [Lib.encodeRune, Lib.encodeRuneZ_two h0 h1]
theorem enc_three {r : Int} (h : (2048 ≤ r ∧ r < 55296) ∨ (57343 < r ∧ r ≤ 65535)) : Lib.encodeRune r = [(224 + r / 4096).toNat.toUInt8, (128 + r / 64 % 64).toNat.toUInt8, (128 + r % 64).toNat.toUInt8] := by
  simp [Lib.encodeRune, Lib.encodeRuneZ_three h]
theorem enc_four {r : Int} (h0 : 65536 ≤ r) (h1 : r ≤ 1114111) : Lib.encodeRune r = [(240 + r / 262144).toNat.toUInt8, (128 + r / 4096 % 64).toNat.toUInt8, (128 + r / 64 % 64).toNat.toUInt8, (128 + r % 64).toNat.toUInt8] := by
  simp [Lib.encodeRune, Lib.encodeRuneZ_four h0 h1]
theorem enc_bad {r : Int} (h : r < 0 ∨ (55296 ≤ r ∧ r ≤ 57343) ∨ 1114111 < r) : Lib.encodeRune r = [239, 191, 189] := by
  simp [Lib.encodeRune, Lib.encodeRuneZ_bad h]
theorem enc_65533 : Lib.encodeRune 65533 = [239, 191, 189] := by decide
theorem toU8 {x : Int} (h0 : 0 ≤ x) (h1 : x < 256) : (x.toNat.toUInt8).toNat = x.toNat := by
  show (UInt8.ofNat x.toNat).toNat = _
  rw [UInt8.toNat_ofNat']; omega
def wholeL (l : List UInt8) : Nat := if (uDec l).2 = 1 ∧ 128 ≤ byteAt l 0 then 0 else (uDec l).2
theorem ex2 {a : UInt8} {r : List UInt8} (h : 2 < (a :: r).length) : ∃ b c r', r = b :: c :: r' := by
  match r, h with
  | b :: c :: r', _ => exact ⟨b, c, r', rfl⟩
theorem ex3 {a : UInt8} {r : List UInt8} (h : 3 < (a :: r).length) : ∃ b c d r', r = b :: c :: d :: r' := by
  match r, h with
  | b :: c :: d :: r', _ => exact ⟨b, c, d, r', rfl⟩
theorem contAt_iff (l : List UInt8) (j : Nat) : contAt l j = true ↔ j < l.length ∧ byteAt l j / 64 = 2 := by
  simp [contAt]
theorem dec_cases (l : List UInt8) (hl : l ≠ []) :
    (wholeL l = 0 ∧ uDec l = (65533, 1) ∧ 128 ≤ byteAt l 0) ∨
    (wholeL l = (uDec l).2 ∧ 0 < (uDec l).2 ∧ (uDec l).2 ≤ 4 ∧ (uDec l).2 ≤ l.length ∧ Utf8.valid (uDec l).1 = true ∧ Lib.encodeRune (uDec l).1 = l.take (uDec l).2) := by
  obtain ⟨a, r, rfl⟩ := List.exists_cons_of_ne_nil hl
  by_cases h0 : byteAt (a :: r) 0 < 128
  · right
    have e : uDec (a :: r) = (byteAt (a :: r) 0, 1) := by simp only [uDec, if_pos h0]
    have hw : wholeL (a :: r) = 1 := by unfold wholeL; rw [e, if_neg (by omega)]
    have ha : byteAt (a :: r) 0 = a.toNat := rfl
    rw [hw, e]
    refine ⟨rfl, by omega, by omega, by simp, ?_, ?_⟩
    · rw [valid_iff]; simp only; omega
    · rw [enc_one (by simp) (by simp only; omega)]; simp [ha]
  · have bad : uDec (a :: r) = (65533, 1) → (wholeL (a :: r) = 0 ∧ uDec (a :: r) = (65533, 1) ∧ 128 ≤ byteAt (a :: r) 0) := fun e =>
      ⟨by unfold wholeL; rw [e, if_pos ⟨rfl, by omega⟩], e, by omega⟩
    have good : ∀ n w, uDec (a :: r) = (n, w) → 1 < w → wholeL (a :: r) = w := fun n w e hw => by
      unfold wholeL; rw [e, if_neg (by simp only; omega)]
    by_cases h2 : byteAt (a :: r) 0 / 32 = 6 ∧ contAt (a :: r) 1 = true
    · obtain ⟨c0, c1⟩ := h2
      by_cases h3 : byteAt (a :: r) 0 % 32 * 64 + byteAt (a :: r) 1 % 64 ≥ 128
      · right
        have e : uDec (a :: r) = (byteAt (a :: r) 0 % 32 * 64 + byteAt (a :: r) 1 % 64, 2) := by
          simp only [uDec, if_neg h0, c0, c1, beq_self_eq_true, Bool.and_self, if_true, if_pos h3]
        rw [good _ _ e (by omega), e]
        rw [contAt_iff] at c1
        match r, c1, e, h3, c0, h0 with
        | b :: r, c1, e, h3, c0, h0 =>
          have ha : byteAt (a :: b :: r) 0 = a.toNat := rfl
          have hb : byteAt (a :: b :: r) 1 = b.toNat := rfl
          have := UInt8.toNat_lt a; have := UInt8.toNat_lt b
          rw [ha, hb]
          refine ⟨rfl, by omega, by omega, by simp, ?_, ?_⟩
          · rw [valid_iff]; simp only; omega
          · rw [enc_two (by simp only; omega) (by simp only; omega)]
            rw [byte_back (a := a) (by simp only; omega), byte_back (a := b) (by simp only; omega)]
            rfl
      · left
        exact bad (by simp only [uDec, if_neg h0, c0, c1, beq_self_eq_true, Bool.and_self, if_true, if_neg h3])
    · have n2 : (byteAt (a :: r) 0 / 32 == 6 && contAt (a :: r) 1) = false := by
        cases hh : (byteAt (a :: r) 0 / 32 == 6 && contAt (a :: r) 1) with
        | false => rfl
        | true => simp only [Bool.and_eq_true, beq_iff_eq] at hh; exact absurd hh h2
      by_cases h4 : byteAt (a :: r) 0 / 16 = 14 ∧ contAt (a :: r) 1 = true ∧ contAt (a :: r) 2 = true
      · obtain ⟨c0, c1, c2⟩ := h4
        by_cases h5 : (decide (byteAt (a :: r) 0 % 16 * 4096 + byteAt (a :: r) 1 % 64 * 64 + byteAt (a :: r) 2 % 64 ≥ 2048) && Utf8.valid ((byteAt (a :: r) 0 % 16 * 4096 + byteAt (a :: r) 1 % 64 * 64 + byteAt (a :: r) 2 % 64 : Nat) : Int)) = true
        · right
          have e : uDec (a :: r) = (byteAt (a :: r) 0 % 16 * 4096 + byteAt (a :: r) 1 % 64 * 64 + byteAt (a :: r) 2 % 64, 3) := by
            simp only [uDec, if_neg h0, n2, Bool.false_eq_true, if_false]
            rw [if_pos (by simp [c0, c1, c2]), if_pos h5]
          rw [good _ _ e (by omega), e]
          rw [contAt_iff] at c1 c2
          simp only [Bool.and_eq_true, decide_eq_true_eq] at h5
          obtain ⟨h5, h6⟩ := h5
          obtain ⟨b, c, r, rfl⟩ := ex2 c2.1
          · skip
            have ha : byteAt (a :: b :: c :: r) 0 = a.toNat := rfl
            have hb : byteAt (a :: b :: c :: r) 1 = b.toNat := rfl
            have hc : byteAt (a :: b :: c :: r) 2 = c.toNat := rfl
            have := UInt8.toNat_lt a; have := UInt8.toNat_lt b; have := UInt8.toNat_lt c
            simp only [ha, hb, hc] at *
            refine ⟨trivial, by omega, by omega, by simp, h6, ?_⟩
            rw [valid_iff] at h6
            rw [enc_three (by omega)]
            rw [byte_back (a := a) (by omega), byte_back (a := b) (by omega), byte_back (a := c) (by omega)]
            rfl
        · left
          exact bad (by
            simp only [uDec, if_neg h0, n2, Bool.false_eq_true, if_false]
            rw [if_pos (by simp [c0, c1, c2]), if_neg h5])
      · have n4 : (byteAt (a :: r) 0 / 16 == 14 && contAt (a :: r) 1 && contAt (a :: r) 2) = false := by
          cases hh : (byteAt (a :: r) 0 / 16 == 14 && contAt (a :: r) 1 && contAt (a :: r) 2) with
          | false => rfl
          | true => simp only [Bool.and_eq_true, beq_iff_eq] at hh; exact absurd ⟨hh.1.1, hh.1.2, hh.2⟩ h4
        by_cases h6 : byteAt (a :: r) 0 / 8 = 30 ∧ contAt (a :: r) 1 = true ∧ contAt (a :: r) 2 = true ∧ contAt (a :: r) 3 = true
        · obtain ⟨c0, c1, c2, c3⟩ := h6
          by_cases h7 : (decide (byteAt (a :: r) 0 % 8 * 262144 + byteAt (a :: r) 1 % 64 * 4096 + byteAt (a :: r) 2 % 64 * 64 + byteAt (a :: r) 3 % 64 ≥ 65536) && Utf8.valid ((byteAt (a :: r) 0 % 8 * 262144 + byteAt (a :: r) 1 % 64 * 4096 + byteAt (a :: r) 2 % 64 * 64 + byteAt (a :: r) 3 % 64 : Nat) : Int)) = true
          · right
            have e : uDec (a :: r) = (byteAt (a :: r) 0 % 8 * 262144 + byteAt (a :: r) 1 % 64 * 4096 + byteAt (a :: r) 2 % 64 * 64 + byteAt (a :: r) 3 % 64, 4) := by
              simp only [uDec, if_neg h0, n2, n4, Bool.false_eq_true, if_false]
              rw [if_pos (by simp [c0, c1, c2, c3]), if_pos h7]
            rw [good _ _ e (by omega), e]
            rw [contAt_iff] at c1 c2 c3
            simp only [Bool.and_eq_true, decide_eq_true_eq] at h7
            obtain ⟨h7, h8⟩ := h7
            obtain ⟨b, c, d, r, rfl⟩ := ex3 c3.1
            · skip
              have ha : byteAt (a :: b :: c :: d :: r) 0 = a.toNat := rfl
              have hb : byteAt (a :: b :: c :: d :: r) 1 = b.toNat := rfl
              have hc : byteAt (a :: b :: c :: d :: r) 2 = c.toNat := rfl
              have hd : byteAt (a :: b :: c :: d :: r) 3 = d.toNat := rfl
              have := UInt8.toNat_lt a; have := UInt8.toNat_lt b; have := UInt8.toNat_lt c; have := UInt8.toNat_lt d
              simp only [ha, hb, hc, hd] at *
              refine ⟨trivial, by omega, by omega, by simp, h8, ?_⟩
              rw [valid_iff] at h8
              rw [enc_four (by omega) (by omega)]
              rw [byte_back (a := a) (by omega), byte_back (a := b) (by omega), byte_back (a := c) (by omega), byte_back (a := d) (by omega)]
              rfl
          · left
            exact bad (by
              simp only [uDec, if_neg h0, n2, n4, Bool.false_eq_true, if_false]
              rw [if_pos (by simp [c0, c1, c2, c3]), if_neg h7])
        · left
          have n6 : (byteAt (a :: r) 0 / 8 == 30 && contAt (a :: r) 1 && contAt (a :: r) 2 && contAt (a :: r) 3) = false := by
            cases hh : (byteAt (a :: r) 0 / 8 == 30 && contAt (a :: r) 1 && contAt (a :: r) 2 && contAt (a :: r) 3) with
            | false => rfl
            | true => simp only [Bool.and_eq_true, beq_iff_eq] at hh; exact absurd ⟨hh.1.1.1, hh.1.1.2, hh.1.2, hh.2⟩ h6
          exact bad (by simp only [uDec, if_neg h0, n2, n4, n6, Bool.false_eq_true, if_false])
def runeOf (r : Int) : Nat := if Utf8.valid r = true then r.toNat else 65533
theorem enc_runeOf (r : Int) : Lib.encodeRune (runeOf r) = Lib.encodeRune r := by
  unfold runeOf
  split
  · rename_i h
    rw [valid_iff] at h
    rw [Int.toNat_of_nonneg (by omega)]
  · rename_i h
    rw [valid_iff] at h
    rw [enc_bad (r := r) (by omega)]
    exact enc_65533
theorem dec_enc_valid (r : Int) (h : Utf8.valid r = true) (rest : List UInt8) :
    uDec (Lib.encodeRune r ++ rest) = (r.toNat, (Lib.encodeRune r).length) ∧ (128 ≤ r.toNat → 1 < (Lib.encodeRune r).length) := by
  have hv := h
  rw [valid_iff] at h
  by_cases c1 : r ≤ 127
  · rw [enc_one (by omega) c1]
    have h0 : byteAt ([r.toNat.toUInt8] ++ rest) 0 = r.toNat := by
      show (r.toNat.toUInt8).toNat = _
      rw [toU8 (by omega) (by omega)]
    refine ⟨?_, fun hh => by omega⟩
    simp only [uDec, h0]
    rw [if_pos (by omega)]
    rfl
  · by_cases c2 : r ≤ 2047
    · rw [enc_two (by omega) c2]
      have h0 : byteAt ([(192 + r / 64).toNat.toUInt8, (128 + r % 64).toNat.toUInt8] ++ rest) 0 = (192 + r / 64).toNat := by
        show ((192 + r / 64).toNat.toUInt8).toNat = _
        rw [toU8 (by omega) (by omega)]
      have h1 : byteAt ([(192 + r / 64).toNat.toUInt8, (128 + r % 64).toNat.toUInt8] ++ rest) 1 = (128 + r % 64).toNat := by
        show ((128 + r % 64).toNat.toUInt8).toNat = _
        rw [toU8 (by omega) (by omega)]
      have k1 : contAt ([(192 + r / 64).toNat.toUInt8, (128 + r % 64).toNat.toUInt8] ++ rest) 1 = true := by
        rw [contAt_iff]; exact ⟨by simp, by rw [h1]; omega⟩
      refine ⟨?_, fun _ => by simp⟩
      simp only [uDec, h0, h1, k1]
      rw [if_neg (by omega), if_pos (by simp; omega), if_pos (by omega)]
      refine Prod.ext ?_ rfl
      show (192 + r / 64).toNat % 32 * 64 + (128 + r % 64).toNat % 64 = _
      omega
    · by_cases c3 : r ≤ 65535
      · rw [enc_three (by omega)]
        generalize hL : [(224 + r / 4096).toNat.toUInt8, (128 + r / 64 % 64).toNat.toUInt8, (128 + r % 64).toNat.toUInt8] ++ rest = L
        have h0 : byteAt L 0 = (224 + r / 4096).toNat := by
          rw [← hL]; show ((224 + r / 4096).toNat.toUInt8).toNat = _
          rw [toU8 (by omega) (by omega)]
        have h1 : byteAt L 1 = (128 + r / 64 % 64).toNat := by
          rw [← hL]; show ((128 + r / 64 % 64).toNat.toUInt8).toNat = _
          rw [toU8 (by omega) (by omega)]
        have h2 : byteAt L 2 = (128 + r % 64).toNat := by
          rw [← hL]; show ((128 + r % 64).toNat.toUInt8).toNat = _
          rw [toU8 (by omega) (by omega)]
        have hl : 3 ≤ L.length := by rw [← hL]; simp
        have k1 : contAt L 1 = true := by rw [contAt_iff]; exact ⟨by omega, by rw [h1]; omega⟩
        have k2 : contAt L 2 = true := by rw [contAt_iff]; exact ⟨by omega, by rw [h2]; omega⟩
        have e : (224 + r / 4096).toNat % 16 * 4096 + (128 + r / 64 % 64).toNat % 64 * 64 + (128 + r % 64).toNat % 64 = r.toNat := by omega
        refine ⟨?_, fun _ => by simp⟩
        simp only [uDec, h0, h1, h2, k1, k2, e]
        rw [if_neg (by omega), if_neg (by simp; omega), if_pos (by simp; omega), if_pos (by rw [Int.toNat_of_nonneg (by omega), hv]; simp; omega)]
        rfl
      · rw [enc_four (by omega) (by omega)]
        generalize hL : [(240 + r / 262144).toNat.toUInt8, (128 + r / 4096 % 64).toNat.toUInt8, (128 + r / 64 % 64).toNat.toUInt8, (128 + r % 64).toNat.toUInt8] ++ rest = L
        have h0 : byteAt L 0 = (240 + r / 262144).toNat := by
          rw [← hL]; show ((240 + r / 262144).toNat.toUInt8).toNat = _
          rw [toU8 (by omega) (by omega)]
        have h1 : byteAt L 1 = (128 + r / 4096 % 64).toNat := by
          rw [← hL]; show ((128 + r / 4096 % 64).toNat.toUInt8).toNat = _
          rw [toU8 (by omega) (by omega)]
        have h2 : byteAt L 2 = (128 + r / 64 % 64).toNat := by
          rw [← hL]; show ((128 + r / 64 % 64).toNat.toUInt8).toNat = _
          rw [toU8 (by omega) (by omega)]
        have h3 : byteAt L 3 = (128 + r % 64).toNat := by
          rw [← hL]; show ((128 + r % 64).toNat.toUInt8).toNat = _
          rw [toU8 (by omega) (by omega)]
        have hl : 4 ≤ L.length := by rw [← hL]; simp
        have k1 : contAt L 1 = true := by rw [contAt_iff]; exact ⟨by omega, by rw [h1]; omega⟩
        have k2 : contAt L 2 = true := by rw [contAt_iff]; exact ⟨by omega, by rw [h2]; omega⟩
        have k3 : contAt L 3 = true := by rw [contAt_iff]; exact ⟨by omega, by rw [h3]; omega⟩
        have e : (240 + r / 262144).toNat % 8 * 262144 + (128 + r / 4096 % 64).toNat % 64 * 4096 + (128 + r / 64 % 64).toNat % 64 * 64 + (128 + r % 64).toNat % 64 = r.toNat := by omega
        refine ⟨?_, fun _ => by simp⟩
        simp only [uDec, h0, h1, h2, h3, k1, k2, k3, e]
        rw [if_neg (by omega), if_neg (by simp; omega), if_neg (by simp; omega), if_pos (by simp; omega), if_pos (by rw [Int.toNat_of_nonneg (by omega), hv]; simp; omega)]
        rfl
theorem enc_ne (r : Int) : Lib.encodeRune r ≠ [] := by
  intro h
  have := Lib.encodeRuneZ_length r
  have h2 := congrArg List.length h
  simp [Lib.encodeRune] at h2
  rw [h2] at this
  simp at this
theorem enc_len (r : Int) : 1 ≤ (Lib.encodeRune r).length ∧ (Lib.encodeRune r).length ≤ 4 := by
  have := Lib.encodeRuneZ_length r
  simpa [Lib.encodeRune] using this
theorem valid_runeOf (r : Int) : Utf8.valid (runeOf r) = true := by
  unfold runeOf
  split
  · rename_i h; rw [valid_iff] at h ⊢; omega
  · decide
theorem dec_enc (r : Int) (rest : List UInt8) : uDec (Lib.encodeRune r ++ rest) = (runeOf r, (Lib.encodeRune r).length) := by
  have h := (dec_enc_valid (runeOf r) (valid_runeOf r) rest).1
  rw [enc_runeOf] at h
  simpa using h
def Val (l : List UInt8) : Prop := ∃ rs : List Int, l = rs.flatMap Lib.encodeRune
theorem Val.nil : Val [] := ⟨[], rfl⟩
theorem Val.enc (r : Int) : Val (Lib.encodeRune r) := ⟨[r], by simp⟩
theorem Val.append {a b : List UInt8} (ha : Val a) (hb : Val b) : Val (a ++ b) := by
  obtain ⟨x, rfl⟩ := ha; obtain ⟨y, rfl⟩ := hb; exact ⟨x ++ y, by simp⟩
def valL : Nat → List UInt8 → List UInt8
  | 0, _ => []
  | n + 1, l => if l = [] then [] else Lib.encodeRune (uDec l).1 ++ valL n (l.drop (uDec l).2)
theorem dec_width (l : List UInt8) (hl : l ≠ []) : 1 ≤ (uDec l).2 ∧ (uDec l).2 ≤ l.length := by
  rcases dec_cases l hl with ⟨_, h, _⟩ | ⟨_, h1, _, h2, _⟩
  · rw [h]; have := List.length_pos_iff.2 hl; exact ⟨Nat.le_refl _, this⟩
  · exact ⟨h1, h2⟩
theorem valL_Val : ∀ (n : Nat) (l : List UInt8), Val (valL n l) := by
  intro n
  induction n with
  | zero => intro l; exact Val.nil
  | succ n ih =>
    intro l
    simp only [valL]
    split
    · exact Val.nil
    · exact (Val.enc _).append (ih _)
theorem valL_stays : ∀ (n : Nat) (l : List UInt8), Val l → l.length ≤ n → valL n l = l := by
  intro n
  induction n with
  | zero =>
    intro l _ hl
    obtain rfl : l = [] := List.eq_nil_of_length_eq_zero (by omega)
    rfl
  | succ n ih =>
    intro l hv hl
    obtain ⟨rs, rfl⟩ := hv
    cases rs with
    | nil => simp [valL]
    | cons r rs =>
      have e : (r :: rs).flatMap Lib.encodeRune = Lib.encodeRune r ++ rs.flatMap Lib.encodeRune := by simp
      rw [e] at hl ⊢
      have hne : Lib.encodeRune r ++ rs.flatMap Lib.encodeRune ≠ [] := by simp [enc_ne]
      simp only [valL, if_neg hne]
      rw [dec_enc, enc_runeOf]
      simp only [List.drop_left]
      have := enc_len r
      rw [ih _ ⟨rs, rfl⟩ (by rw [List.length_append] at hl; omega)]
theorem valL_len : ∀ (n : Nat) (l : List UInt8), (valL n l).length ≤ 3 * l.length := by
  intro n
  induction n with
  | zero => intro l; simp [valL]
  | succ n ih =>
    intro l
    simp only [valL]
    split
    · simp
    · rename_i h
      have h1 := ih (l.drop (uDec l).2)
      have hw := dec_width l h
      rw [List.length_append]
      rw [List.length_drop] at h1
      rcases dec_cases l h with ⟨_, h2, _⟩ | ⟨_, _, _, h3, _, h4⟩
      · rw [h2] at h1 hw ⊢
        have : (Lib.encodeRune ((65533, 1) : Nat × Nat).1).length = 3 := by decide
        simp only at *
        omega
      · rw [h4, List.length_take]; omega
end Go.Proofs.YtpcncpegbboljaaGreatDoor
namespace Go.Proofs.YtpcncpegbboljaaGreatDoor
open Go.RowKit Go.Shelf Go.Lib
set_option linter.unusedVariables false
set_option linter.unusedSimpArgs false
set_option maxHeartbeats 2000000 in
set_option maxRecDepth 1000000 in
theorem indexRune_bad (s : ByteArray) (ha : ∀ b ∈ s.data.toList, b.toNat < 128) (w : World) :
    Calls Tryz.prog 81 #[.string s, .int .i32 65533] w fun e w' => e = .returned (.int .i64 (-1)) ∧ Below w.heap.size w w' := by
  have HA := Lib.hid ha
  clear ha
  go_enter Tryz.func81, Tryz.ntmps81
  go_wp2
  go_loopw [] (fun wr => ∃ pos : Nat, wr.heap[w.heap.size]? = some (.stringIter s pos) ∧ Below w.heap.size w wr) (fun wr => s.size - wr.iterPos w.heap.size)
  case atStart =>
    refine ⟨0, ?_, (Below.refl _ w).alloc (Nat.le_refl _) _⟩
    exact World.iter_heap w s 0
  case round =>
    obtain ⟨pos, hit, hbw⟩ := hrel
    by_cases hp : pos < s.size
    · have hnx : ∀ ty, (Instr.next (.pointer (some ⟨w.heap.size, 0, none⟩)) true ty).run Tryz.prog wr = _ := fun ty => Lib.run_next_any_at wr w.heap.size s pos ty hit hp
      have hb : (s[pos]'hp).toNat < 128 := HA.out _ (by show s.data[pos] ∈ s.data.toList; simp)
      rw [decode_ascii s pos hp hb] at hnx
      simp only at hnx
      generalize (s[pos]'hp).toNat = c at *
      have c1 : ¬ ((c : Nat) : Int) = 65533 := by omega
      have hit2 := Lib.iterAt_heap wr w.heap.size s pos (pos + 1) hit
      have hbw2 := Lib.below_iterAt hbw (k := w.heap.size) (by omega) s (pos + 1)
      go_wp2
      go_roundw
      case rel => exact ⟨pos + 1, hit2, hbw2⟩
      case measure =>
        simp only [World.iterPos, hit2, hit]
        omega
    · have hnx : ∀ ty, (Instr.next (.pointer (some ⟨w.heap.size, 0, none⟩)) true ty).run Tryz.prog wr = _ := fun ty => Lib.run_next_end_at wr w.heap.size s pos ty hit hp
      go_wp2
      go_ret
      exact ⟨rfl, hbw⟩
theorem index_none : ∀ (l : List UInt8) (c : UInt8), (∀ b ∈ l, b.toNat < 128) → 128 ≤ c.toNat → Lib.indexByte l c = -1
  | [], _, _, _ => rfl
  | b :: l, c, h, hc => by
    have hb := h b (by simp)
    have hne : (b == c) = false := by
      apply beq_eq_false_iff_ne.2
      rintro rfl
      omega
    have ih := index_none l c (fun x hx => h x (by simp [hx])) hc
    simp [Lib.indexByte, hne, ih]
theorem mem_extract {s : ByteArray} {a b : Nat} {x : UInt8} (h : x ∈ (s.extract a b).data.toList) : x ∈ s.data.toList := by
  rw [ByteArray.data_extract, Array.toList_extract] at h
  exact List.mem_of_mem_drop (List.mem_of_mem_take h)
theorem u8_back (c : UInt8) : ((c.toNat : Int).toNat).toUInt8 = c := by
  show UInt8.ofNat c.toNat = c
  simp
set_option maxHeartbeats 2000000 in
set_option maxRecDepth 1000000 in
theorem indexRune_high (s : ByteArray) (ha : ∀ b ∈ s.data.toList, b.toNat < 128) (hs : 4 ≤ s.size) (hs2 : s.size ≤ 1000) (r : Int) (h0 : 128 ≤ r) (h1 : r ≤ 2147483647) (hr : r ≠ 65533) (w : World) :
    Calls Tryz.prog 81 #[.string s, .int .i32 r] w fun e w' => e = .returned (.int .i64 (-1)) ∧ Below w.heap.size w w' := by
  have HA := Lib.hid ha
  clear ha
  by_cases hv : Lib.validRune r = true
  · have HV := Lib.hid hv
    clear hv
    have hu : Utf8.valid r = true := by
      have := HV.out
      simp [Lib.validRune, Utf8.valid] at this ⊢
      omega
    obtain ⟨g1, g2, g3⟩ := encode_facts r hu h0
    have hcv : ∀ W, (convert 21 9 (.int .i32 r)).run Tryz.prog W = .ok (.string (Utf8.encode r)) W := fun W => run_convert_int_string W _ _ _ _ (by rw [Tryz.underlying21]; rfl) Tryz.underlying9
    generalize Utf8.encode r = rs at *
    have i1 : rs.size - 1 < s.size := by omega
    have i2 : ((rs.size : Int) - 1) < (s.size : Int) := by omega
    have i3 : rs.size - 1 < rs.size := by omega
    have i4 : ((rs.size : Int) - 1) < (rs.size : Int) := by omega
    have j1 : (s[rs.size - 1]'i1).toNat < 128 := HA.out _ (by show s.data[rs.size - 1] ∈ s.data.toList; simp)
    have j2 : 128 ≤ (rs[rs.size - 1]'i3).toNat := g3 i3
    generalize hm : rs.size - 1 = m at *
    have hrs : rs.size = m + 1 := by omega
    have i7 : (rs.size : Int) - 1 = (m : Int) := by omega
    have HRS := Lib.hid hrs; have I4 := Lib.hid i4
    clear hrs i4 i2
    go_enter Tryz.func81, Tryz.ntmps81
    go_wp2_with (go_at_call 109; refine (Tryz.utf8_ValidRune r _).mono ?_; rintro e W1 ⟨rfl, rfl⟩; rw [HV.out])
    go_step3
    go_wp2_with fail
    go_loopw [9] (fun i wr => i = .int .i64 (m : Int) ∧ wr = W1) (fun _ _ => 0)
    case atStart => exact ⟨rfl, rfl⟩
    case round =>
      obtain ⟨rfl, rfl⟩ := hrel
      have i5 : (m : Int) < (s.size : Int) := by omega
      have i6 : (m : Int) < (rs.size : Int) := by omega
      go_wp2_with fail
      go_step3
      go_wp2_with fail
      go_quiet (fail)
      go_wp2_with fail
      have k1 : ∀ a b W, Calls Tryz.prog 108 #[.string (s.extract a b), .int .u8 (rs[m].toNat : Int)] W fun e w' => e = .returned (.int .i64 (-1)) ∧ w' = W := fun a b W =>
        (Tryz.strings_IndexByte _ _ W).mono (by rintro e W2 ⟨rfl, rfl⟩; rw [u8_back, index_none _ _ (fun x hx => HA.out x (mem_extract hx)) j2]; exact ⟨rfl, rfl⟩)
      have K1 := Lib.hid k1
      clear k1
      have i8 : m + 1 ≤ s.size := by omega
      have i9 : (m : Int) + 1 ≤ (s.size : Int) := by omega
      have i10 : IntKind.i64.wrap ((m : Int) + 1) = (m : Int) + 1 := wrap_small _ (by omega) (by omega)
      have i11 : (0 : Int) ≤ (m : Int) + 1 := by omega
      have hsl : ∀ W, (Instr.slice 9 (.string s) (some (.int .i64 ((m : Int) + 1))) none none).run Tryz.prog W = .ok (.string (s.extract (m + 1) s.size)) W := fun W => by
        rw [run_slice_string_l W 9 s Tryz.underlying9 .i64 _ i11 i9]
        rfl
      go_quiet ((go_at_call 108; refine (K1.out _ _ _).mono ?_; rintro e W ⟨rfl, rfl⟩; exact ⟨rfl, _, rfl⟩))
      go_wp2_with fail
      rw [Exit.noGoto_ret]
      repeat (change Exit.noGoto _ Exit.ret _ _; rw [Exit.noGoto_ret])
      change bodyPost Tryz.prog Tryz.f81 _ Exit.ret _ _
      go_ret
      exact ⟨rfl, bdrewN (Below.refl _ _) _⟩
  · have HV := Lib.hid (Bool.eq_false_iff.2 hv)
    clear hv
    go_enter Tryz.func81, Tryz.ntmps81
    go_wp2_with (go_at_call 109; refine (Tryz.utf8_ValidRune r _).mono ?_; rintro e W1 ⟨rfl, rfl⟩; rw [HV.out])
    go_ret
    exact ⟨rfl, Below.refl _ _⟩
def idxRune (chars : List UInt8) (r : Nat) : Int := if r < 128 then Lib.indexByte chars r.toUInt8 else -1
theorem indexRune_any (chars : ByteArray) (ha : ∀ b ∈ chars.data.toList, b.toNat < 128) (h4 : 4 ≤ chars.size) (h5 : chars.size ≤ 1000) (r : Nat) (hr : r ≤ 2147483647) (w : World) :
    Calls Tryz.prog 81 #[.string chars, .int .i32 (r : Int)] w fun e w' => e = .returned (.int .i64 (idxRune chars.data.toList r)) ∧ Below w.heap.size w w' := by
  by_cases h : r < 128
  · refine (Tryz.strings_IndexRune_ascii _ (r : Int) w (by omega) (by omega)).mono ?_
    rintro e w' ⟨rfl, rfl⟩
    unfold idxRune
    rw [if_pos h]
    exact ⟨rfl, Below.refl _ _⟩
  · unfold idxRune
    rw [if_neg h]
    by_cases h2 : r = 65533
    · subst h2
      exact indexRune_bad _ ha w
    · exact indexRune_high _ ha h4 h5 _ (by omega) (by omega) (by omega) w
theorem enc_high (r : Int) (h : 128 ≤ r) : ∀ b ∈ Lib.encodeRune r, 128 ≤ b.toNat := by
  intro b hb
  by_cases h1 : r ≤ 2047
  · rw [enc_two h h1] at hb
    rcases List.mem_cons.1 hb with rfl | hb
    · rw [toU8 (by omega) (by omega)]; omega
    · rcases List.mem_cons.1 hb with rfl | hb
      · rw [toU8 (by omega) (by omega)]; omega
      · simp at hb
  · by_cases h2 : (2048 ≤ r ∧ r < 55296) ∨ (57343 < r ∧ r ≤ 65535)
    · rw [enc_three h2] at hb
      rcases List.mem_cons.1 hb with rfl | hb
      · rw [toU8 (by omega) (by omega)]; omega
      · rcases List.mem_cons.1 hb with rfl | hb
        · rw [toU8 (by omega) (by omega)]; omega
        · rcases List.mem_cons.1 hb with rfl | hb
          · rw [toU8 (by omega) (by omega)]; omega
          · simp at hb
    · by_cases h3 : 65536 ≤ r ∧ r ≤ 1114111
      · rw [enc_four h3.1 h3.2] at hb
        rcases List.mem_cons.1 hb with rfl | hb
        · rw [toU8 (by omega) (by omega)]; omega
        · rcases List.mem_cons.1 hb with rfl | hb
          · rw [toU8 (by omega) (by omega)]; omega
          · rcases List.mem_cons.1 hb with rfl | hb
            · rw [toU8 (by omega) (by omega)]; omega
            · rcases List.mem_cons.1 hb with rfl | hb
              · rw [toU8 (by omega) (by omega)]; omega
              · simp at hb
      · rw [enc_bad (by omega)] at hb
        have : ∀ b ∈ ([239, 191, 189] : List UInt8), 128 ≤ b.toNat := by decide
        exact this b hb
theorem dec_highs (l : List UInt8) (hl : l ≠ []) (h : 128 ≤ byteAt l 0) : 128 ≤ (uDec l).1 ∧ ∀ b ∈ l.take (uDec l).2, 128 ≤ b.toNat := by
  rcases dec_cases l hl with ⟨_, e, _⟩ | ⟨_, h1, _, h2, hv, he⟩
  · rw [e]
    refine ⟨by simp, fun b hb => ?_⟩
    cases l with
    | nil => exact absurd rfl hl
    | cons c r =>
      simp only [List.take_succ_cons, List.take_zero, List.mem_singleton] at hb
      subst hb; exact h
  · have h128 : 128 ≤ (uDec l).1 := by
      rcases Nat.lt_or_ge (uDec l).1 128 with hlt | hge
      · rw [enc_one (by omega) (by omega)] at he
        cases l with
        | nil => exact absurd rfl hl
        | cons c r =>
          obtain ⟨k, hk⟩ : ∃ k, (uDec (c :: r)).2 = k + 1 := ⟨(uDec (c :: r)).2 - 1, by omega⟩
          rw [hk, List.take_succ_cons] at he
          injection he with he _
          have hb : byteAt (c :: r) 0 = c.toNat := rfl
          rw [hb, ← he, toU8 (by omega) (by omega)] at h
          omega
      · exact hge
    refine ⟨h128, fun b hb => ?_⟩
    rw [← he] at hb
    exact enc_high _ (by omega) b hb
theorem any_iff_index (s chars : List UInt8) : decide (0 ≤ Lib.indexAny s chars) = s.any chars.contains := by
  induction s with
  | nil => rfl
  | cons b l ih =>
    have hge := Lib.indexAny_ge chars l
    rw [Lib.indexAny, List.any_cons]
    cases h : chars.contains b with
    | true => simp
    | false =>
      rw [if_neg Bool.false_ne_true, Bool.false_or, ← ih]
      by_cases h1 : Lib.indexAny l chars = -1
      · rw [h1]; rfl
      · rw [if_neg (by simpa using h1)]
        exact decide_eq_decide.2 (by omega)
theorem noAny_skip {s chars : List UInt8} {i k : Nat} (h : Lib.NoAny s chars i) (hc : ∀ b ∈ chars, b.toNat < 128) (hk : ∀ b ∈ (s.drop i).take k, 128 ≤ b.toNat) : Lib.NoAny s chars (i + k) := by
  intro j b hj hb
  by_cases h1 : j < i
  · exact h j b h1 hb
  · have hm : b ∈ (s.drop i).take k := by
      refine List.mem_of_getElem? (i := j - i) ?_
      rw [List.getElem?_take_of_lt (by omega), List.getElem?_drop, show i + (j - i) = j by omega]
      exact hb
    have h2 := hk b hm
    rw [Bool.eq_false_iff]
    intro h3
    have := hc b (by simpa using h3)
    omega
set_option maxHeartbeats 4000000 in
set_option maxRecDepth 1000000 in
theorem indexAny_short (s chars : ByteArray) (ha : ∀ b ∈ chars.data.toList, b.toNat < 128) (h4 : 4 ≤ chars.size) (h5 : chars.size ≤ 1000) (h8 : s.size ≤ 8) (w : World) :
    Calls Tryz.prog 53 #[.string s, .string chars] w fun e w' => e = .returned (.int .i64 (Lib.indexAny s.data.toList chars.data.toList)) ∧ Below w.heap.size w w' := by
  have IR := Lib.hid (fun (r : Nat) (hr : r ≤ 2147483647) => indexRune_any chars ha h4 h5 r hr)
  have HA := Lib.hid ha
  clear ha
  have hemp : chars.toList.isEmpty = false := by
    rw [Lib.toList_data]
    cases h : chars.data.toList with
    | nil => have := Lib.size_eq chars; rw [h, List.length_nil] at this; omega
    | cons _ _ => rfl
  have hne : ¬ chars.toList = [] := by intro e; rw [e] at hemp; simp at hemp
  have hn1 : ((chars.size : Int) == 1) = false := beq_eq_false_iff_ne.2 (by omega)
  have hn2 : ¬ chars.size = 1 := by omega
  have h8z : decide ((8 : Int) < (s.size : Int)) = false := decide_eq_false (by omega)
  have hl : s.data.toList.length = s.size := by simp
  have HL := Lib.hid hl
  clear hl
  go_enter Tryz.func53, Tryz.ntmps53
  go_wp2_with (go_at_call 82; refine (Tryz.strings_shouldUseASCIISet _ _).mono ?_; rintro e w' ⟨rfl, hw⟩; rw [hw, h8z])
  go_loopw [9, 10] (fun _ _ wr => ∃ pos : Nat, wr.heap[w.heap.size]? = some (.stringIter s pos) ∧ Below w.heap.size w wr ∧ Lib.NoAny s.data.toList chars.data.toList pos ∧ pos ≤ s.size) (fun _ _ wr => s.size - wr.iterPos w.heap.size)
  case atStart => exact ⟨0, World.iter_heap w s 0, (Below.refl _ w).alloc (Nat.le_refl _) _, Lib.NoAny.zero _ _, Nat.zero_le _⟩
  case round =>
    obtain ⟨pos, hit, hbw, hno, hps⟩ := hrel
    have HN := Lib.hid hno
    have HBW := Lib.hid hbw
    clear hno hbw
    by_cases hp : pos < s.size
    · have hnx : ∀ ty, (Instr.next (.pointer (some ⟨w.heap.size, 0, none⟩)) true ty).run Tryz.prog wr = _ := fun ty => Lib.run_next_any_at wr w.heap.size s pos ty hit hp
      have hd1 := decode_le s pos
      have hdl := decode_list s pos
      have hcons : s.data.toList.drop pos = s[pos] :: s.data.toList.drop (pos + 1) := List.drop_eq_getElem_cons (by rw [HL.out]; exact hp)
      have hxl : s.data.toList[pos]? = some s[pos] := Lib.data_getElem? s pos hp
      have hb0 : byteAt (s.data.toList.drop pos) 0 = (s[pos]).toNat := by rw [hcons]; rfl
      have hwd := dec_width (s.data.toList.drop pos) (by rw [hcons]; simp)
      have hlo : (s[pos]).toNat < 128 → uDec (s.data.toList.drop pos) = ((s[pos]).toNat, 1) := fun h => by unfold uDec; rw [hb0, if_pos h]
      have hhi : 128 ≤ (s[pos]).toNat → 128 ≤ (uDec (s.data.toList.drop pos)).1 ∧ ∀ b ∈ (s.data.toList.drop pos).take (uDec (s.data.toList.drop pos)).2, 128 ≤ b.toNat := fun h => dec_highs _ (by rw [hcons]; simp) (by rw [hb0]; exact h)
      have hwl : (s.data.toList.drop pos).length = s.size - pos := by rw [List.length_drop, HL.out]
      rw [hwl] at hwd
      clear hcons hb0 hwl
      rw [hdl] at hnx hd1
      clear hdl
      generalize s[pos] = x at *
      generalize uDec (s.data.toList.drop pos) = d at *
      obtain ⟨r, k⟩ := d
      simp only at hnx hd1 hwd hlo hhi
      have hit2 := Lib.iterAt_heap wr w.heap.size s pos (pos + k) hit
      have hszB : w.heap.size < wr.heap.size := (Array.getElem?_eq_some_iff.1 hit).1
      have hbw2 := Lib.below_iterAt HBW.out (k := w.heap.size) (Nat.le_refl _) s (pos + k)
      have hszB2 : w.heap.size < (wr.iterAt w.heap.size s (pos + k)).heap.size := by rw [Lib.iterAt_size]; exact hszB
      have HIT2 := Lib.hid hit2; have BW2 := Lib.hid hbw2
      clear hit2 hbw2
      have IR2 := Lib.hid (IR.out r (by omega))
      by_cases hin : idxRune chars.data.toList r < 0
      · have hno2 : Lib.NoAny s.data.toList chars.data.toList (pos + k) := by
          rcases Nat.lt_or_ge x.toNat 128 with hx | hx
          · have e := hlo hx
            injection e with e1 e2
            subst e1 e2
            refine HN.out.succ hxl ?_
            have hcon := Lib.contains_iff_indexByte chars.data.toList x
            unfold idxRune at hin
            rw [if_pos hx, show x.toNat.toUInt8 = x by simp] at hin
            rw [hcon]; exact decide_eq_false (by omega)
          · exact noAny_skip HN.out HA.out (hhi hx).2
        have HN2 := Lib.hid hno2
        have hneg : ¬ (0 : Int) ≤ idxRune chars.data.toList r := by omega
        clear hno2 hlo hhi hxl
        generalize idxRune chars.data.toList r = v at *
        go_wp2_with (go_at_call 81; refine (IR2.out _).mono ?_; rintro e W2 ⟨rfl, b2⟩; have B2 := Lib.hid b2; clear b2)
        go_roundw
        case rel => exact ⟨pos + k, by rw [B2.out.block _ hszB2]; exact HIT2.out, BW2.out.trans (B2.out.mono BW2.out.size), HN2.out, by omega⟩
        case measure =>
          have e1 : W2.heap[w.heap.size]? = some (.stringIter s (pos + k)) := by rw [B2.out.block _ hszB2]; exact HIT2.out
          simp only [World.iterPos, e1, hit]
          omega
      · have hx : x.toNat < 128 := by
          rcases Nat.lt_or_ge x.toNat 128 with hx | hx
          · exact hx
          · have := (hhi hx).1
            unfold idxRune at hin
            rw [if_neg (by omega)] at hin; omega
        have e := hlo hx
        injection e with e1 e2
        subst e1 e2
        have hres : Lib.indexAny s.data.toList chars.data.toList = (pos : Int) := by
          refine Lib.indexAny_hit HN.out hxl ?_
          have hcon := Lib.contains_iff_indexByte chars.data.toList x
          unfold idxRune at hin
          rw [if_pos hx, show x.toNat.toUInt8 = x by simp] at hin
          rw [hcon]; exact decide_eq_true (by omega)
        have HR := Lib.hid hres
        have hpz : (0 : Int) ≤ idxRune chars.data.toList x.toNat := by omega
        clear hres hlo hhi hxl hin
        generalize idxRune chars.data.toList x.toNat = v at *
        go_wp2_with (go_at_call 81; refine (IR2.out _).mono ?_; rintro e W2 ⟨rfl, b2⟩; have B2 := Lib.hid b2; clear b2)
        go_ret
        exact ⟨by rw [HR.out]; rfl, BW2.out.trans (B2.out.mono BW2.out.size)⟩
    · have hnx : ∀ ty, (Instr.next (.pointer (some ⟨w.heap.size, 0, none⟩)) true ty).run Tryz.prog wr = _ := fun ty => Lib.run_next_end_at wr w.heap.size s pos ty hit hp
      go_wp2
      go_ret
      refine ⟨?_, HBW.out⟩
      rw [Lib.indexAny_none (by rw [HL.out]; exact fun j b hj hb => HN.out j b (by omega) hb)]; rfl
set_option maxHeartbeats 1000000 in
theorem containsAny_c (s chars : ByteArray) (ha : ∀ b ∈ chars.data.toList, b.toNat < 128) (h4 : 4 ≤ chars.size) (h5 : chars.size ≤ 1000) (hs : s.size ≤ 11000000) (w : World) :
    Calls Tryz.prog 25 #[.string s, .string chars] w fun e w' => e = .returned (.bool (s.data.toList.any chars.data.toList.contains)) ∧ Below w.heap.size w w' := by
  have c : Calls Tryz.prog 53 #[.string s, .string chars] w fun e w' => e = .returned (.int .i64 (Lib.indexAny s.data.toList chars.data.toList)) ∧ Below w.heap.size w w' := by
    by_cases h8 : s.size ≤ 8
    · exact indexAny_short s chars ha h4 h5 h8 w
    · refine (Tryz.strings_IndexAny_long (zero_of_info (show (Tryz.prog.info? 94).map (fun i => (i.zero, i.size)) = some (some (.agg (Array.replicate 256 (.bool false))), 256) by kernel_rfl)).1 s chars w (by omega) (by omega) (by omega) (by omega) (fun j b hb => ha b (List.mem_of_getElem? hb))).mono ?_
      rintro e w' ⟨rfl, rfl⟩
      exact ⟨rfl, ((Below.refl _ _).alloc (Nat.le_refl _) _).alloc (by simp) _⟩
  have CC := Lib.hid c
  have e := any_iff_index s.data.toList chars.data.toList
  rw [← e]
  clear c ha e
  generalize Lib.indexAny s.data.toList chars.data.toList = v at *
  go_enter Tryz.func25, Tryz.ntmps25
  go_wp2_with (go_at_call 53; refine CC.out.mono ?_; rintro e w' ⟨rfl, hw⟩)
  go_ret
  exact ⟨rfl, hw⟩
end Go.Proofs.YtpcncpegbboljaaGreatDoor
namespace Go.Proofs.YtpcncpegbboljaaGreatDoor.Bld
open Go.RowKit
set_option linter.unusedVariables false
abbrev TB : Nat := 48
theorem sizeBuilder : (Tryz.prog.info? 48).map (·.size) = some 2 := by kernel_rfl
theorem liesBuilder : liesAt Tryz.prog Tryz.prog.depth 48 (2 / Tryz.prog.cellsOf 48) 0 48 1 = true := by kernel_rfl
theorem infoByte : (Tryz.prog.info? 5).map (fun i => (i.zero, i.size, i.bytes)) = some (some (.int .u8 0), 1, 1) := by kernel_rfl
set_option maxHeartbeats 1000000 in
set_option maxRecDepth 100000 in
theorem copyCheck_used (b : Nat) (w : World) (h0 : w.cell? ⟨b, 0, none⟩ = some (.pointer (some ⟨b, 0, none⟩))) :
    Calls Tryz.prog 64 #[.pointer (some ⟨b, 0, none⟩)] w fun e w' => e = .returned (.tuple #[]) ∧ w' = w := by
  obtain ⟨j, hj, _⟩ := Option.map_eq_some_iff.1 sizeBuilder
  go_enter Tryz.func64, Tryz.ntmps64
  go_wp2
  rw [Lib.run_neq_ptr_same w _ Tryz.underlying46 hj]
  go_wp2
  go_end0
  exact ⟨rfl, rfl⟩
set_option maxHeartbeats 1000000 in
set_option maxRecDepth 100000 in
theorem copyCheck_fresh (b : Nat) (w : World) (h0 : w.cell? ⟨b, 0, none⟩ = some (.pointer none)) (hsh : w.shape? b = some (48, 2)) (hfz : w.frozen? ⟨b, 0, none⟩ = false) :
    Calls Tryz.prog 64 #[.pointer (some ⟨b, 0, none⟩)] w fun e w' => e = .returned (.tuple #[]) ∧ w' = w.setCell ⟨b, 0, none⟩ (.pointer (some ⟨b, 0, none⟩)) := by
  obtain ⟨j, hj, hjs⟩ := Option.map_eq_some_iff.1 sizeBuilder
  go_enter Tryz.func64, Tryz.ntmps64
  go_wp2
  rw [Lib.run_to_unsafe w ⟨b, 0, none⟩ Tryz.underlying46 Tryz.underlying108 hj (by rw [hjs]; decide) hsh (Nat.zero_lt_succ 1)]
  simp only [Result.andThen]
  rw [Oper.upon_value]
  go_wp2
  rw [run_callFunc_extern Tryz.func94 (by kernel_rfl) (by kernel_rfl) (by kernel_rfl) (e := Extern.AbiNoEscape.same) (by kernel_rfl)]
  rw [Lib.run_noEscape]
  simp only [Result.andThen]
  rw [Oper.upon_value]
  go_wp2
  rw [Lib.run_from_unsafe w ⟨b, 0, none⟩ Tryz.underlying108 Tryz.underlying46 hj hsh liesBuilder]
  simp only [Result.andThen]
  rw [Oper.upon_value]
  go_wp2
  go_end0
  exact ⟨rfl, rfl⟩
theorem copyCheck_k (B b : Nat) (bs : List Value) (w : World) (h : Lib.IsBuilderF 48 5 B b bs w) :
    Calls Tryz.prog 64 #[.pointer (some ⟨b, 0, none⟩)] w fun e w' => e = .returned (.tuple #[]) ∧ (Lib.BuilderAtF 48 5 B b (.pointer (some ⟨b, 0, none⟩)) bs w' ∧ Below B w w' ∧ Lib.OthersKept 5 (some b) w w') := by
  rcases h with h | h
  · refine (copyCheck_fresh b w h.cell0 h.shape h.frozen0).mono ?_
    rintro e w' ⟨rfl, rfl⟩
    exact ⟨rfl, h.used _, (Below.refl B w).setCell (p := ⟨b, 0, none⟩) h.1 _, (Lib.OthersKept.refl _ _ w).setCell ⟨b, 0, none⟩ rfl _⟩
  · refine (copyCheck_used b w h.cell0).mono ?_
    rintro e w' ⟨rfl, rfl⟩
    exact ⟨rfl, h, Below.refl B _, Lib.OthersKept.refl _ _ _⟩
set_option maxHeartbeats 2000000 in
set_option maxRecDepth 100000 in
theorem WriteByte_k (B b : Nat) (bs : List Value) (c : Int) (w : World) (h : Lib.IsBuilderF 48 5 B b bs w) (hlen : bs.length + 1 ≤ 140737488355328) (hBw : B ≤ w.heap.size) :
    Calls Tryz.prog 67 #[.pointer (some ⟨b, 0, none⟩), .int .u8 c] w fun e w' => e = .returned .nilIface ∧ (Lib.IsBuilderF 48 5 B b (bs ++ [.int .u8 c]) w' ∧ Below B w w' ∧ Lib.OthersKept 5 (some b) w w') := by
  obtain ⟨i0, hi, hz0, hz1, hz2⟩ := info_parts infoByte
  go_enter Tryz.func67, Tryz.ntmps67
  go_wp2_with (go_at_call 64; refine (copyCheck_k B b bs _ h).mono ?_)
  rintro e w1 ⟨rfl, h1, hb1, hk1⟩
  obtain ⟨hB, v, hbk, hown, hne⟩ := h1
  have c0 : w1.cell? ⟨b, 0, none⟩ = some (.pointer (some ⟨b, 0, none⟩)) := by rw [Lib.cell_of_heap hbk]; rfl
  have c1 : w1.cell? ⟨b, 1, none⟩ = some v := by rw [Lib.cell_of_heap hbk]; rfl
  go_wp2_with (at_builtin; refine wpList_append_ownF _ rfl _ _ 45 rfl B 5 i0 (.int .u8 0) 1 1 Tryz.underlying45 hi hz0 hz1 hz2 rfl (by decide) _ _ _ rfl (hown.alloc _) ⟨w1.heap.size, 0, none⟩ 1 1 [.int .u8 c] rfl rfl ?c1 ?c2 ?c3 ?c4 ?c5 ?_)
  case c1 =>
    intro j u hj
    match j, hj with
    | 0, hj => simp at hj; subst hj; simp [Addr.add]
  case c2 => intro u hu; simp at hu; subst hu; rfl
  case c3 => unfold maxLen; omega
  case c4 => omega
  case c5 => have := hb1.size; simp; omega
  intro v' w2 hown' hgrow _
  have hlt : b < w1.heap.size := by
    rcases Nat.lt_or_ge b w1.heap.size with h' | h'
    · exact h'
    · simp [Array.getElem?_eq_none h'] at hbk
  have hb2 : w2.heap[b]? = some (.cells #[.pointer (some ⟨b, 0, none⟩), v] 48 (0, 0)) := by
    rw [hgrow.block b (by simp; omega) (fun e => hne e.symm), Lib.alloc_old w1 _ b hlt]
    exact hbk
  have d0 : w2.cell? ⟨b, 0, none⟩ = some (.pointer (some ⟨b, 0, none⟩)) := by rw [Lib.cell_of_heap hb2]; rfl
  have d1 : w2.cell? ⟨b, 1, none⟩ = some v := by rw [Lib.cell_of_heap hb2]; rfl
  have f1 : w2.frozen? ⟨b, 1, none⟩ = false := Lib.frozen_of_heap hb2 1
  obtain ⟨g, cap, rfl⟩ : ∃ g cap, v' = .slice (some ⟨g, 0, none⟩) (bs.length + 1) cap := by
    rcases hown'.2 with ⟨_, h0⟩ | ⟨g, cap, cur, fz, hv, _⟩
    · omega
    · exact ⟨g, cap, hv⟩
  go_wp2
  go_ret
  refine ⟨rfl, .inr ?_, ?_, ((hk1.alloc _).grown hgrow (Lib.ownsRowF_kind (hown.alloc _))).setCell ⟨b, 1, none⟩ rfl _⟩
  · exact Lib.BuilderAtF.put (T := 48) (e := 5) hB hb2 (bs' := bs ++ [.int .u8 c]) (by simpa using hown') (by decide)
  · exact ((hb1.alloc (by have := hb1.size; omega) _).grown hgrow (by have := hb1.size; simp; omega) (fun k hk => (hown.lt k hk).1)).setCell (p := ⟨b, 1, none⟩) hB _
set_option maxHeartbeats 2000000 in
set_option maxRecDepth 100000 in
theorem WriteString_k (B b : Nat) (bs : List Value) (s : ByteArray) (w : World) (h : Lib.IsBuilderF 48 5 B b bs w) (hlen : bs.length + s.size ≤ 140737488355328) (hBw : B ≤ w.heap.size) :
    Calls Tryz.prog 41 #[.pointer (some ⟨b, 0, none⟩), .string s] w fun e w' => e = .returned (.tuple #[.int .i64 s.size, .nilIface]) ∧ (Lib.IsBuilderF 48 5 B b (bs ++ Lib.strCells s) w' ∧ Below B w w' ∧ Lib.OthersKept 5 (some b) w w') := by
  obtain ⟨i0, hi, hz0, hz1, hz2⟩ := info_parts infoByte
  go_enter Tryz.func41, Tryz.ntmps41
  go_wp2_with (go_at_call 64; refine (copyCheck_k B b bs _ h).mono ?_)
  rintro e w1 ⟨rfl, h1, hb1, hk1⟩
  obtain ⟨hB, v, hbk, hown, hne⟩ := h1
  have c0 : w1.cell? ⟨b, 0, none⟩ = some (.pointer (some ⟨b, 0, none⟩)) := by rw [Lib.cell_of_heap hbk]; rfl
  have c1 : w1.cell? ⟨b, 1, none⟩ = some v := by rw [Lib.cell_of_heap hbk]; rfl
  go_wp2_with (at_builtin; refine Lib.wpList_append_own_stringF _ rfl _ _ 45 9 rfl B 5 i0 Tryz.underlying45 Tryz.underlying9 hi hz0 hz1 hz2 _ _ _ rfl hown s rfl ?c3 ?c4 ?c5 ?_)
  case c3 => unfold maxLen; omega
  case c4 => omega
  case c5 => have := hb1.size; omega
  intro v' w2 hown' hgrow _
  have hlt : b < w1.heap.size := by
    rcases Nat.lt_or_ge b w1.heap.size with h' | h'
    · exact h'
    · simp [Array.getElem?_eq_none h'] at hbk
  have hb2 : w2.heap[b]? = some (.cells #[.pointer (some ⟨b, 0, none⟩), v] 48 (0, 0)) := by
    rw [hgrow.block b hlt (fun e => hne e.symm)]
    exact hbk
  have d0 : w2.cell? ⟨b, 0, none⟩ = some (.pointer (some ⟨b, 0, none⟩)) := by rw [Lib.cell_of_heap hb2]; rfl
  have d1 : w2.cell? ⟨b, 1, none⟩ = some v := by rw [Lib.cell_of_heap hb2]; rfl
  have f1 : w2.frozen? ⟨b, 1, none⟩ = false := Lib.frozen_of_heap hb2 1
  obtain ⟨ao, n', cap, rfl⟩ : ∃ ao n' cap, v' = .slice ao n' cap := by
    rcases hown'.2 with ⟨hv, _⟩ | ⟨g, cap, cur, fz, hv, _⟩
    · exact ⟨_, _, _, hv⟩
    · exact ⟨_, _, _, hv⟩
  go_wp2
  go_ret2
  refine ⟨rfl, .inr ?_, ?_, (hk1.grown hgrow (Lib.ownsRowF_kind hown)).setCell ⟨b, 1, none⟩ rfl _⟩
  · exact Lib.BuilderAtF.put (T := 48) (e := 5) hB hb2 (bs' := bs ++ Lib.strCells s) (by simpa [Lib.strCells_length] using hown') (by decide)
  · exact (hb1.grown hgrow (by have := hb1.size; omega) (fun k hk => (hown.lt k hk).1)).setCell (p := ⟨b, 1, none⟩) hB _
set_option maxHeartbeats 4000000 in
set_option maxRecDepth 100000 in
theorem WriteRune_k (append : ∀ (B : Nat) (v : Value) (n : Nat) (xs : List Value) (r : Int) (hr0 : -2147483648 ≤ r) (hr1 : r ≤ 2147483647) (w : World) (hown : w.ownsRowF B 5 1 v n xs) (hlen : n + 4 ≤ 140737488355328) (hBw : B ≤ w.heap.size), Calls Tryz.prog 65 #[v, .int .i32 r] w fun e w' => ∃ v', e = .returned v' ∧ w'.ownsRowF B 5 1 v' (n + (Lib.runeCells r).length) (xs ++ Lib.runeCells r) ∧ ∃ o, (w.alloc o).grownBy w' v.ownBlock)
    (B b : Nat) (bs : List Value) (r : Int) (hr0 : -2147483648 ≤ r) (hr1 : r ≤ 2147483647) (w : World) (h : Lib.IsBuilderF 48 5 B b bs w) (hlen : bs.length + 4 ≤ 140737488355328) (hBw : B ≤ w.heap.size) :
    Calls Tryz.prog 35 #[.pointer (some ⟨b, 0, none⟩), .int .i32 r] w fun e w' => e = .returned (.tuple #[.int .i64 (Lib.runeCells r).length, .nilIface]) ∧ (Lib.IsBuilderF 48 5 B b (bs ++ Lib.runeCells r) w' ∧ Below B w w' ∧ Lib.OthersKept 5 (some b) w w') := by
  have hk4 := Lib.runeCells_le r
  have HA := Lib.hid append
  clear append
  go_enter Tryz.func35, Tryz.ntmps35
  go_wp2_with (go_at_call 64; refine (copyCheck_k B b bs _ h).mono ?_)
  rintro e w1 ⟨rfl, h1, hb1, hk1⟩
  obtain ⟨hB, v, hbk, hown, hne⟩ := h1
  obtain ⟨ao, cap, rfl⟩ : ∃ ao cap, v = .slice ao bs.length cap := by
    rcases hown.2 with ⟨hv, h0⟩ | ⟨g, cap, cur, fz, hv, _⟩
    · exact ⟨none, 0, by rw [hv, h0]⟩
    · exact ⟨_, _, hv⟩
  have c0 : w1.cell? ⟨b, 0, none⟩ = some (.pointer (some ⟨b, 0, none⟩)) := by rw [Lib.cell_of_heap hbk]; rfl
  have c1 : w1.cell? ⟨b, 1, none⟩ = some (.slice ao bs.length cap) := by rw [Lib.cell_of_heap hbk]; rfl
  go_wp2_with (go_at_call 65; refine (HA.out B _ bs.length bs r hr0 hr1 _ hown hlen (by have := hb1.size; omega)).mono ?_)
  rintro e w2 ⟨v', rfl, hown', o, hgrow⟩
  have hlt : b < w1.heap.size := by
    rcases Nat.lt_or_ge b w1.heap.size with h' | h'
    · exact h'
    · simp [Array.getElem?_eq_none h'] at hbk
  have hb2 : w2.heap[b]? = some (.cells #[.pointer (some ⟨b, 0, none⟩), .slice ao bs.length cap] 48 (0, 0)) := by
    rw [hgrow.block b (by simp; omega) (fun e => hne e.symm), Lib.alloc_old w1 _ b hlt]
    exact hbk
  have d0 : w2.cell? ⟨b, 0, none⟩ = some (.pointer (some ⟨b, 0, none⟩)) := by rw [Lib.cell_of_heap hb2]; rfl
  have d1 : w2.cell? ⟨b, 1, none⟩ = some (.slice ao bs.length cap) := by rw [Lib.cell_of_heap hb2]; rfl
  have f1 : w2.frozen? ⟨b, 1, none⟩ = false := Lib.frozen_of_heap hb2 1
  obtain ⟨g, cap', rfl⟩ : ∃ g cap', v' = .slice (some ⟨g, 0, none⟩) (bs.length + (Lib.runeCells r).length) cap' := by
    rcases hown'.2 with ⟨_, h0⟩ | ⟨g, cap', cur, fz, hv, _⟩
    · omega
    · exact ⟨g, cap', hv⟩
  go_wp2
  go_ret2
  refine ⟨?_, .inr ?_, ?_, ((hk1.alloc _).grown hgrow (Lib.ownsRowF_kind (hown.alloc _))).setCell ⟨b, 1, none⟩ rfl _⟩
  · have e : ((bs.length : Int) + ((Lib.runeCells r).length : Int) - (bs.length : Int)) = ((Lib.runeCells r).length : Int) := by omega
    simp [e]
  · exact Lib.BuilderAtF.put (T := 48) (e := 5) hB hb2 (bs' := bs ++ Lib.runeCells r) (by simpa using hown') (by decide)
  · exact ((hb1.alloc (by have := hb1.size; omega) _).grown hgrow (by have := hb1.size; simp; omega) (fun k hk => (hown.lt k hk).1)).setCell (p := ⟨b, 1, none⟩) hB _
end Go.Proofs.YtpcncpegbboljaaGreatDoor.Bld
namespace Go.Proofs.YtpcncpegbboljaaGreatDoor
open Go.RowKit Go.Shelf Go.Lib
set_option linter.unusedVariables false
set_option linter.unusedSimpArgs false
def validFrom (s : ByteArray) : Nat → Nat → List UInt8
  | 0, _ => []
  | fuel + 1, pos => if pos < s.size then Lib.encodeRune (Utf8.decode s pos).1 ++ validFrom s fuel (pos + (Utf8.decode s pos).2) else []
def validS (s : ByteArray) : ByteArray := ⟨(validFrom s s.size 0).toArray⟩
theorem width_pos (s : ByteArray) (pos : Nat) (h : pos < s.size) : 1 ≤ (Utf8.decode s pos).2 := by
  by_cases ha : (s[pos]'h).toNat < 128
  · rw [decode_ascii s pos h ha]
    exact Nat.le_refl _
  · exact (decode_high s pos h (by omega)).2
theorem validFrom_end (s : ByteArray) (fuel pos : Nat) (h : ¬ pos < s.size) : validFrom s fuel pos = [] := by
  cases fuel with
  | zero => rfl
  | succ f => simp [validFrom, h]
def chars_Valid.f (s : ByteArray) : Option ByteArray := if s.size ≤ 35184372088832 then some (validS s) else none
theorem appendRune (B : Nat) (v : Value) (n : Nat) (xs : List Value) (r : Int) (hr0 : -2147483648 ≤ r) (hr1 : r ≤ 2147483647) (w : World) (hown : w.ownsRowF B 5 1 v n xs) (hlen : n + 4 ≤ 140737488355328) (hBw : B ≤ w.heap.size) :
    Calls Tryz.prog 65 #[v, .int .i32 r] w fun e w' => ∃ v', e = .returned v' ∧ w'.ownsRowF B 5 1 v' (n + (Lib.runeCells r).length) (xs ++ Lib.runeCells r) ∧ ∃ o, (w.alloc o).grownBy w' v.ownBlock :=
  Tryz.utf8_AppendRune_row B v n xs r hr0 hr1 w hown hlen hBw
theorem writeRune (B b : Nat) (bs : List Value) (r : Int) (hr0 : -2147483648 ≤ r) (hr1 : r ≤ 2147483647) (w : World) (h : Lib.IsBuilderF 48 5 B b bs w) (hlen : bs.length + 4 ≤ 140737488355328) (hBw : B ≤ w.heap.size) :
    Calls Tryz.prog 35 #[.pointer (some ⟨b, 0, none⟩), .int .i32 r] w fun e w' => e = .returned (.tuple #[.int .i64 (Lib.runeCells r).length, .nilIface]) ∧ (Lib.IsBuilderF 48 5 B b (bs ++ Lib.runeCells r) w' ∧ Below B w w' ∧ Lib.OthersKept 5 (some b) w w') :=
  Bld.WriteRune_k appendRune B b bs r hr0 hr1 w h hlen hBw
set_option maxHeartbeats 4000000 in
set_option maxRecDepth 1000000 in
theorem chars_Valid.calls (s r : ByteArray) (w : World) (h : chars_Valid.f s = some r) :
    Calls Tryz.prog 18 #[.string s] w fun e w' => e = .returned (.string r) ∧ Below w.heap.size w w' := by
  obtain ⟨hs, rfl⟩ := of_guard h
  clear h
  go_enter Tryz.func18, Tryz.ntmps18
  go_wp2
  go_loopw [] (fun wr => ∃ (pos fuel : Nat) (acc : List UInt8), Lib.IsBuilderF 48 5 w.heap.size w.heap.size (Lib.byteCells acc) wr ∧ wr.heap[w.heap.size + 1]? = some (.stringIter s pos) ∧ Below w.heap.size w wr ∧ acc ++ validFrom s fuel pos = validFrom s s.size 0 ∧ s.size ≤ pos + fuel ∧ acc.length ≤ 4 * pos) (fun wr => s.size - wr.iterPos (w.heap.size + 1))
  case atStart =>
    refine ⟨0, s.size, [], (Lib.IsBuilderF.of (Lib.fresh_isBuilder 48 5 w)).alloc _, ?_, ((Below.refl _ w).alloc (Nat.le_refl _) _).alloc (by simp) _, rfl, by omega, by simp⟩
    have := World.iter_heap (w.alloc (.cells #[.pointer none, .slice none 0 0] 48)) s 0
    simpa using this
  case round =>
    obtain ⟨pos, fuel, acc, hI, hit, hbw, hacc, hfu, hal⟩ := hrel
    have hsz : w.heap.size + 1 < wr.heap.size := (Array.getElem?_eq_some_iff.1 hit).1
    by_cases hp : pos < s.size
    · have hnx : ∀ ty, (Instr.next (.pointer (some ⟨w.heap.size + 1, 0, none⟩)) true ty).run Tryz.prog wr = _ := fun ty => Lib.run_next_any_at wr (w.heap.size + 1) s pos ty hit hp
      have hwd := width_pos s pos hp
      have hd1 := decode_le s pos
      have hI2 := hI.iterAt hit (pos + (Utf8.decode s pos).2)
      have hit2 := Lib.iterAt_heap wr (w.heap.size + 1) s pos (pos + (Utf8.decode s pos).2) hit
      have hbw2 := Lib.below_iterAt hbw (k := w.heap.size + 1) (by omega) s (pos + (Utf8.decode s pos).2)
      have hsz2 : w.heap.size ≤ (wr.iterAt (w.heap.size + 1) s (pos + (Utf8.decode s pos).2)).heap.size := by rw [Lib.iterAt_size]; omega
      obtain ⟨f, rfl⟩ : ∃ f, fuel = f + 1 := ⟨fuel - 1, by omega⟩
      go_wp2_with (go_at_call 35; refine (writeRune w.heap.size w.heap.size _ _ (by omega) (by omega) _ hI2 (by rw [Lib.byteCells_length]; omega) hsz2).mono ?_; rintro e W1 ⟨rfl, h1, b1, k1⟩)
      go_roundw
      case rel =>
        have hl4 := Lib.runeCells_le ((Utf8.decode s pos).1 : Int)
        rw [Lib.runeCells_length] at hl4
        refine ⟨pos + (Utf8.decode s pos).2, f, acc ++ Lib.encodeRune (Utf8.decode s pos).1, ?_, k1.iter hit2 (by omega), hbw2.trans b1, ?_, by omega, by simp; omega⟩
        · rw [Lib.byteCells_append, Lib.byteCells_encodeRune]; exact h1
        · rw [← hacc]; simp [validFrom, hp]
      case measure =>
        simp only [World.iterPos, k1.iter hit2 (by omega), hit]
        omega
    · have hnx : ∀ ty, (Instr.next (.pointer (some ⟨w.heap.size + 1, 0, none⟩)) true ty).run Tryz.prog wr = _ := fun ty => Lib.run_next_end_at wr (w.heap.size + 1) s pos ty hit hp
      rw [validFrom_end s fuel pos hp, List.append_nil] at hacc
      have HA := Lib.hid hacc; clear hacc
      go_wp2_with (go_at_call 36; refine (Tryz.Builder_String_any_k w.heap.size w.heap.size acc _ hI (by omega)).mono ?_; rintro e W1 ⟨rfl, _, b1, _⟩)
      go_ret
      exact ⟨by rw [HA.out]; rfl, hbw.trans b1⟩
def highTab : List Int := [0x20ac, 0x81, 0x201a, 0x192, 0x201e, 0x2026, 0x2020, 0x2021, 0x2c6, 0x2030, 0x160, 0x2039, 0x152, 0x8d, 0x17d, 0x8f, 0x90, 0x2018, 0x2019, 0x201c, 0x201d, 0x2022, 0x2013, 0x2014, 0x2dc, 0x2122, 0x161, 0x203a, 0x153, 0x9d, 0x17e, 0x178]
def TabHigh (w : World) : Prop := Lib.TabIs Tryz.prog w "muslin/chars.high" .i32 highTab
theorem TabHigh.below {w w1 : World} (h : TabHigh w) (hb : Below w.heap.size w w1) : TabHigh w1 := by
  unfold TabHigh Lib.TabIs at *
  have hlt : 3 < w.heap.size := by
    rcases Nat.lt_or_ge 3 w.heap.size with h' | h'
    · exact h'
    · rw [World.var?, show Tryz.prog.globalNamed "muslin/chars.high" = some 3 from by kernel_rfl] at h
      simp [Array.getElem?_eq_none h'] at h
  exact Go.var?_below hb (show Tryz.prog.globalNamed "muslin/chars.high" = some 3 from by kernel_rfl) hlt h
theorem TabHigh.at {w : World} (h : TabHigh w) (j : Nat) (hj : j < 32) : w.cell? ⟨3, j, none⟩ = some (.int .i32 (highTab.getD j 0)) := by
  have := Lib.TabIs.cell h (show Tryz.prog.globalNamed "muslin/chars.high" = some 3 from by kernel_rfl) j hj
  exact this
def hiC (c : UInt8) : Int := if 128 ≤ c.toNat ∧ c.toNat < 160 then highTab.getD (c.toNat - 128) 0 else c.toNat
def singlesL (l : List UInt8) : List UInt8 := l.flatMap fun c => Lib.encodeRune (hiC c)
def chars_singles.f (s : ByteArray) : Option ByteArray := if s.size ≤ 35184372088832 then some ⟨(singlesL s.data.toList).toArray⟩ else none
theorem hiC_range (c : UInt8) : 0 ≤ hiC c ∧ hiC c ≤ 65535 := by
  unfold hiC
  split
  · rename_i h
    have : ∀ j, j < 32 → 0 ≤ highTab.getD j 0 ∧ highTab.getD j 0 ≤ 65535 := by decide
    exact this _ (by omega)
  · have := UInt8.toNat_lt c; omega
set_option maxHeartbeats 4000000 in
set_option maxRecDepth 1000000 in
theorem chars_singles.calls' (s r : ByteArray) (w : World) (hGl : TabHigh w) (h : chars_singles.f s = some r) :
    Calls Tryz.prog 125 #[.string s] w fun e w' => e = .returned (.string r) ∧ Below w.heap.size w w' := by
  obtain ⟨hs, rfl⟩ := of_guard h
  clear h
  have HG := Lib.hid hGl; clear hGl
  go_enter Tryz.func125, Tryz.ntmps125
  go_wp2
  go_loopw [9] (fun i wr => ∃ k : Nat, k ≤ s.size ∧ i = .int .i64 k ∧ Lib.IsBuilderF 48 5 w.heap.size w.heap.size (Lib.byteCells (singlesL (s.data.toList.take k))) wr ∧ Below w.heap.size w wr ∧ w.heap.size ≤ wr.heap.size ∧ (singlesL (s.data.toList.take k)).length ≤ 4 * k) (fun i _ => s.size - (RowKit.intOf i).toNat)
  case atStart => exact ⟨0, Nat.zero_le _, rfl, Lib.IsBuilderF.of (Lib.fresh_isBuilder 48 5 w), (Below.refl _ w).alloc (Nat.le_refl _) _, by simp, by simp [singlesL]⟩
  case round =>
    obtain ⟨k, hk, rfl, hI, hb, hsz, hlen⟩ := hrel
    by_cases hlt : k < s.size
    · have hlt2 : k < s.data.toList.length := by simpa using hlt
      have hsn : singlesL (s.data.toList.take (k + 1)) = singlesL (s.data.toList.take k) ++ Lib.encodeRune (hiC s.data.toList[k]) := by
        rw [List.take_succ_eq_append_getElem hlt2]; simp [singlesL]
      have hr := hiC_range s.data.toList[k]
      have hcs : s[k] = s.data.toList[k] := rfl
      have hg := (HG.out.below hb)
      have hhc : hiC s.data.toList[k] = hiC s.data.toList[k] := rfl
      generalize hcc : s.data.toList[k] = c at *
      have h256 : c.toNat < 256 := UInt8.toNat_lt _
      have HS := Lib.hid hsn; have HI := Lib.hid hI
      have fin : ∀ W1 : World, Lib.IsBuilderF 48 5 w.heap.size w.heap.size (Lib.byteCells (singlesL (s.data.toList.take k)) ++ Lib.runeCells (hiC c)) W1 → Lib.IsBuilderF 48 5 w.heap.size w.heap.size (Lib.byteCells (singlesL (s.data.toList.take (k + 1)))) W1 ∧ (singlesL (s.data.toList.take (k + 1))).length ≤ 4 * (k + 1) := by
        intro W1 h1
        have hl4 := Lib.runeCells_le (hiC c)
        rw [Lib.runeCells_length] at hl4
        rw [HS.out, Lib.byteCells_append, Lib.byteCells_encodeRune]
        exact ⟨h1, by simp; omega⟩
      have FIN := Lib.hid fin
      clear hsn hI hcc HG hhc fin
      by_cases c1 : 128 ≤ c.toNat ∧ c.toNat < 160
      · have hcell := hg.at (c.toNat - 128) (by omega)
        have hv : highTab.getD (c.toNat - 128) 0 = hiC c := by unfold hiC; rw [if_pos c1]
        rw [hv] at hcell
        obtain ⟨c1, c2⟩ := c1
        clear hv
        go_wp2_with (go_at_call 35; refine (writeRune w.heap.size w.heap.size _ _ (by omega) (by omega) _ HI.out (by rw [Lib.byteCells_length]; omega) hsz).mono ?_; rintro e W1 ⟨rfl, h1, b1, k1⟩)
        go_roundw
        case rel => exact ⟨k + 1, by omega, by go_num, (FIN.out W1 h1).1, hb.trans b1, Nat.le_trans hsz b1.size, (FIN.out W1 h1).2⟩
        case measure => simp [RowKit.intOf]; omega
      · have hv : hiC c = (c.toNat : Int) := by unfold hiC; rw [if_neg c1]
        rw [hv] at FIN
        clear hv
        have c2 : c.toNat < 128 ∨ 160 ≤ c.toNat := by omega
        clear c1 hg
        rcases c2 with c2 | c2
        all_goals
          go_wp2_with (go_at_call 35; refine (writeRune w.heap.size w.heap.size _ _ (by omega) (by omega) _ HI.out (by rw [Lib.byteCells_length]; omega) hsz).mono ?_; rintro e W1 ⟨rfl, h1, b1, k1⟩)
          go_roundw
          case rel => exact ⟨k + 1, by omega, by go_num, (FIN.out W1 h1).1, hb.trans b1, Nat.le_trans hsz b1.size, (FIN.out W1 h1).2⟩
          case measure => simp [RowKit.intOf]; omega
    · have hk2 : s.data.toList.take k = s.data.toList := List.take_of_length_le (by simp; omega)
      rw [hk2] at hI
      clear hk2 hlen
      go_wp2_with (go_at_call 36; refine (Tryz.Builder_String_any_k w.heap.size w.heap.size _ _ hI hsz).mono ?_; rintro e W1 ⟨rfl, _, b1, _⟩)
      go_ret
      exact ⟨rfl, hb.trans b1⟩
def dblL (u : UInt8 → UInt8 → Int) : List UInt8 → List UInt8
  | [] => []
  | [_] => Lib.encodeRune 65533
  | [a, b] => Lib.encodeRune (u a b)
  | [a, b, _] => Lib.encodeRune (u a b) ++ Lib.encodeRune 65533
  | a :: b :: c :: d :: r =>
    if (55296 ≤ u a b ∧ u a b < 56320) ∧ (56320 ≤ u c d ∧ u c d ≤ 57343) then Lib.encodeRune (65536 + (u a b - 55296) * 1024 + u c d - 56320) ++ dblL u r
    else Lib.encodeRune (u a b) ++ dblL u (c :: d :: r)
def uLE (a b : UInt8) : Int := a.toNat + 256 * b.toNat
def uBE (a b : UInt8) : Int := 256 * a.toNat + b.toNat
def chars_doubles.f (s : ByteArray) (first second : Int) : Option ByteArray :=
  if s.size ≤ 35184372088832 ∧ (first = 0 ∧ second = 8 ∨ first = 8 ∧ second = 0) then some ⟨(dblL (if first = 0 then uLE else uBE) s.data.toList).toArray⟩ else none
theorem orLE (a b : UInt8) : bits .or .i32 (wrap32 (wrap32 (a.toNat : Int))) (wrap32 (wrap32 (b.toNat : Int) * 256)) = uLE a b := by
  have ha : a.toNat < 256 := UInt8.toNat_lt _
  have hb : b.toNat < 256 := UInt8.toNat_lt _
  have e1 : wrap32 (wrap32 (a.toNat : Int)) = ((a.toNat : Nat) : Int) := by unfold wrap32; omega
  have e2 : wrap32 (wrap32 (b.toNat : Int) * 256) = ((b.toNat * 256 : Nat) : Int) := by unfold wrap32; omega
  rw [e1, e2, (bits_nat .i32 31 (by decide) wraps_i32 a.toNat (b.toNat * 256) (by omega) (by omega)).2, Nat.or_comm, nat_join 8 _ _ (by omega) (by omega)]
  unfold uLE; omega
theorem orBE (a b : UInt8) : bits .or .i32 (wrap32 (wrap32 (a.toNat : Int) * 256)) (wrap32 (wrap32 (b.toNat : Int))) = uBE a b := by
  have ha : a.toNat < 256 := UInt8.toNat_lt _
  have hb : b.toNat < 256 := UInt8.toNat_lt _
  have e1 : wrap32 (wrap32 (b.toNat : Int)) = ((b.toNat : Nat) : Int) := by unfold wrap32; omega
  have e2 : wrap32 (wrap32 (a.toNat : Int) * 256) = ((a.toNat * 256 : Nat) : Int) := by unfold wrap32; omega
  rw [e1, e2, (bits_nat .i32 31 (by decide) wraps_i32 (a.toNat * 256) b.toNat (by omega) (by omega)).2, nat_join 8 _ _ (by omega) (by omega)]
  unfold uBE; omega
theorem uLE_range (a b : UInt8) : 0 ≤ uLE a b ∧ uLE a b ≤ 65535 := by
  have ha : a.toNat < 256 := UInt8.toNat_lt _
  have hb : b.toNat < 256 := UInt8.toNat_lt _
  unfold uLE; omega
theorem uBE_range (a b : UInt8) : 0 ≤ uBE a b ∧ uBE a b ≤ 65535 := by
  have ha : a.toNat < 256 := UInt8.toNat_lt _
  have hb : b.toNat < 256 := UInt8.toNat_lt _
  unfold uBE; omega
theorem drop2 (t : ByteArray) : (t.extract 2 t.size).data.toList = t.data.toList.drop 2 := by
  simp [ByteArray.extract_eq_extract_append_extract, List.take_of_length_le]
theorem drop4 (t : ByteArray) : ((t.extract 2 t.size).extract 2 (t.size - 2)).data.toList = (t.data.toList.drop 2).drop 2 := by
  rw [← drop2 t, ← drop2 (t.extract 2 t.size)]
  simp
theorem dbl_alone (u : UInt8 → UInt8 → Int) (l : List UInt8) (h1 : 1 < l.length)
    (h : u l[0] l[1] < 55296 ∨ 56320 ≤ u l[0] l[1] ∨ l.length ≤ 3 ∨ ∃ h3 : 3 < l.length, u l[2] l[3] < 56320 ∨ 57343 < u l[2] l[3]) :
    dblL u l = Lib.encodeRune (u l[0] l[1]) ++ dblL u (l.drop 2) := by
  match l, h1, h with
  | [a, b], _, _ => simp [dblL]
  | [a, b, c], _, _ => simp [dblL]
  | a :: b :: c :: d :: r, _, h =>
    have hn : ¬ ((55296 ≤ u a b ∧ u a b < 56320) ∧ (56320 ≤ u c d ∧ u c d ≤ 57343)) := by
      rintro ⟨⟨x1, x2⟩, x3, x4⟩
      rcases h with h | h | h | ⟨_, h⟩
      · simp at h; omega
      · simp at h; omega
      · simp at h
      · simp at h; omega
    simp only [dblL, if_neg hn]
    rfl
theorem dbl_pair (u : UInt8 → UInt8 → Int) (l : List UInt8) (h3 : 3 < l.length)
    (h : (55296 ≤ u l[0] l[1] ∧ u l[0] l[1] < 56320) ∧ (56320 ≤ u l[2] l[3] ∧ u l[2] l[3] ≤ 57343)) :
    dblL u l = Lib.encodeRune (65536 + (u l[0] l[1] - 55296) * 1024 + u l[2] l[3] - 56320) ++ dblL u ((l.drop 2).drop 2) := by
  match l, h3, h with
  | a :: b :: c :: d :: r, _, h =>
    have h' : (55296 ≤ u a b ∧ u a b < 56320) ∧ (56320 ≤ u c d ∧ u c d ≤ 57343) := h
    simp only [dblL, if_pos h']
    rfl
set_option maxHeartbeats 1600000 in
set_option maxRecDepth 1000000 in
theorem doubles_uLE (s : ByteArray) (w : World) (hs : s.size ≤ 35184372088832) :
    Calls Tryz.prog 126 #[.string s, .int .i64 0, .int .i64 8] w fun e w' => e = .returned (.string ⟨(dblL uLE s.data.toList).toArray⟩) ∧ Below w.heap.size w w' := by
  go_enter Tryz.func126, Tryz.ntmps126
  go_wp2
  go_loopw [0] (fun v wr => ∃ (t : ByteArray) (acc : List UInt8), v = .string t ∧ t.size ≤ s.size ∧ acc ++ dblL uLE t.data.toList = dblL uLE s.data.toList ∧ Lib.IsBuilderF 48 5 w.heap.size w.heap.size (Lib.byteCells acc) wr ∧ Below w.heap.size w wr ∧ w.heap.size ≤ wr.heap.size ∧ acc.length + 4 * t.size ≤ 4 * s.size) (fun v _ => match v with | .string t => t.size | _ => 0)
  case atStart => exact ⟨s, [], rfl, Nat.le_refl _, rfl, Lib.IsBuilderF.of (Lib.fresh_isBuilder 48 5 w), (Below.refl _ w).alloc (Nat.le_refl _) _, by simp, by simp⟩
  case round =>
    obtain ⟨t, acc, rfl, hts, hacc, hI, hb, hsz, hlen⟩ := hrel
    have HA := Lib.hid hacc; have HI := Lib.hid hI
    clear hacc hI
    have hl : t.data.toList.length = t.size := by simp
    by_cases h1 : 1 < t.size
    · have i0 : (0 : Int) < (t.size : Int) := by omega
      have j0 : 0 < t.size := by omega
      have i1 : (1 : Int) < (t.size : Int) := by omega
      have k1 : 1 < t.data.toList.length := by omega
      have k0 : 0 < t.data.toList.length := by omega
      obtain ⟨x, hx⟩ : ∃ x : Int, bits .or .i32 (wrap32 (wrap32 (t[0].toNat : Int))) (wrap32 (wrap32 (t[1].toNat : Int) * 256)) = x := ⟨_, rfl⟩
      have HX : Hid (x = uLE t.data.toList[0] t.data.toList[1]) := by rw [← hx]; exact orLE _ _
      have hxr : 0 ≤ x ∧ x ≤ 65535 := by rw [HX.out]; exact uLE_range _ _
      obtain ⟨hx0, hx1⟩ := hxr
      have alone : ∀ (W1 : World), Lib.IsBuilderF 48 5 w.heap.size w.heap.size (Lib.byteCells acc ++ Lib.runeCells x) W1 → (x < 55296 ∨ 56320 ≤ x ∨ t.data.toList.length ≤ 3 ∨ ∃ h3 : 3 < t.data.toList.length, uLE t.data.toList[2] t.data.toList[3] < 56320 ∨ 57343 < uLE t.data.toList[2] t.data.toList[3]) →
          (acc ++ Lib.encodeRune x) ++ dblL uLE (t.extract 2 t.size).data.toList = dblL uLE s.data.toList ∧ Lib.IsBuilderF 48 5 w.heap.size w.heap.size (Lib.byteCells (acc ++ Lib.encodeRune x)) W1 ∧ (acc ++ Lib.encodeRune x).length + 4 * (t.extract 2 t.size).size ≤ 4 * s.size := by
        intro W1 h2 h4
        refine ⟨?_, ?_, ?_⟩
        · rw [← HA.out, dbl_alone uLE t.data.toList k1 (by rw [← HX.out]; exact h4), drop2, List.append_assoc, HX.out]
        · rw [Lib.byteCells_append, Lib.byteCells_encodeRune]; exact h2
        · have hl4 := Lib.runeCells_le x
          rw [Lib.runeCells_length] at hl4
          have e2 : (t.extract 2 t.size).size = t.size - 2 := by simp
          simp only [List.length_append]; omega
      have hts2 : (t.extract 2 t.size).size ≤ s.size := by simp; omega
      have htm : (t.extract 2 t.size).size < t.size := by simp; omega
      have AL := Lib.hid alone
      clear alone
      have HL := Lib.hid hl
      clear hl
      by_cases hA : 55296 ≤ x ∧ x < 56320
      · obtain ⟨hA1, hA2⟩ := hA
        by_cases h3 : 3 < t.size
        · have i2 : (2 : Int) < (t.size : Int) := by omega
          have j2 : 2 < t.size := by omega
          have i3 : (3 : Int) < (t.size : Int) := by omega
          have k2 : 2 < t.data.toList.length := by have := HL.out; omega
          have k3 : 3 < t.data.toList.length := by have := HL.out; omega
          obtain ⟨y, hy⟩ : ∃ y : Int, bits .or .i32 (wrap32 (wrap32 (t[2].toNat : Int))) (wrap32 (wrap32 (t[3].toNat : Int) * 256)) = y := ⟨_, rfl⟩
          have HY : Hid (y = uLE t.data.toList[2] t.data.toList[3]) := by rw [← hy]; exact orLE _ _
          have hyr : 0 ≤ y ∧ y ≤ 65535 := by rw [HY.out]; exact uLE_range _ _
          obtain ⟨hy0, hy1⟩ := hyr
          by_cases hB : 56320 ≤ y ∧ y ≤ 57343
          · obtain ⟨hB1, hB2⟩ := hB
            have pair : ∀ (W1 : World), Lib.IsBuilderF 48 5 w.heap.size w.heap.size (Lib.byteCells acc ++ Lib.runeCells (65536 + (x - 55296) * 1024 + y - 56320)) W1 →
                (acc ++ Lib.encodeRune (65536 + (x - 55296) * 1024 + y - 56320)) ++ dblL uLE ((t.extract 2 t.size).extract 2 (t.size - 2)).data.toList = dblL uLE s.data.toList ∧ Lib.IsBuilderF 48 5 w.heap.size w.heap.size (Lib.byteCells (acc ++ Lib.encodeRune (65536 + (x - 55296) * 1024 + y - 56320))) W1 ∧ (acc ++ Lib.encodeRune (65536 + (x - 55296) * 1024 + y - 56320)).length + 4 * ((t.extract 2 t.size).extract 2 (t.size - 2)).size ≤ 4 * s.size := by
              intro W1 h2
              refine ⟨?_, ?_, ?_⟩
              · rw [← HA.out, dbl_pair uLE t.data.toList k3 (by rw [← HX.out, ← HY.out]; exact ⟨⟨hA1, hA2⟩, hB1, hB2⟩), drop4, List.append_assoc, HX.out, HY.out]; rfl
              · rw [Lib.byteCells_append, Lib.byteCells_encodeRune]; exact h2
              · have hl4 := Lib.runeCells_le (65536 + (x - 55296) * 1024 + y - 56320)
                rw [Lib.runeCells_length] at hl4
                have e2 : ((t.extract 2 t.size).extract 2 (t.size - 2)).size = t.size - 4 := by simp; omega
                simp only [List.length_append]; omega
            have hts4 : ((t.extract 2 t.size).extract 2 (t.size - 2)).size ≤ s.size := by simp; omega
            have htm4 : ((t.extract 2 t.size).extract 2 (t.size - 2)).size < t.size := by simp; omega
            have PR := Lib.hid pair
            clear pair AL
            have i4 : 2 ≤ t.size := by omega
            have i5 : (2 : Int) ≤ (t.size : Int) := by omega
            go_wp2_with fail
            go_quiet (fail)
            go_wp2_with fail
            go_quiet (fail)
            go_wp2_with fail
            go_quiet (fail)
            go_wp2_with (go_at_call 35; refine (writeRune w.heap.size w.heap.size _ _ (by omega) (by omega) _ (by exact HI.out) (by rw [Lib.byteCells_length]; omega) (by exact hsz)).mono ?_; rintro e W1 ⟨rfl, h1, b1, k1⟩)
            obtain ⟨f1, f2, f3⟩ := PR.out W1 h1
            go_roundw
            case rel => exact ⟨_, _, rfl, hts4, f1, f2, (bdrewN hb _).trans b1, Nat.le_trans hsz b1.size, f3⟩
            case measure => exact htm4
          · have hB2 : y < 56320 ∨ 57343 < y := by omega
            clear hB
            rcases hB2 with hB | hB
            · have ho : x < 55296 ∨ 56320 ≤ x ∨ t.data.toList.length ≤ 3 ∨ ∃ h3 : 3 < t.data.toList.length, uLE t.data.toList[2] t.data.toList[3] < 56320 ∨ 57343 < uLE t.data.toList[2] t.data.toList[3] := .inr (.inr (.inr ⟨k3, .inl (by rw [← HY.out]; exact hB)⟩))
              have HO := Lib.hid ho
              clear ho
              go_wp2_with fail
              go_quiet (fail)
              go_wp2_with fail
              go_quiet (fail)
              go_wp2_with (go_at_call 35; refine (writeRune w.heap.size w.heap.size _ _ (by omega) (by omega) _ (by exact HI.out) (by rw [Lib.byteCells_length]; omega) (by exact hsz)).mono ?_; rintro e W1 ⟨rfl, h1, b1, k1⟩)
              obtain ⟨f1, f2, f3⟩ := AL.out W1 h1 (HO.out)
              go_roundw
              case rel => exact ⟨_, _, rfl, hts2, f1, f2, (bdrewN hb _).trans b1, Nat.le_trans hsz b1.size, f3⟩
              case measure => exact htm
            · have ho : x < 55296 ∨ 56320 ≤ x ∨ t.data.toList.length ≤ 3 ∨ ∃ h3 : 3 < t.data.toList.length, uLE t.data.toList[2] t.data.toList[3] < 56320 ∨ 57343 < uLE t.data.toList[2] t.data.toList[3] := .inr (.inr (.inr ⟨k3, .inr (by rw [← HY.out]; exact hB)⟩))
              have HO := Lib.hid ho
              clear ho
              go_wp2_with fail
              go_quiet (fail)
              go_wp2_with fail
              go_quiet (fail)
              go_wp2_with (go_at_call 35; refine (writeRune w.heap.size w.heap.size _ _ (by omega) (by omega) _ (by exact HI.out) (by rw [Lib.byteCells_length]; omega) (by exact hsz)).mono ?_; rintro e W1 ⟨rfl, h1, b1, k1⟩)
              obtain ⟨f1, f2, f3⟩ := AL.out W1 h1 (HO.out)
              go_roundw
              case rel => exact ⟨_, _, rfl, hts2, f1, f2, (bdrewN hb _).trans b1, Nat.le_trans hsz b1.size, f3⟩
              case measure => exact htm
        · have i3 : ¬ (3 : Int) < (t.size : Int) := by omega
          go_wp2_with fail
          go_quiet (fail)
          go_wp2_with (go_at_call 35; refine (writeRune w.heap.size w.heap.size _ _ (by omega) (by omega) _ (by exact HI.out) (by rw [Lib.byteCells_length]; omega) (by exact hsz)).mono ?_; rintro e W1 ⟨rfl, h1, b1, k1⟩)
          obtain ⟨f1, f2, f3⟩ := AL.out W1 h1 (.inr (.inr (.inl (by have := HL.out; omega))))
          go_roundw
          case rel => exact ⟨_, _, rfl, hts2, f1, f2, (bdrewN hb _).trans b1, Nat.le_trans hsz b1.size, f3⟩
          case measure => exact htm
      · have hA2 : x < 55296 ∨ 56320 ≤ x := by omega
        clear hA
        rcases hA2 with hA | hA
        · skip
          go_wp2_with fail
          go_quiet (fail)
          go_wp2_with (go_at_call 35; refine (writeRune w.heap.size w.heap.size _ _ (by omega) (by omega) _ (by exact HI.out) (by rw [Lib.byteCells_length]; omega) (by exact hsz)).mono ?_; rintro e W1 ⟨rfl, h1, b1, k1⟩)
          obtain ⟨f1, f2, f3⟩ := AL.out W1 h1 (.inl hA)
          go_roundw
          case rel => exact ⟨_, _, rfl, hts2, f1, f2, (bdrewN hb _).trans b1, Nat.le_trans hsz b1.size, f3⟩
          case measure => exact htm
        · skip
          go_wp2_with fail
          go_quiet (fail)
          go_wp2_with (go_at_call 35; refine (writeRune w.heap.size w.heap.size _ _ (by omega) (by omega) _ (by exact HI.out) (by rw [Lib.byteCells_length]; omega) (by exact hsz)).mono ?_; rintro e W1 ⟨rfl, h1, b1, k1⟩)
          obtain ⟨f1, f2, f3⟩ := AL.out W1 h1 (.inr (.inl hA))
          go_roundw
          case rel => exact ⟨_, _, rfl, hts2, f1, f2, (bdrewN hb _).trans b1, Nat.le_trans hsz b1.size, f3⟩
          case measure => exact htm
    · by_cases h0 : t.size = 0
      · have e0 : t.data.toList = [] := by
          apply List.eq_nil_of_length_eq_zero; rw [hl]; exact h0
        have hf := HA.out
        rw [e0] at hf
        simp only [dblL, List.append_nil] at hf
        have HF := Lib.hid hf
        clear hf HA hl
        obtain rfl : t = ByteArray.empty := by
          apply ByteArray.ext; apply Array.ext'; rw [e0]; rfl
        clear e0 h0
        go_wp2_with (go_at_call 36; refine (Tryz.Builder_String_any_k w.heap.size w.heap.size _ _ HI.out hsz).mono ?_; rintro e W1 ⟨rfl, _, b1, _⟩)
        go_ret
        exact ⟨by rw [HF.out]; rfl, hb.trans b1⟩
      · have hone : t.size = 1 := by omega
        have e1 : dblL uLE t.data.toList = Lib.encodeRune 65533 := by
          have hl1 : t.data.toList.length = 1 := by rw [hl]; exact hone
          match t.data.toList, hl1 with
          | [a], _ => rfl
        have hf := HA.out
        rw [e1] at hf
        have HF := Lib.hid hf
        have hle := Lib.runeCells_le 65533
        have hnm : t.toList.isEmpty = false := by
          cases hh : t.toList with
          | nil =>
            have := congrArg List.length hh
            rw [ByteArray.toList_eq] at hh
            have := congrArg List.length hh
            simp [hone] at this
          | cons a b => rfl
        have hlen2 : acc.length + 4 ≤ 140737488355328 := by omega
        clear hf HA hl e1 hone h0
        go_wp2_with (first
          | (go_at_call 35; refine (writeRune w.heap.size w.heap.size _ _ (by omega) (by omega) _ HI.out (by rw [Lib.byteCells_length]; exact hlen2) hsz).mono ?_; rintro e W1 ⟨rfl, h2, b1, k1⟩; rw [← Lib.byteCells_encodeRune, ← Lib.byteCells_append, HF.out] at h2; have hsz1 := Nat.le_trans hsz b1.size)
          | (go_at_call 36; refine (Tryz.Builder_String_any_k w.heap.size w.heap.size _ _ (by assumption) (by assumption)).mono ?_; rintro e W2 ⟨rfl, _, b2, _⟩))
        go_ret
        exact ⟨rfl, (hb.trans b1).trans b2⟩
set_option maxHeartbeats 1600000 in
set_option maxRecDepth 1000000 in
theorem doubles_uBE (s : ByteArray) (w : World) (hs : s.size ≤ 35184372088832) :
    Calls Tryz.prog 126 #[.string s, .int .i64 8, .int .i64 0] w fun e w' => e = .returned (.string ⟨(dblL uBE s.data.toList).toArray⟩) ∧ Below w.heap.size w w' := by
  go_enter Tryz.func126, Tryz.ntmps126
  go_wp2
  go_loopw [0] (fun v wr => ∃ (t : ByteArray) (acc : List UInt8), v = .string t ∧ t.size ≤ s.size ∧ acc ++ dblL uBE t.data.toList = dblL uBE s.data.toList ∧ Lib.IsBuilderF 48 5 w.heap.size w.heap.size (Lib.byteCells acc) wr ∧ Below w.heap.size w wr ∧ w.heap.size ≤ wr.heap.size ∧ acc.length + 4 * t.size ≤ 4 * s.size) (fun v _ => match v with | .string t => t.size | _ => 0)
  case atStart => exact ⟨s, [], rfl, Nat.le_refl _, rfl, Lib.IsBuilderF.of (Lib.fresh_isBuilder 48 5 w), (Below.refl _ w).alloc (Nat.le_refl _) _, by simp, by simp⟩
  case round =>
    obtain ⟨t, acc, rfl, hts, hacc, hI, hb, hsz, hlen⟩ := hrel
    have HA := Lib.hid hacc; have HI := Lib.hid hI
    clear hacc hI
    have hl : t.data.toList.length = t.size := by simp
    by_cases h1 : 1 < t.size
    · have i0 : (0 : Int) < (t.size : Int) := by omega
      have j0 : 0 < t.size := by omega
      have i1 : (1 : Int) < (t.size : Int) := by omega
      have k1 : 1 < t.data.toList.length := by omega
      have k0 : 0 < t.data.toList.length := by omega
      obtain ⟨x, hx⟩ : ∃ x : Int, bits .or .i32 (wrap32 (wrap32 (t[0].toNat : Int) * 256)) (wrap32 (wrap32 (t[1].toNat : Int))) = x := ⟨_, rfl⟩
      have HX : Hid (x = uBE t.data.toList[0] t.data.toList[1]) := by rw [← hx]; exact orBE _ _
      have hxr : 0 ≤ x ∧ x ≤ 65535 := by rw [HX.out]; exact uBE_range _ _
      obtain ⟨hx0, hx1⟩ := hxr
      have alone : ∀ (W1 : World), Lib.IsBuilderF 48 5 w.heap.size w.heap.size (Lib.byteCells acc ++ Lib.runeCells x) W1 → (x < 55296 ∨ 56320 ≤ x ∨ t.data.toList.length ≤ 3 ∨ ∃ h3 : 3 < t.data.toList.length, uBE t.data.toList[2] t.data.toList[3] < 56320 ∨ 57343 < uBE t.data.toList[2] t.data.toList[3]) →
          (acc ++ Lib.encodeRune x) ++ dblL uBE (t.extract 2 t.size).data.toList = dblL uBE s.data.toList ∧ Lib.IsBuilderF 48 5 w.heap.size w.heap.size (Lib.byteCells (acc ++ Lib.encodeRune x)) W1 ∧ (acc ++ Lib.encodeRune x).length + 4 * (t.extract 2 t.size).size ≤ 4 * s.size := by
        intro W1 h2 h4
        refine ⟨?_, ?_, ?_⟩
        · rw [← HA.out, dbl_alone uBE t.data.toList k1 (by rw [← HX.out]; exact h4), drop2, List.append_assoc, HX.out]
        · rw [Lib.byteCells_append, Lib.byteCells_encodeRune]; exact h2
        · have hl4 := Lib.runeCells_le x
          rw [Lib.runeCells_length] at hl4
          have e2 : (t.extract 2 t.size).size = t.size - 2 := by simp
          simp only [List.length_append]; omega
      have hts2 : (t.extract 2 t.size).size ≤ s.size := by simp; omega
      have htm : (t.extract 2 t.size).size < t.size := by simp; omega
      have AL := Lib.hid alone
      clear alone
      have HL := Lib.hid hl
      clear hl
      by_cases hA : 55296 ≤ x ∧ x < 56320
      · obtain ⟨hA1, hA2⟩ := hA
        by_cases h3 : 3 < t.size
        · have i2 : (2 : Int) < (t.size : Int) := by omega
          have j2 : 2 < t.size := by omega
          have i3 : (3 : Int) < (t.size : Int) := by omega
          have k2 : 2 < t.data.toList.length := by have := HL.out; omega
          have k3 : 3 < t.data.toList.length := by have := HL.out; omega
          obtain ⟨y, hy⟩ : ∃ y : Int, bits .or .i32 (wrap32 (wrap32 (t[2].toNat : Int) * 256)) (wrap32 (wrap32 (t[3].toNat : Int))) = y := ⟨_, rfl⟩
          have HY : Hid (y = uBE t.data.toList[2] t.data.toList[3]) := by rw [← hy]; exact orBE _ _
          have hyr : 0 ≤ y ∧ y ≤ 65535 := by rw [HY.out]; exact uBE_range _ _
          obtain ⟨hy0, hy1⟩ := hyr
          by_cases hB : 56320 ≤ y ∧ y ≤ 57343
          · obtain ⟨hB1, hB2⟩ := hB
            have pair : ∀ (W1 : World), Lib.IsBuilderF 48 5 w.heap.size w.heap.size (Lib.byteCells acc ++ Lib.runeCells (65536 + (x - 55296) * 1024 + y - 56320)) W1 →
                (acc ++ Lib.encodeRune (65536 + (x - 55296) * 1024 + y - 56320)) ++ dblL uBE ((t.extract 2 t.size).extract 2 (t.size - 2)).data.toList = dblL uBE s.data.toList ∧ Lib.IsBuilderF 48 5 w.heap.size w.heap.size (Lib.byteCells (acc ++ Lib.encodeRune (65536 + (x - 55296) * 1024 + y - 56320))) W1 ∧ (acc ++ Lib.encodeRune (65536 + (x - 55296) * 1024 + y - 56320)).length + 4 * ((t.extract 2 t.size).extract 2 (t.size - 2)).size ≤ 4 * s.size := by
              intro W1 h2
              refine ⟨?_, ?_, ?_⟩
              · rw [← HA.out, dbl_pair uBE t.data.toList k3 (by rw [← HX.out, ← HY.out]; exact ⟨⟨hA1, hA2⟩, hB1, hB2⟩), drop4, List.append_assoc, HX.out, HY.out]; rfl
              · rw [Lib.byteCells_append, Lib.byteCells_encodeRune]; exact h2
              · have hl4 := Lib.runeCells_le (65536 + (x - 55296) * 1024 + y - 56320)
                rw [Lib.runeCells_length] at hl4
                have e2 : ((t.extract 2 t.size).extract 2 (t.size - 2)).size = t.size - 4 := by simp; omega
                simp only [List.length_append]; omega
            have hts4 : ((t.extract 2 t.size).extract 2 (t.size - 2)).size ≤ s.size := by simp; omega
            have htm4 : ((t.extract 2 t.size).extract 2 (t.size - 2)).size < t.size := by simp; omega
            have PR := Lib.hid pair
            clear pair AL
            have i4 : 2 ≤ t.size := by omega
            have i5 : (2 : Int) ≤ (t.size : Int) := by omega
            go_wp2_with fail
            go_quiet (fail)
            go_wp2_with fail
            go_quiet (fail)
            go_wp2_with fail
            go_quiet (fail)
            go_wp2_with (go_at_call 35; refine (writeRune w.heap.size w.heap.size _ _ (by omega) (by omega) _ (by exact HI.out) (by rw [Lib.byteCells_length]; omega) (by exact hsz)).mono ?_; rintro e W1 ⟨rfl, h1, b1, k1⟩)
            obtain ⟨f1, f2, f3⟩ := PR.out W1 h1
            go_roundw
            case rel => exact ⟨_, _, rfl, hts4, f1, f2, (bdrewN hb _).trans b1, Nat.le_trans hsz b1.size, f3⟩
            case measure => exact htm4
          · have hB2 : y < 56320 ∨ 57343 < y := by omega
            clear hB
            rcases hB2 with hB | hB
            · have ho : x < 55296 ∨ 56320 ≤ x ∨ t.data.toList.length ≤ 3 ∨ ∃ h3 : 3 < t.data.toList.length, uBE t.data.toList[2] t.data.toList[3] < 56320 ∨ 57343 < uBE t.data.toList[2] t.data.toList[3] := .inr (.inr (.inr ⟨k3, .inl (by rw [← HY.out]; exact hB)⟩))
              have HO := Lib.hid ho
              clear ho
              go_wp2_with fail
              go_quiet (fail)
              go_wp2_with fail
              go_quiet (fail)
              go_wp2_with (go_at_call 35; refine (writeRune w.heap.size w.heap.size _ _ (by omega) (by omega) _ (by exact HI.out) (by rw [Lib.byteCells_length]; omega) (by exact hsz)).mono ?_; rintro e W1 ⟨rfl, h1, b1, k1⟩)
              obtain ⟨f1, f2, f3⟩ := AL.out W1 h1 (HO.out)
              go_roundw
              case rel => exact ⟨_, _, rfl, hts2, f1, f2, (bdrewN hb _).trans b1, Nat.le_trans hsz b1.size, f3⟩
              case measure => exact htm
            · have ho : x < 55296 ∨ 56320 ≤ x ∨ t.data.toList.length ≤ 3 ∨ ∃ h3 : 3 < t.data.toList.length, uBE t.data.toList[2] t.data.toList[3] < 56320 ∨ 57343 < uBE t.data.toList[2] t.data.toList[3] := .inr (.inr (.inr ⟨k3, .inr (by rw [← HY.out]; exact hB)⟩))
              have HO := Lib.hid ho
              clear ho
              go_wp2_with fail
              go_quiet (fail)
              go_wp2_with fail
              go_quiet (fail)
              go_wp2_with (go_at_call 35; refine (writeRune w.heap.size w.heap.size _ _ (by omega) (by omega) _ (by exact HI.out) (by rw [Lib.byteCells_length]; omega) (by exact hsz)).mono ?_; rintro e W1 ⟨rfl, h1, b1, k1⟩)
              obtain ⟨f1, f2, f3⟩ := AL.out W1 h1 (HO.out)
              go_roundw
              case rel => exact ⟨_, _, rfl, hts2, f1, f2, (bdrewN hb _).trans b1, Nat.le_trans hsz b1.size, f3⟩
              case measure => exact htm
        · have i3 : ¬ (3 : Int) < (t.size : Int) := by omega
          go_wp2_with fail
          go_quiet (fail)
          go_wp2_with (go_at_call 35; refine (writeRune w.heap.size w.heap.size _ _ (by omega) (by omega) _ (by exact HI.out) (by rw [Lib.byteCells_length]; omega) (by exact hsz)).mono ?_; rintro e W1 ⟨rfl, h1, b1, k1⟩)
          obtain ⟨f1, f2, f3⟩ := AL.out W1 h1 (.inr (.inr (.inl (by have := HL.out; omega))))
          go_roundw
          case rel => exact ⟨_, _, rfl, hts2, f1, f2, (bdrewN hb _).trans b1, Nat.le_trans hsz b1.size, f3⟩
          case measure => exact htm
      · have hA2 : x < 55296 ∨ 56320 ≤ x := by omega
        clear hA
        rcases hA2 with hA | hA
        · skip
          go_wp2_with fail
          go_quiet (fail)
          go_wp2_with (go_at_call 35; refine (writeRune w.heap.size w.heap.size _ _ (by omega) (by omega) _ (by exact HI.out) (by rw [Lib.byteCells_length]; omega) (by exact hsz)).mono ?_; rintro e W1 ⟨rfl, h1, b1, k1⟩)
          obtain ⟨f1, f2, f3⟩ := AL.out W1 h1 (.inl hA)
          go_roundw
          case rel => exact ⟨_, _, rfl, hts2, f1, f2, (bdrewN hb _).trans b1, Nat.le_trans hsz b1.size, f3⟩
          case measure => exact htm
        · skip
          go_wp2_with fail
          go_quiet (fail)
          go_wp2_with (go_at_call 35; refine (writeRune w.heap.size w.heap.size _ _ (by omega) (by omega) _ (by exact HI.out) (by rw [Lib.byteCells_length]; omega) (by exact hsz)).mono ?_; rintro e W1 ⟨rfl, h1, b1, k1⟩)
          obtain ⟨f1, f2, f3⟩ := AL.out W1 h1 (.inr (.inl hA))
          go_roundw
          case rel => exact ⟨_, _, rfl, hts2, f1, f2, (bdrewN hb _).trans b1, Nat.le_trans hsz b1.size, f3⟩
          case measure => exact htm
    · by_cases h0 : t.size = 0
      · have e0 : t.data.toList = [] := by
          apply List.eq_nil_of_length_eq_zero; rw [hl]; exact h0
        have hf := HA.out
        rw [e0] at hf
        simp only [dblL, List.append_nil] at hf
        have HF := Lib.hid hf
        clear hf HA hl
        obtain rfl : t = ByteArray.empty := by
          apply ByteArray.ext; apply Array.ext'; rw [e0]; rfl
        clear e0 h0
        go_wp2_with (go_at_call 36; refine (Tryz.Builder_String_any_k w.heap.size w.heap.size _ _ HI.out hsz).mono ?_; rintro e W1 ⟨rfl, _, b1, _⟩)
        go_ret
        exact ⟨by rw [HF.out]; rfl, hb.trans b1⟩
      · have hone : t.size = 1 := by omega
        have e1 : dblL uBE t.data.toList = Lib.encodeRune 65533 := by
          have hl1 : t.data.toList.length = 1 := by rw [hl]; exact hone
          match t.data.toList, hl1 with
          | [a], _ => rfl
        have hf := HA.out
        rw [e1] at hf
        have HF := Lib.hid hf
        have hle := Lib.runeCells_le 65533
        have hnm : t.toList.isEmpty = false := by
          cases hh : t.toList with
          | nil =>
            have := congrArg List.length hh
            rw [ByteArray.toList_eq] at hh
            have := congrArg List.length hh
            simp [hone] at this
          | cons a b => rfl
        have hlen2 : acc.length + 4 ≤ 140737488355328 := by omega
        clear hf HA hl e1 hone h0
        go_wp2_with (first
          | (go_at_call 35; refine (writeRune w.heap.size w.heap.size _ _ (by omega) (by omega) _ HI.out (by rw [Lib.byteCells_length]; exact hlen2) hsz).mono ?_; rintro e W1 ⟨rfl, h2, b1, k1⟩; rw [← Lib.byteCells_encodeRune, ← Lib.byteCells_append, HF.out] at h2; have hsz1 := Nat.le_trans hsz b1.size)
          | (go_at_call 36; refine (Tryz.Builder_String_any_k w.heap.size w.heap.size _ _ (by assumption) (by assumption)).mono ?_; rintro e W2 ⟨rfl, _, b2, _⟩))
        go_ret
        exact ⟨rfl, (hb.trans b1).trans b2⟩
theorem chars_doubles.calls (s : ByteArray) (first second : Int) (r : ByteArray) (w : World) (h : chars_doubles.f s first second = some r) :
    Calls Tryz.prog 126 #[.string s, .int .i64 first, .int .i64 second] w fun e w' => e = .returned (.string r) ∧ Below w.heap.size w w' := by
  obtain ⟨⟨hs, ho⟩, rfl⟩ := of_guard h
  rcases ho with ⟨rfl, rfl⟩ | ⟨rfl, rfl⟩
  · exact doubles_uLE s w hs
  · exact doubles_uBE s w hs
end Go.Proofs.YtpcncpegbboljaaGreatDoor
namespace Go.Proofs.YtpcncpegbboljaaGreatDoor
open Go.RowKit
structure Glob (w : World) : Prop where
  high : TabHigh w
  tabs : Lib.Utf8Tabs 1 2 w
  maxl : ∃ m, w.cell? ⟨0, 0, none⟩ = some (.int .i64 m)
theorem Glob.below {w w1 : World} (h : Glob w) (hb : Below w.heap.size w w1) : Glob w1 :=
  ⟨h.high.below hb, Utf8Tabs_below h.tabs hb, by obtain ⟨m, hm⟩ := h.maxl; exact ⟨m, (hb.cell (World.block_lt_of_cell? _ _ hm)).trans hm⟩⟩
theorem chars_singles.calls (s r : ByteArray) (w : World) (hGl : Glob w) (h : chars_singles.f s = some r) :
    Calls Tryz.prog 125 #[.string s] w fun e w' => e = .returned (.string r) ∧ Below w.heap.size w w' := chars_singles.calls' s r w hGl.high h
end Go.Proofs.YtpcncpegbboljaaGreatDoor
namespace Go.Proofs.YtpcncpegbboljaaGreatDoor.Pure
open Go.RowKit Go.Proofs.YtpcncpegbboljaaGreatDoorW.PrintWords
set_option linter.unusedVariables false
set_option linter.unusedSimpArgs false
theorem w64 {x : Int} (h0 : -9223372036854775808 ≤ x) (h1 : x ≤ 9223372036854775807) : wrap64 x = x := by unfold wrap64; omega
theorem sizeL (s : ByteArray) : s.data.toList.length = s.size := by simp
theorem toList_eq (s : ByteArray) : s.toList = s.data.toList := ByteArray.toList_eq s
theorem mk_size (l : List UInt8) : (⟨l.toArray⟩ : ByteArray).size = l.length := by simp [ByteArray.size]
theorem extract_list (s : ByteArray) (i j : Nat) : (s.extract i j).data.toList = (s.data.toList.take j).drop i := by
  simp [List.drop_take]
theorem mk_back (s : ByteArray) : (⟨s.data.toList.toArray⟩ : ByteArray) = s := by
  apply ByteArray.ext; simp
theorem ba_ext {s t : ByteArray} (h : s.data.toList = t.data.toList) : s = t := by
  apply ByteArray.ext; exact Array.ext' h
theorem bt_get (s : ByteArray) (i : Nat) (h : i < s.data.toList.length) : bt s (i : Int) = (s.data.toList[i].toNat : Int) := by
  unfold bt
  have h2 : i < s.size := by simpa using h
  rw [dif_pos (by simpa using h2)]
  rfl
theorem Ev.round {α : Type} {g f : Nat → Option α} {r : α} (h : ∀ k, g (k + 1) = f k) (k : Ev f r) : Ev g r := Ev.step h k
theorem Ev.pos {α : Type} {c : Prop} [Decidable c] {g f : Nat → Option α} {r : α} (h : c) (k : Ev g r) : Ev (fun n => if c then g n else f n) r := by
  refine Ev.congr (fun n => ?_) k; exact if_pos h
theorem Ev.neg {α : Type} {c : Prop} [Decidable c] {g f : Nat → Option α} {r : α} (h : ¬ c) (k : Ev f r) : Ev (fun n => if c then g n else f n) r := by
  refine Ev.congr (fun n => ?_) k; exact if_neg h
theorem Ev.got {α β : Type} {x : Option α} {a : α} {f : Nat → α → Option β} {r : β} (h : x = some a) (k : Ev (fun n => f n a) r) : Ev (fun n => x.bind (f n)) r := by
  subst h; exact k
end Go.Proofs.YtpcncpegbboljaaGreatDoor.Pure
namespace Go.Proofs.YtpcncpegbboljaaGreatDoor.Addr
open Go.RowKit Go.Lib Go.Proofs.YtpcncpegbboljaaGreatDoor Go.Proofs.YtpcncpegbboljaaGreatDoor.Pure
set_option linter.unusedVariables false
set_option linter.unusedSimpArgs false
def noB : ByteArray := ⟨#[60, 62, 40, 41, 44, 59, 58, 92, 34]⟩
theorem idx_kind (p : Nat → Bool) (q : UInt8 → Bool) (hq : ∀ c : UInt8, c.toNat < 128 → p c.toNat = !q c) (hh : ∀ r : Nat, 128 ≤ r → p r = true) (hk : ∀ c : UInt8, 128 ≤ c.toNat → q c = false) (s : ByteArray) :
    ∀ (f pos : Nat), s.size ≤ pos + f → decide (0 ≤ idxFuncFrom p true s f pos) = !((s.data.toList.drop pos).all q)
  | 0, pos, h => by
    rw [List.drop_eq_nil_of_le (by simp; omega)]; rfl
  | f + 1, pos, h => by
    have hl : s.data.toList.length = s.size := by simp
    unfold idxFuncFrom
    by_cases hp : pos < s.size
    · rw [if_pos hp, decode_list]
      have hc : s.data.toList.drop pos = s.data.toList[pos] :: s.data.toList.drop (pos + 1) := List.drop_eq_getElem_cons (by rw [hl]; exact hp)
      generalize s.data.toList[pos]'(by rw [hl]; exact hp) = c at hc
      have hb : byteAt (s.data.toList.drop pos) 0 = c.toNat := by rw [hc]; rfl
      by_cases h1 : c.toNat < 128
      · have hd : uDec (s.data.toList.drop pos) = (c.toNat, 1) := by unfold uDec; rw [hb, if_pos h1]
        rw [hd, hc, List.all_cons]
        simp only
        have ih := idx_kind p q hq hh hk s f (pos + 1) (by omega)
        have hpc := hq c h1
        cases hqc : q c with
        | true =>
          rw [hqc] at hpc
          rw [if_neg (by rw [hpc]; simp), ih, Bool.true_and]
        | false =>
          rw [hqc] at hpc
          rw [if_pos (by rw [hpc]; rfl)]; simp
      · have hd := (dec_highs (s.data.toList.drop pos) (by rw [hc]; simp) (by rw [hb]; omega)).1
        rw [if_pos (hh _ hd), hc, List.all_cons, hk c (by omega)]
        simp
    · rw [if_neg hp, List.drop_eq_nil_of_le (by rw [hl]; omega)]; rfl
theorem idx_kind_all (p : Nat → Bool) (q : UInt8 → Bool) (hq : ∀ c : UInt8, c.toNat < 128 → p c.toNat = !q c) (hh : ∀ r : Nat, 128 ≤ r → p r = true) (hk : ∀ c : UInt8, 128 ≤ c.toNat → q c = false) (s : ByteArray) :
    decide (0 ≤ idxFunc p true s) = !(s.data.toList.all q) := by
  have := idx_kind p q hq hh hk s s.size 0 (by omega)
  rw [List.drop_zero] at this
  exact this
theorem idx_low (p : Nat → Bool) (q : UInt8 → Bool) (hq : ∀ c : UInt8, c.toNat < 128 → p c.toNat = q c) (hh : ∀ r : Nat, 128 ≤ r → p r = false) (hk : ∀ c : UInt8, 128 ≤ c.toNat → q c = false) (s : ByteArray) :
    ∀ (f pos : Nat), s.size ≤ pos + f → decide (0 ≤ idxFuncFrom p true s f pos) = (s.data.toList.drop pos).any q
  | 0, pos, h => by
    rw [List.drop_eq_nil_of_le (by simp; omega)]; rfl
  | f + 1, pos, h => by
    have hl : s.data.toList.length = s.size := by simp
    unfold idxFuncFrom
    by_cases hp : pos < s.size
    · rw [if_pos hp, decode_list]
      have hc : s.data.toList.drop pos = s.data.toList[pos] :: s.data.toList.drop (pos + 1) := List.drop_eq_getElem_cons (by rw [hl]; exact hp)
      generalize s.data.toList[pos]'(by rw [hl]; exact hp) = c at hc
      have hb : byteAt (s.data.toList.drop pos) 0 = c.toNat := by rw [hc]; rfl
      by_cases h1 : c.toNat < 128
      · have hd : uDec (s.data.toList.drop pos) = (c.toNat, 1) := by unfold uDec; rw [hb, if_pos h1]
        rw [hd, hc, List.any_cons]
        simp only
        have ih := idx_low p q hq hh hk s f (pos + 1) (by omega)
        have hpc := hq c h1
        cases hqc : q c with
        | true =>
          rw [hqc] at hpc
          rw [if_pos hpc]; simp
        | false =>
          rw [hqc] at hpc
          rw [if_neg (by rw [hpc]; exact Bool.false_ne_true), ih, Bool.false_or]
      · have hne : s.data.toList.drop pos ≠ [] := by rw [hc]; simp
        obtain ⟨hd, hbs⟩ := dec_highs (s.data.toList.drop pos) hne (by rw [hb]; omega)
        have hwd := dec_width _ hne
        rw [if_neg (by rw [hh _ hd]; exact Bool.false_ne_true), idx_low p q hq hh hk s f _ (by omega)]
        have e : s.data.toList.drop (pos + (uDec (s.data.toList.drop pos)).2) = (s.data.toList.drop pos).drop (uDec (s.data.toList.drop pos)).2 := by rw [List.drop_drop]
        rw [e]
        conv => rhs; rw [← List.take_append_drop (uDec (s.data.toList.drop pos)).2 (s.data.toList.drop pos), List.any_append]
        have hz : ((s.data.toList.drop pos).take (uDec (s.data.toList.drop pos)).2).any q = false := by
          rw [List.any_eq_false]
          intro b hbm
          rw [hk b (hbs b hbm)]; exact Bool.false_ne_true
        rw [hz, Bool.false_or]
    · rw [if_neg hp, List.drop_eq_nil_of_le (by rw [hl]; omega)]; rfl
theorem idx_low_all (p : Nat → Bool) (q : UInt8 → Bool) (hq : ∀ c : UInt8, c.toNat < 128 → p c.toNat = q c) (hh : ∀ r : Nat, 128 ≤ r → p r = false) (hk : ∀ c : UInt8, 128 ≤ c.toNat → q c = false) (s : ByteArray) :
    decide (0 ≤ idxFunc p true s) = s.data.toList.any q := by
  have := idx_low p q hq hh hk s s.size 0 (by omega)
  rw [List.drop_zero] at this
  exact this
theorem idx_high (p : Nat → Bool) (q : UInt8 → Bool) (hq : ∀ c : UInt8, c.toNat < 128 → p c.toNat = q c) (hh : ∀ r : Nat, 128 ≤ r → p r = true) (hk : ∀ c : UInt8, 128 ≤ c.toNat → q c = true) (s : ByteArray) :
    decide (0 ≤ idxFunc p true s) = s.data.toList.any q := by
  have h := idx_kind_all p (fun c => !q c) (fun c h => by rw [hq c h]; simp) hh (fun c h => by rw [hk c h]; rfl) s
  rw [h, List.all_eq_not_any_not]; simp
def visC (c : UInt8) : Bool := decide (33 ≤ c.toNat ∧ c.toNat ≤ 126)
def visR (x : Nat) : Bool := decide ((x : Int) < 33) || decide (126 < (x : Int))
theorem vis_c (W : World) (x : Nat) (hx : x ≤ 1114111) : Calls Tryz.prog 27 #[.int .i32 (x : Int)] W fun e w' => e = .returned (.bool (visR x)) ∧ Below W.heap.size W w' := by
  unfold visR
  by_cases h1 : (x : Int) < 33
  · have h1' : x < 33 := by omega
    go_enter Tryz.func27, Tryz.ntmps27
    go_wp2
    go_ret
    refine ⟨?_, Below.refl _ _⟩
    simp [h1']
    try omega
  · have h1' : ¬ x < 33 := by omega
    go_enter Tryz.func27, Tryz.ntmps27
    go_wp2
    go_ret
    refine ⟨?_, Below.refl _ _⟩
    simp [h1']
    try omega
theorem visF_c (s : ByteArray) (W : World) : Calls Tryz.prog 26 #[.string s, .func (.func 27) #[] #[]] W fun e w' => e = .returned (.bool (!(s.data.toList.all visC))) ∧ Below W.heap.size W w' := by
  have h := Tryz.strings_ContainsFunc_grows 27 #[] (enters_of Tryz.func27 (by kernel_rfl) rfl) visR s W (fun W2 x hx _ => vis_c W2 x hx)
  rw [idx_kind_all visR visC (fun c h => by unfold visR visC; rw [Bool.eq_iff_iff]; simp; omega) (fun r h => by unfold visR; simp; omega) (fun c h => by unfold visC; exact decide_eq_false (by omega))] at h
  exact h
def goodL (l : List UInt8) : Bool := (cutL 64 l).2.2 && !(cutL 64 l).1.isEmpty && !(cutL 64 l).2.1.isEmpty && !(decide (0 ≤ indexByte (cutL 64 l).2.1 64)) && !(l.any noB.data.toList.contains) && l.all visC
def addr_Good.f (s : ByteArray) : Option Bool := if s.size ≤ 11000000 then some (goodL s.data.toList) else none
set_option maxRecDepth 100000 in
set_option maxHeartbeats 4000000 in
theorem Good_c (s : ByteArray) (hs : s.size ≤ 11000000) (w : World) :
    Calls Tryz.prog 13 #[.string s] w fun e w' => e = .returned (.bool (goodL s.data.toList)) ∧ Below w.heap.size w w' := by
  have hcu : strings_Cut.f s (⟨#[64]⟩ : ByteArray) = some (⟨(cutL 64 s.data.toList).1.toArray⟩, ⟨(cutL 64 s.data.toList).2.1.toArray⟩, (cutL 64 s.data.toList).2.2) := by
    unfold strings_Cut.f
    rw [if_pos ⟨rfl, by omega⟩]
    rfl
  have CU := Lib.hid (fun W => strings_Cut.calls s (⟨#[64]⟩ : ByteArray) _ _ _ W hcu)
  have CO := Lib.hid (fun W => Tryz.strings_Contains_one (⟨(cutL 64 s.data.toList).2.1.toArray⟩ : ByteArray) 64 W)
  have CA := Lib.hid (fun W => containsAny_c s noB (by decide) (by decide) (by decide) hs W)
  have CF := Lib.hid (fun W => visF_c s W)
  unfold goodL
  clear hcu
  rw [show (⟨(cutL 64 s.data.toList).2.1.toArray⟩ : ByteArray).data.toList = (cutL 64 s.data.toList).2.1 from rfl] at CO
  generalize decide (0 ≤ indexByte (cutL 64 s.data.toList).2.1 64) = q1 at *
  generalize s.data.toList.any noB.data.toList.contains = q2 at *
  generalize s.data.toList.all visC = q3 at *
  have e1 : (⟨(cutL 64 s.data.toList).1.toArray⟩ : ByteArray).toList = (cutL 64 s.data.toList).1 := toList_eq _
  have e2 : (⟨(cutL 64 s.data.toList).2.1.toArray⟩ : ByteArray).toList = (cutL 64 s.data.toList).2.1 := toList_eq _
  generalize (⟨(cutL 64 s.data.toList).1.toArray⟩ : ByteArray) = X at *
  generalize (⟨(cutL 64 s.data.toList).2.1.toArray⟩ : ByteArray) = Y at *
  generalize cutL 64 s.data.toList = ct at *
  obtain ⟨p, p2, p3⟩ := ct
  simp only at CU CO e1 e2 ⊢
  have hcon : noB = (⟨#[60, 62, 40, 41, 44, 59, 58, 92, 34]⟩ : ByteArray) := rfl
  rw [hcon] at CA
  clear hcon
  go_enter Tryz.func13, Tryz.ntmps13
  cases p3 with
  | false =>
    go_wp2_with (first
      | (go_at_call 23; refine (CU.out _).mono ?_; rintro e w1 ⟨rfl, b1⟩; have B1 := Lib.hid b1; clear b1))
    go_ret
    exact ⟨by simp, B1.out⟩
  | true =>
  cases p with
  | nil =>
    have x1 : X.toList.isEmpty = true := by rw [e1]; rfl
    go_wp2_with (first
      | (go_at_call 23; refine (CU.out _).mono ?_; rintro e w1 ⟨rfl, b1⟩; have B1 := Lib.hid b1; clear b1))
    go_ret
    exact ⟨by simp, B1.out⟩
  | cons c1 p' =>
  have x1 : X.toList.isEmpty = false := by rw [e1]; rfl
  have x2 : ¬ X.toList = [] := by rw [e1]; simp
  clear e1
  cases p2 with
  | nil =>
    have y1 : Y.toList.isEmpty = true := by rw [e2]; rfl
    go_wp2_with (first
      | (go_at_call 23; refine (CU.out _).mono ?_; rintro e w1 ⟨rfl, b1⟩; have B1 := Lib.hid b1; clear b1))
    go_ret
    exact ⟨by simp, B1.out⟩
  | cons c2 p2' =>
  have y1 : Y.toList.isEmpty = false := by rw [e2]; rfl
  have y2 : ¬ Y.toList = [] := by rw [e2]; simp
  clear e2
  cases q1 with
  | true =>
    go_wp2_with (first
      | (go_at_call 23; refine (CU.out _).mono ?_; rintro e w1 ⟨rfl, b1⟩; have B1 := Lib.hid b1; clear b1)
      | (go_at_call 24; refine (CO.out _).mono ?_; rintro e w2 ⟨rfl, rfl⟩))
    go_ret
    exact ⟨by simp, B1.out⟩
  | false =>
  cases q2 with
  | true =>
    go_wp2_with (first
      | (go_at_call 23; refine (CU.out _).mono ?_; rintro e w1 ⟨rfl, b1⟩; have B1 := Lib.hid b1; clear b1)
      | (go_at_call 24; refine (CO.out _).mono ?_; rintro e w2 ⟨rfl, rfl⟩)
      | (go_at_call 25; refine (CA.out _).mono ?_; rintro e w3 ⟨rfl, b3⟩; have B3 := Lib.hid (B1.out.trans (b3.mono B1.out.size)); clear b3))
    go_ret
    exact ⟨by simp, B3.out⟩
  | false =>
  cases q3 with
  | true =>
    go_wp2_with (first
      | (go_at_call 23; refine (CU.out _).mono ?_; rintro e w1 ⟨rfl, b1⟩; have B1 := Lib.hid b1; clear b1)
      | (go_at_call 24; refine (CO.out _).mono ?_; rintro e w2 ⟨rfl, rfl⟩)
      | (go_at_call 25; refine (CA.out _).mono ?_; rintro e w3 ⟨rfl, b3⟩; have B3 := Lib.hid (B1.out.trans (b3.mono B1.out.size)); clear b3)
      | (go_at_call 26; refine (CF.out _).mono ?_; rintro e w4 ⟨rfl, b4⟩; have B4 := Lib.hid (B3.out.trans (b4.mono B3.out.size)); clear b4))
    go_ret
    exact ⟨by simp, B4.out⟩
  | false =>
    go_wp2_with (first
      | (go_at_call 23; refine (CU.out _).mono ?_; rintro e w1 ⟨rfl, b1⟩; have B1 := Lib.hid b1; clear b1)
      | (go_at_call 24; refine (CO.out _).mono ?_; rintro e w2 ⟨rfl, rfl⟩)
      | (go_at_call 25; refine (CA.out _).mono ?_; rintro e w3 ⟨rfl, b3⟩; have B3 := Lib.hid (B1.out.trans (b3.mono B1.out.size)); clear b3)
      | (go_at_call 26; refine (CF.out _).mono ?_; rintro e w4 ⟨rfl, b4⟩; have B4 := Lib.hid (B3.out.trans (b4.mono B3.out.size)); clear b4))
    go_ret
    exact ⟨by simp, B4.out⟩
theorem addr_Good.calls (s : ByteArray) (r : Bool) (w : World) (h : addr_Good.f s = some r) :
    Calls Tryz.prog 13 #[.string s] w fun e w' => e = .returned (.bool r) ∧ Below w.heap.size w w' := by
  obtain ⟨h1, rfl⟩ := of_guard h
  exact Good_c s h1 w
end Go.Proofs.YtpcncpegbboljaaGreatDoor.Addr
namespace Go.Proofs.YtpcncpegbboljaaGreatDoor.A
open Go.RowKit Go.Proofs.YtpcncpegbboljaaGreatDoorW.PrintWords Go.Proofs.YtpcncpegbboljaaGreatDoorW.PrintLast Go.Proofs.YtpcncpegbboljaaGreatDoorW.PrintMore
attribute [local go_sem] max2_int min2_int max_two min_two max_three min_three max_four min_four
set_option linter.unusedVariables false
set_option linter.unusedSimpArgs false
def errW : Option Int → Value
  | none => .nilIface
  | some c => .iface 0 (.int .i64 c)
theorem errW_none : errW none = .nilIface := rfl
theorem errW_some (c : Int) : errW (some c) = .iface 0 (.int .i64 c) := rfl
end Go.Proofs.YtpcncpegbboljaaGreatDoor.A
namespace Go.Proofs.YtpcncpegbboljaaGreatDoor.A
open Go.RowKit Go.Proofs.YtpcncpegbboljaaGreatDoorW.PrintWords Go.Proofs.YtpcncpegbboljaaGreatDoorW.PrintLast Go.Proofs.YtpcncpegbboljaaGreatDoorW.PrintMore
attribute [local go_sem] max2_int min2_int max_two min_two max_three min_three max_four min_four
set_option linter.unusedVariables false
set_option linter.unusedSimpArgs false
mutual
def addr_stretch.l0 : Nat → ByteArray → Int → Int → Option (Int × Bool)
  | 0, _, _, _ => none
  | k + 1, x0, x4, x5 => if x5 < (x0.size : Int) then (if 0 ≤ x5 then (if (bt x0 x5) = 92 then (addr_stretch.l0 k x0 x4 (wrap64 ((wrap64 (x5 + 1)) + 1))) else (if 0 < (x0.size : Int) then (if (bt x0 0) = 34 then (if (bt x0 x5) = 34 then (addr_stretch.j1 k x0 x4 x5 (bt x0 x5) (decide (x5 > 0))) else (addr_stretch.j1 k x0 x4 x5 (bt x0 x5) false)) else (addr_stretch.j1 k x0 x4 x5 (bt x0 x5) false)) else (none))) else (none)) else (some ((x0.size : Int), false))
def addr_stretch.j1 : Nat → ByteArray → Int → Int → Int → Bool → Option (Int × Bool)
  | 0, _, _, _, _, _ => none
  | k + 1, x0, x4, x5, x6, x21 => if x21 = true then (some (wrap64 (x5 + 1), true)) else (if 0 < (x0.size : Int) then (if (bt x0 0) = 40 then (addr_stretch.j2 k x0 x4 x5 x6 (x6 == 40)) else (addr_stretch.j2 k x0 x4 x5 x6 false)) else (none))
def addr_stretch.j2 : Nat → ByteArray → Int → Int → Int → Bool → Option (Int × Bool)
  | 0, _, _, _, _, _ => none
  | k + 1, x0, x4, x5, x6, x35 => if x35 = true then (addr_stretch.l0 k x0 (wrap64 (x4 + 1)) (wrap64 (x5 + 1))) else (if 0 < (x0.size : Int) then (if (bt x0 0) = 40 then (addr_stretch.j3 k x0 x4 x5 (x6 == 41)) else (addr_stretch.j3 k x0 x4 x5 false)) else (none))
def addr_stretch.j3 : Nat → ByteArray → Int → Int → Bool → Option (Int × Bool)
  | 0, _, _, _, _ => none
  | k + 1, x0, x4, x5, x45 => if x45 = true then (if (wrap64 (x4 - 1)) = 0 then (some (wrap64 (x5 + 1), true)) else (addr_stretch.l0 k x0 (wrap64 (x4 - 1)) (wrap64 (x5 + 1)))) else (addr_stretch.l0 k x0 x4 (wrap64 (x5 + 1)))
end
def addr_stretch.f (k : Nat) (a0 : ByteArray) : Option (Int × Bool) := addr_stretch.l0 k a0 0 0
set_option maxHeartbeats 8000000 in
set_option maxRecDepth 100000 in
theorem addr_stretch.calls (k : Nat) (a0 : ByteArray) (r1 : Int) (r2 : Bool) (w : World) (h : addr_stretch.f k a0 = some (r1, r2)) :
    Calls Tryz.prog 66 #[.string a0] w fun e w' => e = .returned (.tuple #[.int .i64 r1, .bool r2]) ∧ Drawn0 w w' := by
  have H : (addr_stretch.l0 k a0 0 0) = some (r1, r2) := h; clear h; have H' := Aside0.mk H; clear H
  go_enter Tryz.func66, Tryz.ntmps66
  go_wp2
  go_loopg [4, 5] k (fun kq v4 v5 w' => ∃ (x4_1 : Int) (x5_1 : Int), v4 = .int .i64 x4_1 ∧ v5 = .int .i64 x5_1 ∧ Aside0 (addr_stretch.l0 kq a0 x4_1 x5_1 = some (r1, r2)) ∧ Aside0 (kq ≤ k) ∧ Drawn0 w w')
  case atStart => exact ⟨(0), (0), (by first | rfl | (simp; done) | (simp [*]; done)), (by first | rfl | (simp; done) | (simp [*]; done)), H', ⟨Nat.le_refl _⟩, by repeat (first | exact Drawn0.refl _ | apply Drawn0.step)⟩
  case round =>
    clear H'; obtain ⟨x4_1, x5_1, rfl, rfl, HA, HK1, ⟨m1, rfl⟩⟩ := hrel
    cases gk with
    | zero => exact absurd HA.out (by simp [addr_stretch.l0])
    | succ k1 =>
      have H := HA.out; clear HA; simp only [addr_stretch.l0] at H
      by_cases c2 : x5_1 < (a0.size : Int)
      case neg =>
        rw [if_neg c2] at H; have c2b0 : decide (x5_1 < (a0.size : Int)) = false := decide_eq_false c2; clear c2; simp only [Option.some.injEq, Prod.mk.injEq] at H; obtain ⟨rfl, rfl⟩ := H
        go_wp2
        go_ret2
        exact ⟨by first | rfl | (simp; done) | (simp [*]; done), by repeat (first | exact Drawn0.refl _ | apply Drawn0.step)⟩
      rw [if_pos c2] at H; have c2b0 : decide (x5_1 < (a0.size : Int)) = true := decide_eq_true c2; clear c2
      by_cases c3 : 0 ≤ x5_1
      case neg =>
        rw [if_neg c3] at H
        exact absurd H (by simp)
      rw [if_pos c3] at H; have c3b0 : decide (0 ≤ x5_1) = true := decide_eq_true c3; clear c3
      by_cases c5 : (bt a0 x5_1) = 92
      case pos =>
        rw [if_pos c5] at H; have c5b0 : ((bt a0 x5_1) == 92) = true := beq_iff_eq.mpr c5; have c5b1 : ((bt a0 x5_1) != 92) = false := bne_eq_false_iff_eq.mpr c5; clear c5; have H' := Aside0.mk H; clear H; have p4 : 0 ≤ (x5_1 : Int) := of_decide_eq_true (by first | (with_reducible assumption) | assumption); have q4 : x5_1 < (a0.size : Int) := of_decide_eq_true (by first | (with_reducible assumption) | assumption); have hx4 := bt_at a0 x5_1; replace p4 := eq_true p4; replace q4 := eq_true q4
        go_wp2
        go_roundg k1
        case measure => have := HK1.out; omega
        case rel => exact ⟨(x4_1), (wrap64 ((wrap64 (x5_1 + 1)) + 1)), (by first | rfl | (simp; done) | (simp [*]; done)), (by first | rfl | (simp; done) | (simp [*]; done)), H', ⟨by have := HK1.out; omega⟩, by repeat (first | exact Drawn0.refl _ | apply Drawn0.step)⟩
      rw [if_neg c5] at H; have c5b0 : ((bt a0 x5_1) == 92) = false := beq_eq_false_iff_ne.mpr c5; have c5b1 : ((bt a0 x5_1) != 92) = true := bne_iff_ne.mpr c5; have HC6 := Aside0.mk H; clear H; have p4 : 0 ≤ (x5_1 : Int) := of_decide_eq_true (by first | (with_reducible assumption) | assumption); have q4 : x5_1 < (a0.size : Int) := of_decide_eq_true (by first | (with_reducible assumption) | assumption); have hx4 := bt_at a0 x5_1; replace p4 := eq_true p4; replace q4 := eq_true q4
      go_upto_region 8 with (fail)
      go_cut [21] (fun v21 wc => ∃ (kq : Nat) (x21_5 : Bool), v21 = .bool x21_5 ∧ Aside0 (addr_stretch.j1 kq a0 x4_1 x5_1 (bt a0 x5_1) x21_5 = some (r1, r2)) ∧ Aside0 (kq ≤ k1) ∧ Drawn0 w wc)
      case first =>
        have H := HC6.out; clear HC6
        by_cases c7 : 0 < (a0.size : Int)
        case neg =>
          rw [if_neg c7] at H
          exact absurd H (by simp)
        rw [if_pos c7] at H; have c7b0 : decide (0 < (a0.size : Int)) = true := decide_eq_true c7; have c7b1 : decide (0 < a0.size) = true := decide_eq_true (by omega); clear c7
        (first | rw [c7b0] | (simp only [i64_w, i32_w]; rw [c7b0]) | skip)
        by_cases c9 : (bt a0 0) = 34
        case neg =>
          rw [if_neg c9] at H; have c9b0 : ((bt a0 0) == 34) = false := beq_eq_false_iff_ne.mpr c9; have c9b1 : ((bt a0 0) != 34) = true := bne_iff_ne.mpr c9; have H' := Aside0.mk H; clear H; have p8 : 0 ≤ (0 : Int) := (by omega); have q8 : 0 < a0.size := (by have : (0 : Int) < (a0.size : Int) := of_decide_eq_true (by first | (with_reducible assumption) | assumption); omega); have hx8 : ∀ h : 0 < a0.size, ((a0[0]'h).toNat : Int) = bt a0 0 := bt_at a0 0; clear p8; have qi8 : (0 < (a0.size : Int)) = True := eq_true (of_decide_eq_true (by first | (with_reducible assumption) | assumption)); replace q8 := eq_true q8
          go_wp2
          go_meet
          case rel => exact ⟨_, (false), (by first | rfl | (simp; done) | (simp [*]; done)), H', ⟨by have := HK1.out; first | omega | exact Nat.le_refl _⟩, by repeat (first | exact Drawn0.refl _ | apply Drawn0.step)⟩
        rw [if_pos c9] at H; have c9b0 : ((bt a0 0) == 34) = true := beq_iff_eq.mpr c9; have c9b1 : ((bt a0 0) != 34) = false := bne_eq_false_iff_eq.mpr c9; clear c9
        by_cases c10 : (bt a0 x5_1) = 34
        case neg =>
          rw [if_neg c10] at H; have c10b0 : ((bt a0 x5_1) == 34) = false := beq_eq_false_iff_ne.mpr c10; have c10b1 : ((bt a0 x5_1) != 34) = true := bne_iff_ne.mpr c10; have H' := Aside0.mk H; clear H; have p8 : 0 ≤ (0 : Int) := (by omega); have q8 : 0 < a0.size := (by have : (0 : Int) < (a0.size : Int) := of_decide_eq_true (by first | (with_reducible assumption) | assumption); omega); have hx8 : ∀ h : 0 < a0.size, ((a0[0]'h).toNat : Int) = bt a0 0 := bt_at a0 0; clear p8; have qi8 : (0 < (a0.size : Int)) = True := eq_true (of_decide_eq_true (by first | (with_reducible assumption) | assumption)); replace q8 := eq_true q8
          go_wp2
          go_meet
          case rel => exact ⟨_, (false), (by first | rfl | (simp; done) | (simp [*]; done)), H', ⟨by have := HK1.out; first | omega | exact Nat.le_refl _⟩, by repeat (first | exact Drawn0.refl _ | apply Drawn0.step)⟩
        rw [if_pos c10] at H; have c10b0 : ((bt a0 x5_1) == 34) = true := beq_iff_eq.mpr c10; have c10b1 : ((bt a0 x5_1) != 34) = false := bne_eq_false_iff_eq.mpr c10; clear c10; have H' := Aside0.mk H; clear H; have p8 : 0 ≤ (0 : Int) := (by omega); have q8 : 0 < a0.size := (by have : (0 : Int) < (a0.size : Int) := of_decide_eq_true (by first | (with_reducible assumption) | assumption); omega); have hx8 : ∀ h : 0 < a0.size, ((a0[0]'h).toNat : Int) = bt a0 0 := bt_at a0 0; clear p8; have qi8 : (0 < (a0.size : Int)) = True := eq_true (of_decide_eq_true (by first | (with_reducible assumption) | assumption)); replace q8 := eq_true q8
        go_wp2
        go_meet
        case rel => exact ⟨_, (decide (x5_1 > 0)), (by first | rfl | (simp; done) | (simp [*]; done)), H', ⟨by have := HK1.out; first | omega | exact Nat.le_refl _⟩, by repeat (first | exact Drawn0.refl _ | apply Drawn0.step)⟩
      case rest =>
        clear HC6; (try clear c1); (try clear c2); (try clear c2b0); (try clear p2); (try clear c3); (try clear c3b0); (try clear p4); (try clear q4); (try clear hx4); (try clear c5); (try clear c5b0); (try clear c5b1); (try clear c6); (try clear p6); (try clear c7); (try clear c7b0); (try clear c7b1); (try clear p8); (try clear q8); (try clear hx8); (try clear qi8); (try clear c9); (try clear c9b0); (try clear c9b1); (try clear c10); (try clear c10b0); (try clear c10b1); (try clear p4); (try clear p8); (try clear q4); (try clear q8); obtain ⟨kq, x21_5, rfl, HA, HJ5, ⟨mc5, rfl⟩⟩ := hcut
        cases kq with
        | zero => exact absurd HA.out (by simp [addr_stretch.j1])
        | succ kj5 =>
          have H := HA.out; clear HA; simp only [addr_stretch.j1] at H
          by_cases c11 : x21_5 = true
          case pos =>
            subst c11
            have H1 : (some (wrap64 (x5_1 + 1), true)) = some (r1, r2) := by rw [if_pos rfl] at H; exact H
            clear H; have H := H1; clear H1; simp only [Option.some.injEq, Prod.mk.injEq] at H; obtain ⟨rfl, rfl⟩ := H
            go_wp2
            go_ret2
            exact ⟨by first | rfl | (simp; done) | (simp [*]; done), by repeat (first | exact Drawn0.refl _ | apply Drawn0.step)⟩
          replace c11 := Bool.eq_false_iff.mpr c11; subst c11
          have H1 : (if 0 < (a0.size : Int) then (if (bt a0 0) = 40 then (addr_stretch.j2 kj5 a0 x4_1 x5_1 (bt a0 x5_1) ((bt a0 x5_1) == 40)) else (addr_stretch.j2 kj5 a0 x4_1 x5_1 (bt a0 x5_1) false)) else (none)) = some (r1, r2) := by rw [if_neg (show ¬ (false = true) by decide)] at H; exact H
          clear H; have H := H1; clear H1; have HC12 := Aside0.mk H; clear H
          go_upto_region 10 with (fail)
          go_cut [35] (fun v35 wc => ∃ (kq : Nat) (x35_11 : Bool), v35 = .bool x35_11 ∧ Aside0 (addr_stretch.j2 kq a0 x4_1 x5_1 (bt a0 x5_1) x35_11 = some (r1, r2)) ∧ Aside0 (kq ≤ kj5) ∧ Drawn0 w wc)
          case first =>
            have H := HC12.out; clear HC12
            by_cases c13 : 0 < (a0.size : Int)
            case neg =>
              rw [if_neg c13] at H
              exact absurd H (by simp)
            rw [if_pos c13] at H; have c13b0 : decide (0 < (a0.size : Int)) = true := decide_eq_true c13; have c13b1 : decide (0 < a0.size) = true := decide_eq_true (by omega); clear c13
            (first | rw [c13b0] | (simp only [i64_w, i32_w]; rw [c13b0]) | skip)
            by_cases c15 : (bt a0 0) = 40
            case neg =>
              rw [if_neg c15] at H; have c15b0 : ((bt a0 0) == 40) = false := beq_eq_false_iff_ne.mpr c15; have c15b1 : ((bt a0 0) != 40) = true := bne_iff_ne.mpr c15; have H' := Aside0.mk H; clear H; have p14 : 0 ≤ (0 : Int) := (by omega); have q14 : 0 < a0.size := (by have : (0 : Int) < (a0.size : Int) := of_decide_eq_true (by first | (with_reducible assumption) | assumption); omega); have hx14 : ∀ h : 0 < a0.size, ((a0[0]'h).toNat : Int) = bt a0 0 := bt_at a0 0; clear p14; have qi14 : (0 < (a0.size : Int)) = True := eq_true (of_decide_eq_true (by first | (with_reducible assumption) | assumption)); replace q14 := eq_true q14
              go_wp2
              go_meet
              case rel => exact ⟨_, (false), (by first | rfl | (simp; done) | (simp [*]; done)), H', ⟨by have := HK1.out; have := HJ5.out; first | omega | exact Nat.le_refl _⟩, by repeat (first | exact Drawn0.refl _ | apply Drawn0.step)⟩
            rw [if_pos c15] at H; have c15b0 : ((bt a0 0) == 40) = true := beq_iff_eq.mpr c15; have c15b1 : ((bt a0 0) != 40) = false := bne_eq_false_iff_eq.mpr c15; clear c15; have H' := Aside0.mk H; clear H; have p14 : 0 ≤ (0 : Int) := (by omega); have q14 : 0 < a0.size := (by have : (0 : Int) < (a0.size : Int) := of_decide_eq_true (by first | (with_reducible assumption) | assumption); omega); have hx14 : ∀ h : 0 < a0.size, ((a0[0]'h).toNat : Int) = bt a0 0 := bt_at a0 0; clear p14; have qi14 : (0 < (a0.size : Int)) = True := eq_true (of_decide_eq_true (by first | (with_reducible assumption) | assumption)); replace q14 := eq_true q14
            go_wp2
            go_meet
            case rel => exact ⟨_, (((bt a0 x5_1) == 40)), (by first | rfl | (simp; done) | (simp [*]; done)), H', ⟨by have := HK1.out; have := HJ5.out; first | omega | exact Nat.le_refl _⟩, by repeat (first | exact Drawn0.refl _ | apply Drawn0.step)⟩
          case rest =>
            clear HC12; (try clear c1); (try clear p1); (try clear q1); (try clear hx1); (try clear qi1); (try clear c2); (try clear c2b0); (try clear p2); (try clear c3); (try clear c3b0); (try clear p4); (try clear q4); (try clear hx4); (try clear c5); (try clear c5b0); (try clear c5b1); (try clear c6); (try clear p6); (try clear c7); (try clear c7b0); (try clear c7b1); (try clear p8); (try clear q8); (try clear hx8); (try clear qi8); (try clear c9); (try clear c9b0); (try clear c9b1); (try clear c10); (try clear c10b0); (try clear c10b1); (try clear c11); (try clear c13); (try clear c13b0); (try clear c13b1); (try clear p14); (try clear q14); (try clear hx14); (try clear qi14); (try clear c15); (try clear c15b0); (try clear c15b1); (try clear p14); (try clear p2); (try clear p4); (try clear p6); (try clear p8); (try clear q14); (try clear q4); (try clear q8); obtain ⟨kq, x35_11, rfl, HA, HJ11, ⟨mc11, rfl⟩⟩ := hcut
            cases kq with
            | zero => exact absurd HA.out (by simp [addr_stretch.j2])
            | succ kj11 =>
              have H := HA.out; clear HA; simp only [addr_stretch.j2] at H
              by_cases c16 : x35_11 = true
              case pos =>
                subst c16
                have H1 : (addr_stretch.l0 kj11 a0 (wrap64 (x4_1 + 1)) (wrap64 (x5_1 + 1))) = some (r1, r2) := by rw [if_pos rfl] at H; exact H
                clear H; have H := H1; clear H1; have H' := Aside0.mk H; clear H
                go_wp2
                go_roundg kj11
                case measure => have := HK1.out; have := HJ5.out; have := HJ11.out; omega
                case rel => exact ⟨(wrap64 (x4_1 + 1)), (wrap64 (x5_1 + 1)), (by first | rfl | (simp; done) | (simp [*]; done)), (by first | rfl | (simp; done) | (simp [*]; done)), H', ⟨by have := HK1.out; have := HJ5.out; have := HJ11.out; omega⟩, by repeat (first | exact Drawn0.refl _ | apply Drawn0.step)⟩
              replace c16 := Bool.eq_false_iff.mpr c16; subst c16
              have H1 : (if 0 < (a0.size : Int) then (if (bt a0 0) = 40 then (addr_stretch.j3 kj11 a0 x4_1 x5_1 ((bt a0 x5_1) == 41)) else (addr_stretch.j3 kj11 a0 x4_1 x5_1 false)) else (none)) = some (r1, r2) := by rw [if_neg (show ¬ (false = true) by decide)] at H; exact H
              clear H; have H := H1; clear H1; have HC17 := Aside0.mk H; clear H
              go_upto_region 12 with (fail)
              go_cut [45] (fun v45 wc => ∃ (kq : Nat) (x45_16 : Bool), v45 = .bool x45_16 ∧ Aside0 (addr_stretch.j3 kq a0 x4_1 x5_1 x45_16 = some (r1, r2)) ∧ Aside0 (kq ≤ kj11) ∧ Drawn0 w wc)
              case first =>
                have H := HC17.out; clear HC17
                by_cases c18 : 0 < (a0.size : Int)
                case neg =>
                  rw [if_neg c18] at H
                  exact absurd H (by simp)
                rw [if_pos c18] at H; have c18b0 : decide (0 < (a0.size : Int)) = true := decide_eq_true c18; have c18b1 : decide (0 < a0.size) = true := decide_eq_true (by omega); clear c18
                (first | rw [c18b0] | (simp only [i64_w, i32_w]; rw [c18b0]) | skip)
                by_cases c20 : (bt a0 0) = 40
                case neg =>
                  rw [if_neg c20] at H; have c20b0 : ((bt a0 0) == 40) = false := beq_eq_false_iff_ne.mpr c20; have c20b1 : ((bt a0 0) != 40) = true := bne_iff_ne.mpr c20; have H' := Aside0.mk H; clear H; have p19 : 0 ≤ (0 : Int) := (by omega); have q19 : 0 < a0.size := (by have : (0 : Int) < (a0.size : Int) := of_decide_eq_true (by first | (with_reducible assumption) | assumption); omega); have hx19 : ∀ h : 0 < a0.size, ((a0[0]'h).toNat : Int) = bt a0 0 := bt_at a0 0; clear p19; have qi19 : (0 < (a0.size : Int)) = True := eq_true (of_decide_eq_true (by first | (with_reducible assumption) | assumption)); replace q19 := eq_true q19
                  go_wp2
                  go_meet
                  case rel => exact ⟨_, (false), (by first | rfl | (simp; done) | (simp [*]; done)), H', ⟨by have := HK1.out; have := HJ5.out; have := HJ11.out; first | omega | exact Nat.le_refl _⟩, by repeat (first | exact Drawn0.refl _ | apply Drawn0.step)⟩
                rw [if_pos c20] at H; have c20b0 : ((bt a0 0) == 40) = true := beq_iff_eq.mpr c20; have c20b1 : ((bt a0 0) != 40) = false := bne_eq_false_iff_eq.mpr c20; clear c20; have H' := Aside0.mk H; clear H; have p19 : 0 ≤ (0 : Int) := (by omega); have q19 : 0 < a0.size := (by have : (0 : Int) < (a0.size : Int) := of_decide_eq_true (by first | (with_reducible assumption) | assumption); omega); have hx19 : ∀ h : 0 < a0.size, ((a0[0]'h).toNat : Int) = bt a0 0 := bt_at a0 0; clear p19; have qi19 : (0 < (a0.size : Int)) = True := eq_true (of_decide_eq_true (by first | (with_reducible assumption) | assumption)); replace q19 := eq_true q19
                go_wp2
                go_meet
                case rel => exact ⟨_, (((bt a0 x5_1) == 41)), (by first | rfl | (simp; done) | (simp [*]; done)), H', ⟨by have := HK1.out; have := HJ5.out; have := HJ11.out; first | omega | exact Nat.le_refl _⟩, by repeat (first | exact Drawn0.refl _ | apply Drawn0.step)⟩
              case rest =>
                clear HC17; (try clear c1); (try clear p1); (try clear q1); (try clear hx1); (try clear qi1); (try clear c2); (try clear c2b0); (try clear p2); (try clear c3); (try clear c3b0); (try clear p4); (try clear q4); (try clear hx4); (try clear c5); (try clear c5b0); (try clear c5b1); (try clear c6); (try clear p6); (try clear c7); (try clear c7b0); (try clear c7b1); (try clear p8); (try clear q8); (try clear hx8); (try clear qi8); (try clear c9); (try clear c9b0); (try clear c9b1); (try clear c10); (try clear c10b0); (try clear c10b1); (try clear c11); (try clear c13); (try clear c13b0); (try clear c13b1); (try clear p14); (try clear q14); (try clear hx14); (try clear qi14); (try clear c15); (try clear c15b0); (try clear c15b1); (try clear c16); (try clear c18); (try clear c18b0); (try clear c18b1); (try clear p19); (try clear q19); (try clear hx19); (try clear qi19); (try clear c20); (try clear c20b0); (try clear c20b1); (try clear p1); (try clear p14); (try clear p19); (try clear p2); (try clear p4); (try clear p6); (try clear p8); (try clear q1); (try clear q14); (try clear q19); (try clear q4); (try clear q8); obtain ⟨kq, x45_16, rfl, HA, HJ16, ⟨mc16, rfl⟩⟩ := hcut
                cases kq with
                | zero => exact absurd HA.out (by simp [addr_stretch.j3])
                | succ kj16 =>
                  have H := HA.out; clear HA; simp only [addr_stretch.j3] at H
                  by_cases c21 : x45_16 = true
                  case neg =>
                    replace c21 := Bool.eq_false_iff.mpr c21; subst c21
                    have H1 : (addr_stretch.l0 kj16 a0 x4_1 (wrap64 (x5_1 + 1))) = some (r1, r2) := by rw [if_neg (show ¬ (false = true) by decide)] at H; exact H
                    clear H; have H := H1; clear H1; have H' := Aside0.mk H; clear H
                    go_wp2
                    go_roundg kj16
                    case measure => have := HK1.out; have := HJ5.out; have := HJ11.out; have := HJ16.out; omega
                    case rel => exact ⟨(x4_1), (wrap64 (x5_1 + 1)), (by first | rfl | (simp; done) | (simp [*]; done)), (by first | rfl | (simp; done) | (simp [*]; done)), H', ⟨by have := HK1.out; have := HJ5.out; have := HJ11.out; have := HJ16.out; omega⟩, by repeat (first | exact Drawn0.refl _ | apply Drawn0.step)⟩
                  subst c21
                  have H1 : (if (wrap64 (x4_1 - 1)) = 0 then (some (wrap64 (x5_1 + 1), true)) else (addr_stretch.l0 kj16 a0 (wrap64 (x4_1 - 1)) (wrap64 (x5_1 + 1)))) = some (r1, r2) := by rw [if_pos rfl] at H; exact H
                  clear H; have H := H1; clear H1
                  by_cases c22 : (wrap64 (x4_1 - 1)) = 0
                  case pos =>
                    rw [if_pos c22] at H; have c22b0 : ((wrap64 (x4_1 - 1)) == 0) = true := beq_iff_eq.mpr c22; have c22b1 : ((wrap64 (x4_1 - 1)) != 0) = false := bne_eq_false_iff_eq.mpr c22; clear c22; simp only [Option.some.injEq, Prod.mk.injEq] at H; obtain ⟨rfl, rfl⟩ := H
                    go_wp2
                    go_ret2
                    exact ⟨by first | rfl | (simp; done) | (simp [*]; done), by repeat (first | exact Drawn0.refl _ | apply Drawn0.step)⟩
                  rw [if_neg c22] at H; have c22b0 : ((wrap64 (x4_1 - 1)) == 0) = false := beq_eq_false_iff_ne.mpr c22; have c22b1 : ((wrap64 (x4_1 - 1)) != 0) = true := bne_iff_ne.mpr c22; have H' := Aside0.mk H; clear H
                  go_wp2
                  go_roundg kj16
                  case measure => have := HK1.out; have := HJ5.out; have := HJ11.out; have := HJ16.out; omega
                  case rel => exact ⟨(wrap64 (x4_1 - 1)), (wrap64 (x5_1 + 1)), (by first | rfl | (simp; done) | (simp [*]; done)), (by first | rfl | (simp; done) | (simp [*]; done)), H', ⟨by have := HK1.out; have := HJ5.out; have := HJ11.out; have := HJ16.out; omega⟩, by repeat (first | exact Drawn0.refl _ | apply Drawn0.step)⟩
end Go.Proofs.YtpcncpegbboljaaGreatDoor.A
namespace Go.Proofs.YtpcncpegbboljaaGreatDoor.Addr
open Go.RowKit Go.Lib Go.Proofs.YtpcncpegbboljaaGreatDoor Go.Proofs.YtpcncpegbboljaaGreatDoor.Pure Go.Proofs.YtpcncpegbboljaaGreatDoor.A Go.Proofs.YtpcncpegbboljaaGreatDoorW.PrintWords
set_option linter.unusedVariables false
set_option linter.unusedSimpArgs false
theorem at_end {s : ByteArray} {i : Nat} (h : s.data.toList.drop i = []) : s.size ≤ i := by
  have := congrArg List.length h
  rw [List.length_drop, sizeL, List.length_nil] at this; omega
theorem at_drop {s : ByteArray} {i : Nat} {c : UInt8} {r : List UInt8} (h : s.data.toList.drop i = c :: r) : bt s (i : Int) = (c.toNat : Int) ∧ i < s.size ∧ s.data.toList.drop (i + 1) = r := by
  have hz : i < s.size := by
    rcases Nat.lt_or_ge i s.size with h1 | h1
    · exact h1
    · rw [List.drop_eq_nil_of_le (by rw [sizeL]; exact h1)] at h; cases h
  have hl : i < s.data.toList.length := by rw [sizeL]; exact hz
  have e := List.drop_eq_getElem_cons hl
  rw [h] at e
  injection e with e1 e2
  exact ⟨by rw [bt_get s i hl, ← e1], hz, e2.symm⟩
def qGo : List UInt8 → Nat × Bool
  | [] => (0, false)
  | [c] => if c = 34 then (1, true) else (1, false)
  | c :: d :: r => if c = 92 then ((qGo r).1 + 2, (qGo r).2) else if c = 34 then (1, true) else ((qGo (d :: r)).1 + 1, (qGo (d :: r)).2)
def pGo : Nat → List UInt8 → Nat × Bool
  | _, [] => (0, false)
  | deep, [c] => if c = 41 ∧ deep = 1 then (1, true) else (1, false)
  | deep, c :: d :: r => if c = 92 then ((pGo deep r).1 + 2, (pGo deep r).2) else if c = 40 then ((pGo (deep + 1) (d :: r)).1 + 1, (pGo (deep + 1) (d :: r)).2)
      else if c = 41 then (if deep = 1 then (1, true) else ((pGo (deep - 1) (d :: r)).1 + 1, (pGo (deep - 1) (d :: r)).2)) else ((pGo deep (d :: r)).1 + 1, (pGo deep (d :: r)).2)
def stretchL : List UInt8 → Nat × Bool
  | [] => (0, false)
  | c :: r => if c = 34 then ((qGo r).1 + 1, (qGo r).2) else ((pGo 1 r).1 + 1, (pGo 1 r).2)
theorem u8n {c : UInt8} {n : Nat} (hn : n < 256) (h : c ≠ UInt8.ofNat n) : ¬ (c.toNat : Int) = (n : Int) := by
  intro e
  apply h
  apply UInt8.toNat_inj.1
  rw [UInt8.toNat_ofNat']; omega
theorem q_loop (s : ByteArray) (hs : s.size ≤ 100000000) (h0 : bt s 0 = 34) : ∀ (n i : Nat) (deep : Int), s.size - i ≤ n → 1 ≤ i → i ≤ s.size →
    Ev (fun k => addr_stretch.l0 k s deep (i : Int)) ((i : Int) + ((qGo (s.data.toList.drop i)).1 : Int), (qGo (s.data.toList.drop i)).2) := by
  have fin : ∀ (i : Nat) (deep : Int), s.size ≤ i → Ev (fun k => addr_stretch.l0 k s deep (i : Int)) ((s.size : Int), false) := by
    intro i deep hi
    refine Ev.round (fun k => by rw [addr_stretch.l0]) ?_
    refine Ev.neg (by omega) ?_
    exact Ev.now _
  intro n
  induction n with
  | zero =>
    intro i deep h1 h2 h3
    have hd : s.data.toList.drop i = [] := List.drop_eq_nil_of_le (by rw [sizeL]; omega)
    rw [hd]
    have e : ((i : Int) + (((qGo []).1 : Nat) : Int), (qGo []).2) = ((s.size : Int), false) := by
      show ((i : Int) + ((0 : Nat) : Int), false) = _
      rw [show (i : Int) + ((0 : Nat) : Int) = (s.size : Int) by omega]
    rw [e]
    exact fin i deep (by omega)
  | succ n ih =>
    intro i deep h1 h2 h3
    cases hd : s.data.toList.drop i with
    | nil =>
      have := at_end hd
      have e : ((i : Int) + (((qGo []).1 : Nat) : Int), (qGo []).2) = ((s.size : Int), false) := by
        show ((i : Int) + ((0 : Nat) : Int), false) = _
        rw [show (i : Int) + ((0 : Nat) : Int) = (s.size : Int) by omega]
      rw [e]
      exact fin i deep this
    | cons c r =>
      obtain ⟨hb, hlt, hr⟩ := at_drop hd
      have hrl : r.length = s.size - (i + 1) := by rw [← hr, List.length_drop, sizeL]
      have hw : wrap64 ((i : Int) + 1) = ((i + 1 : Nat) : Int) ∧ wrap64 (((i + 1 : Nat) : Int) + 1) = ((i + 2 : Nat) : Int) := ⟨(w64 (by omega) (by omega)).trans (by omega), (w64 (by omega) (by omega)).trans (by omega)⟩
      have HW := Lib.hid hw
      clear hw
      have step : c ≠ 92 → Ev (fun k => addr_stretch.j1 k s deep (i : Int) (c.toNat : Int) (decide (c = 34))) ((i : Int) + ((qGo (c :: r)).1 : Int), (qGo (c :: r)).2) → Ev (fun k => addr_stretch.l0 k s deep (i : Int)) ((i : Int) + ((qGo (c :: r)).1 : Int), (qGo (c :: r)).2) := by
        intro h92 h
        refine Ev.round (fun k => by rw [addr_stretch.l0]) ?_
        refine Ev.pos (by omega) ?_
        refine Ev.pos (by omega) ?_
        rw [hb, h0]
        refine Ev.neg (u8n (n := 92) (by decide) h92) ?_
        refine Ev.pos (by omega) ?_
        refine Ev.pos rfl ?_
        by_cases h34 : c = 34
        · rw [decide_eq_true h34] at h
          refine Ev.pos (by rw [h34]; rfl) ?_
          rw [show decide ((i : Int) > 0) = true from decide_eq_true (by omega)]
          exact h
        · rw [decide_eq_false h34] at h
          refine Ev.neg (u8n (n := 34) (by decide) h34) ?_
          exact h
      have next : ∀ {R : Int × Bool}, Ev (fun k => addr_stretch.l0 k s deep ((i + 1 : Nat) : Int)) R → Ev (fun k => addr_stretch.j1 k s deep (i : Int) (c.toNat : Int) false) R := by
        intro R h
        refine Ev.round (fun k => by rw [addr_stretch.j1]) ?_
        refine Ev.neg Bool.false_ne_true ?_
        refine Ev.pos (by omega) ?_
        rw [h0]
        refine Ev.neg (by decide) ?_
        refine Ev.round (fun k => by rw [addr_stretch.j2]) ?_
        refine Ev.neg Bool.false_ne_true ?_
        refine Ev.pos (by omega) ?_
        rw [h0]
        refine Ev.neg (by decide) ?_
        refine Ev.round (fun k => by rw [addr_stretch.j3]) ?_
        refine Ev.neg Bool.false_ne_true ?_
        rw [HW.out.1]
        exact h
      have yes : Ev (fun k => addr_stretch.j1 k s deep (i : Int) (c.toNat : Int) true) (((i + 1 : Nat) : Int), true) := by
        refine Ev.round (fun k => by rw [addr_stretch.j1]) ?_
        refine Ev.pos rfl ?_
        rw [HW.out.1]
        exact Ev.now _
      by_cases h92 : c = 92
      · subst h92
        refine Ev.round (fun k => by rw [addr_stretch.l0]) ?_
        refine Ev.pos (by omega) ?_
        refine Ev.pos (by omega) ?_
        rw [hb]
        refine Ev.pos rfl ?_
        rw [HW.out.1, HW.out.2]
        match r, hr, hrl with
        | [], hr, hrl =>
          simp only [List.length_nil] at hrl
          have e : ((i : Int) + (((qGo [92]).1 : Nat) : Int), (qGo [92]).2) = ((s.size : Int), false) := by
            show ((i : Int) + ((1 : Nat) : Int), false) = _
            rw [show (i : Int) + ((1 : Nat) : Int) = (s.size : Int) by omega]
          rw [e]
          exact fin (i + 2) deep (by omega)
        | d :: r2, hr, hrl =>
          simp only [List.length_cons] at hrl
          obtain ⟨_, _, hr2⟩ := at_drop hr
          have h := ih (i + 2) deep (by omega) (by omega) (by omega)
          rw [show s.data.toList.drop (i + 2) = r2 from hr2] at h
          have e : qGo (92 :: d :: r2) = ((qGo r2).1 + 2, (qGo r2).2) := by simp [qGo]
          rw [e, show ((i : Int) + (((qGo r2).1 + 2 : Nat) : Int)) = ((i + 2 : Nat) : Int) + ((qGo r2).1 : Int) by omega]
          exact h
      · refine step h92 ?_
        by_cases h34 : c = 34
        · rw [decide_eq_true h34]
          have e : qGo (c :: r) = (1, true) := by
            match r with
            | [] => simp [qGo, h34]
            | d :: r2 => simp only [qGo]; rw [if_neg h92, if_pos h34]
          rw [e, show ((i : Int) + ((1 : Nat) : Int)) = ((i + 1 : Nat) : Int) by omega]
          exact yes
        · rw [decide_eq_false h34]
          refine next ?_
          have h := ih (i + 1) deep (by omega) (by omega) (by omega)
          rw [hr] at h
          have e : qGo (c :: r) = ((qGo r).1 + 1, (qGo r).2) := by
            match r with
            | [] => simp [qGo, h34]
            | d :: r2 => simp only [qGo]; rw [if_neg h92, if_neg h34]
          rw [e, show ((i : Int) + (((qGo r).1 + 1 : Nat) : Int)) = ((i + 1 : Nat) : Int) + ((qGo r).1 : Int) by omega]
          exact h
theorem p_loop (s : ByteArray) (hs : s.size ≤ 100000000) (h0 : bt s 0 = 40) : ∀ (n i deep : Nat), s.size - i ≤ n → i ≤ s.size → 1 ≤ deep → deep ≤ i →
    Ev (fun k => addr_stretch.l0 k s (deep : Int) (i : Int)) ((i : Int) + ((pGo deep (s.data.toList.drop i)).1 : Int), (pGo deep (s.data.toList.drop i)).2) := by
  have fin : ∀ (i : Nat) (deep : Int), s.size ≤ i → Ev (fun k => addr_stretch.l0 k s deep (i : Int)) ((s.size : Int), false) := by
    intro i deep hi
    refine Ev.round (fun k => by rw [addr_stretch.l0]) ?_
    refine Ev.neg (by omega) ?_
    exact Ev.now _
  have nil : ∀ (i deep : Nat), s.size ≤ i → i ≤ s.size → Ev (fun k => addr_stretch.l0 k s (deep : Int) (i : Int)) ((i : Int) + ((pGo deep []).1 : Int), (pGo deep []).2) := by
    intro i deep h1 h2
    have e : ((i : Int) + ((pGo deep []).1 : Int), (pGo deep []).2) = ((s.size : Int), false) := by
      simp only [pGo]
      rw [show (i : Int) + ((0 : Nat) : Int) = (s.size : Int) by omega]
    rw [e]
    exact fin i _ h1
  intro n
  induction n with
  | zero =>
    intro i deep h1 h2 h3 h4
    rw [List.drop_eq_nil_of_le (by rw [sizeL]; omega)]
    exact nil i deep (by omega) h2
  | succ n ih =>
    intro i deep h1 h2 h3 h4
    cases hd : s.data.toList.drop i with
    | nil => exact nil i deep (at_end hd) h2
    | cons c r =>
      obtain ⟨hb, hlt, hr⟩ := at_drop hd
      have hrl : r.length = s.size - (i + 1) := by rw [← hr, List.length_drop, sizeL]
      have hw : wrap64 ((i : Int) + 1) = ((i + 1 : Nat) : Int) ∧ wrap64 (((i + 1 : Nat) : Int) + 1) = ((i + 2 : Nat) : Int) ∧ wrap64 ((deep : Int) + 1) = ((deep + 1 : Nat) : Int) ∧ wrap64 ((deep : Int) - 1) = ((deep - 1 : Nat) : Int) :=
        ⟨(w64 (by omega) (by omega)).trans (by omega), (w64 (by omega) (by omega)).trans (by omega), (w64 (by omega) (by omega)).trans (by omega), (w64 (by omega) (by omega)).trans (by omega)⟩
      have HW := Lib.hid hw
      clear hw
      have one : ∀ (x : Nat × Bool) (j : Nat) (m : Nat), j = i + m → ((i : Int) + ((x.1 + m : Nat) : Int), x.2) = ((j : Int) + (x.1 : Int), x.2) := by
        intro x j m hj
        rw [show (i : Int) + ((x.1 + m : Nat) : Int) = (j : Int) + (x.1 : Int) by omega]
      by_cases h92 : c = 92
      · subst h92
        refine Ev.round (fun k => by rw [addr_stretch.l0]) ?_
        refine Ev.pos (by omega) ?_
        refine Ev.pos (by omega) ?_
        rw [hb]
        refine Ev.pos rfl ?_
        rw [HW.out.1, HW.out.2.1]
        match r, hr, hrl with
        | [], hr, hrl =>
          simp only [List.length_nil] at hrl
          have e : ((i : Int) + ((pGo deep [92]).1 : Int), (pGo deep [92]).2) = ((s.size : Int), false) := by
            simp only [pGo]
            rw [if_neg (by intro h; exact absurd h.1 (by decide))]
            rw [show (i : Int) + ((1 : Nat) : Int) = (s.size : Int) by omega]
          rw [e]
          exact fin (i + 2) _ (by omega)
        | d :: r2, hr, hrl =>
          simp only [List.length_cons] at hrl
          obtain ⟨_, _, hr2⟩ := at_drop hr
          have h := ih (i + 2) deep (by omega) (by omega) (by omega) (by omega)
          rw [show s.data.toList.drop (i + 2) = r2 from hr2] at h
          have e : pGo deep (92 :: d :: r2) = ((pGo deep r2).1 + 2, (pGo deep r2).2) := by simp [pGo]
          rw [e, one (pGo deep r2) (i + 2) 2 rfl]
          exact h
      · refine Ev.round (fun k => by rw [addr_stretch.l0]) ?_
        refine Ev.pos (by omega) ?_
        refine Ev.pos (by omega) ?_
        rw [hb, h0]
        refine Ev.neg (u8n (n := 92) (by decide) h92) ?_
        refine Ev.pos (by omega) ?_
        refine Ev.neg (by decide) ?_
        refine Ev.round (fun k => by rw [addr_stretch.j1]) ?_
        refine Ev.neg Bool.false_ne_true ?_
        refine Ev.pos (by omega) ?_
        rw [h0]
        refine Ev.pos rfl ?_
        by_cases h40 : c = 40
        · subst h40
          rw [show (((40 : UInt8).toNat : Int) == 40) = true from rfl]
          refine Ev.round (fun k => by rw [addr_stretch.j2]) ?_
          refine Ev.pos rfl ?_
          rw [HW.out.1, HW.out.2.2.1]
          have h := ih (i + 1) (deep + 1) (by omega) (by omega) (by omega) (by omega)
          rw [hr] at h
          match r, hr, hrl, h with
          | [], hr, hrl, h =>
            simp only [List.length_nil] at hrl
            have e : ((i : Int) + ((pGo deep [40]).1 : Int), (pGo deep [40]).2) = (((i + 1 : Nat) : Int) + ((pGo (deep + 1) []).1 : Int), (pGo (deep + 1) []).2) := by
              simp only [pGo]
              rw [if_neg (by intro h; exact absurd h.1 (by decide))]
              rw [show (i : Int) + ((1 : Nat) : Int) = ((i + 1 : Nat) : Int) + ((0 : Nat) : Int) by omega]
            rw [e]; exact h
          | d :: r2, hr, hrl, h =>
            have e : pGo deep (40 :: d :: r2) = ((pGo (deep + 1) (d :: r2)).1 + 1, (pGo (deep + 1) (d :: r2)).2) := by simp [pGo]
            rw [e, one (pGo (deep + 1) (d :: r2)) (i + 1) 1 rfl]
            exact h
        · have h40n : ((c.toNat : Int) == 40) = false := beq_eq_false_iff_ne.2 (u8n (n := 40) (by decide) h40)
          rw [h40n]
          refine Ev.round (fun k => by rw [addr_stretch.j2]) ?_
          refine Ev.neg Bool.false_ne_true ?_
          refine Ev.pos (by omega) ?_
          rw [h0]
          refine Ev.pos rfl ?_
          by_cases h41 : c = 41
          · subst h41
            rw [show (((41 : UInt8).toNat : Int) == 41) = true from rfl]
            refine Ev.round (fun k => by rw [addr_stretch.j3]) ?_
            refine Ev.pos rfl ?_
            rw [HW.out.2.2.2, HW.out.1]
            by_cases hd1 : deep = 1
            · subst hd1
              refine Ev.pos rfl ?_
              have e : pGo 1 (41 :: r) = (1, true) := by
                match r with
                | [] => simp [pGo]
                | d :: r2 => simp [pGo]
              rw [e, show ((i : Int) + ((1 : Nat) : Int)) = ((i + 1 : Nat) : Int) by omega]
              exact Ev.now _
            · refine Ev.neg (by omega) ?_
              have h := ih (i + 1) (deep - 1) (by omega) (by omega) (by omega) (by omega)
              rw [hr] at h
              match r, hr, hrl, h with
              | [], hr, hrl, h =>
                simp only [List.length_nil] at hrl
                have e : ((i : Int) + ((pGo deep [41]).1 : Int), (pGo deep [41]).2) = (((i + 1 : Nat) : Int) + ((pGo (deep - 1) []).1 : Int), (pGo (deep - 1) []).2) := by
                  simp only [pGo]
                  rw [if_neg (by intro h; exact hd1 h.2)]
                  rw [show (i : Int) + ((1 : Nat) : Int) = ((i + 1 : Nat) : Int) + ((0 : Nat) : Int) by omega]
                rw [e]; exact h
              | d :: r2, hr, hrl, h =>
                have e : pGo deep (41 :: d :: r2) = ((pGo (deep - 1) (d :: r2)).1 + 1, (pGo (deep - 1) (d :: r2)).2) := by
                  simp only [pGo]
                  rw [if_neg (by decide), if_neg (by decide), if_pos trivial, if_neg hd1]
                rw [e, one (pGo (deep - 1) (d :: r2)) (i + 1) 1 rfl]
                exact h
          · have h41n : ((c.toNat : Int) == 41) = false := beq_eq_false_iff_ne.2 (u8n (n := 41) (by decide) h41)
            rw [h41n]
            refine Ev.round (fun k => by rw [addr_stretch.j3]) ?_
            refine Ev.neg Bool.false_ne_true ?_
            rw [HW.out.1]
            have h := ih (i + 1) deep (by omega) (by omega) (by omega) (by omega)
            rw [hr] at h
            match r, hr, hrl, h with
            | [], hr, hrl, h =>
              have e : ((i : Int) + ((pGo deep [c]).1 : Int), (pGo deep [c]).2) = (((i + 1 : Nat) : Int) + ((pGo deep []).1 : Int), (pGo deep []).2) := by
                simp only [pGo]
                rw [if_neg (by intro h; exact h41 h.1)]
                rw [show (i : Int) + ((1 : Nat) : Int) = ((i + 1 : Nat) : Int) + ((0 : Nat) : Int) by omega]
              rw [e]; exact h
            | d :: r2, hr, hrl, h =>
              have e : pGo deep (c :: d :: r2) = ((pGo deep (d :: r2)).1 + 1, (pGo deep (d :: r2)).2) := by
                simp only [pGo]
                rw [if_neg h92, if_neg h40, if_neg h41]
              rw [e, one (pGo deep (d :: r2)) (i + 1) 1 rfl]
              exact h
theorem stretch_is (s : ByteArray) (hs : s.size ≤ 100000000) (c : UInt8) (r : List UInt8) (hc : s.data.toList = c :: r) (h : c = 34 ∨ c = 40) :
    Ev (fun k => addr_stretch.f k s) (((stretchL s.data.toList).1 : Int), (stretchL s.data.toList).2) := by
  have hz : s.size = r.length + 1 := by rw [← sizeL, hc]; rfl
  have h0 : bt s 0 = (c.toNat : Int) := (at_drop (s := s) (i := 0) (by rw [List.drop_zero]; exact hc)).1
  have hd1 : s.data.toList.drop 1 = r := by rw [hc]; rfl
  unfold addr_stretch.f
  refine Ev.round (fun k => by rw [addr_stretch.l0]) ?_
  refine Ev.pos (by omega) ?_
  refine Ev.pos (by omega) ?_
  rcases h with rfl | rfl
  · have hh := q_loop s hs h0 s.size 1 0 (by omega) (by omega) (by omega)
    rw [hd1] at hh
    have e : (((stretchL s.data.toList).1 : Int), (stretchL s.data.toList).2) = (((1 : Nat) : Int) + ((qGo r).1 : Int), (qGo r).2) := by
      rw [hc]
      show ((((qGo r).1 + 1 : Nat) : Int), (qGo r).2) = _
      rw [show (((qGo r).1 + 1 : Nat) : Int) = ((1 : Nat) : Int) + ((qGo r).1 : Int) by omega]
    rw [e, h0]
    refine Ev.neg (by decide) ?_
    refine Ev.pos (by omega) ?_
    refine Ev.pos rfl ?_
    refine Ev.pos rfl ?_
    rw [show decide ((0 : Int) > 0) = false from rfl]
    refine Ev.round (fun k => by rw [addr_stretch.j1]) ?_
    refine Ev.neg Bool.false_ne_true ?_
    refine Ev.pos (by omega) ?_
    rw [h0]
    refine Ev.neg (by decide) ?_
    refine Ev.round (fun k => by rw [addr_stretch.j2]) ?_
    refine Ev.neg Bool.false_ne_true ?_
    refine Ev.pos (by omega) ?_
    rw [h0]
    refine Ev.neg (by decide) ?_
    refine Ev.round (fun k => by rw [addr_stretch.j3]) ?_
    refine Ev.neg Bool.false_ne_true ?_
    rw [show wrap64 ((0 : Int) + 1) = ((1 : Nat) : Int) from (w64 (by omega) (by omega)).trans (by omega)]
    exact hh
  · have hh := p_loop s hs h0 s.size 1 1 (by omega) (by omega) (by omega) (by omega)
    rw [hd1] at hh
    have e : (((stretchL s.data.toList).1 : Int), (stretchL s.data.toList).2) = (((1 : Nat) : Int) + ((pGo 1 r).1 : Int), (pGo 1 r).2) := by
      rw [hc]
      show ((((pGo 1 r).1 + 1 : Nat) : Int), (pGo 1 r).2) = _
      rw [show (((pGo 1 r).1 + 1 : Nat) : Int) = ((1 : Nat) : Int) + ((pGo 1 r).1 : Int) by omega]
    rw [e, h0]
    refine Ev.neg (by decide) ?_
    refine Ev.pos (by omega) ?_
    refine Ev.neg (by decide) ?_
    refine Ev.round (fun k => by rw [addr_stretch.j1]) ?_
    refine Ev.neg Bool.false_ne_true ?_
    refine Ev.pos (by omega) ?_
    rw [h0]
    refine Ev.pos rfl ?_
    rw [show (((40 : UInt8).toNat : Int) == 40) = true from rfl]
    refine Ev.round (fun k => by rw [addr_stretch.j2]) ?_
    refine Ev.pos rfl ?_
    rw [show wrap64 ((0 : Int) + 1) = ((1 : Nat) : Int) from (w64 (by omega) (by omega)).trans (by omega)]
    exact hh
theorem stretch_c (s : ByteArray) (hs : s.size ≤ 100000000) (c : UInt8) (r : List UInt8) (hc : s.data.toList = c :: r) (h : c = 34 ∨ c = 40) (W : World) :
    Calls Tryz.prog 66 #[.string s] W fun e w' => e = .returned (.tuple #[.int .i64 ((stretchL s.data.toList).1 : Int), .bool (stretchL s.data.toList).2]) ∧ ∃ n, w' = W.drewN n := by
  obtain ⟨k, hk⟩ := stretch_is s hs c r hc h
  exact (addr_stretch.calls k s _ _ W (hk k (Nat.le_refl _))).mono (by rintro e w' ⟨rfl, h⟩; exact ⟨rfl, h.out⟩)
end Go.Proofs.YtpcncpegbboljaaGreatDoor.Addr
namespace Go.Proofs.YtpcncpegbboljaaGreatDoor.Addr
open Go.RowKit Go.Lib Go.Proofs.YtpcncpegbboljaaGreatDoor Go.Proofs.YtpcncpegbboljaaGreatDoor.Pure
set_option linter.unusedVariables false
set_option linter.unusedSimpArgs false
def bareL : List UInt8 → List UInt8
  | [] => []
  | [c] => [c]
  | c :: d :: r => if c = 92 then d :: bareL r else c :: bareL (d :: r)
theorem bareL_len : ∀ (n : Nat) (l : List UInt8), l.length ≤ n → (bareL l).length ≤ l.length
  | _, [], _ => by simp [bareL]
  | _, [c], _ => by simp [bareL]
  | 0, c :: d :: r, h => by simp at h
  | n + 1, c :: d :: r, h => by
    simp only [bareL]
    simp only [List.length_cons] at h
    split
    · have := bareL_len n r (by omega)
      simp only [List.length_cons]; omega
    · have := bareL_len n (d :: r) (by simp only [List.length_cons]; omega)
      simp only [List.length_cons] at this ⊢; omega
def midL (l : List UInt8) (e : Bool) : List UInt8 := if e = true then (l.drop 1).take (l.length - 2) else l.drop 1
def innerL (l : List UInt8) (e : Bool) : List UInt8 := bareL (midL l e)
set_option maxRecDepth 100000 in
set_option maxHeartbeats 8000000 in
theorem inner_c (s : ByteArray) (e : Bool) (hs : s.size ≤ 11000000) (h1 : 1 ≤ s.size) (h2 : e = true → 2 ≤ s.size) (w : World) :
    Calls Tryz.prog 40 #[.string s, .bool e] w fun en w' => en = .returned (.string ⟨(innerL s.data.toList e).toArray⟩) ∧ Below w.heap.size w w' := by
  have WB : ∀ (acc : List UInt8) (x : UInt8) (W : World), IsBuilderF 48 5 w.heap.size w.heap.size (byteCells acc) W → acc.length ≤ 100000000 → w.heap.size ≤ W.heap.size →
      Calls Tryz.prog 67 #[.pointer (some ⟨w.heap.size, 0, none⟩), .int .u8 (x.toNat : Int)] W fun e w' => e = .returned .nilIface ∧ (IsBuilderF 48 5 w.heap.size w.heap.size (byteCells (acc ++ [x])) w' ∧ Below w.heap.size W w') := by
    intro acc x W h h1 h2
    refine (Bld.WriteByte_k _ _ _ (x.toNat : Int) W h (by simp [byteCells]; omega) h2).mono ?_
    rintro e w' ⟨rfl, k1, k2, _⟩
    exact ⟨rfl, by simpa [byteCells] using k1, k2⟩
  have HWB := Lib.hid WB
  clear WB
  have hl : s.data.toList.length = s.size := by simp
  obtain ⟨V, hV⟩ : ∃ V, s.extract 1 s.size = V := ⟨_, rfl⟩
  have hVd : V.data.toList = s.data.toList.drop 1 := by rw [← hV, extract_list, List.take_of_length_le (by rw [hl]; exact Nat.le_refl _)]
  have hVz : V.size = s.size - 1 := by rw [← hV]; simp
  have h1i : (1 : Int) ≤ (s.size : Int) := by omega
  cases e with
  | true =>
    have hs2 := h2 rfl
    obtain ⟨T, hT⟩ : ∃ T, V.extract 0 (V.size - 1) = T := ⟨_, rfl⟩
    have hTd : T.data.toList = midL s.data.toList true := by
      rw [← hT, extract_list, List.drop_zero, hVd]
      unfold midL
      rw [if_pos rfl, hl, hVz]
      congr 1
    have hTz : T.size ≤ 11000000 := by rw [← hT]; simp; omega
    have hvb : V.size ≤ 11000000 := by omega
    have hv0 : 1 ≤ V.size := by omega
    have hv1 : (V.size : Int) - 1 ≤ (V.size : Int) := by omega
    have hv2 : (0 : Int) ≤ (V.size : Int) - 1 := by omega
    have hv3 : ((V.size : Int) - 1).toNat = V.size - 1 := by omega
    have HR : Hid (bareL T.data.toList = innerL s.data.toList true) := Lib.hid (by rw [hTd]; rfl)
    have hTl : T.data.toList.length = T.size := by simp
    have HTL := Lib.hid hTl
    clear hl hVd hVz hTd h2 hTl
    go_enter Tryz.func40, Tryz.ntmps40
    go_wp2
    go_loopw [6] (fun iv wr => ∃ (i : Nat) (acc : List UInt8), iv = .int .i64 (i : Int) ∧ i ≤ T.size ∧ acc ++ bareL (T.data.toList.drop i) = bareL T.data.toList ∧ acc.length ≤ i ∧ IsBuilderF 48 5 w.heap.size w.heap.size (byteCells acc) wr ∧ Below w.heap.size w wr) (fun iv _ => T.size - (RowKit.intOf iv).toNat)
    case atStart => exact ⟨0, [], rfl, Nat.zero_le _, rfl, by simp, IsBuilderF.of (Lib.fresh_isBuilder 48 5 w), (Below.refl _ w).alloc (Nat.le_refl _) _⟩
    case round =>
      obtain ⟨i, acc, rfl, hi, he, hal, hI, hB⟩ := hrel
      have HE := Lib.hid he; have HI := Lib.hid hI; have HB := Lib.hid hB
      clear he hI hB
      by_cases hlt : i < T.size
      · have hlti : (i : Int) < (T.size : Int) := by omega
        have hc : T.data.toList.drop i = T[i] :: T.data.toList.drop (i + 1) := List.drop_eq_getElem_cons (by rw [HTL.out]; exact hlt)
        by_cases h92 : T[i] = 92 ∧ i + 1 < T.size
        · obtain ⟨h9, hn⟩ := h92
          have hni : (i : Int) + 1 < (T.size : Int) := by omega
          have hn2 : ((i : Int) + 1).toNat = i + 1 := by omega
          have hc2 : T.data.toList.drop (i + 1) = T[i + 1] :: T.data.toList.drop (i + 2) := List.drop_eq_getElem_cons (by rw [HTL.out]; exact hn)
          have hq : bareL (T.data.toList.drop i) = T[i + 1] :: bareL (T.data.toList.drop (i + 2)) := by
            rw [hc, hc2, h9]; simp only [bareL]; rw [if_pos trivial]
          have HQ := Lib.hid hq
          clear hc hc2 hq
          go_wp2_with (go_at_call 67; refine (HWB.out acc T[i + 1] _ HI.out (by omega) HB.out.size).mono ?_; rintro e W1 ⟨rfl, k1, k2⟩; have K1 := Lib.hid k1; have K2 := Lib.hid (HB.out.trans k2); clear k1 k2)
          go_roundw
          case rel => exact ⟨i + 2, acc ++ [T[i + 1]], by go_num, by omega, by rw [← HE.out, HQ.out]; simp, by rw [List.length_append]; simp only [List.length_cons, List.length_nil]; omega, K1.out, K2.out⟩
          case measure => simp [RowKit.intOf]; omega
        · have hq : bareL (T.data.toList.drop i) = T[i] :: bareL (T.data.toList.drop (i + 1)) := by
            rw [hc]
            match hd : T.data.toList.drop (i + 1) with
            | [] => rfl
            | d :: r =>
              have hlen := congrArg List.length hd
              rw [List.length_drop, HTL.out, List.length_cons] at hlen
              simp only [bareL]
              rw [if_neg (fun h => h92 ⟨h, by omega⟩)]
          have HQ := Lib.hid hq
          clear hc hq
          by_cases h9 : T[i] = 92
          · have hn : ¬ (i : Int) + 1 < (T.size : Int) := by intro h; exact h92 ⟨h9, by omega⟩
            rw [h9] at HQ
            have w92 : ∀ (W : World), IsBuilderF 48 5 w.heap.size w.heap.size (byteCells acc) W → w.heap.size ≤ W.heap.size → Calls Tryz.prog 67 #[.pointer (some ⟨w.heap.size, 0, none⟩), .int .u8 92] W fun e w' => e = .returned .nilIface ∧ (IsBuilderF 48 5 w.heap.size w.heap.size (byteCells (acc ++ [92])) w' ∧ Below w.heap.size W w') := fun W h1 h2 => HWB.out acc 92 W h1 (by omega) h2
            have W92 := Lib.hid w92
            clear w92 h92
            go_wp2_with (go_at_call 67; refine (W92.out _ HI.out HB.out.size).mono ?_; rintro e W1 ⟨rfl, k1, k2⟩; have K1 := Lib.hid k1; have K2 := Lib.hid (HB.out.trans k2); clear k1 k2)
            go_roundw
            case rel => exact ⟨i + 1, acc ++ [92], by go_num, by omega, by rw [← HE.out, HQ.out]; simp, by rw [List.length_append]; simp only [List.length_cons, List.length_nil]; omega, K1.out, K2.out⟩
            case measure => simp [RowKit.intOf]; omega
          · have h9n : ¬ (T[i]).toNat = 92 := by intro h; exact h9 (UInt8.toNat_inj.1 (by rw [h]; rfl))
            have h9i : ¬ ((T[i]).toNat : Int) = 92 := by omega
            clear h92
            go_wp2_with (go_at_call 67; refine (HWB.out acc T[i] _ HI.out (by omega) HB.out.size).mono ?_; rintro e W1 ⟨rfl, k1, k2⟩; have K1 := Lib.hid k1; have K2 := Lib.hid (HB.out.trans k2); clear k1 k2)
            go_roundw
            case rel => exact ⟨i + 1, acc ++ [T[i]], by go_num, by omega, by rw [← HE.out, HQ.out]; simp, by rw [List.length_append]; simp only [List.length_cons, List.length_nil]; omega, K1.out, K2.out⟩
            case measure => simp [RowKit.intOf]; omega
      · have hlti : ¬ (i : Int) < (T.size : Int) := by omega
        have hacc : acc = innerL s.data.toList true := by
          have := HE.out
          rw [List.drop_eq_nil_of_le (by rw [HTL.out]; omega)] at this
          rw [← HR.out, ← this]; simp [bareL]
        have HA := Lib.hid hacc
        clear hacc
        go_wp2_with (go_at_call 36; refine (Tryz.Builder_String_any_k w.heap.size w.heap.size acc _ HI.out HB.out.size).mono ?_; rintro e W3 ⟨rfl, _, b3, _⟩; have B3 := Lib.hid b3; clear b3)
        go_ret
        exact ⟨by rw [← HA.out]; rfl, HB.out.trans B3.out⟩
  | false =>
    obtain ⟨T, hT⟩ : ∃ T, V = T := ⟨_, rfl⟩
    subst hT
    have hTz : V.size ≤ 11000000 := by omega
    have HR : Hid (bareL V.data.toList = innerL s.data.toList false) := Lib.hid (by rw [hVd]; rfl)
    have hTl : V.data.toList.length = V.size := by simp
    have HTL := Lib.hid hTl
    clear hl hVd hVz h2 hTl
    go_enter Tryz.func40, Tryz.ntmps40
    go_wp2
    go_loopw [6] (fun iv wr => ∃ (i : Nat) (acc : List UInt8), iv = .int .i64 (i : Int) ∧ i ≤ V.size ∧ acc ++ bareL (V.data.toList.drop i) = bareL V.data.toList ∧ acc.length ≤ i ∧ IsBuilderF 48 5 w.heap.size w.heap.size (byteCells acc) wr ∧ Below w.heap.size w wr) (fun iv _ => V.size - (RowKit.intOf iv).toNat)
    case atStart => exact ⟨0, [], rfl, Nat.zero_le _, rfl, by simp, IsBuilderF.of (Lib.fresh_isBuilder 48 5 w), (Below.refl _ w).alloc (Nat.le_refl _) _⟩
    case round =>
      obtain ⟨i, acc, rfl, hi, he, hal, hI, hB⟩ := hrel
      have HE := Lib.hid he; have HI := Lib.hid hI; have HB := Lib.hid hB
      clear he hI hB
      by_cases hlt : i < V.size
      · have hlti : (i : Int) < (V.size : Int) := by omega
        have hc : V.data.toList.drop i = V[i] :: V.data.toList.drop (i + 1) := List.drop_eq_getElem_cons (by rw [HTL.out]; exact hlt)
        by_cases h92 : V[i] = 92 ∧ i + 1 < V.size
        · obtain ⟨h9, hn⟩ := h92
          have hni : (i : Int) + 1 < (V.size : Int) := by omega
          have hn2 : ((i : Int) + 1).toNat = i + 1 := by omega
          have hc2 : V.data.toList.drop (i + 1) = V[i + 1] :: V.data.toList.drop (i + 2) := List.drop_eq_getElem_cons (by rw [HTL.out]; exact hn)
          have hq : bareL (V.data.toList.drop i) = V[i + 1] :: bareL (V.data.toList.drop (i + 2)) := by
            rw [hc, hc2, h9]; simp only [bareL]; rw [if_pos trivial]
          have HQ := Lib.hid hq
          clear hc hc2 hq
          go_wp2_with (go_at_call 67; refine (HWB.out acc V[i + 1] _ HI.out (by omega) HB.out.size).mono ?_; rintro e W1 ⟨rfl, k1, k2⟩; have K1 := Lib.hid k1; have K2 := Lib.hid (HB.out.trans k2); clear k1 k2)
          go_roundw
          case rel => exact ⟨i + 2, acc ++ [V[i + 1]], by go_num, by omega, by rw [← HE.out, HQ.out]; simp, by rw [List.length_append]; simp only [List.length_cons, List.length_nil]; omega, K1.out, K2.out⟩
          case measure => simp [RowKit.intOf]; omega
        · have hq : bareL (V.data.toList.drop i) = V[i] :: bareL (V.data.toList.drop (i + 1)) := by
            rw [hc]
            match hd : V.data.toList.drop (i + 1) with
            | [] => rfl
            | d :: r =>
              have hlen := congrArg List.length hd
              rw [List.length_drop, HTL.out, List.length_cons] at hlen
              simp only [bareL]
              rw [if_neg (fun h => h92 ⟨h, by omega⟩)]
          have HQ := Lib.hid hq
          clear hc hq
          by_cases h9 : V[i] = 92
          · have hn : ¬ (i : Int) + 1 < (V.size : Int) := by intro h; exact h92 ⟨h9, by omega⟩
            rw [h9] at HQ
            have w92 : ∀ (W : World), IsBuilderF 48 5 w.heap.size w.heap.size (byteCells acc) W → w.heap.size ≤ W.heap.size → Calls Tryz.prog 67 #[.pointer (some ⟨w.heap.size, 0, none⟩), .int .u8 92] W fun e w' => e = .returned .nilIface ∧ (IsBuilderF 48 5 w.heap.size w.heap.size (byteCells (acc ++ [92])) w' ∧ Below w.heap.size W w') := fun W h1 h2 => HWB.out acc 92 W h1 (by omega) h2
            have W92 := Lib.hid w92
            clear w92 h92
            go_wp2_with (go_at_call 67; refine (W92.out _ HI.out HB.out.size).mono ?_; rintro e W1 ⟨rfl, k1, k2⟩; have K1 := Lib.hid k1; have K2 := Lib.hid (HB.out.trans k2); clear k1 k2)
            go_roundw
            case rel => exact ⟨i + 1, acc ++ [92], by go_num, by omega, by rw [← HE.out, HQ.out]; simp, by rw [List.length_append]; simp only [List.length_cons, List.length_nil]; omega, K1.out, K2.out⟩
            case measure => simp [RowKit.intOf]; omega
          · have h9n : ¬ (V[i]).toNat = 92 := by intro h; exact h9 (UInt8.toNat_inj.1 (by rw [h]; rfl))
            have h9i : ¬ ((V[i]).toNat : Int) = 92 := by omega
            clear h92
            go_wp2_with (go_at_call 67; refine (HWB.out acc V[i] _ HI.out (by omega) HB.out.size).mono ?_; rintro e W1 ⟨rfl, k1, k2⟩; have K1 := Lib.hid k1; have K2 := Lib.hid (HB.out.trans k2); clear k1 k2)
            go_roundw
            case rel => exact ⟨i + 1, acc ++ [V[i]], by go_num, by omega, by rw [← HE.out, HQ.out]; simp, by rw [List.length_append]; simp only [List.length_cons, List.length_nil]; omega, K1.out, K2.out⟩
            case measure => simp [RowKit.intOf]; omega
      · have hlti : ¬ (i : Int) < (V.size : Int) := by omega
        have hacc : acc = innerL s.data.toList false := by
          have := HE.out
          rw [List.drop_eq_nil_of_le (by rw [HTL.out]; omega)] at this
          rw [← HR.out, ← this]; simp [bareL]
        have HA := Lib.hid hacc
        clear hacc
        go_wp2_with (go_at_call 36; refine (Tryz.Builder_String_any_k w.heap.size w.heap.size acc _ HI.out HB.out.size).mono ?_; rintro e W3 ⟨rfl, _, b3, _⟩; have B3 := Lib.hid b3; clear b3)
        go_ret
        exact ⟨by rw [← HA.out]; rfl, HB.out.trans B3.out⟩
end Go.Proofs.YtpcncpegbboljaaGreatDoor.Addr
namespace Go.Proofs.YtpcncpegbboljaaGreatDoor.Addr
open Go.RowKit Go.Lib Go.Proofs.YtpcncpegbboljaaGreatDoor Go.Proofs.YtpcncpegbboljaaGreatDoor.Pure
set_option linter.unusedVariables false
set_option linter.unusedSimpArgs false
theorem qGo_len : ∀ (n : Nat) (l : List UInt8), l.length ≤ n → (qGo l).1 ≤ l.length
  | _, [], _ => by simp [qGo]
  | _, [c], _ => by simp only [qGo]; split <;> simp
  | 0, c :: d :: r, h => by simp at h
  | n + 1, c :: d :: r, h => by
    simp only [List.length_cons] at h
    simp only [qGo, List.length_cons]
    have h1 := qGo_len n r (by omega)
    have h2 := qGo_len n (d :: r) (by simp only [List.length_cons]; omega)
    simp only [List.length_cons] at h2
    split
    · simp only; omega
    · split
      · simp only; omega
      · simp only; omega
theorem pGo_len : ∀ (n : Nat) (l : List UInt8) (deep : Nat), l.length ≤ n → (pGo deep l).1 ≤ l.length
  | _, [], _, _ => by simp [pGo]
  | _, [c], deep, _ => by simp only [pGo]; split <;> simp
  | 0, c :: d :: r, _, h => by simp at h
  | n + 1, c :: d :: r, deep, h => by
    simp only [List.length_cons] at h
    simp only [pGo, List.length_cons]
    have h1 := pGo_len n r deep (by omega)
    have h2 := pGo_len n (d :: r) deep (by simp only [List.length_cons]; omega)
    have h3 := pGo_len n (d :: r) (deep + 1) (by simp only [List.length_cons]; omega)
    have h4 := pGo_len n (d :: r) (deep - 1) (by simp only [List.length_cons]; omega)
    simp only [List.length_cons] at h2 h3 h4
    split
    · simp only; omega
    · split
      · simp only; omega
      · split
        · split
          · simp only; omega
          · simp only; omega
        · simp only; omega
theorem stretchL_len (c : UInt8) (r : List UInt8) : 1 ≤ (stretchL (c :: r)).1 ∧ (stretchL (c :: r)).1 ≤ r.length + 1 := by
  simp only [stretchL]
  split
  · have := qGo_len _ r (Nat.le_refl _); simp only; omega
  · have := pGo_len _ r 1 (Nat.le_refl _); simp only; omega
def itemL : List UInt8 → Nat × Bool
  | [] => (0, false)
  | c :: r => if c = 34 ∨ c = 40 then stretchL (c :: r) else (1, false)
theorem itemL_len (c : UInt8) (r : List UInt8) : 1 ≤ (itemL (c :: r)).1 ∧ (itemL (c :: r)).1 ≤ r.length + 1 := by
  simp only [itemL]
  split
  · exact stretchL_len c r
  · simp only; omega
def foldI {σ : Type} (step : σ → Nat → Nat → Bool → σ) : Nat → Nat → List UInt8 → σ → σ
  | 0, _, _, st => st
  | f + 1, i, l, st => if l = [] then st else foldI step f (i + (itemL l).1) (l.drop (itemL l).1) (step st i (itemL l).1 (itemL l).2)
theorem foldI_more {σ : Type} (step : σ → Nat → Nat → Bool → σ) : ∀ (f : Nat) (i : Nat) (l : List UInt8) (st : σ), l.length ≤ f → ∀ g, f ≤ g → foldI step g i l st = foldI step f i l st := by
  intro f
  induction f with
  | zero =>
    intro i l st h g _
    obtain rfl := List.eq_nil_of_length_eq_zero (by omega : l.length = 0)
    cases g <;> simp [foldI]
  | succ f ih =>
    intro i l st h g hg
    obtain ⟨g, rfl⟩ : ∃ k, g = k + 1 := ⟨g - 1, by omega⟩
    simp only [foldI]
    cases l with
    | nil => simp
    | cons c r =>
      rw [if_neg (by simp), if_neg (by simp)]
      have hl := itemL_len c r
      simp only [List.length_cons] at h
      exact ih _ _ _ (by rw [List.length_drop, List.length_cons]; omega) g (by omega)
def foldA {σ : Type} (step : σ → Nat → Nat → Bool → σ) (i : Nat) (l : List UInt8) (st : σ) : σ := foldI step l.length i l st
theorem foldA_nil {σ : Type} (step : σ → Nat → Nat → Bool → σ) (i : Nat) (st : σ) : foldA step i [] st = st := rfl
theorem foldA_cons {σ : Type} (step : σ → Nat → Nat → Bool → σ) (i : Nat) (l : List UInt8) (st : σ) (h : l ≠ []) :
    foldA step i l st = foldA step (i + (itemL l).1) (l.drop (itemL l).1) (step st i (itemL l).1 (itemL l).2) := by
  cases l with
  | nil => exact absurd rfl h
  | cons c r =>
    have hl := itemL_len c r
    unfold foldA
    simp only [List.length_cons, foldI]
    rw [if_neg (by simp), foldI_more step _ _ _ _ (Nat.le_refl _) r.length (by rw [List.length_drop, List.length_cons]; omega)]
set_option maxRecDepth 100000 in
set_option maxHeartbeats 8000000 in
theorem outside_c {σ : Type} (s : ByteArray) (hs : s.size ≤ 11000000) (g : Nat) (lb : Array Value) (eg : ∀ args w, (callFunc g args).run Tryz.prog w = .ok (.enter g args) w) (B : Nat) (K : Nat → σ → World → Prop) (step : σ → Nat → Nat → Bool → σ)
    (hdrew : ∀ i st W n, K i st W → K i st (W.drewN n))
    (hstep : ∀ (st : σ) (i : Nat) (c : UInt8) (r : List UInt8) (W : World), s.data.toList.drop i = c :: r → K i st W → B ≤ W.heap.size →
      Calls Tryz.prog g (#[.int .i64 (i : Int), .int .i64 ((itemL (c :: r)).1 : Int), .bool (itemL (c :: r)).2] ++ lb) W fun e w' => e = .returned (.tuple #[]) ∧ K (i + (itemL (c :: r)).1) (step st i (itemL (c :: r)).1 (itemL (c :: r)).2) w' ∧ Below B W w')
    (st : σ) (w : World) (h0 : K 0 st w) (hB : B ≤ w.heap.size) :
    Calls Tryz.prog 37 #[.string s, .func (.func g) #[] lb] w fun e w' => e = .returned (.tuple #[]) ∧ K s.size (foldA step 0 s.data.toList st) w' ∧ Below B w w' := by
  have HD := Lib.hid hdrew; have HS := Lib.hid hstep; have H0 := Lib.hid h0
  have hl : s.data.toList.length = s.size := by simp
  have HL := Lib.hid hl
  clear hdrew hstep h0 hl
  go_enter Tryz.func37, Tryz.ntmps37
  go_wp2
  go_loopw [4] (fun iv wr => ∃ (i : Nat) (t : σ), iv = .int .i64 (i : Int) ∧ i ≤ s.size ∧ foldA step i (s.data.toList.drop i) t = foldA step 0 s.data.toList st ∧ K i t wr ∧ Below B w wr) (fun iv _ => s.size - (RowKit.intOf iv).toNat)
  case atStart => exact ⟨0, st, rfl, Nat.zero_le _, rfl, H0.out, Below.refl _ _⟩
  case round =>
    obtain ⟨i, t, rfl, hi, he, hK, hb⟩ := hrel
    have HE := Lib.hid he; have HK := Lib.hid hK; have HB := Lib.hid hb
    clear he hK hb
    by_cases hlt : i < s.size
    · have hlti : (i : Int) < (s.size : Int) := by omega
      have hii : (i : Int) ≤ (s.size : Int) := by omega
      have hc : s.data.toList.drop i = s[i] :: s.data.toList.drop (i + 1) := List.drop_eq_getElem_cons (by rw [HL.out]; exact hlt)
      have hc0 := Lib.hid hc
      have hst := foldA_cons step i (s.data.toList.drop i) t (by rw [hc]; simp)
      have hit := itemL_len s[i] (s.data.toList.drop (i + 1))
      have hcall := HS.out t i s[i] (s.data.toList.drop (i + 1))
      rw [List.length_drop, HL.out] at hit
      rw [List.drop_drop, hc] at hst
      have hcases : itemL (s[i] :: s.data.toList.drop (i + 1)) = if s[i] = 34 ∨ s[i] = 40 then stretchL (s[i] :: s.data.toList.drop (i + 1)) else (1, false) := rfl
      generalize itemL (s[i] :: s.data.toList.drop (i + 1)) = it at *
      obtain ⟨n, b⟩ := it
      simp only at hit hst hcall hcases
      have HC := Lib.hid (fun W h1 h2 => hcall W hc h1 h2)
      have HST := Lib.hid hst
      have hin : (i : Int) + (n : Int) ≤ (s.size : Int) := by omega
      by_cases hq : s[i] = 34 ∨ s[i] = 40
      · rw [if_pos hq] at hcases
        obtain ⟨U, hU⟩ : ∃ U, s.extract i s.size = U := ⟨_, rfl⟩
        have hUd : U.data.toList = s[i] :: s.data.toList.drop (i + 1) := by rw [← hU, extract_list, List.take_of_length_le (by rw [HL.out]; exact Nat.le_refl _), hc]
        have hUz : U.size ≤ 100000000 := by rw [← hU]; simp; omega
        have SC := Lib.hid (fun W => stretch_c U hUz _ _ hUd hq W)
        rw [hUd, ← hcases] at SC
        clear hcases hc hst hUd hcall
        rcases hq with hq | hq
        · have hq2 : ¬ (s[i]).toNat = 40 := by rw [hq]; decide
          go_wp2_with (first
            | (go_at_call 66; refine (SC.out _).mono ?_; rintro e W1 ⟨rfl, q, rfl⟩)
            | (go_at_fn g; refine (HC.out _ (HD.out _ _ _ _ HK.out) (Nat.le_trans hB (bdrewN HB.out _).size)).mono ?_; rintro e W2 ⟨rfl, k1, b2⟩; have K1 := Lib.hid k1; have B2 := Lib.hid ((bdrewN HB.out _).trans b2); clear k1 b2))
          go_roundw
          case rel => exact ⟨i + n, _, by go_num, by omega, by rw [← HE.out, hc0.out, HST.out], K1.out, B2.out⟩
          case measure => simp [RowKit.intOf]; omega
        · have hq2 : ¬ (s[i]).toNat = 34 := by rw [hq]; decide
          go_wp2_with (first
            | (go_at_call 66; refine (SC.out _).mono ?_; rintro e W1 ⟨rfl, q, rfl⟩)
            | (go_at_fn g; refine (HC.out _ (HD.out _ _ _ _ HK.out) (Nat.le_trans hB (bdrewN HB.out _).size)).mono ?_; rintro e W2 ⟨rfl, k1, b2⟩; have K1 := Lib.hid k1; have B2 := Lib.hid ((bdrewN HB.out _).trans b2); clear k1 b2))
          go_roundw
          case rel => exact ⟨i + n, _, by go_num, by omega, by rw [← HE.out, hc0.out, HST.out], K1.out, B2.out⟩
          case measure => simp [RowKit.intOf]; omega
      · rw [if_neg hq] at hcases
        injection hcases with e1 e2
        subst e1 e2
        have hc1 := HC.out
        rw [show (((1 : Nat)) : Int) = 1 from rfl] at hc1
        have HC := Lib.hid hc1
        clear hc1
        have hq1 : ¬ (s[i]).toNat = 34 := by intro h; exact hq (.inl (UInt8.toNat_inj.1 (by rw [h]; rfl)))
        have hq2 : ¬ (s[i]).toNat = 40 := by intro h; exact hq (.inr (UInt8.toNat_inj.1 (by rw [h]; rfl)))
        have hq3 : ¬ ((s[i]).toNat : Int) = 34 := by omega
        have hq4 : ¬ ((s[i]).toNat : Int) = 40 := by omega
        have hb1 : (((s[i]).toNat : Int) == 34) = false := beq_eq_false_iff_ne.2 hq3
        have hb2 : (((s[i]).toNat : Int) == 40) = false := beq_eq_false_iff_ne.2 hq4
        clear hc hst hcall hq hq1 hq2
        go_wp2_with (first
          | (go_at_fn g; refine (HC.out _ HK.out (Nat.le_trans hB HB.out.size)).mono ?_; rintro e W2 ⟨rfl, k1, b2⟩; have K1 := Lib.hid k1; have B2 := Lib.hid (HB.out.trans b2); clear k1 b2))
        go_roundw
        case rel => exact ⟨i + 1, _, by go_num, by omega, by rw [← HE.out, hc0.out, HST.out], K1.out, B2.out⟩
        case measure => simp [RowKit.intOf]; omega
    · have hlti : ¬ (i : Int) < (s.size : Int) := by omega
      have he := HE.out
      rw [List.drop_eq_nil_of_le (by rw [HL.out]; omega), foldA_nil] at he
      have HE2 := Lib.hid he
      clear he
      go_wp2
      go_end0
      have hisz : i = s.size := by omega
      exact ⟨rfl, by rw [← HE2.out, ← hisz]; exact HK.out, HB.out⟩
end Go.Proofs.YtpcncpegbboljaaGreatDoor.Addr
namespace Go.Proofs.YtpcncpegbboljaaGreatDoor.Addr
open Go.RowKit Go.Lib Go.Proofs.YtpcncpegbboljaaGreatDoor Go.Proofs.YtpcncpegbboljaaGreatDoor.Pure Go.Proofs.YtpcncpegbboljaaGreatDoorW.PrintWords
set_option linter.unusedVariables false
set_option linter.unusedSimpArgs false
theorem infoStr : (Tryz.prog.info? 9).map (fun i => (i.zero, i.size, i.bytes)) = some (some (.string ⟨#[]⟩), 1, 16) := by kernel_rfl
structure TxSt where
  l : List ByteArray
  from_ : Nat
  angle : Bool
def txStep (s : ByteArray) (st : TxSt) (i n : Nat) (e : Bool) : TxSt :=
  match s.data.toList.drop i with
  | [] => st
  | c :: _ => if c = 60 then { st with angle := true } else if c = 62 then { st with angle := false } else if (c = 44 ∨ c = 59) ∧ st.angle = false then { st with l := st.l ++ [s.extract st.from_ i], from_ := i + 1 } else st
def TxK (M : Nat) (s : ByteArray) (i : Nat) (st : TxSt) (w : World) : Prop :=
  M + 4 ≤ w.heap.size ∧ st.from_ ≤ i ∧ st.l.length ≤ i ∧ ∃ v, w.heap[M]? = some (.cells #[.string s] 9 (0, 0)) ∧ w.heap[M + 1]? = some (.cells #[v] 34 (0, 0)) ∧ w.heap[M + 2]? = some (.cells #[.int .i64 (st.from_ : Int)] 3 (0, 0)) ∧ w.heap[M + 3]? = some (.cells #[.bool st.angle] 4 (0, 0))
    ∧ w.ownsRow (M + 4) 9 1 v st.l.length (st.l.map Value.string)
theorem own_set {w : World} {B n k : Nat} {v x : Value} {xs : List Value} (h : w.ownsRow B 9 1 v n xs) (hk : k < B) : (w.setCell ⟨k, 0, none⟩ x).ownsRow B 9 1 v n xs :=
  ownsRow_setCell_below h hk x
theorem u8f {c : UInt8} {k : Nat} (h : c ≠ UInt8.ofNat k) (hk : k < 256) : ((c.toNat : Int) == (k : Int)) = false := by
  refine beq_eq_false_iff_ne.2 fun e => h ?_
  apply UInt8.toNat_inj.1
  rw [show (UInt8.ofNat k).toNat = k from by simp [Nat.mod_eq_of_lt hk]]
  exact Int.ofNat_inj.1 e
set_option maxRecDepth 100000 in
set_option maxHeartbeats 8000000 in
theorem texts1_c (M : Nat) (s : ByteArray) (hs : s.size ≤ 11000000) (i : Nat) (st : TxSt) (c : UInt8) (r : List UInt8) (n : Nat) (b : Bool) (hn : 1 ≤ n) (w : World) (hc : s.data.toList.drop i = c :: r) (hK : TxK M s i st w) :
    Calls Tryz.prog 38 #[.int .i64 (i : Int), .int .i64 (n : Int), .bool b, .pointer (some ⟨M, 0, none⟩), .pointer (some ⟨M + 3, 0, none⟩), .pointer (some ⟨M + 1, 0, none⟩), .pointer (some ⟨M + 2, 0, none⟩)] w
      fun e w' => e = .returned (.tuple #[]) ∧ TxK M s (i + n) (txStep s st i n b) w' ∧ Below M w w' := by
  obtain ⟨hM, hf, hll, v, g0, g1, g2, g3, hown⟩ := hK
  have hl : s.data.toList.length = s.size := by simp
  have hlt : i < s.size := by
    rcases Nat.lt_or_ge i s.size with h1 | h1
    · exact h1
    · rw [List.drop_eq_nil_of_le (by rw [hl]; exact h1)] at hc; cases hc
  have hsc : s[i] = c := by
    have e := List.drop_eq_getElem_cons (l := s.data.toList) (i := i) (by rw [hl]; exact hlt)
    rw [hc] at e
    injection e with e1 _
    exact e1.symm
  have hlti : (i : Int) < (s.size : Int) := by omega
  have hst : txStep s st i n b = if c = 60 then { st with angle := true } else if c = 62 then { st with angle := false } else if (c = 44 ∨ c = 59) ∧ st.angle = false then { st with l := st.l ++ [s.extract st.from_ i], from_ := i + 1 } else st := by
    unfold txStep; rw [hc]
  have c0 := Joins.cell_of_block g0 0
  have c1 := Joins.cell_of_block g1 0
  have c2 := Joins.cell_of_block g2 0
  have c3 := Joins.cell_of_block g3 0
  have u1 := Joins.unfrozen_of_block g1 0
  have u2 := Joins.unfrozen_of_block g2 0
  have u3 := Joins.unfrozen_of_block g3 0
  simp at c0 c1 c2 c3
  have HST := Lib.hid hst; have HO := Lib.hid hown; have G0 := Lib.hid g0; have G1 := Lib.hid g1; have G2 := Lib.hid g2; have G3 := Lib.hid g3
  clear hst hown g0 g1 g2 g3 hc hl
  by_cases h60 : c = 60
  · subst h60
    have HE : Hid (txStep s st i n b = { st with angle := true }) := Lib.hid (by rw [HST.out, if_pos rfl])
    go_enter Tryz.func38, Tryz.ntmps38
    go_wp2
    go_end0
    rw [HE.out]
    refine ⟨rfl, ⟨by simp; omega, by show st.from_ ≤ _; omega, by show st.l.length ≤ _; omega, v, ?_, ?_, ?_, Joins.block_setCell G3.out _, own_set HO.out (by omega)⟩, (Below.refl M w).setCell (p := ⟨M + 3, 0, none⟩) (by show M ≤ M + 3; omega) _⟩
    · exact (Deep.blk_setCell_other w ⟨M + 3, 0, none⟩ _ M (by show M ≠ M + 3; omega)).trans G0.out
    · exact (Deep.blk_setCell_other w ⟨M + 3, 0, none⟩ _ (M + 1) (by show M + 1 ≠ M + 3; omega)).trans G1.out
    · exact (Deep.blk_setCell_other w ⟨M + 3, 0, none⟩ _ (M + 2) (by show M + 2 ≠ M + 3; omega)).trans G2.out
  · by_cases h62 : c = 62
    · subst h62
      have HE : Hid (txStep s st i n b = { st with angle := false }) := Lib.hid (by rw [HST.out, if_neg (by decide), if_pos rfl])
      go_enter Tryz.func38, Tryz.ntmps38
      go_wp2
      go_end0
      rw [HE.out]
      refine ⟨rfl, ⟨by simp; omega, by show st.from_ ≤ _; omega, by show st.l.length ≤ _; omega, v, ?_, ?_, ?_, Joins.block_setCell G3.out _, own_set HO.out (by omega)⟩, (Below.refl M w).setCell (p := ⟨M + 3, 0, none⟩) (by show M ≤ M + 3; omega) _⟩
      · exact (Deep.blk_setCell_other w ⟨M + 3, 0, none⟩ _ M (by show M ≠ M + 3; omega)).trans G0.out
      · exact (Deep.blk_setCell_other w ⟨M + 3, 0, none⟩ _ (M + 1) (by show M + 1 ≠ M + 3; omega)).trans G1.out
      · exact (Deep.blk_setCell_other w ⟨M + 3, 0, none⟩ _ (M + 2) (by show M + 2 ≠ M + 3; omega)).trans G2.out
    · by_cases h44 : c = 44
      ·
        subst h44
        by_cases hA : st.angle = true
        · have HE : Hid (txStep s st i n b = st) := Lib.hid (by rw [HST.out, if_neg (by decide), if_neg (by decide), if_neg (by rw [hA]; simp)])
          go_enter Tryz.func38, Tryz.ntmps38
          go_wp2
          go_end0
          rw [HE.out]
          exact ⟨rfl, ⟨hM, by omega, by omega, v, G0.out, G1.out, G2.out, G3.out, HO.out⟩, Below.refl M w⟩
        · have hA : st.angle = false := by simpa using hA
          rw [hA] at c3
          have HE : Hid (txStep s st i n b = ⟨st.l ++ [s.extract st.from_ i], i + 1, st.angle⟩) := Lib.hid (by rw [HST.out, if_neg (by decide), if_neg (by decide), if_pos ⟨.inl rfl, hA⟩])
          have hfi : (st.from_ : Int) ≤ (i : Int) := by omega
          have his : (i : Int) ≤ (s.size : Int) := by omega
          have hlen : (st.l.length + 1) * 16 ≤ 140737488355328 := (by omega); have HV : Hid (Value.int .i64 (IntKind.i64.wrap ((i : Int) + 1)) = .int .i64 ((i + 1 : Nat) : Int)) := Lib.hid (by rw [IntWalk.i64_left, IntWalk.wrap64_in _ (by omega)]; rfl); have hm0 : M < w.heap.size := (by omega); have hm1 : M + 1 < w.heap.size := (by omega); have hm2 : M + 2 < w.heap.size := (by omega); have hm3 : M + 3 < w.heap.size := (by omega)
          have hd : Hid (∀ o, (w.alloc o).drew = w.drew.alloc o) := Lib.hid fun _ => rfl
          go_enter Tryz.func38, Tryz.ntmps38
          go_wp2
          go_region_law (rw [hd.out]; refine step_append_cells (w0 := w) (W := w.drew) (M + 4) rfl (.tmp 22) (.tmp 27) 34 9 (.string ⟨#[]⟩) 1 16 rfl rfl infoStr (by kernel_rfl) (by omega) (by omega) v st.l.length (st.l.map Value.string) [.string (s.extract st.from_ i)] (by simp [Act.eval, Act.put]) (by simp [Act.eval, Act.put]) rfl (by simp [Value.oneCell']) HO.out (Below.refl _ _).drew hM hlen ?_; intro v1 w1 hown hb hg hat; clear hg hat; obtain ⟨g, cap, rfl⟩ := Joins.ownsRow_form hown (by omega); have H0 := Lib.hid ((hb.block M (by omega)).trans G0.out); have H1 := (hb.block (M + 1) (by omega)).trans G1.out; have H2 := (hb.block (M + 2) (by omega)).trans G2.out; have H3 := Lib.hid ((hb.block (M + 3) (by omega)).trans G3.out); have d1 := Joins.cell_of_block H1 0; have d2 := Joins.cell_of_block H2 0; have f1 := Joins.unfrozen_of_block H1 0; have f2 := Joins.unfrozen_of_block H2 0; simp at d1 d2; have H1 := Lib.hid H1; have H2 := Lib.hid H2; have HN := Lib.hid hown; have HBB := Lib.hid hb; clear hown hb)
          all_goals (
            go_wp2
            go_end0
            rw [HE.out, HV.out]
            have hsz := HBB.out.size
            refine ⟨rfl, ⟨by simp; omega, by show i + 1 ≤ _; omega, by show (st.l ++ [_]).length ≤ _; simp; omega, .slice (some ⟨g, 0, none⟩) (st.l.length + 1) cap, ?_, ?_, ?_, ?_, ?_⟩, ((Joins.below_le HBB.out (by omega)).setCell (p := ⟨M + 1, 0, none⟩) (by show M ≤ M + 1; omega) _).setCell (p := ⟨M + 2, 0, none⟩) (by show M ≤ M + 2; omega) _⟩
            · exact (Deep.blk_setCell_other _ ⟨M + 2, 0, none⟩ _ M (by show M ≠ M + 2; omega)).trans ((Deep.blk_setCell_other w1 ⟨M + 1, 0, none⟩ _ M (by show M ≠ M + 1; omega)).trans H0.out)
            · exact (Deep.blk_setCell_other _ ⟨M + 2, 0, none⟩ _ (M + 1) (by show M + 1 ≠ M + 2; omega)).trans (Joins.block_setCell H1.out _)
            · exact Joins.block_setCell ((Deep.blk_setCell_other w1 ⟨M + 1, 0, none⟩ _ (M + 2) (by show M + 2 ≠ M + 1; omega)).trans H2.out) _
            · exact (Deep.blk_setCell_other _ ⟨M + 2, 0, none⟩ _ (M + 3) (by show M + 3 ≠ M + 2; omega)).trans ((Deep.blk_setCell_other w1 ⟨M + 1, 0, none⟩ _ (M + 3) (by show M + 3 ≠ M + 1; omega)).trans H3.out)
            · show World.ownsRow _ (M + 4) _ 1 _ (st.l ++ [_]).length ((st.l ++ [_]).map Value.string)
              rw [List.length_append, List.map_append]
              exact own_set (own_set HN.out (by omega)) (by omega))
      · by_cases h59 : c = 59
        ·
          subst h59
          by_cases hA : st.angle = true
          · have HE : Hid (txStep s st i n b = st) := Lib.hid (by rw [HST.out, if_neg (by decide), if_neg (by decide), if_neg (by rw [hA]; simp)])
            go_enter Tryz.func38, Tryz.ntmps38
            go_wp2
            go_end0
            rw [HE.out]
            exact ⟨rfl, ⟨hM, by omega, by omega, v, G0.out, G1.out, G2.out, G3.out, HO.out⟩, Below.refl M w⟩
          · have hA : st.angle = false := by simpa using hA
            rw [hA] at c3
            have HE : Hid (txStep s st i n b = ⟨st.l ++ [s.extract st.from_ i], i + 1, st.angle⟩) := Lib.hid (by rw [HST.out, if_neg (by decide), if_neg (by decide), if_pos ⟨.inr rfl, hA⟩])
            have hfi : (st.from_ : Int) ≤ (i : Int) := by omega
            have his : (i : Int) ≤ (s.size : Int) := by omega
            have hlen : (st.l.length + 1) * 16 ≤ 140737488355328 := (by omega); have HV : Hid (Value.int .i64 (IntKind.i64.wrap ((i : Int) + 1)) = .int .i64 ((i + 1 : Nat) : Int)) := Lib.hid (by rw [IntWalk.i64_left, IntWalk.wrap64_in _ (by omega)]; rfl); have hm0 : M < w.heap.size := (by omega); have hm1 : M + 1 < w.heap.size := (by omega); have hm2 : M + 2 < w.heap.size := (by omega); have hm3 : M + 3 < w.heap.size := (by omega)
            have hd : Hid (∀ o, (w.alloc o).drew = w.drew.alloc o) := Lib.hid fun _ => rfl
            go_enter Tryz.func38, Tryz.ntmps38
            go_wp2
            go_region_law (rw [hd.out]; refine step_append_cells (w0 := w) (W := w.drew) (M + 4) rfl (.tmp 22) (.tmp 27) 34 9 (.string ⟨#[]⟩) 1 16 rfl rfl infoStr (by kernel_rfl) (by omega) (by omega) v st.l.length (st.l.map Value.string) [.string (s.extract st.from_ i)] (by simp [Act.eval, Act.put]) (by simp [Act.eval, Act.put]) rfl (by simp [Value.oneCell']) HO.out (Below.refl _ _).drew hM hlen ?_; intro v1 w1 hown hb hg hat; clear hg hat; obtain ⟨g, cap, rfl⟩ := Joins.ownsRow_form hown (by omega); have H0 := Lib.hid ((hb.block M (by omega)).trans G0.out); have H1 := (hb.block (M + 1) (by omega)).trans G1.out; have H2 := (hb.block (M + 2) (by omega)).trans G2.out; have H3 := Lib.hid ((hb.block (M + 3) (by omega)).trans G3.out); have d1 := Joins.cell_of_block H1 0; have d2 := Joins.cell_of_block H2 0; have f1 := Joins.unfrozen_of_block H1 0; have f2 := Joins.unfrozen_of_block H2 0; simp at d1 d2; have H1 := Lib.hid H1; have H2 := Lib.hid H2; have HN := Lib.hid hown; have HBB := Lib.hid hb; clear hown hb)
            all_goals (
              go_wp2
              go_end0
              rw [HE.out, HV.out]
              have hsz := HBB.out.size
              refine ⟨rfl, ⟨by simp; omega, by show i + 1 ≤ _; omega, by show (st.l ++ [_]).length ≤ _; simp; omega, .slice (some ⟨g, 0, none⟩) (st.l.length + 1) cap, ?_, ?_, ?_, ?_, ?_⟩, ((Joins.below_le HBB.out (by omega)).setCell (p := ⟨M + 1, 0, none⟩) (by show M ≤ M + 1; omega) _).setCell (p := ⟨M + 2, 0, none⟩) (by show M ≤ M + 2; omega) _⟩
              · exact (Deep.blk_setCell_other _ ⟨M + 2, 0, none⟩ _ M (by show M ≠ M + 2; omega)).trans ((Deep.blk_setCell_other w1 ⟨M + 1, 0, none⟩ _ M (by show M ≠ M + 1; omega)).trans H0.out)
              · exact (Deep.blk_setCell_other _ ⟨M + 2, 0, none⟩ _ (M + 1) (by show M + 1 ≠ M + 2; omega)).trans (Joins.block_setCell H1.out _)
              · exact Joins.block_setCell ((Deep.blk_setCell_other w1 ⟨M + 1, 0, none⟩ _ (M + 2) (by show M + 2 ≠ M + 1; omega)).trans H2.out) _
              · exact (Deep.blk_setCell_other _ ⟨M + 2, 0, none⟩ _ (M + 3) (by show M + 3 ≠ M + 2; omega)).trans ((Deep.blk_setCell_other w1 ⟨M + 1, 0, none⟩ _ (M + 3) (by show M + 3 ≠ M + 1; omega)).trans H3.out)
              · show World.ownsRow _ (M + 4) _ 1 _ (st.l ++ [_]).length ((st.l ++ [_]).map Value.string)
                rw [List.length_append, List.map_append]
                exact own_set (own_set HN.out (by omega)) (by omega))
        · have HE : Hid (txStep s st i n b = st) := Lib.hid (by rw [HST.out, if_neg h60, if_neg h62, if_neg (fun h => h.1.elim h44 h59)])
          have e1 : ((c.toNat : Int) == 60) = false := u8f h60 (by decide)
          have e2 : ((c.toNat : Int) == 62) = false := u8f h62 (by decide)
          have e3 : ((c.toNat : Int) == 44) = false := u8f h44 (by decide)
          have e4 : ((c.toNat : Int) == 59) = false := u8f h59 (by decide)
          clear h60 h62 h44 h59
          go_enter Tryz.func38, Tryz.ntmps38
          go_wp2
          go_end0
          rw [HE.out]
          exact ⟨rfl, ⟨hM, by omega, by omega, v, G0.out, G1.out, G2.out, G3.out, HO.out⟩, Below.refl M w⟩
end Go.Proofs.YtpcncpegbboljaaGreatDoor.Addr
namespace Go.Proofs.YtpcncpegbboljaaGreatDoor.Addr
open Go.RowKit Go.Lib Go.Proofs.YtpcncpegbboljaaGreatDoor Go.Proofs.YtpcncpegbboljaaGreatDoor.Pure Go.Proofs.YtpcncpegbboljaaGreatDoorW.PrintWords
set_option linter.unusedVariables false
set_option linter.unusedSimpArgs false
theorem TxK.draws {M : Nat} {s : ByteArray} {i : Nat} {st : TxSt} {w : World} (n : Nat) (h : TxK M s i st w) : TxK M s i st (w.drewN n) := h
def textsS (s : ByteArray) : TxSt := foldA (txStep s) 0 s.data.toList ⟨[], 0, false⟩
def textsL (s : ByteArray) : List ByteArray := (textsS s).l ++ [s.extract (textsS s).from_ s.size]
theorem start4 (w : World) (o0 o1 o2 o3 : Obj) : ∃ W, W = (((w.alloc o0).alloc o1).alloc o2).alloc o3 ∧ W.heap[w.heap.size]? = some o0 ∧ W.heap[w.heap.size + 1]? = some o1 ∧ W.heap[w.heap.size + 2]? = some o2 ∧ W.heap[w.heap.size + 3]? = some o3 ∧ W.heap.size = w.heap.size + 4 ∧ Below w.heap.size w W := by
  have old : ∀ (v : World) (o : Obj) (k : Nat) x, k < v.heap.size → v.heap[k]? = some x → (v.alloc o).heap[k]? = some x := fun v o k x hk h => (Below.heap_alloc v o k hk).trans h
  have z1 : (w.alloc o0).heap.size = w.heap.size + 1 := by simp
  have z2 : ((w.alloc o0).alloc o1).heap.size = w.heap.size + 2 := by simp
  have z3 : (((w.alloc o0).alloc o1).alloc o2).heap.size = w.heap.size + 3 := by simp
  have n1 := heap_alloc_new (w.alloc o0) o1
  have n2 := heap_alloc_new ((w.alloc o0).alloc o1) o2
  have n3 := heap_alloc_new (((w.alloc o0).alloc o1).alloc o2) o3
  rw [z1] at n1
  rw [z2] at n2
  rw [z3] at n3
  exact ⟨_, rfl, old _ _ _ _ (by omega) (old _ _ _ _ (by omega) (old _ _ _ _ (by omega) (heap_alloc_new w o0))), old _ _ _ _ (by omega) (old _ _ _ _ (by omega) n1), old _ _ _ _ (by omega) n2, n3, by simp, (Joins.below_alloc3 w o0 o1 o2).alloc (by simp; omega) o3⟩
set_option maxRecDepth 100000 in
set_option maxHeartbeats 8000000 in
theorem out_texts (s : ByteArray) (hs : s.size ≤ 11000000) (M : Nat) (W : World) (h0 : TxK M s 0 ⟨[], 0, false⟩ W) (hM : M ≤ W.heap.size) :
    Calls Tryz.prog 37 #[.string s, .func (.func 38) #[] #[.pointer (some ⟨M, 0, none⟩), .pointer (some ⟨M + 3, 0, none⟩), .pointer (some ⟨M + 1, 0, none⟩), .pointer (some ⟨M + 2, 0, none⟩)]] W fun e w' => e = .returned (.tuple #[]) ∧ TxK M s s.size (textsS s) w' ∧ Below M W w' := by
  refine outside_c s hs 38 _ (enters_of Tryz.func38 (by kernel_rfl) rfl) M (TxK M s) (txStep s) (fun _ _ _ n h => h.draws n) ?_ _ W h0 hM
  intro st i c r W2 hc hK hB
  exact texts1_c M s hs i st c r _ _ (itemL_len c r).1 W2 hc hK
set_option maxRecDepth 100000 in
set_option maxHeartbeats 8000000 in
theorem texts_c (s : ByteArray) (hs : s.size ≤ 11000000) (w : World) :
    Calls Tryz.prog 19 #[.string s] w fun e w' => ∃ v, e = .returned v ∧ w'.ownsRow w.heap.size 9 1 v (textsL s).length ((textsL s).map Value.string) ∧ Below w.heap.size w w' := by
  obtain ⟨W, hW, b0, b1, b2, b3, hz, hb⟩ := start4 w (.cells #[.string s] 9) (.cells #[.slice none 0 0] 34) (.cells #[.int .i64 0] 3) (.cells #[.bool false] 4)
  have hK : TxK w.heap.size s 0 ⟨[], 0, false⟩ W := ⟨by omega, Nat.zero_le _, Nat.zero_le _, _, b0, b1, b2, b3, World.ownsRow_nil _ _ _ _⟩
  have HC := Lib.hid (out_texts s hs w.heap.size W hK (by omega))
  have HW := Lib.hid hW; have HB := Lib.hid hb
  have htl : textsL s = (textsS s).l ++ [s.extract (textsS s).from_ s.size] := rfl
  clear hW b0 b1 b2 b3 hz hb hK
  generalize textsS s = S at *
  have HT := Lib.hid htl
  clear htl
  go_enter Tryz.func19, Tryz.ntmps19
  go_upto_region 4 with (first
    | (go_at_call 37; rw [← HW.out]; refine HC.out.mono ?_; rintro e w1 ⟨rfl, hk, hb1⟩; have HK := Lib.hid hk; have HB1 := Lib.hid (HB.out.trans hb1); clear hk hb1))
  obtain ⟨hM, hf, hll, v, g0, g1, g2, g3, hown⟩ := HK.out
  have c0 := Joins.cell_of_block g0 0
  have c1 := Joins.cell_of_block g1 0
  have c2 := Joins.cell_of_block g2 0
  simp at c0 c1 c2
  have hsz := HB1.out.size
  have HO := Lib.hid hown; have G0 := Lib.hid g0; have G1 := Lib.hid g1; have G2 := Lib.hid g2; have G3 := Lib.hid g3
  clear hown g0 g1 g2 g3
  have hfi : (S.from_ : Int) ≤ (s.size : Int) := by omega
  have hlen : (S.l.length + 1) * 16 ≤ 140737488355328 := by omega
  have hd : Hid (∀ o, (w1.alloc o).drew = w1.drew.alloc o) := Lib.hid fun _ => rfl
  have hm0 : w.heap.size < w1.heap.size := by omega
  have hm1 : w.heap.size + 1 < w1.heap.size := by omega
  have hm2 : w.heap.size + 2 < w1.heap.size := by omega
  have hm2' : w.heap.size + 1 + 1 < w1.heap.size := by omega
  go_region_law (rw [hd.out]; refine step_append_cells (w0 := w1) (W := w1.drew) (w.heap.size + 4) rfl (.tmp 9) (.tmp 13) 34 9 (.string ⟨#[]⟩) 1 16 rfl rfl infoStr (by kernel_rfl) (by omega) (by omega) v S.l.length (S.l.map Value.string) [.string (s.extract S.from_ s.size)] (by simp [Act.eval, Act.put]) (by simp [Act.eval, Act.put]) rfl (by simp [Value.oneCell']) HO.out (Below.refl _ _).drew hM hlen ?_; intro v1 w2 hown hb hg hat; clear hg hat; obtain ⟨g, cap, rfl⟩ := Joins.ownsRow_form hown (by omega); have HN := Lib.hid hown; have HBB := Lib.hid hb; clear hown hb)
  all_goals (
    go_wp2
    go_ret
    refine ⟨_, rfl, ?_, HB1.out.trans (Joins.below_le HBB.out (by omega))⟩
    rw [HT.out, List.length_append, List.map_append]
    exact Joins.ownsRow_le HN.out (by omega))
end Go.Proofs.YtpcncpegbboljaaGreatDoor.Addr
namespace Go.Proofs.YtpcncpegbboljaaGreatDoor.Addr
open Go.RowKit Go.Lib Go.Proofs.YtpcncpegbboljaaGreatDoor Go.Proofs.YtpcncpegbboljaaGreatDoor.Pure Go.Proofs.YtpcncpegbboljaaGreatDoorW.PrintWords
set_option linter.unusedVariables false
set_option linter.unusedSimpArgs false
theorem qGo_yes : ∀ (n : Nat) (l : List UInt8), l.length ≤ n → (qGo l).2 = true → 1 ≤ (qGo l).1
  | _, [], _, h => by simp [qGo] at h
  | _, [c], _, h => by simp only [qGo] at h ⊢; split <;> simp
  | 0, c :: d :: r, hl, _ => by simp at hl
  | n + 1, c :: d :: r, hl, h => by
    simp only [qGo]
    split
    · show 1 ≤ _ + 2; omega
    · split
      · exact Nat.le_refl 1
      · show 1 ≤ _ + 1; omega
theorem pGo_yes : ∀ (l : List UInt8) (deep : Nat), (pGo deep l).2 = true → 1 ≤ (pGo deep l).1
  | [], _, h => by simp [pGo] at h
  | [c], deep, h => by simp only [pGo]; split <;> simp
  | c :: d :: r, deep, h => by
    simp only [pGo]
    split
    · show 1 ≤ _ + 2; omega
    · split
      · show 1 ≤ _ + 1; omega
      · split
        · split
          · exact Nat.le_refl 1
          · show 1 ≤ _ + 1; omega
        · show 1 ≤ _ + 1; omega
theorem itemL_two (c : UInt8) (r : List UInt8) (h : (itemL (c :: r)).2 = true) : 2 ≤ (itemL (c :: r)).1 := by
  by_cases hc : c = 34 ∨ c = 40
  · have e : itemL (c :: r) = stretchL (c :: r) := by simp only [itemL]; rw [if_pos hc]
    rw [e] at h ⊢
    by_cases h34 : c = 34
    · have e2 : stretchL (c :: r) = ((qGo r).1 + 1, (qGo r).2) := by simp only [stretchL]; rw [if_pos h34]
      rw [e2] at h ⊢
      have := qGo_yes _ r (Nat.le_refl _) h
      show 2 ≤ _ + 1; omega
    · have e2 : stretchL (c :: r) = ((pGo 1 r).1 + 1, (pGo 1 r).2) := by simp only [stretchL]; rw [if_neg h34]
      rw [e2] at h ⊢
      have := pGo_yes r 1 h
      show 2 ≤ _ + 1; omega
  · have e : itemL (c :: r) = (1, false) := by simp only [itemL]; rw [if_neg hc]
    rw [e] at h; cases h
theorem innerL_len (l : List UInt8) (e : Bool) : (innerL l e).length ≤ l.length := by
  unfold innerL midL
  refine Nat.le_trans (bareL_len _ _ (Nat.le_refl _)) ?_
  split
  · rw [List.length_take, List.length_drop]; omega
  · rw [List.length_drop]; omega
structure BxSt where
  a : Int
  z : Int
  remark : List UInt8
  found : Bool
  rest : List UInt8
def bxStep (s : ByteArray) (st : BxSt) (i n : Nat) (e : Bool) : BxSt :=
  match s.data.toList.drop i with
  | [] => st
  | c :: r =>
    if c = 60 ∧ st.a < 0 then { st with a := (i : Int), rest := st.rest ++ (c :: r).take n }
    else if c = 62 ∧ ¬ st.a < 0 ∧ st.z < 0 then { st with z := (i : Int), rest := st.rest ++ (c :: r).take n }
    else if c = 40 then (if st.found = true then st else { st with remark := innerL ((c :: r).take n) e, found := true })
    else { st with rest := st.rest ++ (c :: r).take n }
structure BxC (M : Nat) (s : ByteArray) (st : BxSt) (w : World) : Prop where
  size : M + 7 ≤ w.heap.size
  b0 : w.heap[M]? = some (.cells #[.string s] 9 (0, 0))
  b1 : w.heap[M + 1]? = some (.cells #[.string ⟨#[]⟩, .string ⟨#[]⟩] 32 (0, 0))
  b2 : w.heap[M + 2]? = some (.cells #[.int .i64 st.a] 3 (0, 0))
  b3 : w.heap[M + 3]? = some (.cells #[.int .i64 st.z] 3 (0, 0))
  b4 : w.heap[M + 4]? = some (.cells #[.string ⟨st.remark.toArray⟩] 9 (0, 0))
  b5 : w.heap[M + 5]? = some (.cells #[.bool st.found] 4 (0, 0))
  b6 : IsBuilderF 48 5 (M + 6) (M + 6) (byteCells st.rest) w
structure BxIn (s : ByteArray) (i : Nat) (st : BxSt) : Prop where
  a : st.a = -1 ∨ ∃ f : Nat, st.a = (f : Int) ∧ f < i ∧ f < s.size
  z : st.z = -1 ∨ ∃ f t : Nat, st.a = (f : Int) ∧ st.z = (t : Int) ∧ f < t ∧ t < i ∧ t < s.size
  remark : st.remark.length ≤ i
  rest : st.rest.length ≤ i
def BxK (M : Nat) (s : ByteArray) (i : Nat) (st : BxSt) (w : World) : Prop := BxC M s st w ∧ BxIn s i st
theorem BxK.draws {M : Nat} {s : ByteArray} {i : Nat} {st : BxSt} {w : World} (n : Nat) (h : BxK M s i st w) : BxK M s i st (w.drewN n) := ⟨⟨h.1.1, h.1.2, h.1.3, h.1.4, h.1.5, h.1.6, h.1.7, h.1.8⟩, h.2⟩
theorem rowF_low {w : World} {B n k : Nat} {v x : Value} {xs : List Value} (h : w.ownsRowF B 5 1 v n xs) (hk : k < B) : (w.setCell ⟨k, 0, none⟩ x).ownsRowF B 5 1 v n xs := by
  refine ⟨h.1, h.2.elim Or.inl fun ⟨g, cap, cur, fz, hv, hg, hh, r⟩ => Or.inr ⟨g, cap, cur, fz, hv, hg, ?_, r⟩⟩
  exact (Deep.blk_setCell_other w ⟨k, 0, none⟩ x g (by show g ≠ k; omega)).trans hh
theorem isB_low {w : World} {B E k : Nat} {x : Value} {bs : List Value} (h : IsBuilderF 48 5 B E bs w) (hk : k < B) : IsBuilderF 48 5 B E bs (w.setCell ⟨k, 0, none⟩ x) := by
  have key : ∀ p, BuilderAtF 48 5 B E p bs w → BuilderAtF 48 5 B E p bs (w.setCell ⟨k, 0, none⟩ x) := by
    rintro p ⟨hB, u, hb, ho, hn⟩
    exact ⟨hB, u, (Deep.blk_setCell_other w ⟨k, 0, none⟩ x E (by show E ≠ k; omega)).trans hb, rowF_low ho hk, hn⟩
  exact h.elim (fun h => .inl (key _ h)) (fun h => .inr (key _ h))
theorem isB_below {B E : Nat} {bs : List Value} {w w' : World} (h : IsBuilderF 48 5 B E bs w) (hb : Below w.heap.size w w') : IsBuilderF 48 5 B E bs w' := by
  have key : ∀ k x, w.heap[k]? = some x → w'.heap[k]? = some x := fun k x hk => (hb.block k (Array.getElem?_eq_some_iff.1 hk).1).trans hk
  have k2 : ∀ p, BuilderAtF 48 5 B E p bs w → BuilderAtF 48 5 B E p bs w' := by
    rintro p ⟨hB, u, h1, h2, hn⟩
    exact ⟨hB, u, key _ _ h1, ⟨h2.1, h2.2.elim Or.inl fun ⟨g, cap, cur, fz, hv, hg, hh, r⟩ => Or.inr ⟨g, cap, cur, fz, hv, hg, key _ _ hh, r⟩⟩, hn⟩
  exact h.elim (fun h => .inl (k2 _ h)) (fun h => .inr (k2 _ h))
theorem BxC.set_a {M : Nat} {s : ByteArray} {st : BxSt} {w : World} (h : BxC M s st w) (x : Int) : BxC M s { st with a := x } (w.setCell ⟨M + 2, 0, none⟩ (.int .i64 x)) := by
  have ne : ∀ k, k ≠ M + 2 → (w.setCell ⟨M + 2, 0, none⟩ (.int .i64 x)).heap[k]? = w.heap[k]? := fun k hk => Deep.blk_setCell_other w ⟨M + 2, 0, none⟩ _ k hk
  exact ⟨by simp; exact h.size, (ne _ (by omega)).trans h.b0, (ne _ (by omega)).trans h.b1, Joins.block_setCell h.b2 _, (ne _ (by omega)).trans h.b3, (ne _ (by omega)).trans h.b4, (ne _ (by omega)).trans h.b5, isB_low h.b6 (by omega)⟩
theorem BxC.set_z {M : Nat} {s : ByteArray} {st : BxSt} {w : World} (h : BxC M s st w) (x : Int) : BxC M s { st with z := x } (w.setCell ⟨M + 3, 0, none⟩ (.int .i64 x)) := by
  have ne : ∀ k, k ≠ M + 3 → (w.setCell ⟨M + 3, 0, none⟩ (.int .i64 x)).heap[k]? = w.heap[k]? := fun k hk => Deep.blk_setCell_other w ⟨M + 3, 0, none⟩ _ k hk
  exact ⟨by simp; exact h.size, (ne _ (by omega)).trans h.b0, (ne _ (by omega)).trans h.b1, (ne _ (by omega)).trans h.b2, Joins.block_setCell h.b3 _, (ne _ (by omega)).trans h.b4, (ne _ (by omega)).trans h.b5, isB_low h.b6 (by omega)⟩
theorem BxC.set_remark {M : Nat} {s : ByteArray} {st : BxSt} {w : World} (h : BxC M s st w) (x : List UInt8) : BxC M s { st with remark := x } (w.setCell ⟨M + 4, 0, none⟩ (.string ⟨x.toArray⟩)) := by
  have ne : ∀ k, k ≠ M + 4 → (w.setCell ⟨M + 4, 0, none⟩ (.string ⟨x.toArray⟩)).heap[k]? = w.heap[k]? := fun k hk => Deep.blk_setCell_other w ⟨M + 4, 0, none⟩ _ k hk
  exact ⟨by simp; exact h.size, (ne _ (by omega)).trans h.b0, (ne _ (by omega)).trans h.b1, (ne _ (by omega)).trans h.b2, (ne _ (by omega)).trans h.b3, Joins.block_setCell h.b4 _, (ne _ (by omega)).trans h.b5, isB_low h.b6 (by omega)⟩
theorem BxC.set_found {M : Nat} {s : ByteArray} {st : BxSt} {w : World} (h : BxC M s st w) (x : Bool) : BxC M s { st with found := x } (w.setCell ⟨M + 5, 0, none⟩ (.bool x)) := by
  have ne : ∀ k, k ≠ M + 5 → (w.setCell ⟨M + 5, 0, none⟩ (.bool x)).heap[k]? = w.heap[k]? := fun k hk => Deep.blk_setCell_other w ⟨M + 5, 0, none⟩ _ k hk
  exact ⟨by simp; exact h.size, (ne _ (by omega)).trans h.b0, (ne _ (by omega)).trans h.b1, (ne _ (by omega)).trans h.b2, (ne _ (by omega)).trans h.b3, (ne _ (by omega)).trans h.b4, Joins.block_setCell h.b5 _, isB_low h.b6 (by omega)⟩
theorem BxC.below {M : Nat} {s : ByteArray} {st : BxSt} {w w' : World} (h : BxC M s st w) (hb : Below w.heap.size w w') : BxC M s st w' := by
  have key : ∀ k, k < M + 7 → w'.heap[k]? = w.heap[k]? := fun k hk => hb.block k (by have := h.size; omega)
  exact ⟨Nat.le_trans h.size hb.size, (key _ (by omega)).trans h.b0, (key _ (by omega)).trans h.b1, (key _ (by omega)).trans h.b2, (key _ (by omega)).trans h.b3, (key _ (by omega)).trans h.b4, (key _ (by omega)).trans h.b5, isB_below h.b6 hb⟩
theorem BxC.write {M : Nat} {s : ByteArray} {st : BxSt} {w w' : World} {l : List UInt8} (h : BxC M s st w) (hb : Below (M + 6) w w') (hi : IsBuilderF 48 5 (M + 6) (M + 6) (byteCells l) w') : BxC M s { st with rest := l } w' := by
  have key : ∀ k, k < M + 6 → w'.heap[k]? = w.heap[k]? := fun k hk => hb.block k hk
  exact ⟨Nat.le_trans h.size hb.size, (key _ (by omega)).trans h.b0, (key _ (by omega)).trans h.b1, (key _ (by omega)).trans h.b2, (key _ (by omega)).trans h.b3, (key _ (by omega)).trans h.b4, (key _ (by omega)).trans h.b5, hi⟩
theorem write_c (M : Nat) (s : ByteArray) (st : BxSt) (x : ByteArray) (W : World) (h : BxC M s st W) (hl : st.rest.length + x.size ≤ 100000000000000) :
    Calls Tryz.prog 41 #[.pointer (some ⟨M + 6, 0, none⟩), .string x] W fun e w' => e = .returned (.tuple #[.int .i64 x.size, .nilIface]) ∧ (BxC M s { st with rest := st.rest ++ x.data.toList } w' ∧ Below M W w') := by
  refine (Bld.WriteString_k _ _ _ x W h.b6 (by rw [byteCells_length]; omega) (by have := h.size; omega)).mono ?_
  rintro e w' ⟨rfl, k1, k2, _⟩
  exact ⟨rfl, h.write k2 (by rw [byteCells_append]; exact k1), Joins.below_le k2 (by omega)⟩
theorem grow_in {s : ByteArray} {i : Nat} {st : BxSt} (h : BxIn s i st) (n : Nat) : BxIn s (i + n) st := by
  refine ⟨h.a.imp (fun h => h) (fun ⟨f, h, h2, h3⟩ => ⟨f, h, by omega, h3⟩), h.z.imp (fun h => h) (fun ⟨f, t, h, h2, h3, h4, h5⟩ => ⟨f, t, h, h2, h3, by omega, h5⟩), ?_, ?_⟩
  · have := h.remark; omega
  · have := h.rest; omega
set_option maxRecDepth 100000 in
set_option maxHeartbeats 8000000 in
theorem box1_c (M : Nat) (s : ByteArray) (hs : s.size ≤ 11000000) (i : Nat) (st : BxSt) (c : UInt8) (r : List UInt8) (n : Nat) (b : Bool) (hn : 1 ≤ n) (hnr : n ≤ r.length + 1) (hb2 : b = true → 2 ≤ n) (w : World) (hc : s.data.toList.drop i = c :: r) (hK : BxK M s i st w) :
    Calls Tryz.prog 39 #[.int .i64 (i : Int), .int .i64 (n : Int), .bool b, .pointer (some ⟨M, 0, none⟩), .pointer (some ⟨M + 2, 0, none⟩), .pointer (some ⟨M + 3, 0, none⟩), .pointer (some ⟨M + 5, 0, none⟩), .pointer (some ⟨M + 4, 0, none⟩), .pointer (some ⟨M + 6, 0, none⟩)] w
      fun e w' => e = .returned (.tuple #[]) ∧ BxK M s (i + n) (bxStep s st i n b) w' ∧ Below M w w' := by
  obtain ⟨hC, hI⟩ := hK
  have hl : s.data.toList.length = s.size := by simp
  have hlen := congrArg List.length hc
  rw [List.length_drop, hl, List.length_cons] at hlen
  have hlt : i < s.size := by omega
  have hsc : s[i] = c := by
    have e := List.drop_eq_getElem_cons (l := s.data.toList) (i := i) (by rw [hl]; exact hlt)
    rw [hc] at e
    injection e with e1 _
    exact e1.symm
  have hlti : (i : Int) < (s.size : Int) := by omega
  have hin : (i : Int) + (n : Int) ≤ (s.size : Int) := by omega
  have hin0 : (i : Int) ≤ (i : Int) + (n : Int) := by omega
  have hin2 : ((i : Int) + (n : Int)).toNat = i + n := by omega
  have hiB : i ≤ 11000000 := by omega
  have hnB : n ≤ 11000000 := by omega
  obtain ⟨X, hX⟩ : ∃ X, s.extract i (i + n) = X := ⟨_, rfl⟩
  have hXd : X.data.toList = (c :: r).take n := by rw [← hX, extract_list, List.drop_take, hc]; congr 1; omega
  have hXz : X.size = n := by rw [← hX]; simp; omega
  have hst : bxStep s st i n b = if c = 60 ∧ st.a < 0 then { st with a := (i : Int), rest := st.rest ++ X.data.toList }
    else if c = 62 ∧ ¬ st.a < 0 ∧ st.z < 0 then { st with z := (i : Int), rest := st.rest ++ X.data.toList }
    else if c = 40 then (if st.found = true then st else { st with remark := innerL X.data.toList b, found := true })
    else { st with rest := st.rest ++ X.data.toList } := by
    unfold bxStep; rw [hc, hXd]
  have hrl := hI.rest
  have hz1 := hI.z
  have ha1 := hI.a
  have hXl : X.data.toList.length = n := by rw [← hXz]; simp
  have wfin : ∀ (st' : BxSt), (st'.a = st.a ∨ st'.a = (i : Int) ∧ st.a < 0) → (st'.z = st.z ∨ st'.z = (i : Int) ∧ ¬ st.a < 0 ∧ st'.a = st.a) → st'.remark = st.remark → st'.rest = st.rest ++ X.data.toList → BxIn s (i + n) st' := by
    intro st' e1 e2 e3 e4
    refine ⟨?_, ?_, by rw [e3]; have := hI.remark; omega, by rw [e4, List.length_append, hXl]; omega⟩
    · rcases e1 with e1 | ⟨e1, _⟩
      · rw [e1]; rcases ha1 with h | ⟨f, h, h2, h3⟩
        · exact .inl h
        · exact .inr ⟨f, h, by omega, h3⟩
      · exact .inr ⟨i, e1, by omega, hlt⟩
    · rcases e2 with e2 | ⟨e2, e3, e4⟩
      · rw [e2]; rcases hz1 with h | ⟨f, t, h, h2, h3, h4, h5⟩
        · exact .inl h
        · rcases e1 with e1 | ⟨e1, e5⟩
          · exact .inr ⟨f, t, by rw [e1]; exact h, h2, h3, by omega, h5⟩
          · omega
      · rcases ha1 with h | ⟨f, h, h2, h3⟩
        · omega
        · exact .inr ⟨f, i, by rw [e4]; exact h, e2, h2, by omega, hlt⟩
  have WFIN := Lib.hid wfin
  have c0 := Joins.cell_of_block hC.b0 0
  have c2 := Joins.cell_of_block hC.b2 0
  have c3 := Joins.cell_of_block hC.b3 0
  have c4 := Joins.cell_of_block hC.b4 0
  have c5 := Joins.cell_of_block hC.b5 0
  have u2 := Joins.unfrozen_of_block hC.b2 0
  have u3 := Joins.unfrozen_of_block hC.b3 0
  have u4 := Joins.unfrozen_of_block hC.b4 0
  have u5 := Joins.unfrozen_of_block hC.b5 0
  simp at c0 c2 c3 c4 c5
  have hM := hC.size
  have hbig : st.rest.length + X.size ≤ 100000000000000 := by omega
  have HST := Lib.hid hst; have HC := Lib.hid hC; have HI := Lib.hid hI; have HXD := Lib.hid hXd; have HXZ := Lib.hid hXz; have HXL := Lib.hid hXl
  clear wfin hst hC hI hXd hXz hXl hc hl hz1 ha1 hlen
  by_cases h60 : c = 60
  · subst h60
    by_cases ha : st.a < 0
    · have han : ¬ 0 ≤ st.a := by omega
      have HE : Hid (bxStep s st i n b = { { st with a := (i : Int) } with rest := ({ st with a := (i : Int) }).rest ++ X.data.toList }) := Lib.hid (by rw [HST.out]; rw [if_pos ⟨rfl, ha⟩])
      go_enter Tryz.func39, Tryz.ntmps39
      go_wp2_with (go_at_call 41; refine (write_c M s ({ st with a := (i : Int) }) X _ (HC.out.set_a (i : Int)) hbig).mono ?_; rintro e W1 ⟨rfl, k1, k2⟩; have K1 := Lib.hid k1; have K2 := Lib.hid (((Below.refl M w).setCell (p := ⟨M + 2, 0, none⟩) (by show M ≤ M + 2; omega) _).trans k2); clear k1 k2)
      go_end0
      rw [HE.out]
      exact ⟨rfl, ⟨K1.out, WFIN.out _ (.inr ⟨rfl, ha⟩) (.inl rfl) rfl rfl⟩, K2.out⟩
    · have han : 0 ≤ st.a := by omega
      have HE : Hid (bxStep s st i n b = { st with rest := (st).rest ++ X.data.toList }) := Lib.hid (by rw [HST.out]; rw [if_neg (fun h => ha h.2), if_neg (fun h => absurd h.1 (by decide)), if_neg (by decide)])
      go_enter Tryz.func39, Tryz.ntmps39
      go_wp2_with (go_at_call 41; refine (write_c M s (st) X _ (HC.out) hbig).mono ?_; rintro e W1 ⟨rfl, k1, k2⟩; have K1 := Lib.hid k1; have K2 := Lib.hid (k2); clear k1 k2)
      go_end0
      rw [HE.out]
      exact ⟨rfl, ⟨K1.out, WFIN.out _ (.inl rfl) (.inl rfl) rfl rfl⟩, K2.out⟩
  · by_cases h62 : c = 62
    · subst h62
      by_cases ha : st.a < 0
      · have han : ¬ 0 ≤ st.a := by omega
        have HE : Hid (bxStep s st i n b = { st with rest := (st).rest ++ X.data.toList }) := Lib.hid (by rw [HST.out]; rw [if_neg (fun h => absurd h.1 (by decide)), if_neg (fun h => h.2.1 ha), if_neg (by decide)])
        go_enter Tryz.func39, Tryz.ntmps39
        go_wp2_with (go_at_call 41; refine (write_c M s (st) X _ (HC.out) hbig).mono ?_; rintro e W1 ⟨rfl, k1, k2⟩; have K1 := Lib.hid k1; have K2 := Lib.hid (k2); clear k1 k2)
        go_end0
        rw [HE.out]
        exact ⟨rfl, ⟨K1.out, WFIN.out _ (.inl rfl) (.inl rfl) rfl rfl⟩, K2.out⟩
      · have han : 0 ≤ st.a := by omega
        by_cases hz : st.z < 0
        · have HE : Hid (bxStep s st i n b = { { st with z := (i : Int) } with rest := ({ st with z := (i : Int) }).rest ++ X.data.toList }) := Lib.hid (by rw [HST.out]; rw [if_neg (fun h => absurd h.1 (by decide)), if_pos ⟨rfl, ha, hz⟩])
          go_enter Tryz.func39, Tryz.ntmps39
          go_wp2_with (go_at_call 41; refine (write_c M s ({ st with z := (i : Int) }) X _ (HC.out.set_z (i : Int)) hbig).mono ?_; rintro e W1 ⟨rfl, k1, k2⟩; have K1 := Lib.hid k1; have K2 := Lib.hid (((Below.refl M w).setCell (p := ⟨M + 3, 0, none⟩) (by show M ≤ M + 3; omega) _).trans k2); clear k1 k2)
          go_end0
          rw [HE.out]
          exact ⟨rfl, ⟨K1.out, WFIN.out _ (.inl rfl) (.inr ⟨rfl, ha, rfl⟩) rfl rfl⟩, K2.out⟩
        · have HE : Hid (bxStep s st i n b = { st with rest := (st).rest ++ X.data.toList }) := Lib.hid (by rw [HST.out]; rw [if_neg (fun h => absurd h.1 (by decide)), if_neg (fun h => hz h.2.2), if_neg (by decide)])
          go_enter Tryz.func39, Tryz.ntmps39
          go_wp2_with (go_at_call 41; refine (write_c M s (st) X _ (HC.out) hbig).mono ?_; rintro e W1 ⟨rfl, k1, k2⟩; have K1 := Lib.hid k1; have K2 := Lib.hid (k2); clear k1 k2)
          go_end0
          rw [HE.out]
          exact ⟨rfl, ⟨K1.out, WFIN.out _ (.inl rfl) (.inl rfl) rfl rfl⟩, K2.out⟩
    · by_cases h40 : c = 40
      · subst h40
        have e0 : st.found = true ∨ st.found = false := by cases st.found <;> simp
        rcases e0 with hf | hf
        · have HE : Hid (bxStep s st i n b = st) := Lib.hid (by rw [HST.out, if_neg (fun h => absurd h.1 (by decide)), if_neg (fun h => absurd h.1 (by decide)), if_pos rfl, if_pos hf])
          rw [hf] at c5
          go_enter Tryz.func39, Tryz.ntmps39
          go_wp2
          refine bodyPost_ret (results_none rfl _ _ _) rfl ?_
          rw [HE.out]
          exact ⟨rfl, ⟨HC.out, grow_in HI.out n⟩, Below.refl M w⟩
        · have HE : Hid (bxStep s st i n b = { st with remark := innerL X.data.toList b, found := true }) := Lib.hid (by rw [HST.out, if_neg (fun h => absurd h.1 (by decide)), if_neg (fun h => absurd h.1 (by decide)), if_pos rfl, if_neg (by rw [hf]; decide)])
          rw [hf] at c5
          have hX1 : 1 ≤ X.size := by rw [HXZ.out]; exact hn
          have hX2 : b = true → 2 ≤ X.size := by rw [HXZ.out]; exact hb2
          have hXs : X.size ≤ 11000000 := by rw [HXZ.out]; exact hnB
          have HIN := Lib.hid (fun W => inner_c X b hXs hX1 hX2 W)
          have hil := innerL_len X.data.toList b
          rw [HXL.out] at hil
          have HIL := Lib.hid hil
          clear hX1 hX2 hXs hil hb2
          go_enter Tryz.func39, Tryz.ntmps39
          go_wp2_with (go_at_call 40; refine (HIN.out _).mono ?_; rintro e W1 ⟨rfl, k2⟩; have B1 := Lib.hid k2; have C1 := HC.out.below k2; have v4 := Joins.unfrozen_of_block C1.b4 0; have v5 := Joins.unfrozen_of_block C1.b5 0; have d4 := Joins.cell_of_block C1.b4 0; have d5 := Joins.cell_of_block C1.b5 0; simp at d4 d5; have hs1 := k2.size; have HC1 := Lib.hid C1; clear k2 C1)
          refine bodyPost_ret (results_none rfl _ _ _) rfl ?_
          rw [HE.out]
          refine ⟨rfl, ⟨((HC1.out.set_remark (innerL X.data.toList b)).set_found true), HI.out.a.imp (fun h => h) (fun ⟨f, h, h2, h3⟩ => ⟨f, h, by omega, h3⟩), HI.out.z.imp (fun h => h) (fun ⟨f, t, h, h2, h3, h4, h5⟩ => ⟨f, t, h, h2, h3, by omega, h5⟩), ?_, ?_⟩, ?_⟩
          · show (innerL X.data.toList b).length ≤ _
            have := HIL.out
            omega
          · show st.rest.length ≤ _
            omega
          · exact ((B1.out.mono (by omega)).setCell (p := ⟨M + 4, 0, none⟩) (by show M ≤ M + 4; omega) _).setCell (p := ⟨M + 5, 0, none⟩) (by show M ≤ M + 5; omega) _
      · have HE : Hid (bxStep s st i n b = { st with rest := (st).rest ++ X.data.toList }) := Lib.hid (by rw [HST.out]; rw [if_neg (fun h => h60 h.1), if_neg (fun h => h62 h.1), if_neg h40])
        have e1 : ((c.toNat : Int) == 60) = false := u8f h60 (by decide)
        have e2 : ((c.toNat : Int) == 62) = false := u8f h62 (by decide)
        have e3 : ((c.toNat : Int) == 40) = false := u8f h40 (by decide)
        clear h60 h62 h40
        go_enter Tryz.func39, Tryz.ntmps39
        go_wp2_with (go_at_call 41; refine (write_c M s (st) X _ (HC.out) hbig).mono ?_; rintro e W1 ⟨rfl, k1, k2⟩; have K1 := Lib.hid k1; have K2 := Lib.hid (k2); clear k1 k2)
        go_end0
        rw [HE.out]
        exact ⟨rfl, ⟨K1.out, WFIN.out _ (.inl rfl) (.inl rfl) rfl rfl⟩, K2.out⟩
end Go.Proofs.YtpcncpegbboljaaGreatDoor.Addr
namespace Go.Proofs
open Go.Shelf
def Tryz.lays105_ren : Go.Shelf.Ren := ⟨fun | 105 => 88 | 212 => 111 | 99 => 112 | 165 => 60 | 166 => 41 | 170 => 113 | 169 => 36 | 263 => 135 | 264 => 136 | 206 => 137 | 240 => 64 | 241 => 92 | 276 => 94 | 277 => 120 | n => n, fun | 9 => 9 | 3 => 3 | 4 => 4 | 20 => 20 | 0 => 0 | 46 => 115 | 109 => 120 | 5 => 5 | 72 => 48 | 76 => 51 | 51 => 69 | 146 => 140 | 53 => 143 | 148 => 144 | 70 => 46 | 37 => 45 | 75 => 50 | 127 => 86 | 164 => 108 | 80 => 53 | n => n, fun | n => n⟩
theorem Tryz.lays105 : Go.Proofs.Lays.n105 Tryz.prog Tryz.lays105_ren := {
  mixed := by kernel_rfl
  f99 := Tryz.func112.trans (congrArg some (by kernel_rfl))
  f105 := Tryz.func88.trans (congrArg some (by kernel_rfl))
  f165 := Tryz.func60.trans (congrArg some (by kernel_rfl))
  f166 := Tryz.func41.trans (congrArg some (by kernel_rfl))
  f169 := Tryz.func36.trans (congrArg some (by kernel_rfl))
  f170 := Tryz.func113.trans (congrArg some (by kernel_rfl))
  f206 := Tryz.func137.trans (congrArg some (by kernel_rfl))
  f212 := Tryz.func111.trans (congrArg some (by kernel_rfl))
  f240 := Tryz.func64.trans (congrArg some (by kernel_rfl))
  f241 := Tryz.func92.trans (congrArg some (by kernel_rfl))
  f263 := Tryz.func135.trans (congrArg some (by kernel_rfl))
  f264 := Tryz.func136.trans (congrArg some (by kernel_rfl))
  f276 := Tryz.func94.trans (congrArg some (by kernel_rfl))
  f277 := Tryz.func120.trans (congrArg some (by kernel_rfl))
  t0 := Tryz.underlying0
  a0 := Tryz.isAgg0
  z0 := Tryz.sizeOf0
  v0 := Tryz.zeroValue0
  t3 := Tryz.underlying3
  a3 := Tryz.isAgg3
  z3 := Tryz.sizeOf3
  v3 := Tryz.zeroValue3
  t4 := Tryz.underlying4
  a4 := Tryz.isAgg4
  z4 := Tryz.sizeOf4
  v4 := Tryz.zeroValue4
  t5 := Tryz.underlying5
  a5 := Tryz.isAgg5
  z5 := Tryz.sizeOf5
  v5 := Tryz.zeroValue5
  t9 := Tryz.underlying9
  a9 := Tryz.isAgg9
  z9 := Tryz.sizeOf9
  v9 := Tryz.zeroValue9
  t20 := Tryz.underlying20
  a20 := Tryz.isAgg20
  z20 := Tryz.sizeOf20
  v20 := Tryz.zeroValue20
  t37 := Tryz.underlying45
  a37 := Tryz.isAgg45
  z37 := Tryz.sizeOf45
  v37 := Tryz.zeroValue45
  t46 := Tryz.underlying115
  a46 := Tryz.isAgg115
  z46 := Tryz.sizeOf115
  v46 := Tryz.zeroValue115
  t51 := Tryz.underlying69
  a51 := Tryz.isAgg69
  z51 := Tryz.sizeOf69
  v51 := Tryz.zeroValue69
  t53 := Tryz.underlying143
  a53 := Tryz.isAgg143
  z53 := Tryz.sizeOf143
  v53 := Tryz.zeroValue143
  t70 := Tryz.underlying46
  a70 := Tryz.isAgg46
  z70 := Tryz.sizeOf46
  v70 := Tryz.zeroValue46
  t72 := Tryz.underlying48
  a72 := Tryz.isAgg48
  z72 := Tryz.sizeOf48
  v72 := Tryz.zeroValue48
  t75 := Tryz.underlying50
  a75 := Tryz.isAgg50
  z75 := Tryz.sizeOf50
  v75 := Tryz.zeroValue50
  t76 := Tryz.underlying51
  a76 := Tryz.isAgg51
  z76 := Tryz.sizeOf51
  v76 := Tryz.zeroValue51
  t109 := Tryz.underlying120
  a109 := Tryz.isAgg120
  z109 := Tryz.sizeOf120
  v109 := Tryz.zeroValue120
  t127 := Tryz.underlying86
  a127 := Tryz.isAgg86
  z127 := Tryz.sizeOf86
  v127 := Tryz.zeroValue86
  t146 := Tryz.underlying140
  a146 := Tryz.isAgg140
  z146 := Tryz.sizeOf140
  v146 := Tryz.zeroValue140
  t148 := Tryz.underlying144
  a148 := Tryz.isAgg144
  z148 := Tryz.sizeOf144
  v148 := Tryz.zeroValue144
  t164 := Tryz.underlying108
  a164 := Tryz.isAgg108
  z164 := Tryz.sizeOf108
  v164 := Tryz.zeroValue108 }
theorem Tryz.Builder_Extra_105 : Builder.Extra Tryz.prog Tryz.lays105_ren := {
  sizeBuilder := by kernel_rfl
  liesBuilder := by kernel_rfl
  t5 := Tryz.underlying5
  a5 := Tryz.isAgg5
  z5 := Tryz.sizeOf5
  v5 := Tryz.zeroValue5
  infoByte := by kernel_rfl
  cellsByte := by kernel_rfl
  sizeByte := by kernel_rfl
  neB5 := by decide }
open Go.RowKit Go.Lib in
theorem Tryz.strings_Repeat_main (s : ByteArray) (c : Nat) (w : World) (hc2 : 2 ≤ c) (hc : c ≤ 9223372036854775807) (hlen : s.size * c ≤ 140737488355328) (h0 : 0 < s.size) :
    Calls Tryz.prog 88 #[.string s, .int .i64 c] w fun e w' => e = .returned (.string ⟨(Lib.repeatL s.data.toList c).toArray⟩) ∧ Below w.heap.size w w' := Any.strings_Repeat_main Tryz.lays105 Tryz.Builder_Extra_105 s c w hc2 hc hlen h0
open Go.RowKit Go.Lib in
theorem Tryz.strings_Repeat_zero (s : ByteArray) (w : World) :
    Calls Tryz.prog 88 #[.string s, .int .i64 0] w fun e w' => e = .returned (.string ⟨#[]⟩) ∧ w' = w := Any.strings_Repeat_zero Tryz.lays105 s w
open Go.RowKit Go.Lib in
theorem Tryz.strings_Repeat_one (s : ByteArray) (w : World) :
    Calls Tryz.prog 88 #[.string s, .int .i64 1] w fun e w' => e = .returned (.string s) ∧ w' = w := Any.strings_Repeat_one Tryz.lays105 s w
end Go.Proofs
namespace Go.Proofs.YtpcncpegbboljaaGreatDoor.B64
open Go.RowKit Go.Lib Go.Proofs.YtpcncpegbboljaaGreatDoor Go.Proofs.YtpcncpegbboljaaGreatDoor.Row
set_option linter.unusedVariables false
set_option linter.unusedSimpArgs false
structure Gat (M : Nat) (F T : Int) (ov : Value) (all bits : Int) (w : World) : Prop where
  b0 : w.heap[M]? = some (.cells #[.int .i64 F] 3 (0, 0))
  b1 : w.heap[M + 1]? = some (.cells #[.int .i64 T] 3 (0, 0))
  b2 : w.heap[M + 2]? = some (.cells #[ov] 83 (0, 0))
  b3 : w.heap[M + 3]? = some (.cells #[.int .i64 all] 3 (0, 0))
  b4 : w.heap[M + 4]? = some (.cells #[.int .i64 bits] 3 (0, 0))
theorem Gat.kept {M : Nat} {F T : Int} {ov : Value} {all bits : Int} {w w' : World} {E : Nat} (h : Gat M F T ov all bits w) (hE : E < M) (hk : OthersKept 5 (some E) w w') : Gat M F T ov all bits w' := by
  have key : ∀ k (cs : Array Value) t, t ≠ 5 → E < k → w.heap[k]? = some (.cells cs t (0, 0)) → w'.heap[k]? = some (.cells cs t (0, 0)) := by
    intro k cs t ht hk1 h1
    refine hk k _ h1 (by simp <;> omega) ?_
    intro c fz e
    injection e with _ e2 _
    exact ht e2
  exact ⟨key _ _ _ (by decide) (by omega) h.b0, key _ _ _ (by decide) (by omega) h.b1, key _ _ _ (by decide) (by omega) h.b2, key _ _ _ (by decide) (by omega) h.b3, key _ _ _ (by decide) (by omega) h.b4⟩
theorem Gat.drewN {M : Nat} {F T : Int} {ov : Value} {all bits : Int} {w : World} (h : Gat M F T ov all bits w) (n : Nat) : Gat M F T ov all bits (w.drewN n) := ⟨h.b0, h.b1, h.b2, h.b3, h.b4⟩
abbrev gatV (M : Nat) : Value := .func (.func 110) #[] #[.pointer (some ⟨M + 3, 0, none⟩), .pointer (some ⟨M, 0, none⟩), .pointer (some ⟨M + 4, 0, none⟩), .pointer (some ⟨M + 1, 0, none⟩), .pointer (some ⟨M + 2, 0, none⟩)]
theorem al_new (w : World) (o : Obj) : (w.alloc o).heap[w.heap.size]? = some o := by
  exact Deep.blk_alloc_new w o
theorem al_new1 (w : World) (o : Obj) (k : Nat) (h : k = w.heap.size) : (w.alloc o).heap[k]? = some o := by subst h; exact al_new w o
abbrev outV (g E : Nat) : Value := .func (.func g) #[] #[.pointer (some ⟨E, 0, none⟩)]
set_option maxRecDepth 100000 in
set_option maxHeartbeats 4000000 in
theorem gather_c (F T : Int) (g E : Nat) (w : World) :
    Calls Tryz.prog 86 #[.int .i64 F, .int .i64 T, outV g E] w fun e w' => e = .returned (gatV w.heap.size) ∧ Below w.heap.size w w' ∧ Gat w.heap.size F T (outV g E) 0 0 w' ∧ OthersKept 5 none w w' ∧ w'.heap.size = w.heap.size + 5 := by
  have hmf : ∀ (fn : Fn) (first cap : Array Value) (w : World), (Instr.makeFunc fn first cap).run Tryz.prog w = .ok (.func fn first cap) w := fun _ _ _ _ => rfl
  unfold outV
  go_enter Tryz.func86, Tryz.ntmps86
  go_wp2_with fail
  go_ret
  have old : ∀ (v : World) (o : Obj) (k : Nat) x, k < v.heap.size → v.heap[k]? = some x → (v.alloc o).heap[k]? = some x := fun v o k x hk h => (Below.heap_alloc v o k hk).trans h
  refine ⟨rfl, ((((((Below.refl _ w).alloc (Nat.le_refl _) _).alloc (by simp) _).alloc (by simp <;> omega) _).alloc (by simp <;> omega) _).alloc (by simp <;> omega) _), ⟨?_, ?_, ?_, ?_, ?_⟩, ((((((OthersKept.refl _ _ w).alloc _).alloc _).alloc _).alloc _).alloc _), by simp⟩
  · exact old _ _ _ _ (by simp <;> omega) (old _ _ _ _ (by simp <;> omega) (old _ _ _ _ (by simp <;> omega) (old _ _ _ _ (by simp) (al_new1 _ _ _ rfl))))
  · exact old _ _ _ _ (by simp <;> omega) (old _ _ _ _ (by simp <;> omega) (old _ _ _ _ (by simp) (al_new1 _ _ _ (by simp))))
  · exact old _ _ _ _ (by simp <;> omega) (old _ _ _ _ (by simp) (al_new1 _ _ _ (by simp)))
  · exact old _ _ _ _ (by simp) (al_new1 _ _ _ (by simp))
  · exact al_new1 _ _ _ (by simp)
structure Sink (B E g T : Nat) (K : List Nat → World → Prop) (L : Nat) : Prop where
  call : ∀ (l : List Nat) (n : Nat) (w : World), K l w → n < 2 ^ T → l.length ≤ L → B ≤ w.heap.size →
    Calls Tryz.prog g #[.int .i64 (n : Int), .pointer (some ⟨E, 0, none⟩)] w fun e w' => e = .returned (.tuple #[]) ∧ K (l ++ [n]) w' ∧ Below B w w' ∧ OthersKept 5 (some E) w w'
  set : ∀ (l : List Nat) (w : World) (k : Nat) (cs : Array Value) (v : Value), K l w → k ≠ E → w.heap[k]? = some (.cells cs 3 (0, 0)) → K l (w.setCell ⟨k, 0, none⟩ v)
  drew : ∀ (l : List Nat) (w : World) (n : Nat), K l w → K l (w.drewN n)
theorem Gat.setAll {M : Nat} {F T : Int} {ov : Value} {all bits : Int} {w : World} (h : Gat M F T ov all bits w) (x : Int) : Gat M F T ov x bits (w.setCell ⟨M + 3, 0, none⟩ (.int .i64 x)) := by
  have ne : ∀ k, k ≠ M + 3 → (w.setCell ⟨M + 3, 0, none⟩ (.int .i64 x)).heap[k]? = w.heap[k]? := fun k hk => Deep.blk_setCell_other w ⟨M + 3, 0, none⟩ _ k hk
  refine ⟨(ne _ (by omega)).trans h.b0, (ne _ (by omega)).trans h.b1, (ne _ (by omega)).trans h.b2, ?_, (ne _ (by omega)).trans h.b4⟩
  exact Joins.block_setCell h.b3 _
theorem Gat.setBits {M : Nat} {F T : Int} {ov : Value} {all bits : Int} {w : World} (h : Gat M F T ov all bits w) (x : Int) : Gat M F T ov all x (w.setCell ⟨M + 4, 0, none⟩ (.int .i64 x)) := by
  have ne : ∀ k, k ≠ M + 4 → (w.setCell ⟨M + 4, 0, none⟩ (.int .i64 x)).heap[k]? = w.heap[k]? := fun k hk => Deep.blk_setCell_other w ⟨M + 4, 0, none⟩ _ k hk
  refine ⟨(ne _ (by omega)).trans h.b0, (ne _ (by omega)).trans h.b1, (ne _ (by omega)).trans h.b2, (ne _ (by omega)).trans h.b3, ?_⟩
  exact Joins.block_setCell h.b4 _
theorem wraps_i64 (n : Int) (h0 : 0 ≤ n) (h1 : n < 2 ^ 62) : IntKind.i64.wrap n = n := by rw [IntKind.wrap_i64]; omega
theorem orand6 (a n : Nat) (ha : a < 65536) (hn : n < 2 ^ 6) : bits BinOp.and .i64 (bits BinOp.or .i64 ((a : Int) * 64) (n : Int)) 65535 = (((a * 2 ^ 6 + n) % 65536 : Nat) : Int) := by
  have e1 : (a : Int) * 64 = ((a * 64 : Nat) : Int) := by omega
  rw [e1, (bits_nat .i64 62 (by decide) wraps_i64 (a * 64) n (by omega) (by omega)).2, nat_join 6 _ _ (by omega) (by omega)]
  have := bits_mask .i64 62 (by decide) wraps_i64 16 (by decide) ((a * 64 + n : Nat) : Int) (by omega) (by omega)
  rw [show ((2 : Int) ^ 16 - 1) = 65535 by decide] at this
  rw [this]
  omega
theorem orand8 (a n : Nat) (ha : a < 65536) (hn : n < 2 ^ 8) : bits BinOp.and .i64 (bits BinOp.or .i64 ((a : Int) * 256) (n : Int)) 65535 = (((a * 2 ^ 8 + n) % 65536 : Nat) : Int) := by
  have e1 : (a : Int) * 256 = ((a * 256 : Nat) : Int) := by omega
  rw [e1, (bits_nat .i64 62 (by decide) wraps_i64 (a * 256) n (by omega) (by omega)).2, nat_join 8 _ _ (by omega) (by omega)]
  have := bits_mask .i64 62 (by decide) wraps_i64 16 (by decide) ((a * 256 + n : Nat) : Int) (by omega) (by omega)
  rw [show ((2 : Int) ^ 16 - 1) = 65535 by decide] at this
  rw [this]
  omega
def emit (T a : Nat) : Nat → Nat → List Nat
  | 0, _ => []
  | k + 1, b => if T ≤ b then (a / 2 ^ (b - T)) % 2 ^ T :: emit T a k (b - T) else []
end Go.Proofs.YtpcncpegbboljaaGreatDoor.B64
namespace Go.Proofs.YtpcncpegbboljaaGreatDoor.B64
open Go.RowKit Go.Lib Go.Proofs.YtpcncpegbboljaaGreatDoor Go.Proofs.YtpcncpegbboljaaGreatDoor.Row
set_option linter.unusedVariables false
set_option linter.unusedSimpArgs false
set_option maxRecDepth 100000 in
set_option maxHeartbeats 8000000 in
theorem gat8_c (B E M L : Nat) (K : List Nat → World → Prop) (S : Sink B E 87 6 K (L + 2)) (l : List Nat) (a b n : Nat) (w : World)
    (hK : K l w) (hG : Gat M 8 6 (outV 87 E) a b w) (ha : a < 65536) (hb : b < 6) (hn : n < 2 ^ 8) (hl : l.length ≤ L) (hE : E < M) (hB : B ≤ E) (hBW : B ≤ w.heap.size) :
    Calls Tryz.prog 110 #[.int .i64 (n : Int), .pointer (some ⟨M + 3, 0, none⟩), .pointer (some ⟨M, 0, none⟩), .pointer (some ⟨M + 4, 0, none⟩), .pointer (some ⟨M + 1, 0, none⟩), .pointer (some ⟨M + 2, 0, none⟩)] w
      fun e w' => e = .returned (.int .i64 (((b + 8) % 6 : Nat) : Int)) ∧ K (l ++ emit 6 ((a * 2 ^ 8 + n) % 65536) 2 (b + 8)) w' ∧ Gat M 8 6 (outV 87 E) (((a * 2 ^ 8 + n) % 65536 : Nat) : Int) (((b + 8) % 6 : Nat) : Int) w' ∧ Below B w w' := by
  have hG : Gat M 8 6 (outV 87 E) a b w := hG
  have c0 := Joins.cell_of_block hG.b0 0
  have c1 := Joins.cell_of_block hG.b1 0
  have c2 := Joins.cell_of_block hG.b2 0
  have c3 := Joins.cell_of_block hG.b3 0
  have c4 := Joins.cell_of_block hG.b4 0
  have u3 := Joins.unfrozen_of_block hG.b3 0
  have u4 := Joins.unfrozen_of_block hG.b4 0
  simp at c0 c1 c2 c3 c4
  go_enter Tryz.func110, Tryz.ntmps110
  go_upto_region 1 with fail
  go_region
  rw [orand8 a n ha hn]
  generalize hAA : (a * 2 ^ 8 + n) % 65536 = A
  have hA : A < 65536 := by omega
  have G2 : Gat M 8 6 (outV 87 E) (A : Int) ((b + 8 : Nat) : Int) (((w.setCell ⟨M + 3, 0, none⟩ (.int .i64 (A : Int))).setCell ⟨M + 4, 0, none⟩ (.int .i64 ((b : Int) + 8))).drew) := by
    rw [show ((b + 8 : Nat) : Int) = (b : Int) + 8 by omega]
    exact (((hG.setAll (A : Int)).setBits ((b : Int) + 8))).drewN 1
  have K2 : K l (((w.setCell ⟨M + 3, 0, none⟩ (.int .i64 (A : Int))).setCell ⟨M + 4, 0, none⟩ (.int .i64 ((b : Int) + 8))).drew) := S.drew _ _ 1 (S.set _ _ _ _ _ (S.set _ _ _ _ _ hK (by omega) hG.b3) (by omega) (hG.setAll (A : Int)).b4)
  have B2 : Below B w (((w.setCell ⟨M + 3, 0, none⟩ (.int .i64 (A : Int))).setCell ⟨M + 4, 0, none⟩ (.int .i64 ((b : Int) + 8))).drew) := (((Below.refl B w).setCell (p := ⟨M + 3, 0, none⟩) (by show B ≤ M + 3; omega) _).setCell (p := ⟨M + 4, 0, none⟩) (by show B ≤ M + 4; omega) _).drew
  generalize World.drew _ = w2 at G2 K2 B2 ⊢
  clear c0 c1 c2 c3 c4 u3 u4 hK hG
  have HS := Lib.hid S
  clear S
  go_wp2
  go_loopw [] (fun wr => ∃ (k b' : Nat) (l' : List Nat), l' ++ emit 6 A k b' = l ++ emit 6 A 2 (b + 8) ∧ b' % 6 = (b + 8) % 6 ∧ b' < (k + 1) * 6 ∧ b' ≤ 13 ∧ l'.length + k ≤ L + 2 ∧ Gat M 8 6 (outV 87 E) (A : Int) (b' : Int) wr ∧ K l' wr ∧ Below B w wr) (fun wr => (RowKit.intOf ((wr.cell? ⟨M + 4, 0, none⟩).getD .nilFunc)).toNat)
  case atStart => exact ⟨2, b + 8, l, rfl, rfl, by omega, by omega, by omega, G2, K2, B2⟩
  case round =>
    obtain ⟨k, b', l', e1, e2, e3, e4, e5, G3, K3, B3⟩ := hrel
    have c1 := Joins.cell_of_block G3.b1 0
    have c2 := Joins.cell_of_block G3.b2 0
    have c3 := Joins.cell_of_block G3.b3 0
    have c4 := Joins.cell_of_block G3.b4 0
    have u4 := Joins.unfrozen_of_block G3.b4 0
    simp at c1 c2 c3 c4
    have HM := Lib.hid c4
    by_cases hT : 6 ≤ b'
    · obtain ⟨k, rfl⟩ : ∃ j, k = j + 1 := ⟨k - 1, by omega⟩
      have hT2 : (6 : Int) ≤ (b' : Int) := by omega
      have G4 : Gat M 8 6 (outV 87 E) (A : Int) ((b' - 6 : Nat) : Int) (wr.setCell ⟨M + 4, 0, none⟩ (.int .i64 ((b' : Int) - 6))) := by
        rw [show ((b' - 6 : Nat) : Int) = (b' : Int) - 6 by omega]
        exact G3.setBits _
      have K4 : K l' (wr.setCell ⟨M + 4, 0, none⟩ (.int .i64 ((b' : Int) - 6))) := HS.out.set _ _ _ _ _ K3 (by omega) G3.b4
      have B4 : Below B w (wr.setCell ⟨M + 4, 0, none⟩ (.int .i64 ((b' : Int) - 6))) := B3.setCell (p := ⟨M + 4, 0, none⟩) (by show B ≤ M + 4; omega) _
      go_upto_region 4 with fail
      obtain ⟨b2, hb2, hb3⟩ : ∃ b2 : Nat, b' = b2 + 6 ∧ b2 ≤ 7 := ⟨b' - 6, by omega, by omega⟩
      subst hb2
      rw [show b2 + 6 - 6 = b2 by omega] at G4
      generalize World.setCell wr _ _ = w4 at G4 K4 B4 ⊢
      clear G3 K3 B3 c1 c2 c3 c4 u4
      have c1 := Joins.cell_of_block G4.b1 0
      have c2 := Joins.cell_of_block G4.b2 0
      have c3 := Joins.cell_of_block G4.b3 0
      have c4 := Joins.cell_of_block G4.b4 0
      simp at c1 c2 c3 c4
      unfold outV at c2
      obtain ⟨q, hq⟩ : ∃ q, q = A / 2 ^ b2 := ⟨_, rfl⟩
      have hq2 : q ≤ A := by rw [hq]; exact Nat.div_le_self _ _
      have e9 : (A : Int) / 2 ^ b2 = (q : Int) := by rw [hq, Int.natCast_ediv]; simp
      have e9b : (A : Int) / 2 ^ b2 % 64 = ((q % 2 ^ 6 : Nat) : Int) := by rw [e9]; omega
      have hx : bits BinOp.and .i64 ((A : Int) / 2 ^ b2) (IntKind.i64.wrap (IntKind.i64.wrap 64 - 1)) = (A : Int) / 2 ^ b2 % 64 := by
        rw [show (IntKind.i64.wrap (IntKind.i64.wrap 64 - 1)) = (2 : Int) ^ 6 - 1 by decide, e9]
        exact bits_mask .i64 62 (by decide) wraps_i64 6 (by decide) (q : Int) (by omega) (by omega)
      have HC := Lib.hid (HS.out.call l' (q % 2 ^ 6) (w4.drew) (HS.out.drew _ _ 1 K4) (Nat.mod_lt _ (by decide)) (by omega) (Nat.le_trans hBW (by simpa using B4.size)))
      have EM : Hid ((l' ++ [q % 2 ^ 6]) ++ emit 6 A k b2 = l ++ emit 6 A 2 (b + 8)) := Lib.hid (by
        rw [← e1]
        have : emit 6 A (k + 1) (b2 + 6) = (A / 2 ^ b2) % 2 ^ 6 :: emit 6 A k b2 := by
          simp only [emit]
          rw [if_pos (by omega), show b2 + 6 - 6 = b2 by omega]
        rw [this, hq, List.append_assoc]
        rfl)
      clear e1
      have E9 := Lib.hid e9b
      have HX := Lib.hid hx
      clear e9 e9b hq hq2 hx
      go_region_with (go_at_call 87; rw [HX.out, E9.out]; refine (HC.out).mono ?_; rintro e w5 ⟨rfl, K5, B5, O5⟩)
      all_goals
        have hG5 : Gat M 8 6 (outV 87 E) (A : Int) (b2 : Int) w5 := (G4.drewN 1).kept hE O5
        have hm5 := Joins.cell_of_block hG5.b4 0
        simp at hm5
        have hm3 := HM.out
        go_wp2_with fail
        go_roundw
        case rel => exact ⟨k, b2, l' ++ [q % 2 ^ 6], EM.out, by omega, by omega, by omega, by simp; omega, hG5, K5, B4.drew.trans B5⟩
        case measure => rw [hm5, hm3]; simp [RowKit.intOf]; omega
    · have hT2 : ¬ (6 : Int) ≤ (b' : Int) := by omega
      go_wp2
      go_ret
      have e6 : emit 6 A k b' = [] := by cases k with
        | zero => rfl
        | succ k => simp only [emit]; rw [if_neg hT]
      rw [e6, List.append_nil] at e1
      subst e1
      have e7 : (b' : Int) = ((b : Int) + 8) % 6 := by omega
      rw [← e7]
      exact ⟨rfl, K3, G3, B3⟩
end Go.Proofs.YtpcncpegbboljaaGreatDoor.B64
