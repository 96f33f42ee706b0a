/- Parts of the proof of the law EntWrites, in one text: Once, Row, Repl, ReplB, Gen, Shelf, ReplC, GenB, GenD, Bld, GenE, Low, Std, Chars, Glob05, C0, C1, Utf, Ev, PureChars, PureKnown, PureDec, Num, EntL, GenF. -/
import Derived.Test.YtkfcbafjcjmfnaaGreatDoorProg
import Derived.Tactics
import Derived.Tactics2
import Derived.Defers
import Derived.Laws.Pointers
import Derived.Laws.LoneSync
import Derived.RegionTactic
import Derived.RegionCalls
import Derived.ChangeAlike
import Derived.WalkKit
import Derived.Lib.Hide
import Derived.Laws.IdiomStrings
import Derived.Lib.UnsafeStr
import Derived.Lib.Builder
import Derived.Below
import Derived.Deep.Draws
import Derived.Laws.Rows
import Derived.Lib.SliceRun
import Derived.OwnWalk
import Derived.Laws.AppendOwn
import Derived.Laws.MakeOwn
import Derived.Laws.OwnMore
import Derived.Laws.BytesArg
import Derived.Laws.CopyOwn
import Derived.Laws.NewBlocks
import Derived.Deep.QuietTactic
import Derived.BigQuiet
import Derived.Deep.LoopGhost
import Derived.Deep.DeepCutAuto
import Derived.Deep.DeepFit
import Derived.LoopTactic
import Derived.WalkSpells
import Derived.IntWalk
import Derived.StillTailTactics
import Derived.Deep.MidRow
import Derived.Deep.RegionHeld3
import Derived.Deep.RegionLaw
import Derived.Shelf.Strings.Builder1
import Derived.Shelf.Strings.Builder2
import Derived.Shelf.Strings.Trim
import Derived.Shelf.Small.Utf8
import Derived.Shelf.Small.Strs
import Derived.Shelf.Small.Wraps
import Derived.Shelf.Strings.BuilderF
import Derived.Shelf.Strings.BuilderK
import Derived.Shelf.Strings.BuilderRune
import Derived.Shelf.Utf8.AppendRune
import Derived.Shelf.Utf8.AppendRunePlain
import Derived.Shelf.Strings.Builder2Cap
import Derived.Shelf.Strconv.Itoa0
import Derived.Shelf.Strconv.Itoa1
import Derived.Shelf.LaysM
import Derived.Shelf.Strconv.Itoa2
import Derived.Shelf.Strconv.Itoa3
import Derived.Shelf.Strconv.Clone
import Derived.Shelf.Strconv.SyntaxError
import Derived.Shelf.LaysC
import Derived.Shelf.Strconv.ToError
import Derived.Shelf.Strconv.Lower
import Derived.Shelf.Strconv.ParseUint10
import Derived.Shelf.Strconv.ParseUint10Empty
import Derived.Shelf.Strconv.ParseUint10Any
import Derived.Shelf.Strconv.RangeError
import Derived.Shelf.Strconv.ToErrorRange
import Derived.Shelf.Strings.Search1
import Derived.Shelf.Strings.Search2
import Derived.Shelf.Strings.Search3
import Derived.Shelf.Strings.Cut
import Derived.Shelf.Strings.Count
import Derived.Shelf.Strings.Shaped
import Derived.Shelf.Strings.Prefix
import Derived.Shelf.Strings.Split
import Derived.Shelf.Strings.Replace
import Derived.Shelf.Strings.SplitShaped
import Derived.Shelf.Strings.Runes
import Derived.Shelf.Strings.AsciiSet
import Derived.Shelf.Unicode.DecodeSlow
import Derived.Shelf.Unicode.DecodeAny
import Derived.Shelf.Unicode.DecodeLast
import Derived.Shelf.Strings.BuilderCap
import Derived.KernelRfl
import Derived.Shelf.Strings.SlTrimAscii
import Derived.Lib.IndexLaws
import Derived.Lib.OthersKept
import Derived.Lib.LaidTab
import Derived.WalkSmall
import Derived.Laws.BitsAllLaws
import Derived.BigCall
import Derived.Deep.AppendLies
import Derived.Maps.AppendAt
import Derived.Deep.OwnRows
import Derived.Lib.ConvBytes
import Derived.Laws.Slices
import Derived.RowKit3
import Derived.WideLaws
import Derived.Deep.CutBlock
import Derived.Lib.AppendStr
import Derived.ArgAppend
import Derived.Laws.IdiomCopy
import Derived.OrdersHeld
import Derived.Laws.BitsLemmas
import Derived.RowKit
import Derived.Test.YtkfcbafjcjmfnaaGreatDoorWWords
import Derived.Test.YtkfcbafjcjmfnaaGreatDoorWLast
import Derived.Test.YtkfcbafjcjmfnaaGreatDoorWTab
import Derived.Test.YtkfcbafjcjmfnaaGreatDoorWQPut
import Derived.Test.YtkfcbafjcjmfnaaGreatDoorWApart
import Derived.Test.YtkfcbafjcjmfnaaGreatDoorWArr
import Derived.Test.YtkfcbafjcjmfnaaGreatDoorWZeros
import Derived.Test.YtkfcbafjcjmfnaaGreatDoorWFoot
import Derived.Test.YtkfcbafjcjmfnaaGreatDoorWKept
import Derived.Test.YtkfcbafjcjmfnaaGreatDoorWShare
import Derived.Test.YtkfcbafjcjmfnaaGreatDoorWN
import Derived.Test.YtkfcbafjcjmfnaaGreatDoorWFootNe
import Derived.Laws.StructEq
import Derived.Test.YtkfcbafjcjmfnaaGreatDoorWInv
import Derived.Test.YtkfcbafjcjmfnaaGreatDoorWInvWords
import Derived.Test.YtkfcbafjcjmfnaaGreatDoorWGuard
import Derived.Test.YtkfcbafjcjmfnaaGreatDoorWNEv
import Derived.Test.YtkfcbafjcjmfnaaGreatDoorWMore
import Derived.Lib.RuneBytes
import Derived.Laws.RangeAny
set_option linter.unusedVariables false
set_option linter.unusedSimpArgs false
namespace Go.Proofs.YtkfcbafjcjmfnaaGreatDoor.Once
set_option linter.unusedVariables false
set_option linter.unusedSimpArgs false
theorem disable (w : World) : (callFunc 114 #[]).run Tryz.prog w = .ok (.value (.tuple #[])) w := run_call_mark0 Tryz.func114 (by kernel_rfl) (by kernel_rfl) (by kernel_rfl) .disable (by kernel_rfl) w
theorem enable (w : World) : (callFunc 116 #[]).run Tryz.prog w = .ok (.value (.tuple #[])) w := run_call_mark0 Tryz.func116 (by kernel_rfl) (by kernel_rfl) (by kernel_rfl) .enable (by kernel_rfl) w
theorem acquire (a : Addr) (w : World) : (callFunc 117 #[.pointer (some a)]).run Tryz.prog w = .ok (.value (.tuple #[])) w := run_call_marked Tryz.func117 (by kernel_rfl) (by kernel_rfl) (by kernel_rfl) .acquire (by kernel_rfl) a w
theorem releaseMerge (a : Addr) (w : World) : (callFunc 119 #[.pointer (some a)]).run Tryz.prog w = .ok (.value (.tuple #[])) w := run_call_marked Tryz.func119 (by kernel_rfl) (by kernel_rfl) (by kernel_rfl) .releaseMerge (by kernel_rfl) a w
theorem store_deferred (a : Addr) (x : Value) (u : FrameMode) (w : World) (hc : w.cell? a = some x) (hz : w.frozen? a = false) :
    CallsD Tryz.prog 74 #[.pointer (some a), .bool true] u w fun e u' w' => u' = u ∧ (e = .returned (.tuple #[]) ∧ w' = w.drew.setCell a (.int .u32 1)) := by
  have hc' : w.drew.cell? a = some x := by go_simp
  have hz' : w.drew.frozen? a = false := by go_simp
  have hst := run_call_store (P := Tryz.prog) Tryz.func96 (by kernel_rfl) (by kernel_rfl) (by kernel_rfl) (by kernel_rfl) (k := .u32) (y := 1) hc' hz'
  go_enter_d Tryz.func74, Tryz.ntmps74
  go_wp2
  go_region_calls
  all_goals (go_end0; exact ⟨rfl, rfl⟩)
set_option maxRecDepth 100000 in
set_option maxHeartbeats 1600000 in
theorem unlock_deferred (a : Addr) (u : FrameMode) (w : World) (hc : w.cell? a = some (.int .i32 1)) (hz : w.frozen? a = false) :
    CallsD Tryz.prog 73 #[.pointer (some a)] u w fun e u' w' => u' = u ∧ (e = .returned (.tuple #[]) ∧ w' = w.setCell a (.int .i32 0)) := by
  have hd := disable
  have he := enable
  have hr := releaseMerge
  have hadd := run_call_add (P := Tryz.prog) Tryz.func120 (by kernel_rfl) (by kernel_rfl) (by kernel_rfl) .i32 (by kernel_rfl) (y := -1) (s := 0) hc hz (by simp [go_sem]; rfl)
  have hcv := run_convert_to_unsafe (P := Tryz.prog) (src := 150) (dst := 76) Tryz.underlying150 Tryz.underlying76 (by kernel_rfl) hc
  go_enter_d Tryz.func73, Tryz.ntmps73
  go_wp2
  go_end0
  go_wp2
  go_end0
  exact ⟨rfl, rfl⟩
set_option maxRecDepth 100000 in
set_option maxHeartbeats 1600000 in
theorem lock_free (a : Addr) (w : World) (hc : w.cell? a = some (.int .i32 0)) (hz : w.frozen? a = false) :
    Calls Tryz.prog 72 #[.pointer (some a)] w fun e w' => e = .returned (.tuple #[]) ∧ w' = w.setCell a (.int .i32 1) := by
  have hd := disable
  have he := enable
  have ha := acquire
  have hcas := run_call_cas_hit (P := Tryz.prog) Tryz.func115 (by kernel_rfl) (by kernel_rfl) (by kernel_rfl) .i32 (by kernel_rfl) (y := 1) hc hz
  have hc' : (w.setCell a (.int .i32 1)).cell? a = some (.int .i32 1) := World.cell?_setCell_same w a _ hc
  have hcv := run_convert_to_unsafe (P := Tryz.prog) (src := 150) (dst := 76) Tryz.underlying150 Tryz.underlying76 (by kernel_rfl) hc'
  go_enter Tryz.func72, Tryz.ntmps72
  go_wp2
  first | go_end0 | (simp only [Exit.inBlock, Exit.then]; refine bodyPost_ret (results_none rfl _ _ _) rfl ?_) | refine bodyPost_ret (results_none rfl _ _ _) rfl ?_
  go_wp2
  go_end0
  exact ⟨rfl, rfl⟩
set_option maxRecDepth 100000 in
set_option maxHeartbeats 1600000 in
theorem slow_any (b : Nat) (cap : Array Value) (w : World) (Q : World → Prop)
    (h0 : w.cell? ⟨b, 0, none⟩ = some (.int .u32 0)) (h1 : w.cell? ⟨b, 1, none⟩ = some (.int .i32 0))
    (f1 : w.frozen? ⟨b, 1, none⟩ = false)
    (hg : Calls Tryz.prog 39 cap (w.setCell ⟨b, 1, none⟩ (.int .i32 1)) fun e w' => e = .returned (.tuple #[]) ∧ Q w')
    (hq : ∀ w', Q w' → (∃ x, w'.cell? ⟨b, 0, none⟩ = some x) ∧ w'.cell? ⟨b, 1, none⟩ = some (.int .i32 1) ∧ w'.frozen? ⟨b, 0, none⟩ = false ∧ w'.frozen? ⟨b, 1, none⟩ = false) :
    Calls Tryz.prog 50 #[.pointer (some ⟨b, 0, none⟩), .func (.func 39) cap #[]] w fun e w' => e = .returned (.tuple #[]) ∧
      ∃ w1, Q w1 ∧ w' = (w1.drew.setCell ⟨b, 0, none⟩ (.int .u32 1)).setCell ⟨b, 1, none⟩ (.int .i32 0) := by
  have hl := run_call_load (P := Tryz.prog) Tryz.func71 (by kernel_rfl) (by kernel_rfl) (by kernel_rfl) .u32 (by kernel_rfl) (w := w.setCell ⟨b, 1, none⟩ (.int .i32 1)) (a := ⟨b, 0, none⟩) (x := 0) ((World.cell?_setCell_other _ ⟨b, 1, none⟩ ⟨b, 0, none⟩ _ (by simp)).trans h0)
  have hnot : ∀ (x : Bool) (w : World), (Op.unary .not (.bool x)).run Tryz.prog w = .ok (.bool (!x)) w := fun _ _ => rfl
  go_enter_defers Tryz.func50, Tryz.ntmps50
  go_wp2_with (go_at_call 72; refine (lock_free ⟨b, 1, none⟩ _ (by go_simp) (by go_simp)).mono ?_; rintro e w' ⟨rfl, rfl⟩)
  go_wp2_with (first | (go_at_call 49; go_in) | (go_at_call 39; refine hg.mono ?_; rintro e w' ⟨rfl, hQ⟩))
  obtain ⟨⟨x, q0⟩, q1, q2, q3⟩ := hq _ hQ
  refine leaves_cons (f := 74) (args := #[.pointer (some ⟨b, 0, none⟩), .bool true]) (by simp) (by simp [go_sem]) ?_
  refine (store_deferred ⟨b, 0, none⟩ x .returning _ q0 q2).mono ?_
  rintro e u' w'' ⟨rfl, rfl, rfl⟩
  refine leaves_cons (f := 73) (args := #[.pointer (some ⟨b, 1, none⟩)]) (by simp [settle]) (by simp [go_sem]) ?_
  refine (unlock_deferred ⟨b, 1, none⟩ _ _ ?_ (by simp [q3])).mono ?_
  · refine (World.cell?_setCell_other _ ⟨b, 0, none⟩ ⟨b, 1, none⟩ _ (by simp)).trans ?_
    rw [World.cell?_drew]
    exact q1
  rintro e u' w'' ⟨rfl, rfl, rfl⟩
  simp [Leaves, settle, results, Tryz.results50]
  exact ⟨_, hQ, rfl⟩
set_option maxRecDepth 100000 in
set_option maxHeartbeats 1600000 in
theorem do_first (b : Nat) (cap : Array Value) (w : World) (Q : World → Prop)
    (h0 : w.cell? ⟨b, 0, none⟩ = some (.int .u32 0)) (h1 : w.cell? ⟨b, 1, none⟩ = some (.int .i32 0))
    (f1 : w.frozen? ⟨b, 1, none⟩ = false)
    (hg : Calls Tryz.prog 39 cap (w.setCell ⟨b, 1, none⟩ (.int .i32 1)) fun e w' => e = .returned (.tuple #[]) ∧ Q w')
    (hq : ∀ w', Q w' → (∃ x, w'.cell? ⟨b, 0, none⟩ = some x) ∧ w'.cell? ⟨b, 1, none⟩ = some (.int .i32 1) ∧ w'.frozen? ⟨b, 0, none⟩ = false ∧ w'.frozen? ⟨b, 1, none⟩ = false) :
    Calls Tryz.prog 38 #[.pointer (some ⟨b, 0, none⟩), .func (.func 39) cap #[]] w fun e w' => e = .returned (.tuple #[]) ∧
      ∃ w1, Q w1 ∧ w' = (w1.drew.setCell ⟨b, 0, none⟩ (.int .u32 1)).setCell ⟨b, 1, none⟩ (.int .i32 0) := by
  have hl := run_call_load (P := Tryz.prog) Tryz.func71 (by kernel_rfl) (by kernel_rfl) (by kernel_rfl) .u32 (by kernel_rfl) h0
  have hnot : ∀ (x : Bool) (w : World), (Op.unary .not (.bool x)).run Tryz.prog w = .ok (.bool (!x)) w := fun _ _ => rfl
  have HS := Lib.hid (slow_any b cap w Q h0 h1 f1 hg hq)
  clear hg hq
  go_enter Tryz.func38, Tryz.ntmps38
  go_wp2_with (first | (go_at_call 50; refine HS.out.mono ?_; rintro e w' ⟨rfl, hQ⟩) | (go_at_call 49; go_in))
  go_end0
  exact ⟨rfl, hQ⟩
end Go.Proofs.YtkfcbafjcjmfnaaGreatDoor.Once
namespace Go.Proofs.YtkfcbafjcjmfnaaGreatDoor.Row
open Go.RowKit
variable {P : Program}
def Row (e : Nat) (w : World) (B : Nat) (l : List UInt8) : Prop :=
  ∃ C : Array Value, w.heap[B]? = some (.cells C e (C.size, C.size + 1)) ∧ l.length ≤ C.size ∧ C.toList.take l.length = Lib.byteCells l
theorem Row.drew {e : Nat} {w : World} {B : Nat} {l : List UInt8} (h : Row e w B l) : Row e w.drew B l := h
theorem Row.drewN {e : Nat} {w : World} {B : Nat} {l : List UInt8} (h : Row e w B l) (n : Nat) : Row e (w.drewN n) B l := h
theorem Row.lt {e : Nat} {w : World} {B : Nat} {l : List UInt8} (h : Row e w B l) : B < w.heap.size := by
  obtain ⟨C, hC, _⟩ := h
  exact (Array.getElem?_eq_some_iff.1 hC).1
theorem Row.below {e : Nat} {w w1 : World} {B : Nat} {l : List UInt8} (h : Row e w B l) (hb : Below w.heap.size w w1) : Row e w1 B l := by
  have hlt := h.lt
  obtain ⟨C, hC, h2⟩ := h
  exact ⟨C, by rw [hb.block B hlt]; exact hC, h2⟩
theorem row_get {C : Array Value} {l : List UInt8} (h2 : C.toList.take l.length = Lib.byteCells l) (j : Nat) (hj : j < l.length) :
    C[j]? = some (.int .u8 (l[j].toNat : Int)) := by
  have h3 : (C.toList.take l.length)[j]? = (Lib.byteCells l)[j]? := by rw [h2]
  rw [List.getElem?_take_of_lt hj] at h3
  simp [Lib.byteCells, List.getElem?_eq_getElem hj] at h3
  simpa using h3
theorem Row.cell {e : Nat} {w : World} {B : Nat} {l : List UInt8} (h : Row e w B l) (j : Nat) (hj : j < l.length) :
    w.cell? ⟨B, j, none⟩ = some (.int .u8 (l[j].toNat : Int)) := by
  obtain ⟨C, hC, h1, h2⟩ := h
  rw [Lib.cell_of_heap hC]
  exact row_get h2 j hj
theorem Row.frozen {e : Nat} {w : World} {B : Nat} {l : List UInt8} (h : Row e w B l) (j : Nat) (hj : j < l.length) :
    w.frozen? ⟨B, j, none⟩ = false := by
  obtain ⟨C, hC, h1, h2⟩ := h
  simp [World.frozen?, hC]
  omega
theorem Row.set {e : Nat} {w : World} {B : Nat} {l : List UInt8} (h : Row e w B l) (j : Nat) (x : UInt8) (hj : j < l.length) :
    Row e (w.setCell ⟨B, j, none⟩ (.int .u8 (x.toNat : Int))) B (l.set j x) := by
  obtain ⟨C, hC, h1, h2⟩ := h
  refine ⟨C.setIfInBounds j (.int .u8 (x.toNat : Int)), ?_, by simpa using h1, ?_⟩
  · rw [setCell_eq_setRow w B j C e _ _ hC, setRow_heap w B C _ e _ hC, Array.size_setIfInBounds]
  · rw [Array.toList_setIfInBounds, List.length_set]
    have : Lib.byteCells (l.set j x) = (Lib.byteCells l).set j (.int .u8 (x.toNat : Int)) := by
      simp [Lib.byteCells, List.map_set]
    rw [this, ← h2, List.take_set]
theorem Row.made (e : Nat) (w : World) (s : ByteArray) (cap : Nat) :
    Row e (w.alloc (.cells (bytesRow s cap) e ((bytesRow s cap).size, (bytesRow s cap).size + 1))) w.heap.size s.data.toList := by
  refine ⟨bytesRow s cap, ?_, ?_, ?_⟩
  · show (w.heap.push _)[w.heap.size]? = _
    simp
  · simp [bytesRow]
  · simp [bytesRow, Lib.byteCells]
theorem run_conv (w : World) (src dst e : TypeId) (s : ByteArray) (hs : P.underlying src = some .string) (hd : P.underlying dst = some (.slice e)) (he : P.underlying e = some (.int .u8)) :
    ∃ cap o, (convert src dst (.string s)).run P w = .ok (.slice (some ⟨w.heap.size, 0, none⟩) s.size cap) (w.alloc o).drew ∧ Row e (w.alloc o) w.heap.size s.data.toList :=
  ⟨_, _, run_bytes_of_string w src dst e s hs hd he, Row.made e w s _⟩
theorem Row.back {e : Nat} {w : World} {B : Nat} {l : List UInt8} (h : Row e w B l) (src dst cap : Nat) (hs : P.underlying src = some (.slice e)) (he : P.underlying e = some (.int .u8)) (hd : P.underlying dst = some .string) :
    (convert src dst (.slice (some ⟨B, 0, none⟩) l.length cap)).run P w = .ok (.string ⟨l.toArray⟩) w :=
  run_convert_bytes_back w src dst e ⟨B, 0, none⟩ cap l hs he hd (fun j hj => by
    have h1 := h.cell j hj
    unfold Addr.add
    split
    · rename_i h0; subst h0; exact h1
    · simpa using h1)
end Go.Proofs.YtkfcbafjcjmfnaaGreatDoor.Row
namespace Go.Proofs.YtkfcbafjcjmfnaaGreatDoor.Repl
open Go.RowKit Go.Proofs.YtkfcbafjcjmfnaaGreatDoor.Row
set_option linter.unusedVariables false
set_option linter.unusedSimpArgs false
abbrev Pairs := List (UInt8 × ByteArray)
def look (ps : Pairs) (b : Nat) : Option ByteArray := (ps.find? fun p => p.1.toNat == b).map (·.2)
def oldnew (ps : Pairs) : List ByteArray := ps.flatMap fun p => [⟨#[p.1]⟩, p.2]
def RepCell (M : Nat) (w : World) (r : Option ByteArray) (v : Value) : Prop :=
  match r with
  | none => v = .slice none 0 0
  | some s => ∃ B c, M ≤ B ∧ v = .slice (some ⟨B, 0, none⟩) s.size c ∧ Row 5 w B s.data.toList
def Part (M : Nat) (w : World) (R : Nat) (qs : Pairs) : Prop :=
  ∃ (C : Array Value) (tv : Value), M ≤ R ∧ w.heap[R]? = some (.cells C 107 (0, 0)) ∧ C.size = 257 ∧ C[256]? = some tv ∧
    w.ownsRow M 9 1 tv qs.length (qs.reverse.map fun p => .string ⟨#[p.1]⟩) ∧ ∀ b, b < 256 → ∃ v, C[b]? = some v ∧ RepCell M w (look qs b) v
def Lies (w : World) (g : Nat) (ps : Pairs) : Prop := ∀ k, (h : k < ps.length) → w.cell? ⟨g, 2 * k, none⟩ = some (.string ⟨#[(ps[k]).1]⟩) ∧ w.cell? ⟨g, 2 * k + 1, none⟩ = some (.string (ps[k]).2)
theorem infoStr : (Tryz.prog.info? 9).map (fun i => (i.zero, i.size, i.bytes)) = some (some (.string ByteArray.empty), 1, 16) := by kernel_rfl
theorem below_grown {B : Nat} {w0 w w1 : World} {row : Option Nat} (hb : Below B w0 w) (hg : w.grownBy w1 row) (hr : ∀ j, row = some j → B ≤ j) (hB : B ≤ w.heap.size) : Below B w0 w1 :=
  ⟨hg.os.trans hb.os, hg.tape.trans hb.tape, hg.output.trans hb.output, Nat.le_trans hb.size hg.size, fun k hk => (hg.block k (Nat.lt_of_lt_of_le hk hB) (fun e => by have := hr k e.symm; omega)).trans (hb.block k hk)⟩
theorem Row.of_heap {e : Nat} {w w' : World} {B : Nat} {l : List UInt8} (h : Row e w B l) (hh : w'.heap[B]? = w.heap[B]?) : Row e w' B l := by
  obtain ⟨C, hC, h2⟩ := h
  exact ⟨C, by rw [hh]; exact hC, h2⟩
theorem own_apart {w : World} {M e n : Nat} {v : Value} {xs : List Value} {R : Nat} {C : Array Value} {t : TypeId} {fr : Nat × Nat} (h : w.ownsRow M e 1 v n xs) (hC : w.heap[R]? = some (.cells C t fr)) (hne : t ≠ e ∨ fr ≠ (0, 0)) : v.ownBlock ≠ some R := by
  intro hb
  rcases h.2 with ⟨rfl, _⟩ | ⟨g, cap, cur, rfl, _, hg, _⟩
  · simp [Value.ownBlock] at hb
  · simp only [Value.ownBlock, Option.some.injEq] at hb
    subst hb
    rw [hC] at hg
    injection hg with hg
    injection hg with _ h2 h3
    rcases hne with h | h
    · exact h h2
    · exact h h3
theorem own_of_heap {w w' : World} {M e n : Nat} {v : Value} {xs : List Value} (h : w.ownsRow M e 1 v n xs) (hh : ∀ k, v.ownBlock = some k → w'.heap[k]? = w.heap[k]?) : w'.ownsRow M e 1 v n xs := by
  refine ⟨h.1, ?_⟩
  rcases h.2 with hn | ⟨g, cap, cur, rfl, hb, hg, rest⟩
  · exact .inl hn
  · exact .inr ⟨g, cap, cur, rfl, hb, by rw [hh g rfl]; exact hg, rest⟩
theorem setCell_heap_at (w : World) (B j : Nat) (C : Array Value) (t : TypeId) (fr : Nat × Nat) (v : Value) (hC : w.heap[B]? = some (.cells C t fr)) : (w.setCell ⟨B, j, none⟩ v).heap[B]? = some (.cells (C.setIfInBounds j v) t fr) := by
  rw [setCell_eq_setRow w B j C t fr v hC]; exact setRow_heap _ _ _ _ _ _ hC
theorem setCell_heap_ne (w : World) (B j k : Nat) (v : Value) (h : k ≠ B) : (w.setCell ⟨B, j, none⟩ v).heap[k]? = w.heap[k]? := by
  simp only [World.setCell]
  rw [Array.getElem?_modify, if_neg (fun e => h e.symm)]
end Go.Proofs.YtkfcbafjcjmfnaaGreatDoor.Repl
namespace Go.Proofs.YtkfcbafjcjmfnaaGreatDoor.Repl
open Go.RowKit Go.Proofs.YtkfcbafjcjmfnaaGreatDoor.Row
set_option linter.unusedVariables false
set_option linter.unusedSimpArgs false
def hit (ps : Pairs) (l : List UInt8) : Bool := l.any fun c => (look ps c.toNat).isSome
end Go.Proofs.YtkfcbafjcjmfnaaGreatDoor.Repl
namespace Go.Proofs.YtkfcbafjcjmfnaaGreatDoor.Gen
open Go.RowKit Go.Proofs.YtkfcbafjcjmfnaaGreatDoor.Row Go.Proofs.YtkfcbafjcjmfnaaGreatDoor.Repl
set_option linter.unusedVariables false
set_option linter.unusedSimpArgs false
def mcells (m : Nat → Nat) : List Value := (List.range 256).map fun b => .int .u8 (m b : Int)
def rtCells (tb : Value) (ts : Int) (m : Nat → Nat) : List Value := [.string ⟨#[]⟩, .int .i64 0, .string ⟨#[]⟩, .pointer none, tb, .int .i64 ts] ++ mcells m
def Rt (w : World) (R : Nat) (tb : Value) (ts : Int) (m : Nat → Nat) : Prop := w.heap[R]? = some (.cells (rtCells tb ts m).toArray 133 (0, 0))
def upd (m : Nat → Nat) (b v : Nat) : Nat → Nat := fun c => if c = b then v else m c
def ndCells (val : ByteArray) (p : Int) (pre : ByteArray) (next : Value) : Array Value := #[.string val, .int .i64 p, .string pre, next, .slice none 0 0]
def Nd (w : World) (N : Nat) (val : ByteArray) (p : Int) (pre : ByteArray) (next : Value) : Prop := w.heap[N]? = some (.cells (ndCells val p pre next) 131 (0, 0))
def Tbl (w : World) (T : Nat) (qs : List Value) : Prop := w.heap[T]? = some (.cells qs.toArray 128 (0, 0)) ∧ qs.length = 5
theorem zc_root : Tryz.zeroCells133 = (rtCells (.slice none 0 0) 0 fun _ => 0).toArray := by kernel_rfl
theorem mcells_get (m : Nat → Nat) (b : Nat) (hb : b < 256) : (mcells m)[b]? = some (.int .u8 (m b : Int)) := by
  unfold mcells
  rw [List.getElem?_map, List.getElem?_range hb]; rfl
theorem mcells_len (m : Nat → Nat) : (mcells m).length = 256 := by simp [mcells]
theorem rt_m (tb : Value) (ts : Int) (m : Nat → Nat) (b : Nat) (hb : b < 256) : (rtCells tb ts m)[6 + b]? = some (.int .u8 (m b : Int)) := by
  unfold rtCells
  rw [List.getElem?_append_right (by simp)]
  simpa using mcells_get m b hb
theorem mcells_set (m : Nat → Nat) (b v : Nat) (hb : b < 256) : (mcells m).set b (.int .u8 (v : Int)) = mcells (upd m b v) := by
  apply List.ext_getElem?
  intro j
  by_cases h : j < 256
  · rw [mcells_get _ j h, List.getElem?_set]
    by_cases e : b = j
    · subst e
      rw [if_pos rfl, if_pos (by rw [mcells_len]; exact h)]
      simp [upd]
    · rw [if_neg e, mcells_get _ j h]
      simp [upd, show ¬ j = b from fun x => e x.symm]
  · rw [List.getElem?_eq_none (by rw [List.length_set, mcells_len]; omega), List.getElem?_eq_none (by rw [mcells_len]; omega)]
theorem rt_set (tb : Value) (ts : Int) (m : Nat → Nat) (b v : Nat) (hb : b < 256) : (rtCells tb ts m).set (6 + b) (.int .u8 (v : Int)) = rtCells tb ts (upd m b v) := by
  unfold rtCells
  rw [List.set_append_right _ _ (by simp), ← mcells_set m b v hb]
  simp
theorem Rt.cell {w : World} {R : Nat} {tb : Value} {ts : Int} {m : Nat → Nat} (h : Rt w R tb ts m) (j : Nat) : w.cell? ⟨R, j, none⟩ = (rtCells tb ts m)[j]? := by
  rw [cell_of_row _ _ _ _ _ _ h]; simp
theorem Rt.at {w : World} {R : Nat} {tb : Value} {ts : Int} {m : Nat → Nat} (h : Rt w R tb ts m) (b : Nat) (hb : b < 256) : w.cell? ⟨R, 6 + b, none⟩ = some (.int .u8 (m b : Int)) := by
  rw [h.cell]; exact rt_m _ _ _ _ hb
theorem Rt.ts {w : World} {R : Nat} {tb : Value} {ts : Int} {m : Nat → Nat} (h : Rt w R tb ts m) : w.cell? ⟨R, 5, none⟩ = some (.int .i64 ts) := by rw [h.cell]; rfl
theorem Rt.tb {w : World} {R : Nat} {tb : Value} {ts : Int} {m : Nat → Nat} (h : Rt w R tb ts m) : w.cell? ⟨R, 4, none⟩ = some tb := by rw [h.cell]; rfl
theorem Rt.pre {w : World} {R : Nat} {tb : Value} {ts : Int} {m : Nat → Nat} (h : Rt w R tb ts m) : w.cell? ⟨R, 2, none⟩ = some (.string ⟨#[]⟩) := by rw [h.cell]; rfl
theorem Rt.prio {w : World} {R : Nat} {tb : Value} {ts : Int} {m : Nat → Nat} (h : Rt w R tb ts m) : w.cell? ⟨R, 1, none⟩ = some (.int .i64 0) := by rw [h.cell]; rfl
theorem Rt.free {w : World} {R : Nat} {tb : Value} {ts : Int} {m : Nat → Nat} (h : Rt w R tb ts m) (j : Nat) : w.frozen? ⟨R, j, none⟩ = false := by
  have h' : w.heap[R]? = _ := h
  simp [World.frozen?, h']
theorem Rt.setM {w : World} {R : Nat} {tb : Value} {ts : Int} {m : Nat → Nat} (h : Rt w R tb ts m) (b v : Nat) (hb : b < 256) : Rt (w.setCell ⟨R, 6 + b, none⟩ (.int .u8 (v : Int))) R tb ts (upd m b v) := by
  unfold Rt
  rw [setCell_heap_at _ _ _ _ _ _ _ h, List.setIfInBounds_toArray, rt_set _ _ _ _ _ hb]
theorem Rt.setTs {w : World} {R : Nat} {tb : Value} {ts : Int} {m : Nat → Nat} (h : Rt w R tb ts m) (t : Int) : Rt (w.setCell ⟨R, 5, none⟩ (.int .i64 t)) R tb t m := by
  unfold Rt
  rw [setCell_heap_at _ _ _ _ _ _ _ h, List.setIfInBounds_toArray]
  rfl
theorem Rt.setTb {w : World} {R : Nat} {tb : Value} {ts : Int} {m : Nat → Nat} (h : Rt w R tb ts m) (t : Value) : Rt (w.setCell ⟨R, 4, none⟩ t) R t ts m := by
  unfold Rt
  rw [setCell_heap_at _ _ _ _ _ _ _ h, List.setIfInBounds_toArray]
  rfl
theorem Rt.of {w w' : World} {R : Nat} {tb : Value} {ts : Int} {m : Nat → Nat} (h : Rt w R tb ts m) (hh : w'.heap[R]? = w.heap[R]?) : Rt w' R tb ts m := hh.trans h
theorem Rt.lt {w : World} {R : Nat} {tb : Value} {ts : Int} {m : Nat → Nat} (h : Rt w R tb ts m) : R < w.heap.size := (Array.getElem?_eq_some_iff.1 (show w.heap[R]? = _ from h)).1
theorem Nd.lt {w : World} {N : Nat} {val : ByteArray} {p : Int} {pre : ByteArray} {next : Value} (h : Nd w N val p pre next) : N < w.heap.size := (Array.getElem?_eq_some_iff.1 (show w.heap[N]? = _ from h)).1
theorem Nd.cell {w : World} {N : Nat} {val : ByteArray} {p : Int} {pre : ByteArray} {next : Value} (h : Nd w N val p pre next) (j : Nat) : w.cell? ⟨N, j, none⟩ = (ndCells val p pre next)[j]? := cell_of_row _ _ _ _ _ _ h
theorem Nd.free {w : World} {N : Nat} {val : ByteArray} {p : Int} {pre : ByteArray} {next : Value} (h : Nd w N val p pre next) (j : Nat) : w.frozen? ⟨N, j, none⟩ = false := by
  have h' : w.heap[N]? = _ := h
  simp [World.frozen?, h']
theorem Nd.of {w w' : World} {N : Nat} {val : ByteArray} {p : Int} {pre : ByteArray} {next : Value} (h : Nd w N val p pre next) (hh : w'.heap[N]? = w.heap[N]?) : Nd w' N val p pre next := hh.trans h
theorem Nd.new (w : World) (n : Nat) (h : w.heap.size = n) : Nd (w.alloc (.cells (ndCells ⟨#[]⟩ 0 ⟨#[]⟩ (.pointer none)) 131)) n ⟨#[]⟩ 0 ⟨#[]⟩ (.pointer none) := by
  subst h; exact heap_alloc_new _ _
theorem Tbl.lt {w : World} {T : Nat} {qs : List Value} (h : Tbl w T qs) : T < w.heap.size := (Array.getElem?_eq_some_iff.1 h.1).1
theorem Tbl.cell {w : World} {T : Nat} {qs : List Value} (h : Tbl w T qs) (j : Nat) : w.cell? ⟨T, j, none⟩ = qs[j]? := by
  rw [cell_of_row _ _ _ _ _ _ h.1]; simp
theorem Tbl.free {w : World} {T : Nat} {qs : List Value} (h : Tbl w T qs) (j : Nat) : w.frozen? ⟨T, j, none⟩ = false := by
  simp [World.frozen?, h.1]
theorem Tbl.of {w w' : World} {T : Nat} {qs : List Value} (h : Tbl w T qs) (hh : w'.heap[T]? = w.heap[T]?) : Tbl w' T qs := ⟨hh.trans h.1, h.2⟩
theorem Tbl.set {w : World} {T : Nat} {qs : List Value} (h : Tbl w T qs) (j : Nat) (v : Value) : Tbl (w.setCell ⟨T, j, none⟩ v) T (qs.set j v) := by
  refine ⟨?_, by simpa using h.2⟩
  rw [setCell_heap_at _ _ _ _ _ _ _ h.1, List.setIfInBounds_toArray]
theorem not_empty (k : ByteArray) (h : k.size ≠ 0) : k.toList.isEmpty = false := by
  rw [ByteArray.toList_eq]
  cases hk : k.data.toList with
  | nil => exact absurd (by rw [← ByteArray.size_data, ← Array.length_toList, hk]; rfl) h
  | cons => rfl
structure But (N : Nat) (w w' : World) : Prop where
  os : w'.os = w.os
  tape : w'.tape = w.tape
  output : w'.output = w.output
  size : w.heap.size ≤ w'.heap.size
  block : ∀ k, k ≠ N → k < w.heap.size → w'.heap[k]? = w.heap[k]?
theorem But.cell {N : Nat} {w w' : World} (h : But N w w') {B : Nat} (hB : B ≠ N) (hlt : B < w.heap.size) (j : Nat) : w'.cell? ⟨B, j, none⟩ = w.cell? ⟨B, j, none⟩ := by
  simp only [World.cell?, h.block B hB hlt]
set_option maxRecDepth 100000 in
set_option maxHeartbeats 4000000 in
theorem add_end (N R : Nat) (val pre : ByteArray) (p : Int) (next : Value) (w : World) (hN : Nd w N ⟨#[]⟩ 0 pre next) :
    Calls Tryz.prog 99 #[.pointer (some ⟨N, 0, none⟩), .string ⟨#[]⟩, .string val, .int .i64 p, .pointer (some ⟨R, 0, none⟩)] w fun e w' => e = .returned (.tuple #[]) ∧ Nd w' N val p pre next ∧ But N w w' := by
  have c0 : w.cell? ⟨N, 0, none⟩ = some (.string ⟨#[]⟩) := by rw [hN.cell]; rfl
  have c1 : w.cell? ⟨N, 1, none⟩ = some (.int .i64 0) := by rw [hN.cell]; rfl
  have f0 := hN.free 0
  have f1 := hN.free 1
  have HN := Lib.hid hN
  clear hN
  go_enter Tryz.func99, Tryz.ntmps99
  go_wp2
  refine bodyPost_ret (results_none rfl _ _ _) rfl ?_
  refine ⟨rfl, ?_, ⟨rfl, rfl, rfl, by simp, fun k hk _ => by rw [setCell_heap_ne _ _ _ _ _ hk, setCell_heap_ne _ _ _ _ _ hk]⟩⟩
  unfold Nd
  rw [setCell_heap_at _ _ _ _ _ _ _ (setCell_heap_at _ _ _ _ _ _ _ HN.out)]
  rfl
set_option maxRecDepth 100000 in
set_option maxHeartbeats 4000000 in
theorem add_new (N R : Nat) (key val : ByteArray) (p : Int) (w : World) (hk : key.size = 1) (hN : Nd w N ⟨#[]⟩ 0 ⟨#[]⟩ (.pointer none)) :
    Calls Tryz.prog 99 #[.pointer (some ⟨N, 0, none⟩), .string key, .string val, .int .i64 p, .pointer (some ⟨R, 0, none⟩)] w fun e w' => e = .returned (.tuple #[]) ∧
      (∃ E, w.heap.size ≤ E ∧ Nd w' N ⟨#[]⟩ 0 key (.pointer (some ⟨E, 0, none⟩)) ∧ Nd w' E val p ⟨#[]⟩ (.pointer none)) ∧ But N w w' := by
  have c0 : w.cell? ⟨N, 2, none⟩ = some (.string ⟨#[]⟩) := by rw [hN.cell]; rfl
  have c1 : w.cell? ⟨N, 3, none⟩ = some (.pointer none) := by rw [hN.cell]; rfl
  have c2 : w.cell? ⟨N, 4, none⟩ = some (.slice none 0 0) := by rw [hN.cell]; rfl
  have f0 := hN.free 2
  have f1 := hN.free 3
  have hlt := hN.lt
  have hne : key.toList.isEmpty = false := not_empty key (by omega)
  have qT : ∀ (w : World) (a : Option Addr) (n c n' c' : Nat), (binOp .neq 129 (.slice a n c) (.slice none n' c')).run Tryz.prog w = .ok (.bool (!a.isNone)) w := fun w a n c n' c' => run_neq_slice_nil_any w _ _ a n c n' c' Tryz.underlying129
  have AE := Lib.hid (fun (N : Nat) (W : World) (h : Nd W N ⟨#[]⟩ 0 ⟨#[]⟩ (.pointer none)) => add_end N R val ⟨#[]⟩ p (.pointer none) W h)
  have HN := Lib.hid hN
  clear hN
  go_enter Tryz.func99, Tryz.ntmps99
  go_wp2_with (go_at_call 99; refine (AE.out _ _ (Nd.new _ _ (by simp))).mono ?_; rintro e W ⟨rfl, h1, h2⟩)
  go_end0
  have hz : w.heap.size + 1 ≤ W.heap.size := by have := h2.size; simpa using this
  have hb : ∀ k, k ≠ N → k < w.heap.size → W.heap[k]? = w.heap[k]? := fun k hk hlt2 => by
    rw [h2.block k (by omega) (by simp; omega), heap_alloc_old, setCell_heap_ne _ _ _ _ _ hk, setCell_heap_ne _ _ _ _ _ hk]
    simpa using hlt2
  refine ⟨rfl, ⟨w.heap.size, Nat.le_refl _, ?_, h1⟩, ⟨h2.os, h2.tape, h2.output, by omega, hb⟩⟩
  unfold Nd
  rw [h2.block N (by omega) (by simp; omega), heap_alloc_old, setCell_heap_at _ _ _ _ _ _ _ (setCell_heap_at _ _ _ _ _ _ _ HN.out)]
  · rfl
  · simpa using hlt
set_option maxRecDepth 100000 in
set_option maxHeartbeats 4000000 in
theorem add_root (R T i : Nat) (key val : ByteArray) (p : Int) (m : Nat → Nat) (qs : List Value) (w : World) (hk : 1 ≤ key.size) (hR : Rt w R (.slice (some ⟨T, 0, none⟩) 5 5) 5 m) (hT : Tbl w T qs)
    (hm : m (key[0]'(by omega)).toNat = i) (hi : i < 5) (hq : qs[i]? = some (.pointer none)) (K : Nat → World → World → Prop)
    (hK : ∀ (N : Nat) (W : World), Nd W N ⟨#[]⟩ 0 ⟨#[]⟩ (.pointer none) → Calls Tryz.prog 99 #[.pointer (some ⟨N, 0, none⟩), .string (key.extract 1 key.size), .string val, .int .i64 p, .pointer (some ⟨R, 0, none⟩)] W fun e W' => e = .returned (.tuple #[]) ∧ K N W W' ∧ But N W W') :
    Calls Tryz.prog 99 #[.pointer (some ⟨R, 0, none⟩), .string key, .string val, .int .i64 p, .pointer (some ⟨R, 0, none⟩)] w fun e w' => e = .returned (.tuple #[]) ∧
      (∃ W, w.heap.size ≤ W.heap.size ∧ K w.heap.size W w') ∧ Tbl w' T (qs.set i (.pointer (some ⟨w.heap.size, 0, none⟩))) ∧ But T w w' := by
  have c0 := hR.pre
  have c1 := hR.tb
  have h256 := UInt8.toNat_lt (key[0]'(by omega))
  have c2 := hR.at (key[0]'(by omega)).toNat h256
  rw [hm] at c2
  have c3 : w.cell? ⟨T, i, none⟩ = some (.pointer none) := by rw [hT.cell]; exact hq
  have f3 := hT.free i
  have hne : key.toList.isEmpty = false := not_empty key (by omega)
  have qT : ∀ (w : World) (a : Option Addr) (n c n' c' : Nat), (binOp .neq 129 (.slice a n c) (.slice none n' c')).run Tryz.prog w = .ok (.bool (!a.isNone)) w := fun w a n c n' c' => run_neq_slice_nil_any w _ _ a n c n' c' Tryz.underlying129
  have HKK := Lib.hid hK
  have HR := Lib.hid hR; have HT := Lib.hid hT
  have hi2 : (i : Int) < 5 := by omega
  have hk1 : (0 : Int) < (key.size : Int) := by omega
  have hk2 : 0 < key.size := by omega
  have hk3 : (1 : Int) ≤ (key.size : Int) := by omega
  have hTlt := hT.lt
  have hRlt := hR.lt
  have hRT : R ≠ T := by
    rintro rfl
    have h1 : w.heap[R]? = _ := hR
    have h2 := h1.symm.trans hT.1
    injection h2 with h2
    injection h2 with _ h2
    exact absurd h2 (by decide)
  have q1 : ∀ n o, ((w.drewN n).alloc o).frozen? ⟨T, i, none⟩ = false := fun n o => by exact (World.frozen?_alloc_past (w := w.drewN n) o T i hTlt).trans f3
  have q2 : ∀ n o, ((w.drewN n).alloc o).cell? ⟨T, i, none⟩ = some (.pointer none) := fun n o => by exact (World.cell?_alloc_past (w := w.drewN n) o T i hTlt).trans c3
  have q3 : ∀ n o v, (((w.drewN n).alloc o).setCell ⟨T, i, none⟩ v).cell? ⟨R, 4, none⟩ = some (.slice (some ⟨T, 0, none⟩) 5 5) := fun n o v => by
    rw [World.cell?_setCell_other _ _ _ _ (fun e => hRT (congrArg Addr.block e).symm)]; exact (World.cell?_alloc_past (w := w.drewN n) o R 4 hRlt).trans c1
  have q4 : ∀ n o v, (((w.drewN n).alloc o).setCell ⟨T, i, none⟩ v).cell? ⟨T, i, none⟩ = some v := fun n o v => World.cell?_setCell_same _ _ _ (q2 n o)
  clear hR hT hK
  go_enter Tryz.func99, Tryz.ntmps99
  go_wp2
  go_quiet (fail)
  rename_i nq
  go_wp2_with fail
  obtain ⟨W, hW⟩ : ∃ W, ((w.drewN nq).alloc (.cells #[.string ⟨#[]⟩, .int .i64 0, .string ⟨#[]⟩, .pointer none, .slice none 0 0] 131)).setCell ⟨T, i, none⟩ (.pointer (some ⟨w.heap.size, 0, none⟩)) = W := ⟨_, rfl⟩
  rw [hW]
  have k1 : W.cell? ⟨R, 4, none⟩ = some (.slice (some ⟨T, 0, none⟩) 5 5) := by rw [← hW]; exact q3 _ _ _
  have k2 : W.cell? ⟨T, i, none⟩ = some (.pointer (some ⟨w.heap.size, 0, none⟩)) := by rw [← hW]; exact q4 _ _ _
  have hTn : w.heap.size ≠ T := by omega
  have hWz : W.heap.size = w.heap.size + 1 := by rw [← hW]; simp
  have ND := Lib.hid (show Nd W w.heap.size ⟨#[]⟩ 0 ⟨#[]⟩ (.pointer none) from by
    rw [← hW]
    exact (Nd.new (w.drewN nq) w.heap.size rfl).of (setCell_heap_ne _ _ _ _ _ hTn))
  have TB := Lib.hid (show Tbl W T (qs.set i (.pointer (some ⟨w.heap.size, 0, none⟩))) from by
    rw [← hW]
    refine (HT.out.of ?_).set _ _
    rw [heap_alloc_old]
    · rfl
    · exact hTlt)
  have BT := Lib.hid (show ∀ k, k ≠ T → k < w.heap.size → W.heap[k]? = w.heap[k]? from fun k hk hlt => by
    rw [← hW, setCell_heap_ne _ _ _ _ _ hk]
    rw [heap_alloc_old]
    · rfl
    · exact hlt)
  have BO := Lib.hid (show W.os = w.os ∧ W.tape = w.tape ∧ W.output = w.output from by rw [← hW]; exact ⟨rfl, rfl, rfl⟩)
  clear q1 q2 q3 q4 hW
  have CK := Lib.hid (HKK.out w.heap.size W.drew ND.out)
  go_region_held3 (fun w' => w'.cell? ⟨R, 4, none⟩ = some (.slice (some ⟨T, 0, none⟩) 5 5) ∧ w'.cell? ⟨T, i, none⟩ = some (.pointer (some ⟨w.heap.size, 0, none⟩))) (go_keep) (first
    | (go_at_call 99; refine CK.out.mono ?_; rintro e w5 ⟨rfl, hk5, hb5⟩; have r1 := (hb5.cell (by omega) (show R < W.heap.size by omega) 4).trans k1; have r2 := (hb5.cell (by omega) (show T < W.heap.size by omega) i).trans k2))
  all_goals go_wp2_with fail
  go_end0
  obtain ⟨o1, o2, o3⟩ := BO.out
  have hs := hb5.size
  have hWd : W.drew.heap.size = w.heap.size + 1 := hWz
  refine ⟨rfl, ⟨_, (by omega : w.heap.size ≤ W.drew.heap.size), hk5⟩, TB.out.of (hb5.block T (by omega) (by omega)), ⟨hb5.os.trans o1, hb5.tape.trans o2, hb5.output.trans o3, by omega, fun k hk hlt => (hb5.block k (by omega) (by omega)).trans (BT.out k hk hlt)⟩⟩
end Go.Proofs.YtkfcbafjcjmfnaaGreatDoor.Gen
namespace Go.Proofs
open Go.Shelf
def Tryz.lays169_ren : Go.Shelf.Ren := ⟨fun | 169 => 21 | n => n, fun | 70 => 28 | 9 => 9 | 0 => 0 | 72 => 31 | 37 => 29 | 127 => 49 | 3 => 3 | 5 => 5 | n => n, fun | n => n⟩
theorem Tryz.lays169 : Go.Proofs.Lays.n169 Tryz.prog Tryz.lays169_ren := {
  mixed := by kernel_rfl
  f169 := Tryz.func21.trans (congrArg some (by kernel_rfl))
  t0 := Tryz.underlying0
  a0 := Tryz.isAgg0
  z0 := Tryz.sizeOf0
  v0 := Tryz.zeroValue0
  t3 := Tryz.underlying3
  a3 := Tryz.isAgg3
  z3 := Tryz.sizeOf3
  v3 := Tryz.zeroValue3
  t9 := Tryz.underlying9
  a9 := Tryz.isAgg9
  z9 := Tryz.sizeOf9
  v9 := Tryz.zeroValue9
  t37 := Tryz.underlying29
  a37 := Tryz.isAgg29
  z37 := Tryz.sizeOf29
  v37 := Tryz.zeroValue29
  t70 := Tryz.underlying28
  a70 := Tryz.isAgg28
  z70 := Tryz.sizeOf28
  v70 := Tryz.zeroValue28
  t72 := Tryz.underlying31
  a72 := Tryz.isAgg31
  z72 := Tryz.sizeOf31
  v72 := Tryz.zeroValue31
  t127 := Tryz.underlying49
  a127 := Tryz.isAgg49
  z127 := Tryz.sizeOf49
  v127 := Tryz.zeroValue49 }
theorem Tryz.Builder_Extra_169 : Builder.Extra Tryz.prog Tryz.lays169_ren := {
  sizeBuilder := by kernel_rfl
  liesBuilder := by kernel_rfl
  t5 := Tryz.underlying5
  a5 := Tryz.isAgg5
  z5 := Tryz.sizeOf5
  v5 := Tryz.zeroValue5
  infoByte := by kernel_rfl
  cellsByte := by kernel_rfl
  sizeByte := by kernel_rfl
  neB5 := by decide }
def Tryz.lays160_ren : Go.Shelf.Ren := ⟨fun | 160 => 92 | 232 => 107 | 231 => 106 | 227 => 108 | 234 => 110 | 233 => 109 | 236 => 112 | 235 => 111 | 228 => 125 | 271 => 127 | 151 => 126 | 197 => 55 | 120 => 138 | 152 => 137 | 260 => 80 | 137 => 143 | 119 => 144 | 224 => 62 | 225 => 61 | 217 => 60 | 266 => 83 | n => n, fun | 9 => 9 | 4 => 4 | 3 => 3 | 5 => 5 | 117 => 145 | 116 => 144 | 0 => 0 | 124 => 148 | 21 => 21 | 105 => 84 | 46 => 91 | 119 => 102 | 139 => 138 | 138 => 137 | n => n, fun | 3 => 3 | 4 => 4 | n => n⟩
theorem Tryz.lays160 : Go.Proofs.Lays.n160 Tryz.prog Tryz.lays160_ren := {
  mixed := by kernel_rfl
  f119 := Tryz.func144.trans (congrArg some (by kernel_rfl))
  f120 := Tryz.func138.trans (congrArg some (by kernel_rfl))
  f137 := Tryz.func143.trans (congrArg some (by kernel_rfl))
  f151 := Tryz.func126.trans (congrArg some (by kernel_rfl))
  f152 := Tryz.func137.trans (congrArg some (by kernel_rfl))
  f160 := Tryz.func92.trans (congrArg some (by kernel_rfl))
  f197 := Tryz.func55.trans (congrArg some (by kernel_rfl))
  f217 := Tryz.func60.trans (congrArg some (by kernel_rfl))
  f224 := Tryz.func62.trans (congrArg some (by kernel_rfl))
  f225 := Tryz.func61.trans (congrArg some (by kernel_rfl))
  f227 := Tryz.func108.trans (congrArg some (by kernel_rfl))
  f228 := Tryz.func125.trans (congrArg some (by kernel_rfl))
  f231 := Tryz.func106.trans (congrArg some (by kernel_rfl))
  f232 := Tryz.func107.trans (congrArg some (by kernel_rfl))
  f233 := Tryz.func109.trans (congrArg some (by kernel_rfl))
  f234 := Tryz.func110.trans (congrArg some (by kernel_rfl))
  f235 := Tryz.func111.trans (congrArg some (by kernel_rfl))
  f236 := Tryz.func112.trans (congrArg some (by kernel_rfl))
  f260 := Tryz.func80.trans (congrArg some (by kernel_rfl))
  f266 := Tryz.func83.trans (congrArg some (by kernel_rfl))
  f271 := Tryz.func127.trans (congrArg some (by kernel_rfl))
  t0 := Tryz.underlying0
  a0 := Tryz.isAgg0
  z0 := Tryz.sizeOf0
  v0 := Tryz.zeroValue0
  t3 := Tryz.underlying3
  a3 := Tryz.isAgg3
  z3 := Tryz.sizeOf3
  v3 := Tryz.zeroValue3
  t4 := Tryz.underlying4
  a4 := Tryz.isAgg4
  z4 := Tryz.sizeOf4
  v4 := Tryz.zeroValue4
  t5 := Tryz.underlying5
  a5 := Tryz.isAgg5
  z5 := Tryz.sizeOf5
  v5 := Tryz.zeroValue5
  t9 := Tryz.underlying9
  a9 := Tryz.isAgg9
  z9 := Tryz.sizeOf9
  v9 := Tryz.zeroValue9
  t21 := Tryz.underlying21
  a21 := Tryz.isAgg21
  z21 := Tryz.sizeOf21
  v21 := Tryz.zeroValue21
  t46 := Tryz.underlying91
  a46 := Tryz.isAgg91
  z46 := Tryz.sizeOf91
  v46 := Tryz.zeroValue91
  t105 := Tryz.underlying84
  a105 := Tryz.isAgg84
  z105 := Tryz.sizeOf84
  v105 := Tryz.zeroValue84
  t116 := Tryz.underlying144
  a116 := Tryz.isAgg144
  z116 := Tryz.sizeOf144
  t117 := Tryz.underlying145
  a117 := Tryz.isAgg145
  z117 := Tryz.sizeOf145
  v117 := Tryz.zeroValue145
  t119 := Tryz.underlying102
  a119 := Tryz.isAgg102
  z119 := Tryz.sizeOf102
  t124 := Tryz.underlying148
  a124 := Tryz.isAgg148
  z124 := Tryz.sizeOf148
  v124 := Tryz.zeroValue148
  t138 := Tryz.underlying137
  a138 := Tryz.isAgg137
  z138 := Tryz.sizeOf137
  v138 := Tryz.zeroValue137
  t139 := Tryz.underlying138
  a139 := Tryz.isAgg138
  z139 := Tryz.sizeOf138
  v139 := Tryz.zeroValue138
  g3 := by kernel_rfl
  g4 := by kernel_rfl }
def Tryz.lays103_ren : Go.Shelf.Ren := ⟨fun | 103 => 35 | 210 => 46 | 206 => 64 | n => n, fun | 9 => 9 | 4 => 4 | 24 => 39 | 3 => 3 | n => n, fun | n => n⟩
theorem Tryz.lays103 : Go.Proofs.Lays.n103 Tryz.prog Tryz.lays103_ren := {
  mixed := by kernel_rfl
  f103 := Tryz.func35.trans (congrArg some (by kernel_rfl))
  f206 := Tryz.func64.trans (congrArg some (by kernel_rfl))
  f210 := Tryz.func46.trans (congrArg some (by kernel_rfl))
  t3 := Tryz.underlying3
  a3 := Tryz.isAgg3
  z3 := Tryz.sizeOf3
  v3 := Tryz.zeroValue3
  t4 := Tryz.underlying4
  a4 := Tryz.isAgg4
  z4 := Tryz.sizeOf4
  v4 := Tryz.zeroValue4
  t9 := Tryz.underlying9
  a9 := Tryz.isAgg9
  z9 := Tryz.sizeOf9
  v9 := Tryz.zeroValue9
  t24 := Tryz.underlying39
  a24 := Tryz.isAgg39
  z24 := Tryz.sizeOf39
  v24 := Tryz.zeroValue39 }
open Go.RowKit in
theorem Tryz.strings_CutPrefix (s p : ByteArray) (w : World) :
    Calls Tryz.prog 35 #[.string s, .string p] w fun e w' => e = .returned (.tuple #[.string ⟨(Lib.trimPrefix s.data.toList p.data.toList).toArray⟩, .bool (Lib.hasPrefix s.data.toList p.data.toList)]) ∧ w' = w := Any.strings_CutPrefix Tryz.lays103 s p w
open Go.RowKit in
theorem Tryz.Builder_String_any_k (B b : Nat) (l : List UInt8) (w : World) (h : Lib.IsBuilderF 31 5 B b (Lib.byteCells l) w) (hBw : B ≤ w.heap.size) :
    Calls Tryz.prog 21 #[.pointer (some ⟨b, 0, none⟩)] w fun e w' => e = .returned (.string ⟨l.toArray⟩) ∧ (Lib.IsBuilderF 31 5 B b (Lib.byteCells l) w' ∧ Below B w w' ∧ Lib.OthersKept 5 (some b) w w') := Any.Builder_String_any_k Tryz.lays169 Tryz.Builder_Extra_169 B b l w h hBw
def Tryz.lays242_ren : Go.Shelf.Ren := ⟨fun | 242 => 113 | 278 => 128 | n => n, fun | 37 => 29 | 21 => 21 | 51 => 59 | 4 => 4 | 5 => 5 | 46 => 91 | n => n, fun | n => n⟩
theorem Tryz.lays242 : Go.Proofs.Lays.n242 Tryz.prog Tryz.lays242_ren := {
  mixed := by kernel_rfl
  f242 := Tryz.func113.trans (congrArg some (by kernel_rfl))
  f278 := Tryz.func128.trans (congrArg some (by kernel_rfl))
  t4 := Tryz.underlying4
  a4 := Tryz.isAgg4
  z4 := Tryz.sizeOf4
  v4 := Tryz.zeroValue4
  t5 := Tryz.underlying5
  a5 := Tryz.isAgg5
  z5 := Tryz.sizeOf5
  v5 := Tryz.zeroValue5
  t21 := Tryz.underlying21
  a21 := Tryz.isAgg21
  z21 := Tryz.sizeOf21
  v21 := Tryz.zeroValue21
  t37 := Tryz.underlying29
  a37 := Tryz.isAgg29
  z37 := Tryz.sizeOf29
  v37 := Tryz.zeroValue29
  t46 := Tryz.underlying91
  a46 := Tryz.isAgg91
  z46 := Tryz.sizeOf91
  v46 := Tryz.zeroValue91
  t51 := Tryz.underlying59
  a51 := Tryz.isAgg59
  z51 := Tryz.sizeOf59
  v51 := Tryz.zeroValue59 }
open Go.RowKit in
theorem Tryz.utf8_AppendRune_row (B : Nat) (v : Value) (n : Nat) (xs : List Value) (r : Int) (hr0 : -2147483648 ≤ r) (hr1 : r ≤ 2147483647) (w : World) (hown : w.ownsRowF B 5 1 v n xs) (hlen : n + 4 ≤ 140737488355328) (hBw : B ≤ w.heap.size) :
    Calls Tryz.prog 113 #[v, .int .i32 r] w fun e w' => ∃ v', e = .returned v' ∧ w'.ownsRowF B 5 1 v' (n + (Lib.runeCells r).length) (xs ++ Lib.runeCells r) ∧ ∃ o, (w.alloc o).grownBy w' v.ownBlock := Any.utf8_AppendRune_row Tryz.lays242 (by kernel_rfl) B v n xs r hr0 hr1 w hown hlen hBw
def Tryz.laysC245_ren : Go.Shelf.Ren := ⟨fun | 245 => 66 | 279 => 87 | 280 => 88 | 281 => 89 | 282 => 90 | 316 => 103 | 171 => 105 | 205 => 104 | 243 => 124 | 246 => 136 | 283 => 139 | 284 => 140 | 285 => 141 | 286 => 142 | 129 => 146 | 317 => 145 | 318 => 147 | 319 => 148 | 320 => 149 | 337 => 150 | 338 => 151 | n => n, fun | 9 => 9 | 3 => 3 | 75 => 35 | 167 => 113 | 4 => 4 | 168 => 115 | 210 => 140 | 37 => 29 | 0 => 0 | 127 => 49 | 145 => 161 | 143 => 159 | 2 => 2 | 171 => 169 | 53 => 78 | 5 => 5 | 173 => 172 | 212 => 176 | 51 => 59 | 20 => 20 | 213 => 177 | 46 => 91 | 232 => 180 | 233 => 181 | 80 => 38 | n => n, fun | 15 => 5 | 16 => 6 | 17 => 7 | 18 => 8 | 19 => 9 | n => n⟩
theorem Tryz.laysC245 : Go.Proofs.LaysC.n245 Tryz.prog Tryz.laysC245_ren := {
  mixed := by kernel_rfl
  f129 := Tryz.func146.trans (congrArg some (by kernel_rfl))
  f171 := Tryz.func105.trans (congrArg some (by kernel_rfl))
  f205 := Tryz.func104.trans (congrArg some (by kernel_rfl))
  f243 := Tryz.func124.trans (congrArg some (by kernel_rfl))
  f245 := Tryz.func66.trans (congrArg some (by kernel_rfl))
  f246 := Tryz.func136.trans (congrArg some (by kernel_rfl))
  f279 := Tryz.func87.trans (congrArg some (by kernel_rfl))
  f280 := Tryz.func88.trans (congrArg some (by kernel_rfl))
  f281 := Tryz.func89.trans (congrArg some (by kernel_rfl))
  f282 := Tryz.func90.trans (congrArg some (by kernel_rfl))
  f283 := Tryz.func139.trans (congrArg some (by kernel_rfl))
  f284 := Tryz.func140.trans (congrArg some (by kernel_rfl))
  f285 := Tryz.func141.trans (congrArg some (by kernel_rfl))
  f286 := Tryz.func142.trans (congrArg some (by kernel_rfl))
  f316 := Tryz.func103.trans (congrArg some (by kernel_rfl))
  f317 := Tryz.func145.trans (congrArg some (by kernel_rfl))
  f318 := Tryz.func147.trans (congrArg some (by kernel_rfl))
  f319 := Tryz.func148.trans (congrArg some (by kernel_rfl))
  f320 := Tryz.func149.trans (congrArg some (by kernel_rfl))
  f337 := Tryz.func150.trans (congrArg some (by kernel_rfl))
  f338 := Tryz.func151.trans (congrArg some (by kernel_rfl))
  t0 := Tryz.underlying0
  a0 := Tryz.isAgg0
  z0 := Tryz.sizeOf0
  v0 := Tryz.zeroValue0
  t2 := Tryz.underlying2
  a2 := Tryz.isAgg2
  z2 := Tryz.sizeOf2
  v2 := Tryz.zeroValue2
  t3 := Tryz.underlying3
  a3 := Tryz.isAgg3
  z3 := Tryz.sizeOf3
  v3 := Tryz.zeroValue3
  t4 := Tryz.underlying4
  a4 := Tryz.isAgg4
  z4 := Tryz.sizeOf4
  v4 := Tryz.zeroValue4
  t5 := Tryz.underlying5
  a5 := Tryz.isAgg5
  z5 := Tryz.sizeOf5
  v5 := Tryz.zeroValue5
  t9 := Tryz.underlying9
  a9 := Tryz.isAgg9
  z9 := Tryz.sizeOf9
  v9 := Tryz.zeroValue9
  t20 := Tryz.underlying20
  a20 := Tryz.isAgg20
  z20 := Tryz.sizeOf20
  v20 := Tryz.zeroValue20
  t37 := Tryz.underlying29
  a37 := Tryz.isAgg29
  z37 := Tryz.sizeOf29
  v37 := Tryz.zeroValue29
  t46 := Tryz.underlying91
  a46 := Tryz.isAgg91
  z46 := Tryz.sizeOf91
  v46 := Tryz.zeroValue91
  t51 := Tryz.underlying59
  a51 := Tryz.isAgg59
  z51 := Tryz.sizeOf59
  v51 := Tryz.zeroValue59
  t53 := Tryz.underlying78
  a53 := Tryz.isAgg78
  z53 := Tryz.sizeOf78
  v53 := Tryz.zeroValue78
  t75 := Tryz.underlying35
  a75 := Tryz.isAgg35
  z75 := Tryz.sizeOf35
  v75 := Tryz.zeroValue35
  t127 := Tryz.underlying49
  a127 := Tryz.isAgg49
  z127 := Tryz.sizeOf49
  v127 := Tryz.zeroValue49
  t143 := Tryz.underlying159
  a143 := Tryz.isAgg159
  z143 := Tryz.sizeOf159
  v143 := Tryz.zeroValue159
  t145 := Tryz.underlying161
  a145 := Tryz.isAgg161
  z145 := Tryz.sizeOf161
  v145 := Tryz.zeroValue161
  t167 := Tryz.underlying113
  a167 := Tryz.isAgg113
  z167 := Tryz.sizeOf113
  v167 := Tryz.zeroValue113
  t168 := Tryz.underlying115
  a168 := Tryz.isAgg115
  z168 := Tryz.sizeOf115
  v168 := Tryz.zeroValue115
  t171 := Tryz.underlying169
  a171 := Tryz.isAgg169
  z171 := Tryz.sizeOf169
  v171 := Tryz.zeroValue169
  t173 := Tryz.underlying172
  a173 := Tryz.isAgg172
  z173 := Tryz.sizeOf172
  v173 := Tryz.zeroValue172
  t210 := Tryz.underlying140
  a210 := Tryz.isAgg140
  z210 := Tryz.sizeOf140
  v210 := Tryz.zeroValue140
  t212 := Tryz.underlying176
  a212 := Tryz.isAgg176
  z212 := Tryz.sizeOf176
  v212 := Tryz.zeroValue176
  t213 := Tryz.underlying177
  a213 := Tryz.isAgg177
  z213 := Tryz.sizeOf177
  t232 := Tryz.underlying180
  a232 := Tryz.isAgg180
  z232 := Tryz.sizeOf180
  v232 := Tryz.zeroValue180
  t233 := Tryz.underlying181
  a233 := Tryz.isAgg181
  z233 := Tryz.sizeOf181
  v233 := Tryz.zeroValue181
  g15 := by kernel_rfl
  g16 := by kernel_rfl
  g17 := by kernel_rfl
  g18 := by kernel_rfl
  g19 := by kernel_rfl
  t80 := Tryz.underlying38
  a80 := Tryz.isAgg38
  z80 := Tryz.sizeOf38
  v80 := Tryz.zeroValue38
  i0 := by kernel_rfl
  i2 := by kernel_rfl
  i3 := by kernel_rfl
  i4 := by kernel_rfl
  i5 := by kernel_rfl
  i9 := by kernel_rfl
  i20 := by kernel_rfl
  i37 := by kernel_rfl
  i46 := by kernel_rfl
  i51 := by kernel_rfl
  i53 := by kernel_rfl
  i75 := by kernel_rfl
  i80 := by kernel_rfl
  i127 := by kernel_rfl
  i143 := by kernel_rfl
  i145 := by kernel_rfl
  i167 := by kernel_rfl
  i168 := by kernel_rfl
  i171 := by kernel_rfl
  i173 := by kernel_rfl
  i210 := by kernel_rfl
  i212 := by kernel_rfl
  i232 := by kernel_rfl
  i233 := by kernel_rfl
  m15 := by kernel_rfl
  m16 := by kernel_rfl
  m17 := by kernel_rfl
  m18 := by kernel_rfl
  m19 := by kernel_rfl
  c0 := by kernel_rfl
  c2 := by kernel_rfl
  c3 := by kernel_rfl
  c4 := by kernel_rfl
  c5 := by kernel_rfl
  c9 := by kernel_rfl
  c20 := by kernel_rfl
  c37 := by kernel_rfl
  c46 := by kernel_rfl
  c51 := by kernel_rfl
  c53 := by kernel_rfl
  c75 := by kernel_rfl
  c80 := by kernel_rfl
  c127 := by kernel_rfl
  c143 := by kernel_rfl
  c145 := by kernel_rfl
  c167 := by kernel_rfl
  c168 := by kernel_rfl
  c171 := by kernel_rfl
  c173 := by kernel_rfl
  c210 := by kernel_rfl
  c212 := by kernel_rfl
  c213 := by kernel_rfl
  c232 := by kernel_rfl
  c233 := by kernel_rfl }
open Go.RowKit in
theorem Tryz.strconv_toError_syntax (fn s : ByteArray) (base bits : Int) (ev : Value) (w : World) (hlim : s.size ≤ 281474976710656) (hv : w.cell? ⟨5, 0, none⟩ = some ev) (hev : ev = .nilIface ∨ ∃ te pe, ev = .iface te pe) :
    Calls Tryz.prog 66 #[.string fn, .string s, .int .i64 base, .int .i64 bits, .iface 113 (.int .i64 2)] w fun e w' => ∃ N, e = .returned (.iface 115 (.pointer (some ⟨N, 0, none⟩))) ∧ w.heap.size ≤ N ∧ w'.heap[N]? = some (.cells #[.string fn, .string s, ev] 140 (0, 0)) ∧ Below w.heap.size w w' := Any.strconv_toError_syntax Tryz.laysC245 fn s base bits ev w hlim hv hev
def Tryz.lays219_ren : Go.Shelf.Ren := ⟨fun | 219 => 44 | 217 => 60 | 225 => 61 | 224 => 62 | 267 => 63 | 266 => 83 | 314 => 84 | n => n, fun | 9 => 9 | 3 => 3 | 4 => 4 | 5 => 5 | 46 => 91 | 146 => 111 | 51 => 59 | n => n, fun | 1 => 1 | n => n⟩
theorem Tryz.lays219 : Go.Proofs.Lays.n219 Tryz.prog Tryz.lays219_ren := {
  mixed := by kernel_rfl
  f217 := Tryz.func60.trans (congrArg some (by kernel_rfl))
  f219 := Tryz.func44.trans (congrArg some (by kernel_rfl))
  f224 := Tryz.func62.trans (congrArg some (by kernel_rfl))
  f225 := Tryz.func61.trans (congrArg some (by kernel_rfl))
  f266 := Tryz.func83.trans (congrArg some (by kernel_rfl))
  f267 := Tryz.func63.trans (congrArg some (by kernel_rfl))
  f314 := Tryz.func84.trans (congrArg some (by kernel_rfl))
  t3 := Tryz.underlying3
  a3 := Tryz.isAgg3
  z3 := Tryz.sizeOf3
  v3 := Tryz.zeroValue3
  t4 := Tryz.underlying4
  a4 := Tryz.isAgg4
  z4 := Tryz.sizeOf4
  v4 := Tryz.zeroValue4
  t5 := Tryz.underlying5
  a5 := Tryz.isAgg5
  z5 := Tryz.sizeOf5
  v5 := Tryz.zeroValue5
  t9 := Tryz.underlying9
  a9 := Tryz.isAgg9
  z9 := Tryz.sizeOf9
  v9 := Tryz.zeroValue9
  t46 := Tryz.underlying91
  a46 := Tryz.isAgg91
  z46 := Tryz.sizeOf91
  v46 := Tryz.zeroValue91
  t51 := Tryz.underlying59
  a51 := Tryz.isAgg59
  z51 := Tryz.sizeOf59
  v51 := Tryz.zeroValue59
  t146 := Tryz.underlying111
  a146 := Tryz.isAgg111
  z146 := Tryz.sizeOf111
  v146 := Tryz.zeroValue111
  g1 := by kernel_rfl }
open Go.RowKit Go.Lib in
theorem Tryz.stringslite_Index_one (s : ByteArray) (c : UInt8) (w : World) :
    Calls Tryz.prog 44 #[.string s, .string ⟨#[c]⟩] w fun e w' => e = .returned (.int .i64 (Lib.indexByte s.data.toList c)) ∧ w' = w := Any.stringslite_Index_one Tryz.lays219 s c w
def Tryz.lays99_ren : Go.Shelf.Ren := ⟨fun | 99 => 122 | 206 => 64 | n => n, fun | 9 => 9 | 4 => 4 | 3 => 3 | n => n, fun | n => n⟩
theorem Tryz.lays99 : Go.Proofs.Lays.n99 Tryz.prog Tryz.lays99_ren := {
  mixed := by kernel_rfl
  f99 := Tryz.func122.trans (congrArg some (by kernel_rfl))
  f206 := Tryz.func64.trans (congrArg some (by kernel_rfl))
  t3 := Tryz.underlying3
  a3 := Tryz.isAgg3
  z3 := Tryz.sizeOf3
  v3 := Tryz.zeroValue3
  t4 := Tryz.underlying4
  a4 := Tryz.isAgg4
  z4 := Tryz.sizeOf4
  v4 := Tryz.zeroValue4
  t9 := Tryz.underlying9
  a9 := Tryz.isAgg9
  z9 := Tryz.sizeOf9
  v9 := Tryz.zeroValue9 }
open Go.RowKit Go.Lib in
theorem Tryz.strings_HasPrefix (s p : ByteArray) (w : World) :
    Calls Tryz.prog 122 #[.string s, .string p] w fun e w' => e = .returned (.bool (Lib.hasPrefix s.data.toList p.data.toList)) ∧ w' = w := Any.strings_HasPrefix Tryz.lays99 s p w
def Tryz.lays155_ren : Go.Shelf.Ren := ⟨fun | 155 => 27 | 154 => 40 | 138 => 52 | 165 => 53 | 143 => 54 | 166 => 20 | 197 => 55 | 169 => 21 | 195 => 77 | 218 => 78 | 240 => 34 | 241 => 79 | 219 => 44 | 260 => 80 | 276 => 45 | 277 => 100 | 217 => 60 | 225 => 61 | 224 => 62 | 267 => 63 | 266 => 83 | 314 => 84 | n => n, fun | 9 => 9 | 3 => 3 | 4 => 4 | 72 => 31 | 0 => 0 | 76 => 36 | 105 => 84 | 21 => 21 | 5 => 5 | 70 => 28 | 20 => 20 | 37 => 29 | 75 => 35 | 127 => 49 | 164 => 76 | 46 => 91 | 119 => 102 | 139 => 138 | 138 => 137 | 146 => 111 | 51 => 59 | 80 => 38 | n => n, fun | 1 => 1 | 3 => 3 | 4 => 4 | n => n⟩
theorem Tryz.lays155 : Go.Proofs.Lays.n155 Tryz.prog Tryz.lays155_ren := {
  mixed := by kernel_rfl
  f138 := Tryz.func52.trans (congrArg some (by kernel_rfl))
  f143 := Tryz.func54.trans (congrArg some (by kernel_rfl))
  f154 := Tryz.func40.trans (congrArg some (by kernel_rfl))
  f155 := Tryz.func27.trans (congrArg some (by kernel_rfl))
  f165 := Tryz.func53.trans (congrArg some (by kernel_rfl))
  f166 := Tryz.func20.trans (congrArg some (by kernel_rfl))
  f169 := Tryz.func21.trans (congrArg some (by kernel_rfl))
  f195 := Tryz.func77.trans (congrArg some (by kernel_rfl))
  f197 := Tryz.func55.trans (congrArg some (by kernel_rfl))
  f217 := Tryz.func60.trans (congrArg some (by kernel_rfl))
  f218 := Tryz.func78.trans (congrArg some (by kernel_rfl))
  f219 := Tryz.func44.trans (congrArg some (by kernel_rfl))
  f224 := Tryz.func62.trans (congrArg some (by kernel_rfl))
  f225 := Tryz.func61.trans (congrArg some (by kernel_rfl))
  f240 := Tryz.func34.trans (congrArg some (by kernel_rfl))
  f241 := Tryz.func79.trans (congrArg some (by kernel_rfl))
  f260 := Tryz.func80.trans (congrArg some (by kernel_rfl))
  f266 := Tryz.func83.trans (congrArg some (by kernel_rfl))
  f267 := Tryz.func63.trans (congrArg some (by kernel_rfl))
  f276 := Tryz.func45.trans (congrArg some (by kernel_rfl))
  f277 := Tryz.func100.trans (congrArg some (by kernel_rfl))
  f314 := Tryz.func84.trans (congrArg some (by kernel_rfl))
  t0 := Tryz.underlying0
  a0 := Tryz.isAgg0
  z0 := Tryz.sizeOf0
  v0 := Tryz.zeroValue0
  t3 := Tryz.underlying3
  a3 := Tryz.isAgg3
  z3 := Tryz.sizeOf3
  v3 := Tryz.zeroValue3
  t4 := Tryz.underlying4
  a4 := Tryz.isAgg4
  z4 := Tryz.sizeOf4
  v4 := Tryz.zeroValue4
  t5 := Tryz.underlying5
  a5 := Tryz.isAgg5
  z5 := Tryz.sizeOf5
  v5 := Tryz.zeroValue5
  t9 := Tryz.underlying9
  a9 := Tryz.isAgg9
  z9 := Tryz.sizeOf9
  v9 := Tryz.zeroValue9
  t20 := Tryz.underlying20
  a20 := Tryz.isAgg20
  z20 := Tryz.sizeOf20
  v20 := Tryz.zeroValue20
  t21 := Tryz.underlying21
  a21 := Tryz.isAgg21
  z21 := Tryz.sizeOf21
  v21 := Tryz.zeroValue21
  t37 := Tryz.underlying29
  a37 := Tryz.isAgg29
  z37 := Tryz.sizeOf29
  v37 := Tryz.zeroValue29
  t46 := Tryz.underlying91
  a46 := Tryz.isAgg91
  z46 := Tryz.sizeOf91
  v46 := Tryz.zeroValue91
  t51 := Tryz.underlying59
  a51 := Tryz.isAgg59
  z51 := Tryz.sizeOf59
  v51 := Tryz.zeroValue59
  t70 := Tryz.underlying28
  a70 := Tryz.isAgg28
  z70 := Tryz.sizeOf28
  v70 := Tryz.zeroValue28
  t72 := Tryz.underlying31
  a72 := Tryz.isAgg31
  z72 := Tryz.sizeOf31
  v72 := Tryz.zeroValue31
  t75 := Tryz.underlying35
  a75 := Tryz.isAgg35
  z75 := Tryz.sizeOf35
  v75 := Tryz.zeroValue35
  t76 := Tryz.underlying36
  a76 := Tryz.isAgg36
  z76 := Tryz.sizeOf36
  v76 := Tryz.zeroValue36
  t105 := Tryz.underlying84
  a105 := Tryz.isAgg84
  z105 := Tryz.sizeOf84
  v105 := Tryz.zeroValue84
  t119 := Tryz.underlying102
  a119 := Tryz.isAgg102
  z119 := Tryz.sizeOf102
  t127 := Tryz.underlying49
  a127 := Tryz.isAgg49
  z127 := Tryz.sizeOf49
  v127 := Tryz.zeroValue49
  t138 := Tryz.underlying137
  a138 := Tryz.isAgg137
  z138 := Tryz.sizeOf137
  v138 := Tryz.zeroValue137
  t139 := Tryz.underlying138
  a139 := Tryz.isAgg138
  z139 := Tryz.sizeOf138
  v139 := Tryz.zeroValue138
  t146 := Tryz.underlying111
  a146 := Tryz.isAgg111
  z146 := Tryz.sizeOf111
  v146 := Tryz.zeroValue111
  t164 := Tryz.underlying76
  a164 := Tryz.isAgg76
  z164 := Tryz.sizeOf76
  v164 := Tryz.zeroValue76
  g1 := by kernel_rfl
  g3 := by kernel_rfl
  g4 := by kernel_rfl }
theorem Tryz.Builder_Extra_155 : Builder.Extra Tryz.prog Tryz.lays155_ren := {
  sizeBuilder := by kernel_rfl
  liesBuilder := by kernel_rfl
  t5 := Tryz.underlying5
  a5 := Tryz.isAgg5
  z5 := Tryz.sizeOf5
  v5 := Tryz.zeroValue5
  infoByte := by kernel_rfl
  cellsByte := by kernel_rfl
  sizeByte := by kernel_rfl
  neB5 := by decide }
open Go.RowKit Go.Lib in
theorem Tryz.strings_ReplaceAll (s old new : ByteArray) (m : Int) (w : World) (hs : s.size < 4294967281) (hm : w.cell? ⟨1, 0, none⟩ = some (.int .i64 m)) (h1 : 1 ≤ old.size) (hlen : s.size + Lib.countB s old * new.size ≤ 140737488355328) :
    Calls Tryz.prog 27 #[.string s, .string old, .string new] w fun e w' =>
      e = .returned (.string ⟨(Lib.replaceAll s.data.toList old.data.toList new.data.toList).toArray⟩) ∧ Below w.heap.size w w' := Any.strings_ReplaceAll Tryz.lays155 Tryz.Builder_Extra_155 s old new m w hs hm h1 hlen
def Tryz.lays260_ren : Go.Shelf.Ren := ⟨fun | 260 => 80 | n => n, fun | 9 => 9 | 21 => 21 | 3 => 3 | 4 => 4 | 5 => 5 | 119 => 102 | 0 => 0 | 46 => 91 | 139 => 138 | 138 => 137 | n => n, fun | 3 => 3 | 4 => 4 | n => n⟩
theorem Tryz.lays260 : Go.Proofs.Lays.n260 Tryz.prog Tryz.lays260_ren := {
  mixed := by kernel_rfl
  f260 := Tryz.func80.trans (congrArg some (by kernel_rfl))
  t0 := Tryz.underlying0
  a0 := Tryz.isAgg0
  z0 := Tryz.sizeOf0
  v0 := Tryz.zeroValue0
  t3 := Tryz.underlying3
  a3 := Tryz.isAgg3
  z3 := Tryz.sizeOf3
  v3 := Tryz.zeroValue3
  t4 := Tryz.underlying4
  a4 := Tryz.isAgg4
  z4 := Tryz.sizeOf4
  v4 := Tryz.zeroValue4
  t5 := Tryz.underlying5
  a5 := Tryz.isAgg5
  z5 := Tryz.sizeOf5
  v5 := Tryz.zeroValue5
  t9 := Tryz.underlying9
  a9 := Tryz.isAgg9
  z9 := Tryz.sizeOf9
  v9 := Tryz.zeroValue9
  t21 := Tryz.underlying21
  a21 := Tryz.isAgg21
  z21 := Tryz.sizeOf21
  v21 := Tryz.zeroValue21
  t46 := Tryz.underlying91
  a46 := Tryz.isAgg91
  z46 := Tryz.sizeOf91
  v46 := Tryz.zeroValue91
  t119 := Tryz.underlying102
  a119 := Tryz.isAgg102
  z119 := Tryz.sizeOf102
  t138 := Tryz.underlying137
  a138 := Tryz.isAgg137
  z138 := Tryz.sizeOf137
  v138 := Tryz.zeroValue137
  t139 := Tryz.underlying138
  a139 := Tryz.isAgg138
  z139 := Tryz.sizeOf138
  v139 := Tryz.zeroValue138
  g3 := by kernel_rfl
  g4 := by kernel_rfl }
end Go.Proofs
namespace Go.Proofs.YtkfcbafjcjmfnaaGreatDoor.Repl
open Go.RowKit Go.Proofs.YtkfcbafjcjmfnaaGreatDoor.Row
set_option linter.unusedVariables false
set_option linter.unusedSimpArgs false
theorem bdrewN {B : Nat} {w0 w : World} (h : Below B w0 w) (n : Nat) : Below B w0 (w.drewN n) := ⟨h.os, h.tape, h.output, h.size, h.block⟩
theorem infoByte : (Tryz.prog.info? 5).map (fun i => (i.zero, i.size, i.bytes)) = some (some (.int .u8 0), 1, 1) := by kernel_rfl
def Fill (w : World) (g n : Nat) (l : List UInt8) : Prop :=
  ∃ C : Array Value, w.heap[g]? = some (.cells C 5 (0, 0)) ∧ C.size = n ∧ C.toList.take l.length = Lib.byteCells l
theorem Fill.cell {w : World} {g n : Nat} {l : List UInt8} (h : Fill w g n l) (j : Nat) (hj : j < n) : ∃ v, w.cell? ⟨g, j, none⟩ = some v := by
  obtain ⟨C, hC, hz, _⟩ := h
  exact ⟨_, by rw [cell_of_row _ _ _ _ _ _ hC]; exact Array.getElem?_eq_getElem (by omega)⟩
theorem Fill.free {w : World} {g n : Nat} {l : List UInt8} (h : Fill w g n l) (j : Nat) : w.frozen? ⟨g, j, none⟩ = false := by
  obtain ⟨C, hC, _⟩ := h
  simp [World.frozen?, hC]
theorem Fill.put {w : World} {g n : Nat} {l : List UInt8} (h : Fill w g n l) (c : UInt8) (hl : l.length < n) : Fill (w.setCell ⟨g, l.length, none⟩ (.int .u8 (c.toNat : Int))) g n (l ++ [c]) := by
  obtain ⟨C, hC, hz, ht⟩ := h
  refine ⟨_, setCell_heap_at _ _ _ _ _ _ _ hC, by simpa using hz, ?_⟩
  rw [Array.toList_setIfInBounds, List.length_append, List.length_singleton, List.take_set, List.take_succ_eq_append_getElem (by simpa [hz] using hl), ht]
  have hb : (Lib.byteCells l).length = l.length := by simp [Lib.byteCells]
  rw [List.set_append_right _ _ (by omega), hb, Nat.sub_self]
  simp [Lib.byteCells]
theorem Fill.back {w : World} {g n : Nat} {l : List UInt8} (h : Fill w g n l) (hn : l.length = n) :
    (convert 29 9 (.slice (some ⟨g, 0, none⟩) n n)).run Tryz.prog w = .ok (.string ⟨l.toArray⟩) w := by
  subst hn
  obtain ⟨C, hC, hz, ht⟩ := h
  refine run_convert_bytes_back (P := Tryz.prog) w 29 9 5 ⟨g, 0, none⟩ _ l Tryz.underlying29 Tryz.underlying5 Tryz.underlying9 (fun j hj => ?_)
  rw [show (⟨g, 0, none⟩ : Addr).add j = ⟨g, j, none⟩ from by unfold Addr.add; split <;> simp_all, cell_of_row _ _ _ _ _ _ hC]
  have h3 : (C.toList.take l.length)[j]? = (Lib.byteCells l)[j]? := by rw [ht]
  rw [List.getElem?_take_of_lt hj] at h3
  simp [Lib.byteCells, List.getElem?_eq_getElem hj] at h3
  simpa using h3
theorem Part.at {M R : Nat} {w : World} {ps : Pairs} (h : Part M w R ps) (b : Nat) (hb : b < 256) : ∃ v, w.cell? ⟨R, b, none⟩ = some v ∧ RepCell M w (look ps b) v := by
  obtain ⟨C, tv, _, hC, _, h6, hown, hc⟩ := h
  obtain ⟨v, hv, hr⟩ := hc b hb
  exact ⟨v, by rw [cell_of_row _ _ _ _ _ _ hC]; exact hv, hr⟩
end Go.Proofs.YtkfcbafjcjmfnaaGreatDoor.Repl
namespace Go.Proofs.YtkfcbafjcjmfnaaGreatDoor.Gen
open Go.RowKit Go.Proofs.YtkfcbafjcjmfnaaGreatDoor.Row Go.Proofs.YtkfcbafjcjmfnaaGreatDoor.Repl
set_option linter.unusedVariables false
set_option linter.unusedSimpArgs false
def keys : List ByteArray := [⟨#[38]⟩, ⟨#[60]⟩, ⟨#[62]⟩, ⟨#[194, 160]⟩]
def vals : List ByteArray := [⟨#[38, 97, 109, 112, 59]⟩, ⟨#[38, 108, 116, 59]⟩, ⟨#[38, 103, 116, 59]⟩, ⟨#[38, 110, 98, 115, 112, 59]⟩]
def oldnewL : List ByteArray := [⟨#[38]⟩, ⟨#[38, 97, 109, 112, 59]⟩, ⟨#[60]⟩, ⟨#[38, 108, 116, 59]⟩, ⟨#[62]⟩, ⟨#[38, 103, 116, 59]⟩, ⟨#[194, 160]⟩, ⟨#[38, 110, 98, 115, 112, 59]⟩]
theorem oldnewL_at (k : Nat) (h : k < 4) : oldnewL[2 * k]? = keys[k]? ∧ oldnewL[2 * k + 1]? = vals[k]? := by
  match k, h with
  | 0, _ => exact ⟨rfl, rfl⟩
  | 1, _ => exact ⟨rfl, rfl⟩
  | 2, _ => exact ⟨rfl, rfl⟩
  | 3, _ => exact ⟨rfl, rfl⟩
def LiesL (w : World) (g : Nat) : Prop := ∀ j v, oldnewL[j]? = some v → w.cell? ⟨g, j, none⟩ = some (.string v)
def marks (l : List UInt8) : Nat → Nat := fun b => if l.any (fun c => c.toNat == b) then 1 else 0
theorem marks_snoc (l : List UInt8) (c : UInt8) : marks (l ++ [c]) = upd (marks l) c.toNat 1 := by
  funext b
  unfold marks upd
  by_cases h : b = c.toNat
  · subst h
    rw [if_pos rfl, List.any_append]
    simp
  · rw [if_neg h, List.any_append]
    have : (c.toNat == b) = false := by simpa using fun e => h e.symm
    simp [this]
def upto (k : Nat) : List UInt8 := ((keys.take k).map fun x => x.data.toList).flatten
theorem upto_snoc (k : Nat) (h : k < keys.length) : upto (k + 1) = upto k ++ (keys[k]).data.toList := by
  unfold upto
  rw [List.take_succ_eq_append_getElem h, List.map_append, List.flatten_append]
  simp
def m0 : Nat → Nat := marks (upto 4)
def sumTo (m : Nat → Nat) : Nat → Nat
  | 0 => 0
  | b + 1 => sumTo m b + m b
def idx (b : Nat) : Nat → Nat := fun c => if c < b then (if m0 c = 0 then 5 else sumTo m0 c) else m0 c
theorem idx_step (b : Nat) : idx (b + 1) = upd (idx b) b (if m0 b = 0 then 5 else sumTo m0 b) := by
  funext c
  unfold idx upd
  by_cases h : c = b
  · subst h
    rw [if_pos (by omega), if_pos rfl]
  · rw [if_neg h]
    by_cases h2 : c < b
    · simp only [if_pos h2, if_pos (show c < b + 1 by omega)]
    · simp only [if_neg h2, if_neg (show ¬ c < b + 1 by omega)]
theorem sum_le (b : Nat) (m : Nat → Nat) (h : ∀ b, m b ≤ 1) : sumTo m b ≤ b := by
  induction b with
  | zero => exact Nat.le_refl _
  | succ b ih => show sumTo m b + m b ≤ b + 1; have := h b; omega
theorem m0_le (b : Nat) : m0 b ≤ 1 := by
  unfold m0 marks
  split <;> omega
theorem sum_m0 : sumTo m0 256 = 5 := by kernel_rfl
theorem sum_mono (a b : Nat) (h : a ≤ b) (m : Nat → Nat) : sumTo m a ≤ sumTo m b := by
  induction b with
  | zero => obtain rfl : a = 0 := by omega
            exact Nat.le_refl _
  | succ b ih =>
    rcases Nat.lt_or_ge a (b + 1) with h1 | h1
    · have := ih (by omega)
      show sumTo m a ≤ sumTo m b + m b
      omega
    · obtain rfl : a = b + 1 := by omega
      exact Nat.le_refl _
def mapping : Nat → Nat := idx 256
theorem mapping_at : mapping 38 = 0 ∧ mapping 60 = 1 ∧ mapping 62 = 2 ∧ mapping 160 = 3 ∧ mapping 194 = 4 := ⟨by kernel_rfl, by kernel_rfl, by kernel_rfl, by kernel_rfl, by kernel_rfl⟩
def ptr (N : Nat) : Value := .pointer (some ⟨N, 0, none⟩)
def Gen (M : Nat) (w : World) (R : Nat) : Prop := ∃ T a b c d e, M ≤ R ∧ M ≤ T ∧ M ≤ a ∧ M ≤ b ∧ M ≤ c ∧ M ≤ d ∧ M ≤ e ∧ Rt w R (.slice (some ⟨T, 0, none⟩) 5 5) 5 mapping ∧ Tbl w T [ptr a, ptr b, ptr c, .pointer none, ptr d] ∧
  Nd w a ⟨#[38, 97, 109, 112, 59]⟩ 8 ⟨#[]⟩ (.pointer none) ∧ Nd w b ⟨#[38, 108, 116, 59]⟩ 6 ⟨#[]⟩ (.pointer none) ∧ Nd w c ⟨#[38, 103, 116, 59]⟩ 4 ⟨#[]⟩ (.pointer none) ∧ Nd w d ⟨#[]⟩ 0 ⟨#[160]⟩ (ptr e) ∧ Nd w e ⟨#[38, 110, 98, 115, 112, 59]⟩ 2 ⟨#[]⟩ (.pointer none)
theorem infoPtr : (Tryz.prog.info? 128).map (fun i => (i.zero, i.size, i.bytes)) = some (some (.pointer none), 1, 8) := by kernel_rfl
theorem make_tab (w : World) : (Instr.makeSlice 129 (.int .i64 5) (.int .i64 5)).run Tryz.prog w = .ok (.slice (some ⟨w.heap.size, 0, none⟩) 5 5) (w.alloc (.cells #[.pointer none, .pointer none, .pointer none, .pointer none, .pointer none] 128)) := by
  obtain ⟨i0, hi, hz0, hz1, hz2⟩ := info_parts infoPtr
  have hr := run_make (P := Tryz.prog) w 129 128 i0 _ Tryz.underlying129 hi hz0 .i64 .i64 5 5 (by omega) (by omega) (by rw [hz2]; omega) (by omega)
  rw [hr, hz1, show madeCells (Value.pointer none).cells (Int.toNat 5 * 1) = #[.pointer none, .pointer none, .pointer none, .pointer none, .pointer none] from by kernel_rfl]
  rfl
def nilp : Value := .pointer none
def at_ (k i N : Nat) : Value := if i < k then ptr N else nilp
def Tr (M : Nat) (w : World) (R k : Nat) : Prop := ∃ T a b c d e, M ≤ R ∧ M ≤ T ∧ M ≤ a ∧ M ≤ b ∧ M ≤ c ∧ M ≤ d ∧ M ≤ e ∧ Rt w R (.slice (some ⟨T, 0, none⟩) 5 5) 5 mapping ∧ Tbl w T [at_ k 0 a, at_ k 1 b, at_ k 2 c, nilp, at_ k 3 d] ∧
  (0 < k → Nd w a ⟨#[38, 97, 109, 112, 59]⟩ 8 ⟨#[]⟩ (.pointer none)) ∧ (1 < k → Nd w b ⟨#[38, 108, 116, 59]⟩ 6 ⟨#[]⟩ (.pointer none)) ∧ (2 < k → Nd w c ⟨#[38, 103, 116, 59]⟩ 4 ⟨#[]⟩ (.pointer none)) ∧
  (3 < k → Nd w d ⟨#[]⟩ 0 ⟨#[160]⟩ (ptr e) ∧ Nd w e ⟨#[38, 110, 98, 115, 112, 59]⟩ 2 ⟨#[]⟩ (.pointer none))
theorem Tr.gen {M : Nat} {w : World} {R : Nat} (h : Tr M w R 4) : Gen M w R := by
  obtain ⟨T, a, b, c, d, e, h1, h2, h3, h4, h5, h6, h7, hR, hT, n1, n2, n3, n4⟩ := h
  exact ⟨T, a, b, c, d, e, h1, h2, h3, h4, h5, h6, h7, hR, hT, n1 (by decide), n2 (by decide), n3 (by decide), (n4 (by decide)).1, (n4 (by decide)).2⟩
theorem nd_but {T x : Nat} {w w' : World} {qs : List Value} {val pre : ByteArray} {p : Int} {next : Value} (h : But T w w') (hT : Tbl w T qs) (hn : Nd w x val p pre next) : Nd w' x val p pre next := by
  refine hn.of (h.block x ?_ hn.lt)
  rintro rfl
  have h1 : w.heap[x]? = _ := hn
  have h2 := h1.symm.trans hT.1
  injection h2 with h2
  injection h2 with _ h2
  exact absurd h2 (by decide)
theorem rt_but {T R : Nat} {w w' : World} {qs : List Value} {tb : Value} {ts : Int} {m : Nat → Nat} (h : But T w w') (hT : Tbl w T qs) (hn : Rt w R tb ts m) : Rt w' R tb ts m := by
  refine hn.of (h.block R ?_ hn.lt)
  rintro rfl
  have h1 : w.heap[R]? = _ := hn
  have h2 := h1.symm.trans hT.1
  injection h2 with h2
  injection h2 with _ h2
  exact absurd h2 (by decide)
theorem But.below {T M : Nat} {w w' : World} (h : But T w w') (hM : M ≤ T) (hw : M ≤ w.heap.size) : Below M w w' := ⟨h.os, h.tape, h.output, h.size, fun k hk => h.block k (by omega) (by omega)⟩
attribute [local irreducible] mapping
theorem add_step (M R k : Nat) (hk : k < 4) (key val : ByteArray) (hkey : oldnewL[2 * k]? = some key) (hval : oldnewL[2 * k + 1]? = some val) (p : Int) (hp : p = 8 - 2 * (k : Int)) (w : World) (hT : Tr M w R k) :
    Calls Tryz.prog 99 #[.pointer (some ⟨R, 0, none⟩), .string key, .string val, .int .i64 p, .pointer (some ⟨R, 0, none⟩)] w fun e w' => e = .returned (.tuple #[]) ∧ Tr M w' R (k + 1) ∧ Below M w w' := by
  obtain ⟨T, a, b, c, d, e, h1, h2, h3, h4, h5, h6, h7, hR, hTb, n1, n2, n3, n4⟩ := hT
  have hlt := hTb.lt
  obtain ⟨m1, m2, m3, m4, m5⟩ := mapping_at
  match k, hk with
  | 0, _ =>
    obtain rfl : (⟨#[38]⟩ : ByteArray) = key := Option.some.inj hkey
    obtain rfl : (⟨#[38, 97, 109, 112, 59]⟩ : ByteArray) = val := Option.some.inj hval
    obtain rfl : p = 8 := hp
    refine (add_root R T 0 ⟨#[38]⟩ ⟨#[38, 97, 109, 112, 59]⟩ 8 mapping _ w (by decide) hR hTb m1 (by decide) rfl (fun N _ w' => Nd w' N ⟨#[38, 97, 109, 112, 59]⟩ 8 ⟨#[]⟩ (.pointer none)) (fun N W hN => add_end N R ⟨#[38, 97, 109, 112, 59]⟩ ⟨#[]⟩ 8 (.pointer none) W hN)).mono ?_
    rintro e' w' ⟨rfl, ⟨_, _, hn⟩, ht, hb⟩
    exact ⟨rfl, ⟨T, w.heap.size, b, c, d, e, h1, h2, by omega, h4, h5, h6, h7, rt_but hb hTb hR, ht, fun _ => hn, fun h => absurd h (by decide), fun h => absurd h (by decide), fun h => absurd h (by decide)⟩, hb.below h2 (by omega)⟩
  | 1, _ =>
    obtain rfl : (⟨#[60]⟩ : ByteArray) = key := Option.some.inj hkey
    obtain rfl : (⟨#[38, 108, 116, 59]⟩ : ByteArray) = val := Option.some.inj hval
    obtain rfl : p = 6 := hp
    refine (add_root R T 1 ⟨#[60]⟩ ⟨#[38, 108, 116, 59]⟩ 6 mapping _ w (by decide) hR hTb m2 (by decide) rfl (fun N _ w' => Nd w' N ⟨#[38, 108, 116, 59]⟩ 6 ⟨#[]⟩ (.pointer none)) (fun N W hN => add_end N R ⟨#[38, 108, 116, 59]⟩ ⟨#[]⟩ 6 (.pointer none) W hN)).mono ?_
    rintro e' w' ⟨rfl, ⟨_, _, hn⟩, ht, hb⟩
    exact ⟨rfl, ⟨T, a, w.heap.size, c, d, e, h1, h2, h3, by omega, h5, h6, h7, rt_but hb hTb hR, ht, fun _ => nd_but hb hTb (n1 (by decide)), fun _ => hn, fun h => absurd h (by decide), fun h => absurd h (by decide)⟩, hb.below h2 (by omega)⟩
  | 2, _ =>
    obtain rfl : (⟨#[62]⟩ : ByteArray) = key := Option.some.inj hkey
    obtain rfl : (⟨#[38, 103, 116, 59]⟩ : ByteArray) = val := Option.some.inj hval
    obtain rfl : p = 4 := hp
    refine (add_root R T 2 ⟨#[62]⟩ ⟨#[38, 103, 116, 59]⟩ 4 mapping _ w (by decide) hR hTb m3 (by decide) rfl (fun N _ w' => Nd w' N ⟨#[38, 103, 116, 59]⟩ 4 ⟨#[]⟩ (.pointer none)) (fun N W hN => add_end N R ⟨#[38, 103, 116, 59]⟩ ⟨#[]⟩ 4 (.pointer none) W hN)).mono ?_
    rintro e' w' ⟨rfl, ⟨_, _, hn⟩, ht, hb⟩
    exact ⟨rfl, ⟨T, a, b, w.heap.size, d, e, h1, h2, h3, h4, by omega, h6, h7, rt_but hb hTb hR, ht, fun _ => nd_but hb hTb (n1 (by decide)), fun _ => nd_but hb hTb (n2 (by decide)), fun _ => hn, fun h => absurd h (by decide)⟩, hb.below h2 (by omega)⟩
  | 3, _ =>
    obtain rfl : (⟨#[194, 160]⟩ : ByteArray) = key := Option.some.inj hkey
    obtain rfl : (⟨#[38, 110, 98, 115, 112, 59]⟩ : ByteArray) = val := Option.some.inj hval
    obtain rfl : p = 2 := hp
    refine (add_root R T 4 ⟨#[194, 160]⟩ ⟨#[38, 110, 98, 115, 112, 59]⟩ 2 mapping _ w (by decide) hR hTb m5 (by decide) rfl (fun N W w' => ∃ E, W.heap.size ≤ E ∧ Nd w' N ⟨#[]⟩ 0 ⟨#[160]⟩ (.pointer (some ⟨E, 0, none⟩)) ∧ Nd w' E ⟨#[38, 110, 98, 115, 112, 59]⟩ 2 ⟨#[]⟩ (.pointer none)) (fun N W hN => add_new N R ⟨#[160]⟩ ⟨#[38, 110, 98, 115, 112, 59]⟩ 2 W rfl hN)).mono ?_
    rintro e' w' ⟨rfl, ⟨W, hWz, E, hE, hn, hn2⟩, ht, hb⟩
    exact ⟨rfl, ⟨T, a, b, c, w.heap.size, E, h1, h2, h3, h4, h5, by omega, by omega, rt_but hb hTb hR, ht, fun _ => nd_but hb hTb (n1 (by decide)), fun _ => nd_but hb hTb (n2 (by decide)), fun _ => nd_but hb hTb (n3 (by decide)), fun _ => ⟨hn, hn2⟩⟩, hb.below h2 (by omega)⟩
theorem run_index_u8 (w : World) (cs : Array Value) (b : Nat) (v : Value) (hb : b < 256) (hv : cs[b]? = some v) : (Instr.index 102 (.agg cs) (.int .i64 (b : Int))).run Tryz.prog w = .ok v w := by
  have h1 : (b : Int) < 256 := by omega
  obtain ⟨i0, hi, hz0, hz1, hz2⟩ := info_parts infoByte
  have ha : (isAgg 5).run Tryz.prog w = .ok false w := by
    unfold isAgg
    rw [Sem.run_bind, run_underlying Tryz.underlying5 w]; rfl
  simp [Instr.index, run_underlying Tryz.underlying102, asIntOf, h1, part, ha, sizeOf, typeInfo, hi, hz1, hv, Sem.run_bind, go_sem]
  intro h; omega
end Go.Proofs.YtkfcbafjcjmfnaaGreatDoor.Gen
namespace Go.Proofs.YtkfcbafjcjmfnaaGreatDoor.Gen
open Go.RowKit Go.Proofs.YtkfcbafjcjmfnaaGreatDoor.Row Go.Proofs.YtkfcbafjcjmfnaaGreatDoor.Repl
set_option linter.unusedVariables false
set_option linter.unusedSimpArgs false
def hitL : List UInt8 → Option (ByteArray × Nat)
  | 38 :: _ => some (⟨#[38, 97, 109, 112, 59]⟩, 1)
  | 60 :: _ => some (⟨#[38, 108, 116, 59]⟩, 1)
  | 62 :: _ => some (⟨#[38, 103, 116, 59]⟩, 1)
  | 194 :: 160 :: _ => some (⟨#[38, 110, 98, 115, 112, 59]⟩, 2)
  | _ => none
theorem mapping_else (b : Nat) (h : b < 256) (h1 : b ≠ 38) (h2 : b ≠ 60) (h3 : b ≠ 62) (h4 : b ≠ 160) (h5 : b ≠ 194) : mapping b = 5 := by
  have hz : m0 b = 0 := by
    unfold m0 marks
    rw [if_neg]
    have e : upto 4 = [38, 60, 62, 194, 160] := by kernel_rfl
    rw [e]
    simp only [List.any_cons, List.any_nil, Bool.or_false, Bool.or_eq_true, beq_iff_eq, not_or]
    exact ⟨fun e => h1 e.symm, fun e => h2 e.symm, fun e => h3 e.symm, fun e => h5 e.symm, fun e => h4 e.symm⟩
  show idx 256 b = 5
  unfold idx
  rw [if_pos h, if_pos hz]
attribute [local irreducible] mapping
theorem ext_pre (s : ByteArray) : Lib.hasPrefix (s.extract 1 s.size).data.toList [160] = decide (s[1]? = some 160) := by
  have e : (s.extract 1 s.size).data.toList = s.data.toList.drop 1 := by
    rw [ByteArray.data_extract, Array.toList_extract]
    simp only [List.extract, List.drop_one]
    exact List.take_of_length_le (by simp)
  have e2 : s[1]? = (s.data.toList.drop 1)[0]? := by
    rw [List.getElem?_drop]
    simp [getElem?_def, ByteArray.size_data]
    rfl
  rw [e, e2]
  cases hd : s.data.toList.drop 1 with
  | nil => rfl
  | cons c r =>
    show ((160 : UInt8) == c && List.isPrefixOf [] r) = _
    simp only [List.isPrefixOf, Bool.and_true, List.getElem?_cons_zero, Option.some.injEq]
    rw [Bool.eq_iff_iff]
    simp only [beq_iff_eq, decide_eq_true_eq]
    exact eq_comm
set_option maxRecDepth 100000 in
set_option maxHeartbeats 4000000 in
theorem lookup_one (R : Nat) (s : ByteArray) (i : Nat) (val : ByteArray) (p : Int) (w : World) (hs : 1 ≤ s.size) (T a : Nat) (qs : List Value) (hR : Rt w R (.slice (some ⟨T, 0, none⟩) 5 5) 5 mapping) (hT : Tbl w T qs)
    (hm : mapping (s[0]'(by omega)).toNat = i) (hi : i < 5) (hq : qs[i]? = some (ptr a)) (hn : Nd w a val p ⟨#[]⟩ (.pointer none)) (hp : 0 < p) (hp2 : p < 100) :
    Calls Tryz.prog 174 #[.pointer (some ⟨R, 0, none⟩), .string s, .bool false] w fun e w' => e = .returned (.tuple #[.string val, .int .i64 1, .bool true]) ∧ ∃ n, w' = w.drewN n := by
  have c1 := hR.prio
  have c2 := hR.tb
  have c3 := hR.ts
  obtain ⟨c, hc1, hc2⟩ : ∃ c, s[0]'(by omega) = c ∧ s.data[0]'(by rw [← ByteArray.size_data] at hs; omega) = c := ⟨_, rfl, rfl⟩
  rw [hc1] at hm
  have h256 := UInt8.toNat_lt c
  have c4 := hR.at c.toNat h256
  rw [hm] at c4
  have c5 : w.cell? ⟨T, i, none⟩ = some (ptr a) := by rw [hT.cell]; exact hq
  have n1 : w.cell? ⟨a, 1, none⟩ = some (.int .i64 p) := by rw [hn.cell]; rfl
  have n0 : w.cell? ⟨a, 0, none⟩ = some (.string val) := by rw [hn.cell]; rfl
  have n2 : w.cell? ⟨a, 2, none⟩ = some (.string ⟨#[]⟩) := by rw [hn.cell]; rfl
  have n4 : w.cell? ⟨a, 4, none⟩ = some (.slice none 0 0) := by rw [hn.cell]; rfl
  have hne : s.toList.isEmpty = false := not_empty s (by omega)
  have i1 : (0 : Int) < (s.size : Int) := by omega
  have i2 : 0 < s.size := by omega
  have i3 : (1 : Int) ≤ (s.size : Int) := by omega
  have i4 : (i : Int) < 5 := by omega
  have i5 : ¬ (i : Int) = 5 := by omega
  have i6 : ¬ i = 5 := by omega
  have qT : ∀ (w : World) (a : Option Addr) (n c n' c' : Nat), (binOp .neq 129 (.slice a n c) (.slice none n' c')).run Tryz.prog w = .ok (.bool (!a.isNone)) w := fun w a n c n' c' => run_neq_slice_nil_any w _ _ a n c n' c' Tryz.underlying129
  unfold ptr at c5
  clear hR hT hn hm
  go_enter Tryz.func174, Tryz.ntmps174
  go_wp2
  go_loopw [1, 6, 7, 8, 9, 10, 11] (fun v1 v6 v7 v8 v9 v10 v11 wr => (v1 = .string s ∧ v6 = .string ⟨#[]⟩ ∧ v7 = .int .i64 0 ∧ v8 = .bool false ∧ v9 = .int .i64 0 ∧ v10 = .pointer (some ⟨R, 0, none⟩) ∧ v11 = .int .i64 0 ∧ wr = w) ∨
    (v1 = .string (s.extract 1 s.size) ∧ v6 = .string ⟨#[]⟩ ∧ v7 = .int .i64 0 ∧ v8 = .bool false ∧ v9 = .int .i64 0 ∧ v10 = .pointer (some ⟨a, 0, none⟩) ∧ v11 = .int .i64 1 ∧ ∃ n, wr = w.drewN n)) (fun _ _ _ _ _ _ v11 _ => 5 - (intOf v11).toNat)
  case atStart => exact .inl ⟨rfl, rfl, rfl, rfl, rfl, rfl, rfl, rfl⟩
  case round =>
    rcases hrel with ⟨rfl, rfl, rfl, rfl, rfl, rfl, rfl, rfl⟩ | ⟨rfl, rfl, rfl, rfl, rfl, rfl, rfl, n, rfl⟩
    · go_wp2
      go_quiet (fail)
      rename_i nq
      go_wp2_with fail
      go_roundw
      case rel => exact .inr ⟨rfl, rfl, rfl, rfl, rfl, rfl, rfl, nq, rfl⟩
      case measure => simp [intOf]
    · cases he : (s.extract 1 s.size).toList.isEmpty with
      | true =>
        go_wp2
        go_ret3
        exact ⟨rfl, n, rfl⟩
      | false =>
        go_wp2
        go_ret3
        exact ⟨rfl, n, rfl⟩
set_option maxRecDepth 100000 in
set_option maxHeartbeats 4000000 in
theorem lookup_none (R : Nat) (s : ByteArray) (w : World) (T : Nat) (hR : Rt w R (.slice (some ⟨T, 0, none⟩) 5 5) 5 mapping) (hs : s.size = 0 ∨ ∃ h : 1 ≤ s.size, mapping (s[0]'(by omega)).toNat = 5) :
    Calls Tryz.prog 174 #[.pointer (some ⟨R, 0, none⟩), .string s, .bool false] w fun e w' => e = .returned (.tuple #[.string ⟨#[]⟩, .int .i64 0, .bool false]) ∧ ∃ n, w' = w.drewN n := by
  have c1 := hR.prio
  have c2 := hR.tb
  have c3 := hR.ts
  have qT : ∀ (w : World) (a : Option Addr) (n c n' c' : Nat), (binOp .neq 129 (.slice a n c) (.slice none n' c')).run Tryz.prog w = .ok (.bool (!a.isNone)) w := fun w a n c n' c' => run_neq_slice_nil_any w _ _ a n c n' c' Tryz.underlying129
  rcases hs with hz | ⟨hs, hm⟩
  · have hne : s.toList.isEmpty = true := by
      rw [ByteArray.toList_eq, List.isEmpty_iff, ← List.length_eq_zero_iff]
      simpa using hz
    clear hR
    go_enter Tryz.func174, Tryz.ntmps174
    go_wp2
    go_loopw [1, 6, 7, 8, 9, 10, 11] (fun v1 v6 v7 v8 v9 v10 v11 wr => v1 = .string s ∧ v6 = .string ⟨#[]⟩ ∧ v7 = .int .i64 0 ∧ v8 = .bool false ∧ v9 = .int .i64 0 ∧ v10 = .pointer (some ⟨R, 0, none⟩) ∧ v11 = .int .i64 0 ∧ wr = w) (fun _ _ _ _ _ _ v11 _ => 5 - (intOf v11).toNat)
    case atStart => exact ⟨rfl, rfl, rfl, rfl, rfl, rfl, rfl, rfl⟩
    case round =>
      obtain ⟨rfl, rfl, rfl, rfl, rfl, rfl, rfl, rfl⟩ := hrel
      go_wp2
      go_ret3
      exact ⟨rfl, 0, rfl⟩
  · obtain ⟨c, hc1, hc2⟩ : ∃ c, s[0]'(by omega) = c ∧ s.data[0]'(by rw [← ByteArray.size_data] at hs; omega) = c := ⟨_, rfl, rfl⟩
    rw [hc1] at hm
    have h256 := UInt8.toNat_lt c
    have c4 := hR.at c.toNat h256
    rw [hm] at c4
    have hne : s.toList.isEmpty = false := not_empty s (by omega)
    have i1 : (0 : Int) < (s.size : Int) := by omega
    have i2 : 0 < s.size := by omega
    have i3 : (1 : Int) ≤ (s.size : Int) := by omega
    clear hR hm
    go_enter Tryz.func174, Tryz.ntmps174
    go_wp2
    go_loopw [1, 6, 7, 8, 9, 10, 11] (fun v1 v6 v7 v8 v9 v10 v11 wr => v1 = .string s ∧ v6 = .string ⟨#[]⟩ ∧ v7 = .int .i64 0 ∧ v8 = .bool false ∧ v9 = .int .i64 0 ∧ v10 = .pointer (some ⟨R, 0, none⟩) ∧ v11 = .int .i64 0 ∧ wr = w) (fun _ _ _ _ _ _ v11 _ => 5 - (intOf v11).toNat)
    case atStart => exact ⟨rfl, rfl, rfl, rfl, rfl, rfl, rfl, rfl⟩
    case round =>
      obtain ⟨rfl, rfl, rfl, rfl, rfl, rfl, rfl, rfl⟩ := hrel
      go_wp2
      go_quiet (fail)
      rename_i nq
      go_wp2_with fail
      go_ret3
      exact ⟨rfl, nq, rfl⟩
set_option maxRecDepth 100000 in
set_option maxHeartbeats 4000000 in
theorem lookup_two (R : Nat) (s : ByteArray) (val : ByteArray) (w : World) (hs : 1 ≤ s.size) (T d e : Nat) (qs : List Value) (hR : Rt w R (.slice (some ⟨T, 0, none⟩) 5 5) 5 mapping) (hT : Tbl w T qs)
    (hm : mapping (s[0]'(by omega)).toNat = 4) (hq : qs[4]? = some (ptr d)) (hn : Nd w d ⟨#[]⟩ 0 ⟨#[160]⟩ (ptr e)) (hn2 : Nd w e val 2 ⟨#[]⟩ (.pointer none)) :
    Calls Tryz.prog 174 #[.pointer (some ⟨R, 0, none⟩), .string s, .bool false] w fun x w' => x = .returned (.tuple (if s[1]? = some 160 then #[.string val, .int .i64 2, .bool true] else #[.string ⟨#[]⟩, .int .i64 0, .bool false])) ∧ ∃ n, w' = w.drewN n := by
  have c1 := hR.prio
  have c2 := hR.tb
  have c3 := hR.ts
  obtain ⟨c, hc1, hc2⟩ : ∃ c, s[0]'(by omega) = c ∧ s.data[0]'(by rw [← ByteArray.size_data] at hs; omega) = c := ⟨_, rfl, rfl⟩
  rw [hc1] at hm
  have h256 := UInt8.toNat_lt c
  have c4 := hR.at c.toNat h256
  rw [hm] at c4
  have c5 : w.cell? ⟨T, 4, none⟩ = some (ptr d) := by rw [hT.cell]; exact hq
  have n1 : w.cell? ⟨d, 1, none⟩ = some (.int .i64 0) := by rw [hn.cell]; rfl
  have n2 : w.cell? ⟨d, 2, none⟩ = some (.string ⟨#[160]⟩) := by rw [hn.cell]; rfl
  have n3 : w.cell? ⟨d, 3, none⟩ = some (ptr e) := by rw [hn.cell]; rfl
  have n4 : w.cell? ⟨d, 4, none⟩ = some (.slice none 0 0) := by rw [hn.cell]; rfl
  have e0 : w.cell? ⟨e, 0, none⟩ = some (.string val) := by rw [hn2.cell]; rfl
  have e1 : w.cell? ⟨e, 1, none⟩ = some (.int .i64 2) := by rw [hn2.cell]; rfl
  have e2 : w.cell? ⟨e, 2, none⟩ = some (.string ⟨#[]⟩) := by rw [hn2.cell]; rfl
  have e4 : w.cell? ⟨e, 4, none⟩ = some (.slice none 0 0) := by rw [hn2.cell]; rfl
  have hne : s.toList.isEmpty = false := not_empty s (by omega)
  have i1 : (0 : Int) < (s.size : Int) := by omega
  have i2 : 0 < s.size := by omega
  have i3 : (1 : Int) ≤ (s.size : Int) := by omega
  have qT : ∀ (w : World) (a : Option Addr) (n c n' c' : Nat), (binOp .neq 129 (.slice a n c) (.slice none n' c')).run Tryz.prog w = .ok (.bool (!a.isNone)) w := fun w a n c n' c' => run_neq_slice_nil_any w _ _ a n c n' c' Tryz.underlying129
  unfold ptr at c5 n3
  have hpre := ext_pre s
  clear hR hT hn hn2 hm
  go_enter Tryz.func174, Tryz.ntmps174
  go_wp2
  go_loopw [1, 6, 7, 8, 9, 10, 11] (fun v1 v6 v7 v8 v9 v10 v11 wr => (v1 = .string s ∧ v6 = .string ⟨#[]⟩ ∧ v7 = .int .i64 0 ∧ v8 = .bool false ∧ v9 = .int .i64 0 ∧ v10 = .pointer (some ⟨R, 0, none⟩) ∧ v11 = .int .i64 0 ∧ wr = w) ∨
    (v1 = .string (s.extract 1 s.size) ∧ v6 = .string ⟨#[]⟩ ∧ v7 = .int .i64 0 ∧ v8 = .bool false ∧ v9 = .int .i64 0 ∧ v10 = .pointer (some ⟨d, 0, none⟩) ∧ v11 = .int .i64 1 ∧ ∃ n, wr = w.drewN n) ∨
    (s[1]? = some 160 ∧ (∃ z, v1 = .string z) ∧ v6 = .string ⟨#[]⟩ ∧ v7 = .int .i64 0 ∧ v8 = .bool false ∧ v9 = .int .i64 0 ∧ v10 = .pointer (some ⟨e, 0, none⟩) ∧ v11 = .int .i64 2 ∧ ∃ n, wr = w.drewN n)) (fun _ _ _ _ _ _ v11 _ => 5 - (intOf v11).toNat)
  case atStart => exact .inl ⟨rfl, rfl, rfl, rfl, rfl, rfl, rfl, rfl⟩
  case round =>
    rcases hrel with ⟨rfl, rfl, rfl, rfl, rfl, rfl, rfl, rfl⟩ | ⟨rfl, rfl, rfl, rfl, rfl, rfl, rfl, n, rfl⟩ | ⟨h160, ⟨z, rfl⟩, rfl, rfl, rfl, rfl, rfl, rfl, n, rfl⟩
    · go_wp2
      go_quiet (fail)
      rename_i nq
      go_wp2_with fail
      go_roundw
      case rel => exact .inr (.inl ⟨rfl, rfl, rfl, rfl, rfl, rfl, rfl, nq, rfl⟩)
      case measure => simp [intOf]
    · by_cases h160 : s[1]? = some 160
      · have hpx : Lib.hasPrefix (s.extract 1 s.size).data.toList [160] = true := by rw [hpre]; simpa using h160
        have hsz : 2 ≤ s.size := by
          rcases Nat.lt_or_ge 1 s.size with h | h
          · exact h
          · rw [getElem?_neg _ _ (by omega)] at h160; exact absurd h160 (by simp)
        have hez : (s.extract 1 s.size).size = s.size - 1 := by simp
        have hee : (s.extract 1 s.size).toList.isEmpty = false := not_empty _ (by omega)
        have j1 : (1 : Int) ≤ ((s.extract 1 s.size).size : Int) := by omega
        generalize s.extract 1 s.size = z at *
        go_wp2_with (go_at_call 122; refine (Tryz.strings_HasPrefix _ _ _).mono ?_; rintro e w' ⟨rfl, rfl⟩; first | rw [hpx] | skip)
        go_roundw
        case rel => exact .inr (.inr ⟨h160, ⟨_, rfl⟩, rfl, rfl, rfl, rfl, rfl, rfl, n, rfl⟩)
        case measure => simp [intOf]
      · have hpx : Lib.hasPrefix (s.extract 1 s.size).data.toList [160] = false := by rw [hpre]; simpa using h160
        generalize s.extract 1 s.size = z at *
        cases he : z.toList.isEmpty with
        | true =>
          go_wp2
          go_ret3
          all_goals first | exact ⟨rfl, n, rfl⟩ | contradiction
        | false =>
          go_wp2_with (go_at_call 122; refine (Tryz.strings_HasPrefix _ _ _).mono ?_; rintro e w' ⟨rfl, rfl⟩; first | rw [hpx] | skip)
          go_ret3
          all_goals first | exact ⟨rfl, n, rfl⟩ | contradiction
    · cases he : z.toList.isEmpty with
      | true =>
        go_wp2
        go_ret3
        all_goals first | exact ⟨rfl, n, rfl⟩ | contradiction
      | false =>
        go_wp2
        go_ret3
        all_goals first | exact ⟨rfl, n, rfl⟩ | contradiction
end Go.Proofs.YtkfcbafjcjmfnaaGreatDoor.Gen
namespace Go.Proofs.YtkfcbafjcjmfnaaGreatDoor.Bld
open Go.RowKit
set_option linter.unusedVariables false
abbrev TB : Nat := 31
theorem sizeBuilder : (Tryz.prog.info? 31).map (·.size) = some 2 := by kernel_rfl
theorem liesBuilder : liesAt Tryz.prog Tryz.prog.depth 31 (2 / Tryz.prog.cellsOf 31) 0 31 1 = true := by kernel_rfl
theorem infoByte : (Tryz.prog.info? 5).map (fun i => (i.zero, i.size, i.bytes)) = some (some (.int .u8 0), 1, 1) := by kernel_rfl
set_option maxHeartbeats 1000000 in
set_option maxRecDepth 100000 in
theorem copyCheck_used (b : Nat) (w : World) (h0 : w.cell? ⟨b, 0, none⟩ = some (.pointer (some ⟨b, 0, none⟩))) :
    Calls Tryz.prog 34 #[.pointer (some ⟨b, 0, none⟩)] w fun e w' => e = .returned (.tuple #[]) ∧ w' = w := by
  obtain ⟨j, hj, _⟩ := Option.map_eq_some_iff.1 sizeBuilder
  go_enter Tryz.func34, Tryz.ntmps34
  go_wp2
  rw [Lib.run_neq_ptr_same w _ Tryz.underlying28 hj]
  go_wp2
  go_end0
  exact ⟨rfl, rfl⟩
set_option maxHeartbeats 1000000 in
set_option maxRecDepth 100000 in
theorem copyCheck_fresh (b : Nat) (w : World) (h0 : w.cell? ⟨b, 0, none⟩ = some (.pointer none)) (hsh : w.shape? b = some (31, 2)) (hfz : w.frozen? ⟨b, 0, none⟩ = false) :
    Calls Tryz.prog 34 #[.pointer (some ⟨b, 0, none⟩)] w fun e w' => e = .returned (.tuple #[]) ∧ w' = w.setCell ⟨b, 0, none⟩ (.pointer (some ⟨b, 0, none⟩)) := by
  obtain ⟨j, hj, hjs⟩ := Option.map_eq_some_iff.1 sizeBuilder
  go_enter Tryz.func34, Tryz.ntmps34
  go_wp2
  rw [Lib.run_to_unsafe w ⟨b, 0, none⟩ Tryz.underlying28 Tryz.underlying76 hj (by rw [hjs]; decide) hsh (Nat.zero_lt_succ 1)]
  simp only [Result.andThen]
  rw [Oper.upon_value]
  go_wp2
  rw [run_callFunc_extern Tryz.func45 (by kernel_rfl) (by kernel_rfl) (by kernel_rfl) (e := Extern.AbiNoEscape.same) (by kernel_rfl)]
  rw [Lib.run_noEscape]
  simp only [Result.andThen]
  rw [Oper.upon_value]
  go_wp2
  rw [Lib.run_from_unsafe w ⟨b, 0, none⟩ Tryz.underlying76 Tryz.underlying28 hj hsh liesBuilder]
  simp only [Result.andThen]
  rw [Oper.upon_value]
  go_wp2
  go_end0
  exact ⟨rfl, rfl⟩
theorem copyCheck_k (B b : Nat) (bs : List Value) (w : World) (h : Lib.IsBuilderF 31 5 B b bs w) :
    Calls Tryz.prog 34 #[.pointer (some ⟨b, 0, none⟩)] w fun e w' => e = .returned (.tuple #[]) ∧ (Lib.BuilderAtF 31 5 B b (.pointer (some ⟨b, 0, none⟩)) bs w' ∧ Below B w w' ∧ Lib.OthersKept 5 (some b) w w') := by
  rcases h with h | h
  · refine (copyCheck_fresh b w h.cell0 h.shape h.frozen0).mono ?_
    rintro e w' ⟨rfl, rfl⟩
    exact ⟨rfl, h.used _, (Below.refl B w).setCell (p := ⟨b, 0, none⟩) h.1 _, (Lib.OthersKept.refl _ _ w).setCell ⟨b, 0, none⟩ rfl _⟩
  · refine (copyCheck_used b w h.cell0).mono ?_
    rintro e w' ⟨rfl, rfl⟩
    exact ⟨rfl, h, Below.refl B _, Lib.OthersKept.refl _ _ _⟩
set_option maxHeartbeats 2000000 in
set_option maxRecDepth 100000 in
theorem WriteByte_k (B b : Nat) (bs : List Value) (c : Int) (w : World) (h : Lib.IsBuilderF 31 5 B b bs w) (hlen : bs.length + 1 ≤ 140737488355328) (hBw : B ≤ w.heap.size) :
    Calls Tryz.prog 23 #[.pointer (some ⟨b, 0, none⟩), .int .u8 c] w fun e w' => e = .returned .nilIface ∧ (Lib.IsBuilderF 31 5 B b (bs ++ [.int .u8 c]) w' ∧ Below B w w' ∧ Lib.OthersKept 5 (some b) w w') := by
  obtain ⟨i0, hi, hz0, hz1, hz2⟩ := info_parts infoByte
  go_enter Tryz.func23, Tryz.ntmps23
  go_wp2_with (go_at_call 34; refine (copyCheck_k B b bs _ h).mono ?_)
  rintro e w1 ⟨rfl, h1, hb1, hk1⟩
  obtain ⟨hB, v, hbk, hown, hne⟩ := h1
  have c0 : w1.cell? ⟨b, 0, none⟩ = some (.pointer (some ⟨b, 0, none⟩)) := by rw [Lib.cell_of_heap hbk]; rfl
  have c1 : w1.cell? ⟨b, 1, none⟩ = some v := by rw [Lib.cell_of_heap hbk]; rfl
  go_wp2_with (at_builtin; refine wpList_append_ownF _ rfl _ _ 29 rfl B 5 i0 (.int .u8 0) 1 1 Tryz.underlying29 hi hz0 hz1 hz2 rfl (by decide) _ _ _ rfl (hown.alloc _) ⟨w1.heap.size, 0, none⟩ 1 1 [.int .u8 c] rfl rfl ?c1 ?c2 ?c3 ?c4 ?c5 ?_)
  case c1 =>
    intro j u hj
    match j, hj with
    | 0, hj => simp at hj; subst hj; simp [Addr.add]
  case c2 => intro u hu; simp at hu; subst hu; rfl
  case c3 => unfold maxLen; omega
  case c4 => omega
  case c5 => have := hb1.size; simp; omega
  intro v' w2 hown' hgrow _
  have hlt : b < w1.heap.size := by
    rcases Nat.lt_or_ge b w1.heap.size with h' | h'
    · exact h'
    · simp [Array.getElem?_eq_none h'] at hbk
  have hb2 : w2.heap[b]? = some (.cells #[.pointer (some ⟨b, 0, none⟩), v] 31 (0, 0)) := by
    rw [hgrow.block b (by simp; omega) (fun e => hne e.symm), Lib.alloc_old w1 _ b hlt]
    exact hbk
  have d0 : w2.cell? ⟨b, 0, none⟩ = some (.pointer (some ⟨b, 0, none⟩)) := by rw [Lib.cell_of_heap hb2]; rfl
  have d1 : w2.cell? ⟨b, 1, none⟩ = some v := by rw [Lib.cell_of_heap hb2]; rfl
  have f1 : w2.frozen? ⟨b, 1, none⟩ = false := Lib.frozen_of_heap hb2 1
  obtain ⟨g, cap, rfl⟩ : ∃ g cap, v' = .slice (some ⟨g, 0, none⟩) (bs.length + 1) cap := by
    rcases hown'.2 with ⟨_, h0⟩ | ⟨g, cap, cur, fz, hv, _⟩
    · omega
    · exact ⟨g, cap, hv⟩
  go_wp2
  go_ret
  refine ⟨rfl, .inr ?_, ?_, ((hk1.alloc _).grown hgrow (Lib.ownsRowF_kind (hown.alloc _))).setCell ⟨b, 1, none⟩ rfl _⟩
  · exact Lib.BuilderAtF.put (T := 31) (e := 5) hB hb2 (bs' := bs ++ [.int .u8 c]) (by simpa using hown') (by decide)
  · exact ((hb1.alloc (by have := hb1.size; omega) _).grown hgrow (by have := hb1.size; simp; omega) (fun k hk => (hown.lt k hk).1)).setCell (p := ⟨b, 1, none⟩) hB _
set_option maxHeartbeats 2000000 in
set_option maxRecDepth 100000 in
theorem WriteString_k (B b : Nat) (bs : List Value) (s : ByteArray) (w : World) (h : Lib.IsBuilderF 31 5 B b bs w) (hlen : bs.length + s.size ≤ 140737488355328) (hBw : B ≤ w.heap.size) :
    Calls Tryz.prog 20 #[.pointer (some ⟨b, 0, none⟩), .string s] w fun e w' => e = .returned (.tuple #[.int .i64 s.size, .nilIface]) ∧ (Lib.IsBuilderF 31 5 B b (bs ++ Lib.strCells s) w' ∧ Below B w w' ∧ Lib.OthersKept 5 (some b) w w') := by
  obtain ⟨i0, hi, hz0, hz1, hz2⟩ := info_parts infoByte
  go_enter Tryz.func20, Tryz.ntmps20
  go_wp2_with (go_at_call 34; refine (copyCheck_k B b bs _ h).mono ?_)
  rintro e w1 ⟨rfl, h1, hb1, hk1⟩
  obtain ⟨hB, v, hbk, hown, hne⟩ := h1
  have c0 : w1.cell? ⟨b, 0, none⟩ = some (.pointer (some ⟨b, 0, none⟩)) := by rw [Lib.cell_of_heap hbk]; rfl
  have c1 : w1.cell? ⟨b, 1, none⟩ = some v := by rw [Lib.cell_of_heap hbk]; rfl
  go_wp2_with (at_builtin; refine Lib.wpList_append_own_stringF _ rfl _ _ 29 9 rfl B 5 i0 Tryz.underlying29 Tryz.underlying9 hi hz0 hz1 hz2 _ _ _ rfl hown s rfl ?c3 ?c4 ?c5 ?_)
  case c3 => unfold maxLen; omega
  case c4 => omega
  case c5 => have := hb1.size; omega
  intro v' w2 hown' hgrow _
  have hlt : b < w1.heap.size := by
    rcases Nat.lt_or_ge b w1.heap.size with h' | h'
    · exact h'
    · simp [Array.getElem?_eq_none h'] at hbk
  have hb2 : w2.heap[b]? = some (.cells #[.pointer (some ⟨b, 0, none⟩), v] 31 (0, 0)) := by
    rw [hgrow.block b hlt (fun e => hne e.symm)]
    exact hbk
  have d0 : w2.cell? ⟨b, 0, none⟩ = some (.pointer (some ⟨b, 0, none⟩)) := by rw [Lib.cell_of_heap hb2]; rfl
  have d1 : w2.cell? ⟨b, 1, none⟩ = some v := by rw [Lib.cell_of_heap hb2]; rfl
  have f1 : w2.frozen? ⟨b, 1, none⟩ = false := Lib.frozen_of_heap hb2 1
  obtain ⟨ao, n', cap, rfl⟩ : ∃ ao n' cap, v' = .slice ao n' cap := by
    rcases hown'.2 with ⟨hv, _⟩ | ⟨g, cap, cur, fz, hv, _⟩
    · exact ⟨_, _, _, hv⟩
    · exact ⟨_, _, _, hv⟩
  go_wp2
  go_ret2
  refine ⟨rfl, .inr ?_, ?_, (hk1.grown hgrow (Lib.ownsRowF_kind hown)).setCell ⟨b, 1, none⟩ rfl _⟩
  · exact Lib.BuilderAtF.put (T := 31) (e := 5) hB hb2 (bs' := bs ++ Lib.strCells s) (by simpa [Lib.strCells_length] using hown') (by decide)
  · exact (hb1.grown hgrow (by have := hb1.size; omega) (fun k hk => (hown.lt k hk).1)).setCell (p := ⟨b, 1, none⟩) hB _
set_option maxHeartbeats 4000000 in
set_option maxRecDepth 100000 in
theorem WriteRune_k (append : ∀ (B : Nat) (v : Value) (n : Nat) (xs : List Value) (r : Int) (hr0 : -2147483648 ≤ r) (hr1 : r ≤ 2147483647) (w : World) (hown : w.ownsRowF B 5 1 v n xs) (hlen : n + 4 ≤ 140737488355328) (hBw : B ≤ w.heap.size), Calls Tryz.prog 113 #[v, .int .i32 r] w fun e w' => ∃ v', e = .returned v' ∧ w'.ownsRowF B 5 1 v' (n + (Lib.runeCells r).length) (xs ++ Lib.runeCells r) ∧ ∃ o, (w.alloc o).grownBy w' v.ownBlock)
    (B b : Nat) (bs : List Value) (r : Int) (hr0 : -2147483648 ≤ r) (hr1 : r ≤ 2147483647) (w : World) (h : Lib.IsBuilderF 31 5 B b bs w) (hlen : bs.length + 4 ≤ 140737488355328) (hBw : B ≤ w.heap.size) :
    Calls Tryz.prog 93 #[.pointer (some ⟨b, 0, none⟩), .int .i32 r] w fun e w' => e = .returned (.tuple #[.int .i64 (Lib.runeCells r).length, .nilIface]) ∧ (Lib.IsBuilderF 31 5 B b (bs ++ Lib.runeCells r) w' ∧ Below B w w' ∧ Lib.OthersKept 5 (some b) w w') := by
  have hk4 := Lib.runeCells_le r
  have HA := Lib.hid append
  clear append
  go_enter Tryz.func93, Tryz.ntmps93
  go_wp2_with (go_at_call 34; refine (copyCheck_k B b bs _ h).mono ?_)
  rintro e w1 ⟨rfl, h1, hb1, hk1⟩
  obtain ⟨hB, v, hbk, hown, hne⟩ := h1
  obtain ⟨ao, cap, rfl⟩ : ∃ ao cap, v = .slice ao bs.length cap := by
    rcases hown.2 with ⟨hv, h0⟩ | ⟨g, cap, cur, fz, hv, _⟩
    · exact ⟨none, 0, by rw [hv, h0]⟩
    · exact ⟨_, _, hv⟩
  have c0 : w1.cell? ⟨b, 0, none⟩ = some (.pointer (some ⟨b, 0, none⟩)) := by rw [Lib.cell_of_heap hbk]; rfl
  have c1 : w1.cell? ⟨b, 1, none⟩ = some (.slice ao bs.length cap) := by rw [Lib.cell_of_heap hbk]; rfl
  go_wp2_with (go_at_call 113; refine (HA.out B _ bs.length bs r hr0 hr1 _ hown hlen (by have := hb1.size; omega)).mono ?_)
  rintro e w2 ⟨v', rfl, hown', o, hgrow⟩
  have hlt : b < w1.heap.size := by
    rcases Nat.lt_or_ge b w1.heap.size with h' | h'
    · exact h'
    · simp [Array.getElem?_eq_none h'] at hbk
  have hb2 : w2.heap[b]? = some (.cells #[.pointer (some ⟨b, 0, none⟩), .slice ao bs.length cap] 31 (0, 0)) := by
    rw [hgrow.block b (by simp; omega) (fun e => hne e.symm), Lib.alloc_old w1 _ b hlt]
    exact hbk
  have d0 : w2.cell? ⟨b, 0, none⟩ = some (.pointer (some ⟨b, 0, none⟩)) := by rw [Lib.cell_of_heap hb2]; rfl
  have d1 : w2.cell? ⟨b, 1, none⟩ = some (.slice ao bs.length cap) := by rw [Lib.cell_of_heap hb2]; rfl
  have f1 : w2.frozen? ⟨b, 1, none⟩ = false := Lib.frozen_of_heap hb2 1
  obtain ⟨g, cap', rfl⟩ : ∃ g cap', v' = .slice (some ⟨g, 0, none⟩) (bs.length + (Lib.runeCells r).length) cap' := by
    rcases hown'.2 with ⟨_, h0⟩ | ⟨g, cap', cur, fz, hv, _⟩
    · omega
    · exact ⟨g, cap', hv⟩
  go_wp2
  go_ret2
  refine ⟨?_, .inr ?_, ?_, ((hk1.alloc _).grown hgrow (Lib.ownsRowF_kind (hown.alloc _))).setCell ⟨b, 1, none⟩ rfl _⟩
  · have e : ((bs.length : Int) + ((Lib.runeCells r).length : Int) - (bs.length : Int)) = ((Lib.runeCells r).length : Int) := by omega
    simp [e]
  · exact Lib.BuilderAtF.put (T := 31) (e := 5) hB hb2 (bs' := bs ++ Lib.runeCells r) (by simpa using hown') (by decide)
  · exact ((hb1.alloc (by have := hb1.size; omega) _).grown hgrow (by have := hb1.size; simp; omega) (fun k hk => (hown.lt k hk).1)).setCell (p := ⟨b, 1, none⟩) hB _
end Go.Proofs.YtkfcbafjcjmfnaaGreatDoor.Bld
namespace Go.Proofs.YtkfcbafjcjmfnaaGreatDoor.Gen
open Go.RowKit Go.Proofs.YtkfcbafjcjmfnaaGreatDoor.Row Go.Proofs.YtkfcbafjcjmfnaaGreatDoor.Repl
set_option linter.unusedVariables false
set_option linter.unusedSimpArgs false
def Asw (M : Nat) (w : World) (b : Nat) (l : List UInt8) : Prop := M ≤ b ∧ ∃ v, w.heap[b]? = some (.cells #[v] 196 (0, 0)) ∧ w.ownsRowF M 5 1 v l.length (Lib.byteCells l)
theorem Asw.lt {M b : Nat} {w : World} {l : List UInt8} (h : Asw M w b l) : b < w.heap.size := by
  obtain ⟨_, v, hb, _⟩ := h
  exact (Array.getElem?_eq_some_iff.1 hb).1
theorem ownF_of_heap {w w' : World} {M e n : Nat} {v : Value} {xs : List Value} (h : w.ownsRowF M e 1 v n xs) (hh : ∀ k, v.ownBlock = some k → w'.heap[k]? = w.heap[k]?) : w'.ownsRowF M e 1 v n xs := by
  refine ⟨h.1, ?_⟩
  rcases h.2 with hn | ⟨g, cap, cur, fz, rfl, hb, hg, rest⟩
  · exact .inl hn
  · exact .inr ⟨g, cap, cur, fz, rfl, hb, by rw [hh g rfl]; exact hg, rest⟩
theorem Asw.below {M b : Nat} {w w' : World} {l : List UInt8} (h : Asw M w b l) (hb : Below w.heap.size w w') : Asw M w' b l := by
  have hlt := h.lt
  obtain ⟨hM, v, hc, ho⟩ := h
  exact ⟨hM, v, (hb.block b hlt).trans hc, ownF_of_heap ho fun k hk => hb.block k (ho.lt k hk).2⟩
theorem Gen.below {M R : Nat} {w w' : World} (h : Gen M w R) (hb : Below w.heap.size w w') : Gen M w' R := by
  obtain ⟨T, a, b, c, d, e, h1, h2, h3, h4, h5, h6, h7, hR, hT, n1, n2, n3, n4, n5⟩ := h
  exact ⟨T, a, b, c, d, e, h1, h2, h3, h4, h5, h6, h7, hR.of (hb.block _ hR.lt), hT.of (hb.block _ hT.lt), n1.of (hb.block _ n1.lt), n2.of (hb.block _ n2.lt), n3.of (hb.block _ n3.lt), n4.of (hb.block _ n4.lt), n5.of (hb.block _ n5.lt)⟩
def esc : Nat → List UInt8 → List UInt8
  | _, [] => []
  | k + 1, _ :: r => esc k r
  | 0, c :: r => match hitL (c :: r) with
    | some (v, n) => v.data.toList ++ esc (n - 1) r
    | none => c :: esc 0 r
theorem esc_nil (k : Nat) : esc k [] = [] := by cases k <;> rfl
theorem esc_drop : ∀ (l : List UInt8) (k : Nat), esc k l = esc 0 (l.drop k)
  | [], k => by rw [esc_nil, List.drop_nil, esc_nil]
  | c :: r, 0 => rfl
  | c :: r, k + 1 => by
    show esc k r = esc 0 (r.drop k)
    exact esc_drop r k
theorem hitL_pos (l : List UInt8) (v : ByteArray) (n : Nat) (h : hitL l = some (v, n)) : 1 ≤ n ∧ n ≤ l.length ∧ v.size ≤ 6 ∧ v.size ≤ 6 * n := by
  unfold hitL at h
  split at h <;> first | (injection h with h; injection h with h1 h2; subst h1; subst h2; exact ⟨by decide, by simp, by decide, by decide⟩) | exact absurd h (by simp)
theorem esc_hit (l : List UInt8) (v : ByteArray) (n : Nat) (h : hitL l = some (v, n)) : esc 0 l = v.data.toList ++ esc 0 (l.drop n) := by
  obtain ⟨hn, hl, _⟩ := hitL_pos l v n h
  cases l with
  | nil => simp at hl; omega
  | cons c r =>
    rw [show esc 0 (c :: r) = (match hitL (c :: r) with | some (v, n) => v.data.toList ++ esc (n - 1) r | none => c :: esc 0 r) from rfl, h]
    obtain ⟨m, rfl⟩ : ∃ m, n = m + 1 := ⟨n - 1, by omega⟩
    simp only [Nat.add_sub_cancel, List.drop_succ_cons]
    rw [esc_drop]
theorem esc_none (c : UInt8) (r : List UInt8) (h : hitL (c :: r) = none) : esc 0 (c :: r) = c :: esc 0 r := by
  rw [show esc 0 (c :: r) = (match hitL (c :: r) with | some (v, n) => v.data.toList ++ esc (n - 1) r | none => c :: esc 0 r) from rfl, h]
theorem esc_len : ∀ (n : Nat) (l : List UInt8), l.length ≤ n → (esc 0 l).length ≤ 6 * l.length
  | 0, l, h => by
    obtain rfl : l = [] := List.length_eq_zero_iff.1 (by omega)
    simp [esc]
  | n + 1, [], h => by simp [esc]
  | n + 1, c :: r, h => by
    cases hh : hitL (c :: r) with
    | none =>
      rw [esc_none c r hh]
      have := esc_len n r (by simp at h; omega)
      simp; omega
    | some p =>
      obtain ⟨v, k⟩ := p
      obtain ⟨h1, h2, h3, h4⟩ := hitL_pos _ _ _ hh
      rw [esc_hit _ v k hh]
      have := esc_len n ((c :: r).drop k) (by rw [List.length_drop]; simp only [List.length_cons] at h h2 ⊢; omega)
      rw [List.length_append, Array.length_toList, ByteArray.size_data]
      rw [List.length_drop] at this
      omega
theorem lookup_c (M R : Nat) (s : ByteArray) (w : World) (hG : Gen M w R) (h160 : s[0]? ≠ some 160) :
    Calls Tryz.prog 174 #[.pointer (some ⟨R, 0, none⟩), .string s, .bool false] w fun x w' => x = .returned (.tuple (match hitL s.data.toList with | some (v, n) => #[.string v, .int .i64 (n : Int), .bool true] | none => #[.string ⟨#[]⟩, .int .i64 0, .bool false])) ∧ ∃ n, w' = w.drewN n := by
  obtain ⟨T, a, b, c, d, e, h1, h2, h3, h4, h5, h6, h7, hR, hT, n1, n2, n3, n4, n5⟩ := hG
  obtain ⟨m1, m2, m3, m4, m5⟩ := mapping_at
  by_cases hz : s.size = 0
  · have hl : s.data.toList = [] := List.length_eq_zero_iff.1 (by simpa using hz)
    rw [hl]
    exact lookup_none R s w T hR (.inl hz)
  · have hs : 1 ≤ s.size := by omega
    obtain ⟨x, r, hl⟩ : ∃ x r, s.data.toList = x :: r := by
      cases hd : s.data.toList with
      | nil => exact absurd (by rw [← ByteArray.size_data, ← Array.length_toList, hd]; rfl) hz
      | cons x r => exact ⟨x, r, rfl⟩
    have hx : s[0]'(by omega) = x := by
      have : s.data.toList[0]'(by rw [hl]; simp) = x := by simp [hl]
      exact this
    have hx2 : s[0]? = some x := by rw [getElem?_pos s 0 (by omega), hx]
    rw [hx2] at h160
    have h256 := UInt8.toNat_lt x
    rw [hl]
    by_cases e1 : x = 38
    · subst e1
      exact lookup_one R s 0 ⟨#[38, 97, 109, 112, 59]⟩ 8 w hs T a _ hR hT (by rw [hx]; exact m1) (by decide) rfl n1 (by decide) (by decide)
    by_cases e2 : x = 60
    · subst e2
      exact lookup_one R s 1 ⟨#[38, 108, 116, 59]⟩ 6 w hs T b _ hR hT (by rw [hx]; exact m2) (by decide) rfl n2 (by decide) (by decide)
    by_cases e3 : x = 62
    · subst e3
      exact lookup_one R s 2 ⟨#[38, 103, 116, 59]⟩ 4 w hs T c _ hR hT (by rw [hx]; exact m3) (by decide) rfl n3 (by decide) (by decide)
    by_cases e4 : x = 194
    · subst e4
      refine (lookup_two R s ⟨#[38, 110, 98, 115, 112, 59]⟩ w hs T d e _ hR hT (by rw [hx]; exact m5) rfl n4 n5).mono ?_
      rintro y w' ⟨rfl, hw⟩
      refine ⟨?_, hw⟩
      have hs1 : s[1]? = r[0]? := by
        have : s[1]? = s.data.toList[1]? := by simp [getElem?_def, ByteArray.size_data]; rfl
        rw [this, hl]; rfl
      rw [hs1]
      cases r with
      | nil => rfl
      | cons y r =>
        by_cases hy : y = 160
        · subst hy; rfl
        · rw [if_neg (by simpa using hy)]
          have : hitL (194 :: y :: r) = none := by
            unfold hitL
            split <;> simp_all
          rw [this]
    · have hm : mapping x.toNat = 5 := by
        have ne : ∀ k : UInt8, x ≠ k → x.toNat ≠ k.toNat := fun k h e => h (UInt8.toNat_inj.1 e)
        exact mapping_else _ h256 (ne 38 e1) (ne 60 e2) (ne 62 e3) (ne 160 (by simpa using h160)) (ne 194 e4)
      have : hitL (x :: r) = none := by
        unfold hitL
        split <;> simp_all
      rw [this]
      exact lookup_none R s w T hR (.inr ⟨hs, by rw [hx]; exact hm⟩)
set_option maxHeartbeats 2000000 in
set_option maxRecDepth 100000 in
theorem asw_WriteString (M b : Nat) (l : List UInt8) (s : ByteArray) (w : World) (h : Asw M w b l) (hlen : l.length + s.size ≤ 140737488355328) (hM : M ≤ w.heap.size) :
    Calls Tryz.prog 184 #[.pointer (some ⟨b, 0, none⟩), .string s] w fun e w' => e = .returned (.tuple #[.int .i64 s.size, .nilIface]) ∧ Asw M w' b (l ++ s.data.toList) ∧ Below M w w' := by
  obtain ⟨i0, hi, hz0, hz1, hz2⟩ := info_parts infoByte
  obtain ⟨hMb, v, hb, hown⟩ := h
  have c0 : w.cell? ⟨b, 0, none⟩ = some v := by rw [Lib.cell_of_heap hb]; rfl
  go_enter Tryz.func184, Tryz.ntmps184
  go_wp2_with (at_builtin; refine Lib.wpList_append_own_stringF _ rfl _ _ 196 9 rfl M 5 i0 Tryz.underlying196 Tryz.underlying9 hi hz0 hz1 hz2 _ _ _ rfl hown s rfl ?c3 ?c4 ?c5 ?_)
  case c3 => unfold maxLen; omega
  case c4 => omega
  case c5 => omega
  intro v' w2 hown' hgrow _
  have hlt : b < w.heap.size := (Array.getElem?_eq_some_iff.1 hb).1
  have hne : v.ownBlock ≠ some b := Lib.ownBlock_neF hown hb (by decide)
  have hb2 : w2.heap[b]? = some (.cells #[v] 196 (0, 0)) := by
    rw [hgrow.block b hlt (fun e => hne e.symm)]
    exact hb
  have d0 : w2.cell? ⟨b, 0, none⟩ = some v := by rw [Lib.cell_of_heap hb2]; rfl
  have f1 : w2.frozen? ⟨b, 0, none⟩ = false := Lib.frozen_of_heap hb2 0
  obtain ⟨ao, n', cap, rfl⟩ : ∃ ao n' cap, v' = .slice ao n' cap := by
    rcases hown'.2 with ⟨hv, _⟩ | ⟨g, cap, cur, fz, hv, _⟩
    · exact ⟨_, _, _, hv⟩
    · exact ⟨_, _, _, hv⟩
  have HO := Lib.hid hown'; have HG := Lib.hid hgrow; have HB2 := Lib.hid hb2
  clear hown' hgrow hb2
  go_wp2
  go_ret2
  have hne2 : (Value.slice ao n' cap).ownBlock ≠ some b := Lib.ownBlock_neF HO.out HB2.out (by decide)
  refine ⟨rfl, ⟨hMb, _, setCell_heap_at _ _ _ _ _ _ _ HB2.out, ?_⟩, ?_⟩
  · have e : l.length + s.size = (l ++ s.data.toList).length := by simp
    have e2 : Lib.byteCells l ++ Lib.strCells s = Lib.byteCells (l ++ s.data.toList) := by simp [Lib.byteCells, Lib.strCells]
    rw [← e, ← e2]
    exact ownF_of_heap HO.out fun k hk => setCell_heap_ne _ _ _ _ _ (by rintro rfl; exact hne2 hk)
  · exact (Repl.below_grown (Below.refl _ _) HG.out (fun j hj => (hown.lt j hj).1) hM).setCell (p := ⟨b, 0, none⟩) hMb _
theorem fast_none (x : UInt8) (r : List UInt8) (e1 : x ≠ 38) (e2 : x ≠ 60) (e3 : x ≠ 62) (e4 : x ≠ 194) : hitL (x :: r) = none := by
  unfold hitL
  split <;> simp_all
theorem fast_map (x : UInt8) (e1 : x ≠ 38) (e2 : x ≠ 60) (e3 : x ≠ 62) (e4 : x ≠ 194) : mapping x.toNat = 5 ∨ mapping x.toNat = 3 := by
  obtain ⟨m1, m2, m3, m4, m5⟩ := mapping_at
  have h256 := UInt8.toNat_lt x
  have ne : ∀ k : UInt8, x ≠ k → x.toNat ≠ k.toNat := fun k h e => h (UInt8.toNat_inj.1 e)
  by_cases h : x = 160
  · subst h; exact .inr m4
  · exact .inl (mapping_else _ h256 (ne 38 e1) (ne 60 e2) (ne 62 e3) (ne 160 h) (ne 194 e4))
end Go.Proofs.YtkfcbafjcjmfnaaGreatDoor.Gen
namespace Go.Proofs.YtkfcbafjcjmfnaaGreatDoor
open Go.RowKit Go.Proofs.YtkfcbafjcjmfnaaGreatDoor.Row
set_option linter.unusedVariables false
set_option linter.unusedSimpArgs false
theorem of_guard {α : Type} {c : Prop} [Decidable c] {x r : α} (h : (if c then some x else none) = some r) : c ∧ x = r := by
  split at h
  · rename_i hc; exact ⟨hc, Option.some.inj h⟩
  · cases h
theorem guard_of {α : Type} {c : Prop} [Decidable c] {x : α} (h : c) : (if c then some x else none) = some x := if_pos h
def lowC (c : UInt8) : UInt8 := if 65 ≤ c.toNat ∧ c.toNat ≤ 90 then (c.toNat + 32).toUInt8 else c
def lowS (s : ByteArray) : ByteArray := ⟨(s.data.toList.map lowC).toArray⟩
def lowTo (l : List UInt8) (k : Nat) : List UInt8 := (l.take k).map lowC ++ l.drop k
theorem lowTo_zero (l : List UInt8) : lowTo l 0 = l := by simp [lowTo]
theorem lowTo_length (l : List UInt8) (k : Nat) : (lowTo l k).length = l.length := by simp [lowTo]; omega
theorem lowTo_all (l : List UInt8) (k : Nat) (h : l.length ≤ k) : lowTo l k = l.map lowC := by simp [lowTo, List.take_of_length_le h, List.drop_eq_nil_of_le h]
theorem lowTo_get (l : List UInt8) (k : Nat) (h : k < l.length) : (lowTo l k)[k]'(by rw [lowTo_length]; exact h) = l[k] := by
  simp only [lowTo]
  rw [List.getElem_append_right (by simp; omega)]
  simp [List.getElem_drop, Nat.min_eq_left (Nat.le_of_lt h)]
theorem lowTo_succ (l : List UInt8) (k : Nat) (h : k < l.length) : lowTo l (k + 1) = (lowTo l k).set k (lowC l[k]) := by
  simp only [lowTo]
  rw [List.set_append_right _ _ (by simp; omega)]
  simp only [List.length_map, List.length_take, Nat.min_eq_left (Nat.le_of_lt h), Nat.sub_self]
  rw [List.take_succ_eq_append_getElem h, List.drop_eq_getElem_cons h, List.map_append, List.append_assoc]
  rfl
theorem lowTo_same (l : List UInt8) (k : Nat) (h : k < l.length) (hc : lowC l[k] = l[k]) : lowTo l (k + 1) = lowTo l k := by
  rw [lowTo_succ l k h, hc, ← lowTo_get l k h, List.set_getElem_self]
theorem lowC_yes (c : UInt8) (h1 : 65 ≤ c.toNat) (h2 : c.toNat ≤ 90) : ((lowC c).toNat : Int) = (c.toNat : Int) - 65 + 97 := by
  simp only [lowC, h1, h2, and_self, if_true]
  have : ((c.toNat + 32).toUInt8).toNat = c.toNat + 32 := by
    show (UInt8.ofNat (c.toNat + 32)).toNat = _
    rw [UInt8.toNat_ofNat']; omega
  omega
theorem lowC_no (c : UInt8) (h : c.toNat < 65 ∨ 90 < c.toNat) : lowC c = c := by
  simp only [lowC]; rw [if_neg (by omega)]
def chars_small.f (s : ByteArray) : Option ByteArray := if s.size ≤ 9223372036854775807 then some (lowS s) else none
set_option maxRecDepth 100000 in
set_option maxHeartbeats 1000000 in
theorem chars_small.calls (s r : ByteArray) (w : World) (h : chars_small.f s = some r) :
    Calls Tryz.prog 91 #[.string s] w fun e w' => e = .returned (.string r) ∧ Below w.heap.size w w' := by
  obtain ⟨hs, rfl⟩ := of_guard h
  obtain ⟨cap, o, hconv, hrow⟩ := Row.run_conv (P := Tryz.prog) w 9 29 5 s Tryz.underlying9 Tryz.underlying29 Tryz.underlying5
  have HR := Lib.hid hrow; clear hrow h
  go_enter Tryz.func91, Tryz.ntmps91
  go_wp2
  go_loopw [10] (fun i wr => ∃ k : Nat, k ≤ s.size ∧ i = .int .i64 k ∧ Row 5 wr w.heap.size (lowTo s.data.toList k) ∧ Below w.heap.size w wr) (fun i _ => s.size - (intOf i).toNat)
  case atStart => exact ⟨0, Nat.zero_le _, rfl, by rw [lowTo_zero]; exact HR.out, ((Below.refl _ _).alloc (Nat.le_refl _) _).drew⟩
  case round =>
    obtain ⟨k, hk, rfl, hrow, hb⟩ := hrel
    have hl : s.data.toList.length = s.size := by simp
    by_cases hlt : k < s.size
    · have hlt2 : k < s.data.toList.length := by omega
      have hlt3 : k < (lowTo s.data.toList k).length := by rw [lowTo_length]; exact hlt2
      have hc := hrow.cell k hlt3
      have hf := hrow.frozen k hlt3
      have hset := hrow.set k (lowC s.data.toList[k]) hlt3
      rw [← lowTo_succ _ _ hlt2] at hset
      rw [lowTo_get _ _ hlt2] at hc
      have hsame := lowTo_same s.data.toList k hlt2
      have hyes := lowC_yes s.data.toList[k]
      have hno := lowC_no s.data.toList[k]
      have h256 : s.data.toList[k].toNat < 256 := UInt8.toNat_lt _
      generalize hcc : s.data.toList[k] = c at *
      have HS := Lib.hid hset; have HY := Lib.hid hyes; have HN := Lib.hid hno; have HE := Lib.hid hsame; have HR2 := Lib.hid hrow; have HL := Lib.hid hl
      clear hset hyes hno hsame hrow hl hcc HR
      by_cases c1 : 65 ≤ c.toNat ∧ c.toNat ≤ 90
      · obtain ⟨c1, c2⟩ := c1
        go_wp2
        go_roundw
        case rel => exact ⟨k + 1, by omega, by go_num, by have := HS.out; rw [HY.out c1 c2] at this; exact this, hb.setCell (p := ⟨w.heap.size, k, none⟩) (Nat.le_refl _) _⟩
        case measure => simp [intOf]; omega
      · have hce := HN.out (by omega)
        have HS2 : Hid (lowTo s.data.toList (k + 1) = lowTo s.data.toList k) := Lib.hid (HE.out hce)
        clear HE hce HS HY HN
        have c3 : c.toNat < 65 ∨ 90 < c.toNat := by omega
        rcases c3 with c3 | c3
        all_goals
          clear c1
          go_wp2
          go_roundw
          case rel => exact ⟨k + 1, by omega, by go_num, by rw [HS2.out]; exact HR2.out, hb⟩
          case measure => simp [intOf]; omega
    · have hk2 : k = s.size := by omega
      subst hk2
      rw [lowTo_all _ _ (by omega)] at hrow
      have hback := hrow.back (P := Tryz.prog) 29 9 cap Tryz.underlying29 Tryz.underlying5 Tryz.underlying9
      simp only [List.length_map] at hback
      rw [hl] at hback
      clear hrow HR hl
      go_wp2
      go_ret
      exact ⟨rfl, hb⟩
end Go.Proofs.YtkfcbafjcjmfnaaGreatDoor
namespace Go.Proofs.YtkfcbafjcjmfnaaGreatDoor
open Go.RowKit Go.Shelf Go.Lib
set_option linter.unusedVariables false
set_option linter.unusedSimpArgs false
theorem bdrewN {B : Nat} {w0 w : World} (h : Below B w0 w) (n : Nat) : Below B w0 (w.drewN n) := ⟨h.os, h.tape, h.output, h.size, h.block⟩
def asciiB (c : ByteArray) : Bool := c.data.toList.all fun b => b.toNat < 128
def strings_Trim.f (s c : ByteArray) : Option ByteArray :=
  if s.size ≤ 9223372036854775807 ∧ c.size < 4294967281 ∧ asciiB c = true then some ⟨(Lib.trimS s.data.toList c.data.toList).toArray⟩ else none
theorem strings_Trim.calls (s c r : ByteArray) (w : World) (h : strings_Trim.f s c = some r) :
    Calls Tryz.prog 92 #[.string s, .string c] w fun e w' => e = .returned (.string r) ∧ Below w.heap.size w w' := by
  obtain ⟨⟨h1, h2, h3⟩, rfl⟩ := of_guard h
  refine Any.strings_Trim_laid Tryz.lays160 (by kernel_rfl) s c w h1 h2 (fun j b hb => ?_)
  have := List.all_eq_true.1 h3 b (List.mem_of_getElem? hb)
  simpa using this
def cutL (c : UInt8) (l : List UInt8) : List UInt8 × List UInt8 × Bool := if c ∈ l then (l.takeWhile (· != c), (l.dropWhile (· != c)).drop 1, true) else (l, [], false)
theorem index_split (c : UInt8) : ∀ l : List UInt8, (c ∈ l → ∃ i : Nat, Lib.indexByte l c = (i : Int) ∧ i < l.length ∧ l.take i = l.takeWhile (· != c) ∧ l.drop (i + 1) = (l.dropWhile (· != c)).drop 1) ∧ (c ∉ l → Lib.indexByte l c = -1)
  | [] => ⟨fun h => by simp at h, fun _ => rfl⟩
  | b :: l => by
    obtain ⟨h1, h2⟩ := index_split c l
    by_cases hb : b = c
    · subst hb
      refine ⟨fun _ => ⟨0, by simp [Lib.indexByte], by simp, by simp, by simp⟩, fun h => absurd (by simp) h⟩
    · have hb1 : (b == c) = false := by simpa using hb
      have hb2 : (b != c) = true := by simpa using hb
      constructor
      · intro h
        have hm : c ∈ l := by
          rcases List.mem_cons.1 h with h | h
          · exact absurd h.symm hb
          · exact h
        obtain ⟨i, e1, e2, e3, e4⟩ := h1 hm
        refine ⟨i + 1, ?_, by simp only [List.length_cons]; omega, ?_, ?_⟩
        · have : ¬ ((i : Int) == -1) = true := by simp <;> omega
          simp only [Lib.indexByte, hb1, e1, Bool.false_eq_true, if_false, this]
          omega
        · rw [List.take_succ_cons, List.takeWhile_cons, if_pos (by exact hb2), e3]
        · rw [List.drop_succ_cons, List.dropWhile_cons, if_pos (by exact hb2), e4]
      · intro h
        have hm : c ∉ l := fun h' => h (by simp [h'])
        simp [Lib.indexByte, hb1, h2 hm]
theorem extract_l (s : ByteArray) (i j : Nat) : s.extract i j = ⟨((s.data.toList.take j).drop i).toArray⟩ := by
  apply ByteArray.ext
  apply Array.ext'
  simp [List.drop_take]
theorem one_byte {p : ByteArray} (h : p.size = 1) : ∃ c, p = ⟨#[c]⟩ := by
  obtain ⟨⟨l⟩⟩ := p
  match l, h with
  | [c], _ => exact ⟨c, rfl⟩
def strings_Cut.f (s p : ByteArray) : Option (ByteArray × ByteArray × Bool) :=
  if p.size = 1 ∧ s.size ≤ 9223372036854775000 then some (⟨(cutL (p.data.toList.getD 0 0) s.data.toList).1.toArray⟩, ⟨(cutL (p.data.toList.getD 0 0) s.data.toList).2.1.toArray⟩, (cutL (p.data.toList.getD 0 0) s.data.toList).2.2) else none
set_option maxHeartbeats 1000000 in
theorem slite_cut (s : ByteArray) (c : UInt8) (hs : s.size ≤ 9223372036854775000) (w : World) :
    Calls Tryz.prog 33 #[.string s, .string ⟨#[c]⟩] w fun e w' => e = .returned (.tuple #[.string ⟨(cutL c s.data.toList).1.toArray⟩, .string ⟨(cutL c s.data.toList).2.1.toArray⟩, .bool (cutL c s.data.toList).2.2]) ∧ ∃ n, w' = w.drewN n := by
  have hsl : s.data.toList.length = s.size := by simp
  have IX := Lib.hid (Tryz.stringslite_Index_one s c)
  have hz1 : (⟨#[c]⟩ : ByteArray).size = 1 := rfl
  by_cases hm : c ∈ s.data.toList
  · obtain ⟨i, e1, e2, e3, e4⟩ := (index_split c s.data.toList).1 hm
    have i1 : (i : Int) ≤ (s.size : Int) := by omega
    have i2 : i ≤ s.size := by omega
    have i3 : i + 1 ≤ s.size := by omega
    have i4 : (i : Int) + 1 ≤ (s.size : Int) := by omega
    have w1 : IntKind.i64.wrap ((i : Int) + 1) = (i : Int) + 1 := IntWalk.i64_in _ (by omega)
    have x1 : s.extract 0 i = ⟨(cutL c s.data.toList).1.toArray⟩ := by
      unfold cutL; rw [if_pos hm, extract_l, List.drop_zero, e3]
    have x2 : s.extract (i + 1) s.size = ⟨(cutL c s.data.toList).2.1.toArray⟩ := by
      unfold cutL; rw [if_pos hm, extract_l, List.take_of_length_le (by omega), e4]
    have x3 : (cutL c s.data.toList).2.2 = true := by unfold cutL; rw [if_pos hm]
    rw [e1] at IX
    have t1 : ((i : Int) + 1).toNat = i + 1 := by omega
    generalize hos : (⟨#[c]⟩ : ByteArray) = os at *
    generalize cutL c s.data.toList = ct at *
    have X1 := Lib.hid x1; have X2 := Lib.hid x2; have X3 := Lib.hid x3
    clear hsl e1 e2 e3 e4 x1 x2 x3 hm hos
    go_enter Tryz.func33, Tryz.ntmps33
    go_wp2_with (go_at_call 44; refine (IX.out _).mono ?_; rintro e w' ⟨rfl, rfl⟩)
    go_quiet (fail)
    rename_i nq
    go_wp2_with fail
    go_ret3
    exact ⟨by rw [X1.out, X2.out, X3.out]; rfl, nq, rfl⟩
  · have e1 := (index_split c s.data.toList).2 hm
    rw [e1] at IX
    have x1 : cutL c s.data.toList = (s.data.toList, [], false) := by unfold cutL; rw [if_neg hm]
    have X1 := Lib.hid x1
    generalize hos : (⟨#[c]⟩ : ByteArray) = os at *
    clear hsl e1 hm x1 hos
    go_enter Tryz.func33, Tryz.ntmps33
    go_wp2_with (go_at_call 44; refine (IX.out _).mono ?_; rintro e w' ⟨rfl, rfl⟩)
    go_ret3
    exact ⟨by rw [X1.out]; exact congrArg Ending.returned (congrArg Value.tuple (by congr 1)), 0, rfl⟩
theorem strings_Cut.calls (s p r1 r2 : ByteArray) (r3 : Bool) (w : World) (h : strings_Cut.f s p = some (r1, r2, r3)) :
    Calls Tryz.prog 19 #[.string s, .string p] w fun e w' => e = .returned (.tuple #[.string r1, .string r2, .bool r3]) ∧ Below w.heap.size w w' := by
  obtain ⟨⟨h1, h2⟩, h⟩ := of_guard h
  obtain ⟨c, rfl⟩ := one_byte h1
  injection h with e1 h
  injection h with e2 e3
  subst e1 e2 e3
  have SC := Lib.hid (slite_cut s c h2 w)
  have hg : (⟨#[c]⟩ : ByteArray).data.toList.getD 0 0 = c := rfl
  rw [hg]
  clear h1 h2 hg
  go_enter Tryz.func19, Tryz.ntmps19
  go_wp2_with (go_at_call 33; refine SC.out.mono ?_; rintro e w' ⟨rfl, n, rfl⟩)
  go_ret3
  exact ⟨rfl, ⟨rfl, rfl, rfl, Nat.le_refl _, fun _ _ => rfl⟩⟩
end Go.Proofs.YtkfcbafjcjmfnaaGreatDoor
namespace Go.Proofs.YtkfcbafjcjmfnaaGreatDoor
open Go.RowKit Go.Shelf Go.Lib
set_option linter.unusedVariables false
set_option linter.unusedSimpArgs false
def validFrom (s : ByteArray) : Nat → Nat → List UInt8
  | 0, _ => []
  | fuel + 1, pos => if pos < s.size then Lib.encodeRune (Utf8.decode s pos).1 ++ validFrom s fuel (pos + (Utf8.decode s pos).2) else []
def validS (s : ByteArray) : ByteArray := ⟨(validFrom s s.size 0).toArray⟩
theorem width_pos (s : ByteArray) (pos : Nat) (h : pos < s.size) : 1 ≤ (Utf8.decode s pos).2 := by
  by_cases ha : (s[pos]'h).toNat < 128
  · rw [decode_ascii s pos h ha]
    exact Nat.le_refl _
  · exact (decode_high s pos h (by omega)).2
theorem validFrom_end (s : ByteArray) (fuel pos : Nat) (h : ¬ pos < s.size) : validFrom s fuel pos = [] := by
  cases fuel with
  | zero => rfl
  | succ f => simp [validFrom, h]
def chars_Valid.f (s : ByteArray) : Option ByteArray := if s.size ≤ 35184372088832 then some (validS s) else none
theorem appendRune (B : Nat) (v : Value) (n : Nat) (xs : List Value) (r : Int) (hr0 : -2147483648 ≤ r) (hr1 : r ≤ 2147483647) (w : World) (hown : w.ownsRowF B 5 1 v n xs) (hlen : n + 4 ≤ 140737488355328) (hBw : B ≤ w.heap.size) :
    Calls Tryz.prog 113 #[v, .int .i32 r] w fun e w' => ∃ v', e = .returned v' ∧ w'.ownsRowF B 5 1 v' (n + (Lib.runeCells r).length) (xs ++ Lib.runeCells r) ∧ ∃ o, (w.alloc o).grownBy w' v.ownBlock :=
  Tryz.utf8_AppendRune_row B v n xs r hr0 hr1 w hown hlen hBw
theorem writeRune (B b : Nat) (bs : List Value) (r : Int) (hr0 : -2147483648 ≤ r) (hr1 : r ≤ 2147483647) (w : World) (h : Lib.IsBuilderF 31 5 B b bs w) (hlen : bs.length + 4 ≤ 140737488355328) (hBw : B ≤ w.heap.size) :
    Calls Tryz.prog 93 #[.pointer (some ⟨b, 0, none⟩), .int .i32 r] w fun e w' => e = .returned (.tuple #[.int .i64 (Lib.runeCells r).length, .nilIface]) ∧ (Lib.IsBuilderF 31 5 B b (bs ++ Lib.runeCells r) w' ∧ Below B w w' ∧ Lib.OthersKept 5 (some b) w w') :=
  Bld.WriteRune_k appendRune B b bs r hr0 hr1 w h hlen hBw
set_option maxHeartbeats 4000000 in
set_option maxRecDepth 1000000 in
theorem chars_Valid.calls (s r : ByteArray) (w : World) (h : chars_Valid.f s = some r) :
    Calls Tryz.prog 70 #[.string s] w fun e w' => e = .returned (.string r) ∧ Below w.heap.size w w' := by
  obtain ⟨hs, rfl⟩ := of_guard h
  clear h
  go_enter Tryz.func70, Tryz.ntmps70
  go_wp2
  go_loopw [] (fun wr => ∃ (pos fuel : Nat) (acc : List UInt8), Lib.IsBuilderF 31 5 w.heap.size w.heap.size (Lib.byteCells acc) wr ∧ wr.heap[w.heap.size + 1]? = some (.stringIter s pos) ∧ Below w.heap.size w wr ∧ acc ++ validFrom s fuel pos = validFrom s s.size 0 ∧ s.size ≤ pos + fuel ∧ acc.length ≤ 4 * pos) (fun wr => s.size - wr.iterPos (w.heap.size + 1))
  case atStart =>
    refine ⟨0, s.size, [], (Lib.IsBuilderF.of (Lib.fresh_isBuilder 31 5 w)).alloc _, ?_, ((Below.refl _ w).alloc (Nat.le_refl _) _).alloc (by simp) _, rfl, by omega, by simp⟩
    have := World.iter_heap (w.alloc (.cells #[.pointer none, .slice none 0 0] 31)) s 0
    simpa using this
  case round =>
    obtain ⟨pos, fuel, acc, hI, hit, hbw, hacc, hfu, hal⟩ := hrel
    have hsz : w.heap.size + 1 < wr.heap.size := (Array.getElem?_eq_some_iff.1 hit).1
    by_cases hp : pos < s.size
    · have hnx : ∀ ty, (Instr.next (.pointer (some ⟨w.heap.size + 1, 0, none⟩)) true ty).run Tryz.prog wr = _ := fun ty => Lib.run_next_any_at wr (w.heap.size + 1) s pos ty hit hp
      have hwd := width_pos s pos hp
      have hd1 := decode_le s pos
      have hI2 := hI.iterAt hit (pos + (Utf8.decode s pos).2)
      have hit2 := Lib.iterAt_heap wr (w.heap.size + 1) s pos (pos + (Utf8.decode s pos).2) hit
      have hbw2 := Lib.below_iterAt hbw (k := w.heap.size + 1) (by omega) s (pos + (Utf8.decode s pos).2)
      have hsz2 : w.heap.size ≤ (wr.iterAt (w.heap.size + 1) s (pos + (Utf8.decode s pos).2)).heap.size := by rw [Lib.iterAt_size]; omega
      obtain ⟨f, rfl⟩ : ∃ f, fuel = f + 1 := ⟨fuel - 1, by omega⟩
      go_wp2_with (go_at_call 93; refine (writeRune w.heap.size w.heap.size _ _ (by omega) (by omega) _ hI2 (by rw [Lib.byteCells_length]; omega) hsz2).mono ?_; rintro e W1 ⟨rfl, h1, b1, k1⟩)
      go_roundw
      case rel =>
        have hl4 := Lib.runeCells_le ((Utf8.decode s pos).1 : Int)
        rw [Lib.runeCells_length] at hl4
        refine ⟨pos + (Utf8.decode s pos).2, f, acc ++ Lib.encodeRune (Utf8.decode s pos).1, ?_, k1.iter hit2 (by omega), hbw2.trans b1, ?_, by omega, by simp; omega⟩
        · rw [Lib.byteCells_append, Lib.byteCells_encodeRune]; exact h1
        · rw [← hacc]; simp [validFrom, hp]
      case measure =>
        simp only [World.iterPos, k1.iter hit2 (by omega), hit]
        omega
    · have hnx : ∀ ty, (Instr.next (.pointer (some ⟨w.heap.size + 1, 0, none⟩)) true ty).run Tryz.prog wr = _ := fun ty => Lib.run_next_end_at wr (w.heap.size + 1) s pos ty hit hp
      rw [validFrom_end s fuel pos hp, List.append_nil] at hacc
      have HA := Lib.hid hacc; clear hacc
      go_wp2_with (go_at_call 21; refine (Tryz.Builder_String_any_k w.heap.size w.heap.size acc _ hI (by omega)).mono ?_; rintro e W1 ⟨rfl, _, b1, _⟩)
      go_ret
      exact ⟨by rw [HA.out]; rfl, hbw.trans b1⟩
def highTab : List Int := [0x20ac, 0x81, 0x201a, 0x192, 0x201e, 0x2026, 0x2020, 0x2021, 0x2c6, 0x2030, 0x160, 0x2039, 0x152, 0x8d, 0x17d, 0x8f, 0x90, 0x2018, 0x2019, 0x201c, 0x201d, 0x2022, 0x2013, 0x2014, 0x2dc, 0x2122, 0x161, 0x203a, 0x153, 0x9d, 0x17e, 0x178]
def TabHigh (w : World) : Prop := Lib.TabIs Tryz.prog w "muslin/chars.high" .i32 highTab
theorem TabHigh.below {w w1 : World} (h : TabHigh w) (hb : Below w.heap.size w w1) : TabHigh w1 := by
  unfold TabHigh Lib.TabIs at *
  have hlt : 2 < w.heap.size := by
    rcases Nat.lt_or_ge 2 w.heap.size with h' | h'
    · exact h'
    · rw [World.var?, show Tryz.prog.globalNamed "muslin/chars.high" = some 2 from by kernel_rfl] at h
      simp [Array.getElem?_eq_none h'] at h
  exact Go.var?_below hb (show Tryz.prog.globalNamed "muslin/chars.high" = some 2 from by kernel_rfl) hlt h
theorem TabHigh.at {w : World} (h : TabHigh w) (j : Nat) (hj : j < 32) : w.cell? ⟨2, j, none⟩ = some (.int .i32 (highTab.getD j 0)) := by
  have := Lib.TabIs.cell h (show Tryz.prog.globalNamed "muslin/chars.high" = some 2 from by kernel_rfl) j hj
  exact this
def hiC (c : UInt8) : Int := if 128 ≤ c.toNat ∧ c.toNat < 160 then highTab.getD (c.toNat - 128) 0 else c.toNat
def singlesL (l : List UInt8) : List UInt8 := l.flatMap fun c => Lib.encodeRune (hiC c)
def chars_singles.f (s : ByteArray) : Option ByteArray := if s.size ≤ 35184372088832 then some ⟨(singlesL s.data.toList).toArray⟩ else none
theorem hiC_range (c : UInt8) : 0 ≤ hiC c ∧ hiC c ≤ 65535 := by
  unfold hiC
  split
  · rename_i h
    have : ∀ j, j < 32 → 0 ≤ highTab.getD j 0 ∧ highTab.getD j 0 ≤ 65535 := by decide
    exact this _ (by omega)
  · have := UInt8.toNat_lt c; omega
set_option maxHeartbeats 4000000 in
set_option maxRecDepth 1000000 in
theorem chars_singles.calls' (s r : ByteArray) (w : World) (hGl : TabHigh w) (h : chars_singles.f s = some r) :
    Calls Tryz.prog 68 #[.string s] w fun e w' => e = .returned (.string r) ∧ Below w.heap.size w w' := by
  obtain ⟨hs, rfl⟩ := of_guard h
  clear h
  have HG := Lib.hid hGl; clear hGl
  go_enter Tryz.func68, Tryz.ntmps68
  go_wp2
  go_loopw [9] (fun i wr => ∃ k : Nat, k ≤ s.size ∧ i = .int .i64 k ∧ Lib.IsBuilderF 31 5 w.heap.size w.heap.size (Lib.byteCells (singlesL (s.data.toList.take k))) wr ∧ Below w.heap.size w wr ∧ w.heap.size ≤ wr.heap.size ∧ (singlesL (s.data.toList.take k)).length ≤ 4 * k) (fun i _ => s.size - (RowKit.intOf i).toNat)
  case atStart => exact ⟨0, Nat.zero_le _, rfl, Lib.IsBuilderF.of (Lib.fresh_isBuilder 31 5 w), (Below.refl _ w).alloc (Nat.le_refl _) _, by simp, by simp [singlesL]⟩
  case round =>
    obtain ⟨k, hk, rfl, hI, hb, hsz, hlen⟩ := hrel
    by_cases hlt : k < s.size
    · have hlt2 : k < s.data.toList.length := by simpa using hlt
      have hsn : singlesL (s.data.toList.take (k + 1)) = singlesL (s.data.toList.take k) ++ Lib.encodeRune (hiC s.data.toList[k]) := by
        rw [List.take_succ_eq_append_getElem hlt2]; simp [singlesL]
      have hr := hiC_range s.data.toList[k]
      have hcs : s[k] = s.data.toList[k] := rfl
      have hg := (HG.out.below hb)
      have hhc : hiC s.data.toList[k] = hiC s.data.toList[k] := rfl
      generalize hcc : s.data.toList[k] = c at *
      have h256 : c.toNat < 256 := UInt8.toNat_lt _
      have HS := Lib.hid hsn; have HI := Lib.hid hI
      have fin : ∀ W1 : World, Lib.IsBuilderF 31 5 w.heap.size w.heap.size (Lib.byteCells (singlesL (s.data.toList.take k)) ++ Lib.runeCells (hiC c)) W1 → Lib.IsBuilderF 31 5 w.heap.size w.heap.size (Lib.byteCells (singlesL (s.data.toList.take (k + 1)))) W1 ∧ (singlesL (s.data.toList.take (k + 1))).length ≤ 4 * (k + 1) := by
        intro W1 h1
        have hl4 := Lib.runeCells_le (hiC c)
        rw [Lib.runeCells_length] at hl4
        rw [HS.out, Lib.byteCells_append, Lib.byteCells_encodeRune]
        exact ⟨h1, by simp; omega⟩
      have FIN := Lib.hid fin
      clear hsn hI hcc HG hhc fin
      by_cases c1 : 128 ≤ c.toNat ∧ c.toNat < 160
      · have hcell := hg.at (c.toNat - 128) (by omega)
        have hv : highTab.getD (c.toNat - 128) 0 = hiC c := by unfold hiC; rw [if_pos c1]
        rw [hv] at hcell
        obtain ⟨c1, c2⟩ := c1
        clear hv
        go_wp2_with (go_at_call 93; refine (writeRune w.heap.size w.heap.size _ _ (by omega) (by omega) _ HI.out (by rw [Lib.byteCells_length]; omega) hsz).mono ?_; rintro e W1 ⟨rfl, h1, b1, k1⟩)
        go_roundw
        case rel => exact ⟨k + 1, by omega, by go_num, (FIN.out W1 h1).1, hb.trans b1, Nat.le_trans hsz b1.size, (FIN.out W1 h1).2⟩
        case measure => simp [RowKit.intOf]; omega
      · have hv : hiC c = (c.toNat : Int) := by unfold hiC; rw [if_neg c1]
        rw [hv] at FIN
        clear hv
        have c2 : c.toNat < 128 ∨ 160 ≤ c.toNat := by omega
        clear c1 hg
        rcases c2 with c2 | c2
        all_goals
          go_wp2_with (go_at_call 93; refine (writeRune w.heap.size w.heap.size _ _ (by omega) (by omega) _ HI.out (by rw [Lib.byteCells_length]; omega) hsz).mono ?_; rintro e W1 ⟨rfl, h1, b1, k1⟩)
          go_roundw
          case rel => exact ⟨k + 1, by omega, by go_num, (FIN.out W1 h1).1, hb.trans b1, Nat.le_trans hsz b1.size, (FIN.out W1 h1).2⟩
          case measure => simp [RowKit.intOf]; omega
    · have hk2 : s.data.toList.take k = s.data.toList := List.take_of_length_le (by simp; omega)
      rw [hk2] at hI
      clear hk2 hlen
      go_wp2_with (go_at_call 21; refine (Tryz.Builder_String_any_k w.heap.size w.heap.size _ _ hI hsz).mono ?_; rintro e W1 ⟨rfl, _, b1, _⟩)
      go_ret
      exact ⟨rfl, hb.trans b1⟩
def dblL (u : UInt8 → UInt8 → Int) : List UInt8 → List UInt8
  | [] => []
  | [_] => Lib.encodeRune 65533
  | [a, b] => Lib.encodeRune (u a b)
  | [a, b, _] => Lib.encodeRune (u a b) ++ Lib.encodeRune 65533
  | a :: b :: c :: d :: r =>
    if (55296 ≤ u a b ∧ u a b < 56320) ∧ (56320 ≤ u c d ∧ u c d ≤ 57343) then Lib.encodeRune (65536 + (u a b - 55296) * 1024 + u c d - 56320) ++ dblL u r
    else Lib.encodeRune (u a b) ++ dblL u (c :: d :: r)
def uLE (a b : UInt8) : Int := a.toNat + 256 * b.toNat
def uBE (a b : UInt8) : Int := 256 * a.toNat + b.toNat
def chars_doubles.f (s : ByteArray) (first second : Int) : Option ByteArray :=
  if s.size ≤ 35184372088832 ∧ (first = 0 ∧ second = 8 ∨ first = 8 ∧ second = 0) then some ⟨(dblL (if first = 0 then uLE else uBE) s.data.toList).toArray⟩ else none
theorem orLE (a b : UInt8) : bits .or .i32 (wrap32 (wrap32 (a.toNat : Int))) (wrap32 (wrap32 (b.toNat : Int) * 256)) = uLE a b := by
  have ha : a.toNat < 256 := UInt8.toNat_lt _
  have hb : b.toNat < 256 := UInt8.toNat_lt _
  have e1 : wrap32 (wrap32 (a.toNat : Int)) = ((a.toNat : Nat) : Int) := by unfold wrap32; omega
  have e2 : wrap32 (wrap32 (b.toNat : Int) * 256) = ((b.toNat * 256 : Nat) : Int) := by unfold wrap32; omega
  rw [e1, e2, (bits_nat .i32 31 (by decide) wraps_i32 a.toNat (b.toNat * 256) (by omega) (by omega)).2, Nat.or_comm, nat_join 8 _ _ (by omega) (by omega)]
  unfold uLE; omega
theorem orBE (a b : UInt8) : bits .or .i32 (wrap32 (wrap32 (a.toNat : Int) * 256)) (wrap32 (wrap32 (b.toNat : Int))) = uBE a b := by
  have ha : a.toNat < 256 := UInt8.toNat_lt _
  have hb : b.toNat < 256 := UInt8.toNat_lt _
  have e1 : wrap32 (wrap32 (b.toNat : Int)) = ((b.toNat : Nat) : Int) := by unfold wrap32; omega
  have e2 : wrap32 (wrap32 (a.toNat : Int) * 256) = ((a.toNat * 256 : Nat) : Int) := by unfold wrap32; omega
  rw [e1, e2, (bits_nat .i32 31 (by decide) wraps_i32 (a.toNat * 256) b.toNat (by omega) (by omega)).2, nat_join 8 _ _ (by omega) (by omega)]
  unfold uBE; omega
theorem uLE_range (a b : UInt8) : 0 ≤ uLE a b ∧ uLE a b ≤ 65535 := by
  have ha : a.toNat < 256 := UInt8.toNat_lt _
  have hb : b.toNat < 256 := UInt8.toNat_lt _
  unfold uLE; omega
theorem uBE_range (a b : UInt8) : 0 ≤ uBE a b ∧ uBE a b ≤ 65535 := by
  have ha : a.toNat < 256 := UInt8.toNat_lt _
  have hb : b.toNat < 256 := UInt8.toNat_lt _
  unfold uBE; omega
theorem drop2 (t : ByteArray) : (t.extract 2 t.size).data.toList = t.data.toList.drop 2 := by
  simp [ByteArray.extract_eq_extract_append_extract, List.take_of_length_le]
theorem drop4 (t : ByteArray) : ((t.extract 2 t.size).extract 2 (t.size - 2)).data.toList = (t.data.toList.drop 2).drop 2 := by
  rw [← drop2 t, ← drop2 (t.extract 2 t.size)]
  simp
theorem dbl_alone (u : UInt8 → UInt8 → Int) (l : List UInt8) (h1 : 1 < l.length)
    (h : u l[0] l[1] < 55296 ∨ 56320 ≤ u l[0] l[1] ∨ l.length ≤ 3 ∨ ∃ h3 : 3 < l.length, u l[2] l[3] < 56320 ∨ 57343 < u l[2] l[3]) :
    dblL u l = Lib.encodeRune (u l[0] l[1]) ++ dblL u (l.drop 2) := by
  match l, h1, h with
  | [a, b], _, _ => simp [dblL]
  | [a, b, c], _, _ => simp [dblL]
  | a :: b :: c :: d :: r, _, h =>
    have hn : ¬ ((55296 ≤ u a b ∧ u a b < 56320) ∧ (56320 ≤ u c d ∧ u c d ≤ 57343)) := by
      rintro ⟨⟨x1, x2⟩, x3, x4⟩
      rcases h with h | h | h | ⟨_, h⟩
      · simp at h; omega
      · simp at h; omega
      · simp at h
      · simp at h; omega
    simp only [dblL, if_neg hn]
    rfl
theorem dbl_pair (u : UInt8 → UInt8 → Int) (l : List UInt8) (h3 : 3 < l.length)
    (h : (55296 ≤ u l[0] l[1] ∧ u l[0] l[1] < 56320) ∧ (56320 ≤ u l[2] l[3] ∧ u l[2] l[3] ≤ 57343)) :
    dblL u l = Lib.encodeRune (65536 + (u l[0] l[1] - 55296) * 1024 + u l[2] l[3] - 56320) ++ dblL u ((l.drop 2).drop 2) := by
  match l, h3, h with
  | a :: b :: c :: d :: r, _, h =>
    have h' : (55296 ≤ u a b ∧ u a b < 56320) ∧ (56320 ≤ u c d ∧ u c d ≤ 57343) := h
    simp only [dblL, if_pos h']
    rfl
set_option maxHeartbeats 1600000 in
set_option maxRecDepth 1000000 in
theorem doubles_uLE (s : ByteArray) (w : World) (hs : s.size ≤ 35184372088832) :
    Calls Tryz.prog 69 #[.string s, .int .i64 0, .int .i64 8] w fun e w' => e = .returned (.string ⟨(dblL uLE s.data.toList).toArray⟩) ∧ Below w.heap.size w w' := by
  go_enter Tryz.func69, Tryz.ntmps69
  go_wp2
  go_loopw [0] (fun v wr => ∃ (t : ByteArray) (acc : List UInt8), v = .string t ∧ t.size ≤ s.size ∧ acc ++ dblL uLE t.data.toList = dblL uLE s.data.toList ∧ Lib.IsBuilderF 31 5 w.heap.size w.heap.size (Lib.byteCells acc) wr ∧ Below w.heap.size w wr ∧ w.heap.size ≤ wr.heap.size ∧ acc.length + 4 * t.size ≤ 4 * s.size) (fun v _ => match v with | .string t => t.size | _ => 0)
  case atStart => exact ⟨s, [], rfl, Nat.le_refl _, rfl, Lib.IsBuilderF.of (Lib.fresh_isBuilder 31 5 w), (Below.refl _ w).alloc (Nat.le_refl _) _, by simp, by simp⟩
  case round =>
    obtain ⟨t, acc, rfl, hts, hacc, hI, hb, hsz, hlen⟩ := hrel
    have HA := Lib.hid hacc; have HI := Lib.hid hI
    clear hacc hI
    have hl : t.data.toList.length = t.size := by simp
    by_cases h1 : 1 < t.size
    · have i0 : (0 : Int) < (t.size : Int) := by omega
      have j0 : 0 < t.size := by omega
      have i1 : (1 : Int) < (t.size : Int) := by omega
      have k1 : 1 < t.data.toList.length := by omega
      have k0 : 0 < t.data.toList.length := by omega
      obtain ⟨x, hx⟩ : ∃ x : Int, bits .or .i32 (wrap32 (wrap32 (t[0].toNat : Int))) (wrap32 (wrap32 (t[1].toNat : Int) * 256)) = x := ⟨_, rfl⟩
      have HX : Hid (x = uLE t.data.toList[0] t.data.toList[1]) := by rw [← hx]; exact orLE _ _
      have hxr : 0 ≤ x ∧ x ≤ 65535 := by rw [HX.out]; exact uLE_range _ _
      obtain ⟨hx0, hx1⟩ := hxr
      have alone : ∀ (W1 : World), Lib.IsBuilderF 31 5 w.heap.size w.heap.size (Lib.byteCells acc ++ Lib.runeCells x) W1 → (x < 55296 ∨ 56320 ≤ x ∨ t.data.toList.length ≤ 3 ∨ ∃ h3 : 3 < t.data.toList.length, uLE t.data.toList[2] t.data.toList[3] < 56320 ∨ 57343 < uLE t.data.toList[2] t.data.toList[3]) →
          (acc ++ Lib.encodeRune x) ++ dblL uLE (t.extract 2 t.size).data.toList = dblL uLE s.data.toList ∧ Lib.IsBuilderF 31 5 w.heap.size w.heap.size (Lib.byteCells (acc ++ Lib.encodeRune x)) W1 ∧ (acc ++ Lib.encodeRune x).length + 4 * (t.extract 2 t.size).size ≤ 4 * s.size := by
        intro W1 h2 h4
        refine ⟨?_, ?_, ?_⟩
        · rw [← HA.out, dbl_alone uLE t.data.toList k1 (by rw [← HX.out]; exact h4), drop2, List.append_assoc, HX.out]
        · rw [Lib.byteCells_append, Lib.byteCells_encodeRune]; exact h2
        · have hl4 := Lib.runeCells_le x
          rw [Lib.runeCells_length] at hl4
          have e2 : (t.extract 2 t.size).size = t.size - 2 := by simp
          simp only [List.length_append]; omega
      have hts2 : (t.extract 2 t.size).size ≤ s.size := by simp; omega
      have htm : (t.extract 2 t.size).size < t.size := by simp; omega
      have AL := Lib.hid alone
      clear alone
      have HL := Lib.hid hl
      clear hl
      by_cases hA : 55296 ≤ x ∧ x < 56320
      · obtain ⟨hA1, hA2⟩ := hA
        by_cases h3 : 3 < t.size
        · have i2 : (2 : Int) < (t.size : Int) := by omega
          have j2 : 2 < t.size := by omega
          have i3 : (3 : Int) < (t.size : Int) := by omega
          have k2 : 2 < t.data.toList.length := by have := HL.out; omega
          have k3 : 3 < t.data.toList.length := by have := HL.out; omega
          obtain ⟨y, hy⟩ : ∃ y : Int, bits .or .i32 (wrap32 (wrap32 (t[2].toNat : Int))) (wrap32 (wrap32 (t[3].toNat : Int) * 256)) = y := ⟨_, rfl⟩
          have HY : Hid (y = uLE t.data.toList[2] t.data.toList[3]) := by rw [← hy]; exact orLE _ _
          have hyr : 0 ≤ y ∧ y ≤ 65535 := by rw [HY.out]; exact uLE_range _ _
          obtain ⟨hy0, hy1⟩ := hyr
          by_cases hB : 56320 ≤ y ∧ y ≤ 57343
          · obtain ⟨hB1, hB2⟩ := hB
            have pair : ∀ (W1 : World), Lib.IsBuilderF 31 5 w.heap.size w.heap.size (Lib.byteCells acc ++ Lib.runeCells (65536 + (x - 55296) * 1024 + y - 56320)) W1 →
                (acc ++ Lib.encodeRune (65536 + (x - 55296) * 1024 + y - 56320)) ++ dblL uLE ((t.extract 2 t.size).extract 2 (t.size - 2)).data.toList = dblL uLE s.data.toList ∧ Lib.IsBuilderF 31 5 w.heap.size w.heap.size (Lib.byteCells (acc ++ Lib.encodeRune (65536 + (x - 55296) * 1024 + y - 56320))) W1 ∧ (acc ++ Lib.encodeRune (65536 + (x - 55296) * 1024 + y - 56320)).length + 4 * ((t.extract 2 t.size).extract 2 (t.size - 2)).size ≤ 4 * s.size := by
              intro W1 h2
              refine ⟨?_, ?_, ?_⟩
              · rw [← HA.out, dbl_pair uLE t.data.toList k3 (by rw [← HX.out, ← HY.out]; exact ⟨⟨hA1, hA2⟩, hB1, hB2⟩), drop4, List.append_assoc, HX.out, HY.out]; rfl
              · rw [Lib.byteCells_append, Lib.byteCells_encodeRune]; exact h2
              · have hl4 := Lib.runeCells_le (65536 + (x - 55296) * 1024 + y - 56320)
                rw [Lib.runeCells_length] at hl4
                have e2 : ((t.extract 2 t.size).extract 2 (t.size - 2)).size = t.size - 4 := by simp; omega
                simp only [List.length_append]; omega
            have hts4 : ((t.extract 2 t.size).extract 2 (t.size - 2)).size ≤ s.size := by simp; omega
            have htm4 : ((t.extract 2 t.size).extract 2 (t.size - 2)).size < t.size := by simp; omega
            have PR := Lib.hid pair
            clear pair AL
            have i4 : 2 ≤ t.size := by omega
            have i5 : (2 : Int) ≤ (t.size : Int) := by omega
            go_wp2_with fail
            go_quiet (fail)
            go_wp2_with fail
            go_quiet (fail)
            go_wp2_with fail
            go_quiet (fail)
            go_wp2_with (go_at_call 93; refine (writeRune w.heap.size w.heap.size _ _ (by omega) (by omega) _ (by exact HI.out) (by rw [Lib.byteCells_length]; omega) (by exact hsz)).mono ?_; rintro e W1 ⟨rfl, h1, b1, k1⟩)
            obtain ⟨f1, f2, f3⟩ := PR.out W1 h1
            go_roundw
            case rel => exact ⟨_, _, rfl, hts4, f1, f2, (bdrewN hb _).trans b1, Nat.le_trans hsz b1.size, f3⟩
            case measure => exact htm4
          · have hB2 : y < 56320 ∨ 57343 < y := by omega
            clear hB
            rcases hB2 with hB | hB
            · have ho : x < 55296 ∨ 56320 ≤ x ∨ t.data.toList.length ≤ 3 ∨ ∃ h3 : 3 < t.data.toList.length, uLE t.data.toList[2] t.data.toList[3] < 56320 ∨ 57343 < uLE t.data.toList[2] t.data.toList[3] := .inr (.inr (.inr ⟨k3, .inl (by rw [← HY.out]; exact hB)⟩))
              have HO := Lib.hid ho
              clear ho
              go_wp2_with fail
              go_quiet (fail)
              go_wp2_with fail
              go_quiet (fail)
              go_wp2_with (go_at_call 93; refine (writeRune w.heap.size w.heap.size _ _ (by omega) (by omega) _ (by exact HI.out) (by rw [Lib.byteCells_length]; omega) (by exact hsz)).mono ?_; rintro e W1 ⟨rfl, h1, b1, k1⟩)
              obtain ⟨f1, f2, f3⟩ := AL.out W1 h1 (HO.out)
              go_roundw
              case rel => exact ⟨_, _, rfl, hts2, f1, f2, (bdrewN hb _).trans b1, Nat.le_trans hsz b1.size, f3⟩
              case measure => exact htm
            · have ho : x < 55296 ∨ 56320 ≤ x ∨ t.data.toList.length ≤ 3 ∨ ∃ h3 : 3 < t.data.toList.length, uLE t.data.toList[2] t.data.toList[3] < 56320 ∨ 57343 < uLE t.data.toList[2] t.data.toList[3] := .inr (.inr (.inr ⟨k3, .inr (by rw [← HY.out]; exact hB)⟩))
              have HO := Lib.hid ho
              clear ho
              go_wp2_with fail
              go_quiet (fail)
              go_wp2_with fail
              go_quiet (fail)
              go_wp2_with (go_at_call 93; refine (writeRune w.heap.size w.heap.size _ _ (by omega) (by omega) _ (by exact HI.out) (by rw [Lib.byteCells_length]; omega) (by exact hsz)).mono ?_; rintro e W1 ⟨rfl, h1, b1, k1⟩)
              obtain ⟨f1, f2, f3⟩ := AL.out W1 h1 (HO.out)
              go_roundw
              case rel => exact ⟨_, _, rfl, hts2, f1, f2, (bdrewN hb _).trans b1, Nat.le_trans hsz b1.size, f3⟩
              case measure => exact htm
        · have i3 : ¬ (3 : Int) < (t.size : Int) := by omega
          go_wp2_with fail
          go_quiet (fail)
          go_wp2_with (go_at_call 93; refine (writeRune w.heap.size w.heap.size _ _ (by omega) (by omega) _ (by exact HI.out) (by rw [Lib.byteCells_length]; omega) (by exact hsz)).mono ?_; rintro e W1 ⟨rfl, h1, b1, k1⟩)
          obtain ⟨f1, f2, f3⟩ := AL.out W1 h1 (.inr (.inr (.inl (by have := HL.out; omega))))
          go_roundw
          case rel => exact ⟨_, _, rfl, hts2, f1, f2, (bdrewN hb _).trans b1, Nat.le_trans hsz b1.size, f3⟩
          case measure => exact htm
      · have hA2 : x < 55296 ∨ 56320 ≤ x := by omega
        clear hA
        rcases hA2 with hA | hA
        · skip
          go_wp2_with fail
          go_quiet (fail)
          go_wp2_with (go_at_call 93; refine (writeRune w.heap.size w.heap.size _ _ (by omega) (by omega) _ (by exact HI.out) (by rw [Lib.byteCells_length]; omega) (by exact hsz)).mono ?_; rintro e W1 ⟨rfl, h1, b1, k1⟩)
          obtain ⟨f1, f2, f3⟩ := AL.out W1 h1 (.inl hA)
          go_roundw
          case rel => exact ⟨_, _, rfl, hts2, f1, f2, (bdrewN hb _).trans b1, Nat.le_trans hsz b1.size, f3⟩
          case measure => exact htm
        · skip
          go_wp2_with fail
          go_quiet (fail)
          go_wp2_with (go_at_call 93; refine (writeRune w.heap.size w.heap.size _ _ (by omega) (by omega) _ (by exact HI.out) (by rw [Lib.byteCells_length]; omega) (by exact hsz)).mono ?_; rintro e W1 ⟨rfl, h1, b1, k1⟩)
          obtain ⟨f1, f2, f3⟩ := AL.out W1 h1 (.inr (.inl hA))
          go_roundw
          case rel => exact ⟨_, _, rfl, hts2, f1, f2, (bdrewN hb _).trans b1, Nat.le_trans hsz b1.size, f3⟩
          case measure => exact htm
    · by_cases h0 : t.size = 0
      · have e0 : t.data.toList = [] := by
          apply List.eq_nil_of_length_eq_zero; rw [hl]; exact h0
        have hf := HA.out
        rw [e0] at hf
        simp only [dblL, List.append_nil] at hf
        have HF := Lib.hid hf
        clear hf HA hl
        obtain rfl : t = ByteArray.empty := by
          apply ByteArray.ext; apply Array.ext'; rw [e0]; rfl
        clear e0 h0
        go_wp2_with (go_at_call 21; refine (Tryz.Builder_String_any_k w.heap.size w.heap.size _ _ HI.out hsz).mono ?_; rintro e W1 ⟨rfl, _, b1, _⟩)
        go_ret
        exact ⟨by rw [HF.out]; rfl, hb.trans b1⟩
      · have hone : t.size = 1 := by omega
        have e1 : dblL uLE t.data.toList = Lib.encodeRune 65533 := by
          have hl1 : t.data.toList.length = 1 := by rw [hl]; exact hone
          match t.data.toList, hl1 with
          | [a], _ => rfl
        have hf := HA.out
        rw [e1] at hf
        have HF := Lib.hid hf
        have hle := Lib.runeCells_le 65533
        have hnm : t.toList.isEmpty = false := by
          cases hh : t.toList with
          | nil =>
            have := congrArg List.length hh
            rw [ByteArray.toList_eq] at hh
            have := congrArg List.length hh
            simp [hone] at this
          | cons a b => rfl
        have hlen2 : acc.length + 4 ≤ 140737488355328 := by omega
        clear hf HA hl e1 hone h0
        go_wp2_with (first
          | (go_at_call 93; refine (writeRune w.heap.size w.heap.size _ _ (by omega) (by omega) _ HI.out (by rw [Lib.byteCells_length]; exact hlen2) hsz).mono ?_; rintro e W1 ⟨rfl, h2, b1, k1⟩; rw [← Lib.byteCells_encodeRune, ← Lib.byteCells_append, HF.out] at h2; have hsz1 := Nat.le_trans hsz b1.size)
          | (go_at_call 21; refine (Tryz.Builder_String_any_k w.heap.size w.heap.size _ _ (by assumption) (by assumption)).mono ?_; rintro e W2 ⟨rfl, _, b2, _⟩))
        go_ret
        exact ⟨rfl, (hb.trans b1).trans b2⟩
set_option maxHeartbeats 1600000 in
set_option maxRecDepth 1000000 in
theorem doubles_uBE (s : ByteArray) (w : World) (hs : s.size ≤ 35184372088832) :
    Calls Tryz.prog 69 #[.string s, .int .i64 8, .int .i64 0] w fun e w' => e = .returned (.string ⟨(dblL uBE s.data.toList).toArray⟩) ∧ Below w.heap.size w w' := by
  go_enter Tryz.func69, Tryz.ntmps69
  go_wp2
  go_loopw [0] (fun v wr => ∃ (t : ByteArray) (acc : List UInt8), v = .string t ∧ t.size ≤ s.size ∧ acc ++ dblL uBE t.data.toList = dblL uBE s.data.toList ∧ Lib.IsBuilderF 31 5 w.heap.size w.heap.size (Lib.byteCells acc) wr ∧ Below w.heap.size w wr ∧ w.heap.size ≤ wr.heap.size ∧ acc.length + 4 * t.size ≤ 4 * s.size) (fun v _ => match v with | .string t => t.size | _ => 0)
  case atStart => exact ⟨s, [], rfl, Nat.le_refl _, rfl, Lib.IsBuilderF.of (Lib.fresh_isBuilder 31 5 w), (Below.refl _ w).alloc (Nat.le_refl _) _, by simp, by simp⟩
  case round =>
    obtain ⟨t, acc, rfl, hts, hacc, hI, hb, hsz, hlen⟩ := hrel
    have HA := Lib.hid hacc; have HI := Lib.hid hI
    clear hacc hI
    have hl : t.data.toList.length = t.size := by simp
    by_cases h1 : 1 < t.size
    · have i0 : (0 : Int) < (t.size : Int) := by omega
      have j0 : 0 < t.size := by omega
      have i1 : (1 : Int) < (t.size : Int) := by omega
      have k1 : 1 < t.data.toList.length := by omega
      have k0 : 0 < t.data.toList.length := by omega
      obtain ⟨x, hx⟩ : ∃ x : Int, bits .or .i32 (wrap32 (wrap32 (t[0].toNat : Int) * 256)) (wrap32 (wrap32 (t[1].toNat : Int))) = x := ⟨_, rfl⟩
      have HX : Hid (x = uBE t.data.toList[0] t.data.toList[1]) := by rw [← hx]; exact orBE _ _
      have hxr : 0 ≤ x ∧ x ≤ 65535 := by rw [HX.out]; exact uBE_range _ _
      obtain ⟨hx0, hx1⟩ := hxr
      have alone : ∀ (W1 : World), Lib.IsBuilderF 31 5 w.heap.size w.heap.size (Lib.byteCells acc ++ Lib.runeCells x) W1 → (x < 55296 ∨ 56320 ≤ x ∨ t.data.toList.length ≤ 3 ∨ ∃ h3 : 3 < t.data.toList.length, uBE t.data.toList[2] t.data.toList[3] < 56320 ∨ 57343 < uBE t.data.toList[2] t.data.toList[3]) →
          (acc ++ Lib.encodeRune x) ++ dblL uBE (t.extract 2 t.size).data.toList = dblL uBE s.data.toList ∧ Lib.IsBuilderF 31 5 w.heap.size w.heap.size (Lib.byteCells (acc ++ Lib.encodeRune x)) W1 ∧ (acc ++ Lib.encodeRune x).length + 4 * (t.extract 2 t.size).size ≤ 4 * s.size := by
        intro W1 h2 h4
        refine ⟨?_, ?_, ?_⟩
        · rw [← HA.out, dbl_alone uBE t.data.toList k1 (by rw [← HX.out]; exact h4), drop2, List.append_assoc, HX.out]
        · rw [Lib.byteCells_append, Lib.byteCells_encodeRune]; exact h2
        · have hl4 := Lib.runeCells_le x
          rw [Lib.runeCells_length] at hl4
          have e2 : (t.extract 2 t.size).size = t.size - 2 := by simp
          simp only [List.length_append]; omega
      have hts2 : (t.extract 2 t.size).size ≤ s.size := by simp; omega
      have htm : (t.extract 2 t.size).size < t.size := by simp; omega
      have AL := Lib.hid alone
      clear alone
      have HL := Lib.hid hl
      clear hl
      by_cases hA : 55296 ≤ x ∧ x < 56320
      · obtain ⟨hA1, hA2⟩ := hA
        by_cases h3 : 3 < t.size
        · have i2 : (2 : Int) < (t.size : Int) := by omega
          have j2 : 2 < t.size := by omega
          have i3 : (3 : Int) < (t.size : Int) := by omega
          have k2 : 2 < t.data.toList.length := by have := HL.out; omega
          have k3 : 3 < t.data.toList.length := by have := HL.out; omega
          obtain ⟨y, hy⟩ : ∃ y : Int, bits .or .i32 (wrap32 (wrap32 (t[2].toNat : Int) * 256)) (wrap32 (wrap32 (t[3].toNat : Int))) = y := ⟨_, rfl⟩
          have HY : Hid (y = uBE t.data.toList[2] t.data.toList[3]) := by rw [← hy]; exact orBE _ _
          have hyr : 0 ≤ y ∧ y ≤ 65535 := by rw [HY.out]; exact uBE_range _ _
          obtain ⟨hy0, hy1⟩ := hyr
          by_cases hB : 56320 ≤ y ∧ y ≤ 57343
          · obtain ⟨hB1, hB2⟩ := hB
            have pair : ∀ (W1 : World), Lib.IsBuilderF 31 5 w.heap.size w.heap.size (Lib.byteCells acc ++ Lib.runeCells (65536 + (x - 55296) * 1024 + y - 56320)) W1 →
                (acc ++ Lib.encodeRune (65536 + (x - 55296) * 1024 + y - 56320)) ++ dblL uBE ((t.extract 2 t.size).extract 2 (t.size - 2)).data.toList = dblL uBE s.data.toList ∧ Lib.IsBuilderF 31 5 w.heap.size w.heap.size (Lib.byteCells (acc ++ Lib.encodeRune (65536 + (x - 55296) * 1024 + y - 56320))) W1 ∧ (acc ++ Lib.encodeRune (65536 + (x - 55296) * 1024 + y - 56320)).length + 4 * ((t.extract 2 t.size).extract 2 (t.size - 2)).size ≤ 4 * s.size := by
              intro W1 h2
              refine ⟨?_, ?_, ?_⟩
              · rw [← HA.out, dbl_pair uBE t.data.toList k3 (by rw [← HX.out, ← HY.out]; exact ⟨⟨hA1, hA2⟩, hB1, hB2⟩), drop4, List.append_assoc, HX.out, HY.out]; rfl
              · rw [Lib.byteCells_append, Lib.byteCells_encodeRune]; exact h2
              · have hl4 := Lib.runeCells_le (65536 + (x - 55296) * 1024 + y - 56320)
                rw [Lib.runeCells_length] at hl4
                have e2 : ((t.extract 2 t.size).extract 2 (t.size - 2)).size = t.size - 4 := by simp; omega
                simp only [List.length_append]; omega
            have hts4 : ((t.extract 2 t.size).extract 2 (t.size - 2)).size ≤ s.size := by simp; omega
            have htm4 : ((t.extract 2 t.size).extract 2 (t.size - 2)).size < t.size := by simp; omega
            have PR := Lib.hid pair
            clear pair AL
            have i4 : 2 ≤ t.size := by omega
            have i5 : (2 : Int) ≤ (t.size : Int) := by omega
            go_wp2_with fail
            go_quiet (fail)
            go_wp2_with fail
            go_quiet (fail)
            go_wp2_with fail
            go_quiet (fail)
            go_wp2_with (go_at_call 93; refine (writeRune w.heap.size w.heap.size _ _ (by omega) (by omega) _ (by exact HI.out) (by rw [Lib.byteCells_length]; omega) (by exact hsz)).mono ?_; rintro e W1 ⟨rfl, h1, b1, k1⟩)
            obtain ⟨f1, f2, f3⟩ := PR.out W1 h1
            go_roundw
            case rel => exact ⟨_, _, rfl, hts4, f1, f2, (bdrewN hb _).trans b1, Nat.le_trans hsz b1.size, f3⟩
            case measure => exact htm4
          · have hB2 : y < 56320 ∨ 57343 < y := by omega
            clear hB
            rcases hB2 with hB | hB
            · have ho : x < 55296 ∨ 56320 ≤ x ∨ t.data.toList.length ≤ 3 ∨ ∃ h3 : 3 < t.data.toList.length, uBE t.data.toList[2] t.data.toList[3] < 56320 ∨ 57343 < uBE t.data.toList[2] t.data.toList[3] := .inr (.inr (.inr ⟨k3, .inl (by rw [← HY.out]; exact hB)⟩))
              have HO := Lib.hid ho
              clear ho
              go_wp2_with fail
              go_quiet (fail)
              go_wp2_with fail
              go_quiet (fail)
              go_wp2_with (go_at_call 93; refine (writeRune w.heap.size w.heap.size _ _ (by omega) (by omega) _ (by exact HI.out) (by rw [Lib.byteCells_length]; omega) (by exact hsz)).mono ?_; rintro e W1 ⟨rfl, h1, b1, k1⟩)
              obtain ⟨f1, f2, f3⟩ := AL.out W1 h1 (HO.out)
              go_roundw
              case rel => exact ⟨_, _, rfl, hts2, f1, f2, (bdrewN hb _).trans b1, Nat.le_trans hsz b1.size, f3⟩
              case measure => exact htm
            · have ho : x < 55296 ∨ 56320 ≤ x ∨ t.data.toList.length ≤ 3 ∨ ∃ h3 : 3 < t.data.toList.length, uBE t.data.toList[2] t.data.toList[3] < 56320 ∨ 57343 < uBE t.data.toList[2] t.data.toList[3] := .inr (.inr (.inr ⟨k3, .inr (by rw [← HY.out]; exact hB)⟩))
              have HO := Lib.hid ho
              clear ho
              go_wp2_with fail
              go_quiet (fail)
              go_wp2_with fail
              go_quiet (fail)
              go_wp2_with (go_at_call 93; refine (writeRune w.heap.size w.heap.size _ _ (by omega) (by omega) _ (by exact HI.out) (by rw [Lib.byteCells_length]; omega) (by exact hsz)).mono ?_; rintro e W1 ⟨rfl, h1, b1, k1⟩)
              obtain ⟨f1, f2, f3⟩ := AL.out W1 h1 (HO.out)
              go_roundw
              case rel => exact ⟨_, _, rfl, hts2, f1, f2, (bdrewN hb _).trans b1, Nat.le_trans hsz b1.size, f3⟩
              case measure => exact htm
        · have i3 : ¬ (3 : Int) < (t.size : Int) := by omega
          go_wp2_with fail
          go_quiet (fail)
          go_wp2_with (go_at_call 93; refine (writeRune w.heap.size w.heap.size _ _ (by omega) (by omega) _ (by exact HI.out) (by rw [Lib.byteCells_length]; omega) (by exact hsz)).mono ?_; rintro e W1 ⟨rfl, h1, b1, k1⟩)
          obtain ⟨f1, f2, f3⟩ := AL.out W1 h1 (.inr (.inr (.inl (by have := HL.out; omega))))
          go_roundw
          case rel => exact ⟨_, _, rfl, hts2, f1, f2, (bdrewN hb _).trans b1, Nat.le_trans hsz b1.size, f3⟩
          case measure => exact htm
      · have hA2 : x < 55296 ∨ 56320 ≤ x := by omega
        clear hA
        rcases hA2 with hA | hA
        · skip
          go_wp2_with fail
          go_quiet (fail)
          go_wp2_with (go_at_call 93; refine (writeRune w.heap.size w.heap.size _ _ (by omega) (by omega) _ (by exact HI.out) (by rw [Lib.byteCells_length]; omega) (by exact hsz)).mono ?_; rintro e W1 ⟨rfl, h1, b1, k1⟩)
          obtain ⟨f1, f2, f3⟩ := AL.out W1 h1 (.inl hA)
          go_roundw
          case rel => exact ⟨_, _, rfl, hts2, f1, f2, (bdrewN hb _).trans b1, Nat.le_trans hsz b1.size, f3⟩
          case measure => exact htm
        · skip
          go_wp2_with fail
          go_quiet (fail)
          go_wp2_with (go_at_call 93; refine (writeRune w.heap.size w.heap.size _ _ (by omega) (by omega) _ (by exact HI.out) (by rw [Lib.byteCells_length]; omega) (by exact hsz)).mono ?_; rintro e W1 ⟨rfl, h1, b1, k1⟩)
          obtain ⟨f1, f2, f3⟩ := AL.out W1 h1 (.inr (.inl hA))
          go_roundw
          case rel => exact ⟨_, _, rfl, hts2, f1, f2, (bdrewN hb _).trans b1, Nat.le_trans hsz b1.size, f3⟩
          case measure => exact htm
    · by_cases h0 : t.size = 0
      · have e0 : t.data.toList = [] := by
          apply List.eq_nil_of_length_eq_zero; rw [hl]; exact h0
        have hf := HA.out
        rw [e0] at hf
        simp only [dblL, List.append_nil] at hf
        have HF := Lib.hid hf
        clear hf HA hl
        obtain rfl : t = ByteArray.empty := by
          apply ByteArray.ext; apply Array.ext'; rw [e0]; rfl
        clear e0 h0
        go_wp2_with (go_at_call 21; refine (Tryz.Builder_String_any_k w.heap.size w.heap.size _ _ HI.out hsz).mono ?_; rintro e W1 ⟨rfl, _, b1, _⟩)
        go_ret
        exact ⟨by rw [HF.out]; rfl, hb.trans b1⟩
      · have hone : t.size = 1 := by omega
        have e1 : dblL uBE t.data.toList = Lib.encodeRune 65533 := by
          have hl1 : t.data.toList.length = 1 := by rw [hl]; exact hone
          match t.data.toList, hl1 with
          | [a], _ => rfl
        have hf := HA.out
        rw [e1] at hf
        have HF := Lib.hid hf
        have hle := Lib.runeCells_le 65533
        have hnm : t.toList.isEmpty = false := by
          cases hh : t.toList with
          | nil =>
            have := congrArg List.length hh
            rw [ByteArray.toList_eq] at hh
            have := congrArg List.length hh
            simp [hone] at this
          | cons a b => rfl
        have hlen2 : acc.length + 4 ≤ 140737488355328 := by omega
        clear hf HA hl e1 hone h0
        go_wp2_with (first
          | (go_at_call 93; refine (writeRune w.heap.size w.heap.size _ _ (by omega) (by omega) _ HI.out (by rw [Lib.byteCells_length]; exact hlen2) hsz).mono ?_; rintro e W1 ⟨rfl, h2, b1, k1⟩; rw [← Lib.byteCells_encodeRune, ← Lib.byteCells_append, HF.out] at h2; have hsz1 := Nat.le_trans hsz b1.size)
          | (go_at_call 21; refine (Tryz.Builder_String_any_k w.heap.size w.heap.size _ _ (by assumption) (by assumption)).mono ?_; rintro e W2 ⟨rfl, _, b2, _⟩))
        go_ret
        exact ⟨rfl, (hb.trans b1).trans b2⟩
theorem chars_doubles.calls (s : ByteArray) (first second : Int) (r : ByteArray) (w : World) (h : chars_doubles.f s first second = some r) :
    Calls Tryz.prog 69 #[.string s, .int .i64 first, .int .i64 second] w fun e w' => e = .returned (.string r) ∧ Below w.heap.size w w' := by
  obtain ⟨⟨hs, ho⟩, rfl⟩ := of_guard h
  rcases ho with ⟨rfl, rfl⟩ | ⟨rfl, rfl⟩
  · exact doubles_uLE s w hs
  · exact doubles_uBE s w hs
end Go.Proofs.YtkfcbafjcjmfnaaGreatDoor
namespace Go.Proofs.YtkfcbafjcjmfnaaGreatDoor
open Go.RowKit
structure Glob (w : World) : Prop where
  high : TabHigh w
  tabs : Lib.Utf8Tabs 3 4 w
  maxl : ∃ m, w.cell? ⟨1, 0, none⟩ = some (.int .i64 m)
theorem Glob.below {w w1 : World} (h : Glob w) (hb : Below w.heap.size w w1) : Glob w1 :=
  ⟨h.high.below hb, Utf8Tabs_below h.tabs hb, by obtain ⟨m, hm⟩ := h.maxl; exact ⟨m, (hb.cell (World.block_lt_of_cell? _ _ hm)).trans hm⟩⟩
theorem chars_singles.calls (s r : ByteArray) (w : World) (hGl : Glob w) (h : chars_singles.f s = some r) :
    Calls Tryz.prog 68 #[.string s] w fun e w' => e = .returned (.string r) ∧ Below w.heap.size w w' := chars_singles.calls' s r w hGl.high h
end Go.Proofs.YtkfcbafjcjmfnaaGreatDoor
namespace Go.Proofs.YtkfcbafjcjmfnaaGreatDoor.C
open Go.RowKit Go.Proofs.YtkfcbafjcjmfnaaGreatDoorW.PrintWords Go.Proofs.YtkfcbafjcjmfnaaGreatDoorW.PrintLast Go.Proofs.YtkfcbafjcjmfnaaGreatDoorW.PrintMore
attribute [local go_sem] max2_int min2_int max_two min_two max_three min_three max_four min_four
set_option linter.unusedVariables false
set_option linter.unusedSimpArgs false
def errW : Option Int → Value
  | none => .nilIface
  | some c => .iface 0 (.int .i64 c)
theorem errW_none : errW none = .nilIface := rfl
theorem errW_some (c : Int) : errW (some c) = .iface 0 (.int .i64 c) := rfl
theorem info5 : (Tryz.prog.info? 5).map (fun i => (i.zero, i.size, i.bytes)) = some (some (.int .u8 0), 1, 1) := by kernel_rfl
end Go.Proofs.YtkfcbafjcjmfnaaGreatDoor.C
namespace Go.Proofs.YtkfcbafjcjmfnaaGreatDoor.C
open Go.RowKit Go.Proofs.YtkfcbafjcjmfnaaGreatDoorW.PrintWords Go.Proofs.YtkfcbafjcjmfnaaGreatDoorW.PrintLast Go.Proofs.YtkfcbafjcjmfnaaGreatDoorW.PrintMore
attribute [local go_sem] max2_int min2_int max_two min_two max_three min_three max_four min_four
set_option linter.unusedVariables false
set_option linter.unusedSimpArgs false
mutual
def chars_Known.j0 : Nat → ByteArray → Bool → Option (ByteArray × Bool)
  | 0, _, _ => none
  | k + 1, x6, x7 => if x7 = true then (some ((⟨#[117, 116, 102, 45, 56]⟩ : ByteArray), true)) else (if x6.toList = ([119, 105, 110, 100, 111, 119, 115, 45, 49, 50, 53, 50] : List UInt8) then (chars_Known.j1 k x6 (x6.toList == ([119, 105, 110, 100, 111, 119, 115, 45, 49, 50, 53, 50] : List UInt8))) else (if x6.toList = ([99, 112, 49, 50, 53, 50] : List UInt8) then (chars_Known.j1 k x6 (x6.toList == ([99, 112, 49, 50, 53, 50] : List UInt8))) else (if x6.toList = ([117, 115, 45, 97, 115, 99, 105, 105] : List UInt8) then (chars_Known.j1 k x6 (x6.toList == ([117, 115, 45, 97, 115, 99, 105, 105] : List UInt8))) else (if x6.toList = ([97, 115, 99, 105, 105] : List UInt8) then (chars_Known.j1 k x6 (x6.toList == ([97, 115, 99, 105, 105] : List UInt8))) else (if x6.toList = ([105, 115, 111, 45, 56, 56, 53, 57, 45, 49] : List UInt8) then (chars_Known.j1 k x6 (x6.toList == ([105, 115, 111, 45, 56, 56, 53, 57, 45, 49] : List UInt8))) else (if x6.toList = ([105, 115, 111, 56, 56, 53, 57, 45, 49] : List UInt8) then (chars_Known.j1 k x6 (x6.toList == ([105, 115, 111, 56, 56, 53, 57, 45, 49] : List UInt8))) else (if x6.toList = ([108, 97, 116, 105, 110, 49] : List UInt8) then (chars_Known.j1 k x6 (x6.toList == ([108, 97, 116, 105, 110, 49] : List UInt8))) else (chars_Known.j1 k x6 (x6.toList == ([108, 49] : List UInt8))))))))))
def chars_Known.j1 : Nat → ByteArray → Bool → Option (ByteArray × Bool)
  | 0, _, _ => none
  | k + 1, x6, x11 => if x11 = true then (some ((⟨#[119, 105, 110, 100, 111, 119, 115, 45, 49, 50, 53, 50]⟩ : ByteArray), true)) else (if x6.toList = ([117, 116, 102, 45, 49, 54, 108, 101] : List UInt8) then (chars_Known.j2 k x6 (x6.toList == ([117, 116, 102, 45, 49, 54, 108, 101] : List UInt8))) else (if x6.toList = ([117, 116, 102, 45, 49, 54] : List UInt8) then (chars_Known.j2 k x6 (x6.toList == ([117, 116, 102, 45, 49, 54] : List UInt8))) else (if x6.toList = ([117, 110, 105, 99, 111, 100, 101] : List UInt8) then (chars_Known.j2 k x6 (x6.toList == ([117, 110, 105, 99, 111, 100, 101] : List UInt8))) else (chars_Known.j2 k x6 (x6.toList == ([117, 99, 115, 45, 50] : List UInt8))))))
def chars_Known.j2 : Nat → ByteArray → Bool → Option (ByteArray × Bool)
  | 0, _, _ => none
  | k + 1, x6, x20 => if x20 = true then (some ((⟨#[117, 116, 102, 45, 49, 54, 108, 101]⟩ : ByteArray), true)) else (if x6.toList = ([117, 116, 102, 45, 49, 54, 98, 101] : List UInt8) then (some ((⟨#[117, 116, 102, 45, 49, 54, 98, 101]⟩ : ByteArray), true)) else (if x6.toList = ([117, 110, 105, 99, 111, 100, 101, 102, 102, 102, 101] : List UInt8) then (some ((⟨#[117, 116, 102, 45, 49, 54, 98, 101]⟩ : ByteArray), true)) else (some ((⟨#[]⟩ : ByteArray), false))))
end
def chars_Known.f (k : Nat) (a0 : ByteArray) : Option (ByteArray × Bool) := (strings_Trim.f a0 (⟨#[32, 9, 10, 12, 13]⟩ : ByteArray)).bind fun t101 => ((chars_small.f t101).bind fun t102 => (if t102.toList = ([117, 116, 102, 45, 56] : List UInt8) then (chars_Known.j0 k t102 (t102.toList == ([117, 116, 102, 45, 56] : List UInt8))) else (if t102.toList = ([117, 116, 102, 56] : List UInt8) then (chars_Known.j0 k t102 (t102.toList == ([117, 116, 102, 56] : List UInt8))) else (chars_Known.j0 k t102 (t102.toList == ([117, 110, 105, 99, 111, 100, 101, 45, 49, 45, 49, 45, 117, 116, 102, 45, 56] : List UInt8))))))
theorem chars_Known.mono_l : ∀ k, (∀ y0 y1, LeO (chars_Known.j0 k y0 y1) (chars_Known.j0 (k + 1) y0 y1)) ∧ (∀ y0 y1, LeO (chars_Known.j1 k y0 y1) (chars_Known.j1 (k + 1) y0 y1)) ∧ (∀ y0 y1, LeO (chars_Known.j2 k y0 y1) (chars_Known.j2 (k + 1) y0 y1))
  | 0 => ⟨fun _ _ r h => by simp [chars_Known.j0] at h, fun _ _ r h => by simp [chars_Known.j1] at h, fun _ _ r h => by simp [chars_Known.j2] at h⟩
  | k + 1 => by
    obtain ⟨ih0, ih1, ih2⟩ := chars_Known.mono_l k
    refine ⟨?_, ?_, ?_⟩
    · intro y0 y1
      unfold chars_Known.j0
      repeat' first
      | (with_reducible exact ih0 _ _)
      | (with_reducible exact ih1 _ _)
      | (with_reducible exact ih2 _ _)
      | (with_reducible exact LeO.refl _)
      | (with_reducible exact LeO.none _)
      | (with_reducible refine LeO.ite ?_ ?_)
      | (with_reducible refine LeO.bind ?_ (fun _ => ?_))
      | exact ih0 _ _
      | exact ih1 _ _
      | exact ih2 _ _
      | exact LeO.none _
      | refine LeO.ite ?_ ?_
      | refine LeO.bind ?_ (fun _ => ?_)
    · intro y0 y1
      unfold chars_Known.j1
      repeat' first
      | (with_reducible exact ih0 _ _)
      | (with_reducible exact ih1 _ _)
      | (with_reducible exact ih2 _ _)
      | (with_reducible exact LeO.refl _)
      | (with_reducible exact LeO.none _)
      | (with_reducible refine LeO.ite ?_ ?_)
      | (with_reducible refine LeO.bind ?_ (fun _ => ?_))
      | exact ih0 _ _
      | exact ih1 _ _
      | exact ih2 _ _
      | exact LeO.none _
      | refine LeO.ite ?_ ?_
      | refine LeO.bind ?_ (fun _ => ?_)
    · intro y0 y1
      unfold chars_Known.j2
      repeat' first
      | (with_reducible exact ih0 _ _)
      | (with_reducible exact ih1 _ _)
      | (with_reducible exact ih2 _ _)
      | (with_reducible exact LeO.refl _)
      | (with_reducible exact LeO.none _)
      | (with_reducible refine LeO.ite ?_ ?_)
      | (with_reducible refine LeO.bind ?_ (fun _ => ?_))
      | exact ih0 _ _
      | exact ih1 _ _
      | exact ih2 _ _
      | exact LeO.none _
      | refine LeO.ite ?_ ?_
      | refine LeO.bind ?_ (fun _ => ?_)
set_option maxHeartbeats 8000000 in
set_option maxRecDepth 100000 in
theorem chars_Known.calls (k : Nat) (a0 : ByteArray) (r1 : ByteArray) (r2 : Bool) (w : World) (h : chars_Known.f k a0 = some (r1, r2)) :
    Calls Tryz.prog 67 #[.string a0] w fun e w' => e = .returned (.tuple #[.string r1, .bool r2]) ∧ Below w.heap.size w w' := by
  have HB := Aside0.mk (Below.refl w.heap.size w); have H : ((strings_Trim.f a0 (⟨#[32, 9, 10, 12, 13]⟩ : ByteArray)).bind fun t101 => ((chars_small.f t101).bind fun t102 => (if t102.toList = ([117, 116, 102, 45, 56] : List UInt8) then (chars_Known.j0 k t102 (t102.toList == ([117, 116, 102, 45, 56] : List UInt8))) else (if t102.toList = ([117, 116, 102, 56] : List UInt8) then (chars_Known.j0 k t102 (t102.toList == ([117, 116, 102, 56] : List UInt8))) else (chars_Known.j0 k t102 (t102.toList == ([117, 110, 105, 99, 111, 100, 101, 45, 49, 45, 49, 45, 117, 116, 102, 45, 56] : List UInt8))))))) = some (r1, r2) := h; clear h; replace H := Option.bind_eq_some_iff.mp H; obtain ⟨t101, A20, H⟩ := H; replace H : ((chars_small.f t101).bind fun t102 => (if t102.toList = ([117, 116, 102, 45, 56] : List UInt8) then (chars_Known.j0 k t102 (t102.toList == ([117, 116, 102, 45, 56] : List UInt8))) else (if t102.toList = ([117, 116, 102, 56] : List UInt8) then (chars_Known.j0 k t102 (t102.toList == ([117, 116, 102, 56] : List UInt8))) else (chars_Known.j0 k t102 (t102.toList == ([117, 110, 105, 99, 111, 100, 101, 45, 49, 45, 49, 45, 117, 116, 102, 45, 56] : List UInt8)))))) = some (r1, r2) := H; have A2 := Aside0.mk A20; clear A20; replace H := Option.bind_eq_some_iff.mp H; obtain ⟨t102, A30, H⟩ := H; replace H : (if t102.toList = ([117, 116, 102, 45, 56] : List UInt8) then (chars_Known.j0 k t102 (t102.toList == ([117, 116, 102, 45, 56] : List UInt8))) else (if t102.toList = ([117, 116, 102, 56] : List UInt8) then (chars_Known.j0 k t102 (t102.toList == ([117, 116, 102, 56] : List UInt8))) else (chars_Known.j0 k t102 (t102.toList == ([117, 110, 105, 99, 111, 100, 101, 45, 49, 45, 49, 45, 117, 116, 102, 45, 56] : List UInt8))))) = some (r1, r2) := H; have A3 := Aside0.mk A30; clear A30; have HC4 := Aside0.mk H; clear H
  go_enter Tryz.func67, Tryz.ntmps67
  go_upto_if 7 with (first | ((with_reducible refine gate_callee (f := 92) rfl ?_); refine goesL_ (some 5) rfl rfl Tryz.func92 (by kernel_rfl) rfl #[.string a0, .string (⟨#[32, 9, 10, 12, 13]⟩ : ByteArray)] rfl (by (try simp only [List.map_toArray, List.map_cons, List.map_nil]); first | done | rfl | (simp only [List.length_drop, List.length_take]; rfl)) ?_; (with_reducible refine (strings_Trim.calls a0 (⟨#[32, 9, 10, 12, 13]⟩ : ByteArray) t101 _ A2.out).mono ?_); rintro e w5 ⟨rfl, hb⟩; refine ⟨_, rfl, ?_⟩; have n0_ := Aside0.mk (below_step (by repeat (first | (with_reducible first | exact HB.out | apply below_alloc | apply pw_below_drewN | apply below_drew1) | exact HB.out)) hb); clear HB; have HB := n0_; clear n0_; (try clear hb); (try clear hb2); (try clear hk); (try clear hi)) | ((with_reducible refine gate_callee (f := 91) rfl ?_); refine goesL_ (some 6) rfl rfl Tryz.func91 (by kernel_rfl) rfl #[.string t101] rfl (by (try simp only [List.map_toArray, List.map_cons, List.map_nil]); first | done | rfl | (simp only [List.length_drop, List.length_take]; rfl)) ?_; (with_reducible refine (chars_small.calls t101 t102 _ A3.out).mono ?_); rintro e w6 ⟨rfl, hb⟩; refine ⟨_, rfl, ?_⟩; have n0_ := Aside0.mk (below_step (by repeat (first | (with_reducible first | exact HB.out | apply below_alloc | apply pw_below_drewN | apply below_drew1) | exact HB.out)) hb); clear HB; have HB := n0_; clear n0_; (try clear hb); (try clear hb2); (try clear hk); (try clear hi)))
  (try simp only [Act.put, List.setIfInBounds_toArray, List.set_cons_zero, List.set_cons_succ])
  go_cut [7] (fun v7 wc => ∃ (kq : Nat) (x7_3 : Bool), v7 = .bool x7_3 ∧ Aside0 (chars_Known.j0 kq t102 x7_3 = some (r1, r2)) ∧ Aside0 (kq ≤ k) ∧ Aside0 (Below w.heap.size w wc))
  case first =>
    have H := HC4.out; clear HC4
    by_cases c7 : t102.toList = ([117, 116, 102, 45, 56] : List UInt8)
    case pos =>
      rw [if_pos c7] at H; have c7b0 : (t102.toList == ([117, 116, 102, 45, 56] : List UInt8)) = true := beq_iff_eq.mpr c7; have c7b1 : (t102.toList != ([117, 116, 102, 45, 56] : List UInt8)) = false := bne_eq_false_iff_eq.mpr c7; clear c7
      (first | rw [c7b0] | (simp only [i64_w, i32_w]; rw [c7b0]) | skip)
      have H' := Aside0.mk H; clear H
      go_wp2
      go_meet
      case rel => exact ⟨_, ((t102.toList == ([117, 116, 102, 45, 56] : List UInt8))), (by first | rfl | (simp; done) | (simp [*]; done)), H', ⟨by first | omega | exact Nat.le_refl _⟩, ⟨by repeat (first | (with_reducible first | exact HB.out | apply below_alloc | apply pw_below_drewN | apply below_drew1) | exact HB.out)⟩⟩
    rw [if_neg c7] at H; have c7b0 : (t102.toList == ([117, 116, 102, 45, 56] : List UInt8)) = false := beq_eq_false_iff_ne.mpr c7; have c7b1 : (t102.toList != ([117, 116, 102, 45, 56] : List UInt8)) = true := bne_iff_ne.mpr c7
    (first | rw [c7b0] | (simp only [i64_w, i32_w]; rw [c7b0]) | skip)
    by_cases c8 : t102.toList = ([117, 116, 102, 56] : List UInt8)
    case pos =>
      rw [if_pos c8] at H; have c8b0 : (t102.toList == ([117, 116, 102, 56] : List UInt8)) = true := beq_iff_eq.mpr c8; have c8b1 : (t102.toList != ([117, 116, 102, 56] : List UInt8)) = false := bne_eq_false_iff_eq.mpr c8; clear c8; have H' := Aside0.mk H; clear H
      go_wp2
      go_meet
      case rel => exact ⟨_, ((t102.toList == ([117, 116, 102, 56] : List UInt8))), (by first | rfl | (simp; done) | (simp [*]; done)), H', ⟨by first | omega | exact Nat.le_refl _⟩, ⟨by repeat (first | (with_reducible first | exact HB.out | apply below_alloc | apply pw_below_drewN | apply below_drew1) | exact HB.out)⟩⟩
    rw [if_neg c8] at H; have c8b0 : (t102.toList == ([117, 116, 102, 56] : List UInt8)) = false := beq_eq_false_iff_ne.mpr c8; have c8b1 : (t102.toList != ([117, 116, 102, 56] : List UInt8)) = true := bne_iff_ne.mpr c8; have H' := Aside0.mk H; clear H
    go_wp2
    go_meet
    case rel => exact ⟨_, ((t102.toList == ([117, 110, 105, 99, 111, 100, 101, 45, 49, 45, 49, 45, 117, 116, 102, 45, 56] : List UInt8))), (by first | rfl | (simp; done) | (simp [*]; done)), H', ⟨by first | omega | exact Nat.le_refl _⟩, ⟨by repeat (first | (with_reducible first | exact HB.out | apply below_alloc | apply pw_below_drewN | apply below_drew1) | exact HB.out)⟩⟩
  case rest =>
    clear HC4; (try clear p2); (try clear c6); (try clear c7); (try clear c7b0); (try clear c7b1); (try clear c8); (try clear c8b0); (try clear c8b1); obtain ⟨kq, x7_3, rfl, HA, HJ3, HB⟩ := hcut
    cases kq with
    | zero => exact absurd HA.out (by simp [chars_Known.j0])
    | succ kj3 =>
      have H := HA.out; clear HA; simp only [chars_Known.j0] at H
      by_cases c9 : x7_3 = true
      case pos =>
        subst c9
        have H1 : (some ((⟨#[117, 116, 102, 45, 56]⟩ : ByteArray), true)) = some (r1, r2) := by rw [if_pos rfl] at H; exact H
        clear H; have H := H1; clear H1; simp only [Option.some.injEq, Prod.mk.injEq] at H; obtain ⟨rfl, rfl⟩ := H
        go_wp2
        go_ret2
        exact ⟨by first | rfl | (simp [errW_none, errW_some] <;> rfl) | (simp [*, errW_none, errW_some] <;> rfl), by repeat (first | (with_reducible first | exact HB.out | apply below_alloc | apply pw_below_drewN | apply below_drew1) | exact HB.out)⟩
      replace c9 := Bool.eq_false_iff.mpr c9; subst c9
      have H1 : (if t102.toList = ([119, 105, 110, 100, 111, 119, 115, 45, 49, 50, 53, 50] : List UInt8) then (chars_Known.j1 kj3 t102 (t102.toList == ([119, 105, 110, 100, 111, 119, 115, 45, 49, 50, 53, 50] : List UInt8))) else (if t102.toList = ([99, 112, 49, 50, 53, 50] : List UInt8) then (chars_Known.j1 kj3 t102 (t102.toList == ([99, 112, 49, 50, 53, 50] : List UInt8))) else (if t102.toList = ([117, 115, 45, 97, 115, 99, 105, 105] : List UInt8) then (chars_Known.j1 kj3 t102 (t102.toList == ([117, 115, 45, 97, 115, 99, 105, 105] : List UInt8))) else (if t102.toList = ([97, 115, 99, 105, 105] : List UInt8) then (chars_Known.j1 kj3 t102 (t102.toList == ([97, 115, 99, 105, 105] : List UInt8))) else (if t102.toList = ([105, 115, 111, 45, 56, 56, 53, 57, 45, 49] : List UInt8) then (chars_Known.j1 kj3 t102 (t102.toList == ([105, 115, 111, 45, 56, 56, 53, 57, 45, 49] : List UInt8))) else (if t102.toList = ([105, 115, 111, 56, 56, 53, 57, 45, 49] : List UInt8) then (chars_Known.j1 kj3 t102 (t102.toList == ([105, 115, 111, 56, 56, 53, 57, 45, 49] : List UInt8))) else (if t102.toList = ([108, 97, 116, 105, 110, 49] : List UInt8) then (chars_Known.j1 kj3 t102 (t102.toList == ([108, 97, 116, 105, 110, 49] : List UInt8))) else (chars_Known.j1 kj3 t102 (t102.toList == ([108, 49] : List UInt8)))))))))) = some (r1, r2) := by rw [if_neg (show ¬ (false = true) by decide)] at H; exact H
      clear H; have H := H1; clear H1; have HC10 := Aside0.mk H; clear H
      go_upto_if 11 with (fail)
      go_cut [11] (fun v11 wc => ∃ (kq : Nat) (x11_9 : Bool), v11 = .bool x11_9 ∧ Aside0 (chars_Known.j1 kq t102 x11_9 = some (r1, r2)) ∧ Aside0 (kq ≤ kj3) ∧ Aside0 (Below w.heap.size w wc))
      case first =>
        have H := HC10.out; clear HC10
        by_cases c11 : t102.toList = ([119, 105, 110, 100, 111, 119, 115, 45, 49, 50, 53, 50] : List UInt8)
        case pos =>
          rw [if_pos c11] at H; have c11b0 : (t102.toList == ([119, 105, 110, 100, 111, 119, 115, 45, 49, 50, 53, 50] : List UInt8)) = true := beq_iff_eq.mpr c11; have c11b1 : (t102.toList != ([119, 105, 110, 100, 111, 119, 115, 45, 49, 50, 53, 50] : List UInt8)) = false := bne_eq_false_iff_eq.mpr c11; clear c11
          (first | rw [c11b0] | (simp only [i64_w, i32_w]; rw [c11b0]) | skip)
          have H' := Aside0.mk H; clear H
          go_wp2
          go_meet
          case rel => exact ⟨_, ((t102.toList == ([119, 105, 110, 100, 111, 119, 115, 45, 49, 50, 53, 50] : List UInt8))), (by first | rfl | (simp; done) | (simp [*]; done)), H', ⟨by have := HJ3.out; first | omega | exact Nat.le_refl _⟩, ⟨by repeat (first | (with_reducible first | exact HB.out | apply below_alloc | apply pw_below_drewN | apply below_drew1) | exact HB.out)⟩⟩
        rw [if_neg c11] at H; have c11b0 : (t102.toList == ([119, 105, 110, 100, 111, 119, 115, 45, 49, 50, 53, 50] : List UInt8)) = false := beq_eq_false_iff_ne.mpr c11; have c11b1 : (t102.toList != ([119, 105, 110, 100, 111, 119, 115, 45, 49, 50, 53, 50] : List UInt8)) = true := bne_iff_ne.mpr c11
        (first | rw [c11b0] | (simp only [i64_w, i32_w]; rw [c11b0]) | skip)
        by_cases c12 : t102.toList = ([99, 112, 49, 50, 53, 50] : List UInt8)
        case pos =>
          rw [if_pos c12] at H; have c12b0 : (t102.toList == ([99, 112, 49, 50, 53, 50] : List UInt8)) = true := beq_iff_eq.mpr c12; have c12b1 : (t102.toList != ([99, 112, 49, 50, 53, 50] : List UInt8)) = false := bne_eq_false_iff_eq.mpr c12; clear c12; have H' := Aside0.mk H; clear H
          go_wp2
          go_meet
          case rel => exact ⟨_, ((t102.toList == ([99, 112, 49, 50, 53, 50] : List UInt8))), (by first | rfl | (simp; done) | (simp [*]; done)), H', ⟨by have := HJ3.out; first | omega | exact Nat.le_refl _⟩, ⟨by repeat (first | (with_reducible first | exact HB.out | apply below_alloc | apply pw_below_drewN | apply below_drew1) | exact HB.out)⟩⟩
        rw [if_neg c12] at H; have c12b0 : (t102.toList == ([99, 112, 49, 50, 53, 50] : List UInt8)) = false := beq_eq_false_iff_ne.mpr c12; have c12b1 : (t102.toList != ([99, 112, 49, 50, 53, 50] : List UInt8)) = true := bne_iff_ne.mpr c12
        by_cases c13 : t102.toList = ([117, 115, 45, 97, 115, 99, 105, 105] : List UInt8)
        case pos =>
          rw [if_pos c13] at H; have c13b0 : (t102.toList == ([117, 115, 45, 97, 115, 99, 105, 105] : List UInt8)) = true := beq_iff_eq.mpr c13; have c13b1 : (t102.toList != ([117, 115, 45, 97, 115, 99, 105, 105] : List UInt8)) = false := bne_eq_false_iff_eq.mpr c13; clear c13; have H' := Aside0.mk H; clear H
          go_wp2
          go_meet
          case rel => exact ⟨_, ((t102.toList == ([117, 115, 45, 97, 115, 99, 105, 105] : List UInt8))), (by first | rfl | (simp; done) | (simp [*]; done)), H', ⟨by have := HJ3.out; first | omega | exact Nat.le_refl _⟩, ⟨by repeat (first | (with_reducible first | exact HB.out | apply below_alloc | apply pw_below_drewN | apply below_drew1) | exact HB.out)⟩⟩
        rw [if_neg c13] at H; have c13b0 : (t102.toList == ([117, 115, 45, 97, 115, 99, 105, 105] : List UInt8)) = false := beq_eq_false_iff_ne.mpr c13; have c13b1 : (t102.toList != ([117, 115, 45, 97, 115, 99, 105, 105] : List UInt8)) = true := bne_iff_ne.mpr c13
        by_cases c14 : t102.toList = ([97, 115, 99, 105, 105] : List UInt8)
        case pos =>
          rw [if_pos c14] at H; have c14b0 : (t102.toList == ([97, 115, 99, 105, 105] : List UInt8)) = true := beq_iff_eq.mpr c14; have c14b1 : (t102.toList != ([97, 115, 99, 105, 105] : List UInt8)) = false := bne_eq_false_iff_eq.mpr c14; clear c14; have H' := Aside0.mk H; clear H
          go_wp2
          go_meet
          case rel => exact ⟨_, ((t102.toList == ([97, 115, 99, 105, 105] : List UInt8))), (by first | rfl | (simp; done) | (simp [*]; done)), H', ⟨by have := HJ3.out; first | omega | exact Nat.le_refl _⟩, ⟨by repeat (first | (with_reducible first | exact HB.out | apply below_alloc | apply pw_below_drewN | apply below_drew1) | exact HB.out)⟩⟩
        rw [if_neg c14] at H; have c14b0 : (t102.toList == ([97, 115, 99, 105, 105] : List UInt8)) = false := beq_eq_false_iff_ne.mpr c14; have c14b1 : (t102.toList != ([97, 115, 99, 105, 105] : List UInt8)) = true := bne_iff_ne.mpr c14
        by_cases c15 : t102.toList = ([105, 115, 111, 45, 56, 56, 53, 57, 45, 49] : List UInt8)
        case pos =>
          rw [if_pos c15] at H; have c15b0 : (t102.toList == ([105, 115, 111, 45, 56, 56, 53, 57, 45, 49] : List UInt8)) = true := beq_iff_eq.mpr c15; have c15b1 : (t102.toList != ([105, 115, 111, 45, 56, 56, 53, 57, 45, 49] : List UInt8)) = false := bne_eq_false_iff_eq.mpr c15; clear c15; have H' := Aside0.mk H; clear H
          go_wp2
          go_meet
          case rel => exact ⟨_, ((t102.toList == ([105, 115, 111, 45, 56, 56, 53, 57, 45, 49] : List UInt8))), (by first | rfl | (simp; done) | (simp [*]; done)), H', ⟨by have := HJ3.out; first | omega | exact Nat.le_refl _⟩, ⟨by repeat (first | (with_reducible first | exact HB.out | apply below_alloc | apply pw_below_drewN | apply below_drew1) | exact HB.out)⟩⟩
        rw [if_neg c15] at H; have c15b0 : (t102.toList == ([105, 115, 111, 45, 56, 56, 53, 57, 45, 49] : List UInt8)) = false := beq_eq_false_iff_ne.mpr c15; have c15b1 : (t102.toList != ([105, 115, 111, 45, 56, 56, 53, 57, 45, 49] : List UInt8)) = true := bne_iff_ne.mpr c15
        by_cases c16 : t102.toList = ([105, 115, 111, 56, 56, 53, 57, 45, 49] : List UInt8)
        case pos =>
          rw [if_pos c16] at H; have c16b0 : (t102.toList == ([105, 115, 111, 56, 56, 53, 57, 45, 49] : List UInt8)) = true := beq_iff_eq.mpr c16; have c16b1 : (t102.toList != ([105, 115, 111, 56, 56, 53, 57, 45, 49] : List UInt8)) = false := bne_eq_false_iff_eq.mpr c16; clear c16; have H' := Aside0.mk H; clear H
          go_wp2
          go_meet
          case rel => exact ⟨_, ((t102.toList == ([105, 115, 111, 56, 56, 53, 57, 45, 49] : List UInt8))), (by first | rfl | (simp; done) | (simp [*]; done)), H', ⟨by have := HJ3.out; first | omega | exact Nat.le_refl _⟩, ⟨by repeat (first | (with_reducible first | exact HB.out | apply below_alloc | apply pw_below_drewN | apply below_drew1) | exact HB.out)⟩⟩
        rw [if_neg c16] at H; have c16b0 : (t102.toList == ([105, 115, 111, 56, 56, 53, 57, 45, 49] : List UInt8)) = false := beq_eq_false_iff_ne.mpr c16; have c16b1 : (t102.toList != ([105, 115, 111, 56, 56, 53, 57, 45, 49] : List UInt8)) = true := bne_iff_ne.mpr c16
        by_cases c17 : t102.toList = ([108, 97, 116, 105, 110, 49] : List UInt8)
        case neg =>
          rw [if_neg c17] at H; have c17b0 : (t102.toList == ([108, 97, 116, 105, 110, 49] : List UInt8)) = false := beq_eq_false_iff_ne.mpr c17; have c17b1 : (t102.toList != ([108, 97, 116, 105, 110, 49] : List UInt8)) = true := bne_iff_ne.mpr c17; have H' := Aside0.mk H; clear H
          go_wp2
          go_meet
          case rel => exact ⟨_, ((t102.toList == ([108, 49] : List UInt8))), (by first | rfl | (simp; done) | (simp [*]; done)), H', ⟨by have := HJ3.out; first | omega | exact Nat.le_refl _⟩, ⟨by repeat (first | (with_reducible first | exact HB.out | apply below_alloc | apply pw_below_drewN | apply below_drew1) | exact HB.out)⟩⟩
        rw [if_pos c17] at H; have c17b0 : (t102.toList == ([108, 97, 116, 105, 110, 49] : List UInt8)) = true := beq_iff_eq.mpr c17; have c17b1 : (t102.toList != ([108, 97, 116, 105, 110, 49] : List UInt8)) = false := bne_eq_false_iff_eq.mpr c17; clear c17; have H' := Aside0.mk H; clear H
        go_wp2
        go_meet
        case rel => exact ⟨_, ((t102.toList == ([108, 97, 116, 105, 110, 49] : List UInt8))), (by first | rfl | (simp; done) | (simp [*]; done)), H', ⟨by have := HJ3.out; first | omega | exact Nat.le_refl _⟩, ⟨by repeat (first | (with_reducible first | exact HB.out | apply below_alloc | apply pw_below_drewN | apply below_drew1) | exact HB.out)⟩⟩
      case rest =>
        clear HC10; (try clear c1); (try clear p2); (try clear c6); (try clear c7); (try clear c7b0); (try clear c7b1); (try clear c8); (try clear c8b0); (try clear c8b1); (try clear c9); (try clear c11); (try clear c11b0); (try clear c11b1); (try clear c12); (try clear c12b0); (try clear c12b1); (try clear c13); (try clear c13b0); (try clear c13b1); (try clear c14); (try clear c14b0); (try clear c14b1); (try clear c15); (try clear c15b0); (try clear c15b1); (try clear c16); (try clear c16b0); (try clear c16b1); (try clear c17); (try clear c17b0); (try clear c17b1); (try clear p2); obtain ⟨kq, x11_9, rfl, HA, HJ9, HB⟩ := hcut
        cases kq with
        | zero => exact absurd HA.out (by simp [chars_Known.j1])
        | succ kj9 =>
          have H := HA.out; clear HA; simp only [chars_Known.j1] at H
          by_cases c18 : x11_9 = true
          case pos =>
            subst c18
            have H1 : (some ((⟨#[119, 105, 110, 100, 111, 119, 115, 45, 49, 50, 53, 50]⟩ : ByteArray), true)) = some (r1, r2) := by rw [if_pos rfl] at H; exact H
            clear H; have H := H1; clear H1; simp only [Option.some.injEq, Prod.mk.injEq] at H; obtain ⟨rfl, rfl⟩ := H
            go_wp2
            go_ret2
            exact ⟨by first | rfl | (simp [errW_none, errW_some] <;> rfl) | (simp [*, errW_none, errW_some] <;> rfl), by repeat (first | (with_reducible first | exact HB.out | apply below_alloc | apply pw_below_drewN | apply below_drew1) | exact HB.out)⟩
          replace c18 := Bool.eq_false_iff.mpr c18; subst c18
          have H1 : (if t102.toList = ([117, 116, 102, 45, 49, 54, 108, 101] : List UInt8) then (chars_Known.j2 kj9 t102 (t102.toList == ([117, 116, 102, 45, 49, 54, 108, 101] : List UInt8))) else (if t102.toList = ([117, 116, 102, 45, 49, 54] : List UInt8) then (chars_Known.j2 kj9 t102 (t102.toList == ([117, 116, 102, 45, 49, 54] : List UInt8))) else (if t102.toList = ([117, 110, 105, 99, 111, 100, 101] : List UInt8) then (chars_Known.j2 kj9 t102 (t102.toList == ([117, 110, 105, 99, 111, 100, 101] : List UInt8))) else (chars_Known.j2 kj9 t102 (t102.toList == ([117, 99, 115, 45, 50] : List UInt8)))))) = some (r1, r2) := by rw [if_neg (show ¬ (false = true) by decide)] at H; exact H
          clear H; have H := H1; clear H1; have HC19 := Aside0.mk H; clear H
          go_upto_if 20 with (fail)
          go_cut [20] (fun v20 wc => ∃ (kq : Nat) (x20_18 : Bool), v20 = .bool x20_18 ∧ Aside0 (chars_Known.j2 kq t102 x20_18 = some (r1, r2)) ∧ Aside0 (kq ≤ kj9) ∧ Aside0 (Below w.heap.size w wc))
          case first =>
            have H := HC19.out; clear HC19
            by_cases c20 : t102.toList = ([117, 116, 102, 45, 49, 54, 108, 101] : List UInt8)
            case pos =>
              rw [if_pos c20] at H; have c20b0 : (t102.toList == ([117, 116, 102, 45, 49, 54, 108, 101] : List UInt8)) = true := beq_iff_eq.mpr c20; have c20b1 : (t102.toList != ([117, 116, 102, 45, 49, 54, 108, 101] : List UInt8)) = false := bne_eq_false_iff_eq.mpr c20; clear c20
              (first | rw [c20b0] | (simp only [i64_w, i32_w]; rw [c20b0]) | skip)
              have H' := Aside0.mk H; clear H
              go_wp2
              go_meet
              case rel => exact ⟨_, ((t102.toList == ([117, 116, 102, 45, 49, 54, 108, 101] : List UInt8))), (by first | rfl | (simp; done) | (simp [*]; done)), H', ⟨by have := HJ3.out; have := HJ9.out; first | omega | exact Nat.le_refl _⟩, ⟨by repeat (first | (with_reducible first | exact HB.out | apply below_alloc | apply pw_below_drewN | apply below_drew1) | exact HB.out)⟩⟩
            rw [if_neg c20] at H; have c20b0 : (t102.toList == ([117, 116, 102, 45, 49, 54, 108, 101] : List UInt8)) = false := beq_eq_false_iff_ne.mpr c20; have c20b1 : (t102.toList != ([117, 116, 102, 45, 49, 54, 108, 101] : List UInt8)) = true := bne_iff_ne.mpr c20
            (first | rw [c20b0] | (simp only [i64_w, i32_w]; rw [c20b0]) | skip)
            by_cases c21 : t102.toList = ([117, 116, 102, 45, 49, 54] : List UInt8)
            case pos =>
              rw [if_pos c21] at H; have c21b0 : (t102.toList == ([117, 116, 102, 45, 49, 54] : List UInt8)) = true := beq_iff_eq.mpr c21; have c21b1 : (t102.toList != ([117, 116, 102, 45, 49, 54] : List UInt8)) = false := bne_eq_false_iff_eq.mpr c21; clear c21; have H' := Aside0.mk H; clear H
              go_wp2
              go_meet
              case rel => exact ⟨_, ((t102.toList == ([117, 116, 102, 45, 49, 54] : List UInt8))), (by first | rfl | (simp; done) | (simp [*]; done)), H', ⟨by have := HJ3.out; have := HJ9.out; first | omega | exact Nat.le_refl _⟩, ⟨by repeat (first | (with_reducible first | exact HB.out | apply below_alloc | apply pw_below_drewN | apply below_drew1) | exact HB.out)⟩⟩
            rw [if_neg c21] at H; have c21b0 : (t102.toList == ([117, 116, 102, 45, 49, 54] : List UInt8)) = false := beq_eq_false_iff_ne.mpr c21; have c21b1 : (t102.toList != ([117, 116, 102, 45, 49, 54] : List UInt8)) = true := bne_iff_ne.mpr c21
            by_cases c22 : t102.toList = ([117, 110, 105, 99, 111, 100, 101] : List UInt8)
            case neg =>
              rw [if_neg c22] at H; have c22b0 : (t102.toList == ([117, 110, 105, 99, 111, 100, 101] : List UInt8)) = false := beq_eq_false_iff_ne.mpr c22; have c22b1 : (t102.toList != ([117, 110, 105, 99, 111, 100, 101] : List UInt8)) = true := bne_iff_ne.mpr c22; have H' := Aside0.mk H; clear H
              go_wp2
              go_meet
              case rel => exact ⟨_, ((t102.toList == ([117, 99, 115, 45, 50] : List UInt8))), (by first | rfl | (simp; done) | (simp [*]; done)), H', ⟨by have := HJ3.out; have := HJ9.out; first | omega | exact Nat.le_refl _⟩, ⟨by repeat (first | (with_reducible first | exact HB.out | apply below_alloc | apply pw_below_drewN | apply below_drew1) | exact HB.out)⟩⟩
            rw [if_pos c22] at H; have c22b0 : (t102.toList == ([117, 110, 105, 99, 111, 100, 101] : List UInt8)) = true := beq_iff_eq.mpr c22; have c22b1 : (t102.toList != ([117, 110, 105, 99, 111, 100, 101] : List UInt8)) = false := bne_eq_false_iff_eq.mpr c22; clear c22; have H' := Aside0.mk H; clear H
            go_wp2
            go_meet
            case rel => exact ⟨_, ((t102.toList == ([117, 110, 105, 99, 111, 100, 101] : List UInt8))), (by first | rfl | (simp; done) | (simp [*]; done)), H', ⟨by have := HJ3.out; have := HJ9.out; first | omega | exact Nat.le_refl _⟩, ⟨by repeat (first | (with_reducible first | exact HB.out | apply below_alloc | apply pw_below_drewN | apply below_drew1) | exact HB.out)⟩⟩
          case rest =>
            clear HC19; (try clear c1); (try clear c2); (try clear p2); (try clear c6); (try clear c7); (try clear c7b0); (try clear c7b1); (try clear c8); (try clear c8b0); (try clear c8b1); (try clear c9); (try clear c11); (try clear c11b0); (try clear c11b1); (try clear c12); (try clear c12b0); (try clear c12b1); (try clear c13); (try clear c13b0); (try clear c13b1); (try clear c14); (try clear c14b0); (try clear c14b1); (try clear c15); (try clear c15b0); (try clear c15b1); (try clear c16); (try clear c16b0); (try clear c16b1); (try clear c17); (try clear c17b0); (try clear c17b1); (try clear c18); (try clear c20); (try clear c20b0); (try clear c20b1); (try clear c21); (try clear c21b0); (try clear c21b1); (try clear c22); (try clear c22b0); (try clear c22b1); (try clear p2); obtain ⟨kq, x20_18, rfl, HA, HJ18, HB⟩ := hcut
            cases kq with
            | zero => exact absurd HA.out (by simp [chars_Known.j2])
            | succ kj18 =>
              have H := HA.out; clear HA; simp only [chars_Known.j2] at H
              by_cases c23 : x20_18 = true
              case pos =>
                subst c23
                have H1 : (some ((⟨#[117, 116, 102, 45, 49, 54, 108, 101]⟩ : ByteArray), true)) = some (r1, r2) := by rw [if_pos rfl] at H; exact H
                clear H; have H := H1; clear H1; simp only [Option.some.injEq, Prod.mk.injEq] at H; obtain ⟨rfl, rfl⟩ := H
                go_wp2
                go_ret2
                exact ⟨by first | rfl | (simp [errW_none, errW_some] <;> rfl) | (simp [*, errW_none, errW_some] <;> rfl), by repeat (first | (with_reducible first | exact HB.out | apply below_alloc | apply pw_below_drewN | apply below_drew1) | exact HB.out)⟩
              replace c23 := Bool.eq_false_iff.mpr c23; subst c23
              have H1 : (if t102.toList = ([117, 116, 102, 45, 49, 54, 98, 101] : List UInt8) then (some ((⟨#[117, 116, 102, 45, 49, 54, 98, 101]⟩ : ByteArray), true)) else (if t102.toList = ([117, 110, 105, 99, 111, 100, 101, 102, 102, 102, 101] : List UInt8) then (some ((⟨#[117, 116, 102, 45, 49, 54, 98, 101]⟩ : ByteArray), true)) else (some ((⟨#[]⟩ : ByteArray), false)))) = some (r1, r2) := by rw [if_neg (show ¬ (false = true) by decide)] at H; exact H
              clear H; have H := H1; clear H1
              by_cases c24 : t102.toList = ([117, 116, 102, 45, 49, 54, 98, 101] : List UInt8)
              case pos =>
                rw [if_pos c24] at H; have c24b0 : (t102.toList == ([117, 116, 102, 45, 49, 54, 98, 101] : List UInt8)) = true := beq_iff_eq.mpr c24; have c24b1 : (t102.toList != ([117, 116, 102, 45, 49, 54, 98, 101] : List UInt8)) = false := bne_eq_false_iff_eq.mpr c24; clear c24; simp only [Option.some.injEq, Prod.mk.injEq] at H; obtain ⟨rfl, rfl⟩ := H
                go_wp2
                go_ret2
                exact ⟨by first | rfl | (simp [errW_none, errW_some] <;> rfl) | (simp [*, errW_none, errW_some] <;> rfl), by repeat (first | (with_reducible first | exact HB.out | apply below_alloc | apply pw_below_drewN | apply below_drew1) | exact HB.out)⟩
              rw [if_neg c24] at H; have c24b0 : (t102.toList == ([117, 116, 102, 45, 49, 54, 98, 101] : List UInt8)) = false := beq_eq_false_iff_ne.mpr c24; have c24b1 : (t102.toList != ([117, 116, 102, 45, 49, 54, 98, 101] : List UInt8)) = true := bne_iff_ne.mpr c24
              by_cases c25 : t102.toList = ([117, 110, 105, 99, 111, 100, 101, 102, 102, 102, 101] : List UInt8)
              case neg =>
                rw [if_neg c25] at H; have c25b0 : (t102.toList == ([117, 110, 105, 99, 111, 100, 101, 102, 102, 102, 101] : List UInt8)) = false := beq_eq_false_iff_ne.mpr c25; have c25b1 : (t102.toList != ([117, 110, 105, 99, 111, 100, 101, 102, 102, 102, 101] : List UInt8)) = true := bne_iff_ne.mpr c25; simp only [Option.some.injEq, Prod.mk.injEq] at H; obtain ⟨rfl, rfl⟩ := H
                go_wp2
                go_ret2
                exact ⟨by first | rfl | (simp [errW_none, errW_some] <;> rfl) | (simp [*, errW_none, errW_some] <;> rfl), by repeat (first | (with_reducible first | exact HB.out | apply below_alloc | apply pw_below_drewN | apply below_drew1) | exact HB.out)⟩
              rw [if_pos c25] at H; have c25b0 : (t102.toList == ([117, 110, 105, 99, 111, 100, 101, 102, 102, 102, 101] : List UInt8)) = true := beq_iff_eq.mpr c25; have c25b1 : (t102.toList != ([117, 110, 105, 99, 111, 100, 101, 102, 102, 102, 101] : List UInt8)) = false := bne_eq_false_iff_eq.mpr c25; clear c25; simp only [Option.some.injEq, Prod.mk.injEq] at H; obtain ⟨rfl, rfl⟩ := H
              go_wp2
              go_ret2
              exact ⟨by first | rfl | (simp [errW_none, errW_some] <;> rfl) | (simp [*, errW_none, errW_some] <;> rfl), by repeat (first | (with_reducible first | exact HB.out | apply below_alloc | apply pw_below_drewN | apply below_drew1) | exact HB.out)⟩
def chars_Decode.f (k : Nat) (a0 : ByteArray) (a1 : ByteArray) : Option (ByteArray × Bool) := (chars_Known.f k a0).bind fun bt103 => (if bt103.1.toList = ([119, 105, 110, 100, 111, 119, 115, 45, 49, 50, 53, 50] : List UInt8) then ((chars_singles.f a1).bind fun t105 => (some (t105, bt103.2))) else (if bt103.1.toList = ([117, 116, 102, 45, 49, 54, 108, 101] : List UInt8) then ((chars_doubles.f a1 0 8).bind fun t106 => (some (t106, bt103.2))) else (if bt103.1.toList = ([117, 116, 102, 45, 49, 54, 98, 101] : List UInt8) then ((chars_doubles.f a1 8 0).bind fun t107 => (some (t107, bt103.2))) else ((chars_Valid.f a1).bind fun t108 => (some (t108, bt103.2))))))
set_option maxHeartbeats 8000000 in
set_option maxRecDepth 100000 in
theorem chars_Decode.calls (k : Nat) (a0 : ByteArray) (a1 : ByteArray) (r1 : ByteArray) (r2 : Bool) (w : World) (hGl : Glob w) (h : chars_Decode.f k a0 a1 = some (r1, r2)) :
    Calls Tryz.prog 48 #[.string a0, .string a1] w fun e w' => e = .returned (.tuple #[.string r1, .bool r2]) ∧ Below w.heap.size w w' := by
  have HGl := Aside0.mk hGl; clear hGl; have HB := Aside0.mk (Below.refl w.heap.size w); have H : ((chars_Known.f k a0).bind fun bt103 => (if bt103.1.toList = ([119, 105, 110, 100, 111, 119, 115, 45, 49, 50, 53, 50] : List UInt8) then ((chars_singles.f a1).bind fun t105 => (some (t105, bt103.2))) else (if bt103.1.toList = ([117, 116, 102, 45, 49, 54, 108, 101] : List UInt8) then ((chars_doubles.f a1 0 8).bind fun t106 => (some (t106, bt103.2))) else (if bt103.1.toList = ([117, 116, 102, 45, 49, 54, 98, 101] : List UInt8) then ((chars_doubles.f a1 8 0).bind fun t107 => (some (t107, bt103.2))) else ((chars_Valid.f a1).bind fun t108 => (some (t108, bt103.2))))))) = some (r1, r2) := h; clear h; replace H := Option.bind_eq_some_iff.mp H; obtain ⟨⟨t103, t104⟩, A30, H⟩ := H; replace H : (if t103.toList = ([119, 105, 110, 100, 111, 119, 115, 45, 49, 50, 53, 50] : List UInt8) then ((chars_singles.f a1).bind fun t105 => (some (t105, t104))) else (if t103.toList = ([117, 116, 102, 45, 49, 54, 108, 101] : List UInt8) then ((chars_doubles.f a1 0 8).bind fun t106 => (some (t106, t104))) else (if t103.toList = ([117, 116, 102, 45, 49, 54, 98, 101] : List UInt8) then ((chars_doubles.f a1 8 0).bind fun t107 => (some (t107, t104))) else ((chars_Valid.f a1).bind fun t108 => (some (t108, t104)))))) = some (r1, r2) := H; have A3 := Aside0.mk A30; clear A30
  by_cases c4 : t103.toList = ([119, 105, 110, 100, 111, 119, 115, 45, 49, 50, 53, 50] : List UInt8)
  case pos =>
    rw [if_pos c4] at H; have c4b0 : (t103.toList == ([119, 105, 110, 100, 111, 119, 115, 45, 49, 50, 53, 50] : List UInt8)) = true := beq_iff_eq.mpr c4; have c4b1 : (t103.toList != ([119, 105, 110, 100, 111, 119, 115, 45, 49, 50, 53, 50] : List UInt8)) = false := bne_eq_false_iff_eq.mpr c4; clear c4; replace H := Option.bind_eq_some_iff.mp H; obtain ⟨t105, A50, H⟩ := H; replace H : (some (t105, t104)) = some (r1, r2) := H; have A5 := Aside0.mk A50; clear A50; simp only [Option.some.injEq, Prod.mk.injEq] at H; obtain ⟨rfl, rfl⟩ := H
    go_enter Tryz.func48, Tryz.ntmps48
    go_wp2_with (first | ((with_reducible refine gate_callee (f := 67) rfl ?_); refine goesL_ (some 10) rfl rfl Tryz.func67 (by kernel_rfl) rfl #[.string a0] rfl (by (try simp only [List.map_toArray, List.map_cons, List.map_nil]); first | done | rfl | (simp only [List.length_drop, List.length_take]; rfl)) ?_; (with_reducible refine (chars_Known.calls k a0 t103 t104 _ A3.out).mono ?_); rintro e w6 ⟨rfl, hb⟩; refine ⟨_, rfl, ?_⟩; have n0_ := Aside0.mk (below_step (by repeat (first | (with_reducible first | exact HB.out | apply below_alloc | apply pw_below_drewN | apply below_drew1) | exact HB.out)) hb); clear HB; have HB := n0_; clear n0_; (try clear hb); (try clear hb2); (try clear hk); (try clear hi)) | ((with_reducible refine gate_callee (f := 68) rfl ?_); refine goesL_ (some 17) rfl rfl Tryz.func68 (by kernel_rfl) rfl #[.string a1] rfl (by (try simp only [List.map_toArray, List.map_cons, List.map_nil]); first | done | rfl | (simp only [List.length_drop, List.length_take]; rfl)) ?_; (with_reducible refine (chars_singles.calls a1 t105 _ ?sideGl A5.out).mono ?_); (case sideGl => exact HGl.out.below (by repeat (first | (with_reducible first | exact HB.out | apply below_alloc | apply pw_below_drewN | apply below_drew1) | exact HB.out))); rintro e w7 ⟨rfl, hb⟩; refine ⟨_, rfl, ?_⟩; have n0_ := Aside0.mk (below_step (by repeat (first | (with_reducible first | exact HB.out | apply below_alloc | apply pw_below_drewN | apply below_drew1) | exact HB.out)) hb); clear HB; have HB := n0_; clear n0_; (try clear hb); (try clear hb2); (try clear hk); (try clear hi)))
    go_ret2
    exact ⟨by first | rfl | (simp [errW_none, errW_some] <;> rfl) | (simp [*, errW_none, errW_some] <;> rfl), by repeat (first | (with_reducible first | exact HB.out | apply below_alloc | apply pw_below_drewN | apply below_drew1) | exact HB.out)⟩
  rw [if_neg c4] at H; have c4b0 : (t103.toList == ([119, 105, 110, 100, 111, 119, 115, 45, 49, 50, 53, 50] : List UInt8)) = false := beq_eq_false_iff_ne.mpr c4; have c4b1 : (t103.toList != ([119, 105, 110, 100, 111, 119, 115, 45, 49, 50, 53, 50] : List UInt8)) = true := bne_iff_ne.mpr c4
  by_cases c8 : t103.toList = ([117, 116, 102, 45, 49, 54, 108, 101] : List UInt8)
  case pos =>
    rw [if_pos c8] at H; have c8b0 : (t103.toList == ([117, 116, 102, 45, 49, 54, 108, 101] : List UInt8)) = true := beq_iff_eq.mpr c8; have c8b1 : (t103.toList != ([117, 116, 102, 45, 49, 54, 108, 101] : List UInt8)) = false := bne_eq_false_iff_eq.mpr c8; clear c8; replace H := Option.bind_eq_some_iff.mp H; obtain ⟨t106, A90, H⟩ := H; replace H : (some (t106, t104)) = some (r1, r2) := H; have A9 := Aside0.mk A90; clear A90; simp only [Option.some.injEq, Prod.mk.injEq] at H; obtain ⟨rfl, rfl⟩ := H
    go_enter Tryz.func48, Tryz.ntmps48
    go_wp2_with (first | ((with_reducible refine gate_callee (f := 67) rfl ?_); refine goesL_ (some 10) rfl rfl Tryz.func67 (by kernel_rfl) rfl #[.string a0] rfl (by (try simp only [List.map_toArray, List.map_cons, List.map_nil]); first | done | rfl | (simp only [List.length_drop, List.length_take]; rfl)) ?_; (with_reducible refine (chars_Known.calls k a0 t103 t104 _ A3.out).mono ?_); rintro e w10 ⟨rfl, hb⟩; refine ⟨_, rfl, ?_⟩; have n0_ := Aside0.mk (below_step (by repeat (first | (with_reducible first | exact HB.out | apply below_alloc | apply pw_below_drewN | apply below_drew1) | exact HB.out)) hb); clear HB; have HB := n0_; clear n0_; (try clear hb); (try clear hb2); (try clear hk); (try clear hi)) | ((with_reducible refine gate_callee (f := 69) rfl ?_); refine goesL_ (some 22) rfl rfl Tryz.func69 (by kernel_rfl) rfl #[.string a1, .int .i64 0, .int .i64 8] rfl (by (try simp only [List.map_toArray, List.map_cons, List.map_nil]); first | done | rfl | (simp only [List.length_drop, List.length_take]; rfl)) ?_; (with_reducible refine (chars_doubles.calls a1 0 8 t106 _ A9.out).mono ?_); rintro e w11 ⟨rfl, hb⟩; refine ⟨_, rfl, ?_⟩; have n0_ := Aside0.mk (below_step (by repeat (first | (with_reducible first | exact HB.out | apply below_alloc | apply pw_below_drewN | apply below_drew1) | exact HB.out)) hb); clear HB; have HB := n0_; clear n0_; (try clear hb); (try clear hb2); (try clear hk); (try clear hi)))
    go_ret2
    exact ⟨by first | rfl | (simp [errW_none, errW_some] <;> rfl) | (simp [*, errW_none, errW_some] <;> rfl), by repeat (first | (with_reducible first | exact HB.out | apply below_alloc | apply pw_below_drewN | apply below_drew1) | exact HB.out)⟩
  rw [if_neg c8] at H; have c8b0 : (t103.toList == ([117, 116, 102, 45, 49, 54, 108, 101] : List UInt8)) = false := beq_eq_false_iff_ne.mpr c8; have c8b1 : (t103.toList != ([117, 116, 102, 45, 49, 54, 108, 101] : List UInt8)) = true := bne_iff_ne.mpr c8
  by_cases c12 : t103.toList = ([117, 116, 102, 45, 49, 54, 98, 101] : List UInt8)
  case neg =>
    rw [if_neg c12] at H; have c12b0 : (t103.toList == ([117, 116, 102, 45, 49, 54, 98, 101] : List UInt8)) = false := beq_eq_false_iff_ne.mpr c12; have c12b1 : (t103.toList != ([117, 116, 102, 45, 49, 54, 98, 101] : List UInt8)) = true := bne_iff_ne.mpr c12; replace H := Option.bind_eq_some_iff.mp H; obtain ⟨t108, A160, H⟩ := H; replace H : (some (t108, t104)) = some (r1, r2) := H; have A16 := Aside0.mk A160; clear A160; simp only [Option.some.injEq, Prod.mk.injEq] at H; obtain ⟨rfl, rfl⟩ := H
    go_enter Tryz.func48, Tryz.ntmps48
    go_wp2_with (first | ((with_reducible refine gate_callee (f := 67) rfl ?_); refine goesL_ (some 10) rfl rfl Tryz.func67 (by kernel_rfl) rfl #[.string a0] rfl (by (try simp only [List.map_toArray, List.map_cons, List.map_nil]); first | done | rfl | (simp only [List.length_drop, List.length_take]; rfl)) ?_; (with_reducible refine (chars_Known.calls k a0 t103 t104 _ A3.out).mono ?_); rintro e w17 ⟨rfl, hb⟩; refine ⟨_, rfl, ?_⟩; have n0_ := Aside0.mk (below_step (by repeat (first | (with_reducible first | exact HB.out | apply below_alloc | apply pw_below_drewN | apply below_drew1) | exact HB.out)) hb); clear HB; have HB := n0_; clear n0_; (try clear hb); (try clear hb2); (try clear hk); (try clear hi)) | ((with_reducible refine gate_callee (f := 70) rfl ?_); refine goesL_ (some 30) rfl rfl Tryz.func70 (by kernel_rfl) rfl #[.string a1] rfl (by (try simp only [List.map_toArray, List.map_cons, List.map_nil]); first | done | rfl | (simp only [List.length_drop, List.length_take]; rfl)) ?_; (with_reducible refine (chars_Valid.calls a1 t108 _ A16.out).mono ?_); rintro e w18 ⟨rfl, hb⟩; refine ⟨_, rfl, ?_⟩; have n0_ := Aside0.mk (below_step (by repeat (first | (with_reducible first | exact HB.out | apply below_alloc | apply pw_below_drewN | apply below_drew1) | exact HB.out)) hb); clear HB; have HB := n0_; clear n0_; (try clear hb); (try clear hb2); (try clear hk); (try clear hi)))
    go_ret2
    exact ⟨by first | rfl | (simp [errW_none, errW_some] <;> rfl) | (simp [*, errW_none, errW_some] <;> rfl), by repeat (first | (with_reducible first | exact HB.out | apply below_alloc | apply pw_below_drewN | apply below_drew1) | exact HB.out)⟩
  rw [if_pos c12] at H; have c12b0 : (t103.toList == ([117, 116, 102, 45, 49, 54, 98, 101] : List UInt8)) = true := beq_iff_eq.mpr c12; have c12b1 : (t103.toList != ([117, 116, 102, 45, 49, 54, 98, 101] : List UInt8)) = false := bne_eq_false_iff_eq.mpr c12; clear c12; replace H := Option.bind_eq_some_iff.mp H; obtain ⟨t107, A130, H⟩ := H; replace H : (some (t107, t104)) = some (r1, r2) := H; have A13 := Aside0.mk A130; clear A130; simp only [Option.some.injEq, Prod.mk.injEq] at H; obtain ⟨rfl, rfl⟩ := H
  go_enter Tryz.func48, Tryz.ntmps48
  go_wp2_with (first | ((with_reducible refine gate_callee (f := 67) rfl ?_); refine goesL_ (some 10) rfl rfl Tryz.func67 (by kernel_rfl) rfl #[.string a0] rfl (by (try simp only [List.map_toArray, List.map_cons, List.map_nil]); first | done | rfl | (simp only [List.length_drop, List.length_take]; rfl)) ?_; (with_reducible refine (chars_Known.calls k a0 t103 t104 _ A3.out).mono ?_); rintro e w14 ⟨rfl, hb⟩; refine ⟨_, rfl, ?_⟩; have n0_ := Aside0.mk (below_step (by repeat (first | (with_reducible first | exact HB.out | apply below_alloc | apply pw_below_drewN | apply below_drew1) | exact HB.out)) hb); clear HB; have HB := n0_; clear n0_; (try clear hb); (try clear hb2); (try clear hk); (try clear hi)) | ((with_reducible refine gate_callee (f := 69) rfl ?_); refine goesL_ (some 27) rfl rfl Tryz.func69 (by kernel_rfl) rfl #[.string a1, .int .i64 8, .int .i64 0] rfl (by (try simp only [List.map_toArray, List.map_cons, List.map_nil]); first | done | rfl | (simp only [List.length_drop, List.length_take]; rfl)) ?_; (with_reducible refine (chars_doubles.calls a1 8 0 t107 _ A13.out).mono ?_); rintro e w15 ⟨rfl, hb⟩; refine ⟨_, rfl, ?_⟩; have n0_ := Aside0.mk (below_step (by repeat (first | (with_reducible first | exact HB.out | apply below_alloc | apply pw_below_drewN | apply below_drew1) | exact HB.out)) hb); clear HB; have HB := n0_; clear n0_; (try clear hb); (try clear hb2); (try clear hk); (try clear hi)))
  go_ret2
  exact ⟨by first | rfl | (simp [errW_none, errW_some] <;> rfl) | (simp [*, errW_none, errW_some] <;> rfl), by repeat (first | (with_reducible first | exact HB.out | apply below_alloc | apply pw_below_drewN | apply below_drew1) | exact HB.out)⟩
end Go.Proofs.YtkfcbafjcjmfnaaGreatDoor.C
namespace Go.Proofs.YtkfcbafjcjmfnaaGreatDoor
set_option linter.unusedVariables false
set_option linter.unusedSimpArgs false
def byteAt (l : List UInt8) (j : Nat) : Nat := (l.getD j 0).toNat
def contAt (l : List UInt8) (j : Nat) : Bool := decide (j < l.length) && byteAt l j / 64 == 2
def uDec (l : List UInt8) : Nat × Nat :=
  if byteAt l 0 < 128 then (byteAt l 0, 1)
  else if byteAt l 0 / 32 == 6 && contAt l 1 then
    if byteAt l 0 % 32 * 64 + byteAt l 1 % 64 ≥ 128 then (byteAt l 0 % 32 * 64 + byteAt l 1 % 64, 2) else (65533, 1)
  else if byteAt l 0 / 16 == 14 && contAt l 1 && contAt l 2 then
    if byteAt l 0 % 16 * 4096 + byteAt l 1 % 64 * 64 + byteAt l 2 % 64 ≥ 2048 && Utf8.valid ((byteAt l 0 % 16 * 4096 + byteAt l 1 % 64 * 64 + byteAt l 2 % 64 : Nat) : Int) then (byteAt l 0 % 16 * 4096 + byteAt l 1 % 64 * 64 + byteAt l 2 % 64, 3) else (65533, 1)
  else if byteAt l 0 / 8 == 30 && contAt l 1 && contAt l 2 && contAt l 3 then
    if byteAt l 0 % 8 * 262144 + byteAt l 1 % 64 * 4096 + byteAt l 2 % 64 * 64 + byteAt l 3 % 64 ≥ 65536 && Utf8.valid ((byteAt l 0 % 8 * 262144 + byteAt l 1 % 64 * 4096 + byteAt l 2 % 64 * 64 + byteAt l 3 % 64 : Nat) : Int) then (byteAt l 0 % 8 * 262144 + byteAt l 1 % 64 * 4096 + byteAt l 2 % 64 * 64 + byteAt l 3 % 64, 4) else (65533, 1)
  else (65533, 1)
theorem decode_list (s : ByteArray) (i : Nat) : Utf8.decode s i = uDec (s.data.toList.drop i) := by
  have hg : ∀ k, (s.get! (i + k)).toNat = byteAt (s.data.toList.drop i) k := by
    intro k
    simp only [byteAt, List.getD_eq_getElem?_getD, List.getElem?_drop, ByteArray.get!]
    rw [Array.getElem?_toList]
    simp [getElem!_def]
    cases s.data[i + k]? <;> rfl
  have hc : ∀ k, (decide (i + k < s.size) && byteAt (s.data.toList.drop i) k / 64 == 2) = contAt (s.data.toList.drop i) k := by
    intro k
    simp only [contAt, List.length_drop, Array.length_toList]
    congr 1
    simp only [ByteArray.size, decide_eq_decide]
    omega
  simp only [Utf8.decode, hg, hc]
  simp only [uDec, Utf8.runeError]
theorem valid_iff (r : Int) : Utf8.valid r = true ↔ (0 ≤ r ∧ r < 55296) ∨ (57344 ≤ r ∧ r ≤ 1114111) := by
  simp only [Utf8.valid, Bool.or_eq_true, Bool.and_eq_true, decide_eq_true_eq]
theorem enc_one {r : Int} (h0 : 0 ≤ r) (h1 : r ≤ 127) : Lib.encodeRune r = [r.toNat.toUInt8] := by
  simp [Lib.encodeRune, Lib.encodeRuneZ_one h0 h1]
theorem enc_two {r : Int} (h0 : 128 ≤ r) (h1 : r ≤ 2047) : Lib.encodeRune r = [(192 + r / 64).toNat.toUInt8, (128 + r % 64).toNat.toUInt8] := by
  simp [Lib.encodeRune, Lib.encodeRuneZ_two h0 h1]
theorem enc_three {r : Int} (h : (2048 ≤ r ∧ r < 55296) ∨ (57343 < r ∧ r ≤ 65535)) : Lib.encodeRune r = [(224 + r / 4096).toNat.toUInt8, (128 + r / 64 % 64).toNat.toUInt8, (128 + r % 64).toNat.toUInt8] := by
  simp [Lib.encodeRune, Lib.encodeRuneZ_three h]
theorem enc_four {r : Int} (h0 : 65536 ≤ r) (h1 : r ≤ 1114111) : Lib.encodeRune r = [(240 + r / 262144).toNat.toUInt8, (128 + r / 4096 % 64).toNat.toUInt8, (128 + r / 64 % 64).toNat.toUInt8, (128 + r % 64).toNat.toUInt8] := by
  simp [Lib.encodeRune, Lib.encodeRuneZ_four h0 h1]
theorem enc_bad {r : Int} (h : r < 0 ∨ (55296 ≤ r ∧ r ≤ 57343) ∨ 1114111 < r) : Lib.encodeRune r = [239, 191, 189] := by
  simp [Lib.encodeRune, Lib.encodeRuneZ_bad h]
def Val (l : List UInt8) : Prop := ∃ rs : List Int, l = rs.flatMap Lib.encodeRune
theorem Val.nil : Val [] := ⟨[], rfl⟩
theorem Val.append {a b : List UInt8} (ha : Val a) (hb : Val b) : Val (a ++ b) := by
  obtain ⟨x, rfl⟩ := ha; obtain ⟨y, rfl⟩ := hb; exact ⟨x ++ y, by simp⟩
def valL : Nat → List UInt8 → List UInt8
  | 0, _ => []
  | n + 1, l => if l = [] then [] else Lib.encodeRune (uDec l).1 ++ valL n (l.drop (uDec l).2)
end Go.Proofs.YtkfcbafjcjmfnaaGreatDoor
namespace Go.Proofs.YtkfcbafjcjmfnaaGreatDoor.Pure
open Go.RowKit Go.Proofs.YtkfcbafjcjmfnaaGreatDoorW.PrintWords
set_option linter.unusedVariables false
set_option linter.unusedSimpArgs false
theorem w64 {x : Int} (h0 : -9223372036854775808 ≤ x) (h1 : x ≤ 9223372036854775807) : wrap64 x = x := by unfold wrap64; omega
def intsOf (l : List UInt8) : List Int := l.map fun b => (b.toNat : Int)
theorem intsOf_append (a b : List UInt8) : intsOf (a ++ b) = intsOf a ++ intsOf b := by simp [intsOf]
theorem intsOf_length (a : List UInt8) : (intsOf a).length = a.length := by simp [intsOf]
theorem strOf_ints (l : List UInt8) : strOfNums (intsOf l) = ⟨l.toArray⟩ := by
  simp only [strOfNums, intsOf, List.map_map]
  congr 2
  conv => rhs; rw [← List.map_id l]
  apply List.map_congr_left
  intro x _
  simp
theorem sizeL (s : ByteArray) : s.data.toList.length = s.size := by simp
theorem toList_eq (s : ByteArray) : s.toList = s.data.toList := ByteArray.toList_eq s
theorem mk_size (l : List UInt8) : (⟨l.toArray⟩ : ByteArray).size = l.length := by simp [ByteArray.size]
theorem extract_list (s : ByteArray) (i j : Nat) : (s.extract i j).data.toList = (s.data.toList.take j).drop i := by
  simp [List.drop_take]
theorem mk_back (s : ByteArray) : (⟨s.data.toList.toArray⟩ : ByteArray) = s := by
  apply ByteArray.ext; simp
theorem bt_get (s : ByteArray) (i : Nat) (h : i < s.data.toList.length) : bt s (i : Int) = (s.data.toList[i].toNat : Int) := by
  unfold bt
  have h2 : i < s.size := by simpa using h
  rw [dif_pos (by simpa using h2)]
  rfl
theorem Ev.round {α : Type} {g f : Nat → Option α} {r : α} (h : ∀ k, g (k + 1) = f k) (k : Ev f r) : Ev g r := Ev.step h k
theorem Ev.pos {α : Type} {c : Prop} [Decidable c] {g f : Nat → Option α} {r : α} (h : c) (k : Ev g r) : Ev (fun n => if c then g n else f n) r := by
  refine Ev.congr (fun n => ?_) k; exact if_pos h
theorem Ev.neg {α : Type} {c : Prop} [Decidable c] {g f : Nat → Option α} {r : α} (h : ¬ c) (k : Ev f r) : Ev (fun n => if c then g n else f n) r := by
  refine Ev.congr (fun n => ?_) k; exact if_neg h
theorem Ev.got {α β : Type} {x : Option α} {a : α} {f : Nat → α → Option β} {r : β} (h : x = some a) (k : Ev (fun n => f n a) r) : Ev (fun n => x.bind (f n)) r := by
  subst h; exact k
end Go.Proofs.YtkfcbafjcjmfnaaGreatDoor.Pure
namespace Go.Proofs.YtkfcbafjcjmfnaaGreatDoor.Pure
open Go.RowKit Go.Proofs.YtkfcbafjcjmfnaaGreatDoor.C Go.Proofs.YtkfcbafjcjmfnaaGreatDoorW.PrintWords Go.Proofs.YtkfcbafjcjmfnaaGreatDoorW.PrintLast
set_option linter.unusedVariables false
set_option linter.unusedSimpArgs false
section whole
variable (s : ByteArray) (hs : s.size ≤ 140737488351232)
include hs
end whole
theorem validFrom_valL (s : ByteArray) : ∀ (fuel pos : Nat), validFrom s fuel pos = valL fuel (s.data.toList.drop pos) := by
  intro fuel
  induction fuel with
  | zero => intro pos; rfl
  | succ n ih =>
    intro pos
    simp only [validFrom, valL]
    by_cases h : pos < s.size
    · rw [if_pos h, if_neg (by intro h2; have := congrArg List.length h2; simp at this; omega), decode_list, ih, List.drop_drop]
    · rw [if_neg h, if_pos (List.drop_eq_nil_of_le (by rw [sizeL]; omega))]
def vl (l : List UInt8) : List UInt8 := valL l.length l
theorem validS_eq (s : ByteArray) : validS s = ⟨(vl s.data.toList).toArray⟩ := by
  unfold validS vl
  rw [validFrom_valL, List.drop_zero, sizeL]
end Go.Proofs.YtkfcbafjcjmfnaaGreatDoor.Pure
namespace Go.Proofs.YtkfcbafjcjmfnaaGreatDoor.Pure
open Go.RowKit Go.Proofs.YtkfcbafjcjmfnaaGreatDoor.C Go.Proofs.YtkfcbafjcjmfnaaGreatDoorW.PrintWords Go.Proofs.YtkfcbafjcjmfnaaGreatDoorW.PrintLast
set_option linter.unusedVariables false
set_option linter.unusedSimpArgs false
def knownL (t : List UInt8) : ByteArray × Bool :=
  if t = [117, 116, 102, 45, 56] ∨ t = [117, 116, 102, 56] ∨ t = [117, 110, 105, 99, 111, 100, 101, 45, 49, 45, 49, 45, 117, 116, 102, 45, 56] then ((⟨#[117, 116, 102, 45, 56]⟩ : ByteArray), true)
  else if t = [119, 105, 110, 100, 111, 119, 115, 45, 49, 50, 53, 50] ∨ t = [99, 112, 49, 50, 53, 50] ∨ t = [117, 115, 45, 97, 115, 99, 105, 105] ∨ t = [97, 115, 99, 105, 105] ∨ t = [105, 115, 111, 45, 56, 56, 53, 57, 45, 49] ∨ t = [105, 115, 111, 56, 56, 53, 57, 45, 49] ∨ t = [108, 97, 116, 105, 110, 49] ∨ t = [108, 49] then ((⟨#[119, 105, 110, 100, 111, 119, 115, 45, 49, 50, 53, 50]⟩ : ByteArray), true)
  else if t = [117, 116, 102, 45, 49, 54, 108, 101] ∨ t = [117, 116, 102, 45, 49, 54] ∨ t = [117, 110, 105, 99, 111, 100, 101] ∨ t = [117, 99, 115, 45, 50] then ((⟨#[117, 116, 102, 45, 49, 54, 108, 101]⟩ : ByteArray), true)
  else if t = [117, 116, 102, 45, 49, 54, 98, 101] ∨ t = [117, 110, 105, 99, 111, 100, 101, 102, 102, 102, 101] then ((⟨#[117, 116, 102, 45, 49, 54, 98, 101]⟩ : ByteArray), true)
  else ((⟨#[]⟩ : ByteArray), false)
set_option maxHeartbeats 1000000 in
theorem chars_Known_tail (t : ByteArray) : Ev (fun k => if t.toList = ([117, 116, 102, 45, 56] : List UInt8) then chars_Known.j0 k t (t.toList == ([117, 116, 102, 45, 56] : List UInt8)) else if t.toList = ([117, 116, 102, 56] : List UInt8) then chars_Known.j0 k t (t.toList == ([117, 116, 102, 56] : List UInt8)) else chars_Known.j0 k t (t.toList == ([117, 110, 105, 99, 111, 100, 101, 45, 49, 45, 49, 45, 117, 116, 102, 45, 56] : List UInt8))) (knownL t.data.toList) := by
  rw [← toList_eq]
  refine Ev.of (k := 3) (fun k => ?_) ?_
  · intro r h
    have m := fun x y => (chars_Known.mono_l k).1 x y
    split at h
    · rename_i c; rw [if_pos c]; exact m _ _ _ h
    · rename_i c; rw [if_neg c]
      split at h
      · rename_i c2; rw [if_pos c2]; exact m _ _ _ h
      · rename_i c2; rw [if_neg c2]; exact m _ _ _ h
  by_cases h0 : t.toList = [117, 116, 102, 45, 56]
  · simp [chars_Known.j0, chars_Known.j1, chars_Known.j2, h0, knownL]
  by_cases h1 : t.toList = [117, 116, 102, 56]
  · simp [chars_Known.j0, chars_Known.j1, chars_Known.j2, h1, knownL]
  by_cases h2 : t.toList = [117, 110, 105, 99, 111, 100, 101, 45, 49, 45, 49, 45, 117, 116, 102, 45, 56]
  · simp [chars_Known.j0, chars_Known.j1, chars_Known.j2, h2, knownL]
  by_cases h3 : t.toList = [119, 105, 110, 100, 111, 119, 115, 45, 49, 50, 53, 50]
  · simp [chars_Known.j0, chars_Known.j1, chars_Known.j2, h3, knownL]
  by_cases h4 : t.toList = [99, 112, 49, 50, 53, 50]
  · simp [chars_Known.j0, chars_Known.j1, chars_Known.j2, h4, knownL]
  by_cases h5 : t.toList = [117, 115, 45, 97, 115, 99, 105, 105]
  · simp [chars_Known.j0, chars_Known.j1, chars_Known.j2, h5, knownL]
  by_cases h6 : t.toList = [97, 115, 99, 105, 105]
  · simp [chars_Known.j0, chars_Known.j1, chars_Known.j2, h6, knownL]
  by_cases h7 : t.toList = [105, 115, 111, 45, 56, 56, 53, 57, 45, 49]
  · simp [chars_Known.j0, chars_Known.j1, chars_Known.j2, h7, knownL]
  by_cases h8 : t.toList = [105, 115, 111, 56, 56, 53, 57, 45, 49]
  · simp [chars_Known.j0, chars_Known.j1, chars_Known.j2, h8, knownL]
  by_cases h9 : t.toList = [108, 97, 116, 105, 110, 49]
  · simp [chars_Known.j0, chars_Known.j1, chars_Known.j2, h9, knownL]
  by_cases h10 : t.toList = [108, 49]
  · simp [chars_Known.j0, chars_Known.j1, chars_Known.j2, h10, knownL]
  by_cases h11 : t.toList = [117, 116, 102, 45, 49, 54, 108, 101]
  · simp [chars_Known.j0, chars_Known.j1, chars_Known.j2, h11, knownL]
  by_cases h12 : t.toList = [117, 116, 102, 45, 49, 54]
  · simp [chars_Known.j0, chars_Known.j1, chars_Known.j2, h12, knownL]
  by_cases h13 : t.toList = [117, 110, 105, 99, 111, 100, 101]
  · simp [chars_Known.j0, chars_Known.j1, chars_Known.j2, h13, knownL]
  by_cases h14 : t.toList = [117, 99, 115, 45, 50]
  · simp [chars_Known.j0, chars_Known.j1, chars_Known.j2, h14, knownL]
  by_cases h15 : t.toList = [117, 116, 102, 45, 49, 54, 98, 101]
  · simp [chars_Known.j0, chars_Known.j1, chars_Known.j2, h15, knownL]
  by_cases h16 : t.toList = [117, 110, 105, 99, 111, 100, 101, 102, 102, 102, 101]
  · simp [chars_Known.j0, chars_Known.j1, chars_Known.j2, h16, knownL]
  simp [chars_Known.j0, chars_Known.j1, chars_Known.j2, knownL, h0, h1, h2, h3, h4, h5, h6, h7, h8, h9, h10, h11, h12, h13, h14, h15, h16]
def rdrop (p : UInt8 → Bool) (l : List UInt8) : List UInt8 := (l.reverse.dropWhile p).reverse
theorem rdrop_cons (p : UInt8 → Bool) (x : UInt8) (xs : List UInt8) : rdrop p (x :: xs) = if rdrop p xs = [] then (if p x then [] else [x]) else x :: rdrop p xs := by
  unfold rdrop
  rw [List.reverse_cons, List.dropWhile_append]
  by_cases h : xs.reverse.dropWhile p = []
  · simp only [h, List.isEmpty_nil, if_true, List.reverse_nil]
    by_cases hx : p x = true
    · simp [hx]
    · simp [hx]
  · have h2 : (xs.reverse.dropWhile p).isEmpty = false := by
      cases hh : xs.reverse.dropWhile p with
      | nil => exact absurd hh h
      | cons a b => rfl
    simp [h2, h]
theorem drop_rdrop (p : UInt8 → Bool) : ∀ l : List UInt8, (rdrop p l).dropWhile p = rdrop p (l.dropWhile p) := by
  intro l
  induction l with
  | nil => rfl
  | cons x xs ih =>
    rw [rdrop_cons]
    by_cases hx : p x = true
    · rw [List.dropWhile_cons_of_pos hx, ← ih]
      by_cases h : rdrop p xs = []
      · rw [if_pos h, if_pos hx, h]
      · rw [if_neg h, List.dropWhile_cons_of_pos hx]
    · rw [List.dropWhile_cons_of_neg hx, rdrop_cons]
      by_cases h : rdrop p xs = []
      · rw [if_pos h, if_neg hx, List.dropWhile_cons_of_neg hx]
      · rw [if_neg h, List.dropWhile_cons_of_neg hx]
def isSp (c : UInt8) : Bool := [32, 9, 10, 12, 13].contains c
theorem trimS_sp (l : List UInt8) : Lib.trimS l [32, 9, 10, 12, 13] = rdrop isSp (l.dropWhile isSp) := by
  rw [← drop_rdrop]; rfl
def labelL (a : ByteArray) : List UInt8 := (rdrop isSp (a.data.toList.dropWhile isSp)).map lowC
theorem trim_got (a : ByteArray) (h : a.size ≤ 9223372036854775000) : strings_Trim.f a (⟨#[32, 9, 10, 12, 13]⟩ : ByteArray) = some ⟨(rdrop isSp (a.data.toList.dropWhile isSp)).toArray⟩ := by
  unfold strings_Trim.f
  rw [if_pos ⟨by omega, by decide, by decide⟩]
  rw [show (⟨#[32, 9, 10, 12, 13]⟩ : ByteArray).data.toList = [32, 9, 10, 12, 13] from rfl, trimS_sp]
theorem rdrop_len (p : UInt8 → Bool) (l : List UInt8) : (rdrop p l).length ≤ l.length := by
  unfold rdrop
  rw [List.length_reverse]
  have := (List.dropWhile_sublist (p := p) (l := l.reverse)).length_le
  simpa using this
theorem known_is (a : ByteArray) (h : a.size ≤ 5000) : Ev (fun k => chars_Known.f k a) (knownL (labelL a)) := by
  unfold chars_Known.f
  refine Ev.got (trim_got a (by omega)) ?_
  have h1 := rdrop_len isSp (a.data.toList.dropWhile isSp)
  have h2 := (List.dropWhile_sublist (p := isSp) (l := a.data.toList)).length_le
  rw [sizeL] at h2
  refine Ev.got (x := chars_small.f _) (guard_of (by rw [mk_size]; omega)) ?_
  exact chars_Known_tail _
end Go.Proofs.YtkfcbafjcjmfnaaGreatDoor.Pure
namespace Go.Proofs.YtkfcbafjcjmfnaaGreatDoor.Pure
open Go.RowKit Go.Proofs.YtkfcbafjcjmfnaaGreatDoor.C Go.Proofs.YtkfcbafjcjmfnaaGreatDoorW.PrintWords Go.Proofs.YtkfcbafjcjmfnaaGreatDoorW.PrintLast
set_option linter.unusedVariables false
set_option linter.unusedSimpArgs false
def nUtf : ByteArray := ⟨#[117, 116, 102, 45, 56]⟩
def nLat : ByteArray := ⟨#[119, 105, 110, 100, 111, 119, 115, 45, 49, 50, 53, 50]⟩
def nLe : ByteArray := ⟨#[117, 116, 102, 45, 49, 54, 108, 101]⟩
def nBe : ByteArray := ⟨#[117, 116, 102, 45, 49, 54, 98, 101]⟩
def nNone : ByteArray := ⟨#[]⟩
theorem known_cases (t : List UInt8) : knownL t = (nUtf, true) ∨ knownL t = (nLat, true) ∨ knownL t = (nLe, true) ∨ knownL t = (nBe, true) ∨ knownL t = (nNone, false) := by
  unfold knownL
  split
  · exact .inl rfl
  · split
    · exact .inr (.inl rfl)
    · split
      · exact .inr (.inr (.inl rfl))
      · split
        · exact .inr (.inr (.inr (.inl rfl)))
        · exact .inr (.inr (.inr (.inr rfl)))
def decL (n : ByteArray) (l : List UInt8) : List UInt8 :=
  if n.data.toList = nLat.data.toList then singlesL l else if n.data.toList = nLe.data.toList then dblL uLE l else if n.data.toList = nBe.data.toList then dblL uBE l else vl l
theorem nameEq {n : ByteArray} {l : List UInt8} (h : n.data.toList = l) : n.toList = l := by rw [toList_eq]; exact h
theorem nameNe {n : ByteArray} {l : List UInt8} (h : n.data.toList ≠ l) : ¬ n.toList = l := by rw [toList_eq]; exact h
theorem decode_is (a s : ByteArray) (ha : a.size ≤ 5000) (hs : s.size ≤ 11000000) : Ev (fun k => chars_Decode.f k a s) ((⟨(decL (knownL (labelL a)).1 s.data.toList).toArray⟩ : ByteArray), (knownL (labelL a)).2) := by
  unfold chars_Decode.f
  refine Ev.bind (known_is a ha) ?_
  have h5 : s.size ≤ 35184372088832 := by omega
  have hv : Ev (fun _ => (chars_Valid.f s).bind fun t => some (t, (knownL (labelL a)).2)) ((⟨(vl s.data.toList).toArray⟩ : ByteArray), (knownL (labelL a)).2) := by
    refine Ev.got (x := chars_Valid.f s) (guard_of h5) ?_
    rw [validS_eq]; exact Ev.now _
  rcases known_cases (labelL a) with h | h | h | h | h
  · rw [h] at hv ⊢
    refine Ev.neg (nameNe (by decide)) ?_
    refine Ev.neg (nameNe (by decide)) ?_
    refine Ev.neg (nameNe (by decide)) ?_
    exact hv
  · rw [h]
    refine Ev.pos (nameEq (by decide)) ?_
    refine Ev.got (x := chars_singles.f s) (guard_of h5) ?_
    exact Ev.now _
  · rw [h]
    refine Ev.neg (nameNe (by decide)) ?_
    refine Ev.pos (nameEq (by decide)) ?_
    refine Ev.got (x := chars_doubles.f s 0 8) (guard_of ⟨h5, .inl ⟨rfl, rfl⟩⟩) ?_
    exact Ev.now _
  · rw [h]
    refine Ev.neg (nameNe (by decide)) ?_
    refine Ev.neg (nameNe (by decide)) ?_
    refine Ev.pos (nameEq (by decide)) ?_
    refine Ev.got (x := chars_doubles.f s 8 0) (guard_of ⟨h5, .inr ⟨rfl, rfl⟩⟩) ?_
    exact Ev.now _
  · rw [h] at hv ⊢
    refine Ev.neg (nameNe (by decide)) ?_
    refine Ev.neg (nameNe (by decide)) ?_
    refine Ev.neg (nameNe (by decide)) ?_
    exact hv
theorem enc_len3 (r : Int) (h : r ≤ 65535) : (Lib.encodeRune r).length ≤ 3 := by
  simp only [Lib.encodeRune, List.length_map, Lib.encodeRuneZ]
  split
  · simp
  · split
    · simp
    · split
      · simp
      · split
        · omega
        · simp
theorem singles_len (l : List UInt8) : (singlesL l).length ≤ 3 * l.length := by
  induction l with
  | nil => simp [singlesL]
  | cons c r ih =>
    have h := enc_len3 (hiC c) (hiC_range c).2
    have e : singlesL (c :: r) = Lib.encodeRune (hiC c) ++ singlesL r := by simp [singlesL]
    rw [e, List.length_append, List.length_cons]; omega
end Go.Proofs.YtkfcbafjcjmfnaaGreatDoor.Pure
namespace Go.Proofs.YtkfcbafjcjmfnaaGreatDoor.Num
open Go.RowKit Go.Proofs.YtkfcbafjcjmfnaaGreatDoor.Row
set_option linter.unusedVariables false
set_option linter.unusedSimpArgs false
def hexV (c : UInt8) : Nat := if 48 ≤ c ∧ c ≤ 57 then c.toNat - 48 else if 65 ≤ c ∧ c ≤ 70 then c.toNat - 55 else if 97 ≤ c ∧ c ≤ 102 then c.toNat - 87 else 99
def digG (base : Nat) : List UInt8 → Nat → Option Nat
  | [], v => some v
  | c :: r, v => if hexV c < base then digG base r (v * base + hexV c) else none
def lowV (c : Nat) : Nat := c ||| 32
theorem digG_bound (base : Nat) (l : List UInt8) (v n : Nat) (h : digG base l v = some n) : v * base ^ l.length ≤ n ∧ n < (v + 1) * base ^ l.length := by
  induction l generalizing v with
  | nil =>
    have e : v = n := Option.some.inj h
    subst e
    simp
  | cons c r ih =>
    unfold digG at h
    by_cases hc : hexV c < base
    · rw [if_pos hc] at h
      obtain ⟨h1, h2⟩ := ih _ h
      rw [List.length_cons, Nat.pow_succ]
      constructor
      · refine Nat.le_trans ?_ h1
        rw [Nat.mul_comm (base ^ r.length) base, ← Nat.mul_assoc]
        exact Nat.mul_le_mul_right _ (Nat.le_add_right _ _)
      · refine Nat.lt_of_lt_of_le h2 ?_
        rw [Nat.mul_comm (base ^ r.length) base, ← Nat.mul_assoc]
        refine Nat.mul_le_mul_right _ ?_
        rw [Nat.add_mul]
        omega
    · rw [if_neg hc] at h; simp at h
theorem dig_cases (c : UInt8) : (48 ≤ c.toNat ∧ c.toNat ≤ 57 ∧ hexV c = c.toNat - 48) ∨
    ((c.toNat < 48 ∨ 57 < c.toNat) ∧ 97 ≤ lowV c.toNat ∧ lowV c.toNat ≤ 122 ∧ ¬ c.toNat = 95 ∧ (hexV c = lowV c.toNat - 87 ∨ (103 ≤ lowV c.toNat ∧ hexV c = 99)) ∧ 10 ≤ hexV c) ∨
    ((c.toNat < 48 ∨ 57 < c.toNat) ∧ (lowV c.toNat < 97 ∨ 122 < lowV c.toNat) ∧ hexV c = 99) := by
  have h : ∀ n : Fin 256, (48 ≤ (UInt8.ofNat n.val).toNat ∧ (UInt8.ofNat n.val).toNat ≤ 57 ∧ hexV (UInt8.ofNat n.val) = (UInt8.ofNat n.val).toNat - 48) ∨
    (((UInt8.ofNat n.val).toNat < 48 ∨ 57 < (UInt8.ofNat n.val).toNat) ∧ 97 ≤ lowV (UInt8.ofNat n.val).toNat ∧ lowV (UInt8.ofNat n.val).toNat ≤ 122 ∧ ¬ (UInt8.ofNat n.val).toNat = 95 ∧ (hexV (UInt8.ofNat n.val) = lowV (UInt8.ofNat n.val).toNat - 87 ∨ (103 ≤ lowV (UInt8.ofNat n.val).toNat ∧ hexV (UInt8.ofNat n.val) = 99)) ∧ 10 ≤ hexV (UInt8.ofNat n.val)) ∨
    (((UInt8.ofNat n.val).toNat < 48 ∨ 57 < (UInt8.ofNat n.val).toNat) ∧ (lowV (UInt8.ofNat n.val).toNat < 97 ∨ 122 < lowV (UInt8.ofNat n.val).toNat) ∧ hexV (UInt8.ofNat n.val) = 99) := by decide +kernel
  have h2 := h ⟨c.toNat, UInt8.toNat_lt c⟩
  simpa using h2
set_option maxRecDepth 100000 in
theorem lower_c (c : Nat) (hc : c < 256) (w : World) : Calls Tryz.prog 85 #[.int .u8 (c : Int)] w fun e w' => e = .returned (.int .u8 (lowV c : Int)) ∧ w' = w := by
  go_enter Tryz.func85, Tryz.ntmps85
  go_wp2
  go_ret
  have h : ∀ n : Fin 256, bits BinOp.or IntKind.u8 ((n.val : Nat) : Int) 32 = ((lowV n.val : Nat) : Int) := by decide +kernel
  exact ⟨by rw [← h ⟨c, hc⟩]; rfl, rfl⟩
theorem low_le (c : Nat) (hc : c < 256) : lowV c < 256 := by
  have h : ∀ n : Fin 256, lowV n.val < 256 := by decide +kernel
  exact h ⟨c, hc⟩
def ansV : Option Nat → Value
  | some v => .tuple #[.int .u64 (v : Int), .nilIface]
  | none => .tuple #[.int .u64 0, .iface 113 (.int .i64 2)]
theorem filled (s : ByteArray) (h : 1 ≤ s.size) : s.toList.isEmpty = false := by
  rw [ByteArray.toList_eq]
  cases hk : s.data.toList with
  | nil => exact absurd (by rw [← ByteArray.size_data, ← Array.length_toList, hk]; rfl) (show s.size ≠ 0 by omega)
  | cons => rfl
attribute [local irreducible] ansV
theorem pow_le (base k : Nat) (hb : base ≤ 16) (hk : k ≤ 7) : base ^ k ≤ 268435456 := Nat.le_trans (Nat.pow_le_pow_left hb k) (Nat.pow_le_pow_right (by decide) hk)
theorem pow_step (base k v d : Nat) (hv : v < base ^ k) (hd : d < base) : v * base + d < base ^ (k + 1) := by
  rw [Nat.pow_succ]
  have : (v + 1) * base ≤ base ^ k * base := Nat.mul_le_mul_right _ hv
  rw [Nat.add_mul] at this
  omega
set_option maxRecDepth 100000 in
set_option maxHeartbeats 4000000 in
theorem parse_c (s : ByteArray) (base : Nat) (bi : Int) (hb : (base = 10 ∧ bi = 10) ∨ (base = 16 ∧ bi = 16)) (h1 : 1 ≤ s.size) (h7 : s.size ≤ 7) (w : World) :
    Calls Tryz.prog 65 #[.string s, .int .i64 bi, .int .i64 64] w fun e w' => e = .returned (ansV (digG base s.data.toList 0)) ∧ Below w.heap.size w w' := by
  obtain ⟨cap, o, hconv, hrow⟩ := Row.run_conv (P := Tryz.prog) w 9 29 5 s Tryz.underlying9 Tryz.underlying29 Tryz.underlying5
  have HR := Lib.hid hrow
  have hmx : IntKind.u64.wrap (IntKind.u64.wrap 18446744073709551616 - 1) = 18446744073709551615 := by kernel_rfl
  have hne := filled s h1
  have hl : s.data.toList.length = s.size := by simp
  have HL := Lib.hid hl
  clear hrow hl
  go_enter Tryz.func65, Tryz.ntmps65
  rcases hb with ⟨rfl, rfl⟩ | ⟨rfl, rfl⟩
  · go_wp2
    generalize hC : (1844674407370955162 : Int) = C
    generalize hX : (18446744073709551615 : Int) = X
    have HC := Lib.hid hC; have HX := Lib.hid hX
    clear hmx hC hX
    go_loopw [12, 13, 101] (fun us n i wr => ∃ (k v : Nat), k ≤ s.size ∧ i = .int .i64 (k : Int) ∧ n = .int .u64 (v : Int) ∧ us = .bool false ∧ v < 10 ^ k ∧ digG 10 (s.data.toList.drop k) v = digG 10 s.data.toList 0 ∧ Row 5 wr w.heap.size s.data.toList ∧ Below w.heap.size w wr) (fun _ _ i _ => s.size - (intOf i).toNat)
    case atStart => exact ⟨0, 0, Nat.zero_le _, rfl, rfl, rfl, by decide, rfl, HR.out, ((Below.refl _ _).alloc (Nat.le_refl _) _).drew⟩
    case round =>
      obtain ⟨k, v, hk, rfl, rfl, rfl, hv, heq, hrow, hbel⟩ := hrel
      have hvb : v < 268435456 := Nat.lt_of_lt_of_le hv (pow_le 10 k (by decide) (by omega))
      by_cases hlt : k < s.size
      · have hlt2 : k < s.data.toList.length := by rw [HL.out]; exact hlt
        have hc := hrow.cell k hlt2
        rw [List.drop_eq_getElem_cons hlt2] at heq
        have h256 : s.data.toList[k].toNat < 256 := UInt8.toNat_lt _
        have hdc := dig_cases s.data.toList[k]
        have hlow := Lib.hid (fun W => lower_c s.data.toList[k].toNat h256 W)
        have hpw := Lib.hid (pow_step 10 k v (hexV s.data.toList[k]) hv)
        generalize hcc : s.data.toList[k] = c at *
        have HD := Lib.hid (show ∀ r, hexV c < 10 → digG 10 (c :: r) v = digG 10 r (v * 10 + hexV c) from fun r h => by rw [digG, if_pos h])
        have HN := Lib.hid (show ∀ r, ¬ hexV c < 10 → digG 10 (c :: r) v = none from fun r h => by rw [digG, if_neg h])
        have HE := Lib.hid heq; have HB := Lib.hid hbel; have HR2 := Lib.hid hrow
        have i1 : (k : Int) < (s.size : Int) := by omega
        clear heq hbel hrow hcc hv
        rcases hdc with ⟨d1, d2, d3⟩ | ⟨d1, d2, d3, d6, d4, d5⟩ | ⟨d1, d2, d3⟩
        · have hx : hexV c < 10 := by omega
          have hd0 : (0 : Int) ≤ (c.toNat : Int) - 48 := by omega
          have hd1 : (c.toNat : Int) - 48 ≤ 15 := by omega
          have hw3 : IntKind.u64.wrap ((v : Int) * 10) = (v : Int) * 10 := IntWalk.u64_in _ (by omega)
          have hw4 : IntKind.u64.wrap ((v : Int) * 10 + ((c.toNat : Int) - 48)) = (v : Int) * 10 + ((c.toNat : Int) - 48) := IntWalk.u64_in _ (by omega)
          have hge : ¬ (v : Int) * 10 + ((c.toNat : Int) - 48) < (v : Int) * 10 := by omega
          have hcut : (v : Int) < C := by rw [← HC.out]; omega
          have hmax : (v : Int) * 10 + ((c.toNat : Int) - 48) ≤ X := by rw [← HX.out]; omega
          have hnx : v * 10 + hexV c < 10 ^ (k + 1) := hpw.out hx
          have hne2 : digG 10 (s.data.toList.drop (k + 1)) (v * 10 + hexV c) = digG 10 s.data.toList 0 := by rw [← HE.out, HD.out _ hx]
          have hval : ((v * 10 + hexV c : Nat) : Int) = (v : Int) * 10 + ((c.toNat : Int) - 48) := by omega
          have HNX := Lib.hid hnx; have HNE := Lib.hid hne2; have HVAL := Lib.hid hval
          clear hnx hne2 hval hvb HD HN HE hpw hx d3 hlow
          go_wp2
          go_roundw
          case rel => exact ⟨k + 1, v * 10 + hexV c, by omega, by go_num, by rw [HVAL.out], rfl, HNX.out, HNE.out, HR2.out, HB.out⟩
          case measure => simp [intOf]; omega
        · have hL := low_le c.toNat h256
          generalize lowV c.toNat = L at *
          have g1 : (97 : Int) ≤ (L : Int) := by omega
          have g7 : ¬ (c.toNat : Int) = 95 := by omega
          have g2 : (L : Int) ≤ 122 := by omega
          have g3 : IntKind.u8.wrap ((L : Int) - 97) = (L : Int) - 97 := IntWalk.u8_in _ (by omega)
          have g4 : IntKind.u8.wrap ((L : Int) - 97 + 10) = (L : Int) - 97 + 10 := IntWalk.u8_in _ (by omega)
          rcases d1 with d1 | d1
          · have hbig : (10 : Int) ≤ (L : Int) - 97 + 10 := by omega
            have hans : digG 10 s.data.toList 0 = none := by rw [← HE.out, HN.out _ (by omega)]
            have HA := Lib.hid hans
            clear hans hvb HD HN HE hpw d4 d5
            go_wp2_with (go_at_call 85; refine (hlow.out _).mono ?_; rintro e w5 ⟨rfl, rfl⟩)
            go_ret2
            refine ⟨?_, HB.out⟩
            rw [HA.out]
            unfold ansV
            rfl
          · have hbig : (10 : Int) ≤ (L : Int) - 97 + 10 := by omega
            have hans : digG 10 s.data.toList 0 = none := by rw [← HE.out, HN.out _ (by omega)]
            have HA := Lib.hid hans
            clear hans hvb HD HN HE hpw d4 d5
            go_wp2_with (go_at_call 85; refine (hlow.out _).mono ?_; rintro e w5 ⟨rfl, rfl⟩)
            go_ret2
            refine ⟨?_, HB.out⟩
            rw [HA.out]
            unfold ansV
            rfl
        · generalize hcn : c.toNat = cn at *
          have hL := low_le cn h256
          have hlt9 : ¬ hexV c < 10 := by omega
          clear d3 hcn
          by_cases h95 : cn = 95
          · subst h95
            generalize lowV 95 = L at *
            rcases d2 with d2 | d2
            · have hans : digG 10 s.data.toList 0 = none := by rw [← HE.out, HN.out _ hlt9]
              have HA := Lib.hid hans
              clear hans hvb HD HN HE hpw hlt9
              go_wp2_with (go_at_call 85; refine (hlow.out _).mono ?_; rintro e w5 ⟨rfl, rfl⟩)
              go_ret2
              refine ⟨?_, HB.out⟩
              rw [HA.out]
              unfold ansV
              rfl
            · have hans : digG 10 s.data.toList 0 = none := by rw [← HE.out, HN.out _ hlt9]
              have HA := Lib.hid hans
              clear hans hvb HD HN HE hpw hlt9
              go_wp2_with (go_at_call 85; refine (hlow.out _).mono ?_; rintro e w5 ⟨rfl, rfl⟩)
              go_ret2
              refine ⟨?_, HB.out⟩
              rw [HA.out]
              unfold ansV
              rfl
          · have h95i : ¬ (cn : Int) = 95 := by omega
            generalize lowV cn = L at *
            rcases d1 with d1 | d1
            · rcases d2 with d2 | d2
              · have hans : digG 10 s.data.toList 0 = none := by rw [← HE.out, HN.out _ hlt9]
                have HA := Lib.hid hans
                clear hans hvb HD HN HE hpw hlt9
                go_wp2_with (go_at_call 85; refine (hlow.out _).mono ?_; rintro e w5 ⟨rfl, rfl⟩)
                go_ret2
                refine ⟨?_, HB.out⟩
                rw [HA.out]
                unfold ansV
                rfl
              · have hans : digG 10 s.data.toList 0 = none := by rw [← HE.out, HN.out _ hlt9]
                have HA := Lib.hid hans
                clear hans hvb HD HN HE hpw hlt9
                go_wp2_with (go_at_call 85; refine (hlow.out _).mono ?_; rintro e w5 ⟨rfl, rfl⟩)
                go_ret2
                refine ⟨?_, HB.out⟩
                rw [HA.out]
                unfold ansV
                rfl
            · rcases d2 with d2 | d2
              · have hans : digG 10 s.data.toList 0 = none := by rw [← HE.out, HN.out _ hlt9]
                have HA := Lib.hid hans
                clear hans hvb HD HN HE hpw hlt9
                go_wp2_with (go_at_call 85; refine (hlow.out _).mono ?_; rintro e w5 ⟨rfl, rfl⟩)
                go_ret2
                refine ⟨?_, HB.out⟩
                rw [HA.out]
                unfold ansV
                rfl
              · have hans : digG 10 s.data.toList 0 = none := by rw [← HE.out, HN.out _ hlt9]
                have HA := Lib.hid hans
                clear hans hvb HD HN HE hpw hlt9
                go_wp2_with (go_at_call 85; refine (hlow.out _).mono ?_; rintro e w5 ⟨rfl, rfl⟩)
                go_ret2
                refine ⟨?_, HB.out⟩
                rw [HA.out]
                unfold ansV
                rfl
      · obtain rfl : k = s.size := by omega
        have hd : s.data.toList.drop s.size = [] := List.drop_eq_nil_of_le (by rw [HL.out]; exact Nat.le_refl _)
        rw [hd] at heq
        have HA := Lib.hid (show digG 10 s.data.toList 0 = some v from heq.symm)
        have HB := Lib.hid hbel
        clear heq hd hrow hbel hv hvb
        go_wp2
        go_ret2
        refine ⟨?_, HB.out⟩
        rw [HA.out]
        unfold ansV
        rfl
  · go_wp2
    generalize hC : (1152921504606846976 : Int) = C
    generalize hX : (18446744073709551615 : Int) = X
    have HC := Lib.hid hC; have HX := Lib.hid hX
    clear hmx hC hX
    go_loopw [12, 13, 101] (fun us n i wr => ∃ (k v : Nat), k ≤ s.size ∧ i = .int .i64 (k : Int) ∧ n = .int .u64 (v : Int) ∧ us = .bool false ∧ v < 16 ^ k ∧ digG 16 (s.data.toList.drop k) v = digG 16 s.data.toList 0 ∧ Row 5 wr w.heap.size s.data.toList ∧ Below w.heap.size w wr) (fun _ _ i _ => s.size - (intOf i).toNat)
    case atStart => exact ⟨0, 0, Nat.zero_le _, rfl, rfl, rfl, by decide, rfl, HR.out, ((Below.refl _ _).alloc (Nat.le_refl _) _).drew⟩
    case round =>
      obtain ⟨k, v, hk, rfl, rfl, rfl, hv, heq, hrow, hbel⟩ := hrel
      have hvb : v < 268435456 := Nat.lt_of_lt_of_le hv (pow_le 16 k (by decide) (by omega))
      by_cases hlt : k < s.size
      · have hlt2 : k < s.data.toList.length := by rw [HL.out]; exact hlt
        have hc := hrow.cell k hlt2
        rw [List.drop_eq_getElem_cons hlt2] at heq
        have h256 : s.data.toList[k].toNat < 256 := UInt8.toNat_lt _
        have hdc := dig_cases s.data.toList[k]
        have hlow := Lib.hid (fun W => lower_c s.data.toList[k].toNat h256 W)
        have hpw := Lib.hid (pow_step 16 k v (hexV s.data.toList[k]) hv)
        generalize hcc : s.data.toList[k] = c at *
        have HD := Lib.hid (show ∀ r, hexV c < 16 → digG 16 (c :: r) v = digG 16 r (v * 16 + hexV c) from fun r h => by rw [digG, if_pos h])
        have HN := Lib.hid (show ∀ r, ¬ hexV c < 16 → digG 16 (c :: r) v = none from fun r h => by rw [digG, if_neg h])
        have HE := Lib.hid heq; have HB := Lib.hid hbel; have HR2 := Lib.hid hrow
        have i1 : (k : Int) < (s.size : Int) := by omega
        clear heq hbel hrow hcc hv
        rcases hdc with ⟨d1, d2, d3⟩ | ⟨d1, d2, d3, d6, d4, d5⟩ | ⟨d1, d2, d3⟩
        · have hx : hexV c < 16 := by omega
          have hd0 : (0 : Int) ≤ (c.toNat : Int) - 48 := by omega
          have hd1 : (c.toNat : Int) - 48 ≤ 15 := by omega
          have hw3 : IntKind.u64.wrap ((v : Int) * 16) = (v : Int) * 16 := IntWalk.u64_in _ (by omega)
          have hw4 : IntKind.u64.wrap ((v : Int) * 16 + ((c.toNat : Int) - 48)) = (v : Int) * 16 + ((c.toNat : Int) - 48) := IntWalk.u64_in _ (by omega)
          have hge : ¬ (v : Int) * 16 + ((c.toNat : Int) - 48) < (v : Int) * 16 := by omega
          have hcut : (v : Int) < C := by rw [← HC.out]; omega
          have hmax : (v : Int) * 16 + ((c.toNat : Int) - 48) ≤ X := by rw [← HX.out]; omega
          have hnx : v * 16 + hexV c < 16 ^ (k + 1) := hpw.out hx
          have hne2 : digG 16 (s.data.toList.drop (k + 1)) (v * 16 + hexV c) = digG 16 s.data.toList 0 := by rw [← HE.out, HD.out _ hx]
          have hval : ((v * 16 + hexV c : Nat) : Int) = (v : Int) * 16 + ((c.toNat : Int) - 48) := by omega
          have HNX := Lib.hid hnx; have HNE := Lib.hid hne2; have HVAL := Lib.hid hval
          clear hnx hne2 hval hvb HD HN HE hpw hx d3 hlow
          go_wp2
          go_roundw
          case rel => exact ⟨k + 1, v * 16 + hexV c, by omega, by go_num, by rw [HVAL.out], rfl, HNX.out, HNE.out, HR2.out, HB.out⟩
          case measure => simp [intOf]; omega
        · have hL := low_le c.toNat h256
          generalize lowV c.toNat = L at *
          have g1 : (97 : Int) ≤ (L : Int) := by omega
          have g7 : ¬ (c.toNat : Int) = 95 := by omega
          have g2 : (L : Int) ≤ 122 := by omega
          have g3 : IntKind.u8.wrap ((L : Int) - 97) = (L : Int) - 97 := IntWalk.u8_in _ (by omega)
          have g4 : IntKind.u8.wrap ((L : Int) - 97 + 10) = (L : Int) - 97 + 10 := IntWalk.u8_in _ (by omega)
          by_cases hx : hexV c < 16
          · have hx2 : hexV c = L - 87 := by omega
            clear d4
            rcases d1 with d1 | d1
            · have hlt4 : (L : Int) - 97 + 10 < 16 := by omega
              have hd0 : (0 : Int) ≤ (L : Int) - 97 + 10 := by omega
              have hd1 : (L : Int) - 97 + 10 ≤ 15 := by omega
              have hw3 : IntKind.u64.wrap ((v : Int) * 16) = (v : Int) * 16 := IntWalk.u64_in _ (by omega)
              have hw4 : IntKind.u64.wrap ((v : Int) * 16 + ((L : Int) - 97 + 10)) = (v : Int) * 16 + ((L : Int) - 97 + 10) := IntWalk.u64_in _ (by omega)
              have hge : ¬ (v : Int) * 16 + ((L : Int) - 97 + 10) < (v : Int) * 16 := by omega
              have hcut : (v : Int) < C := by rw [← HC.out]; omega
              have hmax : (v : Int) * 16 + ((L : Int) - 97 + 10) ≤ X := by rw [← HX.out]; omega
              have hnx : v * 16 + hexV c < 16 ^ (k + 1) := hpw.out hx
              have hne2 : digG 16 (s.data.toList.drop (k + 1)) (v * 16 + hexV c) = digG 16 s.data.toList 0 := by rw [← HE.out, HD.out _ hx]
              have hval : ((v * 16 + hexV c : Nat) : Int) = (v : Int) * 16 + ((L : Int) - 97 + 10) := by omega
              have HNX := Lib.hid hnx; have HNE := Lib.hid hne2; have HVAL := Lib.hid hval
              clear hnx hne2 hval hvb HD HN HE hpw hx d5 hx2
              go_wp2_with (go_at_call 85; refine (hlow.out _).mono ?_; rintro e w5 ⟨rfl, rfl⟩)
              go_roundw
              case rel => exact ⟨k + 1, v * 16 + hexV c, by omega, by go_num, by rw [HVAL.out], rfl, HNX.out, HNE.out, HR2.out, HB.out⟩
              case measure => simp [intOf]; omega
            · have hlt4 : (L : Int) - 97 + 10 < 16 := by omega
              have hd0 : (0 : Int) ≤ (L : Int) - 97 + 10 := by omega
              have hd1 : (L : Int) - 97 + 10 ≤ 15 := by omega
              have hw3 : IntKind.u64.wrap ((v : Int) * 16) = (v : Int) * 16 := IntWalk.u64_in _ (by omega)
              have hw4 : IntKind.u64.wrap ((v : Int) * 16 + ((L : Int) - 97 + 10)) = (v : Int) * 16 + ((L : Int) - 97 + 10) := IntWalk.u64_in _ (by omega)
              have hge : ¬ (v : Int) * 16 + ((L : Int) - 97 + 10) < (v : Int) * 16 := by omega
              have hcut : (v : Int) < C := by rw [← HC.out]; omega
              have hmax : (v : Int) * 16 + ((L : Int) - 97 + 10) ≤ X := by rw [← HX.out]; omega
              have hnx : v * 16 + hexV c < 16 ^ (k + 1) := hpw.out hx
              have hne2 : digG 16 (s.data.toList.drop (k + 1)) (v * 16 + hexV c) = digG 16 s.data.toList 0 := by rw [← HE.out, HD.out _ hx]
              have hval : ((v * 16 + hexV c : Nat) : Int) = (v : Int) * 16 + ((L : Int) - 97 + 10) := by omega
              have HNX := Lib.hid hnx; have HNE := Lib.hid hne2; have HVAL := Lib.hid hval
              clear hnx hne2 hval hvb HD HN HE hpw hx d5 hx2
              go_wp2_with (go_at_call 85; refine (hlow.out _).mono ?_; rintro e w5 ⟨rfl, rfl⟩)
              go_roundw
              case rel => exact ⟨k + 1, v * 16 + hexV c, by omega, by go_num, by rw [HVAL.out], rfl, HNX.out, HNE.out, HR2.out, HB.out⟩
              case measure => simp [intOf]; omega
          · have hx2 : (16 : Int) ≤ (L : Int) - 97 + 10 := by omega
            clear d4
            rcases d1 with d1 | d1
            · have hans : digG 16 s.data.toList 0 = none := by rw [← HE.out, HN.out _ (by omega)]
              have HA := Lib.hid hans
              clear hans hvb HD HN HE hpw d5
              go_wp2_with (go_at_call 85; refine (hlow.out _).mono ?_; rintro e w5 ⟨rfl, rfl⟩)
              go_ret2
              refine ⟨?_, HB.out⟩
              rw [HA.out]
              unfold ansV
              rfl
            · have hans : digG 16 s.data.toList 0 = none := by rw [← HE.out, HN.out _ (by omega)]
              have HA := Lib.hid hans
              clear hans hvb HD HN HE hpw d5
              go_wp2_with (go_at_call 85; refine (hlow.out _).mono ?_; rintro e w5 ⟨rfl, rfl⟩)
              go_ret2
              refine ⟨?_, HB.out⟩
              rw [HA.out]
              unfold ansV
              rfl
        · generalize hcn : c.toNat = cn at *
          have hL := low_le cn h256
          have hlt9 : ¬ hexV c < 16 := by omega
          clear d3 hcn
          by_cases h95 : cn = 95
          · subst h95
            generalize lowV 95 = L at *
            rcases d2 with d2 | d2
            · have hans : digG 16 s.data.toList 0 = none := by rw [← HE.out, HN.out _ hlt9]
              have HA := Lib.hid hans
              clear hans hvb HD HN HE hpw hlt9
              go_wp2_with (go_at_call 85; refine (hlow.out _).mono ?_; rintro e w5 ⟨rfl, rfl⟩)
              go_ret2
              refine ⟨?_, HB.out⟩
              rw [HA.out]
              unfold ansV
              rfl
            · have hans : digG 16 s.data.toList 0 = none := by rw [← HE.out, HN.out _ hlt9]
              have HA := Lib.hid hans
              clear hans hvb HD HN HE hpw hlt9
              go_wp2_with (go_at_call 85; refine (hlow.out _).mono ?_; rintro e w5 ⟨rfl, rfl⟩)
              go_ret2
              refine ⟨?_, HB.out⟩
              rw [HA.out]
              unfold ansV
              rfl
          · have h95i : ¬ (cn : Int) = 95 := by omega
            generalize lowV cn = L at *
            rcases d1 with d1 | d1
            · rcases d2 with d2 | d2
              · have hans : digG 16 s.data.toList 0 = none := by rw [← HE.out, HN.out _ hlt9]
                have HA := Lib.hid hans
                clear hans hvb HD HN HE hpw hlt9
                go_wp2_with (go_at_call 85; refine (hlow.out _).mono ?_; rintro e w5 ⟨rfl, rfl⟩)
                go_ret2
                refine ⟨?_, HB.out⟩
                rw [HA.out]
                unfold ansV
                rfl
              · have hans : digG 16 s.data.toList 0 = none := by rw [← HE.out, HN.out _ hlt9]
                have HA := Lib.hid hans
                clear hans hvb HD HN HE hpw hlt9
                go_wp2_with (go_at_call 85; refine (hlow.out _).mono ?_; rintro e w5 ⟨rfl, rfl⟩)
                go_ret2
                refine ⟨?_, HB.out⟩
                rw [HA.out]
                unfold ansV
                rfl
            · rcases d2 with d2 | d2
              · have hans : digG 16 s.data.toList 0 = none := by rw [← HE.out, HN.out _ hlt9]
                have HA := Lib.hid hans
                clear hans hvb HD HN HE hpw hlt9
                go_wp2_with (go_at_call 85; refine (hlow.out _).mono ?_; rintro e w5 ⟨rfl, rfl⟩)
                go_ret2
                refine ⟨?_, HB.out⟩
                rw [HA.out]
                unfold ansV
                rfl
              · have hans : digG 16 s.data.toList 0 = none := by rw [← HE.out, HN.out _ hlt9]
                have HA := Lib.hid hans
                clear hans hvb HD HN HE hpw hlt9
                go_wp2_with (go_at_call 85; refine (hlow.out _).mono ?_; rintro e w5 ⟨rfl, rfl⟩)
                go_ret2
                refine ⟨?_, HB.out⟩
                rw [HA.out]
                unfold ansV
                rfl
      · obtain rfl : k = s.size := by omega
        have hd : s.data.toList.drop s.size = [] := List.drop_eq_nil_of_le (by rw [HL.out]; exact Nat.le_refl _)
        rw [hd] at heq
        have HA := Lib.hid (show digG 16 s.data.toList 0 = some v from heq.symm)
        have HB := Lib.hid hbel
        clear heq hd hrow hbel hv hvb
        go_wp2
        go_ret2
        refine ⟨?_, HB.out⟩
        rw [HA.out]
        unfold ansV
        rfl
end Go.Proofs.YtkfcbafjcjmfnaaGreatDoor.Num
namespace Go.Proofs.YtkfcbafjcjmfnaaGreatDoor.Ent
open Go.RowKit Go.Proofs.YtkfcbafjcjmfnaaGreatDoor.Gen Go.Proofs.YtkfcbafjcjmfnaaGreatDoor.Pure Go.Proofs.YtkfcbafjcjmfnaaGreatDoor.Num
set_option linter.unusedVariables false
set_option linter.unusedSimpArgs false
def cutL (c : UInt8) : List UInt8 → Option (List UInt8 × List UInt8)
  | [] => none
  | x :: r => if x = c then some ([], r) else (cutL c r).map fun p => (x :: p.1, p.2)
def digL (base most : Nat) (l : List UInt8) : Option Nat := if l.length < 1 ∨ most < l.length then none else digG base l 0
def numL (n : Nat) : List UInt8 := if n = 0 then [239, 191, 189] else if 128 ≤ n ∧ n ≤ 159 then singlesL [UInt8.ofNat n] else Lib.encodeRune (n : Int)
def namesT : List (List UInt8 × Int) := [([97, 109, 112], 38), ([108, 116], 60), ([103, 116], 62), ([113, 117, 111, 116], 34), ([97, 112, 111, 115], 39), ([110, 98, 115, 112], 160), ([99, 111, 112, 121], 169), ([114, 101, 103], 174), ([104, 101, 108, 108, 105, 112], 8230), ([110, 100, 97, 115, 104], 8211), ([109, 100, 97, 115, 104], 8212), ([101, 117, 114, 111], 8364), ([108, 115, 113, 117, 111], 8216), ([114, 115, 113, 117, 111], 8217), ([108, 100, 113, 117, 111], 8220), ([114, 100, 113, 117, 111], 8221)]
def nameL (l : List UInt8) : Option Int := (namesT.find? fun p => p.1 == l).map (·.2)
theorem nameL_mem {l : List UInt8} {c : Int} (h : nameL l = some c) : (l, c) ∈ namesT := by
  unfold nameL at h
  obtain ⟨p, hp, rfl⟩ := Option.map_eq_some_iff.1 h
  have h1 := List.find?_some hp
  have h2 := List.mem_of_find?_eq_some hp
  simp only [beq_iff_eq] at h1
  rw [← h1]; exact h2
def numbL (r : List UInt8) : Option Nat := match r with
  | [] => none
  | x :: r' => if x = 120 ∨ x = 88 then digL 16 6 r' else digL 10 7 (x :: r')
def signL (l : List UInt8) : Option (List UInt8) := match l with
  | [] => none
  | x :: r => if x = 35 then (numbL r).map numL else (nameL (x :: r)).map Lib.encodeRune
def oneL (r : List UInt8) : Option (List UInt8 × Nat) := match cutL 59 r with
  | some (nm, _) => (signL nm).map fun t => (t, nm.length + 1)
  | none => none
def dec : Nat → List UInt8 → List UInt8
  | _, [] => []
  | k + 1, _ :: r => dec k r
  | 0, c :: r => if c = 38 then (match oneL r with
    | some (t, n) => t ++ dec n r
    | none => 38 :: dec 0 r) else c :: dec 0 r
theorem dec_nil (k : Nat) : dec k [] = [] := by cases k <;> rfl
theorem dec_drop : ∀ (l : List UInt8) (k : Nat), dec k l = dec 0 (l.drop k)
  | [], k => by rw [dec_nil, List.drop_nil, dec_nil]
  | c :: r, 0 => rfl
  | c :: r, k + 1 => by
    show dec k r = dec 0 (r.drop k)
    exact dec_drop r k
theorem dec_plain (c : UInt8) (r : List UInt8) (h : c ≠ 38) : dec 0 (c :: r) = c :: dec 0 r := by
  simp only [dec, if_neg h]
theorem dec_none (r : List UInt8) (h : oneL r = none) : dec 0 (38 :: r) = 38 :: dec 0 r := by
  simp only [dec, h, if_true]
theorem dec_some (r t : List UInt8) (n : Nat) (h : oneL r = some (t, n)) : dec 0 (38 :: r) = t ++ dec 0 (r.drop n) := by
  simp only [dec, h, if_true]
  rw [dec_drop]
theorem cutL_none (c : UInt8) : ∀ (l : List UInt8), cutL c l = none ↔ c ∉ l
  | [] => by simp [cutL]
  | x :: r => by
    unfold cutL
    by_cases h : x = c
    · simp [h]
    · rw [if_neg h, Option.map_eq_none_iff, cutL_none c r]
      have h2 : ¬ c = x := fun e => h e.symm
      simp [h2]
theorem cutL_some (c : UInt8) : ∀ (l a b : List UInt8), cutL c l = some (a, b) ↔ l = a ++ c :: b ∧ c ∉ a
  | [], a, b => by simp [cutL]
  | x :: r, a, b => by
    unfold cutL
    by_cases h : x = c
    · rw [if_pos h]
      constructor
      · intro e
        injection e with e
        injection e with e1 e2
        subst e1; subst e2; subst h
        simp
      · rintro ⟨e, hn⟩
        cases a with
        | nil => simp at e; rw [e.2]
        | cons y a => simp at e; exact absurd (by rw [← e.1]; simp [h]) hn
    · rw [if_neg h, Option.map_eq_some_iff]
      constructor
      · rintro ⟨p, hp, e⟩
        obtain ⟨a', b'⟩ := p
        injection e with e1 e2
        subst e1; subst e2
        obtain ⟨e, hn⟩ := (cutL_some c r a' b').1 hp
        subst e
        have h2 : ¬ c = x := fun e => h e.symm
        exact ⟨rfl, by simp [hn, h2]⟩
      · rintro ⟨e, hn⟩
        cases a with
        | nil => simp at e; exact absurd e.1 h
        | cons y a =>
          simp at e
          refine ⟨(a, b), (cutL_some c r a b).2 ⟨e.2, fun hm => hn (by simp [hm])⟩, ?_⟩
          rw [e.1]
theorem oneL_eq (nm r : List UInt8) (h : (59 : UInt8) ∉ nm) : oneL (nm ++ 59 :: r) = (signL nm).map fun t => (t, nm.length + 1) := by
  unfold oneL
  rw [(cutL_some 59 (nm ++ 59 :: r) nm r).2 ⟨rfl, h⟩]
theorem one_amp (r : List UInt8) : oneL (97 :: 109 :: 112 :: 59 :: r) = some ([38], 4) := oneL_eq [97, 109, 112] r (by decide)
theorem one_lt (r : List UInt8) : oneL (108 :: 116 :: 59 :: r) = some ([60], 3) := oneL_eq [108, 116] r (by decide)
theorem one_gt (r : List UInt8) : oneL (103 :: 116 :: 59 :: r) = some ([62], 3) := oneL_eq [103, 116] r (by decide)
theorem one_nbsp (r : List UInt8) : oneL (110 :: 98 :: 115 :: 112 :: 59 :: r) = some ([194, 160], 5) := oneL_eq [110, 98, 115, 112] r (by decide)
theorem one_quot (r : List UInt8) : oneL (113 :: 117 :: 111 :: 116 :: 59 :: r) = some ([34], 5) := oneL_eq [113, 117, 111, 116] r (by decide)
def qq (c : UInt8) : List UInt8 := if c = 34 then [38, 113, 117, 111, 116, 59] else [c]
def quo (l : List UInt8) : List UInt8 := l.flatMap qq
theorem quo_append (a b : List UInt8) : quo (a ++ b) = quo a ++ quo b := by simp [quo]
theorem quo_cons (c : UInt8) (r : List UInt8) : quo (c :: r) = qq c ++ quo r := rfl
theorem hit_cases (c : UInt8) (r : List UInt8) : (hitL (c :: r) = none ∧ esc 0 (c :: r) = c :: esc 0 r ∧ c ≠ 38 ∧ c ≠ 60 ∧ c ≠ 62) ∨
    (c = 38 ∧ esc 0 (c :: r) = 38 :: 97 :: 109 :: 112 :: 59 :: esc 0 r) ∨ (c = 60 ∧ esc 0 (c :: r) = 38 :: 108 :: 116 :: 59 :: esc 0 r) ∨ (c = 62 ∧ esc 0 (c :: r) = 38 :: 103 :: 116 :: 59 :: esc 0 r) ∨
    (∃ r', c = 194 ∧ r = 160 :: r' ∧ esc 0 (c :: r) = 38 :: 110 :: 98 :: 115 :: 112 :: 59 :: esc 0 r') := by
  by_cases h1 : c = 38
  · subst h1; exact .inr (.inl ⟨rfl, esc_hit (38 :: r) ⟨#[38, 97, 109, 112, 59]⟩ 1 rfl⟩)
  by_cases h2 : c = 60
  · subst h2; exact .inr (.inr (.inl ⟨rfl, esc_hit (60 :: r) ⟨#[38, 108, 116, 59]⟩ 1 rfl⟩))
  by_cases h3 : c = 62
  · subst h3; exact .inr (.inr (.inr (.inl ⟨rfl, esc_hit (62 :: r) ⟨#[38, 103, 116, 59]⟩ 1 rfl⟩)))
  by_cases h4 : c = 194 ∧ ∃ r', r = 160 :: r'
  · obtain ⟨rfl, r', rfl⟩ := h4
    exact .inr (.inr (.inr (.inr ⟨r', rfl, rfl, esc_hit (194 :: 160 :: r') ⟨#[38, 110, 98, 115, 112, 59]⟩ 2 rfl⟩)))
  · have hn : hitL (c :: r) = none := by
      unfold hitL
      split <;> simp_all
    exact .inl ⟨hn, esc_none c r hn, h1, h2, h3⟩
theorem dec_esc : ∀ (n : Nat) (l : List UInt8), l.length ≤ n → dec 0 (esc 0 l) = l
  | 0, l, h => by
    obtain rfl : l = [] := List.length_eq_zero_iff.1 (by omega)
    rfl
  | n + 1, [], h => rfl
  | n + 1, c :: r, h => by
    have ih := dec_esc n r (by simp at h; omega)
    rcases hit_cases c r with ⟨_, e, h1, _⟩ | ⟨rfl, e⟩ | ⟨rfl, e⟩ | ⟨rfl, e⟩ | ⟨r', rfl, rfl, e⟩
    · rw [e, dec_plain c _ h1, ih]
    · rw [e, dec_some _ _ _ (one_amp _)]; simp [ih]
    · rw [e, dec_some _ _ _ (one_lt _)]; simp [ih]
    · rw [e, dec_some _ _ _ (one_gt _)]; simp [ih]
    · rw [e, dec_some _ _ _ (one_nbsp _)]; simp [dec_esc n r' (by simp at h; omega)]
theorem dec_quo : ∀ (n : Nat) (l : List UInt8), l.length ≤ n → dec 0 (quo (esc 0 l)) = l
  | 0, l, h => by
    obtain rfl : l = [] := List.length_eq_zero_iff.1 (by omega)
    rfl
  | n + 1, [], h => rfl
  | n + 1, c :: r, h => by
    have ih := dec_quo n r (by simp at h; omega)
    have q : ∀ (c : UInt8) (r : List UInt8), c ≠ 34 → quo (c :: r) = c :: quo r := fun c r h => by rw [quo_cons]; unfold qq; rw [if_neg h]; rfl
    rcases hit_cases c r with ⟨_, e, h1, _⟩ | ⟨rfl, e⟩ | ⟨rfl, e⟩ | ⟨rfl, e⟩ | ⟨r', rfl, rfl, e⟩
    · rw [e]
      by_cases h34 : c = 34
      · subst h34
        rw [show quo (34 :: esc 0 r) = 38 :: 113 :: 117 :: 111 :: 116 :: 59 :: quo (esc 0 r) from rfl, dec_some _ _ _ (one_quot _)]
        simp [ih]
      · rw [q c _ h34, dec_plain c _ h1, ih]
    · rw [e, show quo (38 :: 97 :: 109 :: 112 :: 59 :: esc 0 r) = 38 :: 97 :: 109 :: 112 :: 59 :: quo (esc 0 r) from rfl, dec_some _ _ _ (one_amp _)]; simp [ih]
    · rw [e, show quo (38 :: 108 :: 116 :: 59 :: esc 0 r) = 38 :: 108 :: 116 :: 59 :: quo (esc 0 r) from rfl, dec_some _ _ _ (one_lt _)]; simp [ih]
    · rw [e, show quo (38 :: 103 :: 116 :: 59 :: esc 0 r) = 38 :: 103 :: 116 :: 59 :: quo (esc 0 r) from rfl, dec_some _ _ _ (one_gt _)]; simp [ih]
    · rw [e, show quo (38 :: 110 :: 98 :: 115 :: 112 :: 59 :: esc 0 r') = 38 :: 110 :: 98 :: 115 :: 112 :: 59 :: quo (esc 0 r') from rfl, dec_some _ _ _ (one_nbsp _)]; simp [dec_quo n r' (by simp at h; omega)]
theorem enc4 (r : Int) : (Lib.encodeRune r).length ≤ 4 := by
  have := Lib.encodeRuneZ_length r
  have h2 : 1 ≤ (Lib.encodeRune r).length ∧ (Lib.encodeRune r).length ≤ 4 := by simpa [Lib.encodeRune] using this
  exact h2.2
theorem numL_len (n : Nat) : (numL n).length ≤ 4 := by
  unfold numL
  split
  · decide
  · split
    · exact Nat.le_trans (singles_len _) (by simp)
    · exact enc4 _
theorem numbL_len (r : List UInt8) (n : Nat) (h : numbL r = some n) : 1 ≤ r.length := by
  cases r with
  | nil => simp [numbL] at h
  | cons => simp
theorem nameL_len (l : List UInt8) (c : Int) (h : nameL l = some c) : (Lib.encodeRune c).length ≤ l.length + 1 := by
  have : ∀ p ∈ namesT, (Lib.encodeRune p.2).length ≤ p.1.length + 1 := by decide
  exact this _ (nameL_mem h)
theorem signL_len (l t : List UInt8) (h : signL l = some t) : t.length ≤ l.length + 2 := by
  cases l with
  | nil => simp [signL] at h
  | cons x r =>
    rw [show signL (x :: r) = if x = 35 then (numbL r).map numL else (nameL (x :: r)).map Lib.encodeRune from rfl] at h
    by_cases hx : x = 35
    · rw [if_pos hx, Option.map_eq_some_iff] at h
      obtain ⟨n, hn, rfl⟩ := h
      have := numL_len n
      have := numbL_len r n hn
      simp; omega
    · rw [if_neg hx, Option.map_eq_some_iff] at h
      obtain ⟨c, hc, rfl⟩ := h
      have := nameL_len _ c hc
      omega
theorem oneL_len (r t : List UInt8) (n : Nat) (h : oneL r = some (t, n)) : t.length ≤ n + 1 ∧ 1 ≤ n ∧ n ≤ r.length := by
  unfold oneL at h
  cases hc : cutL 59 r with
  | none => rw [hc] at h; simp at h
  | some p =>
    obtain ⟨a, b⟩ := p
    rw [hc] at h
    simp only [Option.map_eq_some_iff] at h
    obtain ⟨t', ht, e⟩ := h
    injection e with e1 e2
    subst e1; subst e2
    obtain ⟨rfl, _⟩ := (cutL_some 59 r a b).1 hc
    have := signL_len a t' ht
    simp; omega
theorem dec_len : ∀ (n : Nat) (l : List UInt8), l.length ≤ n → (dec 0 l).length ≤ l.length
  | 0, l, h => by
    obtain rfl : l = [] := List.length_eq_zero_iff.1 (by omega)
    simp [dec]
  | n + 1, [], h => by simp [dec]
  | n + 1, c :: r, h => by
    by_cases hc : c = 38
    · subst hc
      cases ho : oneL r with
      | none => rw [dec_none r ho]; have := dec_len n r (by simp at h; omega); simp; omega
      | some p =>
        obtain ⟨t, k⟩ := p
        obtain ⟨h1, h2, h3⟩ := oneL_len r t k ho
        rw [dec_some r t k ho, List.length_append]
        have := dec_len n (r.drop k) (by rw [List.length_drop]; simp at h; omega)
        rw [List.length_drop] at this
        simp; omega
    · rw [dec_plain c r hc]; have := dec_len n r (by simp at h; omega); simp; omega
theorem dec_same : ∀ (l : List UInt8), (38 : UInt8) ∉ l → dec 0 l = l
  | [], _ => rfl
  | c :: r, h => by
    simp at h
    rw [dec_plain c r (fun e => h.1 e.symm), dec_same r h.2]
theorem esc_append : ∀ (n : Nat) (a b : List UInt8), a.length ≤ n → a.getLast? ≠ some 194 → esc 0 (a ++ b) = esc 0 a ++ esc 0 b
  | 0, a, b, h, _ => by
    obtain rfl : a = [] := List.length_eq_zero_iff.1 (by omega)
    rfl
  | n + 1, [], b, h, _ => rfl
  | n + 1, c :: r, b, h, hl => by
    have ih := esc_append n r b (by simp at h; omega)
    have hl2 : r ≠ [] → r.getLast? ≠ some 194 := fun hr => by
      rw [List.getLast?_cons] at hl
      obtain ⟨x, y, rfl⟩ := List.exists_cons_of_ne_nil hr
      simpa [List.getLast?_cons] using hl
    have ih' : esc 0 (r ++ b) = esc 0 r ++ esc 0 b := by
      by_cases hr : r = []
      · subst hr; rfl
      · exact ih (hl2 hr)
    rcases hit_cases c r with ⟨hn, e, h1, h2, h3⟩ | ⟨rfl, e⟩ | ⟨rfl, e⟩ | ⟨rfl, e⟩ | ⟨r', rfl, rfl, e⟩
    · rw [e]
      rcases hit_cases c (r ++ b) with ⟨_, e2, _⟩ | ⟨rfl, e2⟩ | ⟨rfl, e2⟩ | ⟨rfl, e2⟩ | ⟨r', rfl, hr', e2⟩
      · rw [List.cons_append, e2, ih']; rfl
      · exact absurd rfl h1
      · exact absurd rfl h2
      · exact absurd rfl h3
      · exfalso
        cases r with
        | nil => exact hl rfl
        | cons y r =>
          simp at hr'
          obtain ⟨rfl, _⟩ := hr'
          simp [hitL] at hn
    · rcases hit_cases 38 (r ++ b) with ⟨_, _, h1, _⟩ | ⟨_, e2⟩ | ⟨h1, _⟩ | ⟨h1, _⟩ | ⟨_, h1, _⟩
      · exact absurd rfl h1
      · rw [List.cons_append, e2, e, ih']; rfl
      all_goals exact absurd h1 (by decide)
    · rcases hit_cases 60 (r ++ b) with ⟨_, _, _, h1, _⟩ | ⟨h1, _⟩ | ⟨_, e2⟩ | ⟨h1, _⟩ | ⟨_, h1, _⟩
      · exact absurd rfl h1
      · exact absurd h1 (by decide)
      · rw [List.cons_append, e2, e, ih']; rfl
      all_goals exact absurd h1 (by decide)
    · rcases hit_cases 62 (r ++ b) with ⟨_, _, _, _, h1⟩ | ⟨h1, _⟩ | ⟨h1, _⟩ | ⟨_, e2⟩ | ⟨_, h1, _⟩
      · exact absurd rfl h1
      · exact absurd h1 (by decide)
      · exact absurd h1 (by decide)
      · rw [List.cons_append, e2, e, ih']; rfl
      · exact absurd h1 (by decide)
    · have hl3 : esc 0 (r' ++ b) = esc 0 r' ++ esc 0 b := by
        by_cases hr : r' = []
        · subst hr; rfl
        · refine esc_append n r' b (by simp at h; omega) ?_
          obtain ⟨x, y, rfl⟩ := List.exists_cons_of_ne_nil hr
          simpa [List.getLast?_cons] using hl
      rw [e, show esc 0 (194 :: 160 :: r' ++ b) = 38 :: 110 :: 98 :: 115 :: 112 :: 59 :: esc 0 (r' ++ b) from esc_hit (194 :: 160 :: (r' ++ b)) ⟨#[38, 110, 98, 115, 112, 59]⟩ 2 rfl, hl3]
      rfl
theorem takeWhile_ends (p : UInt8 → Bool) (a b : List UInt8) (x : UInt8) (ha : ∀ c ∈ a, p c = true) (hx : p x = false) : (a ++ x :: b).takeWhile p = a := by
  induction a with
  | nil => simp [hx]
  | cons y a ih =>
    rw [List.cons_append, List.takeWhile_cons, if_pos (ha y (by simp)), ih (fun c hc => ha c (by simp [hc]))]
end Go.Proofs.YtkfcbafjcjmfnaaGreatDoor.Ent
namespace Go.Proofs.YtkfcbafjcjmfnaaGreatDoor.Gen
open Go.RowKit Go.Proofs.YtkfcbafjcjmfnaaGreatDoor.Row Go.Proofs.YtkfcbafjcjmfnaaGreatDoor.Repl
set_option linter.unusedVariables false
set_option linter.unusedSimpArgs false
theorem ta_fact (b : Nat) (w : World) : (Instr.typeAssert (.iface 197 (.pointer (some ⟨b, 0, none⟩))) 199 201 true).run Tryz.prog w = .ok (.tuple #[.iface 197 (.pointer (some ⟨b, 0, none⟩)), .bool true]) w := by kernel_rfl
set_option maxHeartbeats 2000000 in
set_option maxRecDepth 100000 in
theorem getWriter_c (b : Nat) (w : World) :
    Calls Tryz.prog 173 #[.iface 197 (.pointer (some ⟨b, 0, none⟩))] w fun e w' => e = .returned (.iface 197 (.pointer (some ⟨b, 0, none⟩))) ∧ w' = w := by
  have q := ta_fact b
  go_enter Tryz.func173, Tryz.ntmps173
  go_wp2
  go_ret
  exact ⟨rfl, rfl⟩
theorem method_asw (b : Nat) (w : World) : (method 309 197 (.pointer (some ⟨b, 0, none⟩)) "WriteString").run Tryz.prog w = .ok (184, .pointer (some ⟨b, 0, none⟩)) w := by kernel_rfl
theorem nil_asw (b : Nat) (w : World) : (nilAhead 309 197 (.pointer (some ⟨b, 0, none⟩)) "WriteString").run Tryz.prog w = .ok (some false) w := by kernel_rfl
theorem ext_drop (s : ByteArray) (i : Nat) : (s.extract i s.size).data.toList = s.data.toList.drop i := by
  rw [ByteArray.data_extract, Array.toList_extract]
  simp only [List.extract]
  exact List.take_of_length_le (by simp)
theorem ext_mid (s : ByteArray) (a i : Nat) : (s.extract a i).data.toList = (s.data.toList.take i).drop a := by
  rw [ByteArray.data_extract, Array.toList_extract]
  simp only [List.extract]
  rw [List.drop_take]
theorem slow_at {w : World} {T a b c d : Nat} (hT : Tbl w T [ptr a, ptr b, ptr c, .pointer none, ptr d]) (x : UInt8) (h : x = 38 ∨ x = 60 ∨ x = 62 ∨ x = 194) : ∃ i y, mapping x.toNat = i ∧ i < 5 ∧ w.cell? ⟨T, i, none⟩ = some (.pointer (some ⟨y, 0, none⟩)) := by
  obtain ⟨m1, m2, m3, m4, m5⟩ := mapping_at
  rcases h with rfl | rfl | rfl | rfl
  · exact ⟨0, a, m1, by decide, by rw [hT.cell]; rfl⟩
  · exact ⟨1, b, m2, by decide, by rw [hT.cell]; rfl⟩
  · exact ⟨2, c, m3, by decide, by rw [hT.cell]; rfl⟩
  · exact ⟨4, d, m5, by decide, by rw [hT.cell]; rfl⟩
theorem lookup_no (M R : Nat) (s : ByteArray) (w : World) (hG : Gen M w R) (h160 : s[0]? ≠ some 160) (l : List UInt8) (hl : s.data.toList = l) (hh : hitL l = none) :
    Calls Tryz.prog 174 #[.pointer (some ⟨R, 0, none⟩), .string s, .bool false] w fun x w' => x = .returned (.tuple #[.string ⟨#[]⟩, .int .i64 0, .bool false]) ∧ ∃ n, w' = w.drewN n := by
  refine (lookup_c M R s w hG h160).mono ?_
  rintro x w' ⟨rfl, hw⟩
  exact ⟨by rw [hl, hh], hw⟩
theorem lookup_yes (M R : Nat) (s : ByteArray) (w : World) (hG : Gen M w R) (h160 : s[0]? ≠ some 160) (l : List UInt8) (hl : s.data.toList = l) (v : ByteArray) (n : Nat) (hh : hitL l = some (v, n)) :
    Calls Tryz.prog 174 #[.pointer (some ⟨R, 0, none⟩), .string s, .bool false] w fun x w' => x = .returned (.tuple #[.string v, .int .i64 (n : Int), .bool true]) ∧ ∃ n, w' = w.drewN n := by
  refine (lookup_c M R s w hG h160).mono ?_
  rintro x w' ⟨rfl, hw⟩
  exact ⟨by rw [hl, hh], hw⟩
structure At (L out : List UInt8) (i last : Nat) : Prop where
  h1 : last ≤ i
  h2 : last ≤ L.length
  h3 : i ≤ L.length + 1
  eq : out ++ (L.take i).drop last ++ esc 0 (L.drop i) = esc 0 L
set_option maxHeartbeats 4000000 in
set_option maxRecDepth 100000 in
theorem gen_WriteString (M R b B : Nat) (s : ByteArray) (w : World) (hG : Gen M w R) (hs : s.size ≤ 1000000) (hA : Asw B w b []) (hB : B ≤ w.heap.size) (hGB : ∀ w', Below B w w' → Gen M w' R) :
    Calls Tryz.prog 172 #[.pointer (some ⟨R, 0, none⟩), .iface 197 (.pointer (some ⟨b, 0, none⟩)), .string s] w fun e w' => (∃ v, e = .returned v) ∧ Asw B w' b (esc 0 s.data.toList) ∧ Below B w w' := by
  have hmf : ∀ (fn : Fn) (first cap : Array Value) (w : World), (Instr.makeFunc fn first cap).run Tryz.prog w = .ok (.func fn first cap) w := fun _ _ _ _ => rfl
  have hm := method_asw
  have hna := nil_asw
  have HGB := Lib.hid hGB; have HA := Lib.hid hA
  have hL : s.data.toList.length = s.size := by simp
  have HL := Lib.hid hL
  clear hGB hA hG hL
  go_enter Tryz.func172, Tryz.ntmps172
  go_wp2_with (go_at_call 173; refine (getWriter_c b _).mono ?_; rintro e w' ⟨rfl, hw⟩; replace hw := hw.symm; subst hw)
  go_loopw [6, 7, 9, 10, 11, 12] (fun v6 v7 v9 v10 v11 v12 wr => ∃ (i last : Nat) (x y : Int) (out : List UInt8), v6 = .int .i64 x ∧ v7 = .nilIface ∧ v9 = .int .i64 (last : Int) ∧ v10 = .int .i64 y ∧ v11 = .bool false ∧ v12 = .int .i64 (i : Int) ∧ At s.data.toList out i last ∧ Asw B wr b out ∧ Below B w wr) (fun _ _ _ _ _ v12 _ => s.size + 2 - (intOf v12).toNat)
  case atStart => exact ⟨0, 0, 0, 0, [], rfl, rfl, rfl, rfl, rfl, rfl, ⟨by omega, by omega, by omega, by simp⟩, HA.out, Below.refl _ _⟩
  case round =>
    obtain ⟨i, last, x, y, out, rfl, rfl, rfl, rfl, rfl, rfl, hat, hasw, hbel⟩ := hrel
    have hl1 := hat.h1
    have hl2 := hat.h2
    have hl3 := hat.h3
    rw [HL.out] at hl2 hl3
    obtain ⟨T, a, b1, c, d, e, h1, h2, h3, h4, h5, h6, h7, hR, hT, n1, n2, n3, n4, n5⟩ := HGB.out wr hbel
    have HAT := Lib.hid hat; have HAS := Lib.hid hasw; have HBE := Lib.hid hbel
    have c1 := hR.prio
    have c2 := hR.tb
    have c3 := hR.ts
    clear hat hasw hbel
    by_cases hfin : i = s.size + 1
    · subst hfin
      have heq := HAT.out.eq
      rw [List.take_of_length_le (show s.data.toList.length ≤ s.size + 1 by rw [HL.out]; omega), List.drop_eq_nil_of_le (show s.data.toList.length ≤ s.size + 1 by rw [HL.out]; omega)] at heq
      simp only [esc, List.append_nil] at heq
      have HEQ := Lib.hid heq
      have g1 : ¬ ((s.size : Int) + 1 ≤ (s.size : Int)) := by omega
      have g2 : (last : Int) ≤ (s.size : Int) := by omega
      clear hR hT n1 n2 n3 n4 n5 heq
      by_cases hls : last = s.size
      · subst hls
        go_wp2
        go_ret2
        refine ⟨⟨_, rfl⟩, ?_, HBE.out⟩
        have := HEQ.out
        rw [List.drop_eq_nil_of_le (show s.data.toList.length ≤ s.size by rw [HL.out]; omega), List.append_nil] at this
        rw [← this]; exact HAS.out
      · have g3 : ¬ (last : Int) = (s.size : Int) := by omega
        have hol : out.length ≤ 6 * s.size := by
          have h := congrArg List.length HEQ.out
          have h2 := esc_len _ s.data.toList (Nat.le_refl _)
          rw [List.length_append] at h
          rw [HL.out] at h2
          omega
        have hez : (s.extract last s.size).size = s.size - last := by simp
        have CW := Lib.hid (asw_WriteString B b out (s.extract last s.size) wr.drew HAS.out (by omega) (by have := HBE.out.size; show B ≤ wr.heap.size; omega))
        go_wp2
        go_region_held3 (fun _ => True) (trivial) (first | (go_at_call 184; refine CW.out.mono ?_; rintro e w5 ⟨rfl, ha5, hb5⟩))
        all_goals go_wp2_with fail
        all_goals go_ret2
        all_goals (refine ⟨⟨_, rfl⟩, ?_, HBE.out.drew.trans hb5⟩; rw [ext_drop, HEQ.out] at ha5; exact ha5)
    · by_cases hend : i = s.size
      · subst hend
        have hnext : At s.data.toList out (s.size + 1) last := by
          refine ⟨by omega, by rw [HL.out]; omega, by rw [HL.out]; omega, ?_⟩
          rw [← HAT.out.eq, List.take_of_length_le (show s.data.toList.length ≤ s.size + 1 by rw [HL.out]; omega), List.take_of_length_le (show s.data.toList.length ≤ s.size by rw [HL.out]; omega), List.drop_eq_nil_of_le (show s.data.toList.length ≤ s.size + 1 by rw [HL.out]; omega), List.drop_eq_nil_of_le (show s.data.toList.length ≤ s.size by rw [HL.out]; omega)]
        have LK2 := Lib.hid (lookup_no M R ByteArray.empty wr (HGB.out wr HBE.out) (by decide) [] rfl rfl)
        have HN := Lib.hid hnext
        clear hR hT n1 n2 n3 n4 n5 hnext
        go_wp2_with (go_at_call 174; refine LK2.out.mono ?_; rintro e w5 ⟨rfl, nq, rfl⟩)
        go_roundw
        case rel => exact ⟨s.size + 1, last, x, y, out, rfl, rfl, rfl, rfl, rfl, by go_num, HN.out, HAS.out, bdrewN HBE.out nq⟩
        case measure => simp [intOf] <;> omega
      · have hlt : i < s.size := by omega
        obtain ⟨k, hk1, hk2, hk3⟩ : ∃ k, s[i] = k ∧ s.data[i]'(by rw [← ByteArray.size_data] at hlt; exact hlt) = k ∧ s.data.toList[i]'(by rw [HL.out]; exact hlt) = k := ⟨_, rfl, rfl, rfl⟩
        have h256 : k.toNat < 256 := UInt8.toNat_lt k
        have h256i : (k.toNat : Int) < 256 := by omega
        have c4 := hR.at k.toNat h256
        have g1 : (i : Int) < (s.size : Int) := by omega
        have g2 : ¬ (i : Int) = (s.size : Int) := by omega
        have g3 : ¬ i = s.size := by omega
        have g4 : (i : Int) ≤ (s.size : Int) := by omega
        have g5 : i ≤ s.size := by omega
        by_cases hslow : k = 38 ∨ k = 60 ∨ k = 62 ∨ k = 194
        · obtain ⟨ix, y2, hix, hix5, c5⟩ := slow_at hT k hslow
          rw [hix] at c4
          have hil : i < s.data.toList.length := by rw [HL.out]; exact hlt
          have g6 : ¬ ix = 5 := by omega
          have g7 : ¬ (ix : Int) = 5 := by omega
          have g8 : (ix : Int) < 5 := by omega
          have h160 : (s.extract i s.size)[0]? ≠ some 160 := by
            have e : (s.extract i s.size)[0]? = some k := by
              rw [getElem?_pos _ 0 (by simp; omega)]
              have := ByteArray.getElem_extract (b := s) (start := i) (stop := s.size) (i := 0) (h := by simp; omega)
              rw [this]; simpa using hk1
            rw [e]
            rcases hslow with h | h | h | h <;> (subst h; decide)
          have HG := HGB.out wr HBE.out
          clear hR hT n1 n2 n3 n4 n5 hslow
          cases hh : hitL (s.data.toList.drop i) with
          | none =>
            have LK := Lib.hid (fun W (hW : Gen M W R) => lookup_no M R (s.extract i s.size) W hW h160 _ (ext_drop s i) hh)
            have HGN := Lib.hid (fun n => show Gen M (wr.drewN n) R from HG)
            have hnext : At s.data.toList out (i + 1) last := by
              refine ⟨by omega, by rw [HL.out]; omega, by rw [HL.out]; omega, ?_⟩
              rw [List.drop_eq_getElem_cons hil, hk3] at hh
              rw [← HAT.out.eq, List.drop_eq_getElem_cons hil, hk3, esc_none k _ hh, List.take_succ_eq_append_getElem hil, hk3, List.drop_append_of_le_length (by rw [List.length_take]; omega)]
              simp
            have HN := Lib.hid hnext
            clear hh hnext HG h160
            go_wp2
            go_quiet (fail)
            rename_i nq
            go_wp2_with (go_at_call 174; refine (LK.out _ (HGN.out nq)).mono ?_; rintro e w5 ⟨rfl, nq2, rfl⟩)
            go_roundw
            case rel => exact ⟨i + 1, last, x, y, out, rfl, rfl, rfl, rfl, rfl, by go_num, HN.out, HAS.out, bdrewN HBE.out (nq + nq2)⟩
            case measure => simp [intOf]; omega
          | some p =>
            obtain ⟨v, n⟩ := p
            obtain ⟨hn1, hn2, hn3, hn4⟩ := hitL_pos _ _ _ hh
            rw [List.length_drop, HL.out] at hn2
            have hin : i + n ≤ s.size := by omega
            have LK := Lib.hid (fun W (hW : Gen M W R) => lookup_yes M R (s.extract i s.size) W hW h160 _ (ext_drop s i) v n hh)
            have HGN := Lib.hid (fun n => show Gen M (wr.drewN n) R from HG)
            have hnext : At s.data.toList (out ++ (s.extract last i).data.toList ++ v.data.toList) (i + n) (i + n) := by
              refine ⟨Nat.le_refl _, by rw [HL.out]; omega, by rw [HL.out]; omega, ?_⟩
              rw [← HAT.out.eq, esc_hit _ v n hh, List.drop_drop, ext_mid, List.drop_eq_nil_of_le (show ((s.data.toList.take (i + n))).length ≤ i + n by rw [List.length_take]; omega)]
              simp
            have hol : out.length ≤ 6 * s.size := by
              have h := congrArg List.length HAT.out.eq
              have h2 := esc_len _ s.data.toList (Nat.le_refl _)
              rw [List.length_append, List.length_append] at h
              rw [HL.out] at h2
              omega
            have hez : (s.extract last i).size = i - last := by simp; omega
            have hel : (s.extract last i).data.toList.length = i - last := by rw [← hez, Array.length_toList, ByteArray.size_data]
            have hbs := HBE.out.size
            have CW1 := Lib.hid (fun W (hW : Asw B W b out) (hBW : B ≤ W.heap.size) => asw_WriteString B b out (s.extract last i) W hW (by omega) hBW)
            have CW2 := Lib.hid (fun W (hW : Asw B W b (out ++ (s.extract last i).data.toList)) (hBW : B ≤ W.heap.size) => asw_WriteString B b (out ++ (s.extract last i).data.toList) v W hW (by rw [List.length_append, hel]; omega) hBW)
            have HN := Lib.hid hnext
            have j1 : (last : Int) ≤ (i : Int) := by omega
            have j2 : (i : Int) + (n : Int) ≤ (s.size : Int) := by omega
            have j3 : ¬ (n : Int) = 0 := by omega
            have j4 : ((n : Int) == 0) = false := by simp; omega
            have j5 : IntKind.i64.wrap ((i : Int) + (n : Int)) = (i : Int) + (n : Int) := IntWalk.i64_in _ (by omega)
            have HASN := Lib.hid (fun n => show Asw B (wr.drewN n) b out from HAS.out)
            have hbN := Lib.hid (fun n => show B ≤ (wr.drewN n).heap.size from Nat.le_trans hB hbs)
            clear hh hnext HG h160
            go_wp2
            go_quiet (fail)
            rename_i nq
            go_wp2_with (go_at_call 174; refine (LK.out _ (HGN.out nq)).mono ?_; rintro e w5 ⟨rfl, nq2, rfl⟩)
            go_region_held3 (fun _ => True) (trivial) (first | (go_at_call 184; refine (CW1.out _ (HASN.out _) (hbN.out _)).mono ?_; rintro e w6 ⟨rfl, ha6, hb6⟩))
            all_goals have HA6 := Lib.hid ha6
            all_goals have HB6 := Lib.hid hb6
            all_goals have hs6 := Lib.hid (Nat.le_trans (hbN.out _) hb6.size)
            all_goals clear ha6 hb6
            all_goals go_wp2_with (go_at_call 184; refine (CW2.out _ HA6.out hs6.out).mono ?_; rintro e w7 ⟨rfl, ha7, hb7⟩)
            all_goals go_roundw
            case rel => exact ⟨i + n, i + n, _, _, _, rfl, rfl, by go_num, rfl, rfl, by go_num, HN.out, ha7, (bdrewN HBE.out _).trans (HB6.out.trans hb7)⟩
            case measure => simp [intOf]; omega
        · obtain ⟨e1, e2, e3, e4⟩ : k ≠ 38 ∧ k ≠ 60 ∧ k ≠ 62 ∧ k ≠ 194 := ⟨fun h => hslow (.inl h), fun h => hslow (.inr (.inl h)), fun h => hslow (.inr (.inr (.inl h))), fun h => hslow (.inr (.inr (.inr h)))⟩
          have hnext : At s.data.toList out (i + 1) last := by
            have hil : i < s.data.toList.length := by rw [HL.out]; exact hlt
            refine ⟨by omega, by rw [HL.out]; omega, by rw [HL.out]; omega, ?_⟩
            rw [← HAT.out.eq, List.drop_eq_getElem_cons hil, hk3, esc_none k _ (fast_none k _ e1 e2 e3 e4), List.take_succ_eq_append_getElem hil, hk3, List.drop_append_of_le_length (by rw [List.length_take]; omega)]
            simp
          have HN := Lib.hid hnext
          have c6 : wr.cell? ⟨T, 3, none⟩ = some (.pointer none) := by rw [hT.cell]; rfl
          rcases fast_map k e1 e2 e3 e4 with hmp | hmp
          · rw [hmp] at c4
            clear hR hT n1 n2 n3 n4 n5 hnext hslow
            go_wp2
            go_quiet (fail)
            rename_i nq
            go_wp2_with fail
            go_roundw
            case rel => exact ⟨i + 1, last, x, y, out, rfl, rfl, rfl, rfl, rfl, by go_num, HN.out, HAS.out, bdrewN HBE.out nq⟩
            case measure => simp [intOf]; omega
          · rw [hmp] at c4
            clear hR hT n1 n2 n3 n4 n5 hnext hslow
            go_wp2
            go_quiet (fail)
            rename_i nq
            go_wp2_with fail
            go_roundw
            case rel => exact ⟨i + 1, last, x, y, out, rfl, rfl, rfl, rfl, rfl, by go_num, HN.out, HAS.out, bdrewN HBE.out nq⟩
            case measure => simp [intOf]; omega
end Go.Proofs.YtkfcbafjcjmfnaaGreatDoor.Gen
