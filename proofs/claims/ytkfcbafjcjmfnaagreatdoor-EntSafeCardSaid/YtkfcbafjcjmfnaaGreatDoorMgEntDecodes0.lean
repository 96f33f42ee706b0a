/- Parts of the proof of the law EntDecodes, in one text: Once, Row, Repl, ReplB, Gen, Shelf, ReplC, GenB, GenD, Bld, GenE, Low, Std, Chars, Glob05, Step, C0, C1, C2. -/
import Derived.Test.YtkfcbafjcjmfnaaGreatDoorProg
import Derived.Tactics
import Derived.Tactics2
import Derived.Defers
import Derived.Laws.Pointers
import Derived.Laws.LoneSync
import Derived.RegionTactic
import Derived.RegionCalls
import Derived.ChangeAlike
import Derived.WalkKit
import Derived.Lib.Hide
import Derived.Laws.IdiomStrings
import Derived.Lib.UnsafeStr
import Derived.Lib.Builder
import Derived.Below
import Derived.Deep.Draws
import Derived.Laws.Rows
import Derived.Lib.SliceRun
import Derived.OwnWalk
import Derived.Laws.AppendOwn
import Derived.Laws.MakeOwn
import Derived.Laws.OwnMore
import Derived.Laws.BytesArg
import Derived.Laws.CopyOwn
import Derived.Laws.NewBlocks
import Derived.Deep.QuietTactic
import Derived.BigQuiet
import Derived.Deep.LoopGhost
import Derived.Deep.DeepCutAuto
import Derived.Deep.DeepFit
import Derived.LoopTactic
import Derived.WalkSpells
import Derived.IntWalk
import Derived.StillTailTactics
import Derived.Deep.MidRow
import Derived.Deep.RegionHeld3
import Derived.Deep.RegionLaw
import Derived.Shelf.Strings.Builder1
import Derived.Shelf.Strings.Builder2
import Derived.Shelf.Strings.Trim
import Derived.Shelf.Small.Utf8
import Derived.Shelf.Small.Strs
import Derived.Shelf.Small.Wraps
import Derived.Shelf.Strings.BuilderF
import Derived.Shelf.Strings.BuilderK
import Derived.Shelf.Strings.BuilderRune
import Derived.Shelf.Utf8.AppendRune
import Derived.Shelf.Utf8.AppendRunePlain
import Derived.Shelf.Strings.Builder2Cap
import Derived.Shelf.Strconv.Itoa0
import Derived.Shelf.Strconv.Itoa1
import Derived.Shelf.LaysM
import Derived.Shelf.Strconv.Itoa2
import Derived.Shelf.Strconv.Itoa3
import Derived.Shelf.Strconv.Clone
import Derived.Shelf.Strconv.SyntaxError
import Derived.Shelf.LaysC
import Derived.Shelf.Strconv.ToError
import Derived.Shelf.Strconv.Lower
import Derived.Shelf.Strconv.ParseUint10
import Derived.Shelf.Strconv.ParseUint10Empty
import Derived.Shelf.Strconv.ParseUint10Any
import Derived.Shelf.Strconv.RangeError
import Derived.Shelf.Strconv.ToErrorRange
import Derived.Shelf.Strings.Search1
import Derived.Shelf.Strings.Search2
import Derived.Shelf.Strings.Search3
import Derived.Shelf.Strings.Cut
import Derived.Shelf.Strings.Count
import Derived.Shelf.Strings.Shaped
import Derived.Shelf.Strings.Prefix
import Derived.Shelf.Strings.Split
import Derived.Shelf.Strings.Replace
import Derived.Shelf.Strings.SplitShaped
import Derived.Shelf.Strings.Runes
import Derived.Shelf.Strings.AsciiSet
import Derived.Shelf.Unicode.DecodeSlow
import Derived.Shelf.Unicode.DecodeAny
import Derived.Shelf.Unicode.DecodeLast
import Derived.Shelf.Strings.BuilderCap
import Derived.KernelRfl
import Derived.Shelf.Strings.SlTrimAscii
import Derived.Lib.IndexLaws
import Derived.Lib.OthersKept
import Derived.Lib.LaidTab
import Derived.WalkSmall
import Derived.Laws.BitsAllLaws
import Derived.BigCall
import Derived.Test.YtkfcbafjcjmfnaaGreatDoorWWords
import Derived.Deep.AppendLies
import Derived.Maps.AppendAt
import Derived.Deep.OwnRows
import Derived.Lib.ConvBytes
import Derived.Laws.Slices
import Derived.RowKit3
import Derived.WideLaws
import Derived.Deep.CutBlock
import Derived.Lib.AppendStr
import Derived.ArgAppend
import Derived.Laws.IdiomCopy
import Derived.OrdersHeld
import Derived.Laws.BitsLemmas
import Derived.RowKit
import Derived.Test.YtkfcbafjcjmfnaaGreatDoorWLast
import Derived.Test.YtkfcbafjcjmfnaaGreatDoorWTab
import Derived.Test.YtkfcbafjcjmfnaaGreatDoorWQPut
import Derived.Test.YtkfcbafjcjmfnaaGreatDoorWApart
import Derived.Test.YtkfcbafjcjmfnaaGreatDoorWArr
import Derived.Test.YtkfcbafjcjmfnaaGreatDoorWZeros
import Derived.Test.YtkfcbafjcjmfnaaGreatDoorWFoot
import Derived.Test.YtkfcbafjcjmfnaaGreatDoorWKept
import Derived.Test.YtkfcbafjcjmfnaaGreatDoorWShare
import Derived.Test.YtkfcbafjcjmfnaaGreatDoorWN
import Derived.Test.YtkfcbafjcjmfnaaGreatDoorWFootNe
import Derived.Laws.StructEq
import Derived.Test.YtkfcbafjcjmfnaaGreatDoorWRepsOne
import Derived.Test.YtkfcbafjcjmfnaaGreatDoorWInv
import Derived.Test.YtkfcbafjcjmfnaaGreatDoorWInvWords
import Derived.Test.YtkfcbafjcjmfnaaGreatDoorWNEv
import Derived.Test.YtkfcbafjcjmfnaaGreatDoorWMore
set_option linter.unusedVariables false
set_option linter.unusedSimpArgs false
namespace Go.Proofs.YtkfcbafjcjmfnaaGreatDoor.Once
set_option linter.unusedVariables false
set_option linter.unusedSimpArgs false
theorem disable (w : World) : (callFunc 114 #[]).run Tryz.prog w = .ok (.value (.tuple #[])) w := run_call_mark0 Tryz.func114 (by kernel_rfl) (by kernel_rfl) (by kernel_rfl) .disable (by kernel_rfl) w
theorem enable (w : World) : (callFunc 116 #[]).run Tryz.prog w = .ok (.value (.tuple #[])) w := run_call_mark0 Tryz.func116 (by kernel_rfl) (by kernel_rfl) (by kernel_rfl) .enable (by kernel_rfl) w
theorem acquire (a : Addr) (w : World) : (callFunc 117 #[.pointer (some a)]).run Tryz.prog w = .ok (.value (.tuple #[])) w := run_call_marked Tryz.func117 (by kernel_rfl) (by kernel_rfl) (by kernel_rfl) .acquire (by kernel_rfl) a w
theorem releaseMerge (a : Addr) (w : World) : (callFunc 119 #[.pointer (some a)]).run Tryz.prog w = .ok (.value (.tuple #[])) w := run_call_marked Tryz.func119 (by kernel_rfl) (by kernel_rfl) (by kernel_rfl) .releaseMerge (by kernel_rfl) a w
theorem store_deferred (a : Addr) (x : Value) (u : FrameMode) (w : World) (hc : w.cell? a = some x) (hz : w.frozen? a = false) :
    CallsD Tryz.prog 74 #[.pointer (some a), .bool true] u w fun e u' w' => u' = u ∧ (e = .returned (.tuple #[]) ∧ w' = w.drew.setCell a (.int .u32 1)) := by
  have hc' : w.drew.cell? a = some x := by go_simp
  have hz' : w.drew.frozen? a = false := by go_simp
  have hst := run_call_store (P := Tryz.prog) Tryz.func96 (by kernel_rfl) (by kernel_rfl) (by kernel_rfl) (by kernel_rfl) (k := .u32) (y := 1) hc' hz'
  go_enter_d Tryz.func74, Tryz.ntmps74
  go_wp2
  go_region_calls
  all_goals (go_end0; exact ⟨rfl, rfl⟩)
set_option maxRecDepth 100000 in
set_option maxHeartbeats 1600000 in
theorem unlock_deferred (a : Addr) (u : FrameMode) (w : World) (hc : w.cell? a = some (.int .i32 1)) (hz : w.frozen? a = false) :
    CallsD Tryz.prog 73 #[.pointer (some a)] u w fun e u' w' => u' = u ∧ (e = .returned (.tuple #[]) ∧ w' = w.setCell a (.int .i32 0)) := by
  have hd := disable
  have he := enable
  have hr := releaseMerge
  have hadd := run_call_add (P := Tryz.prog) Tryz.func120 (by kernel_rfl) (by kernel_rfl) (by kernel_rfl) .i32 (by kernel_rfl) (y := -1) (s := 0) hc hz (by simp [go_sem]; rfl)
  have hcv := run_convert_to_unsafe (P := Tryz.prog) (src := 150) (dst := 76) Tryz.underlying150 Tryz.underlying76 (by kernel_rfl) hc
  go_enter_d Tryz.func73, Tryz.ntmps73
  go_wp2
  go_end0
  go_wp2
  go_end0
  exact ⟨rfl, rfl⟩
set_option maxRecDepth 100000 in
set_option maxHeartbeats 1600000 in
theorem lock_free (a : Addr) (w : World) (hc : w.cell? a = some (.int .i32 0)) (hz : w.frozen? a = false) :
    Calls Tryz.prog 72 #[.pointer (some a)] w fun e w' => e = .returned (.tuple #[]) ∧ w' = w.setCell a (.int .i32 1) := by
  have hd := disable
  have he := enable
  have ha := acquire
  have hcas := run_call_cas_hit (P := Tryz.prog) Tryz.func115 (by kernel_rfl) (by kernel_rfl) (by kernel_rfl) .i32 (by kernel_rfl) (y := 1) hc hz
  have hc' : (w.setCell a (.int .i32 1)).cell? a = some (.int .i32 1) := World.cell?_setCell_same w a _ hc
  have hcv := run_convert_to_unsafe (P := Tryz.prog) (src := 150) (dst := 76) Tryz.underlying150 Tryz.underlying76 (by kernel_rfl) hc'
  go_enter Tryz.func72, Tryz.ntmps72
  go_wp2
  first | go_end0 | (simp only [Exit.inBlock, Exit.then]; refine bodyPost_ret (results_none rfl _ _ _) rfl ?_) | refine bodyPost_ret (results_none rfl _ _ _) rfl ?_
  go_wp2
  go_end0
  exact ⟨rfl, rfl⟩
set_option maxRecDepth 100000 in
set_option maxHeartbeats 1600000 in
theorem slow_any (b : Nat) (cap : Array Value) (w : World) (Q : World → Prop)
    (h0 : w.cell? ⟨b, 0, none⟩ = some (.int .u32 0)) (h1 : w.cell? ⟨b, 1, none⟩ = some (.int .i32 0))
    (f1 : w.frozen? ⟨b, 1, none⟩ = false)
    (hg : Calls Tryz.prog 39 cap (w.setCell ⟨b, 1, none⟩ (.int .i32 1)) fun e w' => e = .returned (.tuple #[]) ∧ Q w')
    (hq : ∀ w', Q w' → (∃ x, w'.cell? ⟨b, 0, none⟩ = some x) ∧ w'.cell? ⟨b, 1, none⟩ = some (.int .i32 1) ∧ w'.frozen? ⟨b, 0, none⟩ = false ∧ w'.frozen? ⟨b, 1, none⟩ = false) :
    Calls Tryz.prog 50 #[.pointer (some ⟨b, 0, none⟩), .func (.func 39) cap #[]] w fun e w' => e = .returned (.tuple #[]) ∧
      ∃ w1, Q w1 ∧ w' = (w1.drew.setCell ⟨b, 0, none⟩ (.int .u32 1)).setCell ⟨b, 1, none⟩ (.int .i32 0) := by
  have hl := run_call_load (P := Tryz.prog) Tryz.func71 (by kernel_rfl) (by kernel_rfl) (by kernel_rfl) .u32 (by kernel_rfl) (w := w.setCell ⟨b, 1, none⟩ (.int .i32 1)) (a := ⟨b, 0, none⟩) (x := 0) ((World.cell?_setCell_other _ ⟨b, 1, none⟩ ⟨b, 0, none⟩ _ (by simp)).trans h0)
  have hnot : ∀ (x : Bool) (w : World), (Op.unary .not (.bool x)).run Tryz.prog w = .ok (.bool (!x)) w := fun _ _ => rfl
  go_enter_defers Tryz.func50, Tryz.ntmps50
  go_wp2_with (go_at_call 72; refine (lock_free ⟨b, 1, none⟩ _ (by go_simp) (by go_simp)).mono ?_; rintro e w' ⟨rfl, rfl⟩)
  go_wp2_with (first | (go_at_call 49; go_in) | (go_at_call 39; refine hg.mono ?_; rintro e w' ⟨rfl, hQ⟩))
  obtain ⟨⟨x, q0⟩, q1, q2, q3⟩ := hq _ hQ
  refine leaves_cons (f := 74) (args := #[.pointer (some ⟨b, 0, none⟩), .bool true]) (by simp) (by simp [go_sem]) ?_
  refine (store_deferred ⟨b, 0, none⟩ x .returning _ q0 q2).mono ?_
  rintro e u' w'' ⟨rfl, rfl, rfl⟩
  refine leaves_cons (f := 73) (args := #[.pointer (some ⟨b, 1, none⟩)]) (by simp [settle]) (by simp [go_sem]) ?_
  refine (unlock_deferred ⟨b, 1, none⟩ _ _ ?_ (by simp [q3])).mono ?_
  · refine (World.cell?_setCell_other _ ⟨b, 0, none⟩ ⟨b, 1, none⟩ _ (by simp)).trans ?_
    rw [World.cell?_drew]
    exact q1
  rintro e u' w'' ⟨rfl, rfl, rfl⟩
  simp [Leaves, settle, results, Tryz.results50]
  exact ⟨_, hQ, rfl⟩
set_option maxRecDepth 100000 in
set_option maxHeartbeats 1600000 in
theorem do_first (b : Nat) (cap : Array Value) (w : World) (Q : World → Prop)
    (h0 : w.cell? ⟨b, 0, none⟩ = some (.int .u32 0)) (h1 : w.cell? ⟨b, 1, none⟩ = some (.int .i32 0))
    (f1 : w.frozen? ⟨b, 1, none⟩ = false)
    (hg : Calls Tryz.prog 39 cap (w.setCell ⟨b, 1, none⟩ (.int .i32 1)) fun e w' => e = .returned (.tuple #[]) ∧ Q w')
    (hq : ∀ w', Q w' → (∃ x, w'.cell? ⟨b, 0, none⟩ = some x) ∧ w'.cell? ⟨b, 1, none⟩ = some (.int .i32 1) ∧ w'.frozen? ⟨b, 0, none⟩ = false ∧ w'.frozen? ⟨b, 1, none⟩ = false) :
    Calls Tryz.prog 38 #[.pointer (some ⟨b, 0, none⟩), .func (.func 39) cap #[]] w fun e w' => e = .returned (.tuple #[]) ∧
      ∃ w1, Q w1 ∧ w' = (w1.drew.setCell ⟨b, 0, none⟩ (.int .u32 1)).setCell ⟨b, 1, none⟩ (.int .i32 0) := by
  have hl := run_call_load (P := Tryz.prog) Tryz.func71 (by kernel_rfl) (by kernel_rfl) (by kernel_rfl) .u32 (by kernel_rfl) h0
  have hnot : ∀ (x : Bool) (w : World), (Op.unary .not (.bool x)).run Tryz.prog w = .ok (.bool (!x)) w := fun _ _ => rfl
  have HS := Lib.hid (slow_any b cap w Q h0 h1 f1 hg hq)
  clear hg hq
  go_enter Tryz.func38, Tryz.ntmps38
  go_wp2_with (first | (go_at_call 50; refine HS.out.mono ?_; rintro e w' ⟨rfl, hQ⟩) | (go_at_call 49; go_in))
  go_end0
  exact ⟨rfl, hQ⟩
end Go.Proofs.YtkfcbafjcjmfnaaGreatDoor.Once
namespace Go.Proofs.YtkfcbafjcjmfnaaGreatDoor.Row
open Go.RowKit
variable {P : Program}
def Row (e : Nat) (w : World) (B : Nat) (l : List UInt8) : Prop :=
  ∃ C : Array Value, w.heap[B]? = some (.cells C e (C.size, C.size + 1)) ∧ l.length ≤ C.size ∧ C.toList.take l.length = Lib.byteCells l
theorem Row.drew {e : Nat} {w : World} {B : Nat} {l : List UInt8} (h : Row e w B l) : Row e w.drew B l := h
theorem Row.drewN {e : Nat} {w : World} {B : Nat} {l : List UInt8} (h : Row e w B l) (n : Nat) : Row e (w.drewN n) B l := h
theorem Row.lt {e : Nat} {w : World} {B : Nat} {l : List UInt8} (h : Row e w B l) : B < w.heap.size := by
  obtain ⟨C, hC, _⟩ := h
  exact (Array.getElem?_eq_some_iff.1 hC).1
theorem Row.below {e : Nat} {w w1 : World} {B : Nat} {l : List UInt8} (h : Row e w B l) (hb : Below w.heap.size w w1) : Row e w1 B l := by
  have hlt := h.lt
  obtain ⟨C, hC, h2⟩ := h
  exact ⟨C, by rw [hb.block B hlt]; exact hC, h2⟩
theorem row_get {C : Array Value} {l : List UInt8} (h2 : C.toList.take l.length = Lib.byteCells l) (j : Nat) (hj : j < l.length) :
    C[j]? = some (.int .u8 (l[j].toNat : Int)) := by
  have h3 : (C.toList.take l.length)[j]? = (Lib.byteCells l)[j]? := by rw [h2]
  rw [List.getElem?_take_of_lt hj] at h3
  simp [Lib.byteCells, List.getElem?_eq_getElem hj] at h3
  simpa using h3
theorem Row.cell {e : Nat} {w : World} {B : Nat} {l : List UInt8} (h : Row e w B l) (j : Nat) (hj : j < l.length) :
    w.cell? ⟨B, j, none⟩ = some (.int .u8 (l[j].toNat : Int)) := by
  obtain ⟨C, hC, h1, h2⟩ := h
  rw [Lib.cell_of_heap hC]
  exact row_get h2 j hj
theorem Row.frozen {e : Nat} {w : World} {B : Nat} {l : List UInt8} (h : Row e w B l) (j : Nat) (hj : j < l.length) :
    w.frozen? ⟨B, j, none⟩ = false := by
  obtain ⟨C, hC, h1, h2⟩ := h
  simp [World.frozen?, hC]
  omega
theorem Row.set {e : Nat} {w : World} {B : Nat} {l : List UInt8} (h : Row e w B l) (j : Nat) (x : UInt8) (hj : j < l.length) :
    Row e (w.setCell ⟨B, j, none⟩ (.int .u8 (x.toNat : Int))) B (l.set j x) := by
  obtain ⟨C, hC, h1, h2⟩ := h
  refine ⟨C.setIfInBounds j (.int .u8 (x.toNat : Int)), ?_, by simpa using h1, ?_⟩
  · rw [setCell_eq_setRow w B j C e _ _ hC, setRow_heap w B C _ e _ hC, Array.size_setIfInBounds]
  · rw [Array.toList_setIfInBounds, List.length_set]
    have : Lib.byteCells (l.set j x) = (Lib.byteCells l).set j (.int .u8 (x.toNat : Int)) := by
      simp [Lib.byteCells, List.map_set]
    rw [this, ← h2, List.take_set]
theorem Row.made (e : Nat) (w : World) (s : ByteArray) (cap : Nat) :
    Row e (w.alloc (.cells (bytesRow s cap) e ((bytesRow s cap).size, (bytesRow s cap).size + 1))) w.heap.size s.data.toList := by
  refine ⟨bytesRow s cap, ?_, ?_, ?_⟩
  · show (w.heap.push _)[w.heap.size]? = _
    simp
  · simp [bytesRow]
  · simp [bytesRow, Lib.byteCells]
theorem run_conv (w : World) (src dst e : TypeId) (s : ByteArray) (hs : P.underlying src = some .string) (hd : P.underlying dst = some (.slice e)) (he : P.underlying e = some (.int .u8)) :
    ∃ cap o, (convert src dst (.string s)).run P w = .ok (.slice (some ⟨w.heap.size, 0, none⟩) s.size cap) (w.alloc o).drew ∧ Row e (w.alloc o) w.heap.size s.data.toList :=
  ⟨_, _, run_bytes_of_string w src dst e s hs hd he, Row.made e w s _⟩
theorem Row.back {e : Nat} {w : World} {B : Nat} {l : List UInt8} (h : Row e w B l) (src dst cap : Nat) (hs : P.underlying src = some (.slice e)) (he : P.underlying e = some (.int .u8)) (hd : P.underlying dst = some .string) :
    (convert src dst (.slice (some ⟨B, 0, none⟩) l.length cap)).run P w = .ok (.string ⟨l.toArray⟩) w :=
  run_convert_bytes_back w src dst e ⟨B, 0, none⟩ cap l hs he hd (fun j hj => by
    have h1 := h.cell j hj
    unfold Addr.add
    split
    · rename_i h0; subst h0; exact h1
    · simpa using h1)
end Go.Proofs.YtkfcbafjcjmfnaaGreatDoor.Row
namespace Go.Proofs.YtkfcbafjcjmfnaaGreatDoor.Repl
open Go.RowKit Go.Proofs.YtkfcbafjcjmfnaaGreatDoor.Row
set_option linter.unusedVariables false
set_option linter.unusedSimpArgs false
abbrev Pairs := List (UInt8 × ByteArray)
def look (ps : Pairs) (b : Nat) : Option ByteArray := (ps.find? fun p => p.1.toNat == b).map (·.2)
def oldnew (ps : Pairs) : List ByteArray := ps.flatMap fun p => [⟨#[p.1]⟩, p.2]
def RepCell (M : Nat) (w : World) (r : Option ByteArray) (v : Value) : Prop :=
  match r with
  | none => v = .slice none 0 0
  | some s => ∃ B c, M ≤ B ∧ v = .slice (some ⟨B, 0, none⟩) s.size c ∧ Row 5 w B s.data.toList
def Part (M : Nat) (w : World) (R : Nat) (qs : Pairs) : Prop :=
  ∃ (C : Array Value) (tv : Value), M ≤ R ∧ w.heap[R]? = some (.cells C 107 (0, 0)) ∧ C.size = 257 ∧ C[256]? = some tv ∧
    w.ownsRow M 9 1 tv qs.length (qs.reverse.map fun p => .string ⟨#[p.1]⟩) ∧ ∀ b, b < 256 → ∃ v, C[b]? = some v ∧ RepCell M w (look qs b) v
def Lies (w : World) (g : Nat) (ps : Pairs) : Prop := ∀ k, (h : k < ps.length) → w.cell? ⟨g, 2 * k, none⟩ = some (.string ⟨#[(ps[k]).1]⟩) ∧ w.cell? ⟨g, 2 * k + 1, none⟩ = some (.string (ps[k]).2)
theorem infoStr : (Tryz.prog.info? 9).map (fun i => (i.zero, i.size, i.bytes)) = some (some (.string ByteArray.empty), 1, 16) := by kernel_rfl
theorem below_grown {B : Nat} {w0 w w1 : World} {row : Option Nat} (hb : Below B w0 w) (hg : w.grownBy w1 row) (hr : ∀ j, row = some j → B ≤ j) (hB : B ≤ w.heap.size) : Below B w0 w1 :=
  ⟨hg.os.trans hb.os, hg.tape.trans hb.tape, hg.output.trans hb.output, Nat.le_trans hb.size hg.size, fun k hk => (hg.block k (Nat.lt_of_lt_of_le hk hB) (fun e => by have := hr k e.symm; omega)).trans (hb.block k hk)⟩
theorem Row.of_heap {e : Nat} {w w' : World} {B : Nat} {l : List UInt8} (h : Row e w B l) (hh : w'.heap[B]? = w.heap[B]?) : Row e w' B l := by
  obtain ⟨C, hC, h2⟩ := h
  exact ⟨C, by rw [hh]; exact hC, h2⟩
theorem own_apart {w : World} {M e n : Nat} {v : Value} {xs : List Value} {R : Nat} {C : Array Value} {t : TypeId} {fr : Nat × Nat} (h : w.ownsRow M e 1 v n xs) (hC : w.heap[R]? = some (.cells C t fr)) (hne : t ≠ e ∨ fr ≠ (0, 0)) : v.ownBlock ≠ some R := by
  intro hb
  rcases h.2 with ⟨rfl, _⟩ | ⟨g, cap, cur, rfl, _, hg, _⟩
  · simp [Value.ownBlock] at hb
  · simp only [Value.ownBlock, Option.some.injEq] at hb
    subst hb
    rw [hC] at hg
    injection hg with hg
    injection hg with _ h2 h3
    rcases hne with h | h
    · exact h h2
    · exact h h3
theorem own_of_heap {w w' : World} {M e n : Nat} {v : Value} {xs : List Value} (h : w.ownsRow M e 1 v n xs) (hh : ∀ k, v.ownBlock = some k → w'.heap[k]? = w.heap[k]?) : w'.ownsRow M e 1 v n xs := by
  refine ⟨h.1, ?_⟩
  rcases h.2 with hn | ⟨g, cap, cur, rfl, hb, hg, rest⟩
  · exact .inl hn
  · exact .inr ⟨g, cap, cur, rfl, hb, by rw [hh g rfl]; exact hg, rest⟩
theorem setCell_heap_at (w : World) (B j : Nat) (C : Array Value) (t : TypeId) (fr : Nat × Nat) (v : Value) (hC : w.heap[B]? = some (.cells C t fr)) : (w.setCell ⟨B, j, none⟩ v).heap[B]? = some (.cells (C.setIfInBounds j v) t fr) := by
  rw [setCell_eq_setRow w B j C t fr v hC]; exact setRow_heap _ _ _ _ _ _ hC
theorem setCell_heap_ne (w : World) (B j k : Nat) (v : Value) (h : k ≠ B) : (w.setCell ⟨B, j, none⟩ v).heap[k]? = w.heap[k]? := by
  simp only [World.setCell]
  rw [Array.getElem?_modify, if_neg (fun e => h e.symm)]
end Go.Proofs.YtkfcbafjcjmfnaaGreatDoor.Repl
namespace Go.Proofs.YtkfcbafjcjmfnaaGreatDoor.Repl
open Go.RowKit Go.Proofs.YtkfcbafjcjmfnaaGreatDoor.Row
set_option linter.unusedVariables false
set_option linter.unusedSimpArgs false
def hit (ps : Pairs) (l : List UInt8) : Bool := l.any fun c => (look ps c.toNat).isSome
end Go.Proofs.YtkfcbafjcjmfnaaGreatDoor.Repl
namespace Go.Proofs.YtkfcbafjcjmfnaaGreatDoor.Gen
open Go.RowKit Go.Proofs.YtkfcbafjcjmfnaaGreatDoor.Row Go.Proofs.YtkfcbafjcjmfnaaGreatDoor.Repl
set_option linter.unusedVariables false
set_option linter.unusedSimpArgs false
def mcells (m : Nat → Nat) : List Value := (List.range 256).map fun b => .int .u8 (m b : Int)
def rtCells (tb : Value) (ts : Int) (m : Nat → Nat) : List Value := [.string ⟨#[]⟩, .int .i64 0, .string ⟨#[]⟩, .pointer none, tb, .int .i64 ts] ++ mcells m
def Rt (w : World) (R : Nat) (tb : Value) (ts : Int) (m : Nat → Nat) : Prop := w.heap[R]? = some (.cells (rtCells tb ts m).toArray 133 (0, 0))
def upd (m : Nat → Nat) (b v : Nat) : Nat → Nat := fun c => if c = b then v else m c
def ndCells (val : ByteArray) (p : Int) (pre : ByteArray) (next : Value) : Array Value := #[.string val, .int .i64 p, .string pre, next, .slice none 0 0]
def Nd (w : World) (N : Nat) (val : ByteArray) (p : Int) (pre : ByteArray) (next : Value) : Prop := w.heap[N]? = some (.cells (ndCells val p pre next) 131 (0, 0))
def Tbl (w : World) (T : Nat) (qs : List Value) : Prop := w.heap[T]? = some (.cells qs.toArray 128 (0, 0)) ∧ qs.length = 5
theorem zc_root : Tryz.zeroCells133 = (rtCells (.slice none 0 0) 0 fun _ => 0).toArray := by kernel_rfl
theorem mcells_get (m : Nat → Nat) (b : Nat) (hb : b < 256) : (mcells m)[b]? = some (.int .u8 (m b : Int)) := by
  unfold mcells
  rw [List.getElem?_map, List.getElem?_range hb]; rfl
theorem mcells_len (m : Nat → Nat) : (mcells m).length = 256 := by simp [mcells]
theorem rt_m (tb : Value) (ts : Int) (m : Nat → Nat) (b : Nat) (hb : b < 256) : (rtCells tb ts m)[6 + b]? = some (.int .u8 (m b : Int)) := by
  unfold rtCells
  rw [List.getElem?_append_right (by simp)]
  simpa using mcells_get m b hb
theorem mcells_set (m : Nat → Nat) (b v : Nat) (hb : b < 256) : (mcells m).set b (.int .u8 (v : Int)) = mcells (upd m b v) := by
  apply List.ext_getElem?
  intro j
  by_cases h : j < 256
  · rw [mcells_get _ j h, List.getElem?_set]
    by_cases e : b = j
    · subst e
      rw [if_pos rfl, if_pos (by rw [mcells_len]; exact h)]
      simp [upd]
    · rw [if_neg e, mcells_get _ j h]
      simp [upd, show ¬ j = b from fun x => e x.symm]
  · rw [List.getElem?_eq_none (by rw [List.length_set, mcells_len]; omega), List.getElem?_eq_none (by rw [mcells_len]; omega)]
theorem rt_set (tb : Value) (ts : Int) (m : Nat → Nat) (b v : Nat) (hb : b < 256) : (rtCells tb ts m).set (6 + b) (.int .u8 (v : Int)) = rtCells tb ts (upd m b v) := by
  unfold rtCells
  rw [List.set_append_right _ _ (by simp), ← mcells_set m b v hb]
  simp
theorem Rt.cell {w : World} {R : Nat} {tb : Value} {ts : Int} {m : Nat → Nat} (h : Rt w R tb ts m) (j : Nat) : w.cell? ⟨R, j, none⟩ = (rtCells tb ts m)[j]? := by
  rw [cell_of_row _ _ _ _ _ _ h]; simp
theorem Rt.at {w : World} {R : Nat} {tb : Value} {ts : Int} {m : Nat → Nat} (h : Rt w R tb ts m) (b : Nat) (hb : b < 256) : w.cell? ⟨R, 6 + b, none⟩ = some (.int .u8 (m b : Int)) := by
  rw [h.cell]; exact rt_m _ _ _ _ hb
theorem Rt.ts {w : World} {R : Nat} {tb : Value} {ts : Int} {m : Nat → Nat} (h : Rt w R tb ts m) : w.cell? ⟨R, 5, none⟩ = some (.int .i64 ts) := by rw [h.cell]; rfl
theorem Rt.tb {w : World} {R : Nat} {tb : Value} {ts : Int} {m : Nat → Nat} (h : Rt w R tb ts m) : w.cell? ⟨R, 4, none⟩ = some tb := by rw [h.cell]; rfl
theorem Rt.pre {w : World} {R : Nat} {tb : Value} {ts : Int} {m : Nat → Nat} (h : Rt w R tb ts m) : w.cell? ⟨R, 2, none⟩ = some (.string ⟨#[]⟩) := by rw [h.cell]; rfl
theorem Rt.prio {w : World} {R : Nat} {tb : Value} {ts : Int} {m : Nat → Nat} (h : Rt w R tb ts m) : w.cell? ⟨R, 1, none⟩ = some (.int .i64 0) := by rw [h.cell]; rfl
theorem Rt.free {w : World} {R : Nat} {tb : Value} {ts : Int} {m : Nat → Nat} (h : Rt w R tb ts m) (j : Nat) : w.frozen? ⟨R, j, none⟩ = false := by
  have h' : w.heap[R]? = _ := h
  simp [World.frozen?, h']
theorem Rt.setM {w : World} {R : Nat} {tb : Value} {ts : Int} {m : Nat → Nat} (h : Rt w R tb ts m) (b v : Nat) (hb : b < 256) : Rt (w.setCell ⟨R, 6 + b, none⟩ (.int .u8 (v : Int))) R tb ts (upd m b v) := by
  unfold Rt
  rw [setCell_heap_at _ _ _ _ _ _ _ h, List.setIfInBounds_toArray, rt_set _ _ _ _ _ hb]
theorem Rt.setTs {w : World} {R : Nat} {tb : Value} {ts : Int} {m : Nat → Nat} (h : Rt w R tb ts m) (t : Int) : Rt (w.setCell ⟨R, 5, none⟩ (.int .i64 t)) R tb t m := by
  unfold Rt
  rw [setCell_heap_at _ _ _ _ _ _ _ h, List.setIfInBounds_toArray]
  rfl
theorem Rt.setTb {w : World} {R : Nat} {tb : Value} {ts : Int} {m : Nat → Nat} (h : Rt w R tb ts m) (t : Value) : Rt (w.setCell ⟨R, 4, none⟩ t) R t ts m := by
  unfold Rt
  rw [setCell_heap_at _ _ _ _ _ _ _ h, List.setIfInBounds_toArray]
  rfl
theorem Rt.of {w w' : World} {R : Nat} {tb : Value} {ts : Int} {m : Nat → Nat} (h : Rt w R tb ts m) (hh : w'.heap[R]? = w.heap[R]?) : Rt w' R tb ts m := hh.trans h
theorem Rt.lt {w : World} {R : Nat} {tb : Value} {ts : Int} {m : Nat → Nat} (h : Rt w R tb ts m) : R < w.heap.size := (Array.getElem?_eq_some_iff.1 (show w.heap[R]? = _ from h)).1
theorem Nd.lt {w : World} {N : Nat} {val : ByteArray} {p : Int} {pre : ByteArray} {next : Value} (h : Nd w N val p pre next) : N < w.heap.size := (Array.getElem?_eq_some_iff.1 (show w.heap[N]? = _ from h)).1
theorem Nd.cell {w : World} {N : Nat} {val : ByteArray} {p : Int} {pre : ByteArray} {next : Value} (h : Nd w N val p pre next) (j : Nat) : w.cell? ⟨N, j, none⟩ = (ndCells val p pre next)[j]? := cell_of_row _ _ _ _ _ _ h
theorem Nd.free {w : World} {N : Nat} {val : ByteArray} {p : Int} {pre : ByteArray} {next : Value} (h : Nd w N val p pre next) (j : Nat) : w.frozen? ⟨N, j, none⟩ = false := by
  have h' : w.heap[N]? = _ := h
  simp [World.frozen?, h']
theorem Nd.of {w w' : World} {N : Nat} {val : ByteArray} {p : Int} {pre : ByteArray} {next : Value} (h : Nd w N val p pre next) (hh : w'.heap[N]? = w.heap[N]?) : Nd w' N val p pre next := hh.trans h
theorem Nd.new (w : World) (n : Nat) (h : w.heap.size = n) : Nd (w.alloc (.cells (ndCells ⟨#[]⟩ 0 ⟨#[]⟩ (.pointer none)) 131)) n ⟨#[]⟩ 0 ⟨#[]⟩ (.pointer none) := by
  subst h; exact heap_alloc_new _ _
theorem Tbl.lt {w : World} {T : Nat} {qs : List Value} (h : Tbl w T qs) : T < w.heap.size := (Array.getElem?_eq_some_iff.1 h.1).1
theorem Tbl.cell {w : World} {T : Nat} {qs : List Value} (h : Tbl w T qs) (j : Nat) : w.cell? ⟨T, j, none⟩ = qs[j]? := by
  rw [cell_of_row _ _ _ _ _ _ h.1]; simp
theorem Tbl.free {w : World} {T : Nat} {qs : List Value} (h : Tbl w T qs) (j : Nat) : w.frozen? ⟨T, j, none⟩ = false := by
  simp [World.frozen?, h.1]
theorem Tbl.of {w w' : World} {T : Nat} {qs : List Value} (h : Tbl w T qs) (hh : w'.heap[T]? = w.heap[T]?) : Tbl w' T qs := ⟨hh.trans h.1, h.2⟩
theorem Tbl.set {w : World} {T : Nat} {qs : List Value} (h : Tbl w T qs) (j : Nat) (v : Value) : Tbl (w.setCell ⟨T, j, none⟩ v) T (qs.set j v) := by
  refine ⟨?_, by simpa using h.2⟩
  rw [setCell_heap_at _ _ _ _ _ _ _ h.1, List.setIfInBounds_toArray]
theorem not_empty (k : ByteArray) (h : k.size ≠ 0) : k.toList.isEmpty = false := by
  rw [ByteArray.toList_eq]
  cases hk : k.data.toList with
  | nil => exact absurd (by rw [← ByteArray.size_data, ← Array.length_toList, hk]; rfl) h
  | cons => rfl
structure But (N : Nat) (w w' : World) : Prop where
  os : w'.os = w.os
  tape : w'.tape = w.tape
  output : w'.output = w.output
  size : w.heap.size ≤ w'.heap.size
  block : ∀ k, k ≠ N → k < w.heap.size → w'.heap[k]? = w.heap[k]?
theorem But.cell {N : Nat} {w w' : World} (h : But N w w') {B : Nat} (hB : B ≠ N) (hlt : B < w.heap.size) (j : Nat) : w'.cell? ⟨B, j, none⟩ = w.cell? ⟨B, j, none⟩ := by
  simp only [World.cell?, h.block B hB hlt]
set_option maxRecDepth 100000 in
set_option maxHeartbeats 4000000 in
theorem add_end (N R : Nat) (val pre : ByteArray) (p : Int) (next : Value) (w : World) (hN : Nd w N ⟨#[]⟩ 0 pre next) :
    Calls Tryz.prog 99 #[.pointer (some ⟨N, 0, none⟩), .string ⟨#[]⟩, .string val, .int .i64 p, .pointer (some ⟨R, 0, none⟩)] w fun e w' => e = .returned (.tuple #[]) ∧ Nd w' N val p pre next ∧ But N w w' := by
  have c0 : w.cell? ⟨N, 0, none⟩ = some (.string ⟨#[]⟩) := by rw [hN.cell]; rfl
  have c1 : w.cell? ⟨N, 1, none⟩ = some (.int .i64 0) := by rw [hN.cell]; rfl
  have f0 := hN.free 0
  have f1 := hN.free 1
  have HN := Lib.hid hN
  clear hN
  go_enter Tryz.func99, Tryz.ntmps99
  go_wp2
  refine bodyPost_ret (results_none rfl _ _ _) rfl ?_
  refine ⟨rfl, ?_, ⟨rfl, rfl, rfl, by simp, fun k hk _ => by rw [setCell_heap_ne _ _ _ _ _ hk, setCell_heap_ne _ _ _ _ _ hk]⟩⟩
  unfold Nd
  rw [setCell_heap_at _ _ _ _ _ _ _ (setCell_heap_at _ _ _ _ _ _ _ HN.out)]
  rfl
set_option maxRecDepth 100000 in
set_option maxHeartbeats 4000000 in
theorem add_new (N R : Nat) (key val : ByteArray) (p : Int) (w : World) (hk : key.size = 1) (hN : Nd w N ⟨#[]⟩ 0 ⟨#[]⟩ (.pointer none)) :
    Calls Tryz.prog 99 #[.pointer (some ⟨N, 0, none⟩), .string key, .string val, .int .i64 p, .pointer (some ⟨R, 0, none⟩)] w fun e w' => e = .returned (.tuple #[]) ∧
      (∃ E, w.heap.size ≤ E ∧ Nd w' N ⟨#[]⟩ 0 key (.pointer (some ⟨E, 0, none⟩)) ∧ Nd w' E val p ⟨#[]⟩ (.pointer none)) ∧ But N w w' := by
  have c0 : w.cell? ⟨N, 2, none⟩ = some (.string ⟨#[]⟩) := by rw [hN.cell]; rfl
  have c1 : w.cell? ⟨N, 3, none⟩ = some (.pointer none) := by rw [hN.cell]; rfl
  have c2 : w.cell? ⟨N, 4, none⟩ = some (.slice none 0 0) := by rw [hN.cell]; rfl
  have f0 := hN.free 2
  have f1 := hN.free 3
  have hlt := hN.lt
  have hne : key.toList.isEmpty = false := not_empty key (by omega)
  have qT : ∀ (w : World) (a : Option Addr) (n c n' c' : Nat), (binOp .neq 129 (.slice a n c) (.slice none n' c')).run Tryz.prog w = .ok (.bool (!a.isNone)) w := fun w a n c n' c' => run_neq_slice_nil_any w _ _ a n c n' c' Tryz.underlying129
  have AE := Lib.hid (fun (N : Nat) (W : World) (h : Nd W N ⟨#[]⟩ 0 ⟨#[]⟩ (.pointer none)) => add_end N R val ⟨#[]⟩ p (.pointer none) W h)
  have HN := Lib.hid hN
  clear hN
  go_enter Tryz.func99, Tryz.ntmps99
  go_wp2_with (go_at_call 99; refine (AE.out _ _ (Nd.new _ _ (by simp))).mono ?_; rintro e W ⟨rfl, h1, h2⟩)
  go_end0
  have hz : w.heap.size + 1 ≤ W.heap.size := by have := h2.size; simpa using this
  have hb : ∀ k, k ≠ N → k < w.heap.size → W.heap[k]? = w.heap[k]? := fun k hk hlt2 => by
    rw [h2.block k (by omega) (by simp; omega), heap_alloc_old, setCell_heap_ne _ _ _ _ _ hk, setCell_heap_ne _ _ _ _ _ hk]
    simpa using hlt2
  refine ⟨rfl, ⟨w.heap.size, Nat.le_refl _, ?_, h1⟩, ⟨h2.os, h2.tape, h2.output, by omega, hb⟩⟩
  unfold Nd
  rw [h2.block N (by omega) (by simp; omega), heap_alloc_old, setCell_heap_at _ _ _ _ _ _ _ (setCell_heap_at _ _ _ _ _ _ _ HN.out)]
  · rfl
  · simpa using hlt
set_option maxRecDepth 100000 in
set_option maxHeartbeats 4000000 in
theorem add_root (R T i : Nat) (key val : ByteArray) (p : Int) (m : Nat → Nat) (qs : List Value) (w : World) (hk : 1 ≤ key.size) (hR : Rt w R (.slice (some ⟨T, 0, none⟩) 5 5) 5 m) (hT : Tbl w T qs)
    (hm : m (key[0]'(by omega)).toNat = i) (hi : i < 5) (hq : qs[i]? = some (.pointer none)) (K : Nat → World → World → Prop)
    (hK : ∀ (N : Nat) (W : World), Nd W N ⟨#[]⟩ 0 ⟨#[]⟩ (.pointer none) → Calls Tryz.prog 99 #[.pointer (some ⟨N, 0, none⟩), .string (key.extract 1 key.size), .string val, .int .i64 p, .pointer (some ⟨R, 0, none⟩)] W fun e W' => e = .returned (.tuple #[]) ∧ K N W W' ∧ But N W W') :
    Calls Tryz.prog 99 #[.pointer (some ⟨R, 0, none⟩), .string key, .string val, .int .i64 p, .pointer (some ⟨R, 0, none⟩)] w fun e w' => e = .returned (.tuple #[]) ∧
      (∃ W, w.heap.size ≤ W.heap.size ∧ K w.heap.size W w') ∧ Tbl w' T (qs.set i (.pointer (some ⟨w.heap.size, 0, none⟩))) ∧ But T w w' := by
  have c0 := hR.pre
  have c1 := hR.tb
  have h256 := UInt8.toNat_lt (key[0]'(by omega))
  have c2 := hR.at (key[0]'(by omega)).toNat h256
  rw [hm] at c2
  have c3 : w.cell? ⟨T, i, none⟩ = some (.pointer none) := by rw [hT.cell]; exact hq
  have f3 := hT.free i
  have hne : key.toList.isEmpty = false := not_empty key (by omega)
  have qT : ∀ (w : World) (a : Option Addr) (n c n' c' : Nat), (binOp .neq 129 (.slice a n c) (.slice none n' c')).run Tryz.prog w = .ok (.bool (!a.isNone)) w := fun w a n c n' c' => run_neq_slice_nil_any w _ _ a n c n' c' Tryz.underlying129
  have HKK := Lib.hid hK
  have HR := Lib.hid hR; have HT := Lib.hid hT
  have hi2 : (i : Int) < 5 := by omega
  have hk1 : (0 : Int) < (key.size : Int) := by omega
  have hk2 : 0 < key.size := by omega
  have hk3 : (1 : Int) ≤ (key.size : Int) := by omega
  have hTlt := hT.lt
  have hRlt := hR.lt
  have hRT : R ≠ T := by
    rintro rfl
    have h1 : w.heap[R]? = _ := hR
    have h2 := h1.symm.trans hT.1
    injection h2 with h2
    injection h2 with _ h2
    exact absurd h2 (by decide)
  have q1 : ∀ n o, ((w.drewN n).alloc o).frozen? ⟨T, i, none⟩ = false := fun n o => by exact (World.frozen?_alloc_past (w := w.drewN n) o T i hTlt).trans f3
  have q2 : ∀ n o, ((w.drewN n).alloc o).cell? ⟨T, i, none⟩ = some (.pointer none) := fun n o => by exact (World.cell?_alloc_past (w := w.drewN n) o T i hTlt).trans c3
  have q3 : ∀ n o v, (((w.drewN n).alloc o).setCell ⟨T, i, none⟩ v).cell? ⟨R, 4, none⟩ = some (.slice (some ⟨T, 0, none⟩) 5 5) := fun n o v => by
    rw [World.cell?_setCell_other _ _ _ _ (fun e => hRT (congrArg Addr.block e).symm)]; exact (World.cell?_alloc_past (w := w.drewN n) o R 4 hRlt).trans c1
  have q4 : ∀ n o v, (((w.drewN n).alloc o).setCell ⟨T, i, none⟩ v).cell? ⟨T, i, none⟩ = some v := fun n o v => World.cell?_setCell_same _ _ _ (q2 n o)
  clear hR hT hK
  go_enter Tryz.func99, Tryz.ntmps99
  go_wp2
  go_quiet (fail)
  rename_i nq
  go_wp2_with fail
  obtain ⟨W, hW⟩ : ∃ W, ((w.drewN nq).alloc (.cells #[.string ⟨#[]⟩, .int .i64 0, .string ⟨#[]⟩, .pointer none, .slice none 0 0] 131)).setCell ⟨T, i, none⟩ (.pointer (some ⟨w.heap.size, 0, none⟩)) = W := ⟨_, rfl⟩
  rw [hW]
  have k1 : W.cell? ⟨R, 4, none⟩ = some (.slice (some ⟨T, 0, none⟩) 5 5) := by rw [← hW]; exact q3 _ _ _
  have k2 : W.cell? ⟨T, i, none⟩ = some (.pointer (some ⟨w.heap.size, 0, none⟩)) := by rw [← hW]; exact q4 _ _ _
  have hTn : w.heap.size ≠ T := by omega
  have hWz : W.heap.size = w.heap.size + 1 := by rw [← hW]; simp
  have ND := Lib.hid (show Nd W w.heap.size ⟨#[]⟩ 0 ⟨#[]⟩ (.pointer none) from by
    rw [← hW]
    exact (Nd.new (w.drewN nq) w.heap.size rfl).of (setCell_heap_ne _ _ _ _ _ hTn))
  have TB := Lib.hid (show Tbl W T (qs.set i (.pointer (some ⟨w.heap.size, 0, none⟩))) from by
    rw [← hW]
    refine (HT.out.of ?_).set _ _
    rw [heap_alloc_old]
    · rfl
    · exact hTlt)
  have BT := Lib.hid (show ∀ k, k ≠ T → k < w.heap.size → W.heap[k]? = w.heap[k]? from fun k hk hlt => by
    rw [← hW, setCell_heap_ne _ _ _ _ _ hk]
    rw [heap_alloc_old]
    · rfl
    · exact hlt)
  have BO := Lib.hid (show W.os = w.os ∧ W.tape = w.tape ∧ W.output = w.output from by rw [← hW]; exact ⟨rfl, rfl, rfl⟩)
  clear q1 q2 q3 q4 hW
  have CK := Lib.hid (HKK.out w.heap.size W.drew ND.out)
  go_region_held3 (fun w' => w'.cell? ⟨R, 4, none⟩ = some (.slice (some ⟨T, 0, none⟩) 5 5) ∧ w'.cell? ⟨T, i, none⟩ = some (.pointer (some ⟨w.heap.size, 0, none⟩))) (go_keep) (first
    | (go_at_call 99; refine CK.out.mono ?_; rintro e w5 ⟨rfl, hk5, hb5⟩; have r1 := (hb5.cell (by omega) (show R < W.heap.size by omega) 4).trans k1; have r2 := (hb5.cell (by omega) (show T < W.heap.size by omega) i).trans k2))
  all_goals go_wp2_with fail
  go_end0
  obtain ⟨o1, o2, o3⟩ := BO.out
  have hs := hb5.size
  have hWd : W.drew.heap.size = w.heap.size + 1 := hWz
  refine ⟨rfl, ⟨_, (by omega : w.heap.size ≤ W.drew.heap.size), hk5⟩, TB.out.of (hb5.block T (by omega) (by omega)), ⟨hb5.os.trans o1, hb5.tape.trans o2, hb5.output.trans o3, by omega, fun k hk hlt => (hb5.block k (by omega) (by omega)).trans (BT.out k hk hlt)⟩⟩
end Go.Proofs.YtkfcbafjcjmfnaaGreatDoor.Gen
namespace Go.Proofs
open Go.Shelf
def Tryz.lays169_ren : Go.Shelf.Ren := ⟨fun | 169 => 21 | n => n, fun | 70 => 28 | 9 => 9 | 0 => 0 | 72 => 31 | 37 => 29 | 127 => 49 | 3 => 3 | 5 => 5 | n => n, fun | n => n⟩
theorem Tryz.lays169 : Go.Proofs.Lays.n169 Tryz.prog Tryz.lays169_ren := {
  mixed := by kernel_rfl
  f169 := Tryz.func21.trans (congrArg some (by kernel_rfl))
  t0 := Tryz.underlying0
  a0 := Tryz.isAgg0
  z0 := Tryz.sizeOf0
  v0 := Tryz.zeroValue0
  t3 := Tryz.underlying3
  a3 := Tryz.isAgg3
  z3 := Tryz.sizeOf3
  v3 := Tryz.zeroValue3
  t9 := Tryz.underlying9
  a9 := Tryz.isAgg9
  z9 := Tryz.sizeOf9
  v9 := Tryz.zeroValue9
  t37 := Tryz.underlying29
  a37 := Tryz.isAgg29
  z37 := Tryz.sizeOf29
  v37 := Tryz.zeroValue29
  t70 := Tryz.underlying28
  a70 := Tryz.isAgg28
  z70 := Tryz.sizeOf28
  v70 := Tryz.zeroValue28
  t72 := Tryz.underlying31
  a72 := Tryz.isAgg31
  z72 := Tryz.sizeOf31
  v72 := Tryz.zeroValue31
  t127 := Tryz.underlying49
  a127 := Tryz.isAgg49
  z127 := Tryz.sizeOf49
  v127 := Tryz.zeroValue49 }
theorem Tryz.Builder_Extra_169 : Builder.Extra Tryz.prog Tryz.lays169_ren := {
  sizeBuilder := by kernel_rfl
  liesBuilder := by kernel_rfl
  t5 := Tryz.underlying5
  a5 := Tryz.isAgg5
  z5 := Tryz.sizeOf5
  v5 := Tryz.zeroValue5
  infoByte := by kernel_rfl
  cellsByte := by kernel_rfl
  sizeByte := by kernel_rfl
  neB5 := by decide }
def Tryz.lays160_ren : Go.Shelf.Ren := ⟨fun | 160 => 92 | 232 => 107 | 231 => 106 | 227 => 108 | 234 => 110 | 233 => 109 | 236 => 112 | 235 => 111 | 228 => 125 | 271 => 127 | 151 => 126 | 197 => 55 | 120 => 138 | 152 => 137 | 260 => 80 | 137 => 143 | 119 => 144 | 224 => 62 | 225 => 61 | 217 => 60 | 266 => 83 | n => n, fun | 9 => 9 | 4 => 4 | 3 => 3 | 5 => 5 | 117 => 145 | 116 => 144 | 0 => 0 | 124 => 148 | 21 => 21 | 105 => 84 | 46 => 91 | 119 => 102 | 139 => 138 | 138 => 137 | n => n, fun | 3 => 3 | 4 => 4 | n => n⟩
theorem Tryz.lays160 : Go.Proofs.Lays.n160 Tryz.prog Tryz.lays160_ren := {
  mixed := by kernel_rfl
  f119 := Tryz.func144.trans (congrArg some (by kernel_rfl))
  f120 := Tryz.func138.trans (congrArg some (by kernel_rfl))
  f137 := Tryz.func143.trans (congrArg some (by kernel_rfl))
  f151 := Tryz.func126.trans (congrArg some (by kernel_rfl))
  f152 := Tryz.func137.trans (congrArg some (by kernel_rfl))
  f160 := Tryz.func92.trans (congrArg some (by kernel_rfl))
  f197 := Tryz.func55.trans (congrArg some (by kernel_rfl))
  f217 := Tryz.func60.trans (congrArg some (by kernel_rfl))
  f224 := Tryz.func62.trans (congrArg some (by kernel_rfl))
  f225 := Tryz.func61.trans (congrArg some (by kernel_rfl))
  f227 := Tryz.func108.trans (congrArg some (by kernel_rfl))
  f228 := Tryz.func125.trans (congrArg some (by kernel_rfl))
  f231 := Tryz.func106.trans (congrArg some (by kernel_rfl))
  f232 := Tryz.func107.trans (congrArg some (by kernel_rfl))
  f233 := Tryz.func109.trans (congrArg some (by kernel_rfl))
  f234 := Tryz.func110.trans (congrArg some (by kernel_rfl))
  f235 := Tryz.func111.trans (congrArg some (by kernel_rfl))
  f236 := Tryz.func112.trans (congrArg some (by kernel_rfl))
  f260 := Tryz.func80.trans (congrArg some (by kernel_rfl))
  f266 := Tryz.func83.trans (congrArg some (by kernel_rfl))
  f271 := Tryz.func127.trans (congrArg some (by kernel_rfl))
  t0 := Tryz.underlying0
  a0 := Tryz.isAgg0
  z0 := Tryz.sizeOf0
  v0 := Tryz.zeroValue0
  t3 := Tryz.underlying3
  a3 := Tryz.isAgg3
  z3 := Tryz.sizeOf3
  v3 := Tryz.zeroValue3
  t4 := Tryz.underlying4
  a4 := Tryz.isAgg4
  z4 := Tryz.sizeOf4
  v4 := Tryz.zeroValue4
  t5 := Tryz.underlying5
  a5 := Tryz.isAgg5
  z5 := Tryz.sizeOf5
  v5 := Tryz.zeroValue5
  t9 := Tryz.underlying9
  a9 := Tryz.isAgg9
  z9 := Tryz.sizeOf9
  v9 := Tryz.zeroValue9
  t21 := Tryz.underlying21
  a21 := Tryz.isAgg21
  z21 := Tryz.sizeOf21
  v21 := Tryz.zeroValue21
  t46 := Tryz.underlying91
  a46 := Tryz.isAgg91
  z46 := Tryz.sizeOf91
  v46 := Tryz.zeroValue91
  t105 := Tryz.underlying84
  a105 := Tryz.isAgg84
  z105 := Tryz.sizeOf84
  v105 := Tryz.zeroValue84
  t116 := Tryz.underlying144
  a116 := Tryz.isAgg144
  z116 := Tryz.sizeOf144
  t117 := Tryz.underlying145
  a117 := Tryz.isAgg145
  z117 := Tryz.sizeOf145
  v117 := Tryz.zeroValue145
  t119 := Tryz.underlying102
  a119 := Tryz.isAgg102
  z119 := Tryz.sizeOf102
  t124 := Tryz.underlying148
  a124 := Tryz.isAgg148
  z124 := Tryz.sizeOf148
  v124 := Tryz.zeroValue148
  t138 := Tryz.underlying137
  a138 := Tryz.isAgg137
  z138 := Tryz.sizeOf137
  v138 := Tryz.zeroValue137
  t139 := Tryz.underlying138
  a139 := Tryz.isAgg138
  z139 := Tryz.sizeOf138
  v139 := Tryz.zeroValue138
  g3 := by kernel_rfl
  g4 := by kernel_rfl }
def Tryz.lays103_ren : Go.Shelf.Ren := ⟨fun | 103 => 35 | 210 => 46 | 206 => 64 | n => n, fun | 9 => 9 | 4 => 4 | 24 => 39 | 3 => 3 | n => n, fun | n => n⟩
theorem Tryz.lays103 : Go.Proofs.Lays.n103 Tryz.prog Tryz.lays103_ren := {
  mixed := by kernel_rfl
  f103 := Tryz.func35.trans (congrArg some (by kernel_rfl))
  f206 := Tryz.func64.trans (congrArg some (by kernel_rfl))
  f210 := Tryz.func46.trans (congrArg some (by kernel_rfl))
  t3 := Tryz.underlying3
  a3 := Tryz.isAgg3
  z3 := Tryz.sizeOf3
  v3 := Tryz.zeroValue3
  t4 := Tryz.underlying4
  a4 := Tryz.isAgg4
  z4 := Tryz.sizeOf4
  v4 := Tryz.zeroValue4
  t9 := Tryz.underlying9
  a9 := Tryz.isAgg9
  z9 := Tryz.sizeOf9
  v9 := Tryz.zeroValue9
  t24 := Tryz.underlying39
  a24 := Tryz.isAgg39
  z24 := Tryz.sizeOf39
  v24 := Tryz.zeroValue39 }
open Go.RowKit in
theorem Tryz.strings_CutPrefix (s p : ByteArray) (w : World) :
    Calls Tryz.prog 35 #[.string s, .string p] w fun e w' => e = .returned (.tuple #[.string ⟨(Lib.trimPrefix s.data.toList p.data.toList).toArray⟩, .bool (Lib.hasPrefix s.data.toList p.data.toList)]) ∧ w' = w := Any.strings_CutPrefix Tryz.lays103 s p w
open Go.RowKit in
theorem Tryz.Builder_String_any_k (B b : Nat) (l : List UInt8) (w : World) (h : Lib.IsBuilderF 31 5 B b (Lib.byteCells l) w) (hBw : B ≤ w.heap.size) :
    Calls Tryz.prog 21 #[.pointer (some ⟨b, 0, none⟩)] w fun e w' => e = .returned (.string ⟨l.toArray⟩) ∧ (Lib.IsBuilderF 31 5 B b (Lib.byteCells l) w' ∧ Below B w w' ∧ Lib.OthersKept 5 (some b) w w') := Any.Builder_String_any_k Tryz.lays169 Tryz.Builder_Extra_169 B b l w h hBw
def Tryz.lays242_ren : Go.Shelf.Ren := ⟨fun | 242 => 113 | 278 => 128 | n => n, fun | 37 => 29 | 21 => 21 | 51 => 59 | 4 => 4 | 5 => 5 | 46 => 91 | n => n, fun | n => n⟩
theorem Tryz.lays242 : Go.Proofs.Lays.n242 Tryz.prog Tryz.lays242_ren := {
  mixed := by kernel_rfl
  f242 := Tryz.func113.trans (congrArg some (by kernel_rfl))
  f278 := Tryz.func128.trans (congrArg some (by kernel_rfl))
  t4 := Tryz.underlying4
  a4 := Tryz.isAgg4
  z4 := Tryz.sizeOf4
  v4 := Tryz.zeroValue4
  t5 := Tryz.underlying5
  a5 := Tryz.isAgg5
  z5 := Tryz.sizeOf5
  v5 := Tryz.zeroValue5
  t21 := Tryz.underlying21
  a21 := Tryz.isAgg21
  z21 := Tryz.sizeOf21
  v21 := Tryz.zeroValue21
  t37 := Tryz.underlying29
  a37 := Tryz.isAgg29
  z37 := Tryz.sizeOf29
  v37 := Tryz.zeroValue29
  t46 := Tryz.underlying91
  a46 := Tryz.isAgg91
  z46 := Tryz.sizeOf91
  v46 := Tryz.zeroValue91
  t51 := Tryz.underlying59
  a51 := Tryz.isAgg59
  z51 := Tryz.sizeOf59
  v51 := Tryz.zeroValue59 }
open Go.RowKit in
theorem Tryz.utf8_AppendRune_row (B : Nat) (v : Value) (n : Nat) (xs : List Value) (r : Int) (hr0 : -2147483648 ≤ r) (hr1 : r ≤ 2147483647) (w : World) (hown : w.ownsRowF B 5 1 v n xs) (hlen : n + 4 ≤ 140737488355328) (hBw : B ≤ w.heap.size) :
    Calls Tryz.prog 113 #[v, .int .i32 r] w fun e w' => ∃ v', e = .returned v' ∧ w'.ownsRowF B 5 1 v' (n + (Lib.runeCells r).length) (xs ++ Lib.runeCells r) ∧ ∃ o, (w.alloc o).grownBy w' v.ownBlock := Any.utf8_AppendRune_row Tryz.lays242 (by kernel_rfl) B v n xs r hr0 hr1 w hown hlen hBw
def Tryz.laysC245_ren : Go.Shelf.Ren := ⟨fun | 245 => 66 | 279 => 87 | 280 => 88 | 281 => 89 | 282 => 90 | 316 => 103 | 171 => 105 | 205 => 104 | 243 => 124 | 246 => 136 | 283 => 139 | 284 => 140 | 285 => 141 | 286 => 142 | 129 => 146 | 317 => 145 | 318 => 147 | 319 => 148 | 320 => 149 | 337 => 150 | 338 => 151 | n => n, fun | 9 => 9 | 3 => 3 | 75 => 35 | 167 => 113 | 4 => 4 | 168 => 115 | 210 => 140 | 37 => 29 | 0 => 0 | 127 => 49 | 145 => 161 | 143 => 159 | 2 => 2 | 171 => 169 | 53 => 78 | 5 => 5 | 173 => 172 | 212 => 176 | 51 => 59 | 20 => 20 | 213 => 177 | 46 => 91 | 232 => 180 | 233 => 181 | 80 => 38 | n => n, fun | 15 => 5 | 16 => 6 | 17 => 7 | 18 => 8 | 19 => 9 | n => n⟩
theorem Tryz.laysC245 : Go.Proofs.LaysC.n245 Tryz.prog Tryz.laysC245_ren := {
  mixed := by kernel_rfl
  f129 := Tryz.func146.trans (congrArg some (by kernel_rfl))
  f171 := Tryz.func105.trans (congrArg some (by kernel_rfl))
  f205 := Tryz.func104.trans (congrArg some (by kernel_rfl))
  f243 := Tryz.func124.trans (congrArg some (by kernel_rfl))
  f245 := Tryz.func66.trans (congrArg some (by kernel_rfl))
  f246 := Tryz.func136.trans (congrArg some (by kernel_rfl))
  f279 := Tryz.func87.trans (congrArg some (by kernel_rfl))
  f280 := Tryz.func88.trans (congrArg some (by kernel_rfl))
  f281 := Tryz.func89.trans (congrArg some (by kernel_rfl))
  f282 := Tryz.func90.trans (congrArg some (by kernel_rfl))
  f283 := Tryz.func139.trans (congrArg some (by kernel_rfl))
  f284 := Tryz.func140.trans (congrArg some (by kernel_rfl))
  f285 := Tryz.func141.trans (congrArg some (by kernel_rfl))
  f286 := Tryz.func142.trans (congrArg some (by kernel_rfl))
  f316 := Tryz.func103.trans (congrArg some (by kernel_rfl))
  f317 := Tryz.func145.trans (congrArg some (by kernel_rfl))
  f318 := Tryz.func147.trans (congrArg some (by kernel_rfl))
  f319 := Tryz.func148.trans (congrArg some (by kernel_rfl))
  f320 := Tryz.func149.trans (congrArg some (by kernel_rfl))
  f337 := Tryz.func150.trans (congrArg some (by kernel_rfl))
  f338 := Tryz.func151.trans (congrArg some (by kernel_rfl))
  t0 := Tryz.underlying0
  a0 := Tryz.isAgg0
  z0 := Tryz.sizeOf0
  v0 := Tryz.zeroValue0
  t2 := Tryz.underlying2
  a2 := Tryz.isAgg2
  z2 := Tryz.sizeOf2
  v2 := Tryz.zeroValue2
  t3 := Tryz.underlying3
  a3 := Tryz.isAgg3
  z3 := Tryz.sizeOf3
  v3 := Tryz.zeroValue3
  t4 := Tryz.underlying4
  a4 := Tryz.isAgg4
  z4 := Tryz.sizeOf4
  v4 := Tryz.zeroValue4
  t5 := Tryz.underlying5
  a5 := Tryz.isAgg5
  z5 := Tryz.sizeOf5
  v5 := Tryz.zeroValue5
  t9 := Tryz.underlying9
  a9 := Tryz.isAgg9
  z9 := Tryz.sizeOf9
  v9 := Tryz.zeroValue9
  t20 := Tryz.underlying20
  a20 := Tryz.isAgg20
  z20 := Tryz.sizeOf20
  v20 := Tryz.zeroValue20
  t37 := Tryz.underlying29
  a37 := Tryz.isAgg29
  z37 := Tryz.sizeOf29
  v37 := Tryz.zeroValue29
  t46 := Tryz.underlying91
  a46 := Tryz.isAgg91
  z46 := Tryz.sizeOf91
  v46 := Tryz.zeroValue91
  t51 := Tryz.underlying59
  a51 := Tryz.isAgg59
  z51 := Tryz.sizeOf59
  v51 := Tryz.zeroValue59
  t53 := Tryz.underlying78
  a53 := Tryz.isAgg78
  z53 := Tryz.sizeOf78
  v53 := Tryz.zeroValue78
  t75 := Tryz.underlying35
  a75 := Tryz.isAgg35
  z75 := Tryz.sizeOf35
  v75 := Tryz.zeroValue35
  t127 := Tryz.underlying49
  a127 := Tryz.isAgg49
  z127 := Tryz.sizeOf49
  v127 := Tryz.zeroValue49
  t143 := Tryz.underlying159
  a143 := Tryz.isAgg159
  z143 := Tryz.sizeOf159
  v143 := Tryz.zeroValue159
  t145 := Tryz.underlying161
  a145 := Tryz.isAgg161
  z145 := Tryz.sizeOf161
  v145 := Tryz.zeroValue161
  t167 := Tryz.underlying113
  a167 := Tryz.isAgg113
  z167 := Tryz.sizeOf113
  v167 := Tryz.zeroValue113
  t168 := Tryz.underlying115
  a168 := Tryz.isAgg115
  z168 := Tryz.sizeOf115
  v168 := Tryz.zeroValue115
  t171 := Tryz.underlying169
  a171 := Tryz.isAgg169
  z171 := Tryz.sizeOf169
  v171 := Tryz.zeroValue169
  t173 := Tryz.underlying172
  a173 := Tryz.isAgg172
  z173 := Tryz.sizeOf172
  v173 := Tryz.zeroValue172
  t210 := Tryz.underlying140
  a210 := Tryz.isAgg140
  z210 := Tryz.sizeOf140
  v210 := Tryz.zeroValue140
  t212 := Tryz.underlying176
  a212 := Tryz.isAgg176
  z212 := Tryz.sizeOf176
  v212 := Tryz.zeroValue176
  t213 := Tryz.underlying177
  a213 := Tryz.isAgg177
  z213 := Tryz.sizeOf177
  t232 := Tryz.underlying180
  a232 := Tryz.isAgg180
  z232 := Tryz.sizeOf180
  v232 := Tryz.zeroValue180
  t233 := Tryz.underlying181
  a233 := Tryz.isAgg181
  z233 := Tryz.sizeOf181
  v233 := Tryz.zeroValue181
  g15 := by kernel_rfl
  g16 := by kernel_rfl
  g17 := by kernel_rfl
  g18 := by kernel_rfl
  g19 := by kernel_rfl
  t80 := Tryz.underlying38
  a80 := Tryz.isAgg38
  z80 := Tryz.sizeOf38
  v80 := Tryz.zeroValue38
  i0 := by kernel_rfl
  i2 := by kernel_rfl
  i3 := by kernel_rfl
  i4 := by kernel_rfl
  i5 := by kernel_rfl
  i9 := by kernel_rfl
  i20 := by kernel_rfl
  i37 := by kernel_rfl
  i46 := by kernel_rfl
  i51 := by kernel_rfl
  i53 := by kernel_rfl
  i75 := by kernel_rfl
  i80 := by kernel_rfl
  i127 := by kernel_rfl
  i143 := by kernel_rfl
  i145 := by kernel_rfl
  i167 := by kernel_rfl
  i168 := by kernel_rfl
  i171 := by kernel_rfl
  i173 := by kernel_rfl
  i210 := by kernel_rfl
  i212 := by kernel_rfl
  i232 := by kernel_rfl
  i233 := by kernel_rfl
  m15 := by kernel_rfl
  m16 := by kernel_rfl
  m17 := by kernel_rfl
  m18 := by kernel_rfl
  m19 := by kernel_rfl
  c0 := by kernel_rfl
  c2 := by kernel_rfl
  c3 := by kernel_rfl
  c4 := by kernel_rfl
  c5 := by kernel_rfl
  c9 := by kernel_rfl
  c20 := by kernel_rfl
  c37 := by kernel_rfl
  c46 := by kernel_rfl
  c51 := by kernel_rfl
  c53 := by kernel_rfl
  c75 := by kernel_rfl
  c80 := by kernel_rfl
  c127 := by kernel_rfl
  c143 := by kernel_rfl
  c145 := by kernel_rfl
  c167 := by kernel_rfl
  c168 := by kernel_rfl
  c171 := by kernel_rfl
  c173 := by kernel_rfl
  c210 := by kernel_rfl
  c212 := by kernel_rfl
  c213 := by kernel_rfl
  c232 := by kernel_rfl
  c233 := by kernel_rfl }
open Go.RowKit in
theorem Tryz.strconv_toError_syntax (fn s : ByteArray) (base bits : Int) (ev : Value) (w : World) (hlim : s.size ≤ 281474976710656) (hv : w.cell? ⟨5, 0, none⟩ = some ev) (hev : ev = .nilIface ∨ ∃ te pe, ev = .iface te pe) :
    Calls Tryz.prog 66 #[.string fn, .string s, .int .i64 base, .int .i64 bits, .iface 113 (.int .i64 2)] w fun e w' => ∃ N, e = .returned (.iface 115 (.pointer (some ⟨N, 0, none⟩))) ∧ w.heap.size ≤ N ∧ w'.heap[N]? = some (.cells #[.string fn, .string s, ev] 140 (0, 0)) ∧ Below w.heap.size w w' := Any.strconv_toError_syntax Tryz.laysC245 fn s base bits ev w hlim hv hev
def Tryz.lays219_ren : Go.Shelf.Ren := ⟨fun | 219 => 44 | 217 => 60 | 225 => 61 | 224 => 62 | 267 => 63 | 266 => 83 | 314 => 84 | n => n, fun | 9 => 9 | 3 => 3 | 4 => 4 | 5 => 5 | 46 => 91 | 146 => 111 | 51 => 59 | n => n, fun | 1 => 1 | n => n⟩
theorem Tryz.lays219 : Go.Proofs.Lays.n219 Tryz.prog Tryz.lays219_ren := {
  mixed := by kernel_rfl
  f217 := Tryz.func60.trans (congrArg some (by kernel_rfl))
  f219 := Tryz.func44.trans (congrArg some (by kernel_rfl))
  f224 := Tryz.func62.trans (congrArg some (by kernel_rfl))
  f225 := Tryz.func61.trans (congrArg some (by kernel_rfl))
  f266 := Tryz.func83.trans (congrArg some (by kernel_rfl))
  f267 := Tryz.func63.trans (congrArg some (by kernel_rfl))
  f314 := Tryz.func84.trans (congrArg some (by kernel_rfl))
  t3 := Tryz.underlying3
  a3 := Tryz.isAgg3
  z3 := Tryz.sizeOf3
  v3 := Tryz.zeroValue3
  t4 := Tryz.underlying4
  a4 := Tryz.isAgg4
  z4 := Tryz.sizeOf4
  v4 := Tryz.zeroValue4
  t5 := Tryz.underlying5
  a5 := Tryz.isAgg5
  z5 := Tryz.sizeOf5
  v5 := Tryz.zeroValue5
  t9 := Tryz.underlying9
  a9 := Tryz.isAgg9
  z9 := Tryz.sizeOf9
  v9 := Tryz.zeroValue9
  t46 := Tryz.underlying91
  a46 := Tryz.isAgg91
  z46 := Tryz.sizeOf91
  v46 := Tryz.zeroValue91
  t51 := Tryz.underlying59
  a51 := Tryz.isAgg59
  z51 := Tryz.sizeOf59
  v51 := Tryz.zeroValue59
  t146 := Tryz.underlying111
  a146 := Tryz.isAgg111
  z146 := Tryz.sizeOf111
  v146 := Tryz.zeroValue111
  g1 := by kernel_rfl }
open Go.RowKit Go.Lib in
theorem Tryz.stringslite_Index_one (s : ByteArray) (c : UInt8) (w : World) :
    Calls Tryz.prog 44 #[.string s, .string ⟨#[c]⟩] w fun e w' => e = .returned (.int .i64 (Lib.indexByte s.data.toList c)) ∧ w' = w := Any.stringslite_Index_one Tryz.lays219 s c w
def Tryz.lays99_ren : Go.Shelf.Ren := ⟨fun | 99 => 122 | 206 => 64 | n => n, fun | 9 => 9 | 4 => 4 | 3 => 3 | n => n, fun | n => n⟩
theorem Tryz.lays99 : Go.Proofs.Lays.n99 Tryz.prog Tryz.lays99_ren := {
  mixed := by kernel_rfl
  f99 := Tryz.func122.trans (congrArg some (by kernel_rfl))
  f206 := Tryz.func64.trans (congrArg some (by kernel_rfl))
  t3 := Tryz.underlying3
  a3 := Tryz.isAgg3
  z3 := Tryz.sizeOf3
  v3 := Tryz.zeroValue3
  t4 := Tryz.underlying4
  a4 := Tryz.isAgg4
  z4 := Tryz.sizeOf4
  v4 := Tryz.zeroValue4
  t9 := Tryz.underlying9
  a9 := Tryz.isAgg9
  z9 := Tryz.sizeOf9
  v9 := Tryz.zeroValue9 }
open Go.RowKit Go.Lib in
theorem Tryz.strings_HasPrefix (s p : ByteArray) (w : World) :
    Calls Tryz.prog 122 #[.string s, .string p] w fun e w' => e = .returned (.bool (Lib.hasPrefix s.data.toList p.data.toList)) ∧ w' = w := Any.strings_HasPrefix Tryz.lays99 s p w
def Tryz.lays155_ren : Go.Shelf.Ren := ⟨fun | 155 => 27 | 154 => 40 | 138 => 52 | 165 => 53 | 143 => 54 | 166 => 20 | 197 => 55 | 169 => 21 | 195 => 77 | 218 => 78 | 240 => 34 | 241 => 79 | 219 => 44 | 260 => 80 | 276 => 45 | 277 => 100 | 217 => 60 | 225 => 61 | 224 => 62 | 267 => 63 | 266 => 83 | 314 => 84 | n => n, fun | 9 => 9 | 3 => 3 | 4 => 4 | 72 => 31 | 0 => 0 | 76 => 36 | 105 => 84 | 21 => 21 | 5 => 5 | 70 => 28 | 20 => 20 | 37 => 29 | 75 => 35 | 127 => 49 | 164 => 76 | 46 => 91 | 119 => 102 | 139 => 138 | 138 => 137 | 146 => 111 | 51 => 59 | 80 => 38 | n => n, fun | 1 => 1 | 3 => 3 | 4 => 4 | n => n⟩
theorem Tryz.lays155 : Go.Proofs.Lays.n155 Tryz.prog Tryz.lays155_ren := {
  mixed := by kernel_rfl
  f138 := Tryz.func52.trans (congrArg some (by kernel_rfl))
  f143 := Tryz.func54.trans (congrArg some (by kernel_rfl))
  f154 := Tryz.func40.trans (congrArg some (by kernel_rfl))
  f155 := Tryz.func27.trans (congrArg some (by kernel_rfl))
  f165 := Tryz.func53.trans (congrArg some (by kernel_rfl))
  f166 := Tryz.func20.trans (congrArg some (by kernel_rfl))
  f169 := Tryz.func21.trans (congrArg some (by kernel_rfl))
  f195 := Tryz.func77.trans (congrArg some (by kernel_rfl))
  f197 := Tryz.func55.trans (congrArg some (by kernel_rfl))
  f217 := Tryz.func60.trans (congrArg some (by kernel_rfl))
  f218 := Tryz.func78.trans (congrArg some (by kernel_rfl))
  f219 := Tryz.func44.trans (congrArg some (by kernel_rfl))
  f224 := Tryz.func62.trans (congrArg some (by kernel_rfl))
  f225 := Tryz.func61.trans (congrArg some (by kernel_rfl))
  f240 := Tryz.func34.trans (congrArg some (by kernel_rfl))
  f241 := Tryz.func79.trans (congrArg some (by kernel_rfl))
  f260 := Tryz.func80.trans (congrArg some (by kernel_rfl))
  f266 := Tryz.func83.trans (congrArg some (by kernel_rfl))
  f267 := Tryz.func63.trans (congrArg some (by kernel_rfl))
  f276 := Tryz.func45.trans (congrArg some (by kernel_rfl))
  f277 := Tryz.func100.trans (congrArg some (by kernel_rfl))
  f314 := Tryz.func84.trans (congrArg some (by kernel_rfl))
  t0 := Tryz.underlying0
  a0 := Tryz.isAgg0
  z0 := Tryz.sizeOf0
  v0 := Tryz.zeroValue0
  t3 := Tryz.underlying3
  a3 := Tryz.isAgg3
  z3 := Tryz.sizeOf3
  v3 := Tryz.zeroValue3
  t4 := Tryz.underlying4
  a4 := Tryz.isAgg4
  z4 := Tryz.sizeOf4
  v4 := Tryz.zeroValue4
  t5 := Tryz.underlying5
  a5 := Tryz.isAgg5
  z5 := Tryz.sizeOf5
  v5 := Tryz.zeroValue5
  t9 := Tryz.underlying9
  a9 := Tryz.isAgg9
  z9 := Tryz.sizeOf9
  v9 := Tryz.zeroValue9
  t20 := Tryz.underlying20
  a20 := Tryz.isAgg20
  z20 := Tryz.sizeOf20
  v20 := Tryz.zeroValue20
  t21 := Tryz.underlying21
  a21 := Tryz.isAgg21
  z21 := Tryz.sizeOf21
  v21 := Tryz.zeroValue21
  t37 := Tryz.underlying29
  a37 := Tryz.isAgg29
  z37 := Tryz.sizeOf29
  v37 := Tryz.zeroValue29
  t46 := Tryz.underlying91
  a46 := Tryz.isAgg91
  z46 := Tryz.sizeOf91
  v46 := Tryz.zeroValue91
  t51 := Tryz.underlying59
  a51 := Tryz.isAgg59
  z51 := Tryz.sizeOf59
  v51 := Tryz.zeroValue59
  t70 := Tryz.underlying28
  a70 := Tryz.isAgg28
  z70 := Tryz.sizeOf28
  v70 := Tryz.zeroValue28
  t72 := Tryz.underlying31
  a72 := Tryz.isAgg31
  z72 := Tryz.sizeOf31
  v72 := Tryz.zeroValue31
  t75 := Tryz.underlying35
  a75 := Tryz.isAgg35
  z75 := Tryz.sizeOf35
  v75 := Tryz.zeroValue35
  t76 := Tryz.underlying36
  a76 := Tryz.isAgg36
  z76 := Tryz.sizeOf36
  v76 := Tryz.zeroValue36
  t105 := Tryz.underlying84
  a105 := Tryz.isAgg84
  z105 := Tryz.sizeOf84
  v105 := Tryz.zeroValue84
  t119 := Tryz.underlying102
  a119 := Tryz.isAgg102
  z119 := Tryz.sizeOf102
  t127 := Tryz.underlying49
  a127 := Tryz.isAgg49
  z127 := Tryz.sizeOf49
  v127 := Tryz.zeroValue49
  t138 := Tryz.underlying137
  a138 := Tryz.isAgg137
  z138 := Tryz.sizeOf137
  v138 := Tryz.zeroValue137
  t139 := Tryz.underlying138
  a139 := Tryz.isAgg138
  z139 := Tryz.sizeOf138
  v139 := Tryz.zeroValue138
  t146 := Tryz.underlying111
  a146 := Tryz.isAgg111
  z146 := Tryz.sizeOf111
  v146 := Tryz.zeroValue111
  t164 := Tryz.underlying76
  a164 := Tryz.isAgg76
  z164 := Tryz.sizeOf76
  v164 := Tryz.zeroValue76
  g1 := by kernel_rfl
  g3 := by kernel_rfl
  g4 := by kernel_rfl }
theorem Tryz.Builder_Extra_155 : Builder.Extra Tryz.prog Tryz.lays155_ren := {
  sizeBuilder := by kernel_rfl
  liesBuilder := by kernel_rfl
  t5 := Tryz.underlying5
  a5 := Tryz.isAgg5
  z5 := Tryz.sizeOf5
  v5 := Tryz.zeroValue5
  infoByte := by kernel_rfl
  cellsByte := by kernel_rfl
  sizeByte := by kernel_rfl
  neB5 := by decide }
open Go.RowKit Go.Lib in
theorem Tryz.strings_ReplaceAll (s old new : ByteArray) (m : Int) (w : World) (hs : s.size < 4294967281) (hm : w.cell? ⟨1, 0, none⟩ = some (.int .i64 m)) (h1 : 1 ≤ old.size) (hlen : s.size + Lib.countB s old * new.size ≤ 140737488355328) :
    Calls Tryz.prog 27 #[.string s, .string old, .string new] w fun e w' =>
      e = .returned (.string ⟨(Lib.replaceAll s.data.toList old.data.toList new.data.toList).toArray⟩) ∧ Below w.heap.size w w' := Any.strings_ReplaceAll Tryz.lays155 Tryz.Builder_Extra_155 s old new m w hs hm h1 hlen
def Tryz.lays260_ren : Go.Shelf.Ren := ⟨fun | 260 => 80 | n => n, fun | 9 => 9 | 21 => 21 | 3 => 3 | 4 => 4 | 5 => 5 | 119 => 102 | 0 => 0 | 46 => 91 | 139 => 138 | 138 => 137 | n => n, fun | 3 => 3 | 4 => 4 | n => n⟩
theorem Tryz.lays260 : Go.Proofs.Lays.n260 Tryz.prog Tryz.lays260_ren := {
  mixed := by kernel_rfl
  f260 := Tryz.func80.trans (congrArg some (by kernel_rfl))
  t0 := Tryz.underlying0
  a0 := Tryz.isAgg0
  z0 := Tryz.sizeOf0
  v0 := Tryz.zeroValue0
  t3 := Tryz.underlying3
  a3 := Tryz.isAgg3
  z3 := Tryz.sizeOf3
  v3 := Tryz.zeroValue3
  t4 := Tryz.underlying4
  a4 := Tryz.isAgg4
  z4 := Tryz.sizeOf4
  v4 := Tryz.zeroValue4
  t5 := Tryz.underlying5
  a5 := Tryz.isAgg5
  z5 := Tryz.sizeOf5
  v5 := Tryz.zeroValue5
  t9 := Tryz.underlying9
  a9 := Tryz.isAgg9
  z9 := Tryz.sizeOf9
  v9 := Tryz.zeroValue9
  t21 := Tryz.underlying21
  a21 := Tryz.isAgg21
  z21 := Tryz.sizeOf21
  v21 := Tryz.zeroValue21
  t46 := Tryz.underlying91
  a46 := Tryz.isAgg91
  z46 := Tryz.sizeOf91
  v46 := Tryz.zeroValue91
  t119 := Tryz.underlying102
  a119 := Tryz.isAgg102
  z119 := Tryz.sizeOf102
  t138 := Tryz.underlying137
  a138 := Tryz.isAgg137
  z138 := Tryz.sizeOf137
  v138 := Tryz.zeroValue137
  t139 := Tryz.underlying138
  a139 := Tryz.isAgg138
  z139 := Tryz.sizeOf138
  v139 := Tryz.zeroValue138
  g3 := by kernel_rfl
  g4 := by kernel_rfl }
end Go.Proofs
namespace Go.Proofs.YtkfcbafjcjmfnaaGreatDoor.Repl
open Go.RowKit Go.Proofs.YtkfcbafjcjmfnaaGreatDoor.Row
set_option linter.unusedVariables false
set_option linter.unusedSimpArgs false
theorem bdrewN {B : Nat} {w0 w : World} (h : Below B w0 w) (n : Nat) : Below B w0 (w.drewN n) := ⟨h.os, h.tape, h.output, h.size, h.block⟩
theorem infoByte : (Tryz.prog.info? 5).map (fun i => (i.zero, i.size, i.bytes)) = some (some (.int .u8 0), 1, 1) := by kernel_rfl
def Fill (w : World) (g n : Nat) (l : List UInt8) : Prop :=
  ∃ C : Array Value, w.heap[g]? = some (.cells C 5 (0, 0)) ∧ C.size = n ∧ C.toList.take l.length = Lib.byteCells l
theorem Fill.cell {w : World} {g n : Nat} {l : List UInt8} (h : Fill w g n l) (j : Nat) (hj : j < n) : ∃ v, w.cell? ⟨g, j, none⟩ = some v := by
  obtain ⟨C, hC, hz, _⟩ := h
  exact ⟨_, by rw [cell_of_row _ _ _ _ _ _ hC]; exact Array.getElem?_eq_getElem (by omega)⟩
theorem Fill.free {w : World} {g n : Nat} {l : List UInt8} (h : Fill w g n l) (j : Nat) : w.frozen? ⟨g, j, none⟩ = false := by
  obtain ⟨C, hC, _⟩ := h
  simp [World.frozen?, hC]
theorem Fill.put {w : World} {g n : Nat} {l : List UInt8} (h : Fill w g n l) (c : UInt8) (hl : l.length < n) : Fill (w.setCell ⟨g, l.length, none⟩ (.int .u8 (c.toNat : Int))) g n (l ++ [c]) := by
  obtain ⟨C, hC, hz, ht⟩ := h
  refine ⟨_, setCell_heap_at _ _ _ _ _ _ _ hC, by simpa using hz, ?_⟩
  rw [Array.toList_setIfInBounds, List.length_append, List.length_singleton, List.take_set, List.take_succ_eq_append_getElem (by simpa [hz] using hl), ht]
  have hb : (Lib.byteCells l).length = l.length := by simp [Lib.byteCells]
  rw [List.set_append_right _ _ (by omega), hb, Nat.sub_self]
  simp [Lib.byteCells]
theorem Fill.back {w : World} {g n : Nat} {l : List UInt8} (h : Fill w g n l) (hn : l.length = n) :
    (convert 29 9 (.slice (some ⟨g, 0, none⟩) n n)).run Tryz.prog w = .ok (.string ⟨l.toArray⟩) w := by
  subst hn
  obtain ⟨C, hC, hz, ht⟩ := h
  refine run_convert_bytes_back (P := Tryz.prog) w 29 9 5 ⟨g, 0, none⟩ _ l Tryz.underlying29 Tryz.underlying5 Tryz.underlying9 (fun j hj => ?_)
  rw [show (⟨g, 0, none⟩ : Addr).add j = ⟨g, j, none⟩ from by unfold Addr.add; split <;> simp_all, cell_of_row _ _ _ _ _ _ hC]
  have h3 : (C.toList.take l.length)[j]? = (Lib.byteCells l)[j]? := by rw [ht]
  rw [List.getElem?_take_of_lt hj] at h3
  simp [Lib.byteCells, List.getElem?_eq_getElem hj] at h3
  simpa using h3
theorem Part.at {M R : Nat} {w : World} {ps : Pairs} (h : Part M w R ps) (b : Nat) (hb : b < 256) : ∃ v, w.cell? ⟨R, b, none⟩ = some v ∧ RepCell M w (look ps b) v := by
  obtain ⟨C, tv, _, hC, _, h6, hown, hc⟩ := h
  obtain ⟨v, hv, hr⟩ := hc b hb
  exact ⟨v, by rw [cell_of_row _ _ _ _ _ _ hC]; exact hv, hr⟩
end Go.Proofs.YtkfcbafjcjmfnaaGreatDoor.Repl
namespace Go.Proofs.YtkfcbafjcjmfnaaGreatDoor.Gen
open Go.RowKit Go.Proofs.YtkfcbafjcjmfnaaGreatDoor.Row Go.Proofs.YtkfcbafjcjmfnaaGreatDoor.Repl
set_option linter.unusedVariables false
set_option linter.unusedSimpArgs false
def keys : List ByteArray := [⟨#[38]⟩, ⟨#[60]⟩, ⟨#[62]⟩, ⟨#[194, 160]⟩]
def vals : List ByteArray := [⟨#[38, 97, 109, 112, 59]⟩, ⟨#[38, 108, 116, 59]⟩, ⟨#[38, 103, 116, 59]⟩, ⟨#[38, 110, 98, 115, 112, 59]⟩]
def oldnewL : List ByteArray := [⟨#[38]⟩, ⟨#[38, 97, 109, 112, 59]⟩, ⟨#[60]⟩, ⟨#[38, 108, 116, 59]⟩, ⟨#[62]⟩, ⟨#[38, 103, 116, 59]⟩, ⟨#[194, 160]⟩, ⟨#[38, 110, 98, 115, 112, 59]⟩]
theorem oldnewL_at (k : Nat) (h : k < 4) : oldnewL[2 * k]? = keys[k]? ∧ oldnewL[2 * k + 1]? = vals[k]? := by
  match k, h with
  | 0, _ => exact ⟨rfl, rfl⟩
  | 1, _ => exact ⟨rfl, rfl⟩
  | 2, _ => exact ⟨rfl, rfl⟩
  | 3, _ => exact ⟨rfl, rfl⟩
def LiesL (w : World) (g : Nat) : Prop := ∀ j v, oldnewL[j]? = some v → w.cell? ⟨g, j, none⟩ = some (.string v)
def marks (l : List UInt8) : Nat → Nat := fun b => if l.any (fun c => c.toNat == b) then 1 else 0
theorem marks_snoc (l : List UInt8) (c : UInt8) : marks (l ++ [c]) = upd (marks l) c.toNat 1 := by
  funext b
  unfold marks upd
  by_cases h : b = c.toNat
  · subst h
    rw [if_pos rfl, List.any_append]
    simp
  · rw [if_neg h, List.any_append]
    have : (c.toNat == b) = false := by simpa using fun e => h e.symm
    simp [this]
def upto (k : Nat) : List UInt8 := ((keys.take k).map fun x => x.data.toList).flatten
theorem upto_snoc (k : Nat) (h : k < keys.length) : upto (k + 1) = upto k ++ (keys[k]).data.toList := by
  unfold upto
  rw [List.take_succ_eq_append_getElem h, List.map_append, List.flatten_append]
  simp
def m0 : Nat → Nat := marks (upto 4)
def sumTo (m : Nat → Nat) : Nat → Nat
  | 0 => 0
  | b + 1 => sumTo m b + m b
def idx (b : Nat) : Nat → Nat := fun c => if c < b then (if m0 c = 0 then 5 else sumTo m0 c) else m0 c
theorem idx_step (b : Nat) : idx (b + 1) = upd (idx b) b (if m0 b = 0 then 5 else sumTo m0 b) := by
  funext c
  unfold idx upd
  by_cases h : c = b
  · subst h
    rw [if_pos (by omega), if_pos rfl]
  · rw [if_neg h]
    by_cases h2 : c < b
    · simp only [if_pos h2, if_pos (show c < b + 1 by omega)]
    · simp only [if_neg h2, if_neg (show ¬ c < b + 1 by omega)]
theorem sum_le (b : Nat) (m : Nat → Nat) (h : ∀ b, m b ≤ 1) : sumTo m b ≤ b := by
  induction b with
  | zero => exact Nat.le_refl _
  | succ b ih => show sumTo m b + m b ≤ b + 1; have := h b; omega
theorem m0_le (b : Nat) : m0 b ≤ 1 := by
  unfold m0 marks
  split <;> omega
theorem sum_m0 : sumTo m0 256 = 5 := by kernel_rfl
theorem sum_mono (a b : Nat) (h : a ≤ b) (m : Nat → Nat) : sumTo m a ≤ sumTo m b := by
  induction b with
  | zero => obtain rfl : a = 0 := by omega
            exact Nat.le_refl _
  | succ b ih =>
    rcases Nat.lt_or_ge a (b + 1) with h1 | h1
    · have := ih (by omega)
      show sumTo m a ≤ sumTo m b + m b
      omega
    · obtain rfl : a = b + 1 := by omega
      exact Nat.le_refl _
def mapping : Nat → Nat := idx 256
theorem mapping_at : mapping 38 = 0 ∧ mapping 60 = 1 ∧ mapping 62 = 2 ∧ mapping 160 = 3 ∧ mapping 194 = 4 := ⟨by kernel_rfl, by kernel_rfl, by kernel_rfl, by kernel_rfl, by kernel_rfl⟩
def ptr (N : Nat) : Value := .pointer (some ⟨N, 0, none⟩)
def Gen (M : Nat) (w : World) (R : Nat) : Prop := ∃ T a b c d e, M ≤ R ∧ M ≤ T ∧ M ≤ a ∧ M ≤ b ∧ M ≤ c ∧ M ≤ d ∧ M ≤ e ∧ Rt w R (.slice (some ⟨T, 0, none⟩) 5 5) 5 mapping ∧ Tbl w T [ptr a, ptr b, ptr c, .pointer none, ptr d] ∧
  Nd w a ⟨#[38, 97, 109, 112, 59]⟩ 8 ⟨#[]⟩ (.pointer none) ∧ Nd w b ⟨#[38, 108, 116, 59]⟩ 6 ⟨#[]⟩ (.pointer none) ∧ Nd w c ⟨#[38, 103, 116, 59]⟩ 4 ⟨#[]⟩ (.pointer none) ∧ Nd w d ⟨#[]⟩ 0 ⟨#[160]⟩ (ptr e) ∧ Nd w e ⟨#[38, 110, 98, 115, 112, 59]⟩ 2 ⟨#[]⟩ (.pointer none)
theorem infoPtr : (Tryz.prog.info? 128).map (fun i => (i.zero, i.size, i.bytes)) = some (some (.pointer none), 1, 8) := by kernel_rfl
theorem make_tab (w : World) : (Instr.makeSlice 129 (.int .i64 5) (.int .i64 5)).run Tryz.prog w = .ok (.slice (some ⟨w.heap.size, 0, none⟩) 5 5) (w.alloc (.cells #[.pointer none, .pointer none, .pointer none, .pointer none, .pointer none] 128)) := by
  obtain ⟨i0, hi, hz0, hz1, hz2⟩ := info_parts infoPtr
  have hr := run_make (P := Tryz.prog) w 129 128 i0 _ Tryz.underlying129 hi hz0 .i64 .i64 5 5 (by omega) (by omega) (by rw [hz2]; omega) (by omega)
  rw [hr, hz1, show madeCells (Value.pointer none).cells (Int.toNat 5 * 1) = #[.pointer none, .pointer none, .pointer none, .pointer none, .pointer none] from by kernel_rfl]
  rfl
def nilp : Value := .pointer none
def at_ (k i N : Nat) : Value := if i < k then ptr N else nilp
def Tr (M : Nat) (w : World) (R k : Nat) : Prop := ∃ T a b c d e, M ≤ R ∧ M ≤ T ∧ M ≤ a ∧ M ≤ b ∧ M ≤ c ∧ M ≤ d ∧ M ≤ e ∧ Rt w R (.slice (some ⟨T, 0, none⟩) 5 5) 5 mapping ∧ Tbl w T [at_ k 0 a, at_ k 1 b, at_ k 2 c, nilp, at_ k 3 d] ∧
  (0 < k → Nd w a ⟨#[38, 97, 109, 112, 59]⟩ 8 ⟨#[]⟩ (.pointer none)) ∧ (1 < k → Nd w b ⟨#[38, 108, 116, 59]⟩ 6 ⟨#[]⟩ (.pointer none)) ∧ (2 < k → Nd w c ⟨#[38, 103, 116, 59]⟩ 4 ⟨#[]⟩ (.pointer none)) ∧
  (3 < k → Nd w d ⟨#[]⟩ 0 ⟨#[160]⟩ (ptr e) ∧ Nd w e ⟨#[38, 110, 98, 115, 112, 59]⟩ 2 ⟨#[]⟩ (.pointer none))
theorem Tr.gen {M : Nat} {w : World} {R : Nat} (h : Tr M w R 4) : Gen M w R := by
  obtain ⟨T, a, b, c, d, e, h1, h2, h3, h4, h5, h6, h7, hR, hT, n1, n2, n3, n4⟩ := h
  exact ⟨T, a, b, c, d, e, h1, h2, h3, h4, h5, h6, h7, hR, hT, n1 (by decide), n2 (by decide), n3 (by decide), (n4 (by decide)).1, (n4 (by decide)).2⟩
theorem nd_but {T x : Nat} {w w' : World} {qs : List Value} {val pre : ByteArray} {p : Int} {next : Value} (h : But T w w') (hT : Tbl w T qs) (hn : Nd w x val p pre next) : Nd w' x val p pre next := by
  refine hn.of (h.block x ?_ hn.lt)
  rintro rfl
  have h1 : w.heap[x]? = _ := hn
  have h2 := h1.symm.trans hT.1
  injection h2 with h2
  injection h2 with _ h2
  exact absurd h2 (by decide)
theorem rt_but {T R : Nat} {w w' : World} {qs : List Value} {tb : Value} {ts : Int} {m : Nat → Nat} (h : But T w w') (hT : Tbl w T qs) (hn : Rt w R tb ts m) : Rt w' R tb ts m := by
  refine hn.of (h.block R ?_ hn.lt)
  rintro rfl
  have h1 : w.heap[R]? = _ := hn
  have h2 := h1.symm.trans hT.1
  injection h2 with h2
  injection h2 with _ h2
  exact absurd h2 (by decide)
theorem But.below {T M : Nat} {w w' : World} (h : But T w w') (hM : M ≤ T) (hw : M ≤ w.heap.size) : Below M w w' := ⟨h.os, h.tape, h.output, h.size, fun k hk => h.block k (by omega) (by omega)⟩
attribute [local irreducible] mapping
theorem add_step (M R k : Nat) (hk : k < 4) (key val : ByteArray) (hkey : oldnewL[2 * k]? = some key) (hval : oldnewL[2 * k + 1]? = some val) (p : Int) (hp : p = 8 - 2 * (k : Int)) (w : World) (hT : Tr M w R k) :
    Calls Tryz.prog 99 #[.pointer (some ⟨R, 0, none⟩), .string key, .string val, .int .i64 p, .pointer (some ⟨R, 0, none⟩)] w fun e w' => e = .returned (.tuple #[]) ∧ Tr M w' R (k + 1) ∧ Below M w w' := by
  obtain ⟨T, a, b, c, d, e, h1, h2, h3, h4, h5, h6, h7, hR, hTb, n1, n2, n3, n4⟩ := hT
  have hlt := hTb.lt
  obtain ⟨m1, m2, m3, m4, m5⟩ := mapping_at
  match k, hk with
  | 0, _ =>
    obtain rfl : (⟨#[38]⟩ : ByteArray) = key := Option.some.inj hkey
    obtain rfl : (⟨#[38, 97, 109, 112, 59]⟩ : ByteArray) = val := Option.some.inj hval
    obtain rfl : p = 8 := hp
    refine (add_root R T 0 ⟨#[38]⟩ ⟨#[38, 97, 109, 112, 59]⟩ 8 mapping _ w (by decide) hR hTb m1 (by decide) rfl (fun N _ w' => Nd w' N ⟨#[38, 97, 109, 112, 59]⟩ 8 ⟨#[]⟩ (.pointer none)) (fun N W hN => add_end N R ⟨#[38, 97, 109, 112, 59]⟩ ⟨#[]⟩ 8 (.pointer none) W hN)).mono ?_
    rintro e' w' ⟨rfl, ⟨_, _, hn⟩, ht, hb⟩
    exact ⟨rfl, ⟨T, w.heap.size, b, c, d, e, h1, h2, by omega, h4, h5, h6, h7, rt_but hb hTb hR, ht, fun _ => hn, fun h => absurd h (by decide), fun h => absurd h (by decide), fun h => absurd h (by decide)⟩, hb.below h2 (by omega)⟩
  | 1, _ =>
    obtain rfl : (⟨#[60]⟩ : ByteArray) = key := Option.some.inj hkey
    obtain rfl : (⟨#[38, 108, 116, 59]⟩ : ByteArray) = val := Option.some.inj hval
    obtain rfl : p = 6 := hp
    refine (add_root R T 1 ⟨#[60]⟩ ⟨#[38, 108, 116, 59]⟩ 6 mapping _ w (by decide) hR hTb m2 (by decide) rfl (fun N _ w' => Nd w' N ⟨#[38, 108, 116, 59]⟩ 6 ⟨#[]⟩ (.pointer none)) (fun N W hN => add_end N R ⟨#[38, 108, 116, 59]⟩ ⟨#[]⟩ 6 (.pointer none) W hN)).mono ?_
    rintro e' w' ⟨rfl, ⟨_, _, hn⟩, ht, hb⟩
    exact ⟨rfl, ⟨T, a, w.heap.size, c, d, e, h1, h2, h3, by omega, h5, h6, h7, rt_but hb hTb hR, ht, fun _ => nd_but hb hTb (n1 (by decide)), fun _ => hn, fun h => absurd h (by decide), fun h => absurd h (by decide)⟩, hb.below h2 (by omega)⟩
  | 2, _ =>
    obtain rfl : (⟨#[62]⟩ : ByteArray) = key := Option.some.inj hkey
    obtain rfl : (⟨#[38, 103, 116, 59]⟩ : ByteArray) = val := Option.some.inj hval
    obtain rfl : p = 4 := hp
    refine (add_root R T 2 ⟨#[62]⟩ ⟨#[38, 103, 116, 59]⟩ 4 mapping _ w (by decide) hR hTb m3 (by decide) rfl (fun N _ w' => Nd w' N ⟨#[38, 103, 116, 59]⟩ 4 ⟨#[]⟩ (.pointer none)) (fun N W hN => add_end N R ⟨#[38, 103, 116, 59]⟩ ⟨#[]⟩ 4 (.pointer none) W hN)).mono ?_
    rintro e' w' ⟨rfl, ⟨_, _, hn⟩, ht, hb⟩
    exact ⟨rfl, ⟨T, a, b, w.heap.size, d, e, h1, h2, h3, h4, by omega, h6, h7, rt_but hb hTb hR, ht, fun _ => nd_but hb hTb (n1 (by decide)), fun _ => nd_but hb hTb (n2 (by decide)), fun _ => hn, fun h => absurd h (by decide)⟩, hb.below h2 (by omega)⟩
  | 3, _ =>
    obtain rfl : (⟨#[194, 160]⟩ : ByteArray) = key := Option.some.inj hkey
    obtain rfl : (⟨#[38, 110, 98, 115, 112, 59]⟩ : ByteArray) = val := Option.some.inj hval
    obtain rfl : p = 2 := hp
    refine (add_root R T 4 ⟨#[194, 160]⟩ ⟨#[38, 110, 98, 115, 112, 59]⟩ 2 mapping _ w (by decide) hR hTb m5 (by decide) rfl (fun N W w' => ∃ E, W.heap.size ≤ E ∧ Nd w' N ⟨#[]⟩ 0 ⟨#[160]⟩ (.pointer (some ⟨E, 0, none⟩)) ∧ Nd w' E ⟨#[38, 110, 98, 115, 112, 59]⟩ 2 ⟨#[]⟩ (.pointer none)) (fun N W hN => add_new N R ⟨#[160]⟩ ⟨#[38, 110, 98, 115, 112, 59]⟩ 2 W rfl hN)).mono ?_
    rintro e' w' ⟨rfl, ⟨W, hWz, E, hE, hn, hn2⟩, ht, hb⟩
    exact ⟨rfl, ⟨T, a, b, c, w.heap.size, E, h1, h2, h3, h4, h5, by omega, by omega, rt_but hb hTb hR, ht, fun _ => nd_but hb hTb (n1 (by decide)), fun _ => nd_but hb hTb (n2 (by decide)), fun _ => nd_but hb hTb (n3 (by decide)), fun _ => ⟨hn, hn2⟩⟩, hb.below h2 (by omega)⟩
theorem run_index_u8 (w : World) (cs : Array Value) (b : Nat) (v : Value) (hb : b < 256) (hv : cs[b]? = some v) : (Instr.index 102 (.agg cs) (.int .i64 (b : Int))).run Tryz.prog w = .ok v w := by
  have h1 : (b : Int) < 256 := by omega
  obtain ⟨i0, hi, hz0, hz1, hz2⟩ := info_parts infoByte
  have ha : (isAgg 5).run Tryz.prog w = .ok false w := by
    unfold isAgg
    rw [Sem.run_bind, run_underlying Tryz.underlying5 w]; rfl
  simp [Instr.index, run_underlying Tryz.underlying102, asIntOf, h1, part, ha, sizeOf, typeInfo, hi, hz1, hv, Sem.run_bind, go_sem]
  intro h; omega
end Go.Proofs.YtkfcbafjcjmfnaaGreatDoor.Gen
namespace Go.Proofs.YtkfcbafjcjmfnaaGreatDoor.Gen
open Go.RowKit Go.Proofs.YtkfcbafjcjmfnaaGreatDoor.Row Go.Proofs.YtkfcbafjcjmfnaaGreatDoor.Repl
set_option linter.unusedVariables false
set_option linter.unusedSimpArgs false
def hitL : List UInt8 → Option (ByteArray × Nat)
  | 38 :: _ => some (⟨#[38, 97, 109, 112, 59]⟩, 1)
  | 60 :: _ => some (⟨#[38, 108, 116, 59]⟩, 1)
  | 62 :: _ => some (⟨#[38, 103, 116, 59]⟩, 1)
  | 194 :: 160 :: _ => some (⟨#[38, 110, 98, 115, 112, 59]⟩, 2)
  | _ => none
theorem mapping_else (b : Nat) (h : b < 256) (h1 : b ≠ 38) (h2 : b ≠ 60) (h3 : b ≠ 62) (h4 : b ≠ 160) (h5 : b ≠ 194) : mapping b = 5 := by
  have hz : m0 b = 0 := by
    unfold m0 marks
    rw [if_neg]
    have e : upto 4 = [38, 60, 62, 194, 160] := by kernel_rfl
    rw [e]
    simp only [List.any_cons, List.any_nil, Bool.or_false, Bool.or_eq_true, beq_iff_eq, not_or]
    exact ⟨fun e => h1 e.symm, fun e => h2 e.symm, fun e => h3 e.symm, fun e => h5 e.symm, fun e => h4 e.symm⟩
  show idx 256 b = 5
  unfold idx
  rw [if_pos h, if_pos hz]
attribute [local irreducible] mapping
theorem ext_pre (s : ByteArray) : Lib.hasPrefix (s.extract 1 s.size).data.toList [160] = decide (s[1]? = some 160) := by
  have e : (s.extract 1 s.size).data.toList = s.data.toList.drop 1 := by
    rw [ByteArray.data_extract, Array.toList_extract]
    simp only [List.extract, List.drop_one]
    exact List.take_of_length_le (by simp)
  have e2 : s[1]? = (s.data.toList.drop 1)[0]? := by
    rw [List.getElem?_drop]
    simp [getElem?_def, ByteArray.size_data]
    rfl
  rw [e, e2]
  cases hd : s.data.toList.drop 1 with
  | nil => rfl
  | cons c r =>
    show ((160 : UInt8) == c && List.isPrefixOf [] r) = _
    simp only [List.isPrefixOf, Bool.and_true, List.getElem?_cons_zero, Option.some.injEq]
    rw [Bool.eq_iff_iff]
    simp only [beq_iff_eq, decide_eq_true_eq]
    exact eq_comm
set_option maxRecDepth 100000 in
set_option maxHeartbeats 4000000 in
theorem lookup_one (R : Nat) (s : ByteArray) (i : Nat) (val : ByteArray) (p : Int) (w : World) (hs : 1 ≤ s.size) (T a : Nat) (qs : List Value) (hR : Rt w R (.slice (some ⟨T, 0, none⟩) 5 5) 5 mapping) (hT : Tbl w T qs)
    (hm : mapping (s[0]'(by omega)).toNat = i) (hi : i < 5) (hq : qs[i]? = some (ptr a)) (hn : Nd w a val p ⟨#[]⟩ (.pointer none)) (hp : 0 < p) (hp2 : p < 100) :
    Calls Tryz.prog 174 #[.pointer (some ⟨R, 0, none⟩), .string s, .bool false] w fun e w' => e = .returned (.tuple #[.string val, .int .i64 1, .bool true]) ∧ ∃ n, w' = w.drewN n := by
  have c1 := hR.prio
  have c2 := hR.tb
  have c3 := hR.ts
  obtain ⟨c, hc1, hc2⟩ : ∃ c, s[0]'(by omega) = c ∧ s.data[0]'(by rw [← ByteArray.size_data] at hs; omega) = c := ⟨_, rfl, rfl⟩
  rw [hc1] at hm
  have h256 := UInt8.toNat_lt c
  have c4 := hR.at c.toNat h256
  rw [hm] at c4
  have c5 : w.cell? ⟨T, i, none⟩ = some (ptr a) := by rw [hT.cell]; exact hq
  have n1 : w.cell? ⟨a, 1, none⟩ = some (.int .i64 p) := by rw [hn.cell]; rfl
  have n0 : w.cell? ⟨a, 0, none⟩ = some (.string val) := by rw [hn.cell]; rfl
  have n2 : w.cell? ⟨a, 2, none⟩ = some (.string ⟨#[]⟩) := by rw [hn.cell]; rfl
  have n4 : w.cell? ⟨a, 4, none⟩ = some (.slice none 0 0) := by rw [hn.cell]; rfl
  have hne : s.toList.isEmpty = false := not_empty s (by omega)
  have i1 : (0 : Int) < (s.size : Int) := by omega
  have i2 : 0 < s.size := by omega
  have i3 : (1 : Int) ≤ (s.size : Int) := by omega
  have i4 : (i : Int) < 5 := by omega
  have i5 : ¬ (i : Int) = 5 := by omega
  have i6 : ¬ i = 5 := by omega
  have qT : ∀ (w : World) (a : Option Addr) (n c n' c' : Nat), (binOp .neq 129 (.slice a n c) (.slice none n' c')).run Tryz.prog w = .ok (.bool (!a.isNone)) w := fun w a n c n' c' => run_neq_slice_nil_any w _ _ a n c n' c' Tryz.underlying129
  unfold ptr at c5
  clear hR hT hn hm
  go_enter Tryz.func174, Tryz.ntmps174
  go_wp2
  go_loopw [1, 6, 7, 8, 9, 10, 11] (fun v1 v6 v7 v8 v9 v10 v11 wr => (v1 = .string s ∧ v6 = .string ⟨#[]⟩ ∧ v7 = .int .i64 0 ∧ v8 = .bool false ∧ v9 = .int .i64 0 ∧ v10 = .pointer (some ⟨R, 0, none⟩) ∧ v11 = .int .i64 0 ∧ wr = w) ∨
    (v1 = .string (s.extract 1 s.size) ∧ v6 = .string ⟨#[]⟩ ∧ v7 = .int .i64 0 ∧ v8 = .bool false ∧ v9 = .int .i64 0 ∧ v10 = .pointer (some ⟨a, 0, none⟩) ∧ v11 = .int .i64 1 ∧ ∃ n, wr = w.drewN n)) (fun _ _ _ _ _ _ v11 _ => 5 - (intOf v11).toNat)
  case atStart => exact .inl ⟨rfl, rfl, rfl, rfl, rfl, rfl, rfl, rfl⟩
  case round =>
    rcases hrel with ⟨rfl, rfl, rfl, rfl, rfl, rfl, rfl, rfl⟩ | ⟨rfl, rfl, rfl, rfl, rfl, rfl, rfl, n, rfl⟩
    · go_wp2
      go_quiet (fail)
      rename_i nq
      go_wp2_with fail
      go_roundw
      case rel => exact .inr ⟨rfl, rfl, rfl, rfl, rfl, rfl, rfl, nq, rfl⟩
      case measure => simp [intOf]
    · cases he : (s.extract 1 s.size).toList.isEmpty with
      | true =>
        go_wp2
        go_ret3
        exact ⟨rfl, n, rfl⟩
      | false =>
        go_wp2
        go_ret3
        exact ⟨rfl, n, rfl⟩
set_option maxRecDepth 100000 in
set_option maxHeartbeats 4000000 in
theorem lookup_none (R : Nat) (s : ByteArray) (w : World) (T : Nat) (hR : Rt w R (.slice (some ⟨T, 0, none⟩) 5 5) 5 mapping) (hs : s.size = 0 ∨ ∃ h : 1 ≤ s.size, mapping (s[0]'(by omega)).toNat = 5) :
    Calls Tryz.prog 174 #[.pointer (some ⟨R, 0, none⟩), .string s, .bool false] w fun e w' => e = .returned (.tuple #[.string ⟨#[]⟩, .int .i64 0, .bool false]) ∧ ∃ n, w' = w.drewN n := by
  have c1 := hR.prio
  have c2 := hR.tb
  have c3 := hR.ts
  have qT : ∀ (w : World) (a : Option Addr) (n c n' c' : Nat), (binOp .neq 129 (.slice a n c) (.slice none n' c')).run Tryz.prog w = .ok (.bool (!a.isNone)) w := fun w a n c n' c' => run_neq_slice_nil_any w _ _ a n c n' c' Tryz.underlying129
  rcases hs with hz | ⟨hs, hm⟩
  · have hne : s.toList.isEmpty = true := by
      rw [ByteArray.toList_eq, List.isEmpty_iff, ← List.length_eq_zero_iff]
      simpa using hz
    clear hR
    go_enter Tryz.func174, Tryz.ntmps174
    go_wp2
    go_loopw [1, 6, 7, 8, 9, 10, 11] (fun v1 v6 v7 v8 v9 v10 v11 wr => v1 = .string s ∧ v6 = .string ⟨#[]⟩ ∧ v7 = .int .i64 0 ∧ v8 = .bool false ∧ v9 = .int .i64 0 ∧ v10 = .pointer (some ⟨R, 0, none⟩) ∧ v11 = .int .i64 0 ∧ wr = w) (fun _ _ _ _ _ _ v11 _ => 5 - (intOf v11).toNat)
    case atStart => exact ⟨rfl, rfl, rfl, rfl, rfl, rfl, rfl, rfl⟩
    case round =>
      obtain ⟨rfl, rfl, rfl, rfl, rfl, rfl, rfl, rfl⟩ := hrel
      go_wp2
      go_ret3
      exact ⟨rfl, 0, rfl⟩
  · obtain ⟨c, hc1, hc2⟩ : ∃ c, s[0]'(by omega) = c ∧ s.data[0]'(by rw [← ByteArray.size_data] at hs; omega) = c := ⟨_, rfl, rfl⟩
    rw [hc1] at hm
    have h256 := UInt8.toNat_lt c
    have c4 := hR.at c.toNat h256
    rw [hm] at c4
    have hne : s.toList.isEmpty = false := not_empty s (by omega)
    have i1 : (0 : Int) < (s.size : Int) := by omega
    have i2 : 0 < s.size := by omega
    have i3 : (1 : Int) ≤ (s.size : Int) := by omega
    clear hR hm
    go_enter Tryz.func174, Tryz.ntmps174
    go_wp2
    go_loopw [1, 6, 7, 8, 9, 10, 11] (fun v1 v6 v7 v8 v9 v10 v11 wr => v1 = .string s ∧ v6 = .string ⟨#[]⟩ ∧ v7 = .int .i64 0 ∧ v8 = .bool false ∧ v9 = .int .i64 0 ∧ v10 = .pointer (some ⟨R, 0, none⟩) ∧ v11 = .int .i64 0 ∧ wr = w) (fun _ _ _ _ _ _ v11 _ => 5 - (intOf v11).toNat)
    case atStart => exact ⟨rfl, rfl, rfl, rfl, rfl, rfl, rfl, rfl⟩
    case round =>
      obtain ⟨rfl, rfl, rfl, rfl, rfl, rfl, rfl, rfl⟩ := hrel
      go_wp2
      go_quiet (fail)
      rename_i nq
      go_wp2_with fail
      go_ret3
      exact ⟨rfl, nq, rfl⟩
set_option maxRecDepth 100000 in
set_option maxHeartbeats 4000000 in
theorem lookup_two (R : Nat) (s : ByteArray) (val : ByteArray) (w : World) (hs : 1 ≤ s.size) (T d e : Nat) (qs : List Value) (hR : Rt w R (.slice (some ⟨T, 0, none⟩) 5 5) 5 mapping) (hT : Tbl w T qs)
    (hm : mapping (s[0]'(by omega)).toNat = 4) (hq : qs[4]? = some (ptr d)) (hn : Nd w d ⟨#[]⟩ 0 ⟨#[160]⟩ (ptr e)) (hn2 : Nd w e val 2 ⟨#[]⟩ (.pointer none)) :
    Calls Tryz.prog 174 #[.pointer (some ⟨R, 0, none⟩), .string s, .bool false] w fun x w' => x = .returned (.tuple (if s[1]? = some 160 then #[.string val, .int .i64 2, .bool true] else #[.string ⟨#[]⟩, .int .i64 0, .bool false])) ∧ ∃ n, w' = w.drewN n := by
  have c1 := hR.prio
  have c2 := hR.tb
  have c3 := hR.ts
  obtain ⟨c, hc1, hc2⟩ : ∃ c, s[0]'(by omega) = c ∧ s.data[0]'(by rw [← ByteArray.size_data] at hs; omega) = c := ⟨_, rfl, rfl⟩
  rw [hc1] at hm
  have h256 := UInt8.toNat_lt c
  have c4 := hR.at c.toNat h256
  rw [hm] at c4
  have c5 : w.cell? ⟨T, 4, none⟩ = some (ptr d) := by rw [hT.cell]; exact hq
  have n1 : w.cell? ⟨d, 1, none⟩ = some (.int .i64 0) := by rw [hn.cell]; rfl
  have n2 : w.cell? ⟨d, 2, none⟩ = some (.string ⟨#[160]⟩) := by rw [hn.cell]; rfl
  have n3 : w.cell? ⟨d, 3, none⟩ = some (ptr e) := by rw [hn.cell]; rfl
  have n4 : w.cell? ⟨d, 4, none⟩ = some (.slice none 0 0) := by rw [hn.cell]; rfl
  have e0 : w.cell? ⟨e, 0, none⟩ = some (.string val) := by rw [hn2.cell]; rfl
  have e1 : w.cell? ⟨e, 1, none⟩ = some (.int .i64 2) := by rw [hn2.cell]; rfl
  have e2 : w.cell? ⟨e, 2, none⟩ = some (.string ⟨#[]⟩) := by rw [hn2.cell]; rfl
  have e4 : w.cell? ⟨e, 4, none⟩ = some (.slice none 0 0) := by rw [hn2.cell]; rfl
  have hne : s.toList.isEmpty = false := not_empty s (by omega)
  have i1 : (0 : Int) < (s.size : Int) := by omega
  have i2 : 0 < s.size := by omega
  have i3 : (1 : Int) ≤ (s.size : Int) := by omega
  have qT : ∀ (w : World) (a : Option Addr) (n c n' c' : Nat), (binOp .neq 129 (.slice a n c) (.slice none n' c')).run Tryz.prog w = .ok (.bool (!a.isNone)) w := fun w a n c n' c' => run_neq_slice_nil_any w _ _ a n c n' c' Tryz.underlying129
  unfold ptr at c5 n3
  have hpre := ext_pre s
  clear hR hT hn hn2 hm
  go_enter Tryz.func174, Tryz.ntmps174
  go_wp2
  go_loopw [1, 6, 7, 8, 9, 10, 11] (fun v1 v6 v7 v8 v9 v10 v11 wr => (v1 = .string s ∧ v6 = .string ⟨#[]⟩ ∧ v7 = .int .i64 0 ∧ v8 = .bool false ∧ v9 = .int .i64 0 ∧ v10 = .pointer (some ⟨R, 0, none⟩) ∧ v11 = .int .i64 0 ∧ wr = w) ∨
    (v1 = .string (s.extract 1 s.size) ∧ v6 = .string ⟨#[]⟩ ∧ v7 = .int .i64 0 ∧ v8 = .bool false ∧ v9 = .int .i64 0 ∧ v10 = .pointer (some ⟨d, 0, none⟩) ∧ v11 = .int .i64 1 ∧ ∃ n, wr = w.drewN n) ∨
    (s[1]? = some 160 ∧ (∃ z, v1 = .string z) ∧ v6 = .string ⟨#[]⟩ ∧ v7 = .int .i64 0 ∧ v8 = .bool false ∧ v9 = .int .i64 0 ∧ v10 = .pointer (some ⟨e, 0, none⟩) ∧ v11 = .int .i64 2 ∧ ∃ n, wr = w.drewN n)) (fun _ _ _ _ _ _ v11 _ => 5 - (intOf v11).toNat)
  case atStart => exact .inl ⟨rfl, rfl, rfl, rfl, rfl, rfl, rfl, rfl⟩
  case round =>
    rcases hrel with ⟨rfl, rfl, rfl, rfl, rfl, rfl, rfl, rfl⟩ | ⟨rfl, rfl, rfl, rfl, rfl, rfl, rfl, n, rfl⟩ | ⟨h160, ⟨z, rfl⟩, rfl, rfl, rfl, rfl, rfl, rfl, n, rfl⟩
    · go_wp2
      go_quiet (fail)
      rename_i nq
      go_wp2_with fail
      go_roundw
      case rel => exact .inr (.inl ⟨rfl, rfl, rfl, rfl, rfl, rfl, rfl, nq, rfl⟩)
      case measure => simp [intOf]
    · by_cases h160 : s[1]? = some 160
      · have hpx : Lib.hasPrefix (s.extract 1 s.size).data.toList [160] = true := by rw [hpre]; simpa using h160
        have hsz : 2 ≤ s.size := by
          rcases Nat.lt_or_ge 1 s.size with h | h
          · exact h
          · rw [getElem?_neg _ _ (by omega)] at h160; exact absurd h160 (by simp)
        have hez : (s.extract 1 s.size).size = s.size - 1 := by simp
        have hee : (s.extract 1 s.size).toList.isEmpty = false := not_empty _ (by omega)
        have j1 : (1 : Int) ≤ ((s.extract 1 s.size).size : Int) := by omega
        generalize s.extract 1 s.size = z at *
        go_wp2_with (go_at_call 122; refine (Tryz.strings_HasPrefix _ _ _).mono ?_; rintro e w' ⟨rfl, rfl⟩; first | rw [hpx] | skip)
        go_roundw
        case rel => exact .inr (.inr ⟨h160, ⟨_, rfl⟩, rfl, rfl, rfl, rfl, rfl, rfl, n, rfl⟩)
        case measure => simp [intOf]
      · have hpx : Lib.hasPrefix (s.extract 1 s.size).data.toList [160] = false := by rw [hpre]; simpa using h160
        generalize s.extract 1 s.size = z at *
        cases he : z.toList.isEmpty with
        | true =>
          go_wp2
          go_ret3
          all_goals first | exact ⟨rfl, n, rfl⟩ | contradiction
        | false =>
          go_wp2_with (go_at_call 122; refine (Tryz.strings_HasPrefix _ _ _).mono ?_; rintro e w' ⟨rfl, rfl⟩; first | rw [hpx] | skip)
          go_ret3
          all_goals first | exact ⟨rfl, n, rfl⟩ | contradiction
    · cases he : z.toList.isEmpty with
      | true =>
        go_wp2
        go_ret3
        all_goals first | exact ⟨rfl, n, rfl⟩ | contradiction
      | false =>
        go_wp2
        go_ret3
        all_goals first | exact ⟨rfl, n, rfl⟩ | contradiction
end Go.Proofs.YtkfcbafjcjmfnaaGreatDoor.Gen
namespace Go.Proofs.YtkfcbafjcjmfnaaGreatDoor.Bld
open Go.RowKit
set_option linter.unusedVariables false
abbrev TB : Nat := 31
theorem sizeBuilder : (Tryz.prog.info? 31).map (·.size) = some 2 := by kernel_rfl
theorem liesBuilder : liesAt Tryz.prog Tryz.prog.depth 31 (2 / Tryz.prog.cellsOf 31) 0 31 1 = true := by kernel_rfl
theorem infoByte : (Tryz.prog.info? 5).map (fun i => (i.zero, i.size, i.bytes)) = some (some (.int .u8 0), 1, 1) := by kernel_rfl
set_option maxHeartbeats 1000000 in
set_option maxRecDepth 100000 in
theorem copyCheck_used (b : Nat) (w : World) (h0 : w.cell? ⟨b, 0, none⟩ = some (.pointer (some ⟨b, 0, none⟩))) :
    Calls Tryz.prog 34 #[.pointer (some ⟨b, 0, none⟩)] w fun e w' => e = .returned (.tuple #[]) ∧ w' = w := by
  obtain ⟨j, hj, _⟩ := Option.map_eq_some_iff.1 sizeBuilder
  go_enter Tryz.func34, Tryz.ntmps34
  go_wp2
  rw [Lib.run_neq_ptr_same w _ Tryz.underlying28 hj]
  go_wp2
  go_end0
  exact ⟨rfl, rfl⟩
set_option maxHeartbeats 1000000 in
set_option maxRecDepth 100000 in
theorem copyCheck_fresh (b : Nat) (w : World) (h0 : w.cell? ⟨b, 0, none⟩ = some (.pointer none)) (hsh : w.shape? b = some (31, 2)) (hfz : w.frozen? ⟨b, 0, none⟩ = false) :
    Calls Tryz.prog 34 #[.pointer (some ⟨b, 0, none⟩)] w fun e w' => e = .returned (.tuple #[]) ∧ w' = w.setCell ⟨b, 0, none⟩ (.pointer (some ⟨b, 0, none⟩)) := by
  obtain ⟨j, hj, hjs⟩ := Option.map_eq_some_iff.1 sizeBuilder
  go_enter Tryz.func34, Tryz.ntmps34
  go_wp2
  rw [Lib.run_to_unsafe w ⟨b, 0, none⟩ Tryz.underlying28 Tryz.underlying76 hj (by rw [hjs]; decide) hsh (Nat.zero_lt_succ 1)]
  simp only [Result.andThen]
  rw [Oper.upon_value]
  go_wp2
  rw [run_callFunc_extern Tryz.func45 (by kernel_rfl) (by kernel_rfl) (by kernel_rfl) (e := Extern.AbiNoEscape.same) (by kernel_rfl)]
  rw [Lib.run_noEscape]
  simp only [Result.andThen]
  rw [Oper.upon_value]
  go_wp2
  rw [Lib.run_from_unsafe w ⟨b, 0, none⟩ Tryz.underlying76 Tryz.underlying28 hj hsh liesBuilder]
  simp only [Result.andThen]
  rw [Oper.upon_value]
  go_wp2
  go_end0
  exact ⟨rfl, rfl⟩
theorem copyCheck_k (B b : Nat) (bs : List Value) (w : World) (h : Lib.IsBuilderF 31 5 B b bs w) :
    Calls Tryz.prog 34 #[.pointer (some ⟨b, 0, none⟩)] w fun e w' => e = .returned (.tuple #[]) ∧ (Lib.BuilderAtF 31 5 B b (.pointer (some ⟨b, 0, none⟩)) bs w' ∧ Below B w w' ∧ Lib.OthersKept 5 (some b) w w') := by
  rcases h with h | h
  · refine (copyCheck_fresh b w h.cell0 h.shape h.frozen0).mono ?_
    rintro e w' ⟨rfl, rfl⟩
    exact ⟨rfl, h.used _, (Below.refl B w).setCell (p := ⟨b, 0, none⟩) h.1 _, (Lib.OthersKept.refl _ _ w).setCell ⟨b, 0, none⟩ rfl _⟩
  · refine (copyCheck_used b w h.cell0).mono ?_
    rintro e w' ⟨rfl, rfl⟩
    exact ⟨rfl, h, Below.refl B _, Lib.OthersKept.refl _ _ _⟩
set_option maxHeartbeats 2000000 in
set_option maxRecDepth 100000 in
theorem WriteByte_k (B b : Nat) (bs : List Value) (c : Int) (w : World) (h : Lib.IsBuilderF 31 5 B b bs w) (hlen : bs.length + 1 ≤ 140737488355328) (hBw : B ≤ w.heap.size) :
    Calls Tryz.prog 23 #[.pointer (some ⟨b, 0, none⟩), .int .u8 c] w fun e w' => e = .returned .nilIface ∧ (Lib.IsBuilderF 31 5 B b (bs ++ [.int .u8 c]) w' ∧ Below B w w' ∧ Lib.OthersKept 5 (some b) w w') := by
  obtain ⟨i0, hi, hz0, hz1, hz2⟩ := info_parts infoByte
  go_enter Tryz.func23, Tryz.ntmps23
  go_wp2_with (go_at_call 34; refine (copyCheck_k B b bs _ h).mono ?_)
  rintro e w1 ⟨rfl, h1, hb1, hk1⟩
  obtain ⟨hB, v, hbk, hown, hne⟩ := h1
  have c0 : w1.cell? ⟨b, 0, none⟩ = some (.pointer (some ⟨b, 0, none⟩)) := by rw [Lib.cell_of_heap hbk]; rfl
  have c1 : w1.cell? ⟨b, 1, none⟩ = some v := by rw [Lib.cell_of_heap hbk]; rfl
  go_wp2_with (at_builtin; refine wpList_append_ownF _ rfl _ _ 29 rfl B 5 i0 (.int .u8 0) 1 1 Tryz.underlying29 hi hz0 hz1 hz2 rfl (by decide) _ _ _ rfl (hown.alloc _) ⟨w1.heap.size, 0, none⟩ 1 1 [.int .u8 c] rfl rfl ?c1 ?c2 ?c3 ?c4 ?c5 ?_)
  case c1 =>
    intro j u hj
    match j, hj with
    | 0, hj => simp at hj; subst hj; simp [Addr.add]
  case c2 => intro u hu; simp at hu; subst hu; rfl
  case c3 => unfold maxLen; omega
  case c4 => omega
  case c5 => have := hb1.size; simp; omega
  intro v' w2 hown' hgrow _
  have hlt : b < w1.heap.size := by
    rcases Nat.lt_or_ge b w1.heap.size with h' | h'
    · exact h'
    · simp [Array.getElem?_eq_none h'] at hbk
  have hb2 : w2.heap[b]? = some (.cells #[.pointer (some ⟨b, 0, none⟩), v] 31 (0, 0)) := by
    rw [hgrow.block b (by simp; omega) (fun e => hne e.symm), Lib.alloc_old w1 _ b hlt]
    exact hbk
  have d0 : w2.cell? ⟨b, 0, none⟩ = some (.pointer (some ⟨b, 0, none⟩)) := by rw [Lib.cell_of_heap hb2]; rfl
  have d1 : w2.cell? ⟨b, 1, none⟩ = some v := by rw [Lib.cell_of_heap hb2]; rfl
  have f1 : w2.frozen? ⟨b, 1, none⟩ = false := Lib.frozen_of_heap hb2 1
  obtain ⟨g, cap, rfl⟩ : ∃ g cap, v' = .slice (some ⟨g, 0, none⟩) (bs.length + 1) cap := by
    rcases hown'.2 with ⟨_, h0⟩ | ⟨g, cap, cur, fz, hv, _⟩
    · omega
    · exact ⟨g, cap, hv⟩
  go_wp2
  go_ret
  refine ⟨rfl, .inr ?_, ?_, ((hk1.alloc _).grown hgrow (Lib.ownsRowF_kind (hown.alloc _))).setCell ⟨b, 1, none⟩ rfl _⟩
  · exact Lib.BuilderAtF.put (T := 31) (e := 5) hB hb2 (bs' := bs ++ [.int .u8 c]) (by simpa using hown') (by decide)
  · exact ((hb1.alloc (by have := hb1.size; omega) _).grown hgrow (by have := hb1.size; simp; omega) (fun k hk => (hown.lt k hk).1)).setCell (p := ⟨b, 1, none⟩) hB _
set_option maxHeartbeats 2000000 in
set_option maxRecDepth 100000 in
theorem WriteString_k (B b : Nat) (bs : List Value) (s : ByteArray) (w : World) (h : Lib.IsBuilderF 31 5 B b bs w) (hlen : bs.length + s.size ≤ 140737488355328) (hBw : B ≤ w.heap.size) :
    Calls Tryz.prog 20 #[.pointer (some ⟨b, 0, none⟩), .string s] w fun e w' => e = .returned (.tuple #[.int .i64 s.size, .nilIface]) ∧ (Lib.IsBuilderF 31 5 B b (bs ++ Lib.strCells s) w' ∧ Below B w w' ∧ Lib.OthersKept 5 (some b) w w') := by
  obtain ⟨i0, hi, hz0, hz1, hz2⟩ := info_parts infoByte
  go_enter Tryz.func20, Tryz.ntmps20
  go_wp2_with (go_at_call 34; refine (copyCheck_k B b bs _ h).mono ?_)
  rintro e w1 ⟨rfl, h1, hb1, hk1⟩
  obtain ⟨hB, v, hbk, hown, hne⟩ := h1
  have c0 : w1.cell? ⟨b, 0, none⟩ = some (.pointer (some ⟨b, 0, none⟩)) := by rw [Lib.cell_of_heap hbk]; rfl
  have c1 : w1.cell? ⟨b, 1, none⟩ = some v := by rw [Lib.cell_of_heap hbk]; rfl
  go_wp2_with (at_builtin; refine Lib.wpList_append_own_stringF _ rfl _ _ 29 9 rfl B 5 i0 Tryz.underlying29 Tryz.underlying9 hi hz0 hz1 hz2 _ _ _ rfl hown s rfl ?c3 ?c4 ?c5 ?_)
  case c3 => unfold maxLen; omega
  case c4 => omega
  case c5 => have := hb1.size; omega
  intro v' w2 hown' hgrow _
  have hlt : b < w1.heap.size := by
    rcases Nat.lt_or_ge b w1.heap.size with h' | h'
    · exact h'
    · simp [Array.getElem?_eq_none h'] at hbk
  have hb2 : w2.heap[b]? = some (.cells #[.pointer (some ⟨b, 0, none⟩), v] 31 (0, 0)) := by
    rw [hgrow.block b hlt (fun e => hne e.symm)]
    exact hbk
  have d0 : w2.cell? ⟨b, 0, none⟩ = some (.pointer (some ⟨b, 0, none⟩)) := by rw [Lib.cell_of_heap hb2]; rfl
  have d1 : w2.cell? ⟨b, 1, none⟩ = some v := by rw [Lib.cell_of_heap hb2]; rfl
  have f1 : w2.frozen? ⟨b, 1, none⟩ = false := Lib.frozen_of_heap hb2 1
  obtain ⟨ao, n', cap, rfl⟩ : ∃ ao n' cap, v' = .slice ao n' cap := by
    rcases hown'.2 with ⟨hv, _⟩ | ⟨g, cap, cur, fz, hv, _⟩
    · exact ⟨_, _, _, hv⟩
    · exact ⟨_, _, _, hv⟩
  go_wp2
  go_ret2
  refine ⟨rfl, .inr ?_, ?_, (hk1.grown hgrow (Lib.ownsRowF_kind hown)).setCell ⟨b, 1, none⟩ rfl _⟩
  · exact Lib.BuilderAtF.put (T := 31) (e := 5) hB hb2 (bs' := bs ++ Lib.strCells s) (by simpa [Lib.strCells_length] using hown') (by decide)
  · exact (hb1.grown hgrow (by have := hb1.size; omega) (fun k hk => (hown.lt k hk).1)).setCell (p := ⟨b, 1, none⟩) hB _
set_option maxHeartbeats 4000000 in
set_option maxRecDepth 100000 in
theorem WriteRune_k (append : ∀ (B : Nat) (v : Value) (n : Nat) (xs : List Value) (r : Int) (hr0 : -2147483648 ≤ r) (hr1 : r ≤ 2147483647) (w : World) (hown : w.ownsRowF B 5 1 v n xs) (hlen : n + 4 ≤ 140737488355328) (hBw : B ≤ w.heap.size), Calls Tryz.prog 113 #[v, .int .i32 r] w fun e w' => ∃ v', e = .returned v' ∧ w'.ownsRowF B 5 1 v' (n + (Lib.runeCells r).length) (xs ++ Lib.runeCells r) ∧ ∃ o, (w.alloc o).grownBy w' v.ownBlock)
    (B b : Nat) (bs : List Value) (r : Int) (hr0 : -2147483648 ≤ r) (hr1 : r ≤ 2147483647) (w : World) (h : Lib.IsBuilderF 31 5 B b bs w) (hlen : bs.length + 4 ≤ 140737488355328) (hBw : B ≤ w.heap.size) :
    Calls Tryz.prog 93 #[.pointer (some ⟨b, 0, none⟩), .int .i32 r] w fun e w' => e = .returned (.tuple #[.int .i64 (Lib.runeCells r).length, .nilIface]) ∧ (Lib.IsBuilderF 31 5 B b (bs ++ Lib.runeCells r) w' ∧ Below B w w' ∧ Lib.OthersKept 5 (some b) w w') := by
  have hk4 := Lib.runeCells_le r
  have HA := Lib.hid append
  clear append
  go_enter Tryz.func93, Tryz.ntmps93
  go_wp2_with (go_at_call 34; refine (copyCheck_k B b bs _ h).mono ?_)
  rintro e w1 ⟨rfl, h1, hb1, hk1⟩
  obtain ⟨hB, v, hbk, hown, hne⟩ := h1
  obtain ⟨ao, cap, rfl⟩ : ∃ ao cap, v = .slice ao bs.length cap := by
    rcases hown.2 with ⟨hv, h0⟩ | ⟨g, cap, cur, fz, hv, _⟩
    · exact ⟨none, 0, by rw [hv, h0]⟩
    · exact ⟨_, _, hv⟩
  have c0 : w1.cell? ⟨b, 0, none⟩ = some (.pointer (some ⟨b, 0, none⟩)) := by rw [Lib.cell_of_heap hbk]; rfl
  have c1 : w1.cell? ⟨b, 1, none⟩ = some (.slice ao bs.length cap) := by rw [Lib.cell_of_heap hbk]; rfl
  go_wp2_with (go_at_call 113; refine (HA.out B _ bs.length bs r hr0 hr1 _ hown hlen (by have := hb1.size; omega)).mono ?_)
  rintro e w2 ⟨v', rfl, hown', o, hgrow⟩
  have hlt : b < w1.heap.size := by
    rcases Nat.lt_or_ge b w1.heap.size with h' | h'
    · exact h'
    · simp [Array.getElem?_eq_none h'] at hbk
  have hb2 : w2.heap[b]? = some (.cells #[.pointer (some ⟨b, 0, none⟩), .slice ao bs.length cap] 31 (0, 0)) := by
    rw [hgrow.block b (by simp; omega) (fun e => hne e.symm), Lib.alloc_old w1 _ b hlt]
    exact hbk
  have d0 : w2.cell? ⟨b, 0, none⟩ = some (.pointer (some ⟨b, 0, none⟩)) := by rw [Lib.cell_of_heap hb2]; rfl
  have d1 : w2.cell? ⟨b, 1, none⟩ = some (.slice ao bs.length cap) := by rw [Lib.cell_of_heap hb2]; rfl
  have f1 : w2.frozen? ⟨b, 1, none⟩ = false := Lib.frozen_of_heap hb2 1
  obtain ⟨g, cap', rfl⟩ : ∃ g cap', v' = .slice (some ⟨g, 0, none⟩) (bs.length + (Lib.runeCells r).length) cap' := by
    rcases hown'.2 with ⟨_, h0⟩ | ⟨g, cap', cur, fz, hv, _⟩
    · omega
    · exact ⟨g, cap', hv⟩
  go_wp2
  go_ret2
  refine ⟨?_, .inr ?_, ?_, ((hk1.alloc _).grown hgrow (Lib.ownsRowF_kind (hown.alloc _))).setCell ⟨b, 1, none⟩ rfl _⟩
  · have e : ((bs.length : Int) + ((Lib.runeCells r).length : Int) - (bs.length : Int)) = ((Lib.runeCells r).length : Int) := by omega
    simp [e]
  · exact Lib.BuilderAtF.put (T := 31) (e := 5) hB hb2 (bs' := bs ++ Lib.runeCells r) (by simpa using hown') (by decide)
  · exact ((hb1.alloc (by have := hb1.size; omega) _).grown hgrow (by have := hb1.size; simp; omega) (fun k hk => (hown.lt k hk).1)).setCell (p := ⟨b, 1, none⟩) hB _
end Go.Proofs.YtkfcbafjcjmfnaaGreatDoor.Bld
namespace Go.Proofs.YtkfcbafjcjmfnaaGreatDoor.Gen
open Go.RowKit Go.Proofs.YtkfcbafjcjmfnaaGreatDoor.Row Go.Proofs.YtkfcbafjcjmfnaaGreatDoor.Repl
set_option linter.unusedVariables false
set_option linter.unusedSimpArgs false
def Asw (M : Nat) (w : World) (b : Nat) (l : List UInt8) : Prop := M ≤ b ∧ ∃ v, w.heap[b]? = some (.cells #[v] 196 (0, 0)) ∧ w.ownsRowF M 5 1 v l.length (Lib.byteCells l)
theorem Asw.lt {M b : Nat} {w : World} {l : List UInt8} (h : Asw M w b l) : b < w.heap.size := by
  obtain ⟨_, v, hb, _⟩ := h
  exact (Array.getElem?_eq_some_iff.1 hb).1
theorem ownF_of_heap {w w' : World} {M e n : Nat} {v : Value} {xs : List Value} (h : w.ownsRowF M e 1 v n xs) (hh : ∀ k, v.ownBlock = some k → w'.heap[k]? = w.heap[k]?) : w'.ownsRowF M e 1 v n xs := by
  refine ⟨h.1, ?_⟩
  rcases h.2 with hn | ⟨g, cap, cur, fz, rfl, hb, hg, rest⟩
  · exact .inl hn
  · exact .inr ⟨g, cap, cur, fz, rfl, hb, by rw [hh g rfl]; exact hg, rest⟩
theorem Asw.below {M b : Nat} {w w' : World} {l : List UInt8} (h : Asw M w b l) (hb : Below w.heap.size w w') : Asw M w' b l := by
  have hlt := h.lt
  obtain ⟨hM, v, hc, ho⟩ := h
  exact ⟨hM, v, (hb.block b hlt).trans hc, ownF_of_heap ho fun k hk => hb.block k (ho.lt k hk).2⟩
theorem Gen.below {M R : Nat} {w w' : World} (h : Gen M w R) (hb : Below w.heap.size w w') : Gen M w' R := by
  obtain ⟨T, a, b, c, d, e, h1, h2, h3, h4, h5, h6, h7, hR, hT, n1, n2, n3, n4, n5⟩ := h
  exact ⟨T, a, b, c, d, e, h1, h2, h3, h4, h5, h6, h7, hR.of (hb.block _ hR.lt), hT.of (hb.block _ hT.lt), n1.of (hb.block _ n1.lt), n2.of (hb.block _ n2.lt), n3.of (hb.block _ n3.lt), n4.of (hb.block _ n4.lt), n5.of (hb.block _ n5.lt)⟩
def esc : Nat → List UInt8 → List UInt8
  | _, [] => []
  | k + 1, _ :: r => esc k r
  | 0, c :: r => match hitL (c :: r) with
    | some (v, n) => v.data.toList ++ esc (n - 1) r
    | none => c :: esc 0 r
theorem esc_nil (k : Nat) : esc k [] = [] := by cases k <;> rfl
theorem esc_drop : ∀ (l : List UInt8) (k : Nat), esc k l = esc 0 (l.drop k)
  | [], k => by rw [esc_nil, List.drop_nil, esc_nil]
  | c :: r, 0 => rfl
  | c :: r, k + 1 => by
    show esc k r = esc 0 (r.drop k)
    exact esc_drop r k
theorem hitL_pos (l : List UInt8) (v : ByteArray) (n : Nat) (h : hitL l = some (v, n)) : 1 ≤ n ∧ n ≤ l.length ∧ v.size ≤ 6 ∧ v.size ≤ 6 * n := by
  unfold hitL at h
  split at h <;> first | (injection h with h; injection h with h1 h2; subst h1; subst h2; exact ⟨by decide, by simp, by decide, by decide⟩) | exact absurd h (by simp)
theorem esc_hit (l : List UInt8) (v : ByteArray) (n : Nat) (h : hitL l = some (v, n)) : esc 0 l = v.data.toList ++ esc 0 (l.drop n) := by
  obtain ⟨hn, hl, _⟩ := hitL_pos l v n h
  cases l with
  | nil => simp at hl; omega
  | cons c r =>
    rw [show esc 0 (c :: r) = (match hitL (c :: r) with | some (v, n) => v.data.toList ++ esc (n - 1) r | none => c :: esc 0 r) from rfl, h]
    obtain ⟨m, rfl⟩ : ∃ m, n = m + 1 := ⟨n - 1, by omega⟩
    simp only [Nat.add_sub_cancel, List.drop_succ_cons]
    rw [esc_drop]
theorem esc_none (c : UInt8) (r : List UInt8) (h : hitL (c :: r) = none) : esc 0 (c :: r) = c :: esc 0 r := by
  rw [show esc 0 (c :: r) = (match hitL (c :: r) with | some (v, n) => v.data.toList ++ esc (n - 1) r | none => c :: esc 0 r) from rfl, h]
theorem esc_len : ∀ (n : Nat) (l : List UInt8), l.length ≤ n → (esc 0 l).length ≤ 6 * l.length
  | 0, l, h => by
    obtain rfl : l = [] := List.length_eq_zero_iff.1 (by omega)
    simp [esc]
  | n + 1, [], h => by simp [esc]
  | n + 1, c :: r, h => by
    cases hh : hitL (c :: r) with
    | none =>
      rw [esc_none c r hh]
      have := esc_len n r (by simp at h; omega)
      simp; omega
    | some p =>
      obtain ⟨v, k⟩ := p
      obtain ⟨h1, h2, h3, h4⟩ := hitL_pos _ _ _ hh
      rw [esc_hit _ v k hh]
      have := esc_len n ((c :: r).drop k) (by rw [List.length_drop]; simp only [List.length_cons] at h h2 ⊢; omega)
      rw [List.length_append, Array.length_toList, ByteArray.size_data]
      rw [List.length_drop] at this
      omega
theorem lookup_c (M R : Nat) (s : ByteArray) (w : World) (hG : Gen M w R) (h160 : s[0]? ≠ some 160) :
    Calls Tryz.prog 174 #[.pointer (some ⟨R, 0, none⟩), .string s, .bool false] w fun x w' => x = .returned (.tuple (match hitL s.data.toList with | some (v, n) => #[.string v, .int .i64 (n : Int), .bool true] | none => #[.string ⟨#[]⟩, .int .i64 0, .bool false])) ∧ ∃ n, w' = w.drewN n := by
  obtain ⟨T, a, b, c, d, e, h1, h2, h3, h4, h5, h6, h7, hR, hT, n1, n2, n3, n4, n5⟩ := hG
  obtain ⟨m1, m2, m3, m4, m5⟩ := mapping_at
  by_cases hz : s.size = 0
  · have hl : s.data.toList = [] := List.length_eq_zero_iff.1 (by simpa using hz)
    rw [hl]
    exact lookup_none R s w T hR (.inl hz)
  · have hs : 1 ≤ s.size := by omega
    obtain ⟨x, r, hl⟩ : ∃ x r, s.data.toList = x :: r := by
      cases hd : s.data.toList with
      | nil => exact absurd (by rw [← ByteArray.size_data, ← Array.length_toList, hd]; rfl) hz
      | cons x r => exact ⟨x, r, rfl⟩
    have hx : s[0]'(by omega) = x := by
      have : s.data.toList[0]'(by rw [hl]; simp) = x := by simp [hl]
      exact this
    have hx2 : s[0]? = some x := by rw [getElem?_pos s 0 (by omega), hx]
    rw [hx2] at h160
    have h256 := UInt8.toNat_lt x
    rw [hl]
    by_cases e1 : x = 38
    · subst e1
      exact lookup_one R s 0 ⟨#[38, 97, 109, 112, 59]⟩ 8 w hs T a _ hR hT (by rw [hx]; exact m1) (by decide) rfl n1 (by decide) (by decide)
    by_cases e2 : x = 60
    · subst e2
      exact lookup_one R s 1 ⟨#[38, 108, 116, 59]⟩ 6 w hs T b _ hR hT (by rw [hx]; exact m2) (by decide) rfl n2 (by decide) (by decide)
    by_cases e3 : x = 62
    · subst e3
      exact lookup_one R s 2 ⟨#[38, 103, 116, 59]⟩ 4 w hs T c _ hR hT (by rw [hx]; exact m3) (by decide) rfl n3 (by decide) (by decide)
    by_cases e4 : x = 194
    · subst e4
      refine (lookup_two R s ⟨#[38, 110, 98, 115, 112, 59]⟩ w hs T d e _ hR hT (by rw [hx]; exact m5) rfl n4 n5).mono ?_
      rintro y w' ⟨rfl, hw⟩
      refine ⟨?_, hw⟩
      have hs1 : s[1]? = r[0]? := by
        have : s[1]? = s.data.toList[1]? := by simp [getElem?_def, ByteArray.size_data]; rfl
        rw [this, hl]; rfl
      rw [hs1]
      cases r with
      | nil => rfl
      | cons y r =>
        by_cases hy : y = 160
        · subst hy; rfl
        · rw [if_neg (by simpa using hy)]
          have : hitL (194 :: y :: r) = none := by
            unfold hitL
            split <;> simp_all
          rw [this]
    · have hm : mapping x.toNat = 5 := by
        have ne : ∀ k : UInt8, x ≠ k → x.toNat ≠ k.toNat := fun k h e => h (UInt8.toNat_inj.1 e)
        exact mapping_else _ h256 (ne 38 e1) (ne 60 e2) (ne 62 e3) (ne 160 (by simpa using h160)) (ne 194 e4)
      have : hitL (x :: r) = none := by
        unfold hitL
        split <;> simp_all
      rw [this]
      exact lookup_none R s w T hR (.inr ⟨hs, by rw [hx]; exact hm⟩)
set_option maxHeartbeats 2000000 in
set_option maxRecDepth 100000 in
theorem asw_WriteString (M b : Nat) (l : List UInt8) (s : ByteArray) (w : World) (h : Asw M w b l) (hlen : l.length + s.size ≤ 140737488355328) (hM : M ≤ w.heap.size) :
    Calls Tryz.prog 184 #[.pointer (some ⟨b, 0, none⟩), .string s] w fun e w' => e = .returned (.tuple #[.int .i64 s.size, .nilIface]) ∧ Asw M w' b (l ++ s.data.toList) ∧ Below M w w' := by
  obtain ⟨i0, hi, hz0, hz1, hz2⟩ := info_parts infoByte
  obtain ⟨hMb, v, hb, hown⟩ := h
  have c0 : w.cell? ⟨b, 0, none⟩ = some v := by rw [Lib.cell_of_heap hb]; rfl
  go_enter Tryz.func184, Tryz.ntmps184
  go_wp2_with (at_builtin; refine Lib.wpList_append_own_stringF _ rfl _ _ 196 9 rfl M 5 i0 Tryz.underlying196 Tryz.underlying9 hi hz0 hz1 hz2 _ _ _ rfl hown s rfl ?c3 ?c4 ?c5 ?_)
  case c3 => unfold maxLen; omega
  case c4 => omega
  case c5 => omega
  intro v' w2 hown' hgrow _
  have hlt : b < w.heap.size := (Array.getElem?_eq_some_iff.1 hb).1
  have hne : v.ownBlock ≠ some b := Lib.ownBlock_neF hown hb (by decide)
  have hb2 : w2.heap[b]? = some (.cells #[v] 196 (0, 0)) := by
    rw [hgrow.block b hlt (fun e => hne e.symm)]
    exact hb
  have d0 : w2.cell? ⟨b, 0, none⟩ = some v := by rw [Lib.cell_of_heap hb2]; rfl
  have f1 : w2.frozen? ⟨b, 0, none⟩ = false := Lib.frozen_of_heap hb2 0
  obtain ⟨ao, n', cap, rfl⟩ : ∃ ao n' cap, v' = .slice ao n' cap := by
    rcases hown'.2 with ⟨hv, _⟩ | ⟨g, cap, cur, fz, hv, _⟩
    · exact ⟨_, _, _, hv⟩
    · exact ⟨_, _, _, hv⟩
  have HO := Lib.hid hown'; have HG := Lib.hid hgrow; have HB2 := Lib.hid hb2
  clear hown' hgrow hb2
  go_wp2
  go_ret2
  have hne2 : (Value.slice ao n' cap).ownBlock ≠ some b := Lib.ownBlock_neF HO.out HB2.out (by decide)
  refine ⟨rfl, ⟨hMb, _, setCell_heap_at _ _ _ _ _ _ _ HB2.out, ?_⟩, ?_⟩
  · have e : l.length + s.size = (l ++ s.data.toList).length := by simp
    have e2 : Lib.byteCells l ++ Lib.strCells s = Lib.byteCells (l ++ s.data.toList) := by simp [Lib.byteCells, Lib.strCells]
    rw [← e, ← e2]
    exact ownF_of_heap HO.out fun k hk => setCell_heap_ne _ _ _ _ _ (by rintro rfl; exact hne2 hk)
  · exact (Repl.below_grown (Below.refl _ _) HG.out (fun j hj => (hown.lt j hj).1) hM).setCell (p := ⟨b, 0, none⟩) hMb _
theorem fast_none (x : UInt8) (r : List UInt8) (e1 : x ≠ 38) (e2 : x ≠ 60) (e3 : x ≠ 62) (e4 : x ≠ 194) : hitL (x :: r) = none := by
  unfold hitL
  split <;> simp_all
theorem fast_map (x : UInt8) (e1 : x ≠ 38) (e2 : x ≠ 60) (e3 : x ≠ 62) (e4 : x ≠ 194) : mapping x.toNat = 5 ∨ mapping x.toNat = 3 := by
  obtain ⟨m1, m2, m3, m4, m5⟩ := mapping_at
  have h256 := UInt8.toNat_lt x
  have ne : ∀ k : UInt8, x ≠ k → x.toNat ≠ k.toNat := fun k h e => h (UInt8.toNat_inj.1 e)
  by_cases h : x = 160
  · subst h; exact .inr m4
  · exact .inl (mapping_else _ h256 (ne 38 e1) (ne 60 e2) (ne 62 e3) (ne 160 h) (ne 194 e4))
end Go.Proofs.YtkfcbafjcjmfnaaGreatDoor.Gen
namespace Go.Proofs.YtkfcbafjcjmfnaaGreatDoor
open Go.RowKit Go.Proofs.YtkfcbafjcjmfnaaGreatDoor.Row
set_option linter.unusedVariables false
set_option linter.unusedSimpArgs false
theorem of_guard {α : Type} {c : Prop} [Decidable c] {x r : α} (h : (if c then some x else none) = some r) : c ∧ x = r := by
  split at h
  · rename_i hc; exact ⟨hc, Option.some.inj h⟩
  · cases h
theorem guard_of {α : Type} {c : Prop} [Decidable c] {x : α} (h : c) : (if c then some x else none) = some x := if_pos h
def lowC (c : UInt8) : UInt8 := if 65 ≤ c.toNat ∧ c.toNat ≤ 90 then (c.toNat + 32).toUInt8 else c
def lowS (s : ByteArray) : ByteArray := ⟨(s.data.toList.map lowC).toArray⟩
def lowTo (l : List UInt8) (k : Nat) : List UInt8 := (l.take k).map lowC ++ l.drop k
theorem lowTo_zero (l : List UInt8) : lowTo l 0 = l := by simp [lowTo]
theorem lowTo_length (l : List UInt8) (k : Nat) : (lowTo l k).length = l.length := by simp [lowTo]; omega
theorem lowTo_all (l : List UInt8) (k : Nat) (h : l.length ≤ k) : lowTo l k = l.map lowC := by simp [lowTo, List.take_of_length_le h, List.drop_eq_nil_of_le h]
theorem lowTo_get (l : List UInt8) (k : Nat) (h : k < l.length) : (lowTo l k)[k]'(by rw [lowTo_length]; exact h) = l[k] := by
  simp only [lowTo]
  rw [List.getElem_append_right (by simp; omega)]
  simp [List.getElem_drop, Nat.min_eq_left (Nat.le_of_lt h)]
theorem lowTo_succ (l : List UInt8) (k : Nat) (h : k < l.length) : lowTo l (k + 1) = (lowTo l k).set k (lowC l[k]) := by
  simp only [lowTo]
  rw [List.set_append_right _ _ (by simp; omega)]
  simp only [List.length_map, List.length_take, Nat.min_eq_left (Nat.le_of_lt h), Nat.sub_self]
  rw [List.take_succ_eq_append_getElem h, List.drop_eq_getElem_cons h, List.map_append, List.append_assoc]
  rfl
theorem lowTo_same (l : List UInt8) (k : Nat) (h : k < l.length) (hc : lowC l[k] = l[k]) : lowTo l (k + 1) = lowTo l k := by
  rw [lowTo_succ l k h, hc, ← lowTo_get l k h, List.set_getElem_self]
theorem lowC_yes (c : UInt8) (h1 : 65 ≤ c.toNat) (h2 : c.toNat ≤ 90) : ((lowC c).toNat : Int) = (c.toNat : Int) - 65 + 97 := by
  simp only [lowC, h1, h2, and_self, if_true]
  have : ((c.toNat + 32).toUInt8).toNat = c.toNat + 32 := by
    show (UInt8.ofNat (c.toNat + 32)).toNat = _
    rw [UInt8.toNat_ofNat']; omega
  omega
theorem lowC_yes' (c : UInt8) (h1 : 65 ≤ c.toNat) (h2 : c.toNat ≤ 90) : ((lowC c).toNat : Int) = (c.toNat : Int) + 32 := by
  have := lowC_yes c h1 h2; omega
theorem lowC_no (c : UInt8) (h : c.toNat < 65 ∨ 90 < c.toNat) : lowC c = c := by
  simp only [lowC]; rw [if_neg (by omega)]
def chars_small.f (s : ByteArray) : Option ByteArray := if s.size ≤ 9223372036854775807 then some (lowS s) else none
set_option maxRecDepth 100000 in
set_option maxHeartbeats 1000000 in
theorem chars_small.calls (s r : ByteArray) (w : World) (h : chars_small.f s = some r) :
    Calls Tryz.prog 91 #[.string s] w fun e w' => e = .returned (.string r) ∧ Below w.heap.size w w' := by
  obtain ⟨hs, rfl⟩ := of_guard h
  obtain ⟨cap, o, hconv, hrow⟩ := Row.run_conv (P := Tryz.prog) w 9 29 5 s Tryz.underlying9 Tryz.underlying29 Tryz.underlying5
  have HR := Lib.hid hrow; clear hrow h
  go_enter Tryz.func91, Tryz.ntmps91
  go_wp2
  go_loopw [10] (fun i wr => ∃ k : Nat, k ≤ s.size ∧ i = .int .i64 k ∧ Row 5 wr w.heap.size (lowTo s.data.toList k) ∧ Below w.heap.size w wr) (fun i _ => s.size - (intOf i).toNat)
  case atStart => exact ⟨0, Nat.zero_le _, rfl, by rw [lowTo_zero]; exact HR.out, ((Below.refl _ _).alloc (Nat.le_refl _) _).drew⟩
  case round =>
    obtain ⟨k, hk, rfl, hrow, hb⟩ := hrel
    have hl : s.data.toList.length = s.size := by simp
    by_cases hlt : k < s.size
    · have hlt2 : k < s.data.toList.length := by omega
      have hlt3 : k < (lowTo s.data.toList k).length := by rw [lowTo_length]; exact hlt2
      have hc := hrow.cell k hlt3
      have hf := hrow.frozen k hlt3
      have hset := hrow.set k (lowC s.data.toList[k]) hlt3
      rw [← lowTo_succ _ _ hlt2] at hset
      rw [lowTo_get _ _ hlt2] at hc
      have hsame := lowTo_same s.data.toList k hlt2
      have hyes := lowC_yes s.data.toList[k]
      have hno := lowC_no s.data.toList[k]
      have h256 : s.data.toList[k].toNat < 256 := UInt8.toNat_lt _
      generalize hcc : s.data.toList[k] = c at *
      have HS := Lib.hid hset; have HY := Lib.hid hyes; have HN := Lib.hid hno; have HE := Lib.hid hsame; have HR2 := Lib.hid hrow; have HL := Lib.hid hl
      clear hset hyes hno hsame hrow hl hcc HR
      by_cases c1 : 65 ≤ c.toNat ∧ c.toNat ≤ 90
      · obtain ⟨c1, c2⟩ := c1
        go_wp2
        go_roundw
        case rel => exact ⟨k + 1, by omega, by go_num, by have := HS.out; rw [HY.out c1 c2] at this; exact this, hb.setCell (p := ⟨w.heap.size, k, none⟩) (Nat.le_refl _) _⟩
        case measure => simp [intOf]; omega
      · have hce := HN.out (by omega)
        have HS2 : Hid (lowTo s.data.toList (k + 1) = lowTo s.data.toList k) := Lib.hid (HE.out hce)
        clear HE hce HS HY HN
        have c3 : c.toNat < 65 ∨ 90 < c.toNat := by omega
        rcases c3 with c3 | c3
        all_goals
          clear c1
          go_wp2
          go_roundw
          case rel => exact ⟨k + 1, by omega, by go_num, by rw [HS2.out]; exact HR2.out, hb⟩
          case measure => simp [intOf]; omega
    · have hk2 : k = s.size := by omega
      subst hk2
      rw [lowTo_all _ _ (by omega)] at hrow
      have hback := hrow.back (P := Tryz.prog) 29 9 cap Tryz.underlying29 Tryz.underlying5 Tryz.underlying9
      simp only [List.length_map] at hback
      rw [hl] at hback
      clear hrow HR hl
      go_wp2
      go_ret
      exact ⟨rfl, hb⟩
def muslinref03_Small.f (s : ByteArray) : Option ByteArray := if s.size ≤ 9223372036854775807 then some (lowS s) else none
set_option maxRecDepth 100000 in
set_option maxHeartbeats 1000000 in
theorem muslinref03_Small.calls (s r : ByteArray) (w : World) (h : muslinref03_Small.f s = some r) :
    Calls Tryz.prog 102 #[.string s] w fun e w' => e = .returned (.string r) ∧ Below w.heap.size w w' := by
  obtain ⟨hs, rfl⟩ := of_guard h
  obtain ⟨cap, o, hconv, hrow⟩ := Row.run_conv (P := Tryz.prog) w 9 29 5 s Tryz.underlying9 Tryz.underlying29 Tryz.underlying5
  have HR := Lib.hid hrow; clear hrow h
  go_enter Tryz.func102, Tryz.ntmps102
  go_wp2
  go_loopw [4] (fun i wr => ∃ k : Nat, k ≤ s.size ∧ i = .int .i64 k ∧ Row 5 wr w.heap.size (lowTo s.data.toList k) ∧ Below w.heap.size w wr) (fun i _ => s.size - (intOf i).toNat)
  case atStart => exact ⟨0, Nat.zero_le _, rfl, by rw [lowTo_zero]; exact HR.out, ((Below.refl _ _).alloc (Nat.le_refl _) _).drew⟩
  case round =>
    obtain ⟨k, hk, rfl, hrow, hb⟩ := hrel
    have hl : s.data.toList.length = s.size := by simp
    by_cases hlt : k < s.size
    · have hlt2 : k < s.data.toList.length := by omega
      have hlt3 : k < (lowTo s.data.toList k).length := by rw [lowTo_length]; exact hlt2
      have hc := hrow.cell k hlt3
      have hf := hrow.frozen k hlt3
      have hset := hrow.set k (lowC s.data.toList[k]) hlt3
      rw [← lowTo_succ _ _ hlt2] at hset
      rw [lowTo_get _ _ hlt2] at hc
      have hsame := lowTo_same s.data.toList k hlt2
      have hyes := lowC_yes' s.data.toList[k]
      have hno := lowC_no s.data.toList[k]
      have h256 : s.data.toList[k].toNat < 256 := UInt8.toNat_lt _
      generalize hcc : s.data.toList[k] = c at *
      have HS := Lib.hid hset; have HY := Lib.hid hyes; have HN := Lib.hid hno; have HE := Lib.hid hsame; have HR2 := Lib.hid hrow; have HL := Lib.hid hl
      clear hset hyes hno hsame hrow hl hcc HR
      by_cases c1 : 65 ≤ c.toNat ∧ c.toNat ≤ 90
      · obtain ⟨c1, c2⟩ := c1
        go_wp2
        go_roundw
        case rel => exact ⟨k + 1, by omega, by go_num, by have := HS.out; rw [HY.out c1 c2] at this; exact this, hb.setCell (p := ⟨w.heap.size, k, none⟩) (Nat.le_refl _) _⟩
        case measure => simp [intOf]; omega
      · have hce := HN.out (by omega)
        have HS2 : Hid (lowTo s.data.toList (k + 1) = lowTo s.data.toList k) := Lib.hid (HE.out hce)
        clear HE hce HS HY HN
        have c3 : c.toNat < 65 ∨ 90 < c.toNat := by omega
        rcases c3 with c3 | c3
        all_goals
          clear c1
          go_wp2
          go_roundw
          case rel => exact ⟨k + 1, by omega, by go_num, by rw [HS2.out]; exact HR2.out, hb⟩
          case measure => simp [intOf]; omega
    · have hk2 : k = s.size := by omega
      subst hk2
      rw [lowTo_all _ _ (by omega)] at hrow
      have hback := hrow.back (P := Tryz.prog) 29 9 cap Tryz.underlying29 Tryz.underlying5 Tryz.underlying9
      simp only [List.length_map] at hback
      rw [hl] at hback
      clear hrow HR hl
      go_wp2
      go_ret
      exact ⟨rfl, hb⟩
end Go.Proofs.YtkfcbafjcjmfnaaGreatDoor
namespace Go.Proofs.YtkfcbafjcjmfnaaGreatDoor
open Go.RowKit Go.Shelf Go.Lib
set_option linter.unusedVariables false
set_option linter.unusedSimpArgs false
theorem bdrewN {B : Nat} {w0 w : World} (h : Below B w0 w) (n : Nat) : Below B w0 (w.drewN n) := ⟨h.os, h.tape, h.output, h.size, h.block⟩
def asciiB (c : ByteArray) : Bool := c.data.toList.all fun b => b.toNat < 128
def strings_Trim.f (s c : ByteArray) : Option ByteArray :=
  if s.size ≤ 9223372036854775807 ∧ c.size < 4294967281 ∧ asciiB c = true then some ⟨(Lib.trimS s.data.toList c.data.toList).toArray⟩ else none
theorem strings_Trim.calls (s c r : ByteArray) (w : World) (h : strings_Trim.f s c = some r) :
    Calls Tryz.prog 92 #[.string s, .string c] w fun e w' => e = .returned (.string r) ∧ Below w.heap.size w w' := by
  obtain ⟨⟨h1, h2, h3⟩, rfl⟩ := of_guard h
  refine Any.strings_Trim_laid Tryz.lays160 (by kernel_rfl) s c w h1 h2 (fun j b hb => ?_)
  have := List.all_eq_true.1 h3 b (List.mem_of_getElem? hb)
  simpa using this
def cutL (c : UInt8) (l : List UInt8) : List UInt8 × List UInt8 × Bool := if c ∈ l then (l.takeWhile (· != c), (l.dropWhile (· != c)).drop 1, true) else (l, [], false)
theorem index_split (c : UInt8) : ∀ l : List UInt8, (c ∈ l → ∃ i : Nat, Lib.indexByte l c = (i : Int) ∧ i < l.length ∧ l.take i = l.takeWhile (· != c) ∧ l.drop (i + 1) = (l.dropWhile (· != c)).drop 1) ∧ (c ∉ l → Lib.indexByte l c = -1)
  | [] => ⟨fun h => by simp at h, fun _ => rfl⟩
  | b :: l => by
    obtain ⟨h1, h2⟩ := index_split c l
    by_cases hb : b = c
    · subst hb
      refine ⟨fun _ => ⟨0, by simp [Lib.indexByte], by simp, by simp, by simp⟩, fun h => absurd (by simp) h⟩
    · have hb1 : (b == c) = false := by simpa using hb
      have hb2 : (b != c) = true := by simpa using hb
      constructor
      · intro h
        have hm : c ∈ l := by
          rcases List.mem_cons.1 h with h | h
          · exact absurd h.symm hb
          · exact h
        obtain ⟨i, e1, e2, e3, e4⟩ := h1 hm
        refine ⟨i + 1, ?_, by simp only [List.length_cons]; omega, ?_, ?_⟩
        · have : ¬ ((i : Int) == -1) = true := by simp <;> omega
          simp only [Lib.indexByte, hb1, e1, Bool.false_eq_true, if_false, this]
          omega
        · rw [List.take_succ_cons, List.takeWhile_cons, if_pos (by exact hb2), e3]
        · rw [List.drop_succ_cons, List.dropWhile_cons, if_pos (by exact hb2), e4]
      · intro h
        have hm : c ∉ l := fun h' => h (by simp [h'])
        simp [Lib.indexByte, hb1, h2 hm]
theorem extract_l (s : ByteArray) (i j : Nat) : s.extract i j = ⟨((s.data.toList.take j).drop i).toArray⟩ := by
  apply ByteArray.ext
  apply Array.ext'
  simp [List.drop_take]
theorem one_byte {p : ByteArray} (h : p.size = 1) : ∃ c, p = ⟨#[c]⟩ := by
  obtain ⟨⟨l⟩⟩ := p
  match l, h with
  | [c], _ => exact ⟨c, rfl⟩
def strings_Cut.f (s p : ByteArray) : Option (ByteArray × ByteArray × Bool) :=
  if p.size = 1 ∧ s.size ≤ 9223372036854775000 then some (⟨(cutL (p.data.toList.getD 0 0) s.data.toList).1.toArray⟩, ⟨(cutL (p.data.toList.getD 0 0) s.data.toList).2.1.toArray⟩, (cutL (p.data.toList.getD 0 0) s.data.toList).2.2) else none
set_option maxHeartbeats 1000000 in
theorem slite_cut (s : ByteArray) (c : UInt8) (hs : s.size ≤ 9223372036854775000) (w : World) :
    Calls Tryz.prog 33 #[.string s, .string ⟨#[c]⟩] w fun e w' => e = .returned (.tuple #[.string ⟨(cutL c s.data.toList).1.toArray⟩, .string ⟨(cutL c s.data.toList).2.1.toArray⟩, .bool (cutL c s.data.toList).2.2]) ∧ ∃ n, w' = w.drewN n := by
  have hsl : s.data.toList.length = s.size := by simp
  have IX := Lib.hid (Tryz.stringslite_Index_one s c)
  have hz1 : (⟨#[c]⟩ : ByteArray).size = 1 := rfl
  by_cases hm : c ∈ s.data.toList
  · obtain ⟨i, e1, e2, e3, e4⟩ := (index_split c s.data.toList).1 hm
    have i1 : (i : Int) ≤ (s.size : Int) := by omega
    have i2 : i ≤ s.size := by omega
    have i3 : i + 1 ≤ s.size := by omega
    have i4 : (i : Int) + 1 ≤ (s.size : Int) := by omega
    have w1 : IntKind.i64.wrap ((i : Int) + 1) = (i : Int) + 1 := IntWalk.i64_in _ (by omega)
    have x1 : s.extract 0 i = ⟨(cutL c s.data.toList).1.toArray⟩ := by
      unfold cutL; rw [if_pos hm, extract_l, List.drop_zero, e3]
    have x2 : s.extract (i + 1) s.size = ⟨(cutL c s.data.toList).2.1.toArray⟩ := by
      unfold cutL; rw [if_pos hm, extract_l, List.take_of_length_le (by omega), e4]
    have x3 : (cutL c s.data.toList).2.2 = true := by unfold cutL; rw [if_pos hm]
    rw [e1] at IX
    have t1 : ((i : Int) + 1).toNat = i + 1 := by omega
    generalize hos : (⟨#[c]⟩ : ByteArray) = os at *
    generalize cutL c s.data.toList = ct at *
    have X1 := Lib.hid x1; have X2 := Lib.hid x2; have X3 := Lib.hid x3
    clear hsl e1 e2 e3 e4 x1 x2 x3 hm hos
    go_enter Tryz.func33, Tryz.ntmps33
    go_wp2_with (go_at_call 44; refine (IX.out _).mono ?_; rintro e w' ⟨rfl, rfl⟩)
    go_quiet (fail)
    rename_i nq
    go_wp2_with fail
    go_ret3
    exact ⟨by rw [X1.out, X2.out, X3.out]; rfl, nq, rfl⟩
  · have e1 := (index_split c s.data.toList).2 hm
    rw [e1] at IX
    have x1 : cutL c s.data.toList = (s.data.toList, [], false) := by unfold cutL; rw [if_neg hm]
    have X1 := Lib.hid x1
    generalize hos : (⟨#[c]⟩ : ByteArray) = os at *
    clear hsl e1 hm x1 hos
    go_enter Tryz.func33, Tryz.ntmps33
    go_wp2_with (go_at_call 44; refine (IX.out _).mono ?_; rintro e w' ⟨rfl, rfl⟩)
    go_ret3
    exact ⟨by rw [X1.out]; exact congrArg Ending.returned (congrArg Value.tuple (by congr 1)), 0, rfl⟩
theorem strings_Cut.calls (s p r1 r2 : ByteArray) (r3 : Bool) (w : World) (h : strings_Cut.f s p = some (r1, r2, r3)) :
    Calls Tryz.prog 19 #[.string s, .string p] w fun e w' => e = .returned (.tuple #[.string r1, .string r2, .bool r3]) ∧ Below w.heap.size w w' := by
  obtain ⟨⟨h1, h2⟩, h⟩ := of_guard h
  obtain ⟨c, rfl⟩ := one_byte h1
  injection h with e1 h
  injection h with e2 e3
  subst e1 e2 e3
  have SC := Lib.hid (slite_cut s c h2 w)
  have hg : (⟨#[c]⟩ : ByteArray).data.toList.getD 0 0 = c := rfl
  rw [hg]
  clear h1 h2 hg
  go_enter Tryz.func19, Tryz.ntmps19
  go_wp2_with (go_at_call 33; refine SC.out.mono ?_; rintro e w' ⟨rfl, n, rfl⟩)
  go_ret3
  exact ⟨rfl, ⟨rfl, rfl, rfl, Nat.le_refl _, fun _ _ => rfl⟩⟩
end Go.Proofs.YtkfcbafjcjmfnaaGreatDoor
namespace Go.Proofs.YtkfcbafjcjmfnaaGreatDoor
open Go.RowKit Go.Shelf Go.Lib
set_option linter.unusedVariables false
set_option linter.unusedSimpArgs false
def validFrom (s : ByteArray) : Nat → Nat → List UInt8
  | 0, _ => []
  | fuel + 1, pos => if pos < s.size then Lib.encodeRune (Utf8.decode s pos).1 ++ validFrom s fuel (pos + (Utf8.decode s pos).2) else []
def validS (s : ByteArray) : ByteArray := ⟨(validFrom s s.size 0).toArray⟩
theorem width_pos (s : ByteArray) (pos : Nat) (h : pos < s.size) : 1 ≤ (Utf8.decode s pos).2 := by
  by_cases ha : (s[pos]'h).toNat < 128
  · rw [decode_ascii s pos h ha]
    exact Nat.le_refl _
  · exact (decode_high s pos h (by omega)).2
theorem validFrom_end (s : ByteArray) (fuel pos : Nat) (h : ¬ pos < s.size) : validFrom s fuel pos = [] := by
  cases fuel with
  | zero => rfl
  | succ f => simp [validFrom, h]
def chars_Valid.f (s : ByteArray) : Option ByteArray := if s.size ≤ 35184372088832 then some (validS s) else none
theorem appendRune (B : Nat) (v : Value) (n : Nat) (xs : List Value) (r : Int) (hr0 : -2147483648 ≤ r) (hr1 : r ≤ 2147483647) (w : World) (hown : w.ownsRowF B 5 1 v n xs) (hlen : n + 4 ≤ 140737488355328) (hBw : B ≤ w.heap.size) :
    Calls Tryz.prog 113 #[v, .int .i32 r] w fun e w' => ∃ v', e = .returned v' ∧ w'.ownsRowF B 5 1 v' (n + (Lib.runeCells r).length) (xs ++ Lib.runeCells r) ∧ ∃ o, (w.alloc o).grownBy w' v.ownBlock :=
  Tryz.utf8_AppendRune_row B v n xs r hr0 hr1 w hown hlen hBw
theorem writeRune (B b : Nat) (bs : List Value) (r : Int) (hr0 : -2147483648 ≤ r) (hr1 : r ≤ 2147483647) (w : World) (h : Lib.IsBuilderF 31 5 B b bs w) (hlen : bs.length + 4 ≤ 140737488355328) (hBw : B ≤ w.heap.size) :
    Calls Tryz.prog 93 #[.pointer (some ⟨b, 0, none⟩), .int .i32 r] w fun e w' => e = .returned (.tuple #[.int .i64 (Lib.runeCells r).length, .nilIface]) ∧ (Lib.IsBuilderF 31 5 B b (bs ++ Lib.runeCells r) w' ∧ Below B w w' ∧ Lib.OthersKept 5 (some b) w w') :=
  Bld.WriteRune_k appendRune B b bs r hr0 hr1 w h hlen hBw
set_option maxHeartbeats 4000000 in
set_option maxRecDepth 1000000 in
theorem chars_Valid.calls (s r : ByteArray) (w : World) (h : chars_Valid.f s = some r) :
    Calls Tryz.prog 70 #[.string s] w fun e w' => e = .returned (.string r) ∧ Below w.heap.size w w' := by
  obtain ⟨hs, rfl⟩ := of_guard h
  clear h
  go_enter Tryz.func70, Tryz.ntmps70
  go_wp2
  go_loopw [] (fun wr => ∃ (pos fuel : Nat) (acc : List UInt8), Lib.IsBuilderF 31 5 w.heap.size w.heap.size (Lib.byteCells acc) wr ∧ wr.heap[w.heap.size + 1]? = some (.stringIter s pos) ∧ Below w.heap.size w wr ∧ acc ++ validFrom s fuel pos = validFrom s s.size 0 ∧ s.size ≤ pos + fuel ∧ acc.length ≤ 4 * pos) (fun wr => s.size - wr.iterPos (w.heap.size + 1))
  case atStart =>
    refine ⟨0, s.size, [], (Lib.IsBuilderF.of (Lib.fresh_isBuilder 31 5 w)).alloc _, ?_, ((Below.refl _ w).alloc (Nat.le_refl _) _).alloc (by simp) _, rfl, by omega, by simp⟩
    have := World.iter_heap (w.alloc (.cells #[.pointer none, .slice none 0 0] 31)) s 0
    simpa using this
  case round =>
    obtain ⟨pos, fuel, acc, hI, hit, hbw, hacc, hfu, hal⟩ := hrel
    have hsz : w.heap.size + 1 < wr.heap.size := (Array.getElem?_eq_some_iff.1 hit).1
    by_cases hp : pos < s.size
    · have hnx : ∀ ty, (Instr.next (.pointer (some ⟨w.heap.size + 1, 0, none⟩)) true ty).run Tryz.prog wr = _ := fun ty => Lib.run_next_any_at wr (w.heap.size + 1) s pos ty hit hp
      have hwd := width_pos s pos hp
      have hd1 := decode_le s pos
      have hI2 := hI.iterAt hit (pos + (Utf8.decode s pos).2)
      have hit2 := Lib.iterAt_heap wr (w.heap.size + 1) s pos (pos + (Utf8.decode s pos).2) hit
      have hbw2 := Lib.below_iterAt hbw (k := w.heap.size + 1) (by omega) s (pos + (Utf8.decode s pos).2)
      have hsz2 : w.heap.size ≤ (wr.iterAt (w.heap.size + 1) s (pos + (Utf8.decode s pos).2)).heap.size := by rw [Lib.iterAt_size]; omega
      obtain ⟨f, rfl⟩ : ∃ f, fuel = f + 1 := ⟨fuel - 1, by omega⟩
      go_wp2_with (go_at_call 93; refine (writeRune w.heap.size w.heap.size _ _ (by omega) (by omega) _ hI2 (by rw [Lib.byteCells_length]; omega) hsz2).mono ?_; rintro e W1 ⟨rfl, h1, b1, k1⟩)
      go_roundw
      case rel =>
        have hl4 := Lib.runeCells_le ((Utf8.decode s pos).1 : Int)
        rw [Lib.runeCells_length] at hl4
        refine ⟨pos + (Utf8.decode s pos).2, f, acc ++ Lib.encodeRune (Utf8.decode s pos).1, ?_, k1.iter hit2 (by omega), hbw2.trans b1, ?_, by omega, by simp; omega⟩
        · rw [Lib.byteCells_append, Lib.byteCells_encodeRune]; exact h1
        · rw [← hacc]; simp [validFrom, hp]
      case measure =>
        simp only [World.iterPos, k1.iter hit2 (by omega), hit]
        omega
    · have hnx : ∀ ty, (Instr.next (.pointer (some ⟨w.heap.size + 1, 0, none⟩)) true ty).run Tryz.prog wr = _ := fun ty => Lib.run_next_end_at wr (w.heap.size + 1) s pos ty hit hp
      rw [validFrom_end s fuel pos hp, List.append_nil] at hacc
      have HA := Lib.hid hacc; clear hacc
      go_wp2_with (go_at_call 21; refine (Tryz.Builder_String_any_k w.heap.size w.heap.size acc _ hI (by omega)).mono ?_; rintro e W1 ⟨rfl, _, b1, _⟩)
      go_ret
      exact ⟨by rw [HA.out]; rfl, hbw.trans b1⟩
def highTab : List Int := [0x20ac, 0x81, 0x201a, 0x192, 0x201e, 0x2026, 0x2020, 0x2021, 0x2c6, 0x2030, 0x160, 0x2039, 0x152, 0x8d, 0x17d, 0x8f, 0x90, 0x2018, 0x2019, 0x201c, 0x201d, 0x2022, 0x2013, 0x2014, 0x2dc, 0x2122, 0x161, 0x203a, 0x153, 0x9d, 0x17e, 0x178]
def TabHigh (w : World) : Prop := Lib.TabIs Tryz.prog w "muslin/chars.high" .i32 highTab
theorem TabHigh.below {w w1 : World} (h : TabHigh w) (hb : Below w.heap.size w w1) : TabHigh w1 := by
  unfold TabHigh Lib.TabIs at *
  have hlt : 2 < w.heap.size := by
    rcases Nat.lt_or_ge 2 w.heap.size with h' | h'
    · exact h'
    · rw [World.var?, show Tryz.prog.globalNamed "muslin/chars.high" = some 2 from by kernel_rfl] at h
      simp [Array.getElem?_eq_none h'] at h
  exact Go.var?_below hb (show Tryz.prog.globalNamed "muslin/chars.high" = some 2 from by kernel_rfl) hlt h
theorem TabHigh.at {w : World} (h : TabHigh w) (j : Nat) (hj : j < 32) : w.cell? ⟨2, j, none⟩ = some (.int .i32 (highTab.getD j 0)) := by
  have := Lib.TabIs.cell h (show Tryz.prog.globalNamed "muslin/chars.high" = some 2 from by kernel_rfl) j hj
  exact this
def hiC (c : UInt8) : Int := if 128 ≤ c.toNat ∧ c.toNat < 160 then highTab.getD (c.toNat - 128) 0 else c.toNat
def singlesL (l : List UInt8) : List UInt8 := l.flatMap fun c => Lib.encodeRune (hiC c)
def chars_singles.f (s : ByteArray) : Option ByteArray := if s.size ≤ 35184372088832 then some ⟨(singlesL s.data.toList).toArray⟩ else none
theorem hiC_range (c : UInt8) : 0 ≤ hiC c ∧ hiC c ≤ 65535 := by
  unfold hiC
  split
  · rename_i h
    have : ∀ j, j < 32 → 0 ≤ highTab.getD j 0 ∧ highTab.getD j 0 ≤ 65535 := by decide
    exact this _ (by omega)
  · have := UInt8.toNat_lt c; omega
set_option maxHeartbeats 4000000 in
set_option maxRecDepth 1000000 in
theorem chars_singles.calls' (s r : ByteArray) (w : World) (hGl : TabHigh w) (h : chars_singles.f s = some r) :
    Calls Tryz.prog 68 #[.string s] w fun e w' => e = .returned (.string r) ∧ Below w.heap.size w w' := by
  obtain ⟨hs, rfl⟩ := of_guard h
  clear h
  have HG := Lib.hid hGl; clear hGl
  go_enter Tryz.func68, Tryz.ntmps68
  go_wp2
  go_loopw [9] (fun i wr => ∃ k : Nat, k ≤ s.size ∧ i = .int .i64 k ∧ Lib.IsBuilderF 31 5 w.heap.size w.heap.size (Lib.byteCells (singlesL (s.data.toList.take k))) wr ∧ Below w.heap.size w wr ∧ w.heap.size ≤ wr.heap.size ∧ (singlesL (s.data.toList.take k)).length ≤ 4 * k) (fun i _ => s.size - (RowKit.intOf i).toNat)
  case atStart => exact ⟨0, Nat.zero_le _, rfl, Lib.IsBuilderF.of (Lib.fresh_isBuilder 31 5 w), (Below.refl _ w).alloc (Nat.le_refl _) _, by simp, by simp [singlesL]⟩
  case round =>
    obtain ⟨k, hk, rfl, hI, hb, hsz, hlen⟩ := hrel
    by_cases hlt : k < s.size
    · have hlt2 : k < s.data.toList.length := by simpa using hlt
      have hsn : singlesL (s.data.toList.take (k + 1)) = singlesL (s.data.toList.take k) ++ Lib.encodeRune (hiC s.data.toList[k]) := by
        rw [List.take_succ_eq_append_getElem hlt2]; simp [singlesL]
      have hr := hiC_range s.data.toList[k]
      have hcs : s[k] = s.data.toList[k] := rfl
      have hg := (HG.out.below hb)
      have hhc : hiC s.data.toList[k] = hiC s.data.toList[k] := rfl
      generalize hcc : s.data.toList[k] = c at *
      have h256 : c.toNat < 256 := UInt8.toNat_lt _
      have HS := Lib.hid hsn; have HI := Lib.hid hI
      have fin : ∀ W1 : World, Lib.IsBuilderF 31 5 w.heap.size w.heap.size (Lib.byteCells (singlesL (s.data.toList.take k)) ++ Lib.runeCells (hiC c)) W1 → Lib.IsBuilderF 31 5 w.heap.size w.heap.size (Lib.byteCells (singlesL (s.data.toList.take (k + 1)))) W1 ∧ (singlesL (s.data.toList.take (k + 1))).length ≤ 4 * (k + 1) := by
        intro W1 h1
        have hl4 := Lib.runeCells_le (hiC c)
        rw [Lib.runeCells_length] at hl4
        rw [HS.out, Lib.byteCells_append, Lib.byteCells_encodeRune]
        exact ⟨h1, by simp; omega⟩
      have FIN := Lib.hid fin
      clear hsn hI hcc HG hhc fin
      by_cases c1 : 128 ≤ c.toNat ∧ c.toNat < 160
      · have hcell := hg.at (c.toNat - 128) (by omega)
        have hv : highTab.getD (c.toNat - 128) 0 = hiC c := by unfold hiC; rw [if_pos c1]
        rw [hv] at hcell
        obtain ⟨c1, c2⟩ := c1
        clear hv
        go_wp2_with (go_at_call 93; refine (writeRune w.heap.size w.heap.size _ _ (by omega) (by omega) _ HI.out (by rw [Lib.byteCells_length]; omega) hsz).mono ?_; rintro e W1 ⟨rfl, h1, b1, k1⟩)
        go_roundw
        case rel => exact ⟨k + 1, by omega, by go_num, (FIN.out W1 h1).1, hb.trans b1, Nat.le_trans hsz b1.size, (FIN.out W1 h1).2⟩
        case measure => simp [RowKit.intOf]; omega
      · have hv : hiC c = (c.toNat : Int) := by unfold hiC; rw [if_neg c1]
        rw [hv] at FIN
        clear hv
        have c2 : c.toNat < 128 ∨ 160 ≤ c.toNat := by omega
        clear c1 hg
        rcases c2 with c2 | c2
        all_goals
          go_wp2_with (go_at_call 93; refine (writeRune w.heap.size w.heap.size _ _ (by omega) (by omega) _ HI.out (by rw [Lib.byteCells_length]; omega) hsz).mono ?_; rintro e W1 ⟨rfl, h1, b1, k1⟩)
          go_roundw
          case rel => exact ⟨k + 1, by omega, by go_num, (FIN.out W1 h1).1, hb.trans b1, Nat.le_trans hsz b1.size, (FIN.out W1 h1).2⟩
          case measure => simp [RowKit.intOf]; omega
    · have hk2 : s.data.toList.take k = s.data.toList := List.take_of_length_le (by simp; omega)
      rw [hk2] at hI
      clear hk2 hlen
      go_wp2_with (go_at_call 21; refine (Tryz.Builder_String_any_k w.heap.size w.heap.size _ _ hI hsz).mono ?_; rintro e W1 ⟨rfl, _, b1, _⟩)
      go_ret
      exact ⟨rfl, hb.trans b1⟩
def dblL (u : UInt8 → UInt8 → Int) : List UInt8 → List UInt8
  | [] => []
  | [_] => Lib.encodeRune 65533
  | [a, b] => Lib.encodeRune (u a b)
  | [a, b, _] => Lib.encodeRune (u a b) ++ Lib.encodeRune 65533
  | a :: b :: c :: d :: r =>
    if (55296 ≤ u a b ∧ u a b < 56320) ∧ (56320 ≤ u c d ∧ u c d ≤ 57343) then Lib.encodeRune (65536 + (u a b - 55296) * 1024 + u c d - 56320) ++ dblL u r
    else Lib.encodeRune (u a b) ++ dblL u (c :: d :: r)
def uLE (a b : UInt8) : Int := a.toNat + 256 * b.toNat
def uBE (a b : UInt8) : Int := 256 * a.toNat + b.toNat
def chars_doubles.f (s : ByteArray) (first second : Int) : Option ByteArray :=
  if s.size ≤ 35184372088832 ∧ (first = 0 ∧ second = 8 ∨ first = 8 ∧ second = 0) then some ⟨(dblL (if first = 0 then uLE else uBE) s.data.toList).toArray⟩ else none
theorem orLE (a b : UInt8) : bits .or .i32 (wrap32 (wrap32 (a.toNat : Int))) (wrap32 (wrap32 (b.toNat : Int) * 256)) = uLE a b := by
  have ha : a.toNat < 256 := UInt8.toNat_lt _
  have hb : b.toNat < 256 := UInt8.toNat_lt _
  have e1 : wrap32 (wrap32 (a.toNat : Int)) = ((a.toNat : Nat) : Int) := by unfold wrap32; omega
  have e2 : wrap32 (wrap32 (b.toNat : Int) * 256) = ((b.toNat * 256 : Nat) : Int) := by unfold wrap32; omega
  rw [e1, e2, (bits_nat .i32 31 (by decide) wraps_i32 a.toNat (b.toNat * 256) (by omega) (by omega)).2, Nat.or_comm, nat_join 8 _ _ (by omega) (by omega)]
  unfold uLE; omega
theorem orBE (a b : UInt8) : bits .or .i32 (wrap32 (wrap32 (a.toNat : Int) * 256)) (wrap32 (wrap32 (b.toNat : Int))) = uBE a b := by
  have ha : a.toNat < 256 := UInt8.toNat_lt _
  have hb : b.toNat < 256 := UInt8.toNat_lt _
  have e1 : wrap32 (wrap32 (b.toNat : Int)) = ((b.toNat : Nat) : Int) := by unfold wrap32; omega
  have e2 : wrap32 (wrap32 (a.toNat : Int) * 256) = ((a.toNat * 256 : Nat) : Int) := by unfold wrap32; omega
  rw [e1, e2, (bits_nat .i32 31 (by decide) wraps_i32 (a.toNat * 256) b.toNat (by omega) (by omega)).2, nat_join 8 _ _ (by omega) (by omega)]
  unfold uBE; omega
theorem uLE_range (a b : UInt8) : 0 ≤ uLE a b ∧ uLE a b ≤ 65535 := by
  have ha : a.toNat < 256 := UInt8.toNat_lt _
  have hb : b.toNat < 256 := UInt8.toNat_lt _
  unfold uLE; omega
theorem uBE_range (a b : UInt8) : 0 ≤ uBE a b ∧ uBE a b ≤ 65535 := by
  have ha : a.toNat < 256 := UInt8.toNat_lt _
  have hb : b.toNat < 256 := UInt8.toNat_lt _
  unfold uBE; omega
theorem drop2 (t : ByteArray) : (t.extract 2 t.size).data.toList = t.data.toList.drop 2 := by
  simp [ByteArray.extract_eq_extract_append_extract, List.take_of_length_le]
theorem drop4 (t : ByteArray) : ((t.extract 2 t.size).extract 2 (t.size - 2)).data.toList = (t.data.toList.drop 2).drop 2 := by
  rw [← drop2 t, ← drop2 (t.extract 2 t.size)]
  simp
theorem dbl_alone (u : UInt8 → UInt8 → Int) (l : List UInt8) (h1 : 1 < l.length)
    (h : u l[0] l[1] < 55296 ∨ 56320 ≤ u l[0] l[1] ∨ l.length ≤ 3 ∨ ∃ h3 : 3 < l.length, u l[2] l[3] < 56320 ∨ 57343 < u l[2] l[3]) :
    dblL u l = Lib.encodeRune (u l[0] l[1]) ++ dblL u (l.drop 2) := by
  match l, h1, h with
  | [a, b], _, _ => simp [dblL]
  | [a, b, c], _, _ => simp [dblL]
  | a :: b :: c :: d :: r, _, h =>
    have hn : ¬ ((55296 ≤ u a b ∧ u a b < 56320) ∧ (56320 ≤ u c d ∧ u c d ≤ 57343)) := by
      rintro ⟨⟨x1, x2⟩, x3, x4⟩
      rcases h with h | h | h | ⟨_, h⟩
      · simp at h; omega
      · simp at h; omega
      · simp at h
      · simp at h; omega
    simp only [dblL, if_neg hn]
    rfl
theorem dbl_pair (u : UInt8 → UInt8 → Int) (l : List UInt8) (h3 : 3 < l.length)
    (h : (55296 ≤ u l[0] l[1] ∧ u l[0] l[1] < 56320) ∧ (56320 ≤ u l[2] l[3] ∧ u l[2] l[3] ≤ 57343)) :
    dblL u l = Lib.encodeRune (65536 + (u l[0] l[1] - 55296) * 1024 + u l[2] l[3] - 56320) ++ dblL u ((l.drop 2).drop 2) := by
  match l, h3, h with
  | a :: b :: c :: d :: r, _, h =>
    have h' : (55296 ≤ u a b ∧ u a b < 56320) ∧ (56320 ≤ u c d ∧ u c d ≤ 57343) := h
    simp only [dblL, if_pos h']
    rfl
set_option maxHeartbeats 1600000 in
set_option maxRecDepth 1000000 in
theorem doubles_uLE (s : ByteArray) (w : World) (hs : s.size ≤ 35184372088832) :
    Calls Tryz.prog 69 #[.string s, .int .i64 0, .int .i64 8] w fun e w' => e = .returned (.string ⟨(dblL uLE s.data.toList).toArray⟩) ∧ Below w.heap.size w w' := by
  go_enter Tryz.func69, Tryz.ntmps69
  go_wp2
  go_loopw [0] (fun v wr => ∃ (t : ByteArray) (acc : List UInt8), v = .string t ∧ t.size ≤ s.size ∧ acc ++ dblL uLE t.data.toList = dblL uLE s.data.toList ∧ Lib.IsBuilderF 31 5 w.heap.size w.heap.size (Lib.byteCells acc) wr ∧ Below w.heap.size w wr ∧ w.heap.size ≤ wr.heap.size ∧ acc.length + 4 * t.size ≤ 4 * s.size) (fun v _ => match v with | .string t => t.size | _ => 0)
  case atStart => exact ⟨s, [], rfl, Nat.le_refl _, rfl, Lib.IsBuilderF.of (Lib.fresh_isBuilder 31 5 w), (Below.refl _ w).alloc (Nat.le_refl _) _, by simp, by simp⟩
  case round =>
    obtain ⟨t, acc, rfl, hts, hacc, hI, hb, hsz, hlen⟩ := hrel
    have HA := Lib.hid hacc; have HI := Lib.hid hI
    clear hacc hI
    have hl : t.data.toList.length = t.size := by simp
    by_cases h1 : 1 < t.size
    · have i0 : (0 : Int) < (t.size : Int) := by omega
      have j0 : 0 < t.size := by omega
      have i1 : (1 : Int) < (t.size : Int) := by omega
      have k1 : 1 < t.data.toList.length := by omega
      have k0 : 0 < t.data.toList.length := by omega
      obtain ⟨x, hx⟩ : ∃ x : Int, bits .or .i32 (wrap32 (wrap32 (t[0].toNat : Int))) (wrap32 (wrap32 (t[1].toNat : Int) * 256)) = x := ⟨_, rfl⟩
      have HX : Hid (x = uLE t.data.toList[0] t.data.toList[1]) := by rw [← hx]; exact orLE _ _
      have hxr : 0 ≤ x ∧ x ≤ 65535 := by rw [HX.out]; exact uLE_range _ _
      obtain ⟨hx0, hx1⟩ := hxr
      have alone : ∀ (W1 : World), Lib.IsBuilderF 31 5 w.heap.size w.heap.size (Lib.byteCells acc ++ Lib.runeCells x) W1 → (x < 55296 ∨ 56320 ≤ x ∨ t.data.toList.length ≤ 3 ∨ ∃ h3 : 3 < t.data.toList.length, uLE t.data.toList[2] t.data.toList[3] < 56320 ∨ 57343 < uLE t.data.toList[2] t.data.toList[3]) →
          (acc ++ Lib.encodeRune x) ++ dblL uLE (t.extract 2 t.size).data.toList = dblL uLE s.data.toList ∧ Lib.IsBuilderF 31 5 w.heap.size w.heap.size (Lib.byteCells (acc ++ Lib.encodeRune x)) W1 ∧ (acc ++ Lib.encodeRune x).length + 4 * (t.extract 2 t.size).size ≤ 4 * s.size := by
        intro W1 h2 h4
        refine ⟨?_, ?_, ?_⟩
        · rw [← HA.out, dbl_alone uLE t.data.toList k1 (by rw [← HX.out]; exact h4), drop2, List.append_assoc, HX.out]
        · rw [Lib.byteCells_append, Lib.byteCells_encodeRune]; exact h2
        · have hl4 := Lib.runeCells_le x
          rw [Lib.runeCells_length] at hl4
          have e2 : (t.extract 2 t.size).size = t.size - 2 := by simp
          simp only [List.length_append]; omega
      have hts2 : (t.extract 2 t.size).size ≤ s.size := by simp; omega
      have htm : (t.extract 2 t.size).size < t.size := by simp; omega
      have AL := Lib.hid alone
      clear alone
      have HL := Lib.hid hl
      clear hl
      by_cases hA : 55296 ≤ x ∧ x < 56320
      · obtain ⟨hA1, hA2⟩ := hA
        by_cases h3 : 3 < t.size
        · have i2 : (2 : Int) < (t.size : Int) := by omega
          have j2 : 2 < t.size := by omega
          have i3 : (3 : Int) < (t.size : Int) := by omega
          have k2 : 2 < t.data.toList.length := by have := HL.out; omega
          have k3 : 3 < t.data.toList.length := by have := HL.out; omega
          obtain ⟨y, hy⟩ : ∃ y : Int, bits .or .i32 (wrap32 (wrap32 (t[2].toNat : Int))) (wrap32 (wrap32 (t[3].toNat : Int) * 256)) = y := ⟨_, rfl⟩
          have HY : Hid (y = uLE t.data.toList[2] t.data.toList[3]) := by rw [← hy]; exact orLE _ _
          have hyr : 0 ≤ y ∧ y ≤ 65535 := by rw [HY.out]; exact uLE_range _ _
          obtain ⟨hy0, hy1⟩ := hyr
          by_cases hB : 56320 ≤ y ∧ y ≤ 57343
          · obtain ⟨hB1, hB2⟩ := hB
            have pair : ∀ (W1 : World), Lib.IsBuilderF 31 5 w.heap.size w.heap.size (Lib.byteCells acc ++ Lib.runeCells (65536 + (x - 55296) * 1024 + y - 56320)) W1 →
                (acc ++ Lib.encodeRune (65536 + (x - 55296) * 1024 + y - 56320)) ++ dblL uLE ((t.extract 2 t.size).extract 2 (t.size - 2)).data.toList = dblL uLE s.data.toList ∧ Lib.IsBuilderF 31 5 w.heap.size w.heap.size (Lib.byteCells (acc ++ Lib.encodeRune (65536 + (x - 55296) * 1024 + y - 56320))) W1 ∧ (acc ++ Lib.encodeRune (65536 + (x - 55296) * 1024 + y - 56320)).length + 4 * ((t.extract 2 t.size).extract 2 (t.size - 2)).size ≤ 4 * s.size := by
              intro W1 h2
              refine ⟨?_, ?_, ?_⟩
              · rw [← HA.out, dbl_pair uLE t.data.toList k3 (by rw [← HX.out, ← HY.out]; exact ⟨⟨hA1, hA2⟩, hB1, hB2⟩), drop4, List.append_assoc, HX.out, HY.out]; rfl
              · rw [Lib.byteCells_append, Lib.byteCells_encodeRune]; exact h2
              · have hl4 := Lib.runeCells_le (65536 + (x - 55296) * 1024 + y - 56320)
                rw [Lib.runeCells_length] at hl4
                have e2 : ((t.extract 2 t.size).extract 2 (t.size - 2)).size = t.size - 4 := by simp; omega
                simp only [List.length_append]; omega
            have hts4 : ((t.extract 2 t.size).extract 2 (t.size - 2)).size ≤ s.size := by simp; omega
            have htm4 : ((t.extract 2 t.size).extract 2 (t.size - 2)).size < t.size := by simp; omega
            have PR := Lib.hid pair
            clear pair AL
            have i4 : 2 ≤ t.size := by omega
            have i5 : (2 : Int) ≤ (t.size : Int) := by omega
            go_wp2_with fail
            go_quiet (fail)
            go_wp2_with fail
            go_quiet (fail)
            go_wp2_with fail
            go_quiet (fail)
            go_wp2_with (go_at_call 93; refine (writeRune w.heap.size w.heap.size _ _ (by omega) (by omega) _ (by exact HI.out) (by rw [Lib.byteCells_length]; omega) (by exact hsz)).mono ?_; rintro e W1 ⟨rfl, h1, b1, k1⟩)
            obtain ⟨f1, f2, f3⟩ := PR.out W1 h1
            go_roundw
            case rel => exact ⟨_, _, rfl, hts4, f1, f2, (bdrewN hb _).trans b1, Nat.le_trans hsz b1.size, f3⟩
            case measure => exact htm4
          · have hB2 : y < 56320 ∨ 57343 < y := by omega
            clear hB
            rcases hB2 with hB | hB
            · have ho : x < 55296 ∨ 56320 ≤ x ∨ t.data.toList.length ≤ 3 ∨ ∃ h3 : 3 < t.data.toList.length, uLE t.data.toList[2] t.data.toList[3] < 56320 ∨ 57343 < uLE t.data.toList[2] t.data.toList[3] := .inr (.inr (.inr ⟨k3, .inl (by rw [← HY.out]; exact hB)⟩))
              have HO := Lib.hid ho
              clear ho
              go_wp2_with fail
              go_quiet (fail)
              go_wp2_with fail
              go_quiet (fail)
              go_wp2_with (go_at_call 93; refine (writeRune w.heap.size w.heap.size _ _ (by omega) (by omega) _ (by exact HI.out) (by rw [Lib.byteCells_length]; omega) (by exact hsz)).mono ?_; rintro e W1 ⟨rfl, h1, b1, k1⟩)
              obtain ⟨f1, f2, f3⟩ := AL.out W1 h1 (HO.out)
              go_roundw
              case rel => exact ⟨_, _, rfl, hts2, f1, f2, (bdrewN hb _).trans b1, Nat.le_trans hsz b1.size, f3⟩
              case measure => exact htm
            · have ho : x < 55296 ∨ 56320 ≤ x ∨ t.data.toList.length ≤ 3 ∨ ∃ h3 : 3 < t.data.toList.length, uLE t.data.toList[2] t.data.toList[3] < 56320 ∨ 57343 < uLE t.data.toList[2] t.data.toList[3] := .inr (.inr (.inr ⟨k3, .inr (by rw [← HY.out]; exact hB)⟩))
              have HO := Lib.hid ho
              clear ho
              go_wp2_with fail
              go_quiet (fail)
              go_wp2_with fail
              go_quiet (fail)
              go_wp2_with (go_at_call 93; refine (writeRune w.heap.size w.heap.size _ _ (by omega) (by omega) _ (by exact HI.out) (by rw [Lib.byteCells_length]; omega) (by exact hsz)).mono ?_; rintro e W1 ⟨rfl, h1, b1, k1⟩)
              obtain ⟨f1, f2, f3⟩ := AL.out W1 h1 (HO.out)
              go_roundw
              case rel => exact ⟨_, _, rfl, hts2, f1, f2, (bdrewN hb _).trans b1, Nat.le_trans hsz b1.size, f3⟩
              case measure => exact htm
        · have i3 : ¬ (3 : Int) < (t.size : Int) := by omega
          go_wp2_with fail
          go_quiet (fail)
          go_wp2_with (go_at_call 93; refine (writeRune w.heap.size w.heap.size _ _ (by omega) (by omega) _ (by exact HI.out) (by rw [Lib.byteCells_length]; omega) (by exact hsz)).mono ?_; rintro e W1 ⟨rfl, h1, b1, k1⟩)
          obtain ⟨f1, f2, f3⟩ := AL.out W1 h1 (.inr (.inr (.inl (by have := HL.out; omega))))
          go_roundw
          case rel => exact ⟨_, _, rfl, hts2, f1, f2, (bdrewN hb _).trans b1, Nat.le_trans hsz b1.size, f3⟩
          case measure => exact htm
      · have hA2 : x < 55296 ∨ 56320 ≤ x := by omega
        clear hA
        rcases hA2 with hA | hA
        · skip
          go_wp2_with fail
          go_quiet (fail)
          go_wp2_with (go_at_call 93; refine (writeRune w.heap.size w.heap.size _ _ (by omega) (by omega) _ (by exact HI.out) (by rw [Lib.byteCells_length]; omega) (by exact hsz)).mono ?_; rintro e W1 ⟨rfl, h1, b1, k1⟩)
          obtain ⟨f1, f2, f3⟩ := AL.out W1 h1 (.inl hA)
          go_roundw
          case rel => exact ⟨_, _, rfl, hts2, f1, f2, (bdrewN hb _).trans b1, Nat.le_trans hsz b1.size, f3⟩
          case measure => exact htm
        · skip
          go_wp2_with fail
          go_quiet (fail)
          go_wp2_with (go_at_call 93; refine (writeRune w.heap.size w.heap.size _ _ (by omega) (by omega) _ (by exact HI.out) (by rw [Lib.byteCells_length]; omega) (by exact hsz)).mono ?_; rintro e W1 ⟨rfl, h1, b1, k1⟩)
          obtain ⟨f1, f2, f3⟩ := AL.out W1 h1 (.inr (.inl hA))
          go_roundw
          case rel => exact ⟨_, _, rfl, hts2, f1, f2, (bdrewN hb _).trans b1, Nat.le_trans hsz b1.size, f3⟩
          case measure => exact htm
    · by_cases h0 : t.size = 0
      · have e0 : t.data.toList = [] := by
          apply List.eq_nil_of_length_eq_zero; rw [hl]; exact h0
        have hf := HA.out
        rw [e0] at hf
        simp only [dblL, List.append_nil] at hf
        have HF := Lib.hid hf
        clear hf HA hl
        obtain rfl : t = ByteArray.empty := by
          apply ByteArray.ext; apply Array.ext'; rw [e0]; rfl
        clear e0 h0
        go_wp2_with (go_at_call 21; refine (Tryz.Builder_String_any_k w.heap.size w.heap.size _ _ HI.out hsz).mono ?_; rintro e W1 ⟨rfl, _, b1, _⟩)
        go_ret
        exact ⟨by rw [HF.out]; rfl, hb.trans b1⟩
      · have hone : t.size = 1 := by omega
        have e1 : dblL uLE t.data.toList = Lib.encodeRune 65533 := by
          have hl1 : t.data.toList.length = 1 := by rw [hl]; exact hone
          match t.data.toList, hl1 with
          | [a], _ => rfl
        have hf := HA.out
        rw [e1] at hf
        have HF := Lib.hid hf
        have hle := Lib.runeCells_le 65533
        have hnm : t.toList.isEmpty = false := by
          cases hh : t.toList with
          | nil =>
            have := congrArg List.length hh
            rw [ByteArray.toList_eq] at hh
            have := congrArg List.length hh
            simp [hone] at this
          | cons a b => rfl
        have hlen2 : acc.length + 4 ≤ 140737488355328 := by omega
        clear hf HA hl e1 hone h0
        go_wp2_with (first
          | (go_at_call 93; refine (writeRune w.heap.size w.heap.size _ _ (by omega) (by omega) _ HI.out (by rw [Lib.byteCells_length]; exact hlen2) hsz).mono ?_; rintro e W1 ⟨rfl, h2, b1, k1⟩; rw [← Lib.byteCells_encodeRune, ← Lib.byteCells_append, HF.out] at h2; have hsz1 := Nat.le_trans hsz b1.size)
          | (go_at_call 21; refine (Tryz.Builder_String_any_k w.heap.size w.heap.size _ _ (by assumption) (by assumption)).mono ?_; rintro e W2 ⟨rfl, _, b2, _⟩))
        go_ret
        exact ⟨rfl, (hb.trans b1).trans b2⟩
set_option maxHeartbeats 1600000 in
set_option maxRecDepth 1000000 in
theorem doubles_uBE (s : ByteArray) (w : World) (hs : s.size ≤ 35184372088832) :
    Calls Tryz.prog 69 #[.string s, .int .i64 8, .int .i64 0] w fun e w' => e = .returned (.string ⟨(dblL uBE s.data.toList).toArray⟩) ∧ Below w.heap.size w w' := by
  go_enter Tryz.func69, Tryz.ntmps69
  go_wp2
  go_loopw [0] (fun v wr => ∃ (t : ByteArray) (acc : List UInt8), v = .string t ∧ t.size ≤ s.size ∧ acc ++ dblL uBE t.data.toList = dblL uBE s.data.toList ∧ Lib.IsBuilderF 31 5 w.heap.size w.heap.size (Lib.byteCells acc) wr ∧ Below w.heap.size w wr ∧ w.heap.size ≤ wr.heap.size ∧ acc.length + 4 * t.size ≤ 4 * s.size) (fun v _ => match v with | .string t => t.size | _ => 0)
  case atStart => exact ⟨s, [], rfl, Nat.le_refl _, rfl, Lib.IsBuilderF.of (Lib.fresh_isBuilder 31 5 w), (Below.refl _ w).alloc (Nat.le_refl _) _, by simp, by simp⟩
  case round =>
    obtain ⟨t, acc, rfl, hts, hacc, hI, hb, hsz, hlen⟩ := hrel
    have HA := Lib.hid hacc; have HI := Lib.hid hI
    clear hacc hI
    have hl : t.data.toList.length = t.size := by simp
    by_cases h1 : 1 < t.size
    · have i0 : (0 : Int) < (t.size : Int) := by omega
      have j0 : 0 < t.size := by omega
      have i1 : (1 : Int) < (t.size : Int) := by omega
      have k1 : 1 < t.data.toList.length := by omega
      have k0 : 0 < t.data.toList.length := by omega
      obtain ⟨x, hx⟩ : ∃ x : Int, bits .or .i32 (wrap32 (wrap32 (t[0].toNat : Int) * 256)) (wrap32 (wrap32 (t[1].toNat : Int))) = x := ⟨_, rfl⟩
      have HX : Hid (x = uBE t.data.toList[0] t.data.toList[1]) := by rw [← hx]; exact orBE _ _
      have hxr : 0 ≤ x ∧ x ≤ 65535 := by rw [HX.out]; exact uBE_range _ _
      obtain ⟨hx0, hx1⟩ := hxr
      have alone : ∀ (W1 : World), Lib.IsBuilderF 31 5 w.heap.size w.heap.size (Lib.byteCells acc ++ Lib.runeCells x) W1 → (x < 55296 ∨ 56320 ≤ x ∨ t.data.toList.length ≤ 3 ∨ ∃ h3 : 3 < t.data.toList.length, uBE t.data.toList[2] t.data.toList[3] < 56320 ∨ 57343 < uBE t.data.toList[2] t.data.toList[3]) →
          (acc ++ Lib.encodeRune x) ++ dblL uBE (t.extract 2 t.size).data.toList = dblL uBE s.data.toList ∧ Lib.IsBuilderF 31 5 w.heap.size w.heap.size (Lib.byteCells (acc ++ Lib.encodeRune x)) W1 ∧ (acc ++ Lib.encodeRune x).length + 4 * (t.extract 2 t.size).size ≤ 4 * s.size := by
        intro W1 h2 h4
        refine ⟨?_, ?_, ?_⟩
        · rw [← HA.out, dbl_alone uBE t.data.toList k1 (by rw [← HX.out]; exact h4), drop2, List.append_assoc, HX.out]
        · rw [Lib.byteCells_append, Lib.byteCells_encodeRune]; exact h2
        · have hl4 := Lib.runeCells_le x
          rw [Lib.runeCells_length] at hl4
          have e2 : (t.extract 2 t.size).size = t.size - 2 := by simp
          simp only [List.length_append]; omega
      have hts2 : (t.extract 2 t.size).size ≤ s.size := by simp; omega
      have htm : (t.extract 2 t.size).size < t.size := by simp; omega
      have AL := Lib.hid alone
      clear alone
      have HL := Lib.hid hl
      clear hl
      by_cases hA : 55296 ≤ x ∧ x < 56320
      · obtain ⟨hA1, hA2⟩ := hA
        by_cases h3 : 3 < t.size
        · have i2 : (2 : Int) < (t.size : Int) := by omega
          have j2 : 2 < t.size := by omega
          have i3 : (3 : Int) < (t.size : Int) := by omega
          have k2 : 2 < t.data.toList.length := by have := HL.out; omega
          have k3 : 3 < t.data.toList.length := by have := HL.out; omega
          obtain ⟨y, hy⟩ : ∃ y : Int, bits .or .i32 (wrap32 (wrap32 (t[2].toNat : Int) * 256)) (wrap32 (wrap32 (t[3].toNat : Int))) = y := ⟨_, rfl⟩
          have HY : Hid (y = uBE t.data.toList[2] t.data.toList[3]) := by rw [← hy]; exact orBE _ _
          have hyr : 0 ≤ y ∧ y ≤ 65535 := by rw [HY.out]; exact uBE_range _ _
          obtain ⟨hy0, hy1⟩ := hyr
          by_cases hB : 56320 ≤ y ∧ y ≤ 57343
          · obtain ⟨hB1, hB2⟩ := hB
            have pair : ∀ (W1 : World), Lib.IsBuilderF 31 5 w.heap.size w.heap.size (Lib.byteCells acc ++ Lib.runeCells (65536 + (x - 55296) * 1024 + y - 56320)) W1 →
                (acc ++ Lib.encodeRune (65536 + (x - 55296) * 1024 + y - 56320)) ++ dblL uBE ((t.extract 2 t.size).extract 2 (t.size - 2)).data.toList = dblL uBE s.data.toList ∧ Lib.IsBuilderF 31 5 w.heap.size w.heap.size (Lib.byteCells (acc ++ Lib.encodeRune (65536 + (x - 55296) * 1024 + y - 56320))) W1 ∧ (acc ++ Lib.encodeRune (65536 + (x - 55296) * 1024 + y - 56320)).length + 4 * ((t.extract 2 t.size).extract 2 (t.size - 2)).size ≤ 4 * s.size := by
              intro W1 h2
              refine ⟨?_, ?_, ?_⟩
              · rw [← HA.out, dbl_pair uBE t.data.toList k3 (by rw [← HX.out, ← HY.out]; exact ⟨⟨hA1, hA2⟩, hB1, hB2⟩), drop4, List.append_assoc, HX.out, HY.out]; rfl
              · rw [Lib.byteCells_append, Lib.byteCells_encodeRune]; exact h2
              · have hl4 := Lib.runeCells_le (65536 + (x - 55296) * 1024 + y - 56320)
                rw [Lib.runeCells_length] at hl4
                have e2 : ((t.extract 2 t.size).extract 2 (t.size - 2)).size = t.size - 4 := by simp; omega
                simp only [List.length_append]; omega
            have hts4 : ((t.extract 2 t.size).extract 2 (t.size - 2)).size ≤ s.size := by simp; omega
            have htm4 : ((t.extract 2 t.size).extract 2 (t.size - 2)).size < t.size := by simp; omega
            have PR := Lib.hid pair
            clear pair AL
            have i4 : 2 ≤ t.size := by omega
            have i5 : (2 : Int) ≤ (t.size : Int) := by omega
            go_wp2_with fail
            go_quiet (fail)
            go_wp2_with fail
            go_quiet (fail)
            go_wp2_with fail
            go_quiet (fail)
            go_wp2_with (go_at_call 93; refine (writeRune w.heap.size w.heap.size _ _ (by omega) (by omega) _ (by exact HI.out) (by rw [Lib.byteCells_length]; omega) (by exact hsz)).mono ?_; rintro e W1 ⟨rfl, h1, b1, k1⟩)
            obtain ⟨f1, f2, f3⟩ := PR.out W1 h1
            go_roundw
            case rel => exact ⟨_, _, rfl, hts4, f1, f2, (bdrewN hb _).trans b1, Nat.le_trans hsz b1.size, f3⟩
            case measure => exact htm4
          · have hB2 : y < 56320 ∨ 57343 < y := by omega
            clear hB
            rcases hB2 with hB | hB
            · have ho : x < 55296 ∨ 56320 ≤ x ∨ t.data.toList.length ≤ 3 ∨ ∃ h3 : 3 < t.data.toList.length, uBE t.data.toList[2] t.data.toList[3] < 56320 ∨ 57343 < uBE t.data.toList[2] t.data.toList[3] := .inr (.inr (.inr ⟨k3, .inl (by rw [← HY.out]; exact hB)⟩))
              have HO := Lib.hid ho
              clear ho
              go_wp2_with fail
              go_quiet (fail)
              go_wp2_with fail
              go_quiet (fail)
              go_wp2_with (go_at_call 93; refine (writeRune w.heap.size w.heap.size _ _ (by omega) (by omega) _ (by exact HI.out) (by rw [Lib.byteCells_length]; omega) (by exact hsz)).mono ?_; rintro e W1 ⟨rfl, h1, b1, k1⟩)
              obtain ⟨f1, f2, f3⟩ := AL.out W1 h1 (HO.out)
              go_roundw
              case rel => exact ⟨_, _, rfl, hts2, f1, f2, (bdrewN hb _).trans b1, Nat.le_trans hsz b1.size, f3⟩
              case measure => exact htm
            · have ho : x < 55296 ∨ 56320 ≤ x ∨ t.data.toList.length ≤ 3 ∨ ∃ h3 : 3 < t.data.toList.length, uBE t.data.toList[2] t.data.toList[3] < 56320 ∨ 57343 < uBE t.data.toList[2] t.data.toList[3] := .inr (.inr (.inr ⟨k3, .inr (by rw [← HY.out]; exact hB)⟩))
              have HO := Lib.hid ho
              clear ho
              go_wp2_with fail
              go_quiet (fail)
              go_wp2_with fail
              go_quiet (fail)
              go_wp2_with (go_at_call 93; refine (writeRune w.heap.size w.heap.size _ _ (by omega) (by omega) _ (by exact HI.out) (by rw [Lib.byteCells_length]; omega) (by exact hsz)).mono ?_; rintro e W1 ⟨rfl, h1, b1, k1⟩)
              obtain ⟨f1, f2, f3⟩ := AL.out W1 h1 (HO.out)
              go_roundw
              case rel => exact ⟨_, _, rfl, hts2, f1, f2, (bdrewN hb _).trans b1, Nat.le_trans hsz b1.size, f3⟩
              case measure => exact htm
        · have i3 : ¬ (3 : Int) < (t.size : Int) := by omega
          go_wp2_with fail
          go_quiet (fail)
          go_wp2_with (go_at_call 93; refine (writeRune w.heap.size w.heap.size _ _ (by omega) (by omega) _ (by exact HI.out) (by rw [Lib.byteCells_length]; omega) (by exact hsz)).mono ?_; rintro e W1 ⟨rfl, h1, b1, k1⟩)
          obtain ⟨f1, f2, f3⟩ := AL.out W1 h1 (.inr (.inr (.inl (by have := HL.out; omega))))
          go_roundw
          case rel => exact ⟨_, _, rfl, hts2, f1, f2, (bdrewN hb _).trans b1, Nat.le_trans hsz b1.size, f3⟩
          case measure => exact htm
      · have hA2 : x < 55296 ∨ 56320 ≤ x := by omega
        clear hA
        rcases hA2 with hA | hA
        · skip
          go_wp2_with fail
          go_quiet (fail)
          go_wp2_with (go_at_call 93; refine (writeRune w.heap.size w.heap.size _ _ (by omega) (by omega) _ (by exact HI.out) (by rw [Lib.byteCells_length]; omega) (by exact hsz)).mono ?_; rintro e W1 ⟨rfl, h1, b1, k1⟩)
          obtain ⟨f1, f2, f3⟩ := AL.out W1 h1 (.inl hA)
          go_roundw
          case rel => exact ⟨_, _, rfl, hts2, f1, f2, (bdrewN hb _).trans b1, Nat.le_trans hsz b1.size, f3⟩
          case measure => exact htm
        · skip
          go_wp2_with fail
          go_quiet (fail)
          go_wp2_with (go_at_call 93; refine (writeRune w.heap.size w.heap.size _ _ (by omega) (by omega) _ (by exact HI.out) (by rw [Lib.byteCells_length]; omega) (by exact hsz)).mono ?_; rintro e W1 ⟨rfl, h1, b1, k1⟩)
          obtain ⟨f1, f2, f3⟩ := AL.out W1 h1 (.inr (.inl hA))
          go_roundw
          case rel => exact ⟨_, _, rfl, hts2, f1, f2, (bdrewN hb _).trans b1, Nat.le_trans hsz b1.size, f3⟩
          case measure => exact htm
    · by_cases h0 : t.size = 0
      · have e0 : t.data.toList = [] := by
          apply List.eq_nil_of_length_eq_zero; rw [hl]; exact h0
        have hf := HA.out
        rw [e0] at hf
        simp only [dblL, List.append_nil] at hf
        have HF := Lib.hid hf
        clear hf HA hl
        obtain rfl : t = ByteArray.empty := by
          apply ByteArray.ext; apply Array.ext'; rw [e0]; rfl
        clear e0 h0
        go_wp2_with (go_at_call 21; refine (Tryz.Builder_String_any_k w.heap.size w.heap.size _ _ HI.out hsz).mono ?_; rintro e W1 ⟨rfl, _, b1, _⟩)
        go_ret
        exact ⟨by rw [HF.out]; rfl, hb.trans b1⟩
      · have hone : t.size = 1 := by omega
        have e1 : dblL uBE t.data.toList = Lib.encodeRune 65533 := by
          have hl1 : t.data.toList.length = 1 := by rw [hl]; exact hone
          match t.data.toList, hl1 with
          | [a], _ => rfl
        have hf := HA.out
        rw [e1] at hf
        have HF := Lib.hid hf
        have hle := Lib.runeCells_le 65533
        have hnm : t.toList.isEmpty = false := by
          cases hh : t.toList with
          | nil =>
            have := congrArg List.length hh
            rw [ByteArray.toList_eq] at hh
            have := congrArg List.length hh
            simp [hone] at this
          | cons a b => rfl
        have hlen2 : acc.length + 4 ≤ 140737488355328 := by omega
        clear hf HA hl e1 hone h0
        go_wp2_with (first
          | (go_at_call 93; refine (writeRune w.heap.size w.heap.size _ _ (by omega) (by omega) _ HI.out (by rw [Lib.byteCells_length]; exact hlen2) hsz).mono ?_; rintro e W1 ⟨rfl, h2, b1, k1⟩; rw [← Lib.byteCells_encodeRune, ← Lib.byteCells_append, HF.out] at h2; have hsz1 := Nat.le_trans hsz b1.size)
          | (go_at_call 21; refine (Tryz.Builder_String_any_k w.heap.size w.heap.size _ _ (by assumption) (by assumption)).mono ?_; rintro e W2 ⟨rfl, _, b2, _⟩))
        go_ret
        exact ⟨rfl, (hb.trans b1).trans b2⟩
theorem chars_doubles.calls (s : ByteArray) (first second : Int) (r : ByteArray) (w : World) (h : chars_doubles.f s first second = some r) :
    Calls Tryz.prog 69 #[.string s, .int .i64 first, .int .i64 second] w fun e w' => e = .returned (.string r) ∧ Below w.heap.size w w' := by
  obtain ⟨⟨hs, ho⟩, rfl⟩ := of_guard h
  rcases ho with ⟨rfl, rfl⟩ | ⟨rfl, rfl⟩
  · exact doubles_uLE s w hs
  · exact doubles_uBE s w hs
end Go.Proofs.YtkfcbafjcjmfnaaGreatDoor
namespace Go.Proofs.YtkfcbafjcjmfnaaGreatDoor
open Go.RowKit
structure Glob (w : World) : Prop where
  high : TabHigh w
  tabs : Lib.Utf8Tabs 3 4 w
  maxl : ∃ m, w.cell? ⟨1, 0, none⟩ = some (.int .i64 m)
theorem Glob.below {w w1 : World} (h : Glob w) (hb : Below w.heap.size w w1) : Glob w1 :=
  ⟨h.high.below hb, Utf8Tabs_below h.tabs hb, by obtain ⟨m, hm⟩ := h.maxl; exact ⟨m, (hb.cell (World.block_lt_of_cell? _ _ hm)).trans hm⟩⟩
theorem chars_singles.calls (s r : ByteArray) (w : World) (hGl : Glob w) (h : chars_singles.f s = some r) :
    Calls Tryz.prog 68 #[.string s] w fun e w' => e = .returned (.string r) ∧ Below w.heap.size w w' := chars_singles.calls' s r w hGl.high h
end Go.Proofs.YtkfcbafjcjmfnaaGreatDoor
namespace Go.Proofs.YtkfcbafjcjmfnaaGreatDoor
open Go.RowKit Go.Proofs.YtkfcbafjcjmfnaaGreatDoorW.PrintWords
variable {P : Program} {ops : Array Oper} {o : Oper} {a : Act} {Kc : Act → World → Prop} {Q : Exit → Act → World → Prop}
theorem print_append_str_step {w0 W : World} (base : Nat) (hw : Region.wanted o (yielded ops a.tmps) = true) (s x : Operand) (t u e : TypeId)
    (ho : o.op = .call { callee := .builtin .append, args := #[s, x], argTypes := #[t, u] })
    (ht : P.underlying t = some (.slice e)) (hu : P.underlying u = some .string) (hinfo : (P.info? e).map (fun i => (i.zero, i.size, i.bytes)) = some (some (.int .u8 0), 1, 1))
    (v : Value) (xs : List Int) (y : ByteArray) (hs : a.eval s = v) (hx : a.eval x = .string y)
    (HO : W.ownsRow base e 1 v xs.length (nums .u8 xs)) (HB : Below base w0 W) (hbase : base ≤ W.heap.size) (hl : xs.length + y.size ≤ 140737488355328)
    (h : ∀ v1 w1, w1.ownsRow base e 1 v1 (xs ++ bytesOf y).length (nums .u8 (xs ++ bytesOf y)) → Below base w0 w1 → W.grownBy w1 v.ownBlock → Kc (a.put o.dst v1) w1) :
    if Region.wanted o (yielded ops a.tmps) = true then Oper.wp P o a W Kc Q else Kc (a.put o.dst undef) W := by
  obtain ⟨i0, hi, hzz⟩ := Option.map_eq_some_iff.1 hinfo
  simp only [Prod.mk.injEq] at hzz
  obtain ⟨hz0, hz1, hz2⟩ := hzz
  rw [if_pos hw]
  obtain ⟨v1, w1, hr, hown, hg, _⟩ := Lib.run_append_own_string (P := P) W base t u o.type e i0 ht hu hi hz0 hz1 hz2 v xs.length (nums .u8 xs) HO y (by simp only [maxLen]; omega) hl hbase
  unfold Oper.wp execOp
  simp only [ho, resolve, invoke, builtin, Sem.run_bind, Sem.run_pure, Result.andThen_ok, List.map_toArray, List.map_cons, List.map_nil, hs, hx, hr]
  have hl2 : (xs ++ bytesOf y).length = xs.length + y.size := by rw [List.length_append, bytesOf_length]
  have hc : nums .u8 (xs ++ bytesOf y) = nums .u8 xs ++ Lib.strCells y := by
    rw [nums_append]
    congr 1
    simp [nums, bytesOf, Lib.strCells]
  exact h v1 w1 (by rw [hl2, hc]; exact hown) (HB.grown hg hbase (own_base HO)) hg
end Go.Proofs.YtkfcbafjcjmfnaaGreatDoor
namespace Go.Proofs.YtkfcbafjcjmfnaaGreatDoor.C
open Go.RowKit Go.Proofs.YtkfcbafjcjmfnaaGreatDoorW.PrintWords Go.Proofs.YtkfcbafjcjmfnaaGreatDoorW.PrintLast Go.Proofs.YtkfcbafjcjmfnaaGreatDoorW.PrintMore
attribute [local go_sem] max2_int min2_int max_two min_two max_three min_three max_four min_four
set_option linter.unusedVariables false
set_option linter.unusedSimpArgs false
def errW : Option Int → Value
  | none => .nilIface
  | some c => .iface 0 (.int .i64 c)
theorem errW_none : errW none = .nilIface := rfl
theorem errW_some (c : Int) : errW (some c) = .iface 0 (.int .i64 c) := rfl
theorem info3 : (Tryz.prog.info? 3).map (fun i => (i.zero, i.size, i.bytes)) = some (some (.int .i64 0), 1, 8) := by kernel_rfl
theorem info5 : (Tryz.prog.info? 5).map (fun i => (i.zero, i.size, i.bytes)) = some (some (.int .u8 0), 1, 1) := by kernel_rfl
end Go.Proofs.YtkfcbafjcjmfnaaGreatDoor.C
namespace Go.Proofs.YtkfcbafjcjmfnaaGreatDoor.C
open Go.RowKit Go.Proofs.YtkfcbafjcjmfnaaGreatDoorW.PrintWords Go.Proofs.YtkfcbafjcjmfnaaGreatDoorW.PrintLast Go.Proofs.YtkfcbafjcjmfnaaGreatDoorW.PrintMore
attribute [local go_sem] max2_int min2_int max_two min_two max_three min_three max_four min_four
set_option linter.unusedVariables false
set_option linter.unusedSimpArgs false
mutual
def chars_Known.j0 : Nat → ByteArray → Bool → Option (ByteArray × Bool)
  | 0, _, _ => none
  | k + 1, x6, x7 => if x7 = true then (some ((⟨#[117, 116, 102, 45, 56]⟩ : ByteArray), true)) else (if x6.toList = ([119, 105, 110, 100, 111, 119, 115, 45, 49, 50, 53, 50] : List UInt8) then (chars_Known.j1 k x6 (x6.toList == ([119, 105, 110, 100, 111, 119, 115, 45, 49, 50, 53, 50] : List UInt8))) else (if x6.toList = ([99, 112, 49, 50, 53, 50] : List UInt8) then (chars_Known.j1 k x6 (x6.toList == ([99, 112, 49, 50, 53, 50] : List UInt8))) else (if x6.toList = ([117, 115, 45, 97, 115, 99, 105, 105] : List UInt8) then (chars_Known.j1 k x6 (x6.toList == ([117, 115, 45, 97, 115, 99, 105, 105] : List UInt8))) else (if x6.toList = ([97, 115, 99, 105, 105] : List UInt8) then (chars_Known.j1 k x6 (x6.toList == ([97, 115, 99, 105, 105] : List UInt8))) else (if x6.toList = ([105, 115, 111, 45, 56, 56, 53, 57, 45, 49] : List UInt8) then (chars_Known.j1 k x6 (x6.toList == ([105, 115, 111, 45, 56, 56, 53, 57, 45, 49] : List UInt8))) else (if x6.toList = ([105, 115, 111, 56, 56, 53, 57, 45, 49] : List UInt8) then (chars_Known.j1 k x6 (x6.toList == ([105, 115, 111, 56, 56, 53, 57, 45, 49] : List UInt8))) else (if x6.toList = ([108, 97, 116, 105, 110, 49] : List UInt8) then (chars_Known.j1 k x6 (x6.toList == ([108, 97, 116, 105, 110, 49] : List UInt8))) else (chars_Known.j1 k x6 (x6.toList == ([108, 49] : List UInt8))))))))))
def chars_Known.j1 : Nat → ByteArray → Bool → Option (ByteArray × Bool)
  | 0, _, _ => none
  | k + 1, x6, x11 => if x11 = true then (some ((⟨#[119, 105, 110, 100, 111, 119, 115, 45, 49, 50, 53, 50]⟩ : ByteArray), true)) else (if x6.toList = ([117, 116, 102, 45, 49, 54, 108, 101] : List UInt8) then (chars_Known.j2 k x6 (x6.toList == ([117, 116, 102, 45, 49, 54, 108, 101] : List UInt8))) else (if x6.toList = ([117, 116, 102, 45, 49, 54] : List UInt8) then (chars_Known.j2 k x6 (x6.toList == ([117, 116, 102, 45, 49, 54] : List UInt8))) else (if x6.toList = ([117, 110, 105, 99, 111, 100, 101] : List UInt8) then (chars_Known.j2 k x6 (x6.toList == ([117, 110, 105, 99, 111, 100, 101] : List UInt8))) else (chars_Known.j2 k x6 (x6.toList == ([117, 99, 115, 45, 50] : List UInt8))))))
def chars_Known.j2 : Nat → ByteArray → Bool → Option (ByteArray × Bool)
  | 0, _, _ => none
  | k + 1, x6, x20 => if x20 = true then (some ((⟨#[117, 116, 102, 45, 49, 54, 108, 101]⟩ : ByteArray), true)) else (if x6.toList = ([117, 116, 102, 45, 49, 54, 98, 101] : List UInt8) then (some ((⟨#[117, 116, 102, 45, 49, 54, 98, 101]⟩ : ByteArray), true)) else (if x6.toList = ([117, 110, 105, 99, 111, 100, 101, 102, 102, 102, 101] : List UInt8) then (some ((⟨#[117, 116, 102, 45, 49, 54, 98, 101]⟩ : ByteArray), true)) else (some ((⟨#[]⟩ : ByteArray), false))))
end
def chars_Known.f (k : Nat) (a0 : ByteArray) : Option (ByteArray × Bool) := (strings_Trim.f a0 (⟨#[32, 9, 10, 12, 13]⟩ : ByteArray)).bind fun t101 => ((chars_small.f t101).bind fun t102 => (if t102.toList = ([117, 116, 102, 45, 56] : List UInt8) then (chars_Known.j0 k t102 (t102.toList == ([117, 116, 102, 45, 56] : List UInt8))) else (if t102.toList = ([117, 116, 102, 56] : List UInt8) then (chars_Known.j0 k t102 (t102.toList == ([117, 116, 102, 56] : List UInt8))) else (chars_Known.j0 k t102 (t102.toList == ([117, 110, 105, 99, 111, 100, 101, 45, 49, 45, 49, 45, 117, 116, 102, 45, 56] : List UInt8))))))
theorem chars_Known.mono_l : ∀ k, (∀ y0 y1, LeO (chars_Known.j0 k y0 y1) (chars_Known.j0 (k + 1) y0 y1)) ∧ (∀ y0 y1, LeO (chars_Known.j1 k y0 y1) (chars_Known.j1 (k + 1) y0 y1)) ∧ (∀ y0 y1, LeO (chars_Known.j2 k y0 y1) (chars_Known.j2 (k + 1) y0 y1))
  | 0 => ⟨fun _ _ r h => by simp [chars_Known.j0] at h, fun _ _ r h => by simp [chars_Known.j1] at h, fun _ _ r h => by simp [chars_Known.j2] at h⟩
  | k + 1 => by
    obtain ⟨ih0, ih1, ih2⟩ := chars_Known.mono_l k
    refine ⟨?_, ?_, ?_⟩
    · intro y0 y1
      unfold chars_Known.j0
      repeat' first
      | (with_reducible exact ih0 _ _)
      | (with_reducible exact ih1 _ _)
      | (with_reducible exact ih2 _ _)
      | (with_reducible exact LeO.refl _)
      | (with_reducible exact LeO.none _)
      | (with_reducible refine LeO.ite ?_ ?_)
      | (with_reducible refine LeO.bind ?_ (fun _ => ?_))
      | exact ih0 _ _
      | exact ih1 _ _
      | exact ih2 _ _
      | exact LeO.none _
      | refine LeO.ite ?_ ?_
      | refine LeO.bind ?_ (fun _ => ?_)
    · intro y0 y1
      unfold chars_Known.j1
      repeat' first
      | (with_reducible exact ih0 _ _)
      | (with_reducible exact ih1 _ _)
      | (with_reducible exact ih2 _ _)
      | (with_reducible exact LeO.refl _)
      | (with_reducible exact LeO.none _)
      | (with_reducible refine LeO.ite ?_ ?_)
      | (with_reducible refine LeO.bind ?_ (fun _ => ?_))
      | exact ih0 _ _
      | exact ih1 _ _
      | exact ih2 _ _
      | exact LeO.none _
      | refine LeO.ite ?_ ?_
      | refine LeO.bind ?_ (fun _ => ?_)
    · intro y0 y1
      unfold chars_Known.j2
      repeat' first
      | (with_reducible exact ih0 _ _)
      | (with_reducible exact ih1 _ _)
      | (with_reducible exact ih2 _ _)
      | (with_reducible exact LeO.refl _)
      | (with_reducible exact LeO.none _)
      | (with_reducible refine LeO.ite ?_ ?_)
      | (with_reducible refine LeO.bind ?_ (fun _ => ?_))
      | exact ih0 _ _
      | exact ih1 _ _
      | exact ih2 _ _
      | exact LeO.none _
      | refine LeO.ite ?_ ?_
      | refine LeO.bind ?_ (fun _ => ?_)
set_option maxHeartbeats 8000000 in
set_option maxRecDepth 100000 in
theorem chars_Known.calls (k : Nat) (a0 : ByteArray) (r1 : ByteArray) (r2 : Bool) (w : World) (h : chars_Known.f k a0 = some (r1, r2)) :
    Calls Tryz.prog 67 #[.string a0] w fun e w' => e = .returned (.tuple #[.string r1, .bool r2]) ∧ Below w.heap.size w w' := by
  have HB := Aside0.mk (Below.refl w.heap.size w); have H : ((strings_Trim.f a0 (⟨#[32, 9, 10, 12, 13]⟩ : ByteArray)).bind fun t101 => ((chars_small.f t101).bind fun t102 => (if t102.toList = ([117, 116, 102, 45, 56] : List UInt8) then (chars_Known.j0 k t102 (t102.toList == ([117, 116, 102, 45, 56] : List UInt8))) else (if t102.toList = ([117, 116, 102, 56] : List UInt8) then (chars_Known.j0 k t102 (t102.toList == ([117, 116, 102, 56] : List UInt8))) else (chars_Known.j0 k t102 (t102.toList == ([117, 110, 105, 99, 111, 100, 101, 45, 49, 45, 49, 45, 117, 116, 102, 45, 56] : List UInt8))))))) = some (r1, r2) := h; clear h; replace H := Option.bind_eq_some_iff.mp H; obtain ⟨t101, A20, H⟩ := H; replace H : ((chars_small.f t101).bind fun t102 => (if t102.toList = ([117, 116, 102, 45, 56] : List UInt8) then (chars_Known.j0 k t102 (t102.toList == ([117, 116, 102, 45, 56] : List UInt8))) else (if t102.toList = ([117, 116, 102, 56] : List UInt8) then (chars_Known.j0 k t102 (t102.toList == ([117, 116, 102, 56] : List UInt8))) else (chars_Known.j0 k t102 (t102.toList == ([117, 110, 105, 99, 111, 100, 101, 45, 49, 45, 49, 45, 117, 116, 102, 45, 56] : List UInt8)))))) = some (r1, r2) := H; have A2 := Aside0.mk A20; clear A20; replace H := Option.bind_eq_some_iff.mp H; obtain ⟨t102, A30, H⟩ := H; replace H : (if t102.toList = ([117, 116, 102, 45, 56] : List UInt8) then (chars_Known.j0 k t102 (t102.toList == ([117, 116, 102, 45, 56] : List UInt8))) else (if t102.toList = ([117, 116, 102, 56] : List UInt8) then (chars_Known.j0 k t102 (t102.toList == ([117, 116, 102, 56] : List UInt8))) else (chars_Known.j0 k t102 (t102.toList == ([117, 110, 105, 99, 111, 100, 101, 45, 49, 45, 49, 45, 117, 116, 102, 45, 56] : List UInt8))))) = some (r1, r2) := H; have A3 := Aside0.mk A30; clear A30; have HC4 := Aside0.mk H; clear H
  go_enter Tryz.func67, Tryz.ntmps67
  go_upto_if 7 with (first | ((with_reducible refine gate_callee (f := 92) rfl ?_); refine goesL_ (some 5) rfl rfl Tryz.func92 (by kernel_rfl) rfl #[.string a0, .string (⟨#[32, 9, 10, 12, 13]⟩ : ByteArray)] rfl (by (try simp only [List.map_toArray, List.map_cons, List.map_nil]); first | done | rfl | (simp only [List.length_drop, List.length_take]; rfl)) ?_; (with_reducible refine (strings_Trim.calls a0 (⟨#[32, 9, 10, 12, 13]⟩ : ByteArray) t101 _ A2.out).mono ?_); rintro e w5 ⟨rfl, hb⟩; refine ⟨_, rfl, ?_⟩; have n0_ := Aside0.mk (below_step (by repeat (first | (with_reducible first | exact HB.out | apply below_alloc | apply pw_below_drewN | apply below_drew1) | exact HB.out)) hb); clear HB; have HB := n0_; clear n0_; (try clear hb); (try clear hb2); (try clear hk); (try clear hi)) | ((with_reducible refine gate_callee (f := 91) rfl ?_); refine goesL_ (some 6) rfl rfl Tryz.func91 (by kernel_rfl) rfl #[.string t101] rfl (by (try simp only [List.map_toArray, List.map_cons, List.map_nil]); first | done | rfl | (simp only [List.length_drop, List.length_take]; rfl)) ?_; (with_reducible refine (chars_small.calls t101 t102 _ A3.out).mono ?_); rintro e w6 ⟨rfl, hb⟩; refine ⟨_, rfl, ?_⟩; have n0_ := Aside0.mk (below_step (by repeat (first | (with_reducible first | exact HB.out | apply below_alloc | apply pw_below_drewN | apply below_drew1) | exact HB.out)) hb); clear HB; have HB := n0_; clear n0_; (try clear hb); (try clear hb2); (try clear hk); (try clear hi)))
  (try simp only [Act.put, List.setIfInBounds_toArray, List.set_cons_zero, List.set_cons_succ])
  go_cut [7] (fun v7 wc => ∃ (kq : Nat) (x7_3 : Bool), v7 = .bool x7_3 ∧ Aside0 (chars_Known.j0 kq t102 x7_3 = some (r1, r2)) ∧ Aside0 (kq ≤ k) ∧ Aside0 (Below w.heap.size w wc))
  case first =>
    have H := HC4.out; clear HC4
    by_cases c7 : t102.toList = ([117, 116, 102, 45, 56] : List UInt8)
    case pos =>
      rw [if_pos c7] at H; have c7b0 : (t102.toList == ([117, 116, 102, 45, 56] : List UInt8)) = true := beq_iff_eq.mpr c7; have c7b1 : (t102.toList != ([117, 116, 102, 45, 56] : List UInt8)) = false := bne_eq_false_iff_eq.mpr c7; clear c7
      (first | rw [c7b0] | (simp only [i64_w, i32_w]; rw [c7b0]) | skip)
      have H' := Aside0.mk H; clear H
      go_wp2
      go_meet
      case rel => exact ⟨_, ((t102.toList == ([117, 116, 102, 45, 56] : List UInt8))), (by first | rfl | (simp; done) | (simp [*]; done)), H', ⟨by first | omega | exact Nat.le_refl _⟩, ⟨by repeat (first | (with_reducible first | exact HB.out | apply below_alloc | apply pw_below_drewN | apply below_drew1) | exact HB.out)⟩⟩
    rw [if_neg c7] at H; have c7b0 : (t102.toList == ([117, 116, 102, 45, 56] : List UInt8)) = false := beq_eq_false_iff_ne.mpr c7; have c7b1 : (t102.toList != ([117, 116, 102, 45, 56] : List UInt8)) = true := bne_iff_ne.mpr c7
    (first | rw [c7b0] | (simp only [i64_w, i32_w]; rw [c7b0]) | skip)
    by_cases c8 : t102.toList = ([117, 116, 102, 56] : List UInt8)
    case pos =>
      rw [if_pos c8] at H; have c8b0 : (t102.toList == ([117, 116, 102, 56] : List UInt8)) = true := beq_iff_eq.mpr c8; have c8b1 : (t102.toList != ([117, 116, 102, 56] : List UInt8)) = false := bne_eq_false_iff_eq.mpr c8; clear c8; have H' := Aside0.mk H; clear H
      go_wp2
      go_meet
      case rel => exact ⟨_, ((t102.toList == ([117, 116, 102, 56] : List UInt8))), (by first | rfl | (simp; done) | (simp [*]; done)), H', ⟨by first | omega | exact Nat.le_refl _⟩, ⟨by repeat (first | (with_reducible first | exact HB.out | apply below_alloc | apply pw_below_drewN | apply below_drew1) | exact HB.out)⟩⟩
    rw [if_neg c8] at H; have c8b0 : (t102.toList == ([117, 116, 102, 56] : List UInt8)) = false := beq_eq_false_iff_ne.mpr c8; have c8b1 : (t102.toList != ([117, 116, 102, 56] : List UInt8)) = true := bne_iff_ne.mpr c8; have H' := Aside0.mk H; clear H
    go_wp2
    go_meet
    case rel => exact ⟨_, ((t102.toList == ([117, 110, 105, 99, 111, 100, 101, 45, 49, 45, 49, 45, 117, 116, 102, 45, 56] : List UInt8))), (by first | rfl | (simp; done) | (simp [*]; done)), H', ⟨by first | omega | exact Nat.le_refl _⟩, ⟨by repeat (first | (with_reducible first | exact HB.out | apply below_alloc | apply pw_below_drewN | apply below_drew1) | exact HB.out)⟩⟩
  case rest =>
    clear HC4; (try clear p2); (try clear c6); (try clear c7); (try clear c7b0); (try clear c7b1); (try clear c8); (try clear c8b0); (try clear c8b1); obtain ⟨kq, x7_3, rfl, HA, HJ3, HB⟩ := hcut
    cases kq with
    | zero => exact absurd HA.out (by simp [chars_Known.j0])
    | succ kj3 =>
      have H := HA.out; clear HA; simp only [chars_Known.j0] at H
      by_cases c9 : x7_3 = true
      case pos =>
        subst c9
        have H1 : (some ((⟨#[117, 116, 102, 45, 56]⟩ : ByteArray), true)) = some (r1, r2) := by rw [if_pos rfl] at H; exact H
        clear H; have H := H1; clear H1; simp only [Option.some.injEq, Prod.mk.injEq] at H; obtain ⟨rfl, rfl⟩ := H
        go_wp2
        go_ret2
        exact ⟨by first | rfl | (simp [errW_none, errW_some] <;> rfl) | (simp [*, errW_none, errW_some] <;> rfl), by repeat (first | (with_reducible first | exact HB.out | apply below_alloc | apply pw_below_drewN | apply below_drew1) | exact HB.out)⟩
      replace c9 := Bool.eq_false_iff.mpr c9; subst c9
      have H1 : (if t102.toList = ([119, 105, 110, 100, 111, 119, 115, 45, 49, 50, 53, 50] : List UInt8) then (chars_Known.j1 kj3 t102 (t102.toList == ([119, 105, 110, 100, 111, 119, 115, 45, 49, 50, 53, 50] : List UInt8))) else (if t102.toList = ([99, 112, 49, 50, 53, 50] : List UInt8) then (chars_Known.j1 kj3 t102 (t102.toList == ([99, 112, 49, 50, 53, 50] : List UInt8))) else (if t102.toList = ([117, 115, 45, 97, 115, 99, 105, 105] : List UInt8) then (chars_Known.j1 kj3 t102 (t102.toList == ([117, 115, 45, 97, 115, 99, 105, 105] : List UInt8))) else (if t102.toList = ([97, 115, 99, 105, 105] : List UInt8) then (chars_Known.j1 kj3 t102 (t102.toList == ([97, 115, 99, 105, 105] : List UInt8))) else (if t102.toList = ([105, 115, 111, 45, 56, 56, 53, 57, 45, 49] : List UInt8) then (chars_Known.j1 kj3 t102 (t102.toList == ([105, 115, 111, 45, 56, 56, 53, 57, 45, 49] : List UInt8))) else (if t102.toList = ([105, 115, 111, 56, 56, 53, 57, 45, 49] : List UInt8) then (chars_Known.j1 kj3 t102 (t102.toList == ([105, 115, 111, 56, 56, 53, 57, 45, 49] : List UInt8))) else (if t102.toList = ([108, 97, 116, 105, 110, 49] : List UInt8) then (chars_Known.j1 kj3 t102 (t102.toList == ([108, 97, 116, 105, 110, 49] : List UInt8))) else (chars_Known.j1 kj3 t102 (t102.toList == ([108, 49] : List UInt8)))))))))) = some (r1, r2) := by rw [if_neg (show ¬ (false = true) by decide)] at H; exact H
      clear H; have H := H1; clear H1; have HC10 := Aside0.mk H; clear H
      go_upto_if 11 with (fail)
      go_cut [11] (fun v11 wc => ∃ (kq : Nat) (x11_9 : Bool), v11 = .bool x11_9 ∧ Aside0 (chars_Known.j1 kq t102 x11_9 = some (r1, r2)) ∧ Aside0 (kq ≤ kj3) ∧ Aside0 (Below w.heap.size w wc))
      case first =>
        have H := HC10.out; clear HC10
        by_cases c11 : t102.toList = ([119, 105, 110, 100, 111, 119, 115, 45, 49, 50, 53, 50] : List UInt8)
        case pos =>
          rw [if_pos c11] at H; have c11b0 : (t102.toList == ([119, 105, 110, 100, 111, 119, 115, 45, 49, 50, 53, 50] : List UInt8)) = true := beq_iff_eq.mpr c11; have c11b1 : (t102.toList != ([119, 105, 110, 100, 111, 119, 115, 45, 49, 50, 53, 50] : List UInt8)) = false := bne_eq_false_iff_eq.mpr c11; clear c11
          (first | rw [c11b0] | (simp only [i64_w, i32_w]; rw [c11b0]) | skip)
          have H' := Aside0.mk H; clear H
          go_wp2
          go_meet
          case rel => exact ⟨_, ((t102.toList == ([119, 105, 110, 100, 111, 119, 115, 45, 49, 50, 53, 50] : List UInt8))), (by first | rfl | (simp; done) | (simp [*]; done)), H', ⟨by have := HJ3.out; first | omega | exact Nat.le_refl _⟩, ⟨by repeat (first | (with_reducible first | exact HB.out | apply below_alloc | apply pw_below_drewN | apply below_drew1) | exact HB.out)⟩⟩
        rw [if_neg c11] at H; have c11b0 : (t102.toList == ([119, 105, 110, 100, 111, 119, 115, 45, 49, 50, 53, 50] : List UInt8)) = false := beq_eq_false_iff_ne.mpr c11; have c11b1 : (t102.toList != ([119, 105, 110, 100, 111, 119, 115, 45, 49, 50, 53, 50] : List UInt8)) = true := bne_iff_ne.mpr c11
        (first | rw [c11b0] | (simp only [i64_w, i32_w]; rw [c11b0]) | skip)
        by_cases c12 : t102.toList = ([99, 112, 49, 50, 53, 50] : List UInt8)
        case pos =>
          rw [if_pos c12] at H; have c12b0 : (t102.toList == ([99, 112, 49, 50, 53, 50] : List UInt8)) = true := beq_iff_eq.mpr c12; have c12b1 : (t102.toList != ([99, 112, 49, 50, 53, 50] : List UInt8)) = false := bne_eq_false_iff_eq.mpr c12; clear c12; have H' := Aside0.mk H; clear H
          go_wp2
          go_meet
          case rel => exact ⟨_, ((t102.toList == ([99, 112, 49, 50, 53, 50] : List UInt8))), (by first | rfl | (simp; done) | (simp [*]; done)), H', ⟨by have := HJ3.out; first | omega | exact Nat.le_refl _⟩, ⟨by repeat (first | (with_reducible first | exact HB.out | apply below_alloc | apply pw_below_drewN | apply below_drew1) | exact HB.out)⟩⟩
        rw [if_neg c12] at H; have c12b0 : (t102.toList == ([99, 112, 49, 50, 53, 50] : List UInt8)) = false := beq_eq_false_iff_ne.mpr c12; have c12b1 : (t102.toList != ([99, 112, 49, 50, 53, 50] : List UInt8)) = true := bne_iff_ne.mpr c12
        by_cases c13 : t102.toList = ([117, 115, 45, 97, 115, 99, 105, 105] : List UInt8)
        case pos =>
          rw [if_pos c13] at H; have c13b0 : (t102.toList == ([117, 115, 45, 97, 115, 99, 105, 105] : List UInt8)) = true := beq_iff_eq.mpr c13; have c13b1 : (t102.toList != ([117, 115, 45, 97, 115, 99, 105, 105] : List UInt8)) = false := bne_eq_false_iff_eq.mpr c13; clear c13; have H' := Aside0.mk H; clear H
          go_wp2
          go_meet
          case rel => exact ⟨_, ((t102.toList == ([117, 115, 45, 97, 115, 99, 105, 105] : List UInt8))), (by first | rfl | (simp; done) | (simp [*]; done)), H', ⟨by have := HJ3.out; first | omega | exact Nat.le_refl _⟩, ⟨by repeat (first | (with_reducible first | exact HB.out | apply below_alloc | apply pw_below_drewN | apply below_drew1) | exact HB.out)⟩⟩
        rw [if_neg c13] at H; have c13b0 : (t102.toList == ([117, 115, 45, 97, 115, 99, 105, 105] : List UInt8)) = false := beq_eq_false_iff_ne.mpr c13; have c13b1 : (t102.toList != ([117, 115, 45, 97, 115, 99, 105, 105] : List UInt8)) = true := bne_iff_ne.mpr c13
        by_cases c14 : t102.toList = ([97, 115, 99, 105, 105] : List UInt8)
        case pos =>
          rw [if_pos c14] at H; have c14b0 : (t102.toList == ([97, 115, 99, 105, 105] : List UInt8)) = true := beq_iff_eq.mpr c14; have c14b1 : (t102.toList != ([97, 115, 99, 105, 105] : List UInt8)) = false := bne_eq_false_iff_eq.mpr c14; clear c14; have H' := Aside0.mk H; clear H
          go_wp2
          go_meet
          case rel => exact ⟨_, ((t102.toList == ([97, 115, 99, 105, 105] : List UInt8))), (by first | rfl | (simp; done) | (simp [*]; done)), H', ⟨by have := HJ3.out; first | omega | exact Nat.le_refl _⟩, ⟨by repeat (first | (with_reducible first | exact HB.out | apply below_alloc | apply pw_below_drewN | apply below_drew1) | exact HB.out)⟩⟩
        rw [if_neg c14] at H; have c14b0 : (t102.toList == ([97, 115, 99, 105, 105] : List UInt8)) = false := beq_eq_false_iff_ne.mpr c14; have c14b1 : (t102.toList != ([97, 115, 99, 105, 105] : List UInt8)) = true := bne_iff_ne.mpr c14
        by_cases c15 : t102.toList = ([105, 115, 111, 45, 56, 56, 53, 57, 45, 49] : List UInt8)
        case pos =>
          rw [if_pos c15] at H; have c15b0 : (t102.toList == ([105, 115, 111, 45, 56, 56, 53, 57, 45, 49] : List UInt8)) = true := beq_iff_eq.mpr c15; have c15b1 : (t102.toList != ([105, 115, 111, 45, 56, 56, 53, 57, 45, 49] : List UInt8)) = false := bne_eq_false_iff_eq.mpr c15; clear c15; have H' := Aside0.mk H; clear H
          go_wp2
          go_meet
          case rel => exact ⟨_, ((t102.toList == ([105, 115, 111, 45, 56, 56, 53, 57, 45, 49] : List UInt8))), (by first | rfl | (simp; done) | (simp [*]; done)), H', ⟨by have := HJ3.out; first | omega | exact Nat.le_refl _⟩, ⟨by repeat (first | (with_reducible first | exact HB.out | apply below_alloc | apply pw_below_drewN | apply below_drew1) | exact HB.out)⟩⟩
        rw [if_neg c15] at H; have c15b0 : (t102.toList == ([105, 115, 111, 45, 56, 56, 53, 57, 45, 49] : List UInt8)) = false := beq_eq_false_iff_ne.mpr c15; have c15b1 : (t102.toList != ([105, 115, 111, 45, 56, 56, 53, 57, 45, 49] : List UInt8)) = true := bne_iff_ne.mpr c15
        by_cases c16 : t102.toList = ([105, 115, 111, 56, 56, 53, 57, 45, 49] : List UInt8)
        case pos =>
          rw [if_pos c16] at H; have c16b0 : (t102.toList == ([105, 115, 111, 56, 56, 53, 57, 45, 49] : List UInt8)) = true := beq_iff_eq.mpr c16; have c16b1 : (t102.toList != ([105, 115, 111, 56, 56, 53, 57, 45, 49] : List UInt8)) = false := bne_eq_false_iff_eq.mpr c16; clear c16; have H' := Aside0.mk H; clear H
          go_wp2
          go_meet
          case rel => exact ⟨_, ((t102.toList == ([105, 115, 111, 56, 56, 53, 57, 45, 49] : List UInt8))), (by first | rfl | (simp; done) | (simp [*]; done)), H', ⟨by have := HJ3.out; first | omega | exact Nat.le_refl _⟩, ⟨by repeat (first | (with_reducible first | exact HB.out | apply below_alloc | apply pw_below_drewN | apply below_drew1) | exact HB.out)⟩⟩
        rw [if_neg c16] at H; have c16b0 : (t102.toList == ([105, 115, 111, 56, 56, 53, 57, 45, 49] : List UInt8)) = false := beq_eq_false_iff_ne.mpr c16; have c16b1 : (t102.toList != ([105, 115, 111, 56, 56, 53, 57, 45, 49] : List UInt8)) = true := bne_iff_ne.mpr c16
        by_cases c17 : t102.toList = ([108, 97, 116, 105, 110, 49] : List UInt8)
        case neg =>
          rw [if_neg c17] at H; have c17b0 : (t102.toList == ([108, 97, 116, 105, 110, 49] : List UInt8)) = false := beq_eq_false_iff_ne.mpr c17; have c17b1 : (t102.toList != ([108, 97, 116, 105, 110, 49] : List UInt8)) = true := bne_iff_ne.mpr c17; have H' := Aside0.mk H; clear H
          go_wp2
          go_meet
          case rel => exact ⟨_, ((t102.toList == ([108, 49] : List UInt8))), (by first | rfl | (simp; done) | (simp [*]; done)), H', ⟨by have := HJ3.out; first | omega | exact Nat.le_refl _⟩, ⟨by repeat (first | (with_reducible first | exact HB.out | apply below_alloc | apply pw_below_drewN | apply below_drew1) | exact HB.out)⟩⟩
        rw [if_pos c17] at H; have c17b0 : (t102.toList == ([108, 97, 116, 105, 110, 49] : List UInt8)) = true := beq_iff_eq.mpr c17; have c17b1 : (t102.toList != ([108, 97, 116, 105, 110, 49] : List UInt8)) = false := bne_eq_false_iff_eq.mpr c17; clear c17; have H' := Aside0.mk H; clear H
        go_wp2
        go_meet
        case rel => exact ⟨_, ((t102.toList == ([108, 97, 116, 105, 110, 49] : List UInt8))), (by first | rfl | (simp; done) | (simp [*]; done)), H', ⟨by have := HJ3.out; first | omega | exact Nat.le_refl _⟩, ⟨by repeat (first | (with_reducible first | exact HB.out | apply below_alloc | apply pw_below_drewN | apply below_drew1) | exact HB.out)⟩⟩
      case rest =>
        clear HC10; (try clear c1); (try clear p2); (try clear c6); (try clear c7); (try clear c7b0); (try clear c7b1); (try clear c8); (try clear c8b0); (try clear c8b1); (try clear c9); (try clear c11); (try clear c11b0); (try clear c11b1); (try clear c12); (try clear c12b0); (try clear c12b1); (try clear c13); (try clear c13b0); (try clear c13b1); (try clear c14); (try clear c14b0); (try clear c14b1); (try clear c15); (try clear c15b0); (try clear c15b1); (try clear c16); (try clear c16b0); (try clear c16b1); (try clear c17); (try clear c17b0); (try clear c17b1); (try clear p2); obtain ⟨kq, x11_9, rfl, HA, HJ9, HB⟩ := hcut
        cases kq with
        | zero => exact absurd HA.out (by simp [chars_Known.j1])
        | succ kj9 =>
          have H := HA.out; clear HA; simp only [chars_Known.j1] at H
          by_cases c18 : x11_9 = true
          case pos =>
            subst c18
            have H1 : (some ((⟨#[119, 105, 110, 100, 111, 119, 115, 45, 49, 50, 53, 50]⟩ : ByteArray), true)) = some (r1, r2) := by rw [if_pos rfl] at H; exact H
            clear H; have H := H1; clear H1; simp only [Option.some.injEq, Prod.mk.injEq] at H; obtain ⟨rfl, rfl⟩ := H
            go_wp2
            go_ret2
            exact ⟨by first | rfl | (simp [errW_none, errW_some] <;> rfl) | (simp [*, errW_none, errW_some] <;> rfl), by repeat (first | (with_reducible first | exact HB.out | apply below_alloc | apply pw_below_drewN | apply below_drew1) | exact HB.out)⟩
          replace c18 := Bool.eq_false_iff.mpr c18; subst c18
          have H1 : (if t102.toList = ([117, 116, 102, 45, 49, 54, 108, 101] : List UInt8) then (chars_Known.j2 kj9 t102 (t102.toList == ([117, 116, 102, 45, 49, 54, 108, 101] : List UInt8))) else (if t102.toList = ([117, 116, 102, 45, 49, 54] : List UInt8) then (chars_Known.j2 kj9 t102 (t102.toList == ([117, 116, 102, 45, 49, 54] : List UInt8))) else (if t102.toList = ([117, 110, 105, 99, 111, 100, 101] : List UInt8) then (chars_Known.j2 kj9 t102 (t102.toList == ([117, 110, 105, 99, 111, 100, 101] : List UInt8))) else (chars_Known.j2 kj9 t102 (t102.toList == ([117, 99, 115, 45, 50] : List UInt8)))))) = some (r1, r2) := by rw [if_neg (show ¬ (false = true) by decide)] at H; exact H
          clear H; have H := H1; clear H1; have HC19 := Aside0.mk H; clear H
          go_upto_if 20 with (fail)
          go_cut [20] (fun v20 wc => ∃ (kq : Nat) (x20_18 : Bool), v20 = .bool x20_18 ∧ Aside0 (chars_Known.j2 kq t102 x20_18 = some (r1, r2)) ∧ Aside0 (kq ≤ kj9) ∧ Aside0 (Below w.heap.size w wc))
          case first =>
            have H := HC19.out; clear HC19
            by_cases c20 : t102.toList = ([117, 116, 102, 45, 49, 54, 108, 101] : List UInt8)
            case pos =>
              rw [if_pos c20] at H; have c20b0 : (t102.toList == ([117, 116, 102, 45, 49, 54, 108, 101] : List UInt8)) = true := beq_iff_eq.mpr c20; have c20b1 : (t102.toList != ([117, 116, 102, 45, 49, 54, 108, 101] : List UInt8)) = false := bne_eq_false_iff_eq.mpr c20; clear c20
              (first | rw [c20b0] | (simp only [i64_w, i32_w]; rw [c20b0]) | skip)
              have H' := Aside0.mk H; clear H
              go_wp2
              go_meet
              case rel => exact ⟨_, ((t102.toList == ([117, 116, 102, 45, 49, 54, 108, 101] : List UInt8))), (by first | rfl | (simp; done) | (simp [*]; done)), H', ⟨by have := HJ3.out; have := HJ9.out; first | omega | exact Nat.le_refl _⟩, ⟨by repeat (first | (with_reducible first | exact HB.out | apply below_alloc | apply pw_below_drewN | apply below_drew1) | exact HB.out)⟩⟩
            rw [if_neg c20] at H; have c20b0 : (t102.toList == ([117, 116, 102, 45, 49, 54, 108, 101] : List UInt8)) = false := beq_eq_false_iff_ne.mpr c20; have c20b1 : (t102.toList != ([117, 116, 102, 45, 49, 54, 108, 101] : List UInt8)) = true := bne_iff_ne.mpr c20
            (first | rw [c20b0] | (simp only [i64_w, i32_w]; rw [c20b0]) | skip)
            by_cases c21 : t102.toList = ([117, 116, 102, 45, 49, 54] : List UInt8)
            case pos =>
              rw [if_pos c21] at H; have c21b0 : (t102.toList == ([117, 116, 102, 45, 49, 54] : List UInt8)) = true := beq_iff_eq.mpr c21; have c21b1 : (t102.toList != ([117, 116, 102, 45, 49, 54] : List UInt8)) = false := bne_eq_false_iff_eq.mpr c21; clear c21; have H' := Aside0.mk H; clear H
              go_wp2
              go_meet
              case rel => exact ⟨_, ((t102.toList == ([117, 116, 102, 45, 49, 54] : List UInt8))), (by first | rfl | (simp; done) | (simp [*]; done)), H', ⟨by have := HJ3.out; have := HJ9.out; first | omega | exact Nat.le_refl _⟩, ⟨by repeat (first | (with_reducible first | exact HB.out | apply below_alloc | apply pw_below_drewN | apply below_drew1) | exact HB.out)⟩⟩
            rw [if_neg c21] at H; have c21b0 : (t102.toList == ([117, 116, 102, 45, 49, 54] : List UInt8)) = false := beq_eq_false_iff_ne.mpr c21; have c21b1 : (t102.toList != ([117, 116, 102, 45, 49, 54] : List UInt8)) = true := bne_iff_ne.mpr c21
            by_cases c22 : t102.toList = ([117, 110, 105, 99, 111, 100, 101] : List UInt8)
            case neg =>
              rw [if_neg c22] at H; have c22b0 : (t102.toList == ([117, 110, 105, 99, 111, 100, 101] : List UInt8)) = false := beq_eq_false_iff_ne.mpr c22; have c22b1 : (t102.toList != ([117, 110, 105, 99, 111, 100, 101] : List UInt8)) = true := bne_iff_ne.mpr c22; have H' := Aside0.mk H; clear H
              go_wp2
              go_meet
              case rel => exact ⟨_, ((t102.toList == ([117, 99, 115, 45, 50] : List UInt8))), (by first | rfl | (simp; done) | (simp [*]; done)), H', ⟨by have := HJ3.out; have := HJ9.out; first | omega | exact Nat.le_refl _⟩, ⟨by repeat (first | (with_reducible first | exact HB.out | apply below_alloc | apply pw_below_drewN | apply below_drew1) | exact HB.out)⟩⟩
            rw [if_pos c22] at H; have c22b0 : (t102.toList == ([117, 110, 105, 99, 111, 100, 101] : List UInt8)) = true := beq_iff_eq.mpr c22; have c22b1 : (t102.toList != ([117, 110, 105, 99, 111, 100, 101] : List UInt8)) = false := bne_eq_false_iff_eq.mpr c22; clear c22; have H' := Aside0.mk H; clear H
            go_wp2
            go_meet
            case rel => exact ⟨_, ((t102.toList == ([117, 110, 105, 99, 111, 100, 101] : List UInt8))), (by first | rfl | (simp; done) | (simp [*]; done)), H', ⟨by have := HJ3.out; have := HJ9.out; first | omega | exact Nat.le_refl _⟩, ⟨by repeat (first | (with_reducible first | exact HB.out | apply below_alloc | apply pw_below_drewN | apply below_drew1) | exact HB.out)⟩⟩
          case rest =>
            clear HC19; (try clear c1); (try clear c2); (try clear p2); (try clear c6); (try clear c7); (try clear c7b0); (try clear c7b1); (try clear c8); (try clear c8b0); (try clear c8b1); (try clear c9); (try clear c11); (try clear c11b0); (try clear c11b1); (try clear c12); (try clear c12b0); (try clear c12b1); (try clear c13); (try clear c13b0); (try clear c13b1); (try clear c14); (try clear c14b0); (try clear c14b1); (try clear c15); (try clear c15b0); (try clear c15b1); (try clear c16); (try clear c16b0); (try clear c16b1); (try clear c17); (try clear c17b0); (try clear c17b1); (try clear c18); (try clear c20); (try clear c20b0); (try clear c20b1); (try clear c21); (try clear c21b0); (try clear c21b1); (try clear c22); (try clear c22b0); (try clear c22b1); (try clear p2); obtain ⟨kq, x20_18, rfl, HA, HJ18, HB⟩ := hcut
            cases kq with
            | zero => exact absurd HA.out (by simp [chars_Known.j2])
            | succ kj18 =>
              have H := HA.out; clear HA; simp only [chars_Known.j2] at H
              by_cases c23 : x20_18 = true
              case pos =>
                subst c23
                have H1 : (some ((⟨#[117, 116, 102, 45, 49, 54, 108, 101]⟩ : ByteArray), true)) = some (r1, r2) := by rw [if_pos rfl] at H; exact H
                clear H; have H := H1; clear H1; simp only [Option.some.injEq, Prod.mk.injEq] at H; obtain ⟨rfl, rfl⟩ := H
                go_wp2
                go_ret2
                exact ⟨by first | rfl | (simp [errW_none, errW_some] <;> rfl) | (simp [*, errW_none, errW_some] <;> rfl), by repeat (first | (with_reducible first | exact HB.out | apply below_alloc | apply pw_below_drewN | apply below_drew1) | exact HB.out)⟩
              replace c23 := Bool.eq_false_iff.mpr c23; subst c23
              have H1 : (if t102.toList = ([117, 116, 102, 45, 49, 54, 98, 101] : List UInt8) then (some ((⟨#[117, 116, 102, 45, 49, 54, 98, 101]⟩ : ByteArray), true)) else (if t102.toList = ([117, 110, 105, 99, 111, 100, 101, 102, 102, 102, 101] : List UInt8) then (some ((⟨#[117, 116, 102, 45, 49, 54, 98, 101]⟩ : ByteArray), true)) else (some ((⟨#[]⟩ : ByteArray), false)))) = some (r1, r2) := by rw [if_neg (show ¬ (false = true) by decide)] at H; exact H
              clear H; have H := H1; clear H1
              by_cases c24 : t102.toList = ([117, 116, 102, 45, 49, 54, 98, 101] : List UInt8)
              case pos =>
                rw [if_pos c24] at H; have c24b0 : (t102.toList == ([117, 116, 102, 45, 49, 54, 98, 101] : List UInt8)) = true := beq_iff_eq.mpr c24; have c24b1 : (t102.toList != ([117, 116, 102, 45, 49, 54, 98, 101] : List UInt8)) = false := bne_eq_false_iff_eq.mpr c24; clear c24; simp only [Option.some.injEq, Prod.mk.injEq] at H; obtain ⟨rfl, rfl⟩ := H
                go_wp2
                go_ret2
                exact ⟨by first | rfl | (simp [errW_none, errW_some] <;> rfl) | (simp [*, errW_none, errW_some] <;> rfl), by repeat (first | (with_reducible first | exact HB.out | apply below_alloc | apply pw_below_drewN | apply below_drew1) | exact HB.out)⟩
              rw [if_neg c24] at H; have c24b0 : (t102.toList == ([117, 116, 102, 45, 49, 54, 98, 101] : List UInt8)) = false := beq_eq_false_iff_ne.mpr c24; have c24b1 : (t102.toList != ([117, 116, 102, 45, 49, 54, 98, 101] : List UInt8)) = true := bne_iff_ne.mpr c24
              by_cases c25 : t102.toList = ([117, 110, 105, 99, 111, 100, 101, 102, 102, 102, 101] : List UInt8)
              case neg =>
                rw [if_neg c25] at H; have c25b0 : (t102.toList == ([117, 110, 105, 99, 111, 100, 101, 102, 102, 102, 101] : List UInt8)) = false := beq_eq_false_iff_ne.mpr c25; have c25b1 : (t102.toList != ([117, 110, 105, 99, 111, 100, 101, 102, 102, 102, 101] : List UInt8)) = true := bne_iff_ne.mpr c25; simp only [Option.some.injEq, Prod.mk.injEq] at H; obtain ⟨rfl, rfl⟩ := H
                go_wp2
                go_ret2
                exact ⟨by first | rfl | (simp [errW_none, errW_some] <;> rfl) | (simp [*, errW_none, errW_some] <;> rfl), by repeat (first | (with_reducible first | exact HB.out | apply below_alloc | apply pw_below_drewN | apply below_drew1) | exact HB.out)⟩
              rw [if_pos c25] at H; have c25b0 : (t102.toList == ([117, 110, 105, 99, 111, 100, 101, 102, 102, 102, 101] : List UInt8)) = true := beq_iff_eq.mpr c25; have c25b1 : (t102.toList != ([117, 110, 105, 99, 111, 100, 101, 102, 102, 102, 101] : List UInt8)) = false := bne_eq_false_iff_eq.mpr c25; clear c25; simp only [Option.some.injEq, Prod.mk.injEq] at H; obtain ⟨rfl, rfl⟩ := H
              go_wp2
              go_ret2
              exact ⟨by first | rfl | (simp [errW_none, errW_some] <;> rfl) | (simp [*, errW_none, errW_some] <;> rfl), by repeat (first | (with_reducible first | exact HB.out | apply below_alloc | apply pw_below_drewN | apply below_drew1) | exact HB.out)⟩
def chars_Decode.f (k : Nat) (a0 : ByteArray) (a1 : ByteArray) : Option (ByteArray × Bool) := (chars_Known.f k a0).bind fun bt103 => (if bt103.1.toList = ([119, 105, 110, 100, 111, 119, 115, 45, 49, 50, 53, 50] : List UInt8) then ((chars_singles.f a1).bind fun t105 => (some (t105, bt103.2))) else (if bt103.1.toList = ([117, 116, 102, 45, 49, 54, 108, 101] : List UInt8) then ((chars_doubles.f a1 0 8).bind fun t106 => (some (t106, bt103.2))) else (if bt103.1.toList = ([117, 116, 102, 45, 49, 54, 98, 101] : List UInt8) then ((chars_doubles.f a1 8 0).bind fun t107 => (some (t107, bt103.2))) else ((chars_Valid.f a1).bind fun t108 => (some (t108, bt103.2))))))
set_option maxHeartbeats 8000000 in
set_option maxRecDepth 100000 in
theorem chars_Decode.calls (k : Nat) (a0 : ByteArray) (a1 : ByteArray) (r1 : ByteArray) (r2 : Bool) (w : World) (hGl : Glob w) (h : chars_Decode.f k a0 a1 = some (r1, r2)) :
    Calls Tryz.prog 48 #[.string a0, .string a1] w fun e w' => e = .returned (.tuple #[.string r1, .bool r2]) ∧ Below w.heap.size w w' := by
  have HGl := Aside0.mk hGl; clear hGl; have HB := Aside0.mk (Below.refl w.heap.size w); have H : ((chars_Known.f k a0).bind fun bt103 => (if bt103.1.toList = ([119, 105, 110, 100, 111, 119, 115, 45, 49, 50, 53, 50] : List UInt8) then ((chars_singles.f a1).bind fun t105 => (some (t105, bt103.2))) else (if bt103.1.toList = ([117, 116, 102, 45, 49, 54, 108, 101] : List UInt8) then ((chars_doubles.f a1 0 8).bind fun t106 => (some (t106, bt103.2))) else (if bt103.1.toList = ([117, 116, 102, 45, 49, 54, 98, 101] : List UInt8) then ((chars_doubles.f a1 8 0).bind fun t107 => (some (t107, bt103.2))) else ((chars_Valid.f a1).bind fun t108 => (some (t108, bt103.2))))))) = some (r1, r2) := h; clear h; replace H := Option.bind_eq_some_iff.mp H; obtain ⟨⟨t103, t104⟩, A30, H⟩ := H; replace H : (if t103.toList = ([119, 105, 110, 100, 111, 119, 115, 45, 49, 50, 53, 50] : List UInt8) then ((chars_singles.f a1).bind fun t105 => (some (t105, t104))) else (if t103.toList = ([117, 116, 102, 45, 49, 54, 108, 101] : List UInt8) then ((chars_doubles.f a1 0 8).bind fun t106 => (some (t106, t104))) else (if t103.toList = ([117, 116, 102, 45, 49, 54, 98, 101] : List UInt8) then ((chars_doubles.f a1 8 0).bind fun t107 => (some (t107, t104))) else ((chars_Valid.f a1).bind fun t108 => (some (t108, t104)))))) = some (r1, r2) := H; have A3 := Aside0.mk A30; clear A30
  by_cases c4 : t103.toList = ([119, 105, 110, 100, 111, 119, 115, 45, 49, 50, 53, 50] : List UInt8)
  case pos =>
    rw [if_pos c4] at H; have c4b0 : (t103.toList == ([119, 105, 110, 100, 111, 119, 115, 45, 49, 50, 53, 50] : List UInt8)) = true := beq_iff_eq.mpr c4; have c4b1 : (t103.toList != ([119, 105, 110, 100, 111, 119, 115, 45, 49, 50, 53, 50] : List UInt8)) = false := bne_eq_false_iff_eq.mpr c4; clear c4; replace H := Option.bind_eq_some_iff.mp H; obtain ⟨t105, A50, H⟩ := H; replace H : (some (t105, t104)) = some (r1, r2) := H; have A5 := Aside0.mk A50; clear A50; simp only [Option.some.injEq, Prod.mk.injEq] at H; obtain ⟨rfl, rfl⟩ := H
    go_enter Tryz.func48, Tryz.ntmps48
    go_wp2_with (first | ((with_reducible refine gate_callee (f := 67) rfl ?_); refine goesL_ (some 10) rfl rfl Tryz.func67 (by kernel_rfl) rfl #[.string a0] rfl (by (try simp only [List.map_toArray, List.map_cons, List.map_nil]); first | done | rfl | (simp only [List.length_drop, List.length_take]; rfl)) ?_; (with_reducible refine (chars_Known.calls k a0 t103 t104 _ A3.out).mono ?_); rintro e w6 ⟨rfl, hb⟩; refine ⟨_, rfl, ?_⟩; have n0_ := Aside0.mk (below_step (by repeat (first | (with_reducible first | exact HB.out | apply below_alloc | apply pw_below_drewN | apply below_drew1) | exact HB.out)) hb); clear HB; have HB := n0_; clear n0_; (try clear hb); (try clear hb2); (try clear hk); (try clear hi)) | ((with_reducible refine gate_callee (f := 68) rfl ?_); refine goesL_ (some 17) rfl rfl Tryz.func68 (by kernel_rfl) rfl #[.string a1] rfl (by (try simp only [List.map_toArray, List.map_cons, List.map_nil]); first | done | rfl | (simp only [List.length_drop, List.length_take]; rfl)) ?_; (with_reducible refine (chars_singles.calls a1 t105 _ ?sideGl A5.out).mono ?_); (case sideGl => exact HGl.out.below (by repeat (first | (with_reducible first | exact HB.out | apply below_alloc | apply pw_below_drewN | apply below_drew1) | exact HB.out))); rintro e w7 ⟨rfl, hb⟩; refine ⟨_, rfl, ?_⟩; have n0_ := Aside0.mk (below_step (by repeat (first | (with_reducible first | exact HB.out | apply below_alloc | apply pw_below_drewN | apply below_drew1) | exact HB.out)) hb); clear HB; have HB := n0_; clear n0_; (try clear hb); (try clear hb2); (try clear hk); (try clear hi)))
    go_ret2
    exact ⟨by first | rfl | (simp [errW_none, errW_some] <;> rfl) | (simp [*, errW_none, errW_some] <;> rfl), by repeat (first | (with_reducible first | exact HB.out | apply below_alloc | apply pw_below_drewN | apply below_drew1) | exact HB.out)⟩
  rw [if_neg c4] at H; have c4b0 : (t103.toList == ([119, 105, 110, 100, 111, 119, 115, 45, 49, 50, 53, 50] : List UInt8)) = false := beq_eq_false_iff_ne.mpr c4; have c4b1 : (t103.toList != ([119, 105, 110, 100, 111, 119, 115, 45, 49, 50, 53, 50] : List UInt8)) = true := bne_iff_ne.mpr c4
  by_cases c8 : t103.toList = ([117, 116, 102, 45, 49, 54, 108, 101] : List UInt8)
  case pos =>
    rw [if_pos c8] at H; have c8b0 : (t103.toList == ([117, 116, 102, 45, 49, 54, 108, 101] : List UInt8)) = true := beq_iff_eq.mpr c8; have c8b1 : (t103.toList != ([117, 116, 102, 45, 49, 54, 108, 101] : List UInt8)) = false := bne_eq_false_iff_eq.mpr c8; clear c8; replace H := Option.bind_eq_some_iff.mp H; obtain ⟨t106, A90, H⟩ := H; replace H : (some (t106, t104)) = some (r1, r2) := H; have A9 := Aside0.mk A90; clear A90; simp only [Option.some.injEq, Prod.mk.injEq] at H; obtain ⟨rfl, rfl⟩ := H
    go_enter Tryz.func48, Tryz.ntmps48
    go_wp2_with (first | ((with_reducible refine gate_callee (f := 67) rfl ?_); refine goesL_ (some 10) rfl rfl Tryz.func67 (by kernel_rfl) rfl #[.string a0] rfl (by (try simp only [List.map_toArray, List.map_cons, List.map_nil]); first | done | rfl | (simp only [List.length_drop, List.length_take]; rfl)) ?_; (with_reducible refine (chars_Known.calls k a0 t103 t104 _ A3.out).mono ?_); rintro e w10 ⟨rfl, hb⟩; refine ⟨_, rfl, ?_⟩; have n0_ := Aside0.mk (below_step (by repeat (first | (with_reducible first | exact HB.out | apply below_alloc | apply pw_below_drewN | apply below_drew1) | exact HB.out)) hb); clear HB; have HB := n0_; clear n0_; (try clear hb); (try clear hb2); (try clear hk); (try clear hi)) | ((with_reducible refine gate_callee (f := 69) rfl ?_); refine goesL_ (some 22) rfl rfl Tryz.func69 (by kernel_rfl) rfl #[.string a1, .int .i64 0, .int .i64 8] rfl (by (try simp only [List.map_toArray, List.map_cons, List.map_nil]); first | done | rfl | (simp only [List.length_drop, List.length_take]; rfl)) ?_; (with_reducible refine (chars_doubles.calls a1 0 8 t106 _ A9.out).mono ?_); rintro e w11 ⟨rfl, hb⟩; refine ⟨_, rfl, ?_⟩; have n0_ := Aside0.mk (below_step (by repeat (first | (with_reducible first | exact HB.out | apply below_alloc | apply pw_below_drewN | apply below_drew1) | exact HB.out)) hb); clear HB; have HB := n0_; clear n0_; (try clear hb); (try clear hb2); (try clear hk); (try clear hi)))
    go_ret2
    exact ⟨by first | rfl | (simp [errW_none, errW_some] <;> rfl) | (simp [*, errW_none, errW_some] <;> rfl), by repeat (first | (with_reducible first | exact HB.out | apply below_alloc | apply pw_below_drewN | apply below_drew1) | exact HB.out)⟩
  rw [if_neg c8] at H; have c8b0 : (t103.toList == ([117, 116, 102, 45, 49, 54, 108, 101] : List UInt8)) = false := beq_eq_false_iff_ne.mpr c8; have c8b1 : (t103.toList != ([117, 116, 102, 45, 49, 54, 108, 101] : List UInt8)) = true := bne_iff_ne.mpr c8
  by_cases c12 : t103.toList = ([117, 116, 102, 45, 49, 54, 98, 101] : List UInt8)
  case neg =>
    rw [if_neg c12] at H; have c12b0 : (t103.toList == ([117, 116, 102, 45, 49, 54, 98, 101] : List UInt8)) = false := beq_eq_false_iff_ne.mpr c12; have c12b1 : (t103.toList != ([117, 116, 102, 45, 49, 54, 98, 101] : List UInt8)) = true := bne_iff_ne.mpr c12; replace H := Option.bind_eq_some_iff.mp H; obtain ⟨t108, A160, H⟩ := H; replace H : (some (t108, t104)) = some (r1, r2) := H; have A16 := Aside0.mk A160; clear A160; simp only [Option.some.injEq, Prod.mk.injEq] at H; obtain ⟨rfl, rfl⟩ := H
    go_enter Tryz.func48, Tryz.ntmps48
    go_wp2_with (first | ((with_reducible refine gate_callee (f := 67) rfl ?_); refine goesL_ (some 10) rfl rfl Tryz.func67 (by kernel_rfl) rfl #[.string a0] rfl (by (try simp only [List.map_toArray, List.map_cons, List.map_nil]); first | done | rfl | (simp only [List.length_drop, List.length_take]; rfl)) ?_; (with_reducible refine (chars_Known.calls k a0 t103 t104 _ A3.out).mono ?_); rintro e w17 ⟨rfl, hb⟩; refine ⟨_, rfl, ?_⟩; have n0_ := Aside0.mk (below_step (by repeat (first | (with_reducible first | exact HB.out | apply below_alloc | apply pw_below_drewN | apply below_drew1) | exact HB.out)) hb); clear HB; have HB := n0_; clear n0_; (try clear hb); (try clear hb2); (try clear hk); (try clear hi)) | ((with_reducible refine gate_callee (f := 70) rfl ?_); refine goesL_ (some 30) rfl rfl Tryz.func70 (by kernel_rfl) rfl #[.string a1] rfl (by (try simp only [List.map_toArray, List.map_cons, List.map_nil]); first | done | rfl | (simp only [List.length_drop, List.length_take]; rfl)) ?_; (with_reducible refine (chars_Valid.calls a1 t108 _ A16.out).mono ?_); rintro e w18 ⟨rfl, hb⟩; refine ⟨_, rfl, ?_⟩; have n0_ := Aside0.mk (below_step (by repeat (first | (with_reducible first | exact HB.out | apply below_alloc | apply pw_below_drewN | apply below_drew1) | exact HB.out)) hb); clear HB; have HB := n0_; clear n0_; (try clear hb); (try clear hb2); (try clear hk); (try clear hi)))
    go_ret2
    exact ⟨by first | rfl | (simp [errW_none, errW_some] <;> rfl) | (simp [*, errW_none, errW_some] <;> rfl), by repeat (first | (with_reducible first | exact HB.out | apply below_alloc | apply pw_below_drewN | apply below_drew1) | exact HB.out)⟩
  rw [if_pos c12] at H; have c12b0 : (t103.toList == ([117, 116, 102, 45, 49, 54, 98, 101] : List UInt8)) = true := beq_iff_eq.mpr c12; have c12b1 : (t103.toList != ([117, 116, 102, 45, 49, 54, 98, 101] : List UInt8)) = false := bne_eq_false_iff_eq.mpr c12; clear c12; replace H := Option.bind_eq_some_iff.mp H; obtain ⟨t107, A130, H⟩ := H; replace H : (some (t107, t104)) = some (r1, r2) := H; have A13 := Aside0.mk A130; clear A130; simp only [Option.some.injEq, Prod.mk.injEq] at H; obtain ⟨rfl, rfl⟩ := H
  go_enter Tryz.func48, Tryz.ntmps48
  go_wp2_with (first | ((with_reducible refine gate_callee (f := 67) rfl ?_); refine goesL_ (some 10) rfl rfl Tryz.func67 (by kernel_rfl) rfl #[.string a0] rfl (by (try simp only [List.map_toArray, List.map_cons, List.map_nil]); first | done | rfl | (simp only [List.length_drop, List.length_take]; rfl)) ?_; (with_reducible refine (chars_Known.calls k a0 t103 t104 _ A3.out).mono ?_); rintro e w14 ⟨rfl, hb⟩; refine ⟨_, rfl, ?_⟩; have n0_ := Aside0.mk (below_step (by repeat (first | (with_reducible first | exact HB.out | apply below_alloc | apply pw_below_drewN | apply below_drew1) | exact HB.out)) hb); clear HB; have HB := n0_; clear n0_; (try clear hb); (try clear hb2); (try clear hk); (try clear hi)) | ((with_reducible refine gate_callee (f := 69) rfl ?_); refine goesL_ (some 27) rfl rfl Tryz.func69 (by kernel_rfl) rfl #[.string a1, .int .i64 8, .int .i64 0] rfl (by (try simp only [List.map_toArray, List.map_cons, List.map_nil]); first | done | rfl | (simp only [List.length_drop, List.length_take]; rfl)) ?_; (with_reducible refine (chars_doubles.calls a1 8 0 t107 _ A13.out).mono ?_); rintro e w15 ⟨rfl, hb⟩; refine ⟨_, rfl, ?_⟩; have n0_ := Aside0.mk (below_step (by repeat (first | (with_reducible first | exact HB.out | apply below_alloc | apply pw_below_drewN | apply below_drew1) | exact HB.out)) hb); clear HB; have HB := n0_; clear n0_; (try clear hb); (try clear hb2); (try clear hk); (try clear hi)))
  go_ret2
  exact ⟨by first | rfl | (simp [errW_none, errW_some] <;> rfl) | (simp [*, errW_none, errW_some] <;> rfl), by repeat (first | (with_reducible first | exact HB.out | apply below_alloc | apply pw_below_drewN | apply below_drew1) | exact HB.out)⟩
def muslinref04_Space.f (a0 : Int) : Option (Bool) := if a0 = 32 then (some true) else (if a0 = 9 then (some true) else (if a0 = 10 then (some true) else (if a0 = 12 then (some true) else (some (a0 == 13)))))
set_option maxHeartbeats 8000000 in
set_option maxRecDepth 100000 in
theorem muslinref04_Space.calls (a0 : Int) (r : Bool) (w : World) (h : muslinref04_Space.f a0 = some r) :
    Calls Tryz.prog 101 #[.int .u8 a0] w fun e w' => e = .returned (.bool r) ∧ Drawn0 w w' := by
  have H : (if a0 = 32 then (some true) else (if a0 = 9 then (some true) else (if a0 = 10 then (some true) else (if a0 = 12 then (some true) else (some (a0 == 13)))))) = some r := h; clear h
  by_cases c2 : a0 = 32
  case pos =>
    rw [if_pos c2] at H; have c2b0 : (a0 == 32) = true := beq_iff_eq.mpr c2; have c2b1 : (a0 != 32) = false := bne_eq_false_iff_eq.mpr c2; clear c2; obtain rfl := Option.some.inj H
    go_enter Tryz.func101, Tryz.ntmps101
    go_wp2
    go_ret
    exact ⟨by first | rfl | (simp; done) | (simp [*]; done), by repeat (first | exact Drawn0.refl _ | apply Drawn0.step)⟩
  rw [if_neg c2] at H; have c2b0 : (a0 == 32) = false := beq_eq_false_iff_ne.mpr c2; have c2b1 : (a0 != 32) = true := bne_iff_ne.mpr c2
  by_cases c3 : a0 = 9
  case pos =>
    rw [if_pos c3] at H; have c3b0 : (a0 == 9) = true := beq_iff_eq.mpr c3; have c3b1 : (a0 != 9) = false := bne_eq_false_iff_eq.mpr c3; clear c3; obtain rfl := Option.some.inj H
    go_enter Tryz.func101, Tryz.ntmps101
    go_wp2
    go_ret
    exact ⟨by first | rfl | (simp; done) | (simp [*]; done), by repeat (first | exact Drawn0.refl _ | apply Drawn0.step)⟩
  rw [if_neg c3] at H; have c3b0 : (a0 == 9) = false := beq_eq_false_iff_ne.mpr c3; have c3b1 : (a0 != 9) = true := bne_iff_ne.mpr c3
  by_cases c4 : a0 = 10
  case pos =>
    rw [if_pos c4] at H; have c4b0 : (a0 == 10) = true := beq_iff_eq.mpr c4; have c4b1 : (a0 != 10) = false := bne_eq_false_iff_eq.mpr c4; clear c4; obtain rfl := Option.some.inj H
    go_enter Tryz.func101, Tryz.ntmps101
    go_wp2
    go_ret
    exact ⟨by first | rfl | (simp; done) | (simp [*]; done), by repeat (first | exact Drawn0.refl _ | apply Drawn0.step)⟩
  rw [if_neg c4] at H; have c4b0 : (a0 == 10) = false := beq_eq_false_iff_ne.mpr c4; have c4b1 : (a0 != 10) = true := bne_iff_ne.mpr c4
  by_cases c5 : a0 = 12
  case neg =>
    rw [if_neg c5] at H; have c5b0 : (a0 == 12) = false := beq_eq_false_iff_ne.mpr c5; have c5b1 : (a0 != 12) = true := bne_iff_ne.mpr c5; obtain rfl := Option.some.inj H
    go_enter Tryz.func101, Tryz.ntmps101
    go_wp2
    go_ret
    exact ⟨by first | rfl | (simp; done) | (simp [*]; done), by repeat (first | exact Drawn0.refl _ | apply Drawn0.step)⟩
  rw [if_pos c5] at H; have c5b0 : (a0 == 12) = true := beq_iff_eq.mpr c5; have c5b1 : (a0 != 12) = false := bne_eq_false_iff_eq.mpr c5; clear c5; obtain rfl := Option.some.inj H
  go_enter Tryz.func101, Tryz.ntmps101
  go_wp2
  go_ret
  exact ⟨by first | rfl | (simp; done) | (simp [*]; done), by repeat (first | exact Drawn0.refl _ | apply Drawn0.step)⟩
end Go.Proofs.YtkfcbafjcjmfnaaGreatDoor.C
namespace Go.Proofs.YtkfcbafjcjmfnaaGreatDoor.C
open Go.RowKit Go.Proofs.YtkfcbafjcjmfnaaGreatDoorW.PrintWords Go.Proofs.YtkfcbafjcjmfnaaGreatDoorW.PrintLast Go.Proofs.YtkfcbafjcjmfnaaGreatDoorW.PrintMore
attribute [local go_sem] max2_int min2_int max_two min_two max_three min_three max_four min_four
set_option linter.unusedVariables false
set_option linter.unusedSimpArgs false
mutual
def muslinref04_clean.j1 : Nat → ByteArray → Option (ByteArray)
  | 0, _ => none
  | k + 1, x0 => muslinref04_clean.l1 k x0
def muslinref04_clean.l1 : Nat → ByteArray → Option (ByteArray)
  | 0, _ => none
  | k + 1, x0 => if (x0.size : Int) > 0 then (if 0 ≤ (wrap64 ((x0.size : Int) - 1)) then (if (wrap64 ((x0.size : Int) - 1)) < (x0.size : Int) then ((muslinref04_Space.f (bt x0 (wrap64 ((x0.size : Int) - 1)))).bind fun t110 => (if t110 = true then (if (wrap64 ((x0.size : Int) - 1)) ≤ (x0.size : Int) then (muslinref04_clean.l1 k (x0.extract 0 ((wrap64 ((x0.size : Int) - 1)) : Int).toNat)) else (none)) else ((muslinref03_Small.f x0).bind fun t111 => (some t111)))) else (none)) else (none)) else ((muslinref03_Small.f x0).bind fun t112 => (some t112))
def muslinref04_clean.l0 : Nat → ByteArray → Option (ByteArray)
  | 0, _ => none
  | k + 1, x0 => if (x0.size : Int) > 0 then (if 0 < (x0.size : Int) then ((muslinref04_Space.f (bt x0 0)).bind fun t109 => (if t109 = true then (if 1 ≤ (x0.size : Int) then (muslinref04_clean.l0 k (x0.extract 1 x0.size)) else (none)) else (muslinref04_clean.j1 k x0))) else (none)) else (muslinref04_clean.j1 k x0)
end
def muslinref04_clean.f (k : Nat) (a0 : ByteArray) : Option (ByteArray) := muslinref04_clean.l0 k a0
theorem muslinref04_clean.mono_l : ∀ k, (∀ y0, LeO (muslinref04_clean.j1 k y0) (muslinref04_clean.j1 (k + 1) y0)) ∧ (∀ y0, LeO (muslinref04_clean.l1 k y0) (muslinref04_clean.l1 (k + 1) y0)) ∧ (∀ y0, LeO (muslinref04_clean.l0 k y0) (muslinref04_clean.l0 (k + 1) y0))
  | 0 => ⟨fun _ r h => by simp [muslinref04_clean.j1] at h, fun _ r h => by simp [muslinref04_clean.l1] at h, fun _ r h => by simp [muslinref04_clean.l0] at h⟩
  | k + 1 => by
    obtain ⟨ih0, ih1, ih2⟩ := muslinref04_clean.mono_l k
    refine ⟨?_, ?_, ?_⟩
    · intro y0
      unfold muslinref04_clean.j1
      repeat' first
      | (with_reducible exact ih0 _)
      | (with_reducible exact ih1 _)
      | (with_reducible exact ih2 _)
      | (with_reducible exact LeO.refl _)
      | (with_reducible exact LeO.none _)
      | (with_reducible refine LeO.ite ?_ ?_)
      | (with_reducible refine LeO.bind ?_ (fun _ => ?_))
      | exact ih0 _
      | exact ih1 _
      | exact ih2 _
      | exact LeO.none _
      | refine LeO.ite ?_ ?_
      | refine LeO.bind ?_ (fun _ => ?_)
    · intro y0
      unfold muslinref04_clean.l1
      repeat' first
      | (with_reducible exact ih0 _)
      | (with_reducible exact ih1 _)
      | (with_reducible exact ih2 _)
      | (with_reducible exact LeO.refl _)
      | (with_reducible exact LeO.none _)
      | (with_reducible refine LeO.ite ?_ ?_)
      | (with_reducible refine LeO.bind ?_ (fun _ => ?_))
      | exact ih0 _
      | exact ih1 _
      | exact ih2 _
      | exact LeO.none _
      | refine LeO.ite ?_ ?_
      | refine LeO.bind ?_ (fun _ => ?_)
    · intro y0
      unfold muslinref04_clean.l0
      repeat' first
      | (with_reducible exact ih0 _)
      | (with_reducible exact ih1 _)
      | (with_reducible exact ih2 _)
      | (with_reducible exact LeO.refl _)
      | (with_reducible exact LeO.none _)
      | (with_reducible refine LeO.ite ?_ ?_)
      | (with_reducible refine LeO.bind ?_ (fun _ => ?_))
      | exact ih0 _
      | exact ih1 _
      | exact ih2 _
      | exact LeO.none _
      | refine LeO.ite ?_ ?_
      | refine LeO.bind ?_ (fun _ => ?_)
theorem muslinref04_clean.mono : ∀ a0 k, LeO (muslinref04_clean.f k a0) (muslinref04_clean.f (k + 1) a0) := by
  intro a0 k; obtain ⟨ih0, ih1, ih2⟩ := muslinref04_clean.mono_l k; unfold muslinref04_clean.f
  repeat' first
      | (with_reducible exact ih0 _)
      | (with_reducible exact ih1 _)
      | (with_reducible exact ih2 _)
      | (with_reducible exact LeO.refl _)
      | (with_reducible exact LeO.none _)
      | (with_reducible refine LeO.ite ?_ ?_)
      | (with_reducible refine LeO.bind ?_ (fun _ => ?_))
      | exact ih0 _
      | exact ih1 _
      | exact ih2 _
      | exact LeO.none _
      | refine LeO.ite ?_ ?_
      | refine LeO.bind ?_ (fun _ => ?_)
set_option maxHeartbeats 8000000 in
set_option maxRecDepth 100000 in
theorem muslinref04_clean.calls (k : Nat) (a0 : ByteArray) (r : ByteArray) (w : World) (h : muslinref04_clean.f k a0 = some r) :
    Calls Tryz.prog 81 #[.string a0] w fun e w' => e = .returned (.string r) ∧ Below w.heap.size w w' := by
  have HB := Aside0.mk (Below.refl w.heap.size w); have H : (muslinref04_clean.l0 k a0) = some r := h; clear h; have HC2 := Aside0.mk H; clear H
  go_enter Tryz.func81, Tryz.ntmps81
  go_upto_block 0 with (fail)
  go_cut [0] (fun v0 wc => ∃ (kq : Nat) (x0_1 : ByteArray), v0 = .string x0_1 ∧ Aside0 (muslinref04_clean.j1 kq x0_1 = some r) ∧ Aside0 (kq ≤ k) ∧ Aside0 (Below w.heap.size w wc))
  case first =>
    have H := HC2.out; clear HC2; have H' := Aside0.mk H; clear H
    go_wp2
    go_loopg [0] k (fun kq v0 w' => ∃ (x0_1 : ByteArray), v0 = .string x0_1 ∧ Aside0 (muslinref04_clean.l0 kq x0_1 = some r) ∧ Aside0 (kq ≤ k) ∧ Aside0 (Below w.heap.size w w'))
    case atStart => exact ⟨(a0), (by first | rfl | (simp; done) | (simp [*]; done)), H', ⟨Nat.le_refl _⟩, ⟨by repeat (first | (with_reducible first | exact HB.out | apply below_alloc | apply pw_below_drewN | apply below_drew1) | exact HB.out)⟩⟩
    case round =>
      clear H'; (try clear p2); obtain ⟨x0_1, rfl, HA, HK1, HB⟩ := hrel
      cases gk with
      | zero => exact absurd HA.out (by simp [muslinref04_clean.l0])
      | succ k1 =>
        have H := HA.out; clear HA; simp only [muslinref04_clean.l0] at H
        by_cases c3 : (x0_1.size : Int) > 0
        case neg =>
          rw [if_neg c3] at H; have c3b0 : decide (0 < (x0_1.size : Int)) = false := decide_eq_false c3; have c3b1 : decide (0 < x0_1.size) = false := decide_eq_false (by omega); clear c3
          (first | rw [c3b0] | (simp only [i64_w, i32_w]; rw [c3b0]) | skip)
          have H' := Aside0.mk H; clear H
          go_wp2
          go_meet
          case rel => exact ⟨_, (x0_1), (by first | rfl | (simp; done) | (simp [*]; done)), H', ⟨by have := HK1.out; first | omega | exact Nat.le_refl _⟩, ⟨by repeat (first | (with_reducible first | exact HB.out | apply below_alloc | apply pw_below_drewN | apply below_drew1) | exact HB.out)⟩⟩
        rw [if_pos c3] at H; have c3b0 : decide (0 < (x0_1.size : Int)) = true := decide_eq_true c3; have c3b1 : decide (0 < x0_1.size) = true := decide_eq_true (by omega); clear c3
        (first | rw [c3b0] | (simp only [i64_w, i32_w]; rw [c3b0]) | skip)
        by_cases c4 : 0 < (x0_1.size : Int)
        case neg =>
          rw [if_neg c4] at H
          exact absurd H (by simp)
        rw [if_pos c4] at H; have c4b0 : decide (0 < (x0_1.size : Int)) = true := decide_eq_true c4; have c4b1 : decide (0 < x0_1.size) = true := decide_eq_true (by omega); clear c4; replace H := Option.bind_eq_some_iff.mp H; obtain ⟨t109, A60, H⟩ := H; replace H : (if t109 = true then (if 1 ≤ (x0_1.size : Int) then (muslinref04_clean.l0 k1 (x0_1.extract 1 x0_1.size)) else (none)) else (muslinref04_clean.j1 k1 x0_1)) = some r := H; have A6 := Aside0.mk A60; clear A60
        by_cases c7 : t109 = true
        case neg =>
          replace c7 := Bool.eq_false_iff.mpr c7; subst c7
          have H1 : (muslinref04_clean.j1 k1 x0_1) = some r := by rw [if_neg (show ¬ (false = true) by decide)] at H; exact H
          clear H; have H := H1; clear H1; have H' := Aside0.mk H; clear H; have p5 : 0 ≤ (0 : Int) := (by omega); have q5 : 0 < x0_1.size := (by have : (0 : Int) < (x0_1.size : Int) := of_decide_eq_true (by first | (with_reducible assumption) | assumption); omega); have hx5 : ∀ h : 0 < x0_1.size, ((x0_1[0]'h).toNat : Int) = bt x0_1 0 := bt_at x0_1 0; clear p5; have qi5 : (0 < (x0_1.size : Int)) = True := eq_true (of_decide_eq_true (by first | (with_reducible assumption) | assumption)); replace q5 := eq_true q5; go_wp2_with (first | (go_at_call 101; (with_reducible refine (muslinref04_Space.calls (bt x0_1 0) false _ A6.out).mono ?_); rintro e w' ⟨rfl, ⟨nd, rfl⟩⟩))
          go_meet
          case rel => exact ⟨_, (x0_1), (by first | rfl | (simp; done) | (simp [*]; done)), H', ⟨by have := HK1.out; first | omega | exact Nat.le_refl _⟩, ⟨by repeat (first | (with_reducible first | exact HB.out | apply below_alloc | apply pw_below_drewN | apply below_drew1) | exact HB.out)⟩⟩
        subst c7
        have H1 : (if 1 ≤ (x0_1.size : Int) then (muslinref04_clean.l0 k1 (x0_1.extract 1 x0_1.size)) else (none)) = some r := by rw [if_pos rfl] at H; exact H
        clear H; have H := H1; clear H1
        by_cases c8 : 1 ≤ (x0_1.size : Int)
        case neg =>
          rw [if_neg c8] at H
          exact absurd H (by simp)
        rw [if_pos c8] at H; have c8b0 := eq_true c8; have c8b1 : decide (1 ≤ (x0_1.size : Int)) = true := decide_eq_true c8; clear c8; have H' := Aside0.mk H; clear H; have p5 : 0 ≤ (0 : Int) := (by omega); have q5 : 0 < x0_1.size := (by have : (0 : Int) < (x0_1.size : Int) := of_decide_eq_true (by first | (with_reducible assumption) | assumption); omega); have hx5 : ∀ h : 0 < x0_1.size, ((x0_1[0]'h).toNat : Int) = bt x0_1 0 := bt_at x0_1 0; clear p5; have qi5 : (0 < (x0_1.size : Int)) = True := eq_true (of_decide_eq_true (by first | (with_reducible assumption) | assumption)); replace q5 := eq_true q5; go_wp2_with (first | (go_at_call 101; (with_reducible refine (muslinref04_Space.calls (bt x0_1 0) true _ A6.out).mono ?_); rintro e w' ⟨rfl, ⟨nd, rfl⟩⟩))
        go_roundg k1
        case measure => have := HK1.out; omega
        case rel => exact ⟨(x0_1.extract 1 x0_1.size), (by first | rfl | (simp; done) | (simp [*]; done)), H', ⟨by have := HK1.out; omega⟩, ⟨by repeat (first | (with_reducible first | exact HB.out | apply below_alloc | apply pw_below_drewN | apply below_drew1) | exact HB.out)⟩⟩
  case rest =>
    clear HC2; (try clear p2); (try clear c3); (try clear c3b0); (try clear c3b1); (try clear c4); (try clear c4b0); (try clear c4b1); (try clear p5); (try clear q5); (try clear hx5); (try clear qi5); (try clear c7); (try clear c8); (try clear c8b0); (try clear c8b1); (try clear p2); (try clear p5); (try clear q5); obtain ⟨kq, x0_1, rfl, HA, HJ1, HB⟩ := hcut
    cases kq with
    | zero => exact absurd HA.out (by simp [muslinref04_clean.j1])
    | succ kj1 =>
      have H := HA.out; clear HA; simp only [muslinref04_clean.j1] at H; have H' := Aside0.mk H; clear H
      go_wp2
      go_loopg [0] kj1 (fun kq v0 w' => ∃ (x0_2 : ByteArray), v0 = .string x0_2 ∧ Aside0 (muslinref04_clean.l1 kq x0_2 = some r) ∧ Aside0 (kq ≤ kj1) ∧ Aside0 (Below w.heap.size w w'))
      case atStart => exact ⟨(x0_1), (by first | rfl | (simp; done) | (simp [*]; done)), H', ⟨Nat.le_refl _⟩, ⟨by repeat (first | (with_reducible first | exact HB.out | apply below_alloc | apply pw_below_drewN | apply below_drew1) | exact HB.out)⟩⟩
      case round =>
        clear H'; (try clear p2); (try clear c3); (try clear c3b0); (try clear c3b1); (try clear c4); (try clear c4b0); (try clear c4b1); (try clear p5); (try clear q5); (try clear hx5); (try clear qi5); (try clear c7); (try clear c8); (try clear c8b0); (try clear c8b1); (try clear p2); (try clear p5); (try clear q5); obtain ⟨x0_2, rfl, HA, HK2, HB⟩ := hrel
        cases gk with
        | zero => exact absurd HA.out (by simp [muslinref04_clean.l1])
        | succ k2 =>
          have H := HA.out; clear HA; simp only [muslinref04_clean.l1] at H
          by_cases c9 : (x0_2.size : Int) > 0
          case neg =>
            rw [if_neg c9] at H; have c9b0 : decide (0 < (x0_2.size : Int)) = false := decide_eq_false c9; have c9b1 : decide (0 < x0_2.size) = false := decide_eq_false (by omega); clear c9; replace H := Option.bind_eq_some_iff.mp H; obtain ⟨t112, A200, H⟩ := H; replace H : (some t112) = some r := H; have A20 := Aside0.mk A200; clear A200; obtain rfl := Option.some.inj H; go_wp2_with (first | ((with_reducible refine gate_callee (f := 102) rfl ?_); refine goesL_ (some 30) rfl rfl Tryz.func102 (by kernel_rfl) rfl #[.string x0_2] rfl (by (try simp only [List.map_toArray, List.map_cons, List.map_nil]); first | done | rfl | (simp only [List.length_drop, List.length_take]; rfl)) ?_; (with_reducible refine (muslinref03_Small.calls x0_2 t112 _ A20.out).mono ?_); rintro e w21 ⟨rfl, hb⟩; refine ⟨_, rfl, ?_⟩; have n0_ := Aside0.mk (below_step (by repeat (first | (with_reducible first | exact HB.out | apply below_alloc | apply pw_below_drewN | apply below_drew1) | exact HB.out)) hb); clear HB; have HB := n0_; clear n0_; (try clear hb); (try clear hb2); (try clear hk); (try clear hi)))
            go_ret
            exact ⟨by first | rfl | (simp [errW_none, errW_some] <;> rfl) | (simp [*, errW_none, errW_some] <;> rfl), by repeat (first | (with_reducible first | exact HB.out | apply below_alloc | apply pw_below_drewN | apply below_drew1) | exact HB.out)⟩
          rw [if_pos c9] at H; have c9b0 : decide (0 < (x0_2.size : Int)) = true := decide_eq_true c9; have c9b1 : decide (0 < x0_2.size) = true := decide_eq_true (by omega); clear c9; obtain ⟨ji10, hji10⟩ : ∃ j_ : Int, (wrap64 ((x0_2.size : Int) - 1)) = j_ := ⟨_, rfl⟩
          replace H : (if 0 ≤ (ji10) then (if (ji10) < (x0_2.size : Int) then ((muslinref04_Space.f (bt x0_2 (ji10))).bind fun t110 => (if t110 = true then (if (ji10) ≤ (x0_2.size : Int) then (muslinref04_clean.l1 k2 (x0_2.extract 0 ((ji10) : Int).toNat)) else (none)) else ((muslinref03_Small.f x0_2).bind fun t111 => (some t111)))) else (none)) else (none)) = some r := by first | (rw [hji10] at H; exact H) | (simp only [hji10] at H ⊢; exact H)
          have hji10w : (IntKind.i64.wrap ((x0_2.size : Int) - 1)) = ji10 := (i64_w _).trans hji10
          by_cases c11 : 0 ≤ (ji10)
          case neg =>
            rw [if_neg c11] at H
            exact absurd H (by simp)
          rw [if_pos c11] at H; have c11b0 : decide (0 ≤ (ji10)) = true := decide_eq_true c11; clear c11
          by_cases c12 : (ji10) < (x0_2.size : Int)
          case neg =>
            rw [if_neg c12] at H
            exact absurd H (by simp)
          rw [if_pos c12] at H; have c12b0 : decide ((ji10) < (x0_2.size : Int)) = true := decide_eq_true c12; clear c12; replace H := Option.bind_eq_some_iff.mp H; obtain ⟨t110, A140, H⟩ := H; replace H : (if t110 = true then (if (ji10) ≤ (x0_2.size : Int) then (muslinref04_clean.l1 k2 (x0_2.extract 0 ((ji10) : Int).toNat)) else (none)) else ((muslinref03_Small.f x0_2).bind fun t111 => (some t111))) = some r := H; have A14 := Aside0.mk A140; clear A140
          by_cases c15 : t110 = true
          case pos =>
            subst c15
            have H1 : (if (ji10) ≤ (x0_2.size : Int) then (muslinref04_clean.l1 k2 (x0_2.extract 0 ((ji10) : Int).toNat)) else (none)) = some r := by rw [if_pos rfl] at H; exact H
            clear H; have H := H1; clear H1; have c16b0 := eq_true (of_decide_eq_true (by first | (with_reducible assumption) | assumption) : 0 ≤ (ji10))
            by_cases c17 : (ji10) ≤ (x0_2.size : Int)
            case neg =>
              rw [if_neg c17] at H
              exact absurd H (by simp)
            rw [if_pos c17] at H; have c17b0 := eq_true c17; have c17b1 : decide ((ji10) ≤ (x0_2.size : Int)) = true := decide_eq_true c17; clear c17; have H' := Aside0.mk H; clear H; have p13 : 0 ≤ ((ji10) : Int) := of_decide_eq_true (by first | (with_reducible assumption) | assumption); have q13 : (ji10) < (x0_2.size : Int) := of_decide_eq_true (by first | (with_reducible assumption) | assumption); have hx13 := bt_at x0_2 (ji10); replace p13 := eq_true p13; replace q13 := eq_true q13; go_wp2_with (first | (go_at_call 101; (with_reducible refine (muslinref04_Space.calls (bt x0_2 (ji10)) true _ A14.out).mono ?_); rintro e w' ⟨rfl, ⟨nd, rfl⟩⟩))
            go_roundg k2
            case measure => have := HJ1.out; have := HK2.out; omega
            case rel => exact ⟨(x0_2.extract 0 ((ji10) : Int).toNat), (by first | rfl | (simp; done) | (simp only [← hji10] <;> (first | rfl | (simp; done) | (simp; simp only [hji10]; exact beq_iff_eq.1 (by assumption)))) | (simp [*]; done)), H', ⟨by have := HJ1.out; have := HK2.out; omega⟩, ⟨by repeat (first | (with_reducible first | exact HB.out | apply below_alloc | apply pw_below_drewN | apply below_drew1) | exact HB.out)⟩⟩
          replace c15 := Bool.eq_false_iff.mpr c15; subst c15
          have H1 : ((muslinref03_Small.f x0_2).bind fun t111 => (some t111)) = some r := by rw [if_neg (show ¬ (false = true) by decide)] at H; exact H
          clear H; have H := H1; clear H1; replace H := Option.bind_eq_some_iff.mp H; obtain ⟨t111, A180, H⟩ := H; replace H : (some t111) = some r := H; have A18 := Aside0.mk A180; clear A180; obtain rfl := Option.some.inj H; have p13 : 0 ≤ ((ji10) : Int) := of_decide_eq_true (by first | (with_reducible assumption) | assumption); have q13 : (ji10) < (x0_2.size : Int) := of_decide_eq_true (by first | (with_reducible assumption) | assumption); have hx13 := bt_at x0_2 (ji10); replace p13 := eq_true p13; replace q13 := eq_true q13; go_wp2_with (first | (go_at_call 101; (with_reducible refine (muslinref04_Space.calls (bt x0_2 (ji10)) false _ A14.out).mono ?_); rintro e w' ⟨rfl, ⟨nd, rfl⟩⟩) | ((with_reducible refine gate_callee (f := 102) rfl ?_); refine goesL_ (some 30) rfl rfl Tryz.func102 (by kernel_rfl) rfl #[.string x0_2] rfl (by (try simp only [List.map_toArray, List.map_cons, List.map_nil]); first | done | rfl | (simp only [List.length_drop, List.length_take]; rfl)) ?_; (with_reducible refine (muslinref03_Small.calls x0_2 t111 _ A18.out).mono ?_); rintro e w19 ⟨rfl, hb⟩; refine ⟨_, rfl, ?_⟩; have n0_ := Aside0.mk (below_step (by repeat (first | (with_reducible first | exact HB.out | apply below_alloc | apply pw_below_drewN | apply below_drew1) | exact HB.out)) hb); clear HB; have HB := n0_; clear n0_; (try clear hb); (try clear hb2); (try clear hk); (try clear hi)))
          go_ret
          exact ⟨by first | rfl | (simp [errW_none, errW_some] <;> rfl) | (simp only [← hji10]; first | rfl | (simp [errW_none, errW_some] <;> rfl)) | (simp [*, errW_none, errW_some] <;> rfl), by repeat (first | (with_reducible first | exact HB.out | apply below_alloc | apply pw_below_drewN | apply below_drew1) | exact HB.out)⟩
mutual
def muslinref04_Known.j0 : Nat → ByteArray → Bool → Option (ByteArray × Bool)
  | 0, _, _ => none
  | k + 1, x5, x6 => if x6 = true then (some ((⟨#[117, 116, 102, 45, 56]⟩ : ByteArray), true)) else (if x5.toList = ([119, 105, 110, 100, 111, 119, 115, 45, 49, 50, 53, 50] : List UInt8) then (muslinref04_Known.j1 k x5 (x5.toList == ([119, 105, 110, 100, 111, 119, 115, 45, 49, 50, 53, 50] : List UInt8))) else (if x5.toList = ([99, 112, 49, 50, 53, 50] : List UInt8) then (muslinref04_Known.j1 k x5 (x5.toList == ([99, 112, 49, 50, 53, 50] : List UInt8))) else (if x5.toList = ([117, 115, 45, 97, 115, 99, 105, 105] : List UInt8) then (muslinref04_Known.j1 k x5 (x5.toList == ([117, 115, 45, 97, 115, 99, 105, 105] : List UInt8))) else (if x5.toList = ([97, 115, 99, 105, 105] : List UInt8) then (muslinref04_Known.j1 k x5 (x5.toList == ([97, 115, 99, 105, 105] : List UInt8))) else (if x5.toList = ([105, 115, 111, 45, 56, 56, 53, 57, 45, 49] : List UInt8) then (muslinref04_Known.j1 k x5 (x5.toList == ([105, 115, 111, 45, 56, 56, 53, 57, 45, 49] : List UInt8))) else (if x5.toList = ([105, 115, 111, 56, 56, 53, 57, 45, 49] : List UInt8) then (muslinref04_Known.j1 k x5 (x5.toList == ([105, 115, 111, 56, 56, 53, 57, 45, 49] : List UInt8))) else (if x5.toList = ([108, 97, 116, 105, 110, 49] : List UInt8) then (muslinref04_Known.j1 k x5 (x5.toList == ([108, 97, 116, 105, 110, 49] : List UInt8))) else (muslinref04_Known.j1 k x5 (x5.toList == ([108, 49] : List UInt8))))))))))
def muslinref04_Known.j1 : Nat → ByteArray → Bool → Option (ByteArray × Bool)
  | 0, _, _ => none
  | k + 1, x5, x10 => if x10 = true then (some ((⟨#[119, 105, 110, 100, 111, 119, 115, 45, 49, 50, 53, 50]⟩ : ByteArray), true)) else (if x5.toList = ([117, 116, 102, 45, 49, 54, 108, 101] : List UInt8) then (muslinref04_Known.j2 k x5 (x5.toList == ([117, 116, 102, 45, 49, 54, 108, 101] : List UInt8))) else (if x5.toList = ([117, 116, 102, 45, 49, 54] : List UInt8) then (muslinref04_Known.j2 k x5 (x5.toList == ([117, 116, 102, 45, 49, 54] : List UInt8))) else (if x5.toList = ([117, 110, 105, 99, 111, 100, 101] : List UInt8) then (muslinref04_Known.j2 k x5 (x5.toList == ([117, 110, 105, 99, 111, 100, 101] : List UInt8))) else (muslinref04_Known.j2 k x5 (x5.toList == ([117, 99, 115, 45, 50] : List UInt8))))))
def muslinref04_Known.j2 : Nat → ByteArray → Bool → Option (ByteArray × Bool)
  | 0, _, _ => none
  | k + 1, x5, x19 => if x19 = true then (some ((⟨#[117, 116, 102, 45, 49, 54, 108, 101]⟩ : ByteArray), true)) else (if x5.toList = ([117, 116, 102, 45, 49, 54, 98, 101] : List UInt8) then (some ((⟨#[117, 116, 102, 45, 49, 54, 98, 101]⟩ : ByteArray), true)) else (if x5.toList = ([117, 110, 105, 99, 111, 100, 101, 102, 102, 102, 101] : List UInt8) then (some ((⟨#[117, 116, 102, 45, 49, 54, 98, 101]⟩ : ByteArray), true)) else (some ((⟨#[]⟩ : ByteArray), false))))
end
def muslinref04_Known.f (k : Nat) (a0 : ByteArray) : Option (ByteArray × Bool) := (muslinref04_clean.f k a0).bind fun t113 => (if t113.toList = ([117, 116, 102, 45, 56] : List UInt8) then (muslinref04_Known.j0 k t113 (t113.toList == ([117, 116, 102, 45, 56] : List UInt8))) else (if t113.toList = ([117, 116, 102, 56] : List UInt8) then (muslinref04_Known.j0 k t113 (t113.toList == ([117, 116, 102, 56] : List UInt8))) else (muslinref04_Known.j0 k t113 (t113.toList == ([117, 110, 105, 99, 111, 100, 101, 45, 49, 45, 49, 45, 117, 116, 102, 45, 56] : List UInt8)))))
theorem muslinref04_Known.mono_l : ∀ k, (∀ y0 y1, LeO (muslinref04_Known.j0 k y0 y1) (muslinref04_Known.j0 (k + 1) y0 y1)) ∧ (∀ y0 y1, LeO (muslinref04_Known.j1 k y0 y1) (muslinref04_Known.j1 (k + 1) y0 y1)) ∧ (∀ y0 y1, LeO (muslinref04_Known.j2 k y0 y1) (muslinref04_Known.j2 (k + 1) y0 y1))
  | 0 => ⟨fun _ _ r h => by simp [muslinref04_Known.j0] at h, fun _ _ r h => by simp [muslinref04_Known.j1] at h, fun _ _ r h => by simp [muslinref04_Known.j2] at h⟩
  | k + 1 => by
    obtain ⟨ih0, ih1, ih2⟩ := muslinref04_Known.mono_l k
    refine ⟨?_, ?_, ?_⟩
    · intro y0 y1
      unfold muslinref04_Known.j0
      repeat' first
      | (with_reducible exact ih0 _ _)
      | (with_reducible exact ih1 _ _)
      | (with_reducible exact ih2 _ _)
      | (with_reducible exact muslinref04_clean.mono _ _)
      | (with_reducible exact LeO.refl _)
      | (with_reducible exact LeO.none _)
      | (with_reducible refine LeO.ite ?_ ?_)
      | (with_reducible refine LeO.bind ?_ (fun _ => ?_))
      | exact ih0 _ _
      | exact ih1 _ _
      | exact ih2 _ _
      | exact muslinref04_clean.mono _ _
      | exact LeO.none _
      | refine LeO.ite ?_ ?_
      | refine LeO.bind ?_ (fun _ => ?_)
    · intro y0 y1
      unfold muslinref04_Known.j1
      repeat' first
      | (with_reducible exact ih0 _ _)
      | (with_reducible exact ih1 _ _)
      | (with_reducible exact ih2 _ _)
      | (with_reducible exact muslinref04_clean.mono _ _)
      | (with_reducible exact LeO.refl _)
      | (with_reducible exact LeO.none _)
      | (with_reducible refine LeO.ite ?_ ?_)
      | (with_reducible refine LeO.bind ?_ (fun _ => ?_))
      | exact ih0 _ _
      | exact ih1 _ _
      | exact ih2 _ _
      | exact muslinref04_clean.mono _ _
      | exact LeO.none _
      | refine LeO.ite ?_ ?_
      | refine LeO.bind ?_ (fun _ => ?_)
    · intro y0 y1
      unfold muslinref04_Known.j2
      repeat' first
      | (with_reducible exact ih0 _ _)
      | (with_reducible exact ih1 _ _)
      | (with_reducible exact ih2 _ _)
      | (with_reducible exact muslinref04_clean.mono _ _)
      | (with_reducible exact LeO.refl _)
      | (with_reducible exact LeO.none _)
      | (with_reducible refine LeO.ite ?_ ?_)
      | (with_reducible refine LeO.bind ?_ (fun _ => ?_))
      | exact ih0 _ _
      | exact ih1 _ _
      | exact ih2 _ _
      | exact muslinref04_clean.mono _ _
      | exact LeO.none _
      | refine LeO.ite ?_ ?_
      | refine LeO.bind ?_ (fun _ => ?_)
set_option maxHeartbeats 8000000 in
set_option maxRecDepth 100000 in
theorem muslinref04_Known.calls (k : Nat) (a0 : ByteArray) (r1 : ByteArray) (r2 : Bool) (w : World) (h : muslinref04_Known.f k a0 = some (r1, r2)) :
    Calls Tryz.prog 56 #[.string a0] w fun e w' => e = .returned (.tuple #[.string r1, .bool r2]) ∧ Below w.heap.size w w' := by
  have HB := Aside0.mk (Below.refl w.heap.size w); have H : ((muslinref04_clean.f k a0).bind fun t113 => (if t113.toList = ([117, 116, 102, 45, 56] : List UInt8) then (muslinref04_Known.j0 k t113 (t113.toList == ([117, 116, 102, 45, 56] : List UInt8))) else (if t113.toList = ([117, 116, 102, 56] : List UInt8) then (muslinref04_Known.j0 k t113 (t113.toList == ([117, 116, 102, 56] : List UInt8))) else (muslinref04_Known.j0 k t113 (t113.toList == ([117, 110, 105, 99, 111, 100, 101, 45, 49, 45, 49, 45, 117, 116, 102, 45, 56] : List UInt8)))))) = some (r1, r2) := h; clear h; replace H := Option.bind_eq_some_iff.mp H; obtain ⟨t113, A20, H⟩ := H; replace H : (if t113.toList = ([117, 116, 102, 45, 56] : List UInt8) then (muslinref04_Known.j0 k t113 (t113.toList == ([117, 116, 102, 45, 56] : List UInt8))) else (if t113.toList = ([117, 116, 102, 56] : List UInt8) then (muslinref04_Known.j0 k t113 (t113.toList == ([117, 116, 102, 56] : List UInt8))) else (muslinref04_Known.j0 k t113 (t113.toList == ([117, 110, 105, 99, 111, 100, 101, 45, 49, 45, 49, 45, 117, 116, 102, 45, 56] : List UInt8))))) = some (r1, r2) := H; have A2 := Aside0.mk A20; clear A20; have HC3 := Aside0.mk H; clear H
  go_enter Tryz.func56, Tryz.ntmps56
  go_upto_if 6 with (first | ((with_reducible refine gate_callee (f := 81) rfl ?_); refine goesL_ (some 5) rfl rfl Tryz.func81 (by kernel_rfl) rfl #[.string a0] rfl (by (try simp only [List.map_toArray, List.map_cons, List.map_nil]); first | done | rfl | (simp only [List.length_drop, List.length_take]; rfl)) ?_; (with_reducible refine (muslinref04_clean.calls k a0 t113 _ A2.out).mono ?_); rintro e w4 ⟨rfl, hb⟩; refine ⟨_, rfl, ?_⟩; have n0_ := Aside0.mk (below_step (by repeat (first | (with_reducible first | exact HB.out | apply below_alloc | apply pw_below_drewN | apply below_drew1) | exact HB.out)) hb); clear HB; have HB := n0_; clear n0_; (try clear hb); (try clear hb2); (try clear hk); (try clear hi)))
  (try simp only [Act.put, List.setIfInBounds_toArray, List.set_cons_zero, List.set_cons_succ])
  go_cut [6] (fun v6 wc => ∃ (kq : Nat) (x6_2 : Bool), v6 = .bool x6_2 ∧ Aside0 (muslinref04_Known.j0 kq t113 x6_2 = some (r1, r2)) ∧ Aside0 (kq ≤ k) ∧ Aside0 (Below w.heap.size w wc))
  case first =>
    have H := HC3.out; clear HC3
    by_cases c5 : t113.toList = ([117, 116, 102, 45, 56] : List UInt8)
    case pos =>
      rw [if_pos c5] at H; have c5b0 : (t113.toList == ([117, 116, 102, 45, 56] : List UInt8)) = true := beq_iff_eq.mpr c5; have c5b1 : (t113.toList != ([117, 116, 102, 45, 56] : List UInt8)) = false := bne_eq_false_iff_eq.mpr c5; clear c5
      (first | rw [c5b0] | (simp only [i64_w, i32_w]; rw [c5b0]) | skip)
      have H' := Aside0.mk H; clear H
      go_wp2
      go_meet
      case rel => exact ⟨_, ((t113.toList == ([117, 116, 102, 45, 56] : List UInt8))), (by first | rfl | (simp; done) | (simp [*]; done)), H', ⟨by first | omega | exact Nat.le_refl _⟩, ⟨by repeat (first | (with_reducible first | exact HB.out | apply below_alloc | apply pw_below_drewN | apply below_drew1) | exact HB.out)⟩⟩
    rw [if_neg c5] at H; have c5b0 : (t113.toList == ([117, 116, 102, 45, 56] : List UInt8)) = false := beq_eq_false_iff_ne.mpr c5; have c5b1 : (t113.toList != ([117, 116, 102, 45, 56] : List UInt8)) = true := bne_iff_ne.mpr c5
    (first | rw [c5b0] | (simp only [i64_w, i32_w]; rw [c5b0]) | skip)
    by_cases c6 : t113.toList = ([117, 116, 102, 56] : List UInt8)
    case pos =>
      rw [if_pos c6] at H; have c6b0 : (t113.toList == ([117, 116, 102, 56] : List UInt8)) = true := beq_iff_eq.mpr c6; have c6b1 : (t113.toList != ([117, 116, 102, 56] : List UInt8)) = false := bne_eq_false_iff_eq.mpr c6; clear c6; have H' := Aside0.mk H; clear H
      go_wp2
      go_meet
      case rel => exact ⟨_, ((t113.toList == ([117, 116, 102, 56] : List UInt8))), (by first | rfl | (simp; done) | (simp [*]; done)), H', ⟨by first | omega | exact Nat.le_refl _⟩, ⟨by repeat (first | (with_reducible first | exact HB.out | apply below_alloc | apply pw_below_drewN | apply below_drew1) | exact HB.out)⟩⟩
    rw [if_neg c6] at H; have c6b0 : (t113.toList == ([117, 116, 102, 56] : List UInt8)) = false := beq_eq_false_iff_ne.mpr c6; have c6b1 : (t113.toList != ([117, 116, 102, 56] : List UInt8)) = true := bne_iff_ne.mpr c6; have H' := Aside0.mk H; clear H
    go_wp2
    go_meet
    case rel => exact ⟨_, ((t113.toList == ([117, 110, 105, 99, 111, 100, 101, 45, 49, 45, 49, 45, 117, 116, 102, 45, 56] : List UInt8))), (by first | rfl | (simp; done) | (simp [*]; done)), H', ⟨by first | omega | exact Nat.le_refl _⟩, ⟨by repeat (first | (with_reducible first | exact HB.out | apply below_alloc | apply pw_below_drewN | apply below_drew1) | exact HB.out)⟩⟩
  case rest =>
    clear HC3; (try clear p2); (try clear c5); (try clear c5b0); (try clear c5b1); (try clear c6); (try clear c6b0); (try clear c6b1); obtain ⟨kq, x6_2, rfl, HA, HJ2, HB⟩ := hcut
    cases kq with
    | zero => exact absurd HA.out (by simp [muslinref04_Known.j0])
    | succ kj2 =>
      have H := HA.out; clear HA; simp only [muslinref04_Known.j0] at H
      by_cases c7 : x6_2 = true
      case pos =>
        subst c7
        have H1 : (some ((⟨#[117, 116, 102, 45, 56]⟩ : ByteArray), true)) = some (r1, r2) := by rw [if_pos rfl] at H; exact H
        clear H; have H := H1; clear H1; simp only [Option.some.injEq, Prod.mk.injEq] at H; obtain ⟨rfl, rfl⟩ := H
        go_wp2
        go_ret2
        exact ⟨by first | rfl | (simp [errW_none, errW_some] <;> rfl) | (simp [*, errW_none, errW_some] <;> rfl), by repeat (first | (with_reducible first | exact HB.out | apply below_alloc | apply pw_below_drewN | apply below_drew1) | exact HB.out)⟩
      replace c7 := Bool.eq_false_iff.mpr c7; subst c7
      have H1 : (if t113.toList = ([119, 105, 110, 100, 111, 119, 115, 45, 49, 50, 53, 50] : List UInt8) then (muslinref04_Known.j1 kj2 t113 (t113.toList == ([119, 105, 110, 100, 111, 119, 115, 45, 49, 50, 53, 50] : List UInt8))) else (if t113.toList = ([99, 112, 49, 50, 53, 50] : List UInt8) then (muslinref04_Known.j1 kj2 t113 (t113.toList == ([99, 112, 49, 50, 53, 50] : List UInt8))) else (if t113.toList = ([117, 115, 45, 97, 115, 99, 105, 105] : List UInt8) then (muslinref04_Known.j1 kj2 t113 (t113.toList == ([117, 115, 45, 97, 115, 99, 105, 105] : List UInt8))) else (if t113.toList = ([97, 115, 99, 105, 105] : List UInt8) then (muslinref04_Known.j1 kj2 t113 (t113.toList == ([97, 115, 99, 105, 105] : List UInt8))) else (if t113.toList = ([105, 115, 111, 45, 56, 56, 53, 57, 45, 49] : List UInt8) then (muslinref04_Known.j1 kj2 t113 (t113.toList == ([105, 115, 111, 45, 56, 56, 53, 57, 45, 49] : List UInt8))) else (if t113.toList = ([105, 115, 111, 56, 56, 53, 57, 45, 49] : List UInt8) then (muslinref04_Known.j1 kj2 t113 (t113.toList == ([105, 115, 111, 56, 56, 53, 57, 45, 49] : List UInt8))) else (if t113.toList = ([108, 97, 116, 105, 110, 49] : List UInt8) then (muslinref04_Known.j1 kj2 t113 (t113.toList == ([108, 97, 116, 105, 110, 49] : List UInt8))) else (muslinref04_Known.j1 kj2 t113 (t113.toList == ([108, 49] : List UInt8)))))))))) = some (r1, r2) := by rw [if_neg (show ¬ (false = true) by decide)] at H; exact H
      clear H; have H := H1; clear H1; have HC8 := Aside0.mk H; clear H
      go_upto_if 10 with (fail)
      go_cut [10] (fun v10 wc => ∃ (kq : Nat) (x10_7 : Bool), v10 = .bool x10_7 ∧ Aside0 (muslinref04_Known.j1 kq t113 x10_7 = some (r1, r2)) ∧ Aside0 (kq ≤ kj2) ∧ Aside0 (Below w.heap.size w wc))
      case first =>
        have H := HC8.out; clear HC8
        by_cases c9 : t113.toList = ([119, 105, 110, 100, 111, 119, 115, 45, 49, 50, 53, 50] : List UInt8)
        case pos =>
          rw [if_pos c9] at H; have c9b0 : (t113.toList == ([119, 105, 110, 100, 111, 119, 115, 45, 49, 50, 53, 50] : List UInt8)) = true := beq_iff_eq.mpr c9; have c9b1 : (t113.toList != ([119, 105, 110, 100, 111, 119, 115, 45, 49, 50, 53, 50] : List UInt8)) = false := bne_eq_false_iff_eq.mpr c9; clear c9
          (first | rw [c9b0] | (simp only [i64_w, i32_w]; rw [c9b0]) | skip)
          have H' := Aside0.mk H; clear H
          go_wp2
          go_meet
          case rel => exact ⟨_, ((t113.toList == ([119, 105, 110, 100, 111, 119, 115, 45, 49, 50, 53, 50] : List UInt8))), (by first | rfl | (simp; done) | (simp [*]; done)), H', ⟨by have := HJ2.out; first | omega | exact Nat.le_refl _⟩, ⟨by repeat (first | (with_reducible first | exact HB.out | apply below_alloc | apply pw_below_drewN | apply below_drew1) | exact HB.out)⟩⟩
        rw [if_neg c9] at H; have c9b0 : (t113.toList == ([119, 105, 110, 100, 111, 119, 115, 45, 49, 50, 53, 50] : List UInt8)) = false := beq_eq_false_iff_ne.mpr c9; have c9b1 : (t113.toList != ([119, 105, 110, 100, 111, 119, 115, 45, 49, 50, 53, 50] : List UInt8)) = true := bne_iff_ne.mpr c9
        (first | rw [c9b0] | (simp only [i64_w, i32_w]; rw [c9b0]) | skip)
        by_cases c10 : t113.toList = ([99, 112, 49, 50, 53, 50] : List UInt8)
        case pos =>
          rw [if_pos c10] at H; have c10b0 : (t113.toList == ([99, 112, 49, 50, 53, 50] : List UInt8)) = true := beq_iff_eq.mpr c10; have c10b1 : (t113.toList != ([99, 112, 49, 50, 53, 50] : List UInt8)) = false := bne_eq_false_iff_eq.mpr c10; clear c10; have H' := Aside0.mk H; clear H
          go_wp2
          go_meet
          case rel => exact ⟨_, ((t113.toList == ([99, 112, 49, 50, 53, 50] : List UInt8))), (by first | rfl | (simp; done) | (simp [*]; done)), H', ⟨by have := HJ2.out; first | omega | exact Nat.le_refl _⟩, ⟨by repeat (first | (with_reducible first | exact HB.out | apply below_alloc | apply pw_below_drewN | apply below_drew1) | exact HB.out)⟩⟩
        rw [if_neg c10] at H; have c10b0 : (t113.toList == ([99, 112, 49, 50, 53, 50] : List UInt8)) = false := beq_eq_false_iff_ne.mpr c10; have c10b1 : (t113.toList != ([99, 112, 49, 50, 53, 50] : List UInt8)) = true := bne_iff_ne.mpr c10
        by_cases c11 : t113.toList = ([117, 115, 45, 97, 115, 99, 105, 105] : List UInt8)
        case pos =>
          rw [if_pos c11] at H; have c11b0 : (t113.toList == ([117, 115, 45, 97, 115, 99, 105, 105] : List UInt8)) = true := beq_iff_eq.mpr c11; have c11b1 : (t113.toList != ([117, 115, 45, 97, 115, 99, 105, 105] : List UInt8)) = false := bne_eq_false_iff_eq.mpr c11; clear c11; have H' := Aside0.mk H; clear H
          go_wp2
          go_meet
          case rel => exact ⟨_, ((t113.toList == ([117, 115, 45, 97, 115, 99, 105, 105] : List UInt8))), (by first | rfl | (simp; done) | (simp [*]; done)), H', ⟨by have := HJ2.out; first | omega | exact Nat.le_refl _⟩, ⟨by repeat (first | (with_reducible first | exact HB.out | apply below_alloc | apply pw_below_drewN | apply below_drew1) | exact HB.out)⟩⟩
        rw [if_neg c11] at H; have c11b0 : (t113.toList == ([117, 115, 45, 97, 115, 99, 105, 105] : List UInt8)) = false := beq_eq_false_iff_ne.mpr c11; have c11b1 : (t113.toList != ([117, 115, 45, 97, 115, 99, 105, 105] : List UInt8)) = true := bne_iff_ne.mpr c11
        by_cases c12 : t113.toList = ([97, 115, 99, 105, 105] : List UInt8)
        case pos =>
          rw [if_pos c12] at H; have c12b0 : (t113.toList == ([97, 115, 99, 105, 105] : List UInt8)) = true := beq_iff_eq.mpr c12; have c12b1 : (t113.toList != ([97, 115, 99, 105, 105] : List UInt8)) = false := bne_eq_false_iff_eq.mpr c12; clear c12; have H' := Aside0.mk H; clear H
          go_wp2
          go_meet
          case rel => exact ⟨_, ((t113.toList == ([97, 115, 99, 105, 105] : List UInt8))), (by first | rfl | (simp; done) | (simp [*]; done)), H', ⟨by have := HJ2.out; first | omega | exact Nat.le_refl _⟩, ⟨by repeat (first | (with_reducible first | exact HB.out | apply below_alloc | apply pw_below_drewN | apply below_drew1) | exact HB.out)⟩⟩
        rw [if_neg c12] at H; have c12b0 : (t113.toList == ([97, 115, 99, 105, 105] : List UInt8)) = false := beq_eq_false_iff_ne.mpr c12; have c12b1 : (t113.toList != ([97, 115, 99, 105, 105] : List UInt8)) = true := bne_iff_ne.mpr c12
        by_cases c13 : t113.toList = ([105, 115, 111, 45, 56, 56, 53, 57, 45, 49] : List UInt8)
        case pos =>
          rw [if_pos c13] at H; have c13b0 : (t113.toList == ([105, 115, 111, 45, 56, 56, 53, 57, 45, 49] : List UInt8)) = true := beq_iff_eq.mpr c13; have c13b1 : (t113.toList != ([105, 115, 111, 45, 56, 56, 53, 57, 45, 49] : List UInt8)) = false := bne_eq_false_iff_eq.mpr c13; clear c13; have H' := Aside0.mk H; clear H
          go_wp2
          go_meet
          case rel => exact ⟨_, ((t113.toList == ([105, 115, 111, 45, 56, 56, 53, 57, 45, 49] : List UInt8))), (by first | rfl | (simp; done) | (simp [*]; done)), H', ⟨by have := HJ2.out; first | omega | exact Nat.le_refl _⟩, ⟨by repeat (first | (with_reducible first | exact HB.out | apply below_alloc | apply pw_below_drewN | apply below_drew1) | exact HB.out)⟩⟩
        rw [if_neg c13] at H; have c13b0 : (t113.toList == ([105, 115, 111, 45, 56, 56, 53, 57, 45, 49] : List UInt8)) = false := beq_eq_false_iff_ne.mpr c13; have c13b1 : (t113.toList != ([105, 115, 111, 45, 56, 56, 53, 57, 45, 49] : List UInt8)) = true := bne_iff_ne.mpr c13
        by_cases c14 : t113.toList = ([105, 115, 111, 56, 56, 53, 57, 45, 49] : List UInt8)
        case pos =>
          rw [if_pos c14] at H; have c14b0 : (t113.toList == ([105, 115, 111, 56, 56, 53, 57, 45, 49] : List UInt8)) = true := beq_iff_eq.mpr c14; have c14b1 : (t113.toList != ([105, 115, 111, 56, 56, 53, 57, 45, 49] : List UInt8)) = false := bne_eq_false_iff_eq.mpr c14; clear c14; have H' := Aside0.mk H; clear H
          go_wp2
          go_meet
          case rel => exact ⟨_, ((t113.toList == ([105, 115, 111, 56, 56, 53, 57, 45, 49] : List UInt8))), (by first | rfl | (simp; done) | (simp [*]; done)), H', ⟨by have := HJ2.out; first | omega | exact Nat.le_refl _⟩, ⟨by repeat (first | (with_reducible first | exact HB.out | apply below_alloc | apply pw_below_drewN | apply below_drew1) | exact HB.out)⟩⟩
        rw [if_neg c14] at H; have c14b0 : (t113.toList == ([105, 115, 111, 56, 56, 53, 57, 45, 49] : List UInt8)) = false := beq_eq_false_iff_ne.mpr c14; have c14b1 : (t113.toList != ([105, 115, 111, 56, 56, 53, 57, 45, 49] : List UInt8)) = true := bne_iff_ne.mpr c14
        by_cases c15 : t113.toList = ([108, 97, 116, 105, 110, 49] : List UInt8)
        case neg =>
          rw [if_neg c15] at H; have c15b0 : (t113.toList == ([108, 97, 116, 105, 110, 49] : List UInt8)) = false := beq_eq_false_iff_ne.mpr c15; have c15b1 : (t113.toList != ([108, 97, 116, 105, 110, 49] : List UInt8)) = true := bne_iff_ne.mpr c15; have H' := Aside0.mk H; clear H
          go_wp2
          go_meet
          case rel => exact ⟨_, ((t113.toList == ([108, 49] : List UInt8))), (by first | rfl | (simp; done) | (simp [*]; done)), H', ⟨by have := HJ2.out; first | omega | exact Nat.le_refl _⟩, ⟨by repeat (first | (with_reducible first | exact HB.out | apply below_alloc | apply pw_below_drewN | apply below_drew1) | exact HB.out)⟩⟩
        rw [if_pos c15] at H; have c15b0 : (t113.toList == ([108, 97, 116, 105, 110, 49] : List UInt8)) = true := beq_iff_eq.mpr c15; have c15b1 : (t113.toList != ([108, 97, 116, 105, 110, 49] : List UInt8)) = false := bne_eq_false_iff_eq.mpr c15; clear c15; have H' := Aside0.mk H; clear H
        go_wp2
        go_meet
        case rel => exact ⟨_, ((t113.toList == ([108, 97, 116, 105, 110, 49] : List UInt8))), (by first | rfl | (simp; done) | (simp [*]; done)), H', ⟨by have := HJ2.out; first | omega | exact Nat.le_refl _⟩, ⟨by repeat (first | (with_reducible first | exact HB.out | apply below_alloc | apply pw_below_drewN | apply below_drew1) | exact HB.out)⟩⟩
      case rest =>
        clear HC8; (try clear c1); (try clear p2); (try clear c5); (try clear c5b0); (try clear c5b1); (try clear c6); (try clear c6b0); (try clear c6b1); (try clear c7); (try clear c8); (try clear c9); (try clear c9b0); (try clear c9b1); (try clear c10); (try clear c10b0); (try clear c10b1); (try clear c11); (try clear c11b0); (try clear c11b1); (try clear c12); (try clear c12b0); (try clear c12b1); (try clear c13); (try clear c13b0); (try clear c13b1); (try clear c14); (try clear c14b0); (try clear c14b1); (try clear c15); (try clear c15b0); (try clear c15b1); (try clear p2); obtain ⟨kq, x10_7, rfl, HA, HJ7, HB⟩ := hcut
        cases kq with
        | zero => exact absurd HA.out (by simp [muslinref04_Known.j1])
        | succ kj7 =>
          have H := HA.out; clear HA; simp only [muslinref04_Known.j1] at H
          by_cases c16 : x10_7 = true
          case pos =>
            subst c16
            have H1 : (some ((⟨#[119, 105, 110, 100, 111, 119, 115, 45, 49, 50, 53, 50]⟩ : ByteArray), true)) = some (r1, r2) := by rw [if_pos rfl] at H; exact H
            clear H; have H := H1; clear H1; simp only [Option.some.injEq, Prod.mk.injEq] at H; obtain ⟨rfl, rfl⟩ := H
            go_wp2
            go_ret2
            exact ⟨by first | rfl | (simp [errW_none, errW_some] <;> rfl) | (simp [*, errW_none, errW_some] <;> rfl), by repeat (first | (with_reducible first | exact HB.out | apply below_alloc | apply pw_below_drewN | apply below_drew1) | exact HB.out)⟩
          replace c16 := Bool.eq_false_iff.mpr c16; subst c16
          have H1 : (if t113.toList = ([117, 116, 102, 45, 49, 54, 108, 101] : List UInt8) then (muslinref04_Known.j2 kj7 t113 (t113.toList == ([117, 116, 102, 45, 49, 54, 108, 101] : List UInt8))) else (if t113.toList = ([117, 116, 102, 45, 49, 54] : List UInt8) then (muslinref04_Known.j2 kj7 t113 (t113.toList == ([117, 116, 102, 45, 49, 54] : List UInt8))) else (if t113.toList = ([117, 110, 105, 99, 111, 100, 101] : List UInt8) then (muslinref04_Known.j2 kj7 t113 (t113.toList == ([117, 110, 105, 99, 111, 100, 101] : List UInt8))) else (muslinref04_Known.j2 kj7 t113 (t113.toList == ([117, 99, 115, 45, 50] : List UInt8)))))) = some (r1, r2) := by rw [if_neg (show ¬ (false = true) by decide)] at H; exact H
          clear H; have H := H1; clear H1; have HC17 := Aside0.mk H; clear H
          go_upto_if 19 with (fail)
          go_cut [19] (fun v19 wc => ∃ (kq : Nat) (x19_16 : Bool), v19 = .bool x19_16 ∧ Aside0 (muslinref04_Known.j2 kq t113 x19_16 = some (r1, r2)) ∧ Aside0 (kq ≤ kj7) ∧ Aside0 (Below w.heap.size w wc))
          case first =>
            have H := HC17.out; clear HC17
            by_cases c18 : t113.toList = ([117, 116, 102, 45, 49, 54, 108, 101] : List UInt8)
            case pos =>
              rw [if_pos c18] at H; have c18b0 : (t113.toList == ([117, 116, 102, 45, 49, 54, 108, 101] : List UInt8)) = true := beq_iff_eq.mpr c18; have c18b1 : (t113.toList != ([117, 116, 102, 45, 49, 54, 108, 101] : List UInt8)) = false := bne_eq_false_iff_eq.mpr c18; clear c18
              (first | rw [c18b0] | (simp only [i64_w, i32_w]; rw [c18b0]) | skip)
              have H' := Aside0.mk H; clear H
              go_wp2
              go_meet
              case rel => exact ⟨_, ((t113.toList == ([117, 116, 102, 45, 49, 54, 108, 101] : List UInt8))), (by first | rfl | (simp; done) | (simp [*]; done)), H', ⟨by have := HJ2.out; have := HJ7.out; first | omega | exact Nat.le_refl _⟩, ⟨by repeat (first | (with_reducible first | exact HB.out | apply below_alloc | apply pw_below_drewN | apply below_drew1) | exact HB.out)⟩⟩
            rw [if_neg c18] at H; have c18b0 : (t113.toList == ([117, 116, 102, 45, 49, 54, 108, 101] : List UInt8)) = false := beq_eq_false_iff_ne.mpr c18; have c18b1 : (t113.toList != ([117, 116, 102, 45, 49, 54, 108, 101] : List UInt8)) = true := bne_iff_ne.mpr c18
            (first | rw [c18b0] | (simp only [i64_w, i32_w]; rw [c18b0]) | skip)
            by_cases c19 : t113.toList = ([117, 116, 102, 45, 49, 54] : List UInt8)
            case pos =>
              rw [if_pos c19] at H; have c19b0 : (t113.toList == ([117, 116, 102, 45, 49, 54] : List UInt8)) = true := beq_iff_eq.mpr c19; have c19b1 : (t113.toList != ([117, 116, 102, 45, 49, 54] : List UInt8)) = false := bne_eq_false_iff_eq.mpr c19; clear c19; have H' := Aside0.mk H; clear H
              go_wp2
              go_meet
              case rel => exact ⟨_, ((t113.toList == ([117, 116, 102, 45, 49, 54] : List UInt8))), (by first | rfl | (simp; done) | (simp [*]; done)), H', ⟨by have := HJ2.out; have := HJ7.out; first | omega | exact Nat.le_refl _⟩, ⟨by repeat (first | (with_reducible first | exact HB.out | apply below_alloc | apply pw_below_drewN | apply below_drew1) | exact HB.out)⟩⟩
            rw [if_neg c19] at H; have c19b0 : (t113.toList == ([117, 116, 102, 45, 49, 54] : List UInt8)) = false := beq_eq_false_iff_ne.mpr c19; have c19b1 : (t113.toList != ([117, 116, 102, 45, 49, 54] : List UInt8)) = true := bne_iff_ne.mpr c19
            by_cases c20 : t113.toList = ([117, 110, 105, 99, 111, 100, 101] : List UInt8)
            case neg =>
              rw [if_neg c20] at H; have c20b0 : (t113.toList == ([117, 110, 105, 99, 111, 100, 101] : List UInt8)) = false := beq_eq_false_iff_ne.mpr c20; have c20b1 : (t113.toList != ([117, 110, 105, 99, 111, 100, 101] : List UInt8)) = true := bne_iff_ne.mpr c20; have H' := Aside0.mk H; clear H
              go_wp2
              go_meet
              case rel => exact ⟨_, ((t113.toList == ([117, 99, 115, 45, 50] : List UInt8))), (by first | rfl | (simp; done) | (simp [*]; done)), H', ⟨by have := HJ2.out; have := HJ7.out; first | omega | exact Nat.le_refl _⟩, ⟨by repeat (first | (with_reducible first | exact HB.out | apply below_alloc | apply pw_below_drewN | apply below_drew1) | exact HB.out)⟩⟩
            rw [if_pos c20] at H; have c20b0 : (t113.toList == ([117, 110, 105, 99, 111, 100, 101] : List UInt8)) = true := beq_iff_eq.mpr c20; have c20b1 : (t113.toList != ([117, 110, 105, 99, 111, 100, 101] : List UInt8)) = false := bne_eq_false_iff_eq.mpr c20; clear c20; have H' := Aside0.mk H; clear H
            go_wp2
            go_meet
            case rel => exact ⟨_, ((t113.toList == ([117, 110, 105, 99, 111, 100, 101] : List UInt8))), (by first | rfl | (simp; done) | (simp [*]; done)), H', ⟨by have := HJ2.out; have := HJ7.out; first | omega | exact Nat.le_refl _⟩, ⟨by repeat (first | (with_reducible first | exact HB.out | apply below_alloc | apply pw_below_drewN | apply below_drew1) | exact HB.out)⟩⟩
          case rest =>
            clear HC17; (try clear c1); (try clear c2); (try clear p2); (try clear c5); (try clear c5b0); (try clear c5b1); (try clear c6); (try clear c6b0); (try clear c6b1); (try clear c7); (try clear c8); (try clear c9); (try clear c9b0); (try clear c9b1); (try clear c10); (try clear c10b0); (try clear c10b1); (try clear c11); (try clear c11b0); (try clear c11b1); (try clear c12); (try clear c12b0); (try clear c12b1); (try clear c13); (try clear c13b0); (try clear c13b1); (try clear c14); (try clear c14b0); (try clear c14b1); (try clear c15); (try clear c15b0); (try clear c15b1); (try clear c16); (try clear c18); (try clear c18b0); (try clear c18b1); (try clear c19); (try clear c19b0); (try clear c19b1); (try clear c20); (try clear c20b0); (try clear c20b1); (try clear p2); obtain ⟨kq, x19_16, rfl, HA, HJ16, HB⟩ := hcut
            cases kq with
            | zero => exact absurd HA.out (by simp [muslinref04_Known.j2])
            | succ kj16 =>
              have H := HA.out; clear HA; simp only [muslinref04_Known.j2] at H
              by_cases c21 : x19_16 = true
              case pos =>
                subst c21
                have H1 : (some ((⟨#[117, 116, 102, 45, 49, 54, 108, 101]⟩ : ByteArray), true)) = some (r1, r2) := by rw [if_pos rfl] at H; exact H
                clear H; have H := H1; clear H1; simp only [Option.some.injEq, Prod.mk.injEq] at H; obtain ⟨rfl, rfl⟩ := H
                go_wp2
                go_ret2
                exact ⟨by first | rfl | (simp [errW_none, errW_some] <;> rfl) | (simp [*, errW_none, errW_some] <;> rfl), by repeat (first | (with_reducible first | exact HB.out | apply below_alloc | apply pw_below_drewN | apply below_drew1) | exact HB.out)⟩
              replace c21 := Bool.eq_false_iff.mpr c21; subst c21
              have H1 : (if t113.toList = ([117, 116, 102, 45, 49, 54, 98, 101] : List UInt8) then (some ((⟨#[117, 116, 102, 45, 49, 54, 98, 101]⟩ : ByteArray), true)) else (if t113.toList = ([117, 110, 105, 99, 111, 100, 101, 102, 102, 102, 101] : List UInt8) then (some ((⟨#[117, 116, 102, 45, 49, 54, 98, 101]⟩ : ByteArray), true)) else (some ((⟨#[]⟩ : ByteArray), false)))) = some (r1, r2) := by rw [if_neg (show ¬ (false = true) by decide)] at H; exact H
              clear H; have H := H1; clear H1
              by_cases c22 : t113.toList = ([117, 116, 102, 45, 49, 54, 98, 101] : List UInt8)
              case pos =>
                rw [if_pos c22] at H; have c22b0 : (t113.toList == ([117, 116, 102, 45, 49, 54, 98, 101] : List UInt8)) = true := beq_iff_eq.mpr c22; have c22b1 : (t113.toList != ([117, 116, 102, 45, 49, 54, 98, 101] : List UInt8)) = false := bne_eq_false_iff_eq.mpr c22; clear c22; simp only [Option.some.injEq, Prod.mk.injEq] at H; obtain ⟨rfl, rfl⟩ := H
                go_wp2
                go_ret2
                exact ⟨by first | rfl | (simp [errW_none, errW_some] <;> rfl) | (simp [*, errW_none, errW_some] <;> rfl), by repeat (first | (with_reducible first | exact HB.out | apply below_alloc | apply pw_below_drewN | apply below_drew1) | exact HB.out)⟩
              rw [if_neg c22] at H; have c22b0 : (t113.toList == ([117, 116, 102, 45, 49, 54, 98, 101] : List UInt8)) = false := beq_eq_false_iff_ne.mpr c22; have c22b1 : (t113.toList != ([117, 116, 102, 45, 49, 54, 98, 101] : List UInt8)) = true := bne_iff_ne.mpr c22
              by_cases c23 : t113.toList = ([117, 110, 105, 99, 111, 100, 101, 102, 102, 102, 101] : List UInt8)
              case neg =>
                rw [if_neg c23] at H; have c23b0 : (t113.toList == ([117, 110, 105, 99, 111, 100, 101, 102, 102, 102, 101] : List UInt8)) = false := beq_eq_false_iff_ne.mpr c23; have c23b1 : (t113.toList != ([117, 110, 105, 99, 111, 100, 101, 102, 102, 102, 101] : List UInt8)) = true := bne_iff_ne.mpr c23; simp only [Option.some.injEq, Prod.mk.injEq] at H; obtain ⟨rfl, rfl⟩ := H
                go_wp2
                go_ret2
                exact ⟨by first | rfl | (simp [errW_none, errW_some] <;> rfl) | (simp [*, errW_none, errW_some] <;> rfl), by repeat (first | (with_reducible first | exact HB.out | apply below_alloc | apply pw_below_drewN | apply below_drew1) | exact HB.out)⟩
              rw [if_pos c23] at H; have c23b0 : (t113.toList == ([117, 110, 105, 99, 111, 100, 101, 102, 102, 102, 101] : List UInt8)) = true := beq_iff_eq.mpr c23; have c23b1 : (t113.toList != ([117, 110, 105, 99, 111, 100, 101, 102, 102, 102, 101] : List UInt8)) = false := bne_eq_false_iff_eq.mpr c23; clear c23; simp only [Option.some.injEq, Prod.mk.injEq] at H; obtain ⟨rfl, rfl⟩ := H
              go_wp2
              go_ret2
              exact ⟨by first | rfl | (simp [errW_none, errW_some] <;> rfl) | (simp [*, errW_none, errW_some] <;> rfl), by repeat (first | (with_reducible first | exact HB.out | apply below_alloc | apply pw_below_drewN | apply below_drew1) | exact HB.out)⟩
end Go.Proofs.YtkfcbafjcjmfnaaGreatDoor.C
