/- A row of bytes that '[]byte(s)' has made: what its cells hold, how a store changes it, what 'string(b)' gives back. -/
import Derived.Laws.IdiomStrings
import Derived.Lib.UnsafeStr
import Derived.Lib.Builder
import Derived.Below
import Derived.WalkKit
import Derived.Deep.Draws
import Derived.Laws.Rows
namespace Go.Proofs.YthilhcpdbjeepaaGreatDoor.Row
open Go.RowKit
variable {P : Program}

/-- Block B is a row of bytes (element type e) whose first bytes are l; it bears a conversion's mark behind its last cell. -/
def Row (e : Nat) (w : World) (B : Nat) (l : List UInt8) : Prop :=
  ∃ C : Array Value, w.heap[B]? = some (.cells C e (C.size, C.size + 1)) ∧ l.length ≤ C.size ∧ C.toList.take l.length = Lib.byteCells l

theorem Row.drew {e : Nat} {w : World} {B : Nat} {l : List UInt8} (h : Row e w B l) : Row e w.drew B l := h
theorem Row.drewN {e : Nat} {w : World} {B : Nat} {l : List UInt8} (h : Row e w B l) (n : Nat) : Row e (w.drewN n) B l := h

theorem Row.lt {e : Nat} {w : World} {B : Nat} {l : List UInt8} (h : Row e w B l) : B < w.heap.size := by
  obtain ⟨C, hC, _⟩ := h
  exact (Array.getElem?_eq_some_iff.1 hC).1

theorem Row.below {e : Nat} {w w1 : World} {B : Nat} {l : List UInt8} (h : Row e w B l) (hb : Below w.heap.size w w1) : Row e w1 B l := by
  have hlt := h.lt
  obtain ⟨C, hC, h2⟩ := h
  exact ⟨C, by rw [hb.block B hlt]; exact hC, h2⟩

theorem row_get {C : Array Value} {l : List UInt8} (h2 : C.toList.take l.length = Lib.byteCells l) (j : Nat) (hj : j < l.length) :
    C[j]? = some (.int .u8 (l[j].toNat : Int)) := by
  have h3 : (C.toList.take l.length)[j]? = (Lib.byteCells l)[j]? := by rw [h2]
  rw [List.getElem?_take_of_lt hj] at h3
  simp [Lib.byteCells, List.getElem?_eq_getElem hj] at h3
  simpa using h3

theorem Row.cell {e : Nat} {w : World} {B : Nat} {l : List UInt8} (h : Row e w B l) (j : Nat) (hj : j < l.length) :
    w.cell? ⟨B, j, none⟩ = some (.int .u8 (l[j].toNat : Int)) := by
  obtain ⟨C, hC, h1, h2⟩ := h
  rw [Lib.cell_of_heap hC]
  exact row_get h2 j hj

theorem Row.frozen {e : Nat} {w : World} {B : Nat} {l : List UInt8} (h : Row e w B l) (j : Nat) (hj : j < l.length) :
    w.frozen? ⟨B, j, none⟩ = false := by
  obtain ⟨C, hC, h1, h2⟩ := h
  simp [World.frozen?, hC]
  omega

theorem Row.set {e : Nat} {w : World} {B : Nat} {l : List UInt8} (h : Row e w B l) (j : Nat) (x : UInt8) (hj : j < l.length) :
    Row e (w.setCell ⟨B, j, none⟩ (.int .u8 (x.toNat : Int))) B (l.set j x) := by
  obtain ⟨C, hC, h1, h2⟩ := h
  refine ⟨C.setIfInBounds j (.int .u8 (x.toNat : Int)), ?_, by simpa using h1, ?_⟩
  · rw [setCell_eq_setRow w B j C e _ _ hC, setRow_heap w B C _ e _ hC, Array.size_setIfInBounds]
  · rw [Array.toList_setIfInBounds, List.length_set]
    have : Lib.byteCells (l.set j x) = (Lib.byteCells l).set j (.int .u8 (x.toNat : Int)) := by
      simp [Lib.byteCells, List.map_set]
    rw [this, ← h2, List.take_set]

theorem Row.made (e : Nat) (w : World) (s : ByteArray) (cap : Nat) :
    Row e (w.alloc (.cells (bytesRow s cap) e ((bytesRow s cap).size, (bytesRow s cap).size + 1))) w.heap.size s.data.toList := by
  refine ⟨bytesRow s cap, ?_, ?_, ?_⟩
  · show (w.heap.push _)[w.heap.size]? = _
    simp
  · simp [bytesRow]
  · simp [bytesRow, Lib.byteCells]

/-- '[]byte(s)' as a walk meets it. -/
theorem run_conv (w : World) (src dst e : TypeId) (s : ByteArray) (hs : P.underlying src = some .string) (hd : P.underlying dst = some (.slice e)) (he : P.underlying e = some (.int .u8)) :
    ∃ cap o, (convert src dst (.string s)).run P w = .ok (.slice (some ⟨w.heap.size, 0, none⟩) s.size cap) (w.alloc o).drew ∧ Row e (w.alloc o) w.heap.size s.data.toList :=
  ⟨_, _, run_bytes_of_string w src dst e s hs hd he, Row.made e w s _⟩

/-- 'string(b)'. -/
theorem Row.back {e : Nat} {w : World} {B : Nat} {l : List UInt8} (h : Row e w B l) (src dst cap : Nat) (hs : P.underlying src = some (.slice e)) (he : P.underlying e = some (.int .u8)) (hd : P.underlying dst = some .string) :
    (convert src dst (.slice (some ⟨B, 0, none⟩) l.length cap)).run P w = .ok (.string ⟨l.toArray⟩) w :=
  run_convert_bytes_back w src dst e ⟨B, 0, none⟩ cap l hs he hd (fun j hj => by
    have h1 := h.cell j hj
    unfold Addr.add
    split
    · rename_i h0; subst h0; exact h1
    · simpa using h1)
end Go.Proofs.YthilhcpdbjeepaaGreatDoor.Row
