/- Parts of the proof of the law WordDecodes, in one text: Chars, Glob05, Step, C0. -/
import Derived.Test.YtokkgjiofhhlkaaDoorMgWordDecodes0
import Derived.Lib.OthersKept
import Derived.Lib.LaidTab
import Derived.WalkSmall
import Derived.Laws.BitsAllLaws
import Derived.BigCall
import Derived.Test.YtokkgjiofhhlkaaDoorWWords
import Derived.Deep.AppendLies
import Derived.Maps.AppendAt
import Derived.OwnWalk
import Derived.Laws.BytesArg
import Derived.Laws.MakeOwn
import Derived.Laws.OwnMore
import Derived.Deep.OwnRows
import Derived.Tactics
import Derived.Lib.ConvBytes
import Derived.Laws.Slices
import Derived.RowKit3
import Derived.Deep.LoopGhost
import Derived.WideLaws
import Derived.Deep.DeepCutAuto
import Derived.Deep.CutBlock
import Derived.Deep.RegionHeld3
import Derived.Lib.AppendStr
import Derived.ArgAppend
import Derived.Laws.IdiomCopy
import Derived.OrdersHeld
import Derived.Laws.BitsLemmas
import Derived.RowKit
import Derived.Test.YtokkgjiofhhlkaaDoorWLast
import Derived.Test.YtokkgjiofhhlkaaDoorWTab
import Derived.Test.YtokkgjiofhhlkaaDoorWQPut
import Derived.Test.YtokkgjiofhhlkaaDoorWApart
import Derived.Test.YtokkgjiofhhlkaaDoorWArr
import Derived.Test.YtokkgjiofhhlkaaDoorWZeros
import Derived.Test.YtokkgjiofhhlkaaDoorWFoot
import Derived.Test.YtokkgjiofhhlkaaDoorWKept
import Derived.Test.YtokkgjiofhhlkaaDoorWShare
import Derived.Test.YtokkgjiofhhlkaaDoorWN
import Derived.Laws.StructEq
import Derived.Test.YtokkgjiofhhlkaaDoorWRepsOne
import Derived.Test.YtokkgjiofhhlkaaDoorWGuard
import Derived.Test.YtokkgjiofhhlkaaDoorWNEv
import Derived.Test.YtokkgjiofhhlkaaDoorWMore
set_option linter.unusedVariables false
set_option linter.unusedSimpArgs false
namespace Go.Proofs.YtokkgjiofhhlkaaDoor
open Go.RowKit Go.Shelf Go.Lib
set_option linter.unusedVariables false
set_option linter.unusedSimpArgs false
def validFrom (s : ByteArray) : Nat → Nat → List UInt8
  | 0, _ => []
  | fuel + 1, pos => if pos < s.size then Lib.encodeRune (Utf8.decode s pos).1 ++ validFrom s fuel (pos + (Utf8.decode s pos).2) else []
def validS (s : ByteArray) : ByteArray := ⟨(validFrom s s.size 0).toArray⟩
theorem width_pos (s : ByteArray) (pos : Nat) (h : pos < s.size) : 1 ≤ (Utf8.decode s pos).2 := by
  by_cases ha : (s[pos]'h).toNat < 128
  · rw [decode_ascii s pos h ha]
    exact Nat.le_refl _
  · exact (decode_high s pos h (by omega)).2
theorem validFrom_end (s : ByteArray) (fuel pos : Nat) (h : ¬ pos < s.size) : validFrom s fuel pos = [] := by
  cases fuel with
  | zero => rfl
  | succ f => simp [validFrom, h]
def chars_Valid.f (s : ByteArray) : Option ByteArray := if s.size ≤ 35184372088832 then some (validS s) else none
theorem appendRune (B : Nat) (v : Value) (n : Nat) (xs : List Value) (r : Int) (hr0 : -2147483648 ≤ r) (hr1 : r ≤ 2147483647) (w : World) (hown : w.ownsRowF B 5 1 v n xs) (hlen : n + 4 ≤ 140737488355328) (hBw : B ≤ w.heap.size) :
    Calls Tryd.prog 77 #[v, .int .i32 r] w fun e w' => ∃ v', e = .returned v' ∧ w'.ownsRowF B 5 1 v' (n + (Lib.runeCells r).length) (xs ++ Lib.runeCells r) ∧ ∃ o, (w.alloc o).grownBy w' v.ownBlock :=
  Tryd.utf8_AppendRune_row B v n xs r hr0 hr1 w hown hlen hBw
theorem writeRune (B b : Nat) (bs : List Value) (r : Int) (hr0 : -2147483648 ≤ r) (hr1 : r ≤ 2147483647) (w : World) (h : Lib.IsBuilderF 39 5 B b bs w) (hlen : bs.length + 4 ≤ 140737488355328) (hBw : B ≤ w.heap.size) :
    Calls Tryd.prog 44 #[.pointer (some ⟨b, 0, none⟩), .int .i32 r] w fun e w' => e = .returned (.tuple #[.int .i64 (Lib.runeCells r).length, .nilIface]) ∧ (Lib.IsBuilderF 39 5 B b (bs ++ Lib.runeCells r) w' ∧ Below B w w' ∧ Lib.OthersKept 5 (some b) w w') :=
  Bld.WriteRune_k appendRune B b bs r hr0 hr1 w h hlen hBw
set_option maxHeartbeats 4000000 in
set_option maxRecDepth 1000000 in
theorem chars_Valid.calls (s r : ByteArray) (w : World) (h : chars_Valid.f s = some r) :
    Calls Tryd.prog 17 #[.string s] w fun e w' => e = .returned (.string r) ∧ Below w.heap.size w w' := by
  obtain ⟨hs, rfl⟩ := of_guard h
  clear h
  go_enter Tryd.func17, Tryd.ntmps17
  go_wp2
  go_loopw [] (fun wr => ∃ (pos fuel : Nat) (acc : List UInt8), Lib.IsBuilderF 39 5 w.heap.size w.heap.size (Lib.byteCells acc) wr ∧ wr.heap[w.heap.size + 1]? = some (.stringIter s pos) ∧ Below w.heap.size w wr ∧ acc ++ validFrom s fuel pos = validFrom s s.size 0 ∧ s.size ≤ pos + fuel ∧ acc.length ≤ 4 * pos) (fun wr => s.size - wr.iterPos (w.heap.size + 1))
  case atStart =>
    refine ⟨0, s.size, [], (Lib.IsBuilderF.of (Lib.fresh_isBuilder 39 5 w)).alloc _, ?_, ((Below.refl _ w).alloc (Nat.le_refl _) _).alloc (by simp) _, rfl, by omega, by simp⟩
    have := World.iter_heap (w.alloc (.cells #[.pointer none, .slice none 0 0] 39)) s 0
    simpa using this
  case round =>
    obtain ⟨pos, fuel, acc, hI, hit, hbw, hacc, hfu, hal⟩ := hrel
    have hsz : w.heap.size + 1 < wr.heap.size := (Array.getElem?_eq_some_iff.1 hit).1
    by_cases hp : pos < s.size
    · have hnx : ∀ ty, (Instr.next (.pointer (some ⟨w.heap.size + 1, 0, none⟩)) true ty).run Tryd.prog wr = _ := fun ty => Lib.run_next_any_at wr (w.heap.size + 1) s pos ty hit hp
      have hwd := width_pos s pos hp
      have hd1 := decode_le s pos
      have hI2 := hI.iterAt hit (pos + (Utf8.decode s pos).2)
      have hit2 := Lib.iterAt_heap wr (w.heap.size + 1) s pos (pos + (Utf8.decode s pos).2) hit
      have hbw2 := Lib.below_iterAt hbw (k := w.heap.size + 1) (by omega) s (pos + (Utf8.decode s pos).2)
      have hsz2 : w.heap.size ≤ (wr.iterAt (w.heap.size + 1) s (pos + (Utf8.decode s pos).2)).heap.size := by rw [Lib.iterAt_size]; omega
      obtain ⟨f, rfl⟩ : ∃ f, fuel = f + 1 := ⟨fuel - 1, by omega⟩
      go_wp2_with (go_at_call 44; refine (writeRune w.heap.size w.heap.size _ _ (by omega) (by omega) _ hI2 (by rw [Lib.byteCells_length]; omega) hsz2).mono ?_; rintro e W1 ⟨rfl, h1, b1, k1⟩)
      go_roundw
      case rel =>
        have hl4 := Lib.runeCells_le ((Utf8.decode s pos).1 : Int)
        rw [Lib.runeCells_length] at hl4
        refine ⟨pos + (Utf8.decode s pos).2, f, acc ++ Lib.encodeRune (Utf8.decode s pos).1, ?_, k1.iter hit2 (by omega), hbw2.trans b1, ?_, by omega, by simp; omega⟩
        · rw [Lib.byteCells_append, Lib.byteCells_encodeRune]; exact h1
        · rw [← hacc]; simp [validFrom, hp]
      case measure =>
        simp only [World.iterPos, k1.iter hit2 (by omega), hit]
        omega
    · have hnx : ∀ ty, (Instr.next (.pointer (some ⟨w.heap.size + 1, 0, none⟩)) true ty).run Tryd.prog wr = _ := fun ty => Lib.run_next_end_at wr (w.heap.size + 1) s pos ty hit hp
      rw [validFrom_end s fuel pos hp, List.append_nil] at hacc
      have HA := Lib.hid hacc; clear hacc
      go_wp2_with (go_at_call 34; refine (Tryd.Builder_String_any_k w.heap.size w.heap.size acc _ hI (by omega)).mono ?_; rintro e W1 ⟨rfl, _, b1, _⟩)
      go_ret
      exact ⟨by rw [HA.out]; rfl, hbw.trans b1⟩
def highTab : List Int := [0x20ac, 0x81, 0x201a, 0x192, 0x201e, 0x2026, 0x2020, 0x2021, 0x2c6, 0x2030, 0x160, 0x2039, 0x152, 0x8d, 0x17d, 0x8f, 0x90, 0x2018, 0x2019, 0x201c, 0x201d, 0x2022, 0x2013, 0x2014, 0x2dc, 0x2122, 0x161, 0x203a, 0x153, 0x9d, 0x17e, 0x178]
def TabHigh (w : World) : Prop := Lib.TabIs Tryd.prog w "muslin/chars.high" .i32 highTab
theorem TabHigh.below {w w1 : World} (h : TabHigh w) (hb : Below w.heap.size w w1) : TabHigh w1 := by
  unfold TabHigh Lib.TabIs at *
  have hlt : 0 < w.heap.size := by
    rcases Nat.lt_or_ge 0 w.heap.size with h' | h'
    · exact h'
    · rw [World.var?, show Tryd.prog.globalNamed "muslin/chars.high" = some 0 from by kernel_rfl] at h
      simp [Array.getElem?_eq_none h'] at h
  exact Go.var?_below hb (show Tryd.prog.globalNamed "muslin/chars.high" = some 0 from by kernel_rfl) hlt h
theorem TabHigh.at {w : World} (h : TabHigh w) (j : Nat) (hj : j < 32) : w.cell? ⟨0, j, none⟩ = some (.int .i32 (highTab.getD j 0)) := by
  have := Lib.TabIs.cell h (show Tryd.prog.globalNamed "muslin/chars.high" = some 0 from by kernel_rfl) j hj
  exact this
def hiC (c : UInt8) : Int := if 128 ≤ c.toNat ∧ c.toNat < 160 then highTab.getD (c.toNat - 128) 0 else c.toNat
def singlesL (l : List UInt8) : List UInt8 := l.flatMap fun c => Lib.encodeRune (hiC c)
def chars_singles.f (s : ByteArray) : Option ByteArray := if s.size ≤ 35184372088832 then some ⟨(singlesL s.data.toList).toArray⟩ else none
theorem hiC_range (c : UInt8) : 0 ≤ hiC c ∧ hiC c ≤ 65535 := by
  unfold hiC
  split
  · rename_i h
    have : ∀ j, j < 32 → 0 ≤ highTab.getD j 0 ∧ highTab.getD j 0 ≤ 65535 := by decide
    exact this _ (by omega)
  · have := UInt8.toNat_lt c; omega
set_option maxHeartbeats 4000000 in
set_option maxRecDepth 1000000 in
theorem chars_singles.calls' (s r : ByteArray) (w : World) (hGl : TabHigh w) (h : chars_singles.f s = some r) :
    Calls Tryd.prog 54 #[.string s] w fun e w' => e = .returned (.string r) ∧ Below w.heap.size w w' := by
  obtain ⟨hs, rfl⟩ := of_guard h
  clear h
  have HG := Lib.hid hGl; clear hGl
  go_enter Tryd.func54, Tryd.ntmps54
  go_wp2
  go_loopw [9] (fun i wr => ∃ k : Nat, k ≤ s.size ∧ i = .int .i64 k ∧ Lib.IsBuilderF 39 5 w.heap.size w.heap.size (Lib.byteCells (singlesL (s.data.toList.take k))) wr ∧ Below w.heap.size w wr ∧ w.heap.size ≤ wr.heap.size ∧ (singlesL (s.data.toList.take k)).length ≤ 4 * k) (fun i _ => s.size - (RowKit.intOf i).toNat)
  case atStart => exact ⟨0, Nat.zero_le _, rfl, Lib.IsBuilderF.of (Lib.fresh_isBuilder 39 5 w), (Below.refl _ w).alloc (Nat.le_refl _) _, by simp, by simp [singlesL]⟩
  case round =>
    obtain ⟨k, hk, rfl, hI, hb, hsz, hlen⟩ := hrel
    by_cases hlt : k < s.size
    · have hlt2 : k < s.data.toList.length := by simpa using hlt
      have hsn : singlesL (s.data.toList.take (k + 1)) = singlesL (s.data.toList.take k) ++ Lib.encodeRune (hiC s.data.toList[k]) := by
        rw [List.take_succ_eq_append_getElem hlt2]; simp [singlesL]
      have hr := hiC_range s.data.toList[k]
      have hcs : s[k] = s.data.toList[k] := rfl
      have hg := (HG.out.below hb)
      have hhc : hiC s.data.toList[k] = hiC s.data.toList[k] := rfl
      generalize hcc : s.data.toList[k] = c at *
      have h256 : c.toNat < 256 := UInt8.toNat_lt _
      have HS := Lib.hid hsn; have HI := Lib.hid hI
      have fin : ∀ W1 : World, Lib.IsBuilderF 39 5 w.heap.size w.heap.size (Lib.byteCells (singlesL (s.data.toList.take k)) ++ Lib.runeCells (hiC c)) W1 → Lib.IsBuilderF 39 5 w.heap.size w.heap.size (Lib.byteCells (singlesL (s.data.toList.take (k + 1)))) W1 ∧ (singlesL (s.data.toList.take (k + 1))).length ≤ 4 * (k + 1) := by
        intro W1 h1
        have hl4 := Lib.runeCells_le (hiC c)
        rw [Lib.runeCells_length] at hl4
        rw [HS.out, Lib.byteCells_append, Lib.byteCells_encodeRune]
        exact ⟨h1, by simp; omega⟩
      have FIN := Lib.hid fin
      clear hsn hI hcc HG hhc fin
      by_cases c1 : 128 ≤ c.toNat ∧ c.toNat < 160
      · have hcell := hg.at (c.toNat - 128) (by omega)
        have hv : highTab.getD (c.toNat - 128) 0 = hiC c := by unfold hiC; rw [if_pos c1]
        rw [hv] at hcell
        obtain ⟨c1, c2⟩ := c1
        clear hv
        go_wp2_with (go_at_call 44; refine (writeRune w.heap.size w.heap.size _ _ (by omega) (by omega) _ HI.out (by rw [Lib.byteCells_length]; omega) hsz).mono ?_; rintro e W1 ⟨rfl, h1, b1, k1⟩)
        go_roundw
        case rel => exact ⟨k + 1, by omega, by go_num, (FIN.out W1 h1).1, hb.trans b1, Nat.le_trans hsz b1.size, (FIN.out W1 h1).2⟩
        case measure => simp [RowKit.intOf]; omega
      · have hv : hiC c = (c.toNat : Int) := by unfold hiC; rw [if_neg c1]
        rw [hv] at FIN
        clear hv
        have c2 : c.toNat < 128 ∨ 160 ≤ c.toNat := by omega
        clear c1 hg
        rcases c2 with c2 | c2
        all_goals
          go_wp2_with (go_at_call 44; refine (writeRune w.heap.size w.heap.size _ _ (by omega) (by omega) _ HI.out (by rw [Lib.byteCells_length]; omega) hsz).mono ?_; rintro e W1 ⟨rfl, h1, b1, k1⟩)
          go_roundw
          case rel => exact ⟨k + 1, by omega, by go_num, (FIN.out W1 h1).1, hb.trans b1, Nat.le_trans hsz b1.size, (FIN.out W1 h1).2⟩
          case measure => simp [RowKit.intOf]; omega
    · have hk2 : s.data.toList.take k = s.data.toList := List.take_of_length_le (by simp; omega)
      rw [hk2] at hI
      clear hk2 hlen
      go_wp2_with (go_at_call 34; refine (Tryd.Builder_String_any_k w.heap.size w.heap.size _ _ hI hsz).mono ?_; rintro e W1 ⟨rfl, _, b1, _⟩)
      go_ret
      exact ⟨rfl, hb.trans b1⟩
def dblL (u : UInt8 → UInt8 → Int) : List UInt8 → List UInt8
  | [] => []
  | [_] => Lib.encodeRune 65533
  | [a, b] => Lib.encodeRune (u a b)
  | [a, b, _] => Lib.encodeRune (u a b) ++ Lib.encodeRune 65533
  | a :: b :: c :: d :: r =>
    if (55296 ≤ u a b ∧ u a b < 56320) ∧ (56320 ≤ u c d ∧ u c d ≤ 57343) then Lib.encodeRune (65536 + (u a b - 55296) * 1024 + u c d - 56320) ++ dblL u r
    else Lib.encodeRune (u a b) ++ dblL u (c :: d :: r)
def uLE (a b : UInt8) : Int := a.toNat + 256 * b.toNat
def uBE (a b : UInt8) : Int := 256 * a.toNat + b.toNat
def chars_doubles.f (s : ByteArray) (first second : Int) : Option ByteArray :=
  if s.size ≤ 35184372088832 ∧ (first = 0 ∧ second = 8 ∨ first = 8 ∧ second = 0) then some ⟨(dblL (if first = 0 then uLE else uBE) s.data.toList).toArray⟩ else none
theorem orLE (a b : UInt8) : bits .or .i32 (wrap32 (wrap32 (a.toNat : Int))) (wrap32 (wrap32 (b.toNat : Int) * 256)) = uLE a b := by
  have ha : a.toNat < 256 := UInt8.toNat_lt _
  have hb : b.toNat < 256 := UInt8.toNat_lt _
  have e1 : wrap32 (wrap32 (a.toNat : Int)) = ((a.toNat : Nat) : Int) := by unfold wrap32; omega
  have e2 : wrap32 (wrap32 (b.toNat : Int) * 256) = ((b.toNat * 256 : Nat) : Int) := by unfold wrap32; omega
  rw [e1, e2, (bits_nat .i32 31 (by decide) wraps_i32 a.toNat (b.toNat * 256) (by omega) (by omega)).2, Nat.or_comm, nat_join 8 _ _ (by omega) (by omega)]
  unfold uLE; omega
theorem orBE (a b : UInt8) : bits .or .i32 (wrap32 (wrap32 (a.toNat : Int) * 256)) (wrap32 (wrap32 (b.toNat : Int))) = uBE a b := by
  have ha : a.toNat < 256 := UInt8.toNat_lt _
  have hb : b.toNat < 256 := UInt8.toNat_lt _
  have e1 : wrap32 (wrap32 (b.toNat : Int)) = ((b.toNat : Nat) : Int) := by unfold wrap32; omega
  have e2 : wrap32 (wrap32 (a.toNat : Int) * 256) = ((a.toNat * 256 : Nat) : Int) := by unfold wrap32; omega
  rw [e1, e2, (bits_nat .i32 31 (by decide) wraps_i32 (a.toNat * 256) b.toNat (by omega) (by omega)).2, nat_join 8 _ _ (by omega) (by omega)]
  unfold uBE; omega
theorem uLE_range (a b : UInt8) : 0 ≤ uLE a b ∧ uLE a b ≤ 65535 := by
  have ha : a.toNat < 256 := UInt8.toNat_lt _
  have hb : b.toNat < 256 := UInt8.toNat_lt _
  unfold uLE; omega
theorem uBE_range (a b : UInt8) : 0 ≤ uBE a b ∧ uBE a b ≤ 65535 := by
  have ha : a.toNat < 256 := UInt8.toNat_lt _
  have hb : b.toNat < 256 := UInt8.toNat_lt _
  unfold uBE; omega
theorem drop2 (t : ByteArray) : (t.extract 2 t.size).data.toList = t.data.toList.drop 2 := by
  simp [ByteArray.extract_eq_extract_append_extract, List.take_of_length_le]
theorem drop4 (t : ByteArray) : ((t.extract 2 t.size).extract 2 (t.size - 2)).data.toList = (t.data.toList.drop 2).drop 2 := by
  rw [← drop2 t, ← drop2 (t.extract 2 t.size)]
  simp
theorem dbl_alone (u : UInt8 → UInt8 → Int) (l : List UInt8) (h1 : 1 < l.length)
    (h : u l[0] l[1] < 55296 ∨ 56320 ≤ u l[0] l[1] ∨ l.length ≤ 3 ∨ ∃ h3 : 3 < l.length, u l[2] l[3] < 56320 ∨ 57343 < u l[2] l[3]) :
    dblL u l = Lib.encodeRune (u l[0] l[1]) ++ dblL u (l.drop 2) := by
  match l, h1, h with
  | [a, b], _, _ => simp [dblL]
  | [a, b, c], _, _ => simp [dblL]
  | a :: b :: c :: d :: r, _, h =>
    have hn : ¬ ((55296 ≤ u a b ∧ u a b < 56320) ∧ (56320 ≤ u c d ∧ u c d ≤ 57343)) := by
      rintro ⟨⟨x1, x2⟩, x3, x4⟩
      rcases h with h | h | h | ⟨_, h⟩
      · simp at h; omega
      · simp at h; omega
      · simp at h
      · simp at h; omega
    simp only [dblL, if_neg hn]
    rfl
theorem dbl_pair (u : UInt8 → UInt8 → Int) (l : List UInt8) (h3 : 3 < l.length)
    (h : (55296 ≤ u l[0] l[1] ∧ u l[0] l[1] < 56320) ∧ (56320 ≤ u l[2] l[3] ∧ u l[2] l[3] ≤ 57343)) :
    dblL u l = Lib.encodeRune (65536 + (u l[0] l[1] - 55296) * 1024 + u l[2] l[3] - 56320) ++ dblL u ((l.drop 2).drop 2) := by
  match l, h3, h with
  | a :: b :: c :: d :: r, _, h =>
    have h' : (55296 ≤ u a b ∧ u a b < 56320) ∧ (56320 ≤ u c d ∧ u c d ≤ 57343) := h
    simp only [dblL, if_pos h']
    rfl
set_option maxHeartbeats 1600000 in
set_option maxRecDepth 1000000 in
theorem doubles_uLE (s : ByteArray) (w : World) (hs : s.size ≤ 35184372088832) :
    Calls Tryd.prog 55 #[.string s, .int .i64 0, .int .i64 8] w fun e w' => e = .returned (.string ⟨(dblL uLE s.data.toList).toArray⟩) ∧ Below w.heap.size w w' := by
  go_enter Tryd.func55, Tryd.ntmps55
  go_wp2
  go_loopw [0] (fun v wr => ∃ (t : ByteArray) (acc : List UInt8), v = .string t ∧ t.size ≤ s.size ∧ acc ++ dblL uLE t.data.toList = dblL uLE s.data.toList ∧ Lib.IsBuilderF 39 5 w.heap.size w.heap.size (Lib.byteCells acc) wr ∧ Below w.heap.size w wr ∧ w.heap.size ≤ wr.heap.size ∧ acc.length + 4 * t.size ≤ 4 * s.size) (fun v _ => match v with | .string t => t.size | _ => 0)
  case atStart => exact ⟨s, [], rfl, Nat.le_refl _, rfl, Lib.IsBuilderF.of (Lib.fresh_isBuilder 39 5 w), (Below.refl _ w).alloc (Nat.le_refl _) _, by simp, by simp⟩
  case round =>
    obtain ⟨t, acc, rfl, hts, hacc, hI, hb, hsz, hlen⟩ := hrel
    have HA := Lib.hid hacc; have HI := Lib.hid hI
    clear hacc hI
    have hl : t.data.toList.length = t.size := by simp
    by_cases h1 : 1 < t.size
    · have i0 : (0 : Int) < (t.size : Int) := by omega
      have j0 : 0 < t.size := by omega
      have i1 : (1 : Int) < (t.size : Int) := by omega
      have k1 : 1 < t.data.toList.length := by omega
      have k0 : 0 < t.data.toList.length := by omega
      obtain ⟨x, hx⟩ : ∃ x : Int, bits .or .i32 (wrap32 (wrap32 (t[0].toNat : Int))) (wrap32 (wrap32 (t[1].toNat : Int) * 256)) = x := ⟨_, rfl⟩
      have HX : Hid (x = uLE t.data.toList[0] t.data.toList[1]) := by rw [← hx]; exact orLE _ _
      have hxr : 0 ≤ x ∧ x ≤ 65535 := by rw [HX.out]; exact uLE_range _ _
      obtain ⟨hx0, hx1⟩ := hxr
      have alone : ∀ (W1 : World), Lib.IsBuilderF 39 5 w.heap.size w.heap.size (Lib.byteCells acc ++ Lib.runeCells x) W1 → (x < 55296 ∨ 56320 ≤ x ∨ t.data.toList.length ≤ 3 ∨ ∃ h3 : 3 < t.data.toList.length, uLE t.data.toList[2] t.data.toList[3] < 56320 ∨ 57343 < uLE t.data.toList[2] t.data.toList[3]) →
          (acc ++ Lib.encodeRune x) ++ dblL uLE (t.extract 2 t.size).data.toList = dblL uLE s.data.toList ∧ Lib.IsBuilderF 39 5 w.heap.size w.heap.size (Lib.byteCells (acc ++ Lib.encodeRune x)) W1 ∧ (acc ++ Lib.encodeRune x).length + 4 * (t.extract 2 t.size).size ≤ 4 * s.size := by
        intro W1 h2 h4
        refine ⟨?_, ?_, ?_⟩
        · rw [← HA.out, dbl_alone uLE t.data.toList k1 (by rw [← HX.out]; exact h4), drop2, List.append_assoc, HX.out]
        · rw [Lib.byteCells_append, Lib.byteCells_encodeRune]; exact h2
        · have hl4 := Lib.runeCells_le x
          rw [Lib.runeCells_length] at hl4
          have e2 : (t.extract 2 t.size).size = t.size - 2 := by simp
          simp only [List.length_append]; omega
      have hts2 : (t.extract 2 t.size).size ≤ s.size := by simp; omega
      have htm : (t.extract 2 t.size).size < t.size := by simp; omega
      have AL := Lib.hid alone
      clear alone
      have HL := Lib.hid hl
      clear hl
      by_cases hA : 55296 ≤ x ∧ x < 56320
      · obtain ⟨hA1, hA2⟩ := hA
        by_cases h3 : 3 < t.size
        · have i2 : (2 : Int) < (t.size : Int) := by omega
          have j2 : 2 < t.size := by omega
          have i3 : (3 : Int) < (t.size : Int) := by omega
          have k2 : 2 < t.data.toList.length := by have := HL.out; omega
          have k3 : 3 < t.data.toList.length := by have := HL.out; omega
          obtain ⟨y, hy⟩ : ∃ y : Int, bits .or .i32 (wrap32 (wrap32 (t[2].toNat : Int))) (wrap32 (wrap32 (t[3].toNat : Int) * 256)) = y := ⟨_, rfl⟩
          have HY : Hid (y = uLE t.data.toList[2] t.data.toList[3]) := by rw [← hy]; exact orLE _ _
          have hyr : 0 ≤ y ∧ y ≤ 65535 := by rw [HY.out]; exact uLE_range _ _
          obtain ⟨hy0, hy1⟩ := hyr
          by_cases hB : 56320 ≤ y ∧ y ≤ 57343
          · obtain ⟨hB1, hB2⟩ := hB
            have pair : ∀ (W1 : World), Lib.IsBuilderF 39 5 w.heap.size w.heap.size (Lib.byteCells acc ++ Lib.runeCells (65536 + (x - 55296) * 1024 + y - 56320)) W1 →
                (acc ++ Lib.encodeRune (65536 + (x - 55296) * 1024 + y - 56320)) ++ dblL uLE ((t.extract 2 t.size).extract 2 (t.size - 2)).data.toList = dblL uLE s.data.toList ∧ Lib.IsBuilderF 39 5 w.heap.size w.heap.size (Lib.byteCells (acc ++ Lib.encodeRune (65536 + (x - 55296) * 1024 + y - 56320))) W1 ∧ (acc ++ Lib.encodeRune (65536 + (x - 55296) * 1024 + y - 56320)).length + 4 * ((t.extract 2 t.size).extract 2 (t.size - 2)).size ≤ 4 * s.size := by
              intro W1 h2
              refine ⟨?_, ?_, ?_⟩
              · rw [← HA.out, dbl_pair uLE t.data.toList k3 (by rw [← HX.out, ← HY.out]; exact ⟨⟨hA1, hA2⟩, hB1, hB2⟩), drop4, List.append_assoc, HX.out, HY.out]; rfl
              · rw [Lib.byteCells_append, Lib.byteCells_encodeRune]; exact h2
              · have hl4 := Lib.runeCells_le (65536 + (x - 55296) * 1024 + y - 56320)
                rw [Lib.runeCells_length] at hl4
                have e2 : ((t.extract 2 t.size).extract 2 (t.size - 2)).size = t.size - 4 := by simp; omega
                simp only [List.length_append]; omega
            have hts4 : ((t.extract 2 t.size).extract 2 (t.size - 2)).size ≤ s.size := by simp; omega
            have htm4 : ((t.extract 2 t.size).extract 2 (t.size - 2)).size < t.size := by simp; omega
            have PR := Lib.hid pair
            clear pair AL
            have i4 : 2 ≤ t.size := by omega
            have i5 : (2 : Int) ≤ (t.size : Int) := by omega
            go_wp2_with fail
            go_quiet (fail)
            go_wp2_with fail
            go_quiet (fail)
            go_wp2_with fail
            go_quiet (fail)
            go_wp2_with (go_at_call 44; refine (writeRune w.heap.size w.heap.size _ _ (by omega) (by omega) _ (by exact HI.out) (by rw [Lib.byteCells_length]; omega) (by exact hsz)).mono ?_; rintro e W1 ⟨rfl, h1, b1, k1⟩)
            obtain ⟨f1, f2, f3⟩ := PR.out W1 h1
            go_roundw
            case rel => exact ⟨_, _, rfl, hts4, f1, f2, (bdrewN hb _).trans b1, Nat.le_trans hsz b1.size, f3⟩
            case measure => exact htm4
          · have hB2 : y < 56320 ∨ 57343 < y := by omega
            clear hB
            rcases hB2 with hB | hB
            · have ho : x < 55296 ∨ 56320 ≤ x ∨ t.data.toList.length ≤ 3 ∨ ∃ h3 : 3 < t.data.toList.length, uLE t.data.toList[2] t.data.toList[3] < 56320 ∨ 57343 < uLE t.data.toList[2] t.data.toList[3] := .inr (.inr (.inr ⟨k3, .inl (by rw [← HY.out]; exact hB)⟩))
              have HO := Lib.hid ho
              clear ho
              go_wp2_with fail
              go_quiet (fail)
              go_wp2_with fail
              go_quiet (fail)
              go_wp2_with (go_at_call 44; refine (writeRune w.heap.size w.heap.size _ _ (by omega) (by omega) _ (by exact HI.out) (by rw [Lib.byteCells_length]; omega) (by exact hsz)).mono ?_; rintro e W1 ⟨rfl, h1, b1, k1⟩)
              obtain ⟨f1, f2, f3⟩ := AL.out W1 h1 (HO.out)
              go_roundw
              case rel => exact ⟨_, _, rfl, hts2, f1, f2, (bdrewN hb _).trans b1, Nat.le_trans hsz b1.size, f3⟩
              case measure => exact htm
            · have ho : x < 55296 ∨ 56320 ≤ x ∨ t.data.toList.length ≤ 3 ∨ ∃ h3 : 3 < t.data.toList.length, uLE t.data.toList[2] t.data.toList[3] < 56320 ∨ 57343 < uLE t.data.toList[2] t.data.toList[3] := .inr (.inr (.inr ⟨k3, .inr (by rw [← HY.out]; exact hB)⟩))
              have HO := Lib.hid ho
              clear ho
              go_wp2_with fail
              go_quiet (fail)
              go_wp2_with fail
              go_quiet (fail)
              go_wp2_with (go_at_call 44; refine (writeRune w.heap.size w.heap.size _ _ (by omega) (by omega) _ (by exact HI.out) (by rw [Lib.byteCells_length]; omega) (by exact hsz)).mono ?_; rintro e W1 ⟨rfl, h1, b1, k1⟩)
              obtain ⟨f1, f2, f3⟩ := AL.out W1 h1 (HO.out)
              go_roundw
              case rel => exact ⟨_, _, rfl, hts2, f1, f2, (bdrewN hb _).trans b1, Nat.le_trans hsz b1.size, f3⟩
              case measure => exact htm
        · have i3 : ¬ (3 : Int) < (t.size : Int) := by omega
          go_wp2_with fail
          go_quiet (fail)
          go_wp2_with (go_at_call 44; refine (writeRune w.heap.size w.heap.size _ _ (by omega) (by omega) _ (by exact HI.out) (by rw [Lib.byteCells_length]; omega) (by exact hsz)).mono ?_; rintro e W1 ⟨rfl, h1, b1, k1⟩)
          obtain ⟨f1, f2, f3⟩ := AL.out W1 h1 (.inr (.inr (.inl (by have := HL.out; omega))))
          go_roundw
          case rel => exact ⟨_, _, rfl, hts2, f1, f2, (bdrewN hb _).trans b1, Nat.le_trans hsz b1.size, f3⟩
          case measure => exact htm
      · have hA2 : x < 55296 ∨ 56320 ≤ x := by omega
        clear hA
        rcases hA2 with hA | hA
        · skip
          go_wp2_with fail
          go_quiet (fail)
          go_wp2_with (go_at_call 44; refine (writeRune w.heap.size w.heap.size _ _ (by omega) (by omega) _ (by exact HI.out) (by rw [Lib.byteCells_length]; omega) (by exact hsz)).mono ?_; rintro e W1 ⟨rfl, h1, b1, k1⟩)
          obtain ⟨f1, f2, f3⟩ := AL.out W1 h1 (.inl hA)
          go_roundw
          case rel => exact ⟨_, _, rfl, hts2, f1, f2, (bdrewN hb _).trans b1, Nat.le_trans hsz b1.size, f3⟩
          case measure => exact htm
        · skip
          go_wp2_with fail
          go_quiet (fail)
          go_wp2_with (go_at_call 44; refine (writeRune w.heap.size w.heap.size _ _ (by omega) (by omega) _ (by exact HI.out) (by rw [Lib.byteCells_length]; omega) (by exact hsz)).mono ?_; rintro e W1 ⟨rfl, h1, b1, k1⟩)
          obtain ⟨f1, f2, f3⟩ := AL.out W1 h1 (.inr (.inl hA))
          go_roundw
          case rel => exact ⟨_, _, rfl, hts2, f1, f2, (bdrewN hb _).trans b1, Nat.le_trans hsz b1.size, f3⟩
          case measure => exact htm
    · by_cases h0 : t.size = 0
      · have e0 : t.data.toList = [] := by
          apply List.eq_nil_of_length_eq_zero; rw [hl]; exact h0
        have hf := HA.out
        rw [e0] at hf
        simp only [dblL, List.append_nil] at hf
        have HF := Lib.hid hf
        clear hf HA hl
        obtain rfl : t = ByteArray.empty := by
          apply ByteArray.ext; apply Array.ext'; rw [e0]; rfl
        clear e0 h0
        go_wp2_with (go_at_call 34; refine (Tryd.Builder_String_any_k w.heap.size w.heap.size _ _ HI.out hsz).mono ?_; rintro e W1 ⟨rfl, _, b1, _⟩)
        go_ret
        exact ⟨by rw [HF.out]; rfl, hb.trans b1⟩
      · have hone : t.size = 1 := by omega
        have e1 : dblL uLE t.data.toList = Lib.encodeRune 65533 := by
          have hl1 : t.data.toList.length = 1 := by rw [hl]; exact hone
          match t.data.toList, hl1 with
          | [a], _ => rfl
        have hf := HA.out
        rw [e1] at hf
        have HF := Lib.hid hf
        have hle := Lib.runeCells_le 65533
        have hnm : t.toList.isEmpty = false := by
          cases hh : t.toList with
          | nil =>
            have := congrArg List.length hh
            rw [ByteArray.toList_eq] at hh
            have := congrArg List.length hh
            simp [hone] at this
          | cons a b => rfl
        have hlen2 : acc.length + 4 ≤ 140737488355328 := by omega
        clear hf HA hl e1 hone h0
        go_wp2_with (first
          | (go_at_call 44; refine (writeRune w.heap.size w.heap.size _ _ (by omega) (by omega) _ HI.out (by rw [Lib.byteCells_length]; exact hlen2) hsz).mono ?_; rintro e W1 ⟨rfl, h2, b1, k1⟩; rw [← Lib.byteCells_encodeRune, ← Lib.byteCells_append, HF.out] at h2; have hsz1 := Nat.le_trans hsz b1.size)
          | (go_at_call 34; refine (Tryd.Builder_String_any_k w.heap.size w.heap.size _ _ (by assumption) (by assumption)).mono ?_; rintro e W2 ⟨rfl, _, b2, _⟩))
        go_ret
        exact ⟨rfl, (hb.trans b1).trans b2⟩
set_option maxHeartbeats 1600000 in
set_option maxRecDepth 1000000 in
theorem doubles_uBE (s : ByteArray) (w : World) (hs : s.size ≤ 35184372088832) :
    Calls Tryd.prog 55 #[.string s, .int .i64 8, .int .i64 0] w fun e w' => e = .returned (.string ⟨(dblL uBE s.data.toList).toArray⟩) ∧ Below w.heap.size w w' := by
  go_enter Tryd.func55, Tryd.ntmps55
  go_wp2
  go_loopw [0] (fun v wr => ∃ (t : ByteArray) (acc : List UInt8), v = .string t ∧ t.size ≤ s.size ∧ acc ++ dblL uBE t.data.toList = dblL uBE s.data.toList ∧ Lib.IsBuilderF 39 5 w.heap.size w.heap.size (Lib.byteCells acc) wr ∧ Below w.heap.size w wr ∧ w.heap.size ≤ wr.heap.size ∧ acc.length + 4 * t.size ≤ 4 * s.size) (fun v _ => match v with | .string t => t.size | _ => 0)
  case atStart => exact ⟨s, [], rfl, Nat.le_refl _, rfl, Lib.IsBuilderF.of (Lib.fresh_isBuilder 39 5 w), (Below.refl _ w).alloc (Nat.le_refl _) _, by simp, by simp⟩
  case round =>
    obtain ⟨t, acc, rfl, hts, hacc, hI, hb, hsz, hlen⟩ := hrel
    have HA := Lib.hid hacc; have HI := Lib.hid hI
    clear hacc hI
    have hl : t.data.toList.length = t.size := by simp
    by_cases h1 : 1 < t.size
    · have i0 : (0 : Int) < (t.size : Int) := by omega
      have j0 : 0 < t.size := by omega
      have i1 : (1 : Int) < (t.size : Int) := by omega
      have k1 : 1 < t.data.toList.length := by omega
      have k0 : 0 < t.data.toList.length := by omega
      obtain ⟨x, hx⟩ : ∃ x : Int, bits .or .i32 (wrap32 (wrap32 (t[0].toNat : Int) * 256)) (wrap32 (wrap32 (t[1].toNat : Int))) = x := ⟨_, rfl⟩
      have HX : Hid (x = uBE t.data.toList[0] t.data.toList[1]) := by rw [← hx]; exact orBE _ _
      have hxr : 0 ≤ x ∧ x ≤ 65535 := by rw [HX.out]; exact uBE_range _ _
      obtain ⟨hx0, hx1⟩ := hxr
      have alone : ∀ (W1 : World), Lib.IsBuilderF 39 5 w.heap.size w.heap.size (Lib.byteCells acc ++ Lib.runeCells x) W1 → (x < 55296 ∨ 56320 ≤ x ∨ t.data.toList.length ≤ 3 ∨ ∃ h3 : 3 < t.data.toList.length, uBE t.data.toList[2] t.data.toList[3] < 56320 ∨ 57343 < uBE t.data.toList[2] t.data.toList[3]) →
          (acc ++ Lib.encodeRune x) ++ dblL uBE (t.extract 2 t.size).data.toList = dblL uBE s.data.toList ∧ Lib.IsBuilderF 39 5 w.heap.size w.heap.size (Lib.byteCells (acc ++ Lib.encodeRune x)) W1 ∧ (acc ++ Lib.encodeRune x).length + 4 * (t.extract 2 t.size).size ≤ 4 * s.size := by
        intro W1 h2 h4
        refine ⟨?_, ?_, ?_⟩
        · rw [← HA.out, dbl_alone uBE t.data.toList k1 (by rw [← HX.out]; exact h4), drop2, List.append_assoc, HX.out]
        · rw [Lib.byteCells_append, Lib.byteCells_encodeRune]; exact h2
        · have hl4 := Lib.runeCells_le x
          rw [Lib.runeCells_length] at hl4
          have e2 : (t.extract 2 t.size).size = t.size - 2 := by simp
          simp only [List.length_append]; omega
      have hts2 : (t.extract 2 t.size).size ≤ s.size := by simp; omega
      have htm : (t.extract 2 t.size).size < t.size := by simp; omega
      have AL := Lib.hid alone
      clear alone
      have HL := Lib.hid hl
      clear hl
      by_cases hA : 55296 ≤ x ∧ x < 56320
      · obtain ⟨hA1, hA2⟩ := hA
        by_cases h3 : 3 < t.size
        · have i2 : (2 : Int) < (t.size : Int) := by omega
          have j2 : 2 < t.size := by omega
          have i3 : (3 : Int) < (t.size : Int) := by omega
          have k2 : 2 < t.data.toList.length := by have := HL.out; omega
          have k3 : 3 < t.data.toList.length := by have := HL.out; omega
          obtain ⟨y, hy⟩ : ∃ y : Int, bits .or .i32 (wrap32 (wrap32 (t[2].toNat : Int) * 256)) (wrap32 (wrap32 (t[3].toNat : Int))) = y := ⟨_, rfl⟩
          have HY : Hid (y = uBE t.data.toList[2] t.data.toList[3]) := by rw [← hy]; exact orBE _ _
          have hyr : 0 ≤ y ∧ y ≤ 65535 := by rw [HY.out]; exact uBE_range _ _
          obtain ⟨hy0, hy1⟩ := hyr
          by_cases hB : 56320 ≤ y ∧ y ≤ 57343
          · obtain ⟨hB1, hB2⟩ := hB
            have pair : ∀ (W1 : World), Lib.IsBuilderF 39 5 w.heap.size w.heap.size (Lib.byteCells acc ++ Lib.runeCells (65536 + (x - 55296) * 1024 + y - 56320)) W1 →
                (acc ++ Lib.encodeRune (65536 + (x - 55296) * 1024 + y - 56320)) ++ dblL uBE ((t.extract 2 t.size).extract 2 (t.size - 2)).data.toList = dblL uBE s.data.toList ∧ Lib.IsBuilderF 39 5 w.heap.size w.heap.size (Lib.byteCells (acc ++ Lib.encodeRune (65536 + (x - 55296) * 1024 + y - 56320))) W1 ∧ (acc ++ Lib.encodeRune (65536 + (x - 55296) * 1024 + y - 56320)).length + 4 * ((t.extract 2 t.size).extract 2 (t.size - 2)).size ≤ 4 * s.size := by
              intro W1 h2
              refine ⟨?_, ?_, ?_⟩
              · rw [← HA.out, dbl_pair uBE t.data.toList k3 (by rw [← HX.out, ← HY.out]; exact ⟨⟨hA1, hA2⟩, hB1, hB2⟩), drop4, List.append_assoc, HX.out, HY.out]; rfl
              · rw [Lib.byteCells_append, Lib.byteCells_encodeRune]; exact h2
              · have hl4 := Lib.runeCells_le (65536 + (x - 55296) * 1024 + y - 56320)
                rw [Lib.runeCells_length] at hl4
                have e2 : ((t.extract 2 t.size).extract 2 (t.size - 2)).size = t.size - 4 := by simp; omega
                simp only [List.length_append]; omega
            have hts4 : ((t.extract 2 t.size).extract 2 (t.size - 2)).size ≤ s.size := by simp; omega
            have htm4 : ((t.extract 2 t.size).extract 2 (t.size - 2)).size < t.size := by simp; omega
            have PR := Lib.hid pair
            clear pair AL
            have i4 : 2 ≤ t.size := by omega
            have i5 : (2 : Int) ≤ (t.size : Int) := by omega
            go_wp2_with fail
            go_quiet (fail)
            go_wp2_with fail
            go_quiet (fail)
            go_wp2_with fail
            go_quiet (fail)
            go_wp2_with (go_at_call 44; refine (writeRune w.heap.size w.heap.size _ _ (by omega) (by omega) _ (by exact HI.out) (by rw [Lib.byteCells_length]; omega) (by exact hsz)).mono ?_; rintro e W1 ⟨rfl, h1, b1, k1⟩)
            obtain ⟨f1, f2, f3⟩ := PR.out W1 h1
            go_roundw
            case rel => exact ⟨_, _, rfl, hts4, f1, f2, (bdrewN hb _).trans b1, Nat.le_trans hsz b1.size, f3⟩
            case measure => exact htm4
          · have hB2 : y < 56320 ∨ 57343 < y := by omega
            clear hB
            rcases hB2 with hB | hB
            · have ho : x < 55296 ∨ 56320 ≤ x ∨ t.data.toList.length ≤ 3 ∨ ∃ h3 : 3 < t.data.toList.length, uBE t.data.toList[2] t.data.toList[3] < 56320 ∨ 57343 < uBE t.data.toList[2] t.data.toList[3] := .inr (.inr (.inr ⟨k3, .inl (by rw [← HY.out]; exact hB)⟩))
              have HO := Lib.hid ho
              clear ho
              go_wp2_with fail
              go_quiet (fail)
              go_wp2_with fail
              go_quiet (fail)
              go_wp2_with (go_at_call 44; refine (writeRune w.heap.size w.heap.size _ _ (by omega) (by omega) _ (by exact HI.out) (by rw [Lib.byteCells_length]; omega) (by exact hsz)).mono ?_; rintro e W1 ⟨rfl, h1, b1, k1⟩)
              obtain ⟨f1, f2, f3⟩ := AL.out W1 h1 (HO.out)
              go_roundw
              case rel => exact ⟨_, _, rfl, hts2, f1, f2, (bdrewN hb _).trans b1, Nat.le_trans hsz b1.size, f3⟩
              case measure => exact htm
            · have ho : x < 55296 ∨ 56320 ≤ x ∨ t.data.toList.length ≤ 3 ∨ ∃ h3 : 3 < t.data.toList.length, uBE t.data.toList[2] t.data.toList[3] < 56320 ∨ 57343 < uBE t.data.toList[2] t.data.toList[3] := .inr (.inr (.inr ⟨k3, .inr (by rw [← HY.out]; exact hB)⟩))
              have HO := Lib.hid ho
              clear ho
              go_wp2_with fail
              go_quiet (fail)
              go_wp2_with fail
              go_quiet (fail)
              go_wp2_with (go_at_call 44; refine (writeRune w.heap.size w.heap.size _ _ (by omega) (by omega) _ (by exact HI.out) (by rw [Lib.byteCells_length]; omega) (by exact hsz)).mono ?_; rintro e W1 ⟨rfl, h1, b1, k1⟩)
              obtain ⟨f1, f2, f3⟩ := AL.out W1 h1 (HO.out)
              go_roundw
              case rel => exact ⟨_, _, rfl, hts2, f1, f2, (bdrewN hb _).trans b1, Nat.le_trans hsz b1.size, f3⟩
              case measure => exact htm
        · have i3 : ¬ (3 : Int) < (t.size : Int) := by omega
          go_wp2_with fail
          go_quiet (fail)
          go_wp2_with (go_at_call 44; refine (writeRune w.heap.size w.heap.size _ _ (by omega) (by omega) _ (by exact HI.out) (by rw [Lib.byteCells_length]; omega) (by exact hsz)).mono ?_; rintro e W1 ⟨rfl, h1, b1, k1⟩)
          obtain ⟨f1, f2, f3⟩ := AL.out W1 h1 (.inr (.inr (.inl (by have := HL.out; omega))))
          go_roundw
          case rel => exact ⟨_, _, rfl, hts2, f1, f2, (bdrewN hb _).trans b1, Nat.le_trans hsz b1.size, f3⟩
          case measure => exact htm
      · have hA2 : x < 55296 ∨ 56320 ≤ x := by omega
        clear hA
        rcases hA2 with hA | hA
        · skip
          go_wp2_with fail
          go_quiet (fail)
          go_wp2_with (go_at_call 44; refine (writeRune w.heap.size w.heap.size _ _ (by omega) (by omega) _ (by exact HI.out) (by rw [Lib.byteCells_length]; omega) (by exact hsz)).mono ?_; rintro e W1 ⟨rfl, h1, b1, k1⟩)
          obtain ⟨f1, f2, f3⟩ := AL.out W1 h1 (.inl hA)
          go_roundw
          case rel => exact ⟨_, _, rfl, hts2, f1, f2, (bdrewN hb _).trans b1, Nat.le_trans hsz b1.size, f3⟩
          case measure => exact htm
        · skip
          go_wp2_with fail
          go_quiet (fail)
          go_wp2_with (go_at_call 44; refine (writeRune w.heap.size w.heap.size _ _ (by omega) (by omega) _ (by exact HI.out) (by rw [Lib.byteCells_length]; omega) (by exact hsz)).mono ?_; rintro e W1 ⟨rfl, h1, b1, k1⟩)
          obtain ⟨f1, f2, f3⟩ := AL.out W1 h1 (.inr (.inl hA))
          go_roundw
          case rel => exact ⟨_, _, rfl, hts2, f1, f2, (bdrewN hb _).trans b1, Nat.le_trans hsz b1.size, f3⟩
          case measure => exact htm
    · by_cases h0 : t.size = 0
      · have e0 : t.data.toList = [] := by
          apply List.eq_nil_of_length_eq_zero; rw [hl]; exact h0
        have hf := HA.out
        rw [e0] at hf
        simp only [dblL, List.append_nil] at hf
        have HF := Lib.hid hf
        clear hf HA hl
        obtain rfl : t = ByteArray.empty := by
          apply ByteArray.ext; apply Array.ext'; rw [e0]; rfl
        clear e0 h0
        go_wp2_with (go_at_call 34; refine (Tryd.Builder_String_any_k w.heap.size w.heap.size _ _ HI.out hsz).mono ?_; rintro e W1 ⟨rfl, _, b1, _⟩)
        go_ret
        exact ⟨by rw [HF.out]; rfl, hb.trans b1⟩
      · have hone : t.size = 1 := by omega
        have e1 : dblL uBE t.data.toList = Lib.encodeRune 65533 := by
          have hl1 : t.data.toList.length = 1 := by rw [hl]; exact hone
          match t.data.toList, hl1 with
          | [a], _ => rfl
        have hf := HA.out
        rw [e1] at hf
        have HF := Lib.hid hf
        have hle := Lib.runeCells_le 65533
        have hnm : t.toList.isEmpty = false := by
          cases hh : t.toList with
          | nil =>
            have := congrArg List.length hh
            rw [ByteArray.toList_eq] at hh
            have := congrArg List.length hh
            simp [hone] at this
          | cons a b => rfl
        have hlen2 : acc.length + 4 ≤ 140737488355328 := by omega
        clear hf HA hl e1 hone h0
        go_wp2_with (first
          | (go_at_call 44; refine (writeRune w.heap.size w.heap.size _ _ (by omega) (by omega) _ HI.out (by rw [Lib.byteCells_length]; exact hlen2) hsz).mono ?_; rintro e W1 ⟨rfl, h2, b1, k1⟩; rw [← Lib.byteCells_encodeRune, ← Lib.byteCells_append, HF.out] at h2; have hsz1 := Nat.le_trans hsz b1.size)
          | (go_at_call 34; refine (Tryd.Builder_String_any_k w.heap.size w.heap.size _ _ (by assumption) (by assumption)).mono ?_; rintro e W2 ⟨rfl, _, b2, _⟩))
        go_ret
        exact ⟨rfl, (hb.trans b1).trans b2⟩
theorem chars_doubles.calls (s : ByteArray) (first second : Int) (r : ByteArray) (w : World) (h : chars_doubles.f s first second = some r) :
    Calls Tryd.prog 55 #[.string s, .int .i64 first, .int .i64 second] w fun e w' => e = .returned (.string r) ∧ Below w.heap.size w w' := by
  obtain ⟨⟨hs, ho⟩, rfl⟩ := of_guard h
  rcases ho with ⟨rfl, rfl⟩ | ⟨rfl, rfl⟩
  · exact doubles_uLE s w hs
  · exact doubles_uBE s w hs
end Go.Proofs.YtokkgjiofhhlkaaDoor
namespace Go.Proofs.YtokkgjiofhhlkaaDoor
open Go.RowKit
structure Glob (w : World) : Prop where
  high : TabHigh w
  tabs : Lib.Utf8Tabs 2 3 w
  maxl : ∃ m, w.cell? ⟨1, 0, none⟩ = some (.int .i64 m)
theorem Glob.below {w w1 : World} (h : Glob w) (hb : Below w.heap.size w w1) : Glob w1 :=
  ⟨h.high.below hb, Utf8Tabs_below h.tabs hb, by obtain ⟨m, hm⟩ := h.maxl; exact ⟨m, (hb.cell (World.block_lt_of_cell? _ _ hm)).trans hm⟩⟩
theorem chars_singles.calls (s r : ByteArray) (w : World) (hGl : Glob w) (h : chars_singles.f s = some r) :
    Calls Tryd.prog 54 #[.string s] w fun e w' => e = .returned (.string r) ∧ Below w.heap.size w w' := chars_singles.calls' s r w hGl.high h
end Go.Proofs.YtokkgjiofhhlkaaDoor
namespace Go.Proofs.YtokkgjiofhhlkaaDoor
open Go.RowKit Go.Proofs.YtokkgjiofhhlkaaDoorW.PrintWords
variable {P : Program} {ops : Array Oper} {o : Oper} {a : Act} {Kc : Act → World → Prop} {Q : Exit → Act → World → Prop}
theorem print_append_str_step {w0 W : World} (base : Nat) (hw : Region.wanted o (yielded ops a.tmps) = true) (s x : Operand) (t u e : TypeId)
    (ho : o.op = .call { callee := .builtin .append, args := #[s, x], argTypes := #[t, u] })
    (ht : P.underlying t = some (.slice e)) (hu : P.underlying u = some .string) (hinfo : (P.info? e).map (fun i => (i.zero, i.size, i.bytes)) = some (some (.int .u8 0), 1, 1))
    (v : Value) (xs : List Int) (y : ByteArray) (hs : a.eval s = v) (hx : a.eval x = .string y)
    (HO : W.ownsRow base e 1 v xs.length (nums .u8 xs)) (HB : Below base w0 W) (hbase : base ≤ W.heap.size) (hl : xs.length + y.size ≤ 140737488355328)
    (h : ∀ v1 w1, w1.ownsRow base e 1 v1 (xs ++ bytesOf y).length (nums .u8 (xs ++ bytesOf y)) → Below base w0 w1 → W.grownBy w1 v.ownBlock → Kc (a.put o.dst v1) w1) :
    if Region.wanted o (yielded ops a.tmps) = true then Oper.wp P o a W Kc Q else Kc (a.put o.dst undef) W := by
  obtain ⟨i0, hi, hzz⟩ := Option.map_eq_some_iff.1 hinfo
  simp only [Prod.mk.injEq] at hzz
  obtain ⟨hz0, hz1, hz2⟩ := hzz
  rw [if_pos hw]
  obtain ⟨v1, w1, hr, hown, hg, _⟩ := Lib.run_append_own_string (P := P) W base t u o.type e i0 ht hu hi hz0 hz1 hz2 v xs.length (nums .u8 xs) HO y (by simp only [maxLen]; omega) hl hbase
  unfold Oper.wp execOp
  simp only [ho, resolve, invoke, builtin, Sem.run_bind, Sem.run_pure, Result.andThen_ok, List.map_toArray, List.map_cons, List.map_nil, hs, hx, hr]
  have hl2 : (xs ++ bytesOf y).length = xs.length + y.size := by rw [List.length_append, bytesOf_length]
  have hc : nums .u8 (xs ++ bytesOf y) = nums .u8 xs ++ Lib.strCells y := by
    rw [nums_append]
    congr 1
    simp [nums, bytesOf, Lib.strCells]
  exact h v1 w1 (by rw [hl2, hc]; exact hown) (HB.grown hg hbase (own_base HO)) hg
end Go.Proofs.YtokkgjiofhhlkaaDoor
namespace Go.Proofs.YtokkgjiofhhlkaaDoor.C
open Go.RowKit Go.Proofs.YtokkgjiofhhlkaaDoorW.PrintWords Go.Proofs.YtokkgjiofhhlkaaDoorW.PrintLast Go.Proofs.YtokkgjiofhhlkaaDoorW.PrintMore
attribute [local go_sem] max2_int min2_int max_two min_two max_three min_three max_four min_four
set_option linter.unusedVariables false
set_option linter.unusedSimpArgs false
def errW : Option Int → Value
  | none => .nilIface
  | some c => .iface 0 (.int .i64 c)
theorem errW_none : errW none = .nilIface := rfl
theorem errW_some (c : Int) : errW (some c) = .iface 0 (.int .i64 c) := rfl
theorem info3 : (Tryd.prog.info? 3).map (fun i => (i.zero, i.size, i.bytes)) = some (some (.int .i64 0), 1, 8) := by kernel_rfl
theorem info5 : (Tryd.prog.info? 5).map (fun i => (i.zero, i.size, i.bytes)) = some (some (.int .u8 0), 1, 1) := by kernel_rfl
end Go.Proofs.YtokkgjiofhhlkaaDoor.C
