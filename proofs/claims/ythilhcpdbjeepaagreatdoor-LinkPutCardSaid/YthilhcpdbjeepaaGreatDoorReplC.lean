/- '(*strings.byteStringReplacer).Replace', walked. -/
import Derived.Test.YthilhcpdbjeepaaGreatDoorReplB
import Derived.Test.YthilhcpdbjeepaaGreatDoorShelf
import Derived.Deep.RegionLaw
namespace Go.Proofs.YthilhcpdbjeepaaGreatDoor.Repl
open Go.RowKit Go.Proofs.YthilhcpdbjeepaaGreatDoor.Row
set_option linter.unusedVariables false
set_option linter.unusedSimpArgs false
theorem bdrewN {B : Nat} {w0 w : World} (h : Below B w0 w) (n : Nat) : Below B w0 (w.drewN n) := ⟨h.os, h.tape, h.output, h.size, h.block⟩
theorem infoByte : (Tryz.prog.info? 5).map (fun i => (i.zero, i.size, i.bytes)) = some (some (.int .u8 0), 1, 1) := by kernel_rfl
theorem make_bytes (w : World) (n : Nat) (h : n ≤ 100000000000) : ∃ mc : Array Value, mc.size = n ∧
    (Instr.makeSlice 30 (.int .i64 (n : Int)) (.int .i64 (n : Int))).run Tryz.prog w = .ok (.slice (some ⟨w.heap.size, 0, none⟩) n n) (w.alloc (.cells mc 5)) := by
  obtain ⟨i0, hi, hz0, hz1, hz2⟩ := info_parts infoByte
  have hr := run_make (P := Tryz.prog) w 30 5 i0 _ Tryz.underlying30 hi hz0 .i64 .i64 n n (by omega) (by omega) (by rw [hz2]; omega) (by omega)
  simp only [Int.toNat_natCast] at hr
  exact ⟨_, by rw [size_madeCells, hz1, Nat.mul_one], hr⟩
/-- A row of bytes of the call's own that is filled from its head on. -/
def Fill (w : World) (g n : Nat) (l : List UInt8) : Prop :=
  ∃ C : Array Value, w.heap[g]? = some (.cells C 5 (0, 0)) ∧ C.size = n ∧ C.toList.take l.length = Lib.byteCells l
theorem Fill.cell {w : World} {g n : Nat} {l : List UInt8} (h : Fill w g n l) (j : Nat) (hj : j < n) : ∃ v, w.cell? ⟨g, j, none⟩ = some v := by
  obtain ⟨C, hC, hz, _⟩ := h
  exact ⟨_, by rw [cell_of_row _ _ _ _ _ _ hC]; exact Array.getElem?_eq_getElem (by omega)⟩
theorem Fill.free {w : World} {g n : Nat} {l : List UInt8} (h : Fill w g n l) (j : Nat) : w.frozen? ⟨g, j, none⟩ = false := by
  obtain ⟨C, hC, _⟩ := h
  simp [World.frozen?, hC]
theorem Fill.put {w : World} {g n : Nat} {l : List UInt8} (h : Fill w g n l) (c : UInt8) (hl : l.length < n) : Fill (w.setCell ⟨g, l.length, none⟩ (.int .u8 (c.toNat : Int))) g n (l ++ [c]) := by
  obtain ⟨C, hC, hz, ht⟩ := h
  refine ⟨_, setCell_heap_at _ _ _ _ _ _ _ hC, by simpa using hz, ?_⟩
  rw [Array.toList_setIfInBounds, List.length_append, List.length_singleton, List.take_set, List.take_succ_eq_append_getElem (by simpa [hz] using hl), ht]
  have hb : (Lib.byteCells l).length = l.length := by simp [Lib.byteCells]
  rw [List.set_append_right _ _ (by omega), hb, Nat.sub_self]
  simp [Lib.byteCells]
theorem Fill.splice {w' : World} {g n : Nat} {l : List UInt8} {C : Array Value} (hz : C.size = n) (ht : C.toList.take l.length = Lib.byteCells l) (ns : List UInt8) (hl : l.length + ns.length ≤ n)
    (h : w'.heap[g]? = some (.cells (Go.splice C.toList l.length (Lib.byteCells ns)).toArray 5 (0, 0))) : Fill w' g n (l ++ ns) := by
  have hb : ∀ x : List UInt8, (Lib.byteCells x).length = x.length := fun x => by simp [Lib.byteCells]
  refine ⟨_, h, ?_, ?_⟩
  · rw [List.size_toArray, length_splice _ _ _ (by rw [hb]; simp; omega)]
    simpa using hz
  · show (Go.splice C.toList l.length (Lib.byteCells ns)).take (l ++ ns).length = _
    unfold Go.splice
    rw [ht, ← List.append_assoc, List.take_append_of_le_length (by simp only [List.length_append, hb]; exact Nat.le_refl _), List.take_of_length_le (by simp only [List.length_append, hb]; exact Nat.le_refl _)]
    simp [Lib.byteCells]
theorem Fill.back {w : World} {g n : Nat} {l : List UInt8} (h : Fill w g n l) (hn : l.length = n) :
    (convert 30 9 (.slice (some ⟨g, 0, none⟩) n n)).run Tryz.prog w = .ok (.string ⟨l.toArray⟩) w := by
  subst hn
  obtain ⟨C, hC, hz, ht⟩ := h
  refine run_convert_bytes_back (P := Tryz.prog) w 30 9 5 ⟨g, 0, none⟩ _ l Tryz.underlying30 Tryz.underlying5 Tryz.underlying9 (fun j hj => ?_)
  rw [show (⟨g, 0, none⟩ : Addr).add j = ⟨g, j, none⟩ from by unfold Addr.add; split <;> simp_all, cell_of_row _ _ _ _ _ _ hC]
  have h3 : (C.toList.take l.length)[j]? = (Lib.byteCells l)[j]? := by rw [ht]
  rw [List.getElem?_take_of_lt hj] at h3
  simp [Lib.byteCells, List.getElem?_eq_getElem hj] at h3
  simpa using h3
theorem Part.own {M R : Nat} {w : World} {ps : Pairs} (h : Part M w R ps) (hn : 1 ≤ ps.length) : ∃ g1 k1, w.cell? ⟨R, 256, none⟩ = some (.slice (some ⟨g1, 0, none⟩) ps.length k1) ∧
    ∀ j, (hj : j < ps.length) → w.cell? ⟨g1, j, none⟩ = some (.string ⟨#[(ps.reverse[j]'(by simpa using hj)).1]⟩) := by
  obtain ⟨C, tv, _, hC, _, h6, hown, _⟩ := h
  rcases hown.2 with ⟨_, h0⟩ | ⟨g, cap, cur, rfl, _⟩
  · omega
  · refine ⟨g, cap, by rw [cell_of_row _ _ _ _ _ _ hC]; exact h6, fun j hj => ?_⟩
    rw [hown.cellAt j (by omega)]
    rw [List.getElem?_map, List.getElem?_eq_getElem (by simpa using hj)]
    rfl
theorem Part.at {M R : Nat} {w : World} {ps : Pairs} (h : Part M w R ps) (b : Nat) (hb : b < 256) : ∃ v, w.cell? ⟨R, b, none⟩ = some v ∧ RepCell M w (look ps b) v := by
  obtain ⟨C, tv, _, hC, _, h6, hown, hc⟩ := h
  obtain ⟨v, hv, hr⟩ := hc b hb
  exact ⟨v, by rw [cell_of_row _ _ _ _ _ _ hC]; exact hv, hr⟩
set_option maxRecDepth 100000 in
set_option maxHeartbeats 4000000 in
theorem bsr_Replace (M R : Nat) (ps : Pairs) (s : ByteArray) (w : World) (hP : Part M w R ps) (hnd : (ps.map (·.1)).Nodup) (hn : 1 ≤ ps.length) (hn2 : ps.length ≤ 100) (hq : ∀ p ∈ ps, p.2.size ≤ 100) (hs : s.size ≤ 100000000) :
    Calls Tryz.prog 117 #[.pointer (some ⟨R, 0, none⟩), .string s] w fun e w' => e = .returned (.string ⟨(replL ps s.data.toList).toArray⟩) ∧ Below w.heap.size w w' := by
  obtain ⟨g1, k1, ht, hts⟩ := hP.own hn
  have HT := Lib.hid hts
  have HP := Lib.hid hP
  have HQ := Lib.hid hq
  have hsl : s.data.toList.length = s.size := by simp
  have HSL := Lib.hid hsl
  have qT : ∀ (w : World) (a : Option Addr) (n c n' c' : Nat), (binOp .neq 30 (.slice a n c) (.slice none n' c')).run Tryz.prog w = .ok (.bool (!a.isNone)) w := fun w a n c n' c' => run_neq_slice_nil_any w _ _ a n c n' c' Tryz.underlying30
  have hnot : ∀ (x : Bool) (w : World), (Op.unary .not (.bool x)).run Tryz.prog w = .ok (.bool (!x)) w := fun _ _ => rfl
  clear hts hP hq hsl
  go_enter Tryz.func117, Tryz.ntmps117
  go_upto_if 26 with fail
  go_cut [5, 6] (fun u v wc => u = .int .i64 ((replL ps s.data.toList).length : Int) ∧ v = .bool (hit ps s.data.toList) ∧ Below w.heap.size w wc)
  case first =>
    by_cases h8 : ps.length * 8 ≤ s.size
    · have h8' : (ps.length : Int) * 8 ≤ (s.size : Int) := by omega
      go_wp2
      rw [decide_eq_true h8']
      go_loopw [5, 6, 32] (fun u v i wr => ∃ (k : Nat) (x : Int), k ≤ ps.length ∧ i = .int .i64 (k : Int) ∧ u = .int .i64 x ∧ x = (s.size : Int) + gain (ps.reverse.take k) s.data.toList ∧ v = .bool (anyQ (ps.reverse.take k) s.data.toList) ∧ Below w.heap.size w wr) (fun _ _ i _ => ps.length - (intOf i).toNat)
      case atStart => exact ⟨0, _, Nat.zero_le _, rfl, rfl, by simp [gain], rfl, Below.refl _ _⟩
      case round =>
        obtain ⟨k, x, hk, rfl, rfl, hx, rfl, hbel⟩ := hrel
        have hrl : ps.reverse.length = ps.length := by simp
        by_cases hlt : k < ps.length
        · have hlr : k < ps.reverse.length := by omega
          have c1 := cell_later hbel (HT.out k hlt)
          have hgs := gain_snoc ps.reverse s.data.toList k hlr
          have has := anyQ_snoc ps.reverse s.data.toList k hlr
          have hmem : ps.reverse[k] ∈ ps := List.mem_reverse.1 (List.getElem_mem hlr)
          have hqk := HQ.out _ hmem
          have hlk := look_pair ps _ hnd hmem
          obtain ⟨v0, hv0, hr0⟩ := HP.out.at (ps.reverse[k]).1.toNat (UInt8.toNat_lt _)
          rw [hlk] at hr0
          obtain ⟨B, cB, _, rfl, hrow⟩ := hr0
          have d1 := cell_later hbel hv0
          have hct : s.data.toList.count (ps.reverse[k]).1 ≤ s.size := by rw [← HSL.out]; exact List.count_le_length
          have hb1 := gain_bound (ps.reverse.take k) s.data.toList (fun p hp => HQ.out p (by have := List.mem_of_mem_take hp; simpa using this))
          have hb2 := gain_bound (ps.reverse.take (k + 1)) s.data.toList (fun p hp => HQ.out p (by have := List.mem_of_mem_take hp; simpa using this))
          have hl1 : (ps.reverse.take k).length ≤ 100 := by rw [List.length_take]; omega
          have hl2 : (ps.reverse.take (k + 1)).length ≤ 100 := by rw [List.length_take]; omega
          rw [HSL.out] at hb1 hb2
          have m1 : (ps.reverse.take k).length * s.size ≤ 100 * 100000000 := Nat.mul_le_mul hl1 hs
          have m2 : (ps.reverse.take (k + 1)).length * s.size ≤ 100 * 100000000 := Nat.mul_le_mul hl2 hs
          rw [Nat.mul_assoc] at hb1 hb2
          have h256 : (ps.reverse[k]).1.toNat < 256 := UInt8.toNat_lt _
          have hcn := Lib.hid (Tryz.strings_Count_one s (ps.reverse[k]).1)
          generalize (ps.reverse[k]).1 = c at *
          generalize (ps.reverse[k]).2 = ns at *
          have hp1 : (s.data.toList.count c : Int) * ((ns.size : Int) - 1) ≤ (s.data.toList.count c : Int) * 100 := Int.mul_le_mul_of_nonneg_left (by omega) (by omega)
          have hp2 : (s.data.toList.count c : Int) * (-1) ≤ (s.data.toList.count c : Int) * ((ns.size : Int) - 1) := Int.mul_le_mul_of_nonneg_left (by omega) (by omega)
          have hcb : Lib.countByte s.data.toList c = s.data.toList.count c := rfl
          rw [hcb] at hcn
          generalize s.data.toList.count c = ct at *
          have x1 : -1000000000000 ≤ x := by omega
          have x2 : x ≤ 10000000000000 := by omega
          have y1 : -1000000000000 ≤ (ct : Int) * ((ns.size : Int) - 1) := by omega
          have y2 : (ct : Int) * ((ns.size : Int) - 1) ≤ 10000000000000 := by omega
          have hz1 : (⟨#[c]⟩ : ByteArray).size = 1 := rfl
          have hz2 : ∀ h, (⟨#[c]⟩ : ByteArray)[0]'h = c := fun _ => rfl
          generalize hos : (⟨#[c]⟩ : ByteArray) = os at *
          have w1 : IntKind.i64.wrap ((ns.size : Int) - 1) = (ns.size : Int) - 1 := IntWalk.i64_in _ (by omega)
          have w2 : IntKind.i64.wrap ((ct : Int) * ((ns.size : Int) - 1)) = (ct : Int) * ((ns.size : Int) - 1) := IntWalk.i64_in _ (by omega)
          have w3 : IntKind.i64.wrap (x + (ct : Int) * ((ns.size : Int) - 1)) = x + (ct : Int) * ((ns.size : Int) - 1) := IntWalk.i64_in _ (by omega)
          have HGS := Lib.hid hgs; have HAS := Lib.hid has; have HX := Lib.hid hx; have HB := Lib.hid hbel
          clear hgs has hx hb1 hb2 m1 m2 hp1 hp2 hlk hmem hrow hcb hbel hv0 hl1 hl2
          by_cases hc0 : ct = 0
          · have hc0b : ((ct : Int) != 0) = false := by simp [hc0]
            have hc0c : ¬ (ct : Int) ≠ 0 := by omega
            go_wp2_with (go_at_call 119; refine (hcn.out _).mono ?_; rintro e w' ⟨rfl, rfl⟩)
            go_roundw
            case rel => exact ⟨k + 1, _, by omega, by go_num, rfl, by rw [HGS.out, HX.out, hc0]; simp <;> omega, by rw [HAS.out, hc0]; simp, HB.out⟩
            case measure => simp [intOf]; omega
          · have hc0b : ((ct : Int) != 0) = true := by simp [hc0]
            have hc0c : (ct : Int) ≠ 0 := by omega
            go_wp2_with (go_at_call 119; refine (hcn.out _).mono ?_; rintro e w' ⟨rfl, rfl⟩)
            go_quiet (fail)
            rename_i nq
            go_wp2_with fail
            go_roundw
            case rel => exact ⟨k + 1, _, by omega, by go_num, rfl, by rw [HGS.out, HX.out]; omega, by rw [HAS.out]; simp [hc0], bdrewN HB.out nq⟩
            case measure => simp [intOf]; omega
        · obtain rfl : k = ps.length := by omega
          rw [List.take_of_length_le (by omega)] at *
          rw [gain_reverse] at hx
          rw [anyQ_hit]
          have hga := gain_all ps hnd s.data.toList
          rw [HSL.out] at hga
          have HX := Lib.hid hx; have HGA := Lib.hid hga; have HB := Lib.hid hbel
          clear hx hga hbel
          go_wp2
          go_meet
          case rel => exact ⟨by rw [HX.out, HGA.out], rfl, HB.out⟩
    · have h8' : ¬ (ps.length : Int) * 8 ≤ (s.size : Int) := by omega
      go_wp2
      rw [decide_eq_false (by omega)]
      go_loopw [5, 6, 10] (fun u v i wr => ∃ (k : Nat) (x : Int), k ≤ s.size ∧ i = .int .i64 (k : Int) ∧ u = .int .i64 x ∧ x = ((replL ps (s.data.toList.take k)).length : Int) + ((s.size : Int) - (k : Int)) ∧ v = .bool (hit ps (s.data.toList.take k)) ∧ wr = w) (fun _ _ i _ => s.size - (intOf i).toNat)
      case atStart => exact ⟨0, _, Nat.zero_le _, rfl, rfl, by simp [replL], rfl, rfl⟩
      case round =>
        obtain ⟨k, x, hk, rfl, rfl, hx, rfl, rfl⟩ := hrel
        by_cases hlt : k < s.size
        · have hlr : k < s.data.toList.length := by rw [HSL.out]; exact hlt
          have hrs := repl_snoc ps s.data.toList k hlr
          have hhs := hit_snoc ps s.data.toList k hlr
          have hln := repl_len ps (s.data.toList.take k) HQ.out
          have hlk : (s.data.toList.take k).length ≤ s.size := by rw [List.length_take, HSL.out]; omega
          have hdl := delta_len ps s.data.toList[k]
          have hcs : s[k] = s.data.toList[k] := rfl
          obtain ⟨v0, hv0, hr0⟩ := HP.out.at (s.data.toList[k]).toNat (UInt8.toNat_lt _)
          have h256 : (s.data.toList[k]).toNat < 256 := UInt8.toNat_lt _
          have x1 : 0 ≤ x := by omega
          have x2 : x ≤ 100 * 100000000 + 100000000 := by omega
          unfold delta at hdl
          generalize s.data.toList[k] = c at *
          have HRS := Lib.hid hrs; have HHS := Lib.hid hhs; have HX := Lib.hid hx; have HDL := Lib.hid hdl
          clear hrs hhs hx hln hlk hdl
          cases hlook : look ps c.toNat with
          | none =>
            rw [hlook] at hr0
            obtain rfl : v0 = .slice none 0 0 := hr0
            have HLK := Lib.hid hlook; clear hlook
            go_wp2
            go_roundw
            case rel => exact ⟨k + 1, _, by omega, by go_num, rfl, by rw [HRS.out, List.length_append, HX.out]; have := HDL.out; rw [HLK.out] at this; simp only at this; omega, by rw [HHS.out, HLK.out]; simp, by first | trivial | rfl⟩
            case measure => simp [intOf]; omega
          | some ns =>
            rw [hlook] at hr0
            obtain ⟨B, cB, _, rfl, hrow⟩ := hr0
            have hnz : ns.size ≤ 100 := by
              unfold look at hlook
              obtain ⟨p, hp, rfl⟩ := Option.map_eq_some_iff.1 hlook
              exact HQ.out p (List.mem_of_find?_eq_some hp)
            have HLK := Lib.hid hlook; clear hlook hrow
            go_wp2
            go_roundw
            case rel => exact ⟨k + 1, _, by omega, by go_num, rfl, by rw [HRS.out, List.length_append, HX.out]; have := HDL.out; rw [HLK.out] at this; simp only at this; omega, by rw [HHS.out, HLK.out]; simp, by first | trivial | rfl⟩
            case measure => simp [intOf]; omega
        · obtain rfl : k = s.size := by omega
          rw [List.take_of_length_le (by rw [HSL.out]; exact Nat.le_refl _)] at *
          have HX := Lib.hid hx
          clear hx
          go_wp2
          go_meet
          case rel => exact ⟨by rw [HX.out]; congr 1; omega, rfl, Below.refl _ _⟩
  case rest =>
    obtain ⟨rfl, rfl, hbel⟩ := hcut
    cases hh : hit ps s.data.toList with
    | false =>
      have HS := Lib.hid (replL_same ps s.data.toList hh)
      clear hh
      go_wp2
      go_ret
      exact ⟨by rw [HS.out]; exact congrArg (fun x => Ending.returned (Value.string x)) (by apply ByteArray.ext; simp), hbel⟩
    | true =>
      have hln := repl_len ps s.data.toList HQ.out
      rw [HSL.out] at hln
      obtain ⟨mc, hmz, hmk⟩ := make_bytes wc (replL ps s.data.toList).length (by omega)
      clear hh
      have HMZ := Lib.hid hmz
      clear hmz
      go_wp2
      go_loopw [13, 14] (fun j i wr => ∃ k : Nat, k ≤ s.size ∧ i = .int .i64 (k : Int) ∧ j = .int .i64 ((replL ps (s.data.toList.take k)).length : Int) ∧ Fill wr wc.heap.size (replL ps s.data.toList).length (replL ps (s.data.toList.take k)) ∧ Below wc.heap.size wc wr) (fun _ i _ => s.size - (intOf i).toNat)
      case atStart => exact ⟨0, Nat.zero_le _, rfl, by simp [replL], ⟨mc, heap_alloc_new _ _, HMZ.out, by simp [replL, Lib.byteCells]⟩, (Below.refl _ _).alloc (Nat.le_refl _) _⟩
      case round =>
        obtain ⟨k, hk, rfl, rfl, hfill, hb2⟩ := hrel
        by_cases hlt : k < s.size
        · have hlr : k < s.data.toList.length := by rw [HSL.out]; exact hlt
          have hrs := repl_snoc ps s.data.toList k hlr
          have hcs : s[k] = s.data.toList[k] := rfl
          obtain ⟨v0, hv0, hr0⟩ := HP.out.at (s.data.toList[k]).toNat (UInt8.toNat_lt _)
          have h256 : (s.data.toList[k]).toNat < 256 := UInt8.toNat_lt _
          have hd0 := cell_later (hbel.trans (hb2.mono hbel.size)) hv0
          have htot : (replL ps (s.data.toList.take k)).length + (repB ps s.data.toList[k]).length ≤ (replL ps s.data.toList).length := by
            have e : replL ps s.data.toList = replL ps (s.data.toList.take (k + 1)) ++ replL ps (s.data.toList.drop (k + 1)) := by rw [← replL_append, List.take_append_drop]
            rw [e, hrs, List.length_append, List.length_append]; omega
          generalize s.data.toList[k] = c at *
          generalize hn0 : (replL ps s.data.toList).length = n0 at *
          generalize hrk : replL ps (s.data.toList.take k) = rk at *
          have HRS := Lib.hid hrs; have HF := Lib.hid hfill; have HB2 := Lib.hid hb2
          clear hrs hn0 hrk hfill hb2
          cases hlook : look ps c.toNat with
          | none =>
            rw [hlook] at hr0
            obtain rfl : v0 = .slice none 0 0 := hr0
            have hrb : repB ps c = [c] := by unfold repB; rw [hlook]
            rw [hrb] at htot
            have HRB := Lib.hid hrb
            simp only [List.length_singleton] at htot
            obtain ⟨u0, hu0⟩ := HF.out.cell rk.length (by omega)
            have hf0 := HF.out.free rk.length
            have HPUT := Lib.hid (HF.out.put c (by omega))
            clear hlook hrb
            go_wp2
            go_roundw
            case rel => exact ⟨k + 1, by omega, by go_num, by rw [HRS.out, HRB.out, List.length_append]; go_num, by rw [HRS.out, HRB.out]; exact HPUT.out, HB2.out.setCell (Nat.le_refl _) _⟩
            case measure => simp [intOf]; omega
          | some ns =>
            rw [hlook] at hr0
            obtain ⟨B, cB, _, rfl, hrow⟩ := hr0
            have hrb : repB ps c = ns.data.toList := by unfold repB; rw [hlook]
            rw [hrb] at htot
            have hnz : ns.data.toList.length = ns.size := by simp
            rw [hnz] at htot
            have HRB := Lib.hid hrb; have HR := Lib.hid hrow
            obtain ⟨CF, hCF, hCFz, hCFt⟩ := HF.out
            have hbl : (Lib.byteCells ns.data.toList).length = ns.size := by simp [Lib.byteCells]
            have HN1 := Lib.hid (show (Lib.byteCells ns.data.toList).length = Nat.min ns.size (n0 - rk.length) by rw [hbl]; exact (Nat.min_eq_left (by omega)).symm)
            have HFIT := Lib.hid (show rk.length + (Lib.byteCells ns.data.toList).length ≤ CF.toList.length by rw [hbl]; simp [hCFz]; omega)
            have HONE := Lib.hid (show ∀ v ∈ Lib.byteCells ns.data.toList, v.oneCell' = true by intro v hv; simp only [Lib.byteCells, List.mem_map] at hv; obtain ⟨x, _, rfl⟩ := hv; rfl)
            have HCF := Lib.hid hCF; have HCFZ := Lib.hid hCFz; have HCFT := Lib.hid hCFt; have HBL := Lib.hid hbl
            have HSRC := Lib.hid (show ∀ j v, (Lib.byteCells ns.data.toList)[j]? = some v → wr.cell? ((⟨B, 0, none⟩ : Addr).add j) = some v by
              intro j v hv
              obtain ⟨hj, rfl⟩ := List.getElem?_eq_some_iff.1 hv
              rw [hbl] at hj
              rw [show (⟨B, 0, none⟩ : Addr).add j = ⟨B, j, none⟩ from by unfold Addr.add; split <;> simp_all]
              have hj2 : j < ns.data.toList.length := by simpa using hj
              rw [cell_later (hbel.trans (HB2.out.mono hbel.size)) (HR.out.cell j hj2)]
              simp [Lib.byteCells])
            have szb : (Tryz.prog.info? 5).map (·.size) = some 1 := by kernel_rfl
            clear hlook hrb hrow hnz hCF hCFz hCFt hbl
            have h256i : (c.toNat : Int) < 256 := by omega
            by_cases hend : rk.length = n0
            · have hend2 : (rk.length : Int) = (n0 : Int) := by omega
              go_wp2
              go_region_law (refine step_copy_splice rfl (.tmp 105) (.tmp 111) 30 30 rfl 5 Tryz.underlying30 szb (some ⟨wc.heap.size, 0, none⟩) (some ⟨B, 0, none⟩) 0 0 ns.size cB (by simp [Act.eval, Act.put]) (by simp [Act.eval, Act.put]) wc.heap.size rk.length CF.toList 5 HCF.out (Lib.byteCells ns.data.toList) (by rw [HN1.out, hend, Nat.sub_self]) (fun h => by rw [HBL.out] at h; omega) HFIT.out HONE.out wc.heap.size wc HB2.out.drew (Nat.le_refl _) ?_; intro w4 hg4 hb4)
              go_wp2
              go_roundw
              case rel =>
                exact ⟨k + 1, by omega, by go_num, by rw [HRS.out, HRB.out, List.length_append, HBL.out, show ns.data.toList.length = ns.size from by simp]; congr 1; unfold wrap64; omega, by rw [HRS.out, HRB.out]; exact Fill.splice HCFZ.out HCFT.out ns.data.toList (by rw [show ns.data.toList.length = ns.size from by simp]; omega) hg4.out, hb4⟩
              case measure => simp [intOf]; omega
            · have hend2 : rk.length < n0 := by omega
              have j1 : (rk.length : Int) ≤ (n0 : Int) := by omega
              have j2 : rk.length ≤ n0 := by omega
              have j3 : ¬ n0 = rk.length := by omega
              have j4 : (rk.length : Int) < (n0 : Int) := by omega
              have j5 : ¬ (n0 : Int) < (rk.length : Int) := by omega
              go_wp2
              go_region_law (refine step_copy_splice rfl (.tmp 105) (.tmp 111) 30 30 rfl 5 Tryz.underlying30 szb (some ⟨wc.heap.size, rk.length, none⟩) (some ⟨B, 0, none⟩) (n0 - rk.length) (n0 - rk.length) ns.size cB (by simp [Act.eval, Act.put]) (by simp [Act.eval, Act.put]) wc.heap.size rk.length CF.toList 5 HCF.out (Lib.byteCells ns.data.toList) HN1.out (fun _ => ⟨rfl, _, rfl, HSRC.out⟩) HFIT.out HONE.out wc.heap.size wc HB2.out.drew (Nat.le_refl _) ?_; intro w4 hg4 hb4)
              go_wp2
              go_roundw
              case rel =>
                exact ⟨k + 1, by omega, by go_num, by rw [HRS.out, HRB.out, List.length_append, HBL.out, show ns.data.toList.length = ns.size from by simp]; congr 1; unfold wrap64; omega, by rw [HRS.out, HRB.out]; exact Fill.splice HCFZ.out HCFT.out ns.data.toList (by rw [show ns.data.toList.length = ns.size from by simp]; omega) hg4.out, hb4⟩
              case measure => simp [intOf]; omega
        · obtain rfl : k = s.size := by omega
          rw [List.take_of_length_le (by rw [HSL.out]; exact Nat.le_refl _)] at *
          have HCV := Lib.hid (hfill.back rfl)
          have hcv := HCV.out
          have HF := Lib.hid hfill
          clear hfill
          go_wp2
          go_ret
          exact ⟨rfl, hbel.trans (hb2.mono hbel.size)⟩
end Go.Proofs.YthilhcpdbjeepaaGreatDoor.Repl
