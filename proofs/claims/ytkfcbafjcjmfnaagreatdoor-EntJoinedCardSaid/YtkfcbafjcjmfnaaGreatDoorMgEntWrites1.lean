/- Parts of the proof of the law EntWrites, in one text: ReplD, GenG, GenC, GenH, EntW, Alph, EntX, E0, EntR, P0, P1, P2, P3, Pure12, Laid12. -/
import Derived.Test.YtkfcbafjcjmfnaaGreatDoorMgEntWrites0
import Derived.Shelf.Strings.MapGrows
import Derived.Test.YtkfcbafjcjmfnaaGreatDoorRows
import Derived.Lay
import Derived.PinnedBridge
import Derived.Lib.LaidU8
import Derived.Stop.LaidErr
import Derived.LaidMore
import Derived.ProofKit
import Derived.HandedShaped
import Derived.Handed
set_option linter.unusedVariables false
set_option linter.unusedSimpArgs false
namespace Go.Proofs.YtkfcbafjcjmfnaaGreatDoor.Repl
open Go.RowKit Go.Proofs.YtkfcbafjcjmfnaaGreatDoor.Row Go.Proofs.YtkfcbafjcjmfnaaGreatDoor.Once
set_option linter.unusedVariables false
set_option linter.unusedSimpArgs false
def New (M : Nat) (w : World) (b : Nat) (ps : Pairs) : Prop :=
  ∃ v, M ≤ b ∧ w.heap[b]? = some (.cells #[.int .u32 0, .int .i32 0, .int .u32 0, .nilIface, v] 71 (0, 0)) ∧ w.ownsRow M 9 1 v (2 * ps.length) ((oldnew ps).map Value.string)
theorem oldnew_at : ∀ (ps : Pairs) (k : Nat) (h : k < ps.length), (oldnew ps)[2 * k]? = some ⟨#[(ps[k]).1]⟩ ∧ (oldnew ps)[2 * k + 1]? = some (ps[k]).2
  | [], k, h => by simp at h
  | p :: ps, 0, h => ⟨rfl, rfl⟩
  | p :: ps, k + 1, h => by
    have := oldnew_at ps k (by simpa using h)
    rw [show oldnew (p :: ps) = ⟨#[p.1]⟩ :: p.2 :: oldnew ps from rfl]
    exact this
theorem New.lies {M b : Nat} {w : World} {ps : Pairs} {v : Value} (hn : 1 ≤ ps.length) (hown : w.ownsRow M 9 1 v (2 * ps.length) ((oldnew ps).map Value.string)) :
    ∃ g cap, v = .slice (some ⟨g, 0, none⟩) (2 * ps.length) cap ∧ Lies w g ps := by
  rcases hown.2 with ⟨_, h0⟩ | ⟨g, cap, cur, rfl, _⟩
  · omega
  · refine ⟨g, cap, rfl, fun k hk => ?_⟩
    have := oldnew_at ps k hk
    constructor
    · rw [hown.cellAt _ (by omega), List.getElem?_map, this.1]; rfl
    · rw [hown.cellAt _ (by omega), List.getElem?_map, this.2]; rfl
theorem Part.of_heap {M R : Nat} {w w' : World} {ps : Pairs} (h : Part M w R ps) (hh : ∀ k, M ≤ k → k < w.heap.size → w'.heap[k]? = w.heap[k]?) : Part M w' R ps := by
  obtain ⟨C, tv, hMR, hC, hz, h6, hown, hc⟩ := h
  refine ⟨C, tv, hMR, by rw [hh R hMR (Array.getElem?_eq_some_iff.1 hC).1]; exact hC, hz, h6, own_of_heap hown fun k hk => hh k (hown.lt k hk).1 (hown.lt k hk).2, fun b hb => ?_⟩
  obtain ⟨v, hv, hr⟩ := hc b hb
  refine ⟨v, hv, ?_⟩
  cases hk : look ps b with
  | none => rw [hk] at hr; exact hr
  | some s =>
    rw [hk] at hr
    obtain ⟨B, c', hB, rfl, hrw⟩ := hr
    exact ⟨B, c', hB, rfl, Row.of_heap hrw (hh B hB hrw.lt)⟩
theorem Part.setCell {M R b j : Nat} {w : World} {ps : Pairs} (h : Part M w R ps) (hb : b < M) (v : Value) : Part M (w.setCell ⟨b, j, none⟩ v) R ps :=
  h.of_heap fun k hk _ => setCell_heap_ne _ _ _ _ _ (by omega)
theorem New.below {M b : Nat} {w w' : World} {ps : Pairs} (h : New M w b ps) (hb : Below w.heap.size w w') : New M w' b ps := by
  obtain ⟨v, hMb, hC, hown⟩ := h
  exact ⟨v, hMb, by rw [hb.block b (Array.getElem?_eq_some_iff.1 hC).1]; exact hC, own_of_heap hown fun k hk => hb.block k (hown.lt k hk).2⟩
theorem cells_lit (w : World) (cs : Array Value) (e : TypeId) (l : List Value) (hl : cs.toList = l) : ∀ j u, l[j]? = some u → (w.alloc (.cells cs e)).cell? ((⟨w.heap.size, 0, none⟩ : Addr).add j) = some u := by
  subst hl
  intro j u hu
  rw [show (⟨w.heap.size, 0, none⟩ : Addr).add j = ⟨w.heap.size, j, none⟩ from by unfold Addr.add; split <;> simp_all, cell_of_row _ _ _ _ _ _ (heap_alloc_new _ _)]
  simpa using hu
end Go.Proofs.YtkfcbafjcjmfnaaGreatDoor.Repl
namespace Go.Proofs.YtkfcbafjcjmfnaaGreatDoor.Gen
open Go.RowKit Go.Proofs.YtkfcbafjcjmfnaaGreatDoor.Row Go.Proofs.YtkfcbafjcjmfnaaGreatDoor.Repl Go.Proofs.YtkfcbafjcjmfnaaGreatDoor.Once
set_option linter.unusedVariables false
set_option linter.unusedSimpArgs false
theorem make_asw (w : World) (n : Nat) (h : n ≤ 100000000000) : ∃ mc : Array Value, mc.size = n ∧
    (Instr.makeSlice 196 (.int .i64 0) (.int .i64 (n : Int))).run Tryz.prog w = .ok (.slice (some ⟨w.heap.size, 0, none⟩) 0 n) (w.alloc (.cells mc 5)) := by
  obtain ⟨i0, hi, hz0, hz1, hz2⟩ := info_parts infoByte
  have hr := run_make (P := Tryz.prog) w 196 5 i0 _ Tryz.underlying196 hi hz0 .i64 .i64 0 n (by omega) (by omega) (by rw [hz2]; omega) (by omega)
  simp only [Int.toNat_natCast] at hr
  exact ⟨_, by rw [size_madeCells, hz1, Nat.mul_one], hr⟩
theorem Asw.new {M b g n : Nat} {w : World} {mc : Array Value} (hM : M ≤ b) (hMg : M ≤ g) (hb : w.heap[b]? = some (.cells #[.slice (some ⟨g, 0, none⟩) 0 n] 196 (0, 0))) (hg : w.heap[g]? = some (.cells mc 5 (0, 0))) (hmc : mc.size = n) (hn : n ≤ 100000000000) : Asw M w b [] :=
  ⟨hM, _, hb, rfl, .inr ⟨g, n, mc, (0, 0), rfl, hMg, hg, by simp, by simp, by unfold maxLen; omega, by simpa using hmc, by simp [Lib.byteCells]⟩⟩
theorem Asw.text {M b : Nat} {w : World} {l : List UInt8} {v : Value} (hb : w.heap[b]? = some (.cells #[v] 196 (0, 0))) (h : Asw M w b l) :
    (convert 196 9 v).run Tryz.prog w = .ok (.string ⟨l.toArray⟩) w := by
  obtain ⟨_, v', hb', hl, hv⟩ := h
  rw [hb] at hb'
  obtain rfl : v = v' := by simpa using hb'
  rcases hv with ⟨rfl, h0⟩ | ⟨g, cap, cur, fz, rfl, _, hg, _, hnc, _, hcz, ht⟩
  · obtain rfl : l = [] := List.length_eq_zero_iff.1 h0
    kernel_rfl
  · refine run_convert_bytes_back (P := Tryz.prog) w 196 9 5 ⟨g, 0, none⟩ _ l Tryz.underlying196 Tryz.underlying5 Tryz.underlying9 (fun j hj => ?_)
    have hbl : (Lib.byteCells l).length = l.length := by simp [Lib.byteCells]
    have h3 : (cur.toList.take (l.length * 1))[j]? = (Lib.byteCells l)[j]? := by rw [ht]
    rw [Nat.mul_one, List.getElem?_take_of_lt hj] at h3
    simp [Lib.byteCells, List.getElem?_eq_getElem hj] at h3
    rw [show (⟨g, 0, none⟩ : Addr).add j = ⟨g, j, none⟩ from by unfold Addr.add; split <;> simp_all]
    simp [World.cell?, hg, h3]
theorem Asw.loads {M b : Nat} {w : World} {l : List UInt8} (h : Asw M w b l) : ∃ v, w.cell? ⟨b, 0, none⟩ = some v ∧ (convert 196 9 v).run Tryz.prog w = .ok (.string ⟨l.toArray⟩) w := by
  obtain ⟨hM, v, hc, ho⟩ := id h
  exact ⟨v, by rw [cell_of_row _ _ _ _ _ _ hc] <;> rfl, Asw.text hc h⟩
set_option maxRecDepth 100000 in
set_option maxHeartbeats 4000000 in
theorem genRep_c (M R : Nat) (s : ByteArray) (w : World) (hG : Gen M w R) (hs : s.size ≤ 1000000) :
    Calls Tryz.prog 171 #[.pointer (some ⟨R, 0, none⟩), .string s] w fun e w' => e = .returned (.string ⟨(esc 0 s.data.toList).toArray⟩) ∧ Below w.heap.size w w' := by
  obtain ⟨mc, hmz, hmk⟩ := make_asw w s.size (by omega)
  have hw2 : ∀ w2 : World, w2 = (w.alloc (.cells mc 5)).alloc (.cells #[.slice (some ⟨w.heap.size, 0, none⟩) 0 s.size] 196) → Below w.heap.size w w2 ∧ Asw w.heap.size w2 (w.heap.size + 1) [] ∧ w.heap.size ≤ w2.heap.size := by
    rintro w2 rfl
    have hz : (w.alloc (.cells mc 5)).heap.size = w.heap.size + 1 := by simp
    refine ⟨((Below.refl _ _).alloc (Nat.le_refl _) _).alloc (by rw [hz]; omega) _, ?_, by simp; omega⟩
    refine Asw.new (g := w.heap.size) (n := s.size) (mc := mc) (by omega) (Nat.le_refl _) ?_ ?_ hmz (by omega)
    · have h := heap_alloc_new (w.alloc (.cells mc 5)) (.cells #[.slice (some ⟨w.heap.size, 0, none⟩) 0 s.size] 196)
      rw [hz] at h; exact h
    · rw [heap_alloc_old _ _ (by rw [hz]; omega)]; exact heap_alloc_new _ _
  have HW := Lib.hid hw2
  have WS := Lib.hid (fun W (hb : Below w.heap.size w W) (hA : Asw w.heap.size W (w.heap.size + 1) []) (hz : w.heap.size ≤ W.heap.size) => gen_WriteString M R (w.heap.size + 1) w.heap.size s W (hG.below hb) hs hA hz (fun w' h' => hG.below (hb.trans h')))
  clear hG hw2
  go_enter Tryz.func171, Tryz.ntmps171
  go_wp2_with (go_at_call 172; go_loud (obtain ⟨hb, ha, hz⟩ := HW.out _ rfl; refine (WS.out _ hb ha hz).mono ?_; rintro e w3 ⟨⟨ve, rfl⟩, ha3, hb3⟩; have HB3 := Lib.hid (hb.trans hb3); obtain ⟨v3, d3, q3⟩ := ha3.loads; clear ha3 hb3 hb ha hz))
  go_ret
  exact ⟨rfl, HB3.out⟩
end Go.Proofs.YtkfcbafjcjmfnaaGreatDoor.Gen
namespace Go.Proofs.YtkfcbafjcjmfnaaGreatDoor.Gen
open Go.RowKit Go.Proofs.YtkfcbafjcjmfnaaGreatDoor.Row Go.Proofs.YtkfcbafjcjmfnaaGreatDoor.Repl
set_option linter.unusedVariables false
set_option linter.unusedSimpArgs false
set_option maxRecDepth 100000 in
set_option maxHeartbeats 4000000 in
theorem makeGen_c (g cap : Nat) (w : World) (hl : LiesL w g) (hcap : 8 ≤ cap) :
    Calls Tryz.prog 76 #[.slice (some ⟨g, 0, none⟩) 8 cap] w fun e w' => ∃ R, e = .returned (.pointer (some ⟨R, 0, none⟩)) ∧ Gen w.heap.size w' R ∧ Below w.heap.size w w' := by
  have HL := Lib.hid hl
  clear hl
  go_enter Tryz.func76, Tryz.ntmps76
  go_wp2
  rw [zc_root]
  go_loopw [4] (fun i wr => ∃ k : Nat, k ≤ 4 ∧ i = .int .i64 ((2 * k : Nat) : Int) ∧ Rt wr w.heap.size (.slice none 0 0) 0 (marks (upto k)) ∧ Below w.heap.size w wr) (fun i _ => 8 - (intOf i).toNat)
  case atStart => exact ⟨0, by omega, rfl, heap_alloc_new _ _, (Below.refl _ _).alloc (Nat.le_refl _) _⟩
  case round =>
    obtain ⟨k, hk, rfl, hrt, hb⟩ := hrel
    by_cases hlt : k < 4
    · obtain ⟨e1, e2⟩ := oldnewL_at k hlt
      have hkl : k < keys.length := hlt
      rw [List.getElem?_eq_getElem hkl] at e1
      have c1 := cell_later hb (HL.out _ _ e1)
      have hks : (keys[k]).size ≤ 2 ∧ 1 ≤ (keys[k]).size := by
        have : ∀ x ∈ keys, x.size ≤ 2 ∧ 1 ≤ x.size := by decide
        exact this _ (List.getElem_mem hkl)
      have hup := Lib.hid (upto_snoc k hkl)
      generalize keys[k] = key at *
      obtain ⟨hks1, hks2⟩ := hks
      have i1 : ((2 * k : Nat) : Int) < 8 := by omega
      have i2 : 2 * k < 8 := by omega
      have i3 : 2 * (k : Int) < 8 := by omega
      have HRT := Lib.hid hrt; have HB := Lib.hid hb
      clear hrt hb e1 e2
      go_wp2
      go_loopw [6] (fun i ws => ∃ j : Nat, j ≤ key.size ∧ i = .int .i64 (j : Int) ∧ Rt ws w.heap.size (.slice none 0 0) 0 (marks (upto k ++ key.data.toList.take j)) ∧ Below w.heap.size w ws) (fun i _ => key.size - (intOf i).toNat)
      case atStart => exact ⟨0, by omega, rfl, by simpa using HRT.out, HB.out⟩
      case round =>
        obtain ⟨j, hj, rfl, hrt, hb⟩ := hrel
        by_cases hlj : j < key.size
        · have hjl : j < key.data.toList.length := by simpa using hlj
          obtain ⟨c, hc1, hc2, hc3⟩ : ∃ c, key[j] = c ∧ key.data[j]'(by simpa using hlj) = c ∧ key.data.toList[j] = c := ⟨_, rfl, rfl, rfl⟩
          have h256 : c.toNat < 256 := UInt8.toNat_lt c
          have h256i : (c.toNat : Int) < 256 := by omega
          have d1 := hrt.at c.toNat h256
          have d2 := hrt.free (6 + c.toNat)
          have hsn := marks_snoc (upto k ++ key.data.toList.take j) c
          have HS := Lib.hid (hrt.setM c.toNat 1 h256)
          have HB2 := Lib.hid hb
          have i4 : (j : Int) < (key.size : Int) := by omega
          have HK := Lib.hid (show key.data.toList.take (j + 1) = key.data.toList.take j ++ [c] from by rw [List.take_succ_eq_append_getElem hjl, hc3])
          rw [← hsn] at HS
          clear hc3
          clear hrt hb hsn
          go_wp2
          go_region
          all_goals go_wp2_with fail
          go_roundw
          case rel => exact ⟨j + 1, by omega, by go_num, by rw [HK.out, ← List.append_assoc]; exact HS.out, (HB2.out.setCell (p := ⟨w.heap.size, 6 + c.toNat, none⟩) (Nat.le_refl _) _).drew⟩
          case measure => simp [intOf]; omega
        · obtain rfl : j = key.size := by omega
          have HR2 := Lib.hid hrt; have HB2 := Lib.hid hb
          clear hrt hb
          go_wp2
          go_roundw
          case rel => exact ⟨k + 1, by omega, by go_num, by
            have h := HR2.out
            rw [List.take_of_length_le (by simp), ← hup.out] at h
            exact h, HB2.out⟩
          case measure => simp [intOf]; omega
    · obtain rfl : k = 4 := by omega
      have hr4 : Rt wr w.heap.size (.slice none 0 0) 0 m0 := hrt
      have HCS := Lib.hid (show wr.rangeAt w.heap.size 6 (mcells m0) from fun j v hv => by
        have hj : j < 256 := by rw [← mcells_len m0]; exact (List.getElem?_eq_some_iff.1 hv).1
        rw [hr4.at j hj, ← hv, mcells_get _ _ hj])
      have HR4 := Lib.hid hr4; have HB := Lib.hid hb
      clear hrt hr4 hb
      obtain ⟨cs, hcs⟩ : ∃ cs : Array Value, (mcells m0).toArray = cs := ⟨_, rfl⟩
      have HG := Lib.hid (show ∀ b, b < 256 → cs[b]? = some (.int .u8 (m0 b : Int)) from fun b hb => by rw [← hcs, List.getElem?_toArray]; exact mcells_get _ _ hb)
      have HCZ := Lib.hid (show cs.size = 256 from by rw [← hcs, List.size_toArray, mcells_len])
      go_wp2
      refine wp_load_mid 102 (.tmp 39) rfl w.heap.size 6 rfl (mcells m0) (.array 256 5) HCS.out Tryz.underlying102 rfl (by kernel_rfl) ?_
      rw [hcs]
      go_wp2
      go_loopw [41] (fun i wr => ∃ b : Nat, b ≤ 256 ∧ i = .int .i64 (b : Int) ∧ Rt wr w.heap.size (.slice none 0 0) (sumTo m0 b : Int) m0 ∧ Below w.heap.size w wr) (fun i _ => 256 - (intOf i).toNat)
      case atStart => exact ⟨0, by omega, rfl, HR4.out, HB.out⟩
      case round =>
        obtain ⟨b, hb256, rfl, hrt, hb⟩ := hrel
        by_cases hlb : b < 256
        · have hg := fun W => run_index_u8 W cs b _ hlb (HG.out b hlb)
          have hz := HCZ.out
          have hsl := sum_le b m0 m0_le
          have hml := m0_le b
          have d1 := hrt.ts
          have d2 := hrt.free 5
          have i5 : (b : Int) < 256 := by omega
          have hsum : sumTo m0 (b + 1) = sumTo m0 b + m0 b := rfl
          have HS := Lib.hid (hrt.setTs ((sumTo m0 (b + 1) : Nat) : Int))
          have HB2 := Lib.hid hb
          have HSU := Lib.hid hsum
          rw [hsum] at HS
          generalize sumTo m0 b = sb at *
          generalize m0 b = mb at *
          clear hrt hb hsum
          go_wp2
          go_roundw
          case rel => exact ⟨b + 1, by omega, by go_num, by
            have h := HS.out
            rw [Int.natCast_add] at h
            rw [HSU.out, Int.natCast_add]
            exact h, HB2.out.setCell (p := ⟨w.heap.size, 5, none⟩) (Nat.le_refl _) _⟩
          case measure => simp [intOf]; omega
        · obtain rfl : b = 256 := by omega
          have hr5 : Rt wr w.heap.size (.slice none 0 0) 5 m0 := by
            rw [sum_m0] at hrt; exact hrt
          have HCS := Lib.hid (show wr.rangeAt w.heap.size 6 (mcells m0) from fun j v hv => by
            have hj : j < 256 := by rw [← mcells_len m0]; exact (List.getElem?_eq_some_iff.1 hv).1
            rw [hr5.at j hj, ← hv, mcells_get _ _ hj])
          have HR5 := Lib.hid hr5; have HB2 := Lib.hid hb
          clear hrt hr5 hb
          go_wp2
          refine wp_load_mid 102 (.tmp 56) rfl w.heap.size 6 rfl (mcells m0) (.array 256 5) HCS.out Tryz.underlying102 rfl (by kernel_rfl) ?_
          rw [hcs]
          clear hcs
          go_wp2
          go_loopw [9, 58] (fun x i wr => ∃ b : Nat, b ≤ 256 ∧ i = .int .i64 (b : Int) ∧ x = .int .u8 (sumTo m0 b : Int) ∧ Rt wr w.heap.size (.slice none 0 0) 5 (idx b) ∧ Below w.heap.size w wr) (fun _ i _ => 256 - (intOf i).toNat)
          case atStart => exact ⟨0, by omega, rfl, rfl, HR5.out, HB2.out⟩
          case round =>
            obtain ⟨b, hb256, rfl, rfl, hrt, hb⟩ := hrel
            by_cases hlb : b < 256
            · have hg := fun W => run_index_u8 W cs b _ hlb (HG.out b hlb)
              have hsl : sumTo m0 b ≤ 5 := by rw [← sum_m0]; exact sum_mono b 256 hb256 m0
              have hml := m0_le b
              have d1 := hrt.at b hlb
              have d2 := hrt.free (6 + b)
              have d3 := hrt.ts
              have i5 : (b : Int) < 256 := by omega
              have hsum : sumTo m0 (b + 1) = sumTo m0 b + m0 b := rfl
              have HS := Lib.hid (hrt.setM b (if m0 b = 0 then 5 else sumTo m0 b) hlb)
              rw [← idx_step] at HS
              have HB3 := Lib.hid hb
              have HSU := Lib.hid hsum
              generalize hmb : m0 b = mb at *
              generalize hsb : sumTo m0 b = sb at *
              clear hrt hb hsum
              by_cases hm0 : mb = 0
              · subst hm0
                go_wp2
                go_region
                all_goals go_wp2_with fail
                go_roundw
                case rel => exact ⟨b + 1, by omega, by go_num, by rw [HSU.out]; rfl, by
                  have h := HS.out
                  simp only [if_true] at h
                  exact h, (HB3.out.setCell (p := ⟨w.heap.size, 6 + b, none⟩) (Nat.le_refl _) _).drew⟩
                case measure => simp [intOf]; omega
              · have hm1 : mb = 1 := by omega
                subst hm1
                go_wp2
                go_roundw
                case rel => exact ⟨b + 1, by omega, by go_num, by rw [HSU.out]; rfl, by
                  have h := HS.out
                  rw [if_neg (by omega)] at h
                  exact h, HB3.out.setCell (p := ⟨w.heap.size, 6 + b, none⟩) (Nat.le_refl _) _⟩
                case measure => simp [intOf]; omega
            · obtain rfl : b = 256 := by omega
              have hr6 : Rt wr w.heap.size (.slice none 0 0) 5 mapping := hrt
              have d3 := hr6.ts
              have d4 := hr6.tb
              have d5 := hr6.free 4
              have hlt := hr6.lt
              have mk := make_tab wr
              have q1 : ∀ o, (wr.alloc o).cell? ⟨w.heap.size, 4, none⟩ = some (.slice none 0 0) := fun o => (World.cell?_alloc_past o w.heap.size 4 hlt).trans d4
              have q2 : ∀ o, (wr.alloc o).frozen? ⟨w.heap.size, 4, none⟩ = false := fun o => (World.frozen?_alloc_past o w.heap.size 4 hlt).trans d5
              have HR6 := Lib.hid hr6; have HB3 := Lib.hid hb
              clear hrt hr6 hb
              go_wp2
              have hT0 : Tr w.heap.size ((wr.setCell ⟨w.heap.size, 4, none⟩ (.slice (some ⟨wr.heap.size, 0, none⟩) 5 5)).alloc (.cells #[.pointer none, .pointer none, .pointer none, .pointer none, .pointer none] 128)) w.heap.size 0 := by
                have hle := HB3.out.size
                refine ⟨wr.heap.size, w.heap.size, w.heap.size, w.heap.size, w.heap.size, w.heap.size, Nat.le_refl _, hle, Nat.le_refl _, Nat.le_refl _, Nat.le_refl _, Nat.le_refl _, Nat.le_refl _, ?_, ⟨?_, rfl⟩, fun h => absurd h (by decide), fun h => absurd h (by decide), fun h => absurd h (by decide), fun h => absurd h (by decide)⟩
                · refine (HR6.out.setTb _).of ?_
                  rw [heap_alloc_old]
                  simpa using hlt
                · have h := heap_alloc_new (wr.setCell ⟨w.heap.size, 4, none⟩ (.slice (some ⟨wr.heap.size, 0, none⟩) 5 5)) (.cells #[.pointer none, .pointer none, .pointer none, .pointer none, .pointer none] 128)
                  rw [show (wr.setCell ⟨w.heap.size, 4, none⟩ (.slice (some ⟨wr.heap.size, 0, none⟩) 5 5)).heap.size = wr.heap.size from by simp] at h
                  exact h
              have hB0 : Below w.heap.size w ((wr.setCell ⟨w.heap.size, 4, none⟩ (.slice (some ⟨wr.heap.size, 0, none⟩) 5 5)).alloc (.cells #[.pointer none, .pointer none, .pointer none, .pointer none, .pointer none] 128)) := (HB3.out.setCell (p := ⟨w.heap.size, 4, none⟩) (Nat.le_refl _) _).alloc (by simpa using HB3.out.size) _
              generalize (wr.setCell ⟨w.heap.size, 4, none⟩ (.slice (some ⟨wr.heap.size, 0, none⟩) 5 5)).alloc (.cells #[.pointer none, .pointer none, .pointer none, .pointer none, .pointer none] 128) = w0 at *
              have HT0 := Lib.hid hT0; have HB0 := Lib.hid hB0
              clear hT0 hB0 q1 q2 d3 d4 d5 mk hlt
              go_loopw [12] (fun i wr => ∃ k : Nat, k ≤ 4 ∧ i = .int .i64 ((2 * k : Nat) : Int) ∧ Tr w.heap.size wr w.heap.size k ∧ Below w.heap.size w wr) (fun i _ => 8 - (intOf i).toNat)
              case atStart => exact ⟨0, by omega, rfl, HT0.out, HB0.out⟩
              case round =>
                obtain ⟨k, hk4, rfl, htr, hb⟩ := hrel
                by_cases hlk : k < 4
                · obtain ⟨e1, e2⟩ := oldnewL_at k hlk
                  have hkl : k < keys.length := hlk
                  have hvl : k < vals.length := hlk
                  rw [List.getElem?_eq_getElem hkl] at e1
                  rw [List.getElem?_eq_getElem hvl] at e2
                  have hg1 := World.block_lt_of_cell? _ _ (HL.out _ _ e1)
                  have c1 := cell_later hb (HL.out _ _ e1)
                  have c2 := cell_later hb (HL.out _ _ e2)
                  have AD := Lib.hid (add_step w.heap.size w.heap.size k hlk keys[k] vals[k] e1 e2)
                  generalize keys[k] = key at *
                  generalize vals[k] = val at *
                  have c1d : wr.drew.cell? ⟨g, 2 * k, none⟩ = some (.string key) := c1
                  have c2d : wr.drew.cell? ⟨g, 2 * k + 1, none⟩ = some (.string val) := c2
                  have i1 : ((2 * k : Nat) : Int) < 8 := by omega
                  have i2 : 2 * k < 8 := by omega
                  have i3 : 2 * (k : Int) < 8 := by omega
                  have i4 : 2 * k + 1 < 8 := by omega
                  have v4 : IntKind.i64.wrap (2 * (k : Int) + 1) = 2 * (k : Int) + 1 := IntWalk.i64_in _ (by omega)
                  have v5 : IntKind.i64.wrap (8 - 2 * (k : Int)) = 8 - 2 * (k : Int) := IntWalk.i64_in _ (by omega)
                  have v6 : (2 * (k : Int) + 1).toNat = 2 * k + 1 := by omega
                  have v7 : (2 * (k : Int)).toNat = 2 * k := by omega
                  have i7 : (0 : Int) ≤ 2 * (k : Int) := by omega
                  have i8 : (0 : Int) ≤ 2 * (k : Int) + 1 := by omega
                  have i5 : 2 * (k : Int) + 1 < 8 := by omega
                  have i6 : ((2 * k : Nat) : Int) + 1 < 8 := by omega
                  have v1 : IntKind.i64.wrap (((2 * k : Nat) : Int) + 1) = ((2 * k : Nat) : Int) + 1 := IntWalk.i64_in _ (by omega)
                  have v2 : IntKind.i64.wrap (8 - ((2 * k : Nat) : Int)) = 8 - ((2 * k : Nat) : Int) := IntWalk.i64_in _ (by omega)
                  have v3 : (((2 * k : Nat) : Int) + 1).toNat = 2 * k + 1 := by omega
                  have HTR := Lib.hid htr; have HB4 := Lib.hid hb
                  clear htr hb e1 e2
                  go_wp2_with fail
                  go_region_held3 (fun w' => w'.cell? ⟨g, 2 * k, none⟩ = some (.string key) ∧ w'.cell? ⟨g, 2 * k + 1, none⟩ = some (.string val)) (go_keep) (first
                    | (go_at_call 99; refine (AD.out _ (by omega) wr.drew HTR.out).mono ?_; rintro e w5 ⟨rfl, ht5, hb5⟩; have r1 := (hb5.cell hg1).trans c1; have r2 := (hb5.cell hg1).trans c2))
                  all_goals go_wp2_with fail
                  go_roundw
                  case rel =>
                    refine ⟨_, _, _, _, _, _, _, _, _, _, _, _, _, _, _, _, _, _, _, _, _, _, _, _, _, ⟨k + 1, by omega, by go_num, ht5, HB4.out.drew.trans hb5⟩, rfl⟩
                  case measure => simp [intOf]; omega
                · obtain rfl : k = 4 := by omega
                  have HTR := Lib.hid htr; have HB4 := Lib.hid hb
                  clear htr hb
                  go_wp2
                  go_ret
                  exact ⟨_, rfl, HTR.out.gen, HB4.out⟩
end Go.Proofs.YtkfcbafjcjmfnaaGreatDoor.Gen
namespace Go.Proofs.YtkfcbafjcjmfnaaGreatDoor.Gen
open Go.RowKit Go.Proofs.YtkfcbafjcjmfnaaGreatDoor.Row Go.Proofs.YtkfcbafjcjmfnaaGreatDoor.Repl Go.Proofs.YtkfcbafjcjmfnaaGreatDoor.Once
set_option linter.unusedVariables false
set_option linter.unusedSimpArgs false
theorem LiesL.of {w w' : World} {g : Nat} (h : LiesL w g) (hh : w'.heap[g]? = w.heap[g]?) : LiesL w' g := fun j v hj => by
  rw [show w'.cell? ⟨g, j, none⟩ = w.cell? ⟨g, j, none⟩ from by simp only [World.cell?, hh]]
  exact h j v hj
theorem LiesL.lt {w : World} {g : Nat} (h : LiesL w g) : g < w.heap.size := World.block_lt_of_cell? _ _ (h 0 _ rfl)
set_option maxRecDepth 100000 in
set_option maxHeartbeats 4000000 in
theorem build_gen (b g cap : Nat) (w : World) (hb : w.cell? ⟨b, 4, none⟩ = some (.slice (some ⟨g, 0, none⟩) 8 cap)) (hl : LiesL w g) (hcap : 8 ≤ cap) :
    Calls Tryz.prog 51 #[.pointer (some ⟨b, 0, none⟩)] w fun e w' => ∃ R, e = .returned (.iface 100 (.pointer (some ⟨R, 0, none⟩))) ∧ Gen w.heap.size w' R ∧ Below w.heap.size w w' := by
  have MG := Lib.hid (makeGen_c g cap w hl hcap)
  have c0 := hl 0 _ rfl
  have c1 := hl 1 _ rfl
  have c2 := hl 2 _ rfl
  have c3 := hl 3 _ rfl
  have c4 := hl 4 _ rfl
  have c5 := hl 5 _ rfl
  have c6 := hl 6 _ rfl
  have z0 : (⟨#[38]⟩ : ByteArray).size = 1 := rfl
  have z1 : (⟨#[38, 97, 109, 112, 59]⟩ : ByteArray).size = 5 := rfl
  have z2 : (⟨#[60]⟩ : ByteArray).size = 1 := rfl
  have z3 : (⟨#[38, 108, 116, 59]⟩ : ByteArray).size = 4 := rfl
  have z4 : (⟨#[62]⟩ : ByteArray).size = 1 := rfl
  have z5 : (⟨#[38, 103, 116, 59]⟩ : ByteArray).size = 4 := rfl
  have z6 : (⟨#[194, 160]⟩ : ByteArray).size = 2 := rfl
  generalize (⟨#[38]⟩ : ByteArray) = k0 at *
  generalize (⟨#[38, 97, 109, 112, 59]⟩ : ByteArray) = v0 at *
  generalize (⟨#[60]⟩ : ByteArray) = k1 at *
  generalize (⟨#[38, 108, 116, 59]⟩ : ByteArray) = v1 at *
  generalize (⟨#[62]⟩ : ByteArray) = k2 at *
  generalize (⟨#[38, 103, 116, 59]⟩ : ByteArray) = v2 at *
  generalize (⟨#[194, 160]⟩ : ByteArray) = k3 at *
  clear hl
  go_enter Tryz.func51, Tryz.ntmps51
  go_wp2
  refine wp_loop_rounds 4 ?_
  iterate 4 (rw [rounds_succ]; go_wp2_with (go_at_call 76; refine MG.out.mono ?_; rintro e w5 ⟨R, rfl, hg, hbl⟩))
  go_ret
  exact ⟨R, rfl, hg, hbl⟩
def NewL (M : Nat) (w : World) (b : Nat) : Prop :=
  ∃ v, M ≤ b ∧ w.heap[b]? = some (.cells #[.int .u32 0, .int .i32 0, .int .u32 0, .nilIface, v] 71 (0, 0)) ∧ w.ownsRow M 9 1 v 8 (oldnewL.map Value.string)
theorem NewL.lies {M : Nat} {w : World} {v : Value} (hown : w.ownsRow M 9 1 v 8 (oldnewL.map Value.string)) :
    ∃ g cap, v = .slice (some ⟨g, 0, none⟩) 8 cap ∧ LiesL w g ∧ 8 ≤ cap := by
  rcases hown.2 with ⟨_, h0⟩ | ⟨g, cap, cur, rfl, _, _, hle, _⟩
  · omega
  · refine ⟨g, cap, rfl, fun j u hj => ?_, hle⟩
    have hlt : j < 8 := (List.getElem?_eq_some_iff.1 hj).1
    rw [hown.cellAt j (by omega), List.getElem?_map, hj]; rfl
def MidL (M : Nat) (w0 : World) (b : Nat) (w : World) : Prop :=
  ∃ R, w.heap[b]? = some (.cells #[.int .u32 0, .int .i32 1, .int .u32 0, .iface 100 (.pointer (some ⟨R, 0, none⟩)), .slice none 0 0] 71 (0, 0)) ∧ Gen w0.heap.size w R ∧ Below M w0 w ∧ M ≤ b ∧ b < w0.heap.size
theorem Gen.setCell {M R b j : Nat} {w : World} (h : Gen M w R) (hb : b < M) (v : Value) : Gen M (w.setCell ⟨b, j, none⟩ v) R := by
  obtain ⟨T, a, b2, c, d, e, h1, h2, h3, h4, h5, h6, h7, hR, hT, n1, n2, n3, n4, n5⟩ := h
  exact ⟨T, a, b2, c, d, e, h1, h2, h3, h4, h5, h6, h7, hR.of (setCell_heap_ne _ _ _ _ _ (by omega)), hT.of (setCell_heap_ne _ _ _ _ _ (by omega)), n1.of (setCell_heap_ne _ _ _ _ _ (by omega)), n2.of (setCell_heap_ne _ _ _ _ _ (by omega)), n3.of (setCell_heap_ne _ _ _ _ _ (by omega)), n4.of (setCell_heap_ne _ _ _ _ _ (by omega)), n5.of (setCell_heap_ne _ _ _ _ _ (by omega))⟩
set_option maxRecDepth 100000 in
set_option maxHeartbeats 4000000 in
theorem buildOnce_gen (M b : Nat) (w : World) (h : NewL M w b) :
    Calls Tryz.prog 39 #[.pointer (some ⟨b, 0, none⟩)] (w.setCell ⟨b, 1, none⟩ (.int .i32 1)) fun e w' => e = .returned (.tuple #[]) ∧ MidL M w b w' := by
  obtain ⟨v, hMb, hC, hown⟩ := h
  obtain ⟨g, cap, rfl, hlies, hcap⟩ := NewL.lies hown
  have hblt : b < w.heap.size := (Array.getElem?_eq_some_iff.1 hC).1
  have hgb : g ≠ b := by
    rintro rfl
    exact own_apart hown hC (.inl (by decide)) rfl
  have hC1 := setCell_heap_at w b 1 _ _ _ (.int .i32 1) hC
  have hz : (w.setCell ⟨b, 1, none⟩ (.int .i32 1)).heap.size = w.heap.size := by simp
  have hl1 : LiesL (w.setCell ⟨b, 1, none⟩ (.int .i32 1)) g := hlies.of (setCell_heap_ne _ _ _ _ _ hgb)
  have hbM : Below M w (w.setCell ⟨b, 1, none⟩ (.int .i32 1)) := (Below.refl _ _).setCell hMb _
  generalize w.setCell ⟨b, 1, none⟩ (.int .i32 1) = w1 at *
  have hc4 : w1.cell? ⟨b, 4, none⟩ = some (.slice (some ⟨g, 0, none⟩) 8 cap) := by rw [cell_of_row _ _ _ _ _ _ hC1]; rfl
  have BU := Lib.hid (build_gen b g cap w1 hc4 hl1 hcap)
  have HC := Lib.hid hC1; have HZ := Lib.hid hz
  have AF := Lib.hid (show ∀ w2, Below w1.heap.size w1 w2 → w2.cell? ⟨b, 3, none⟩ = some .nilIface ∧ w2.cell? ⟨b, 4, none⟩ = some (.slice (some ⟨g, 0, none⟩) 8 cap) ∧ w2.frozen? ⟨b, 3, none⟩ = false ∧ w2.frozen? ⟨b, 4, none⟩ = false from fun w2 hb => by
    have hCb := (hb.block b (by rw [hz]; exact hblt)).trans hC1
    refine ⟨?_, ?_, ?_, ?_⟩
    · rw [cell_of_row _ _ _ _ _ _ hCb]; rfl
    · rw [cell_of_row _ _ _ _ _ _ hCb]; rfl
    · simp [World.frozen?, hCb]
    · simp [World.frozen?, hCb])
  clear hlies hl1 hC hC1 hown hc4 hz
  go_enter Tryz.func39, Tryz.ntmps39
  go_wp2_with (go_at_call 51; refine BU.out.mono ?_; rintro e w2 ⟨R, rfl, hpart, hbel⟩; obtain ⟨q3, q4, f3, f4⟩ := AF.out w2 hbel; have HPA := Lib.hid hpart; have HBE := Lib.hid hbel; clear hpart hbel)
  go_end0
  refine ⟨rfl, R, ?_, ?_, ?_, hMb, hblt⟩
  · have hCb := (HBE.out.block b (by rw [HZ.out]; exact hblt)).trans HC.out
    have h3 := setCell_heap_at w2 b 3 _ _ _ (.iface 100 (.pointer (some ⟨R, 0, none⟩))) hCb
    have h4 := setCell_heap_at _ b 4 _ _ _ (.slice none 0 0) h3
    rw [h4]
    rfl
  · have hp := HPA.out
    rw [HZ.out] at hp
    exact (hp.setCell hblt _).setCell hblt _
  · exact (((hbM.trans (HBE.out.mono (by rw [HZ.out]; omega))).setCell hMb _).setCell hMb _)
set_option maxRecDepth 100000 in
set_option maxHeartbeats 4000000 in
theorem NewReplacer_gen (g cap : Nat) (w : World) (hc : ∀ j u, (oldnewL.map Value.string)[j]? = some u → w.cell? ((⟨g, 0, none⟩ : Addr).add j) = some u) :
    Calls Tryz.prog 24 #[.slice (some ⟨g, 0, none⟩) 8 cap] w fun e w' => ∃ b, e = .returned (.pointer (some ⟨b, 0, none⟩)) ∧ NewL w.heap.size w' b ∧ Below w.heap.size w w' := by
  obtain ⟨i0, hi, hi0, hi1, hi2⟩ := info_parts infoStr
  have HC := Lib.hid hc
  have hln : (oldnewL.map Value.string).length = 8 * 1 := rfl
  have HLN := Lib.hid hln
  clear hc hln
  go_enter Tryz.func24, Tryz.ntmps24
  go_wp2_with (at_builtin; refine wpList_append_own _ rfl (.const (.slice none 0 0)) (.tmp 8) 55 rfl w.heap.size 9 i0 _ 1 16 Tryz.underlying55 hi hi0 hi1 hi2 rfl (by decide) (.slice none 0 0) 0 [] rfl (World.ownsRow_nil _ _ _ _) ⟨g, 0, none⟩ 8 cap (oldnewL.map Value.string) rfl HLN.out HC.out ?c2 ?c3 ?c4 (Nat.le_refl _) ?_)
  case c2 =>
    intro u hu
    obtain ⟨x, _, rfl⟩ := List.mem_map.1 hu
    rfl
  case c3 => simp only [maxLen]; omega
  case c4 => omega
  intro v1 w1 hown1 hgr1 _
  obtain ⟨a1, n1, k1, rfl⟩ : ∃ a n c, v1 = .slice a n c := by
    rcases hown1.2 with ⟨rfl, _⟩ | ⟨_, _, _, rfl, _⟩
    · exact ⟨_, _, _, rfl⟩
    · exact ⟨_, _, _, rfl⟩
  have HO := Lib.hid hown1; have HG := Lib.hid hgr1
  clear hown1 hgr1
  go_wp2
  go_ret
  have h1 : w.heap.size ≤ w1.heap.size := HG.out.size
  refine ⟨w1.heap.size, rfl, ⟨.slice a1 n1 k1, h1, heap_alloc_new _ _, ?_⟩, ?_⟩
  · have := HO.out.alloc (.cells #[.int .u32 0, .int .i32 0, .int .u32 0, .nilIface, .slice a1 n1 k1] 71)
    simpa using this
  · exact (Repl.below_grown (Below.refl _ _) HG.out (fun j hj => by simp [Value.ownBlock] at hj) (Nat.le_refl _)).alloc h1 _
set_option maxRecDepth 100000 in
set_option maxHeartbeats 4000000 in
theorem Replace_gen (M b : Nat) (s : ByteArray) (w : World) (hs : s.size ≤ 1000000) (h : NewL M w b) (hMw : M ≤ w.heap.size) :
    Calls Tryz.prog 25 #[.pointer (some ⟨b, 0, none⟩), .string s] w fun e w' => e = .returned (.string ⟨(esc 0 s.data.toList).toArray⟩) ∧ Below M w w' := by
  have hmf : ∀ (fn : Fn) (first cap : Array Value) (w : World), (Instr.makeFunc fn first cap).run Tryz.prog w = .ok (.func fn first cap) w := fun _ _ _ _ => rfl
  have HB1 := Lib.hid (buildOnce_gen M b w h)
  obtain ⟨v, hMb, hC, hown⟩ := id h
  have h0 : w.cell? ⟨b, 0, none⟩ = some (.int .u32 0) := by rw [cell_of_row _ _ _ _ _ _ hC]; rfl
  have h1 : w.cell? ⟨b, 1, none⟩ = some (.int .i32 0) := by rw [cell_of_row _ _ _ _ _ _ hC]; rfl
  have f1 : w.frozen? ⟨b, 1, none⟩ = false := by simp [World.frozen?, hC]
  have HQ : Hid (∀ w', MidL M w b w' → (∃ x, w'.cell? ⟨b, 0, none⟩ = some x) ∧ w'.cell? ⟨b, 1, none⟩ = some (.int .i32 1) ∧ w'.frozen? ⟨b, 0, none⟩ = false ∧ w'.frozen? ⟨b, 1, none⟩ = false) := Lib.hid (by
    rintro w' ⟨R, hC', _⟩
    refine ⟨⟨_, by rw [cell_of_row _ _ _ _ _ _ hC']; rfl⟩, by rw [cell_of_row _ _ _ _ _ _ hC']; rfl, by simp [World.frozen?, hC'], by simp [World.frozen?, hC']⟩)
  have DO0 := (do_first b #[.pointer (some ⟨b, 0, none⟩)] w (MidL M w b) h0 h1 f1 HB1.out HQ.out)
  have AF := (show ∀ w1, MidL M w b w1 → ∃ R, ((w1.drew.setCell ⟨b, 0, none⟩ (.int .u32 1)).setCell ⟨b, 1, none⟩ (.int .i32 0)).cell? ⟨b, 3, none⟩ = some (.iface 100 (.pointer (some ⟨R, 0, none⟩))) ∧ Gen w.heap.size ((w1.drew.setCell ⟨b, 0, none⟩ (.int .u32 1)).setCell ⟨b, 1, none⟩ (.int .i32 0)) R ∧ Below M w ((w1.drew.setCell ⟨b, 0, none⟩ (.int .u32 1)).setCell ⟨b, 1, none⟩ (.int .i32 0)) from by
    rintro w1 ⟨R, hC', hp, hb, _, hbl⟩
    have hC2 : w1.drew.heap[b]? = _ := hC'
    have h2 := setCell_heap_at w1.drew b 0 _ _ _ (.int .u32 1) hC2
    have h3 := setCell_heap_at _ b 1 _ _ _ (.int .i32 0) h2
    refine ⟨R, by rw [cell_of_row _ _ _ _ _ _ h3]; rfl, ?_, ((hb.drew).setCell hMb _).setCell hMb _⟩
    exact ((show Gen w.heap.size w1.drew R from hp).setCell hbl _).setCell hbl _)
  have DO : Hid (Calls Tryz.prog 38 #[.pointer (some ⟨b, 0, none⟩), .func (.func 39) #[.pointer (some ⟨b, 0, none⟩)] #[]] w fun e w' => e = .returned (.tuple #[]) ∧ ∃ R, w'.cell? ⟨b, 3, none⟩ = some (.iface 100 (.pointer (some ⟨R, 0, none⟩))) ∧ Gen w.heap.size w' R ∧ Below M w w') := Lib.hid (DO0.mono (by
    rintro e w' ⟨rfl, w1, hm, rfl⟩
    exact ⟨rfl, AF w1 hm⟩))
  have hm : ∀ (R : Nat) (w : World), (method 309 100 (.pointer (some ⟨R, 0, none⟩)) "Replace").run Tryz.prog w = .ok (171, .pointer (some ⟨R, 0, none⟩)) w := fun _ _ => by kernel_rfl
  have RP := Lib.hid (fun (M R : Nat) (W : World) (hP : Gen M W R) => genRep_c M R s W hP hs)
  clear h hown hC HB1 HQ DO0 AF
  go_enter Tryz.func25, Tryz.ntmps25
  go_wp2_with (first | (go_at_call 171; refine (RP.out _ _ _ HPA.out).mono ?_; rintro e w4 ⟨rfl, b4⟩) | (go_at_call 38; refine DO.out.mono ?_; rintro e w3 ⟨rfl, R, q3, hpart, hbel⟩; have HPA := Lib.hid hpart; have HBE := Lib.hid hbel; clear hpart hbel))
  go_ret
  exact ⟨rfl, HBE.out.trans (b4.mono (Nat.le_trans hMw HBE.out.size))⟩
set_option maxRecDepth 100000 in
set_option maxHeartbeats 4000000 in
theorem Text_c (s : ByteArray) (w : World) (hs : s.size ≤ 1000000) :
    Calls Tryz.prog 14 #[.string s] w fun e w' => e = .returned (.string ⟨(esc 0 s.data.toList).toArray⟩) ∧ Below w.heap.size w w' := by
  have NR := Lib.hid (fun W (h : ∀ j u, (oldnewL.map Value.string)[j]? = some u → W.cell? ((⟨w.heap.size, 0, none⟩ : Addr).add j) = some u) => NewReplacer_gen w.heap.size 8 W h)
  have CL := Lib.hid (cells_lit w #[.string ⟨#[38]⟩, .string ⟨#[38, 97, 109, 112, 59]⟩, .string ⟨#[60]⟩, .string ⟨#[38, 108, 116, 59]⟩, .string ⟨#[62]⟩, .string ⟨#[38, 103, 116, 59]⟩, .string ⟨#[194, 160]⟩, .string ⟨#[38, 110, 98, 115, 112, 59]⟩] 9 (oldnewL.map Value.string) rfl)
  have RG := Lib.hid (fun M b W (h : NewL M W b) (hM : M ≤ W.heap.size) => Replace_gen M b s W hs h hM)
  have BA := Lib.hid (show ∀ o, Below w.heap.size w (w.alloc o) from fun o => (Below.refl _ _).alloc (Nat.le_refl _) _)
  have SZ := Lib.hid (show ∀ o, (w.alloc o).heap.size = w.heap.size + 1 from fun o => by simp)
  go_enter Tryz.func14, Tryz.ntmps14
  go_wp2_with (first
    | (go_at_call 24; refine (NR.out _ CL.out).mono ?_; rintro e w2 ⟨b, rfl, hnew, hbel⟩; have HN := Lib.hid hnew; have HB := Lib.hid hbel; clear hnew hbel)
    | (go_at_call 25; refine (RG.out _ _ _ HN.out HB.out.size).mono ?_; rintro e w3 ⟨rfl, hb3⟩; have HB3 := Lib.hid hb3; clear hb3))
  go_ret
  have h1 := (BA.out _).trans (HB.out.mono (by rw [SZ.out]; omega))
  exact ⟨rfl, h1.trans (HB3.out.mono (by rw [SZ.out]; omega))⟩
end Go.Proofs.YtkfcbafjcjmfnaaGreatDoor.Gen
namespace Go.Proofs.YtkfcbafjcjmfnaaGreatDoor.Ent
open Go.RowKit Go.Lib Go.Proofs.YtkfcbafjcjmfnaaGreatDoor Go.Proofs.YtkfcbafjcjmfnaaGreatDoor.Row Go.Proofs.YtkfcbafjcjmfnaaGreatDoor.Gen Go.Proofs.YtkfcbafjcjmfnaaGreatDoor.Pure Go.Proofs.YtkfcbafjcjmfnaaGreatDoor.Num Go.Proofs.YtkfcbafjcjmfnaaGreatDoor.C
set_option linter.unusedVariables false
set_option linter.unusedSimpArgs false
def TabNames (w : World) : Prop := ∃ bm, bm < w.heap.size ∧ w.cell? ⟨0, 0, none⟩ = some (.map (some bm)) ∧
  ∀ w' : World, w'.heap[bm]? = w.heap[bm]? → ∀ s : ByteArray, s.size ≤ 10000000 → (∀ c, nameL s.data.toList = some c → (Instr.lookup 52 (.map (some bm)) (.string s) true).run Tryz.prog w' = .ok (.tuple #[.int .i32 c, .bool true]) w') ∧
    (nameL s.data.toList = none → (Instr.lookup 52 (.map (some bm)) (.string s) true).run Tryz.prog w' = .ok (.tuple #[.int .i32 0, .bool false]) w')
structure GlobE (w : World) : Prop where
  g : Glob w
  names : TabNames w
  err : ∃ ev, w.cell? ⟨5, 0, none⟩ = some ev ∧ (ev = .nilIface ∨ ∃ te pe, ev = .iface te pe)
theorem GlobE.below {w w1 : World} (h : GlobE w) (hb : Below w.heap.size w w1) : GlobE w1 := by
  obtain ⟨hg, ⟨bm, hlt, hc, hl⟩, ev, he, hev⟩ := h
  refine ⟨hg.below hb, ⟨bm, Nat.lt_of_lt_of_le hlt hb.size, (hb.cell (World.block_lt_of_cell? _ _ hc)).trans hc, fun w' hh => hl w' (hh.trans (hb.block _ hlt))⟩, ev, (hb.cell (World.block_lt_of_cell? _ _ he)).trans he, hev⟩
set_option maxRecDepth 100000 in
set_option maxHeartbeats 2000000 in
theorem pub_c (s : ByteArray) (base : Nat) (bi : Int) (hb : (base = 10 ∧ bi = 10) ∨ (base = 16 ∧ bi = 16)) (h1 : 1 ≤ s.size) (h7 : s.size ≤ 7) (w : World) (hE : ∃ ev, w.cell? ⟨5, 0, none⟩ = some ev ∧ (ev = .nilIface ∨ ∃ te pe, ev = .iface te pe)) :
    Calls Tryz.prog 47 #[.string s, .int .i64 bi, .int .i64 64] w fun e w' => ((∃ v, digG base s.data.toList 0 = some v ∧ e = .returned (.tuple #[.int .u64 (v : Int), .nilIface])) ∨ (digG base s.data.toList 0 = none ∧ ∃ te pe, e = .returned (.tuple #[.int .u64 0, .iface te pe]))) ∧ Below w.heap.size w w' := by
  have PC := parse_c s base bi hb h1 h7 w
  obtain ⟨ev, he, hev⟩ := hE
  have TE := Lib.hid (fun (W : World) (h : Below w.heap.size w W) => Tryz.strconv_toError_syntax ⟨#[80, 97, 114, 115, 101, 85, 105, 110, 116]⟩ s bi 64 ev W (by omega) ((h.cell (World.block_lt_of_cell? _ _ he)).trans he) hev)
  clear he hev hb
  cases hd : digG base s.data.toList 0 with
  | some v =>
    rw [hd] at PC
    have PC2 := Lib.hid (show Calls Tryz.prog 65 #[.string s, .int .i64 bi, .int .i64 64] w fun e w' => e = .returned (.tuple #[.int .u64 (v : Int), .nilIface]) ∧ Below w.heap.size w w' from PC.mono fun e w' h => h)
    clear PC
    go_enter Tryz.func47, Tryz.ntmps47
    go_wp2_with (go_at_call 65; refine PC2.out.mono ?_; rintro e w2 ⟨rfl, hb2⟩; have HB := Lib.hid hb2; clear hb2)
    go_ret2
    exact ⟨.inl ⟨v, by first | rfl | trivial, rfl⟩, HB.out⟩
  | none =>
    rw [hd] at PC
    have PC2 := Lib.hid (show Calls Tryz.prog 65 #[.string s, .int .i64 bi, .int .i64 64] w fun e w' => e = .returned (.tuple #[.int .u64 0, .iface 113 (.int .i64 2)]) ∧ Below w.heap.size w w' from PC.mono fun e w' h => h)
    clear PC
    go_enter Tryz.func47, Tryz.ntmps47
    go_wp2_with (first
      | (go_at_call 65; refine PC2.out.mono ?_; rintro e w2 ⟨rfl, hb2⟩; have HB := Lib.hid hb2; clear hb2)
      | (go_at_call 66; refine (TE.out _ HB.out).mono ?_; rintro e w3 ⟨N, rfl, hN, hNc, hb3⟩; have HB3 := Lib.hid hb3; clear hb3 hN hNc))
    go_ret2
    exact ⟨.inr ⟨by first | rfl | trivial, _, _, rfl⟩, HB.out.trans (HB3.out.mono HB.out.size)⟩
def numV : Option Nat → Int
  | some v => (v : Int)
  | none => 0
theorem digG_sign (base : Nat) (hb : base ≤ 16) (c : UInt8) (r : List UInt8) (h : c = 43 ∨ c = 45) : digG base (c :: r) 0 = none := by
  rw [digG, if_neg]
  have : hexV c = 99 := by rcases h with rfl | rfl <;> rfl
  omega
set_option maxRecDepth 100000 in
set_option maxHeartbeats 4000000 in
theorem digits_c (s : ByteArray) (base most : Nat) (bi mi : Int) (hb : (base = 10 ∧ bi = 10 ∧ most = 7 ∧ mi = 7) ∨ (base = 16 ∧ bi = 16 ∧ most = 6 ∧ mi = 6)) (hs : s.size ≤ 10000000) (w : World) (hG : GlobE w) :
    Calls Tryz.prog 36 #[.string s, .int .i64 bi, .int .i64 mi] w fun e w' => e = .returned (.tuple #[.int .i64 (numV (digL base most s.data.toList)), .bool (digL base most s.data.toList).isSome]) ∧ Below w.heap.size w w' := by
  have hl : s.data.toList.length = s.size := by simp
  have hm7 : (most : Int) = mi ∧ 1 ≤ most ∧ most ≤ 7 ∧ base ≤ 16 := by rcases hb with ⟨_, _, h, h2⟩ | ⟨_, _, h, h2⟩ <;> omega
  obtain ⟨hm, hm1, hm2, hb16⟩ := hm7
  by_cases hbad : s.size < 1 ∨ most < s.size
  · have hd : digL base most s.data.toList = none := by unfold digL; rw [if_pos (by rw [hl]; exact hbad)]
    rw [hd]
    clear hd hb hG hl
    rcases hbad with h | h
    · have h2 : (s.size : Int) < 1 := by omega
      go_enter Tryz.func36, Tryz.ntmps36
      go_wp2
      go_ret2
      exact ⟨rfl, Below.refl _ _⟩
    · have h2 : mi < (s.size : Int) := by omega
      have h3 : ¬ (s.size : Int) < 1 := by omega
      go_enter Tryz.func36, Tryz.ntmps36
      go_wp2
      go_ret2
      exact ⟨rfl, Below.refl _ _⟩
  · have hdL : digL base most s.data.toList = digG base s.data.toList 0 := by unfold digL; rw [if_neg (by rw [hl]; exact hbad)]
    rw [hdL]
    have h1 : 1 ≤ s.size := by omega
    have h2 : s.size ≤ 7 := by omega
    have h3 : ¬ (s.size : Int) < 1 := by omega
    have h4 : (s.size : Int) ≤ mi := by omega
    obtain ⟨c, r, hcr⟩ : ∃ c r, s.data.toList = c :: r := by
      cases hd : s.data.toList with
      | nil => rw [hd] at hl; simp at hl; omega
      | cons c r => exact ⟨c, r, rfl⟩
    have hc1 : s[0]'h1 = c := by
      have : s.data.toList[0]'(by rw [hcr]; simp) = c := by simp [hcr]
      exact this
    by_cases hsg : c = 43 ∨ c = 45
    · have hd := digG_sign base hb16 c r hsg
      rw [hcr, hd]
      have hz : (0 : Nat) < s.size := h1
      clear hb hG hl hdL hbad hcr hd
      rcases hsg with rfl | rfl
      · go_enter Tryz.func36, Tryz.ntmps36
        go_wp2
        go_ret2
        exact ⟨rfl, Below.refl _ _⟩
      · go_enter Tryz.func36, Tryz.ntmps36
        go_wp2
        go_ret2
        exact ⟨rfl, Below.refl _ _⟩
    · have PC := Lib.hid (pub_c s base bi (by rcases hb with ⟨h, h', _⟩ | ⟨h, h', _⟩ <;> simp [h, h']) h1 h2 w hG.err)
      have hn1 : ((c.toNat : Int) == 43) = false := by
        rw [beq_eq_false_iff_ne]; exact fun e => hsg (.inl (UInt8.toNat_inj.1 (by show c.toNat = 43; omega)))
      have hn2 : ((c.toNat : Int) == 45) = false := by
        rw [beq_eq_false_iff_ne]; exact fun e => hsg (.inr (UInt8.toNat_inj.1 (by show c.toNat = 45; omega)))
      have hn3 : decide (mi < (s.size : Int)) = false := decide_eq_false (by omega)
      have hbd : ∀ v, digG base s.data.toList 0 = some v → v < 268435456 := fun v hv => by
        have h := (digG_bound base _ 0 v hv).2
        rw [hl] at h
        exact Nat.lt_of_lt_of_le h (by simpa using pow_le base s.size hb16 h2)
      cases hd : digG base s.data.toList 0 with
      | some v =>
        have hvb := hbd v hd
        have PC2 := Lib.hid (show Calls Tryz.prog 47 #[.string s, .int .i64 bi, .int .i64 64] w fun e w' => e = .returned (.tuple #[.int .u64 (v : Int), .nilIface]) ∧ Below w.heap.size w w' from PC.out.mono (by
          rintro e w' ⟨⟨v', hv', rfl⟩ | ⟨hv', _⟩, hb⟩
          · rw [hd] at hv'; cases hv'; exact ⟨rfl, hb⟩
          · rw [hd] at hv'; cases hv'))
        have hvw : IntKind.i64.wrap (v : Int) = (v : Int) := IntWalk.i64_in _ (by omega)
        clear hb hG hl hdL hbad hbd hd PC hvb
        go_enter Tryz.func36, Tryz.ntmps36
        go_wp2_with (go_at_call 47; refine PC2.out.mono ?_; rintro e w2 ⟨rfl, hb2⟩; have HB := Lib.hid hb2; clear hb2)
        go_quiet (fail)
        go_wp2_with fail
        go_ret2
        exact ⟨rfl, by have := HB.out; exact bdrewN this _⟩
      | none =>
        have PC2 := Lib.hid (show Calls Tryz.prog 47 #[.string s, .int .i64 bi, .int .i64 64] w fun e w' => (∃ te pe, e = .returned (.tuple #[.int .u64 0, .iface te pe])) ∧ Below w.heap.size w w' from PC.out.mono (by
          rintro e w' ⟨⟨v', hv', _⟩ | ⟨_, h⟩, hb⟩
          · rw [hd] at hv'; cases hv'
          · exact ⟨h, hb⟩))
        have qn : ∀ (te : TypeId) (pe : Value) (W : World), (binOp .eql 35 (.iface te pe) .nilIface).run Tryz.prog W = .ok (.bool false) W := fun _ _ _ => by kernel_rfl
        clear hb hG hl hdL hbad hbd hd PC
        go_enter Tryz.func36, Tryz.ntmps36
        go_wp2_with (go_at_call 47; refine PC2.out.mono ?_; rintro e w2 ⟨⟨te, pe, rfl⟩, hb2⟩; have HB := Lib.hid hb2; clear hb2)
        go_quiet (fail)
        go_wp2_with fail
        go_ret2
        exact ⟨rfl, by have := HB.out; exact bdrewN this _⟩
theorem enc_str (n : Int) : Utf8.encode n = ⟨(Lib.encodeRune n).toArray⟩ := by
  have ofI : ∀ x : Int, x.toNat.toUInt8 = UInt8.ofNat x.toNat := fun _ => rfl
  unfold Utf8.encode
  by_cases hv : Utf8.valid n = true
  · have h := (valid_iff n).1 hv
    obtain ⟨m, rfl⟩ : ∃ m : Nat, n = (m : Int) := ⟨n.toNat, by omega⟩
    simp only [hv, if_true, Int.toNat_natCast]
    by_cases h1 : m < 128
    · rw [if_pos h1, enc_one (by omega) (by omega)]; rfl
    rw [if_neg h1]
    by_cases h2 : m < 2048
    · rw [if_pos h2, enc_two (by omega) (by omega)]
      simp only [ofI]
      have e1 : (192 + (m : Int) / 64).toNat = 192 + m / 64 := by omega
      have e2 : (128 + (m : Int) % 64).toNat = 128 + m % 64 := by omega
      rw [e1, e2]
    rw [if_neg h2]
    by_cases h3 : m < 65536
    · rw [if_pos h3, enc_three (by omega)]
      simp only [ofI]
      have e1 : (224 + (m : Int) / 4096).toNat = 224 + m / 4096 := by omega
      have e2 : (128 + (m : Int) / 64 % 64).toNat = 128 + m / 64 % 64 := by omega
      have e3 : (128 + (m : Int) % 64).toNat = 128 + m % 64 := by omega
      rw [e1, e2, e3]
    rw [if_neg h3, enc_four (by omega) (by omega)]
    simp only [ofI]
    have e0 : (240 + (m : Int) / 262144).toNat = 240 + m / 262144 := by omega
    have e1 : (128 + (m : Int) / 4096 % 64).toNat = 128 + m / 4096 % 64 := by omega
    have e2 : (128 + (m : Int) / 64 % 64).toNat = 128 + m / 64 % 64 := by omega
    have e3 : (128 + (m : Int) % 64).toNat = 128 + m % 64 := by omega
    rw [e0, e1, e2, e3]
  · have h : n < 0 ∨ (55296 ≤ n ∧ n ≤ 57343) ∨ 1114111 < n := by
      have := mt (valid_iff n).2 hv
      omega
    rw [enc_bad h, if_neg hv]
    rfl
theorem high_dec (b : ByteArray) : decL (knownL (labelL nLat)).1 b.data.toList = singlesL b.data.toList := by
  rw [show (knownL (labelL nLat)).1 = nLat from by decide +kernel]
  unfold decL
  rw [if_pos rfl]
theorem decode_c (a s : ByteArray) (ha : a.size ≤ 5000) (hs : s.size ≤ 11000000) (w : World) (hG : Glob w) :
    Calls Tryz.prog 48 #[.string a, .string s] w fun e w' => e = .returned (.tuple #[.string ⟨(decL (knownL (labelL a)).1 s.data.toList).toArray⟩, .bool (knownL (labelL a)).2]) ∧ Below w.heap.size w w' := by
  obtain ⟨k, h⟩ := decode_is a s ha hs
  exact chars_Decode.calls k a s _ _ w hG (h k (Nat.le_refl _))
set_option maxRecDepth 100000 in
set_option maxHeartbeats 4000000 in
theorem numbered_c (n : Nat) (hn : n ≤ 16777215) (w : World) (hG : GlobE w) :
    Calls Tryz.prog 37 #[.int .i64 (n : Int)] w fun e w' => e = .returned (.string ⟨(numL n).toArray⟩) ∧ Below w.heap.size w w' := by
  by_cases h0 : n = 0
  · subst h0
    go_enter Tryz.func37, Tryz.ntmps37
    go_wp2
    go_ret
    exact ⟨rfl, Below.refl _ _⟩
  by_cases h1 : 128 ≤ n ∧ n ≤ 159
  · obtain ⟨h1, h2⟩ := h1
    have hnum : numL n = singlesL [UInt8.ofNat n] := by unfold numL; rw [if_neg h0, if_pos ⟨h1, h2⟩]
    have h3 : ¬ (n : Int) = 0 := by omega
    have h4 : (128 : Int) ≤ (n : Int) := by omega
    have h5 : (n : Int) ≤ 159 := by omega
    have hw : IntKind.u8.wrap (n : Int) = (n : Int) := IntWalk.u8_in _ (by omega)
    clear hn
    have BA := Lib.hid (show Below w.heap.size w (w.alloc (.cells #[.int .u8 (n : Int)] 5)) from (Below.refl _ _).alloc (Nat.le_refl _) _)
    have hun : ((UInt8.ofNat n).toNat : Int) = (n : Int) := by rw [UInt8.toNat_ofNat']; omega
    have qc : (convert 29 9 (.slice (some ⟨w.heap.size, 0, none⟩) 1 1)).run Tryz.prog (w.alloc (.cells #[.int .u8 (n : Int)] 5)) = .ok (.string ⟨#[UInt8.ofNat n]⟩) (w.alloc (.cells #[.int .u8 (n : Int)] 5)) := by
      refine run_convert_bytes_back (P := Tryz.prog) _ 29 9 5 ⟨w.heap.size, 0, none⟩ 1 [UInt8.ofNat n] Tryz.underlying29 Tryz.underlying5 Tryz.underlying9 (fun j hj => ?_)
      obtain rfl : j = 0 := by simpa using hj
      rw [show (⟨w.heap.size, 0, none⟩ : Addr).add 0 = ⟨w.heap.size, 0, none⟩ from rfl, cell_of_row _ _ _ _ _ _ (heap_alloc_new _ _)]
      show some (Value.int .u8 (n : Int)) = some (.int .u8 (((UInt8.ofNat n).toNat : Nat) : Int))
      rw [hun]
    clear hun
    have DC := Lib.hid (fun (W : World) (h : Below w.heap.size w W) => decode_c nLat ⟨#[UInt8.ofNat n]⟩ (by decide) (by show 1 ≤ 11000000; omega) W (hG.below h).g)
    go_enter Tryz.func37, Tryz.ntmps37
    go_wp2_with (go_at_call 48; refine (DC.out _ BA.out).mono ?_; rintro e w3 ⟨rfl, hb3⟩; have HB3 := Lib.hid hb3; clear hb3)
    go_ret
    refine ⟨?_, BA.out.trans (HB3.out.mono BA.out.size)⟩
    have e : decL (knownL (labelL nLat)).1 [UInt8.ofNat n] = singlesL [UInt8.ofNat n] := high_dec ⟨#[UInt8.ofNat n]⟩
    rw [hnum, ← e]
    rfl
  · have hnum : numL n = Lib.encodeRune (n : Int) := by unfold numL; rw [if_neg h0, if_neg h1]
    have h3 : ¬ (n : Int) = 0 := by omega
    have hw : IntKind.i32.wrap (n : Int) = (n : Int) := IntWalk.i32_in _ (by omega)
    by_cases h4 : (128 : Int) ≤ (n : Int)
    · have h5 : ¬ (n : Int) ≤ 159 := by omega
      clear h1
      go_enter Tryz.func37, Tryz.ntmps37
      go_wp2
      go_ret
      exact ⟨by rw [← enc_str]; rfl, Below.refl _ _⟩
    · clear h1 hn
      go_enter Tryz.func37, Tryz.ntmps37
      go_wp2
      go_ret
      exact ⟨by rw [← enc_str]; rfl, Below.refl _ _⟩
theorem trim_hash (c : UInt8) (r : List UInt8) : Lib.hasPrefix (c :: r) [35] = (c == 35) := by
  show ((35 : UInt8) == c && List.isPrefixOf [] r) = _
  simp only [List.isPrefixOf, Bool.and_true]
  rw [Bool.eq_iff_iff]; simp only [beq_iff_eq]; exact eq_comm
theorem bits_x (c : UInt8) : (bits BinOp.or IntKind.u8 (c.toNat : Int) 32 == 120) = decide (c = 120 ∨ c = 88) := by
  have h : ∀ n : Fin 256, (bits BinOp.or IntKind.u8 (((UInt8.ofNat n.val).toNat : Nat) : Int) 32 == 120) = decide (UInt8.ofNat n.val = 120 ∨ UInt8.ofNat n.val = 88) := by decide +kernel
  have h2 := h ⟨c.toNat, UInt8.toNat_lt c⟩
  simpa using h2
theorem numbL_le (l : List UInt8) (n : Nat) (h : numbL l = some n) : n ≤ 16777215 := by
  have key : ∀ (base most : Nat) (l : List UInt8), base ^ most ≤ 16777216 → 1 ≤ base → digL base most l = some n → n ≤ 16777215 := fun base most l hp hb1 h => by
    unfold digL at h
    split at h
    · cases h
    · rename_i hl
      have := (digG_bound base l 0 n h).2
      have h3 : base ^ l.length ≤ base ^ most := Nat.pow_le_pow_right hb1 (by omega)
      omega
  cases l with
  | nil => cases h
  | cons x r =>
    rw [show numbL (x :: r) = if x = 120 ∨ x = 88 then digL 16 6 r else digL 10 7 (x :: r) from rfl] at h
    by_cases hx : x = 120 ∨ x = 88
    · rw [if_pos hx] at h
      exact key 16 6 r (by decide +kernel) (by decide) h
    · rw [if_neg hx] at h
      exact key 10 7 _ (by decide +kernel) (by decide) h
set_option maxRecDepth 100000 in
set_option maxHeartbeats 4000000 in
theorem sign_c (s : ByteArray) (hs : s.size ≤ 10000000) (w : World) (hG : GlobE w) :
    Calls Tryz.prog 22 #[.string s] w fun e w' => (∃ x : ByteArray, e = .returned (.tuple #[.string x, .bool (signL s.data.toList).isSome]) ∧ ∀ t, signL s.data.toList = some t → x = ⟨t.toArray⟩) ∧ Below w.heap.size w w' := by
  have CP := Tryz.strings_CutPrefix s ⟨#[35]⟩ w
  rw [show (⟨#[35]⟩ : ByteArray).data.toList = [35] from rfl] at CP
  by_cases h35 : ∃ r, s.data.toList = 35 :: r
  · obtain ⟨r, hr⟩ := h35
    have hsg : signL s.data.toList = (numbL r).map numL := by rw [hr]; rfl
    have e1 : Lib.hasPrefix s.data.toList [35] = true := by rw [hr]; rfl
    have e2 : Lib.trimPrefix s.data.toList [35] = r := by rw [hr]; rfl
    rw [e1, e2] at CP
    rw [hsg]
    have hl : s.data.toList.length = s.size := by simp
    rw [hr, List.length_cons] at hl
    have DG := fun (b most : Nat) (bi mi : Int) hb (S : ByteArray) (hS : S.size ≤ 10000000) W (h : Below w.heap.size w W) => digits_c S b most bi mi hb hS W (hG.below h)
    have NB := Lib.hid (fun (o : Option Nat) (ho : ∀ v, o = some v → v ≤ 16777215) W (h : Below w.heap.size w W) => (show Calls Tryz.prog 37 #[.int .i64 (numV o)] W fun e w' => (∃ x : ByteArray, e = .returned (.string x) ∧ ∀ v, o = some v → x = ⟨(numL v).toArray⟩) ∧ Below W.heap.size W w' from by
      cases o with
      | some v =>
        refine (numbered_c v (ho v rfl) W (hG.below h)).mono ?_
        rintro e w' ⟨rfl, hb⟩
        exact ⟨⟨_, rfl, fun v' hv => by cases hv; rfl⟩, hb⟩
      | none =>
        refine (numbered_c 0 (by decide) W (hG.below h)).mono ?_
        rintro e w' ⟨rfl, hb⟩
        exact ⟨⟨_, rfl, fun v' hv => by cases hv⟩, hb⟩))
    have hle := numbL_le r
    obtain ⟨R, hR⟩ : ∃ R : ByteArray, ⟨r.toArray⟩ = R := ⟨_, rfl⟩
    have hRd : R.data.toList = r := by rw [← hR]
    have hRz : R.size ≤ 10000000 := by rw [← hR, mk_size]; omega
    rw [hR] at CP
    have CP2 := Lib.hid CP
    have HLE := Lib.hid hle
    cases r with
    | nil =>
      have hz : digL 10 7 R.data.toList = none := by rw [hRd]; rfl
      have D1 := DG 10 7 10 7 (.inl ⟨rfl, rfl, rfl, rfl⟩) R hRz w (Below.refl _ _)
      rw [hz] at D1
      have HD := Lib.hid D1
      have N1 := Lib.hid (fun W h => NB.out none (fun v hv => by cases hv) W h)
      have hRe : R.toList.isEmpty = true := by rw [toList_eq, hRd]; rfl
      clear DG hG CP hr e1 e2 hsg D1 hz hle hR hRd
      go_enter Tryz.func22, Tryz.ntmps22
      go_wp2_with (first
        | (go_at_call 35; refine CP2.out.mono ?_; rintro e w2 ⟨rfl, hw2⟩; replace hw2 := hw2.symm; subst hw2)
        | (go_at_call 36; refine HD.out.mono ?_; rintro e w3 ⟨rfl, hb3⟩; have HB3 := Lib.hid hb3; clear hb3)
        | (go_at_call 37; refine (N1.out _ HB3.out).mono ?_; rintro e w4 ⟨⟨x, rfl, hx⟩, hb4⟩; have HB4 := Lib.hid hb4; clear hb4 hx))
      go_ret2
      exact ⟨⟨_, rfl, fun t ht => by cases ht⟩, HB3.out.trans (HB4.out.mono HB3.out.size)⟩
    | cons c q =>
      have hR1 : 1 ≤ R.size := by rw [← hR, mk_size]; simp
      have hRe : R.toList.isEmpty = false := filled R hR1
      have hc0 : R[0]'hR1 = c := by
        have : R.data.toList[0]'(by rw [hRd]; simp) = c := by simp [hRd]
        exact this
      have hbx := bits_x c
      by_cases hx : c = 120 ∨ c = 88
      · rw [decide_eq_true hx] at hbx
        obtain ⟨S, hS⟩ : ∃ S, R.extract 1 R.size = S := ⟨_, rfl⟩
        have hSd : S.data.toList = q := by
          rw [← hS, extract_list, hRd, List.take_of_length_le (by rw [← hRd]; simp)]; rfl
        have hSz : S.size ≤ 10000000 := by rw [← hS]; simp; omega
        have hnb : numbL (c :: q) = digL 16 6 q := by rw [show numbL (c :: q) = if c = 120 ∨ c = 88 then digL 16 6 q else digL 10 7 (c :: q) from rfl, if_pos hx]
        rw [hnb] at HLE ⊢
        have D1 := DG 16 6 16 6 (.inr ⟨rfl, rfl, rfl, rfl⟩) S hSz w (Below.refl _ _)
        rw [hSd] at D1
        have HD := Lib.hid D1
        have N1 := Lib.hid (fun W h => NB.out (digL 16 6 q) HLE.out W h)
        have hR1i : (1 : Int) ≤ (R.size : Int) := by omega
        clear DG hG CP hr e1 e2 hsg D1 hle hR hRd NB hnb HLE hx hSd hSz
        generalize digL 16 6 q = o at *
        go_enter Tryz.func22, Tryz.ntmps22
        go_wp2_with (first
          | (go_at_call 35; refine CP2.out.mono ?_; rintro e w2 ⟨rfl, hw2⟩; replace hw2 := hw2.symm; subst hw2)
          | (go_at_call 36; refine HD.out.mono ?_; rintro e w3 ⟨rfl, hb3⟩; have HB3 := Lib.hid hb3; clear hb3)
          | (go_at_call 37; refine (N1.out _ HB3.out).mono ?_; rintro e w4 ⟨⟨x, rfl, hx⟩, hb4⟩; have HB4 := Lib.hid hb4; have HX := Lib.hid hx; clear hb4 hx))
        go_ret2
        refine ⟨⟨x, by rw [Option.isSome_map]; rfl, fun t ht => ?_⟩, HB3.out.trans (HB4.out.mono HB3.out.size)⟩
        obtain ⟨v, hv, rfl⟩ := Option.map_eq_some_iff.1 ht
        exact HX.out v hv
      · rw [decide_eq_false hx] at hbx
        have hnb : numbL (c :: q) = digL 10 7 (c :: q) := by rw [show numbL (c :: q) = if c = 120 ∨ c = 88 then digL 16 6 q else digL 10 7 (c :: q) from rfl, if_neg hx]
        rw [hnb] at HLE ⊢
        have D1 := DG 10 7 10 7 (.inl ⟨rfl, rfl, rfl, rfl⟩) R hRz w (Below.refl _ _)
        rw [hRd] at D1
        have HD := Lib.hid D1
        have N1 := Lib.hid (fun W h => NB.out (digL 10 7 (c :: q)) HLE.out W h)
        clear DG hG CP hr e1 e2 hsg D1 hle hR hRd NB hnb HLE hx
        generalize digL 10 7 (c :: q) = o at *
        go_enter Tryz.func22, Tryz.ntmps22
        go_wp2_with (first
          | (go_at_call 35; refine CP2.out.mono ?_; rintro e w2 ⟨rfl, hw2⟩; replace hw2 := hw2.symm; subst hw2)
          | (go_at_call 36; refine HD.out.mono ?_; rintro e w3 ⟨rfl, hb3⟩; have HB3 := Lib.hid hb3; clear hb3)
          | (go_at_call 37; refine (N1.out _ HB3.out).mono ?_; rintro e w4 ⟨⟨x, rfl, hx⟩, hb4⟩; have HB4 := Lib.hid hb4; have HX := Lib.hid hx; clear hb4 hx))
        go_ret2
        refine ⟨⟨x, by rw [Option.isSome_map]; rfl, fun t ht => ?_⟩, HB3.out.trans (HB4.out.mono HB3.out.size)⟩
        obtain ⟨v, hv, rfl⟩ := Option.map_eq_some_iff.1 ht
        exact HX.out v hv
  · have e1 : Lib.hasPrefix s.data.toList [35] = false := by
      cases hd : s.data.toList with
      | nil => rfl
      | cons c r =>
        rw [trim_hash, beq_eq_false_iff_ne]
        rintro rfl
        exact h35 ⟨r, hd⟩
    have hsg : signL s.data.toList = (nameL s.data.toList).map Lib.encodeRune := by
      cases hd : s.data.toList with
      | nil => rfl
      | cons c r =>
        rw [show signL (c :: r) = if c = 35 then (numbL r).map numL else (nameL (c :: r)).map Lib.encodeRune from rfl, if_neg]
        rintro rfl
        exact h35 ⟨r, hd⟩
    rw [e1] at CP
    rw [hsg]
    obtain ⟨bm, _, hc, hl⟩ := hG.names
    obtain ⟨l1, l2⟩ := hl w rfl s hs
    have CP2 := Lib.hid CP
    clear hG hl CP e1 hsg h35
    cases hn : nameL s.data.toList with
    | some c =>
      have q := l1 c hn
      have e3 := enc_str c
      have E3 := Lib.hid e3
      clear l1 l2 hn e3
      go_enter Tryz.func22, Tryz.ntmps22
      go_wp2_with (go_at_call 35; refine CP2.out.mono ?_; rintro e w2 ⟨rfl, rfl⟩)
      go_ret2
      refine ⟨⟨_, rfl, fun t ht => ?_⟩, Below.refl _ _⟩
      cases ht
      exact E3.out
    | none =>
      have q := l2 hn
      clear l1 l2 hn
      go_enter Tryz.func22, Tryz.ntmps22
      go_wp2_with (go_at_call 35; refine CP2.out.mono ?_; rintro e w2 ⟨rfl, rfl⟩)
      go_ret2
      exact ⟨⟨_, rfl, fun t ht => by cases ht⟩, Below.refl _ _⟩
theorem std_cut (c : UInt8) (l : List UInt8) : (cutL c l = none → Go.Proofs.YtkfcbafjcjmfnaaGreatDoor.cutL c l = (l, [], false)) ∧ (∀ a b, cutL c l = some (a, b) → Go.Proofs.YtkfcbafjcjmfnaaGreatDoor.cutL c l = (a, b, true)) := by
  constructor
  · intro h
    unfold Go.Proofs.YtkfcbafjcjmfnaaGreatDoor.cutL
    rw [if_neg ((cutL_none c l).1 h)]
  · intro a b h
    obtain ⟨rfl, hn⟩ := (cutL_some c l a b).1 h
    unfold Go.Proofs.YtkfcbafjcjmfnaaGreatDoor.cutL
    rw [if_pos (by simp)]
    have h1 : (a ++ c :: b).takeWhile (· != c) = a := takeWhile_ends _ a b c (fun x hx => by simp; rintro rfl; exact hn hx) (by simp)
    have h2 : (a ++ c :: b).dropWhile (· != c) = c :: b := by
      have h3 := List.takeWhile_append_dropWhile (p := (· != c)) (l := a ++ c :: b)
      rw [h1] at h3
      exact List.append_cancel_left h3
    rw [h1, h2]; rfl
theorem cut_c (s : ByteArray) (c : UInt8) (hs : s.size ≤ 10000000) (w : World) :
    Calls Tryz.prog 19 #[.string s, .string ⟨#[c]⟩] w fun e w' => e = .returned (.tuple #[.string ⟨(Go.Proofs.YtkfcbafjcjmfnaaGreatDoor.cutL c s.data.toList).1.toArray⟩, .string ⟨(Go.Proofs.YtkfcbafjcjmfnaaGreatDoor.cutL c s.data.toList).2.1.toArray⟩, .bool (Go.Proofs.YtkfcbafjcjmfnaaGreatDoor.cutL c s.data.toList).2.2]) ∧ Below w.heap.size w w' :=
  strings_Cut.calls s ⟨#[c]⟩ _ _ _ w (guard_of ⟨rfl, by omega⟩)
theorem dec_ahead : ∀ (a l : List UInt8), (38 : UInt8) ∉ a → dec 0 (a ++ l) = a ++ dec 0 l
  | [], l, _ => rfl
  | c :: a, l, h => by
    simp at h
    rw [List.cons_append, dec_plain c _ (fun e => h.1 e.symm), dec_ahead a l h.2]; rfl
def sizeOf (v : Value) : Nat := match v with | .string s => s.size | _ => 0
set_option maxRecDepth 100000 in
set_option maxHeartbeats 8000000 in
theorem Decode_c (s : ByteArray) (hs : s.size ≤ 1000000) (w : World) (hGl : GlobE w) :
    Calls Tryz.prog 12 #[.string s] w fun e w' => e = .returned (.string ⟨(dec 0 s.data.toList).toArray⟩) ∧ Below w.heap.size w w' := by
  have WS : ∀ (acc : List UInt8) (x : ByteArray) (W : World), IsBuilderF 31 5 w.heap.size w.heap.size (byteCells acc) W → acc.length + x.size ≤ 100000000000000 → w.heap.size ≤ W.heap.size →
      Calls Tryz.prog 20 #[.pointer (some ⟨w.heap.size, 0, none⟩), .string x] W fun e w' => e = .returned (.tuple #[.int .i64 x.size, .nilIface]) ∧ (IsBuilderF 31 5 w.heap.size w.heap.size (byteCells (acc ++ x.data.toList)) w' ∧ Below w.heap.size W w') := by
    intro acc x W h h1 h2
    refine (Bld.WriteString_k _ _ _ x W h (by rw [byteCells_length]; omega) h2).mono ?_
    rintro e w' ⟨rfl, k1, k2, _⟩
    exact ⟨rfl, by rw [byteCells_append]; exact k1, k2⟩
  have WB : ∀ (acc : List UInt8) (W : World), IsBuilderF 31 5 w.heap.size w.heap.size (byteCells acc) W → acc.length + 1 ≤ 100000000000000 → w.heap.size ≤ W.heap.size →
      Calls Tryz.prog 23 #[.pointer (some ⟨w.heap.size, 0, none⟩), .int .u8 38] W fun e w' => e = .returned .nilIface ∧ (IsBuilderF 31 5 w.heap.size w.heap.size (byteCells (acc ++ [38])) w' ∧ Below w.heap.size W w') := by
    intro acc W h h1 h2
    refine (Bld.WriteByte_k _ _ _ 38 W h (by rw [byteCells_length]; omega) h2).mono ?_
    rintro e w' ⟨rfl, k1, k2, _⟩
    exact ⟨rfl, by rw [byteCells_append]; exact k1, k2⟩
  have HWS := Lib.hid WS; have HWB := Lib.hid WB
  have GL := Lib.hid hGl
  clear WS WB hGl
  go_enter Tryz.func12, Tryz.ntmps12
  go_wp2
  go_loopw [0] (fun sv wr => ∃ (S : ByteArray) (done : List UInt8), sv = .string S ∧ S.size ≤ s.size ∧ done ++ dec 0 S.data.toList = dec 0 s.data.toList ∧ IsBuilderF 31 5 w.heap.size w.heap.size (byteCells done) wr ∧ Below w.heap.size w wr) (fun sv _ => sizeOf sv)
  case atStart => exact ⟨s, [], rfl, Nat.le_refl _, rfl, IsBuilderF.of (Lib.fresh_isBuilder 31 5 w), (Below.refl _ w).alloc (Nat.le_refl _) _⟩
  case round =>
    obtain ⟨S, done, rfl, hS, he, hI, hB⟩ := hrel
    have hdl : done.length ≤ 1000000 := by
      have h := congrArg List.length he
      have h2 := dec_len _ s.data.toList (Nat.le_refl _)
      have h3 : s.data.toList.length = s.size := by simp
      rw [List.length_append] at h
      omega
    have HE := Lib.hid he; have HI := Lib.hid hI; have HB := Lib.hid hB
    have hSl : S.data.toList.length = S.size := by simp
    have C1 := Lib.hid (cut_c S 38 (by omega) wr)
    obtain ⟨k1, k2⟩ := std_cut 38 S.data.toList
    clear he hI hB
    cases hc : cutL 38 S.data.toList with
    | none =>
      rw [k1 hc] at C1
      simp only [mk_back] at C1
      have hm := (cutL_none 38 _).1 hc
      have hE2 : done ++ S.data.toList = dec 0 s.data.toList := by rw [← HE.out, dec_same _ hm]
      have HE2 := Lib.hid hE2
      clear k1 k2 hc hm hE2
      go_wp2_with (first
        | (go_at_call 19; refine C1.out.mono ?_; rintro e W1 ⟨rfl, b1⟩; have B1 := Lib.hid b1; clear b1)
        | (go_at_call 20; refine (HWS.out done _ _ (IsBuilderF.below HI.out B1.out) (by first | omega | (rw [mk_size]; omega)) (HB.out.trans (B1.out.mono HB.out.size)).size).mono ?_; rintro e W2 ⟨rfl, k1, k2⟩; have K1 := Lib.hid k1; have K2 := Lib.hid ((HB.out.trans (B1.out.mono HB.out.size)).trans k2); clear k1 k2)
        | (go_at_call 21; refine (Tryz.Builder_String_any_k w.heap.size w.heap.size _ _ K1.out K2.out.size).mono ?_; rintro e W3 ⟨rfl, _, b3, _⟩; have B3 := Lib.hid b3; clear b3))
      go_ret
      exact ⟨by rw [← HE2.out]; rfl, K2.out.trans B3.out⟩
    | some p =>
      obtain ⟨a, r⟩ := p
      rw [k2 a r hc] at C1
      obtain ⟨hSd, hna⟩ := (cutL_some 38 _ a r).1 hc
      have hlen := congrArg List.length hSd
      rw [hSl, List.length_append, List.length_cons] at hlen
      have hE2 : done ++ a ++ dec 0 (38 :: r) = dec 0 s.data.toList := by rw [← HE.out, hSd, dec_ahead a _ hna, List.append_assoc]
      obtain ⟨A, hA⟩ : ∃ A : ByteArray, ⟨a.toArray⟩ = A := ⟨_, rfl⟩
      obtain ⟨R, hR⟩ : ∃ R : ByteArray, ⟨r.toArray⟩ = R := ⟨_, rfl⟩
      have hAd : A.data.toList = a := by rw [← hA]
      have hRd : R.data.toList = r := by rw [← hR]
      have hAz : A.size = a.length := by rw [← hA, mk_size]
      have hRz : R.size = r.length := by rw [← hR, mk_size]
      simp only [hA, hR] at C1
      have C2 := fun W => cut_c R 59 (by omega) W
      rw [hRd] at C2
      obtain ⟨k3, k4⟩ := std_cut 59 r
      cases hc2 : cutL 59 r with
      | none =>
        have h1 : oneL r = none := by unfold oneL; rw [hc2]
        have hN : (done ++ A.data.toList ++ [38]) ++ dec 0 R.data.toList = dec 0 s.data.toList := by rw [← hE2, dec_none r h1, hAd, hRd]; simp
        rw [k3 hc2, ← hRd] at C2
        have CC := Lib.hid C2; have HN := Lib.hid hN
        have SC := Lib.hid (fun W h => sign_c R (by omega) W h)
        have hal : A.size + R.size + 1 = S.size := by omega
        have hdA : (done ++ A.data.toList).length ≤ 3000000 := by rw [List.length_append, hAd]; omega
        clear k1 k2 k3 k4 hc hc2 hna hSd hE2 hA hR hAd hRd h1 hN C2 hlen hSl
        go_wp2_with (first
          | (go_at_call 19; first
              | (with_reducible refine C1.out.mono ?_; rintro e W1 ⟨rfl, b1⟩; have B1 := Lib.hid (HB.out.trans (b1.mono HB.out.size)); have I1 := Lib.hid (IsBuilderF.below HI.out b1); clear b1)
              | (with_reducible refine (CC.out _).mono ?_; rintro e W3 ⟨rfl, b3⟩; have B3 := Lib.hid (B2.out.trans (b3.mono B2.out.size)); have I3 := Lib.hid (IsBuilderF.below I2.out b3); clear b3))
          | (go_at_call 20; refine (HWS.out done _ _ I1.out (by omega) B1.out.size).mono ?_; rintro e W2 ⟨rfl, k1, k2⟩; have I2 := Lib.hid k1; have B2 := Lib.hid (B1.out.trans k2); clear k1 k2)
          | (go_at_call 22; refine (SC.out _ (GL.out.below B3.out)).mono ?_; rintro e W4 ⟨⟨x, rfl, _⟩, b4⟩; have B4 := Lib.hid (B3.out.trans (b4.mono B3.out.size)); have I4 := Lib.hid (IsBuilderF.below I3.out b4); clear b4)
          | (go_at_call 23; refine (HWB.out _ _ I4.out (by omega) B4.out.size).mono ?_; rintro e W5 ⟨rfl, k1, k2⟩; have I5 := Lib.hid k1; have B5 := Lib.hid (B4.out.trans k2); clear k1 k2))
        go_roundw
        case rel => exact ⟨R, _, rfl, by omega, HN.out, I5.out, B5.out⟩
        case measure => simp [sizeOf]; omega
      | some p2 =>
        obtain ⟨nm, r2⟩ := p2
        obtain ⟨hr, hnn⟩ := (cutL_some 59 r nm r2).1 hc2
        have hlen2 := congrArg List.length hr
        rw [List.length_append, List.length_cons] at hlen2
        obtain ⟨M, hM⟩ : ∃ M : ByteArray, ⟨nm.toArray⟩ = M := ⟨_, rfl⟩
        obtain ⟨R2, hR2⟩ : ∃ R : ByteArray, ⟨r2.toArray⟩ = R := ⟨_, rfl⟩
        have hMd : M.data.toList = nm := by rw [← hM]
        have hR2d : R2.data.toList = r2 := by rw [← hR2]
        have hMz : M.size = nm.length := by rw [← hM, mk_size]
        have hR2z : R2.size = r2.length := by rw [← hR2, mk_size]
        rw [k4 nm r2 hc2] at C2
        simp only [hM, hR2] at C2
        have CC := Lib.hid C2
        have hal : A.size + R.size + 1 = S.size := by omega
        have hdA : (done ++ A.data.toList).length ≤ 3000000 := by rw [List.length_append, hAd]; omega
        have ho : oneL r = (signL nm).map fun t => (t, nm.length + 1) := by unfold oneL; rw [hc2]
        have SC := fun W h => sign_c M (by omega) W h
        rw [hMd] at SC
        cases hsg : signL nm with
        | none =>
          have hN : (done ++ A.data.toList ++ [38]) ++ dec 0 R.data.toList = dec 0 s.data.toList := by rw [← hE2, dec_none r (by rw [ho, hsg]; rfl), hAd, hRd]; simp
          rw [hsg] at SC
          have HSC := Lib.hid SC; have HN := Lib.hid hN
          clear k1 k2 k3 k4 hc hc2 hna hSd hE2 hA hR hAd hRd hN C2 hlen hSl hr hnn hlen2 hM hR2 hMd hR2d hMz hR2z ho SC hsg
          go_wp2_with (first
            | (go_at_call 19; first
                | (with_reducible refine C1.out.mono ?_; rintro e W1 ⟨rfl, b1⟩; have B1 := Lib.hid (HB.out.trans (b1.mono HB.out.size)); have I1 := Lib.hid (IsBuilderF.below HI.out b1); clear b1)
                | (with_reducible refine (CC.out _).mono ?_; rintro e W3 ⟨rfl, b3⟩; have B3 := Lib.hid (B2.out.trans (b3.mono B2.out.size)); have I3 := Lib.hid (IsBuilderF.below I2.out b3); clear b3))
            | (go_at_call 20; refine (HWS.out done _ _ I1.out (by omega) B1.out.size).mono ?_; rintro e W2 ⟨rfl, k1, k2⟩; have I2 := Lib.hid k1; have B2 := Lib.hid (B1.out.trans k2); clear k1 k2)
            | (go_at_call 22; refine (HSC.out _ (GL.out.below B3.out)).mono ?_; rintro e W4 ⟨⟨x, rfl, _⟩, b4⟩; have B4 := Lib.hid (B3.out.trans (b4.mono B3.out.size)); have I4 := Lib.hid (IsBuilderF.below I3.out b4); clear b4)
            | (go_at_call 23; refine (HWB.out _ _ I4.out (by omega) B4.out.size).mono ?_; rintro e W5 ⟨rfl, k1, k2⟩; have I5 := Lib.hid k1; have B5 := Lib.hid (B4.out.trans k2); clear k1 k2))
          go_roundw
          case rel => exact ⟨R, _, rfl, by omega, HN.out, I5.out, B5.out⟩
          case measure => simp [sizeOf]; omega
        | some t =>
          have hN : (done ++ A.data.toList ++ t) ++ dec 0 R2.data.toList = dec 0 s.data.toList := by
            rw [← hE2, dec_some r t (nm.length + 1) (by rw [ho, hsg]; rfl), hAd, hR2d, hr]
            have : (nm ++ 59 :: r2).drop (nm.length + 1) = r2 := by
              rw [show nm ++ 59 :: r2 = (nm ++ [59]) ++ r2 from by simp]
              exact List.drop_left' (by simp)
            rw [this]; simp
          have htl := signL_len nm t hsg
          obtain ⟨T, hT⟩ : ∃ T : ByteArray, ⟨t.toArray⟩ = T := ⟨_, rfl⟩
          have hTd : T.data.toList = t := by rw [← hT]
          have hTz : T.size = t.length := by rw [← hT, mk_size]
          have SC2 : ∀ W, GlobE W → Calls Tryz.prog 22 #[.string M] W fun e w' => e = .returned (.tuple #[.string T, .bool true]) ∧ Below W.heap.size W w' := fun W h => (SC W h).mono (by
            rintro e w' ⟨⟨x, rfl, hx⟩, hb⟩
            rw [hx t hsg, hT, hsg]
            exact ⟨rfl, hb⟩)
          rw [← hTd] at hN
          have HSC := Lib.hid SC2; have HN := Lib.hid hN
          have hTz2 : T.size ≤ 1000002 := by omega
          have hR2S : R2.size < S.size := by omega
          clear k1 k2 k3 k4 hc hc2 hna hSd hE2 hA hR hAd hRd hN C2 hlen hSl hr hnn hlen2 hM hR2 hMd hR2d hMz hR2z ho SC SC2 hsg htl hT hTd hTz
          go_wp2_with (first
            | (go_at_call 19; first
                | (with_reducible refine C1.out.mono ?_; rintro e W1 ⟨rfl, b1⟩; have B1 := Lib.hid (HB.out.trans (b1.mono HB.out.size)); have I1 := Lib.hid (IsBuilderF.below HI.out b1); clear b1)
                | (with_reducible refine (CC.out _).mono ?_; rintro e W3 ⟨rfl, b3⟩; have B3 := Lib.hid (B2.out.trans (b3.mono B2.out.size)); have I3 := Lib.hid (IsBuilderF.below I2.out b3); clear b3))
            | (go_at_call 20; first
                | (with_reducible refine (HWS.out _ T _ I4.out (by omega) B4.out.size).mono ?_; rintro e W5 ⟨rfl, k1, k2⟩; have I5 := Lib.hid k1; have B5 := Lib.hid (B4.out.trans k2); clear k1 k2)
                | (with_reducible refine (HWS.out done A _ I1.out (by omega) B1.out.size).mono ?_; rintro e W2 ⟨rfl, k1, k2⟩; have I2 := Lib.hid k1; have B2 := Lib.hid (B1.out.trans k2); clear k1 k2))
            | (go_at_call 22; refine (HSC.out _ (GL.out.below B3.out)).mono ?_; rintro e W4 ⟨rfl, b4⟩; have B4 := Lib.hid (B3.out.trans (b4.mono B3.out.size)); have I4 := Lib.hid (IsBuilderF.below I3.out b4); clear b4))
          go_roundw
          case rel => exact ⟨R2, _, rfl, by omega, HN.out, I5.out, B5.out⟩
          case measure => simp [sizeOf]; omega
theorem quo_same : ∀ (l : List UInt8), (34 : UInt8) ∉ l → quo l = l
  | [], _ => rfl
  | c :: r, h => by
    simp at h
    rw [quo_cons, quo_same r h.2]
    unfold qq
    rw [if_neg (fun e => h.1 e.symm)]
    rfl
theorem index_at (c : UInt8) (a b : List UInt8) (h : c ∉ a) : Lib.index (a ++ c :: b) [c] = (a.length : Int) := by
  obtain ⟨h1, _⟩ := index_split c (a ++ c :: b)
  obtain ⟨i, e1, e2, e3, _⟩ := h1 (by simp)
  have e4 : (a ++ c :: b).takeWhile (· != c) = a := takeWhile_ends _ a b c (fun x hx => by simp; rintro rfl; exact h hx) (by simp)
  rw [e4] at e3
  have : i = a.length := by
    have := congrArg List.length e3
    rw [List.length_take] at this
    omega
  rw [Lib.index_one, e1, this]
theorem replaceK_quo : ∀ (n : Nat) (l : List UInt8), l.length ≤ n → Lib.replaceK [34] [38, 113, 117, 111, 116, 59] (Lib.count l [34]) l = quo l
  | n, l, hn => by
    cases hc : cutL 34 l with
    | none =>
      have hm := (cutL_none 34 l).1 hc
      have hi : Lib.index l [34] = -1 := by rw [Lib.index_one]; exact (index_split 34 l).2 hm
      rw [Lib.count_miss hi, quo_same l hm]
      rfl
    | some p =>
      obtain ⟨a, b⟩ := p
      obtain ⟨rfl, hna⟩ := (cutL_some 34 l a b).1 hc
      have hi := index_at 34 a b hna
      rw [Lib.count_hit (by simp) hi, Nat.add_comm 1, Lib.replaceK_hit _ _ _ _ _ hi]
      have hd : (a ++ 34 :: b).drop (a.length + [(34 : UInt8)].length) = b := by
        rw [show a ++ 34 :: b = (a ++ [34]) ++ b from by simp]
        exact List.drop_left' (by simp)
      have ht : (a ++ 34 :: b).take a.length = a := List.take_left' rfl
      rw [hd, ht]
      match n, hn with
      | 0, hn => simp at hn
      | n + 1, hn =>
        rw [replaceK_quo n b (by simp at hn; omega), quo_append, quo_same a hna]
        simp [quo_cons, qq]
theorem replaceAll_quo (l : List UInt8) : Lib.replaceAll l [34] [38, 113, 117, 111, 116, 59] = quo l := by
  unfold Lib.replaceAll Lib.replace
  rw [if_neg (by decide)]
  unfold Lib.replaceNum
  rw [if_pos (.inl (by decide))]
  exact replaceK_quo _ l (Nat.le_refl _)
theorem esc_le (s : ByteArray) : (esc 0 s.data.toList).length ≤ 6 * s.size := by
  have := esc_len _ s.data.toList (Nat.le_refl _)
  simpa using this
set_option maxRecDepth 100000 in
set_option maxHeartbeats 4000000 in
theorem Value_c (s : ByteArray) (hs : s.size ≤ 1000000) (w : World) (hGl : GlobE w) :
    Calls Tryz.prog 16 #[.string s] w fun e w' => e = .returned (.string ⟨(quo (esc 0 s.data.toList)).toArray⟩) ∧ Below w.heap.size w w' := by
  have hl := esc_le s
  have TX := Lib.hid (Text_c s w hs)
  obtain ⟨X, hX⟩ : ∃ X : ByteArray, ⟨(esc 0 s.data.toList).toArray⟩ = X := ⟨_, rfl⟩
  have hXd : X.data.toList = esc 0 s.data.toList := by rw [← hX]
  have hXz : X.size ≤ 6000000 := by rw [← hX, mk_size]; omega
  have hcm := Lib.countB_mul_le ⟨#[34]⟩ (by decide) X.size X (Nat.le_refl _)
  rw [show (⟨#[34]⟩ : ByteArray).size = 1 from rfl, Nat.mul_one] at hcm
  have RA : ∀ (W : World), Below w.heap.size w W → Calls Tryz.prog 27 #[.string X, .string ⟨#[34]⟩, .string ⟨#[38, 113, 117, 111, 116, 59]⟩] W fun e w' => e = .returned (.string ⟨(quo (esc 0 s.data.toList)).toArray⟩) ∧ Below W.heap.size W w' := fun W h => by
    obtain ⟨m, hm⟩ := ((hGl.below h).g).maxl
    have h := Tryz.strings_ReplaceAll X ⟨#[34]⟩ ⟨#[38, 113, 117, 111, 116, 59]⟩ m W (by omega) hm (by decide) (by rw [show (⟨#[38, 113, 117, 111, 116, 59]⟩ : ByteArray).size = 6 from rfl]; omega)
    rw [show (⟨#[34]⟩ : ByteArray).data.toList = [34] from rfl, show (⟨#[38, 113, 117, 111, 116, 59]⟩ : ByteArray).data.toList = [38, 113, 117, 111, 116, 59] from rfl, replaceAll_quo, hXd] at h
    exact h
  rw [hX] at TX
  have HRA := Lib.hid RA
  clear RA hX hXd hXz hcm hl hGl hs
  go_enter Tryz.func16, Tryz.ntmps16
  go_wp2_with (first
    | (go_at_call 14; refine TX.out.mono ?_; rintro e W1 ⟨rfl, b1⟩; have B1 := Lib.hid b1; clear b1)
    | (go_at_call 27; refine (HRA.out _ B1.out).mono ?_; rintro e W2 ⟨rfl, b2⟩; have B2 := Lib.hid b2; clear b2))
  go_ret
  exact ⟨rfl, B1.out.trans (B2.out.mono B1.out.size)⟩
end Go.Proofs.YtkfcbafjcjmfnaaGreatDoor.Ent
namespace Go.Proofs.YtkfcbafjcjmfnaaGreatDoor.Alph
open Go.RowKit Go.Lib Go.Proofs.YtkfcbafjcjmfnaaGreatDoor Go.Proofs.YtkfcbafjcjmfnaaGreatDoor.C Go.Proofs.YtkfcbafjcjmfnaaGreatDoor.Pure
set_option linter.unusedVariables false
theorem known_c (a : ByteArray) (ha : a.size ≤ 5000) (w : World) : Calls Tryz.prog 67 #[.string a] w fun e w' => e = .returned (.tuple #[.string (knownL (labelL a)).1, .bool (knownL (labelL a)).2]) ∧ Below w.heap.size w w' := by
  obtain ⟨r, h⟩ := known_is a ha
  exact chars_Known.calls r a _ _ w (h r (Nat.le_refl _))
theorem decode_c (a s : ByteArray) (ha : a.size ≤ 5000) (hs : s.size ≤ 11000000) (w : World) (hGl : Glob w) : Calls Tryz.prog 48 #[.string a, .string s] w fun e w' => e = .returned (.tuple #[.string ⟨(decL (knownL (labelL a)).1 s.data.toList).toArray⟩, .bool (knownL (labelL a)).2]) ∧ Below w.heap.size w w' := by
  obtain ⟨r, h⟩ := decode_is a s ha hs
  exact chars_Decode.calls r a s _ _ w hGl (h r (Nat.le_refl _))
end Go.Proofs.YtkfcbafjcjmfnaaGreatDoor.Alph
namespace Go.Proofs.YtkfcbafjcjmfnaaGreatDoor
open Go.RowKit Go.Lib Go.Proofs.YtkfcbafjcjmfnaaGreatDoor.Pure
set_option linter.unusedVariables false
def chars_Known.f (a : ByteArray) : Option (ByteArray × Bool) := if a.size ≤ 5000 then some (knownL (labelL a)) else none
theorem chars_Known.calls (a r1 : ByteArray) (r2 : Bool) (w : World) (h : chars_Known.f a = some (r1, r2)) :
    Calls Tryz.prog 67 #[.string a] w fun e w' => e = .returned (.tuple #[.string r1, .bool r2]) ∧ Below w.heap.size w w' := by
  obtain ⟨h1, h2⟩ := of_guard h
  have := Alph.known_c a h1 w
  rw [h2] at this; exact this
def chars_Decode.f (a s : ByteArray) : Option (ByteArray × Bool) := if a.size ≤ 5000 ∧ s.size ≤ 11000000 then some (⟨(decL (knownL (labelL a)).1 s.data.toList).toArray⟩, (knownL (labelL a)).2) else none
theorem chars_Decode.calls (a s r1 : ByteArray) (r2 : Bool) (w : World) (hGl : Glob w) (h : chars_Decode.f a s = some (r1, r2)) :
    Calls Tryz.prog 48 #[.string a, .string s] w fun e w' => e = .returned (.tuple #[.string r1, .bool r2]) ∧ Below w.heap.size w w' := by
  obtain ⟨⟨h1, h2⟩, h3⟩ := of_guard h
  injection h3 with h4 h5
  subst h4 h5
  exact Alph.decode_c a s h1 h2 w hGl
end Go.Proofs.YtkfcbafjcjmfnaaGreatDoor
namespace Go.Proofs.YtkfcbafjcjmfnaaGreatDoor
open Go.RowKit Go.Lib Go.Proofs.YtkfcbafjcjmfnaaGreatDoor.Pure Go.Proofs.YtkfcbafjcjmfnaaGreatDoor.Ent
set_option linter.unusedVariables false
def ent_Decode.f (s : ByteArray) : Option ByteArray := if s.size ≤ 1000000 then some ⟨(Ent.dec 0 s.data.toList).toArray⟩ else none
theorem ent_Decode.calls (s r : ByteArray) (w : World) (hGl : GlobE w) (h : ent_Decode.f s = some r) :
    Calls Tryz.prog 12 #[.string s] w fun e w' => e = .returned (.string r) ∧ Below w.heap.size w w' := by
  obtain ⟨h1, rfl⟩ := of_guard h
  exact Ent.Decode_c s h1 w hGl
def ent_Text.f (s : ByteArray) : Option ByteArray := if s.size ≤ 1000000 then some ⟨(Gen.esc 0 s.data.toList).toArray⟩ else none
theorem ent_Text.calls (s r : ByteArray) (w : World) (h : ent_Text.f s = some r) :
    Calls Tryz.prog 14 #[.string s] w fun e w' => e = .returned (.string r) ∧ Below w.heap.size w w' := by
  obtain ⟨h1, rfl⟩ := of_guard h
  exact Gen.Text_c s w h1
def ent_Value.f (s : ByteArray) : Option ByteArray := if s.size ≤ 1000000 then some ⟨(Ent.quo (Gen.esc 0 s.data.toList)).toArray⟩ else none
theorem ent_Value.calls (s r : ByteArray) (w : World) (hGl : GlobE w) (h : ent_Value.f s = some r) :
    Calls Tryz.prog 16 #[.string s] w fun e w' => e = .returned (.string r) ∧ Below w.heap.size w w' := by
  obtain ⟨h1, rfl⟩ := of_guard h
  exact Ent.Value_c s h1 w hGl
end Go.Proofs.YtkfcbafjcjmfnaaGreatDoor
namespace Go.Proofs.YtkfcbafjcjmfnaaGreatDoor.E
open Go.RowKit Go.Proofs.YtkfcbafjcjmfnaaGreatDoorW.PrintWords Go.Proofs.YtkfcbafjcjmfnaaGreatDoorW.PrintLast Go.Proofs.YtkfcbafjcjmfnaaGreatDoorW.PrintMore
attribute [local go_sem] max2_int min2_int max_two min_two max_three min_three max_four min_four
set_option linter.unusedVariables false
set_option linter.unusedSimpArgs false
def errW : Option Int → Value
  | none => .nilIface
  | some c => .iface 0 (.int .i64 c)
theorem errW_none : errW none = .nilIface := rfl
theorem errW_some (c : Int) : errW (some c) = .iface 0 (.int .i64 c) := rfl
theorem info5 : (Tryz.prog.info? 5).map (fun i => (i.zero, i.size, i.bytes)) = some (some (.int .u8 0), 1, 1) := by kernel_rfl
end Go.Proofs.YtkfcbafjcjmfnaaGreatDoor.E
namespace Go.Proofs.YtkfcbafjcjmfnaaGreatDoor.Ent
open Go.RowKit Go.Lib Go.Proofs.YtkfcbafjcjmfnaaGreatDoor Go.Proofs.YtkfcbafjcjmfnaaGreatDoor.E Go.Proofs.YtkfcbafjcjmfnaaGreatDoor.Gen Go.Proofs.YtkfcbafjcjmfnaaGreatDoor.Num Go.Proofs.YtkfcbafjcjmfnaaGreatDoor.Pure
set_option linter.unusedVariables false
set_option linter.unusedSimpArgs false
def resV (p : List UInt8 × Nat) : Value := .tuple #[.string ⟨p.1.toArray⟩, .int .i64 (p.2 : Int)]
attribute [local irreducible] resV
end Go.Proofs.YtkfcbafjcjmfnaaGreatDoor.Ent
namespace Go.Proofs.YtkfcbafjcjmfnaaGreatDoor.P
open Go.RowKit Go.Proofs.YtkfcbafjcjmfnaaGreatDoorW.PrintWords Go.Proofs.YtkfcbafjcjmfnaaGreatDoorW.PrintLast Go.Proofs.YtkfcbafjcjmfnaaGreatDoorW.PrintMore
attribute [local go_sem] max2_int min2_int max_two min_two max_three min_three max_four min_four
set_option linter.unusedVariables false
set_option linter.unusedSimpArgs false
def errW : Option Int → Value
  | none => .nilIface
  | some c => .iface 0 (.int .i64 c)
theorem errW_none : errW none = .nilIface := rfl
theorem errW_some (c : Int) : errW (some c) = .iface 0 (.int .i64 c) := rfl
theorem info5 : (Tryz.prog.info? 5).map (fun i => (i.zero, i.size, i.bytes)) = some (some (.int .u8 0), 1, 1) := by kernel_rfl
end Go.Proofs.YtkfcbafjcjmfnaaGreatDoor.P
namespace Go.Proofs.YtkfcbafjcjmfnaaGreatDoor.P
open Go.RowKit Go.Proofs.YtkfcbafjcjmfnaaGreatDoorW.PrintWords Go.Proofs.YtkfcbafjcjmfnaaGreatDoorW.PrintLast Go.Proofs.YtkfcbafjcjmfnaaGreatDoorW.PrintMore
attribute [local go_sem] max2_int min2_int max_two min_two max_three min_three max_four min_four
set_option linter.unusedVariables false
set_option linter.unusedSimpArgs false
def muslinlaw12_short.f (a0 : ByteArray) : Option (Bool) := some (decide ((a0.size : Int) ≤ 5000))
set_option maxHeartbeats 8000000 in
set_option maxRecDepth 100000 in
theorem muslinlaw12_short.calls (a0 : ByteArray) (r : Bool) (w : World) (h : muslinlaw12_short.f a0 = some r) :
    Calls Tryz.prog 10 #[.string a0] w fun e w' => e = .returned (.bool r) ∧ Drawn0 w w' := by
  have H : (some (decide ((a0.size : Int) ≤ 5000))) = some r := h; clear h; obtain rfl := Option.some.inj H
  go_enter Tryz.func10, Tryz.ntmps10
  go_wp2
  go_ret
  exact ⟨by first | rfl | (simp; done) | (simp [*]; done), by repeat (first | exact Drawn0.refl _ | apply Drawn0.step)⟩
def muslinlaw12_live.f  : Option (Bool) := (ent_Decode.f (⟨#[38, 108, 116, 59, 38, 35, 54, 53, 59, 38, 35, 120, 52, 50, 59, 38, 120, 59, 38, 97, 109, 112, 38, 110, 98, 115, 112, 59, 38, 35, 49, 50, 56, 59, 38, 35, 48, 59]⟩ : ByteArray)).bind fun t101 => (if t101.toList = ([60, 65, 66, 38, 120, 59, 38, 97, 109, 112, 194, 160, 226, 130, 172, 239, 191, 189] : List UInt8) then ((ent_Text.f (⟨#[97, 60, 98, 38, 34, 194, 160]⟩ : ByteArray)).bind fun t102 => (if t102.toList = ([97, 38, 108, 116, 59, 98, 38, 97, 109, 112, 59, 34, 38, 110, 98, 115, 112, 59] : List UInt8) then ((ent_Value.f (⟨#[34, 62]⟩ : ByteArray)).bind fun t103 => (some (t103.toList == ([38, 113, 117, 111, 116, 59, 38, 103, 116, 59] : List UInt8)))) else (some false))) else (some false))
set_option maxHeartbeats 8000000 in
set_option maxRecDepth 100000 in
theorem muslinlaw12_live.calls  (r : Bool) (w : World) (hGl : Ent.GlobE w) (h : muslinlaw12_live.f  = some r) :
    Calls Tryz.prog 11 #[] w fun e w' => e = .returned (.bool r) ∧ Below w.heap.size w w' := by
  have HGl := Aside0.mk hGl; clear hGl; have HB := Aside0.mk (Below.refl w.heap.size w); have H : ((ent_Decode.f (⟨#[38, 108, 116, 59, 38, 35, 54, 53, 59, 38, 35, 120, 52, 50, 59, 38, 120, 59, 38, 97, 109, 112, 38, 110, 98, 115, 112, 59, 38, 35, 49, 50, 56, 59, 38, 35, 48, 59]⟩ : ByteArray)).bind fun t101 => (if t101.toList = ([60, 65, 66, 38, 120, 59, 38, 97, 109, 112, 194, 160, 226, 130, 172, 239, 191, 189] : List UInt8) then ((ent_Text.f (⟨#[97, 60, 98, 38, 34, 194, 160]⟩ : ByteArray)).bind fun t102 => (if t102.toList = ([97, 38, 108, 116, 59, 98, 38, 97, 109, 112, 59, 34, 38, 110, 98, 115, 112, 59] : List UInt8) then ((ent_Value.f (⟨#[34, 62]⟩ : ByteArray)).bind fun t103 => (some (t103.toList == ([38, 113, 117, 111, 116, 59, 38, 103, 116, 59] : List UInt8)))) else (some false))) else (some false))) = some r := h; clear h; replace H := Option.bind_eq_some_iff.mp H; obtain ⟨t101, A10, H⟩ := H; replace H : (if t101.toList = ([60, 65, 66, 38, 120, 59, 38, 97, 109, 112, 194, 160, 226, 130, 172, 239, 191, 189] : List UInt8) then ((ent_Text.f (⟨#[97, 60, 98, 38, 34, 194, 160]⟩ : ByteArray)).bind fun t102 => (if t102.toList = ([97, 38, 108, 116, 59, 98, 38, 97, 109, 112, 59, 34, 38, 110, 98, 115, 112, 59] : List UInt8) then ((ent_Value.f (⟨#[34, 62]⟩ : ByteArray)).bind fun t103 => (some (t103.toList == ([38, 113, 117, 111, 116, 59, 38, 103, 116, 59] : List UInt8)))) else (some false))) else (some false)) = some r := H; have A1 := Aside0.mk A10; clear A10
  by_cases c2 : t101.toList = ([60, 65, 66, 38, 120, 59, 38, 97, 109, 112, 194, 160, 226, 130, 172, 239, 191, 189] : List UInt8)
  case neg =>
    rw [if_neg c2] at H; have c2b0 : (t101.toList == ([60, 65, 66, 38, 120, 59, 38, 97, 109, 112, 194, 160, 226, 130, 172, 239, 191, 189] : List UInt8)) = false := beq_eq_false_iff_ne.mpr c2; have c2b1 : (t101.toList != ([60, 65, 66, 38, 120, 59, 38, 97, 109, 112, 194, 160, 226, 130, 172, 239, 191, 189] : List UInt8)) = true := bne_iff_ne.mpr c2; obtain rfl := Option.some.inj H
    go_enter Tryz.func11, Tryz.ntmps11
    go_wp2_with (first | ((with_reducible refine gate_callee (f := 12) rfl ?_); refine goesL_ (some 1) rfl rfl Tryz.func12 (by kernel_rfl) rfl #[.string (⟨#[38, 108, 116, 59, 38, 35, 54, 53, 59, 38, 35, 120, 52, 50, 59, 38, 120, 59, 38, 97, 109, 112, 38, 110, 98, 115, 112, 59, 38, 35, 49, 50, 56, 59, 38, 35, 48, 59]⟩ : ByteArray)] rfl (by (try simp only [List.map_toArray, List.map_cons, List.map_nil]); first | done | rfl | (simp only [List.length_drop, List.length_take]; rfl)) ?_; (with_reducible refine (ent_Decode.calls (⟨#[38, 108, 116, 59, 38, 35, 54, 53, 59, 38, 35, 120, 52, 50, 59, 38, 120, 59, 38, 97, 109, 112, 38, 110, 98, 115, 112, 59, 38, 35, 49, 50, 56, 59, 38, 35, 48, 59]⟩ : ByteArray) t101 _ ?sideGl A1.out).mono ?_); (case sideGl => exact HGl.out.below (by repeat (first | (with_reducible first | exact HB.out | apply below_alloc | apply pw_below_drewN | apply below_drew1) | exact HB.out))); rintro e w11 ⟨rfl, hb⟩; refine ⟨_, rfl, ?_⟩; have n0_ := Aside0.mk (below_step (by repeat (first | (with_reducible first | exact HB.out | apply below_alloc | apply pw_below_drewN | apply below_drew1) | exact HB.out)) hb); clear HB; have HB := n0_; clear n0_; (try clear hb); (try clear hb2); (try clear hk); (try clear hi)))
    go_ret
    exact ⟨by first | rfl | (simp [errW_none, errW_some] <;> rfl) | (simp [*, errW_none, errW_some] <;> rfl), by repeat (first | (with_reducible first | exact HB.out | apply below_alloc | apply pw_below_drewN | apply below_drew1) | exact HB.out)⟩
  rw [if_pos c2] at H; have c2b0 : (t101.toList == ([60, 65, 66, 38, 120, 59, 38, 97, 109, 112, 194, 160, 226, 130, 172, 239, 191, 189] : List UInt8)) = true := beq_iff_eq.mpr c2; have c2b1 : (t101.toList != ([60, 65, 66, 38, 120, 59, 38, 97, 109, 112, 194, 160, 226, 130, 172, 239, 191, 189] : List UInt8)) = false := bne_eq_false_iff_eq.mpr c2; clear c2; replace H := Option.bind_eq_some_iff.mp H; obtain ⟨t102, A30, H⟩ := H; replace H : (if t102.toList = ([97, 38, 108, 116, 59, 98, 38, 97, 109, 112, 59, 34, 38, 110, 98, 115, 112, 59] : List UInt8) then ((ent_Value.f (⟨#[34, 62]⟩ : ByteArray)).bind fun t103 => (some (t103.toList == ([38, 113, 117, 111, 116, 59, 38, 103, 116, 59] : List UInt8)))) else (some false)) = some r := H; have A3 := Aside0.mk A30; clear A30
  by_cases c4 : t102.toList = ([97, 38, 108, 116, 59, 98, 38, 97, 109, 112, 59, 34, 38, 110, 98, 115, 112, 59] : List UInt8)
  case neg =>
    rw [if_neg c4] at H; have c4b0 : (t102.toList == ([97, 38, 108, 116, 59, 98, 38, 97, 109, 112, 59, 34, 38, 110, 98, 115, 112, 59] : List UInt8)) = false := beq_eq_false_iff_ne.mpr c4; have c4b1 : (t102.toList != ([97, 38, 108, 116, 59, 98, 38, 97, 109, 112, 59, 34, 38, 110, 98, 115, 112, 59] : List UInt8)) = true := bne_iff_ne.mpr c4; obtain rfl := Option.some.inj H
    go_enter Tryz.func11, Tryz.ntmps11
    go_wp2_with (first | ((with_reducible refine gate_callee (f := 12) rfl ?_); refine goesL_ (some 1) rfl rfl Tryz.func12 (by kernel_rfl) rfl #[.string (⟨#[38, 108, 116, 59, 38, 35, 54, 53, 59, 38, 35, 120, 52, 50, 59, 38, 120, 59, 38, 97, 109, 112, 38, 110, 98, 115, 112, 59, 38, 35, 49, 50, 56, 59, 38, 35, 48, 59]⟩ : ByteArray)] rfl (by (try simp only [List.map_toArray, List.map_cons, List.map_nil]); first | done | rfl | (simp only [List.length_drop, List.length_take]; rfl)) ?_; (with_reducible refine (ent_Decode.calls (⟨#[38, 108, 116, 59, 38, 35, 54, 53, 59, 38, 35, 120, 52, 50, 59, 38, 120, 59, 38, 97, 109, 112, 38, 110, 98, 115, 112, 59, 38, 35, 49, 50, 56, 59, 38, 35, 48, 59]⟩ : ByteArray) t101 _ ?sideGl A1.out).mono ?_); (case sideGl => exact HGl.out.below (by repeat (first | (with_reducible first | exact HB.out | apply below_alloc | apply pw_below_drewN | apply below_drew1) | exact HB.out))); rintro e w9 ⟨rfl, hb⟩; refine ⟨_, rfl, ?_⟩; have n0_ := Aside0.mk (below_step (by repeat (first | (with_reducible first | exact HB.out | apply below_alloc | apply pw_below_drewN | apply below_drew1) | exact HB.out)) hb); clear HB; have HB := n0_; clear n0_; (try clear hb); (try clear hb2); (try clear hk); (try clear hi)) | (go_at_call 14; (with_reducible refine (ent_Text.calls (⟨#[97, 60, 98, 38, 34, 194, 160]⟩ : ByteArray) t102 _ A3.out).mono ?_); rintro e w10 ⟨rfl, hb⟩; have n0_ := Aside0.mk (below_step (by repeat (first | (with_reducible first | exact HB.out | apply below_alloc | apply pw_below_drewN | apply below_drew1) | exact HB.out)) hb); clear HB; have HB := n0_; clear n0_; (try clear hb); (try clear hb2); (try clear hk); (try clear hi)))
    go_ret
    exact ⟨by first | rfl | (simp [errW_none, errW_some] <;> rfl) | (simp [*, errW_none, errW_some] <;> rfl), by repeat (first | (with_reducible first | exact HB.out | apply below_alloc | apply pw_below_drewN | apply below_drew1) | exact HB.out)⟩
  rw [if_pos c4] at H; have c4b0 : (t102.toList == ([97, 38, 108, 116, 59, 98, 38, 97, 109, 112, 59, 34, 38, 110, 98, 115, 112, 59] : List UInt8)) = true := beq_iff_eq.mpr c4; have c4b1 : (t102.toList != ([97, 38, 108, 116, 59, 98, 38, 97, 109, 112, 59, 34, 38, 110, 98, 115, 112, 59] : List UInt8)) = false := bne_eq_false_iff_eq.mpr c4; clear c4; replace H := Option.bind_eq_some_iff.mp H; obtain ⟨t103, A50, H⟩ := H; replace H : (some (t103.toList == ([38, 113, 117, 111, 116, 59, 38, 103, 116, 59] : List UInt8))) = some r := H; have A5 := Aside0.mk A50; clear A50; obtain rfl := Option.some.inj H
  go_enter Tryz.func11, Tryz.ntmps11
  go_wp2_with (first | ((with_reducible refine gate_callee (f := 12) rfl ?_); refine goesL_ (some 1) rfl rfl Tryz.func12 (by kernel_rfl) rfl #[.string (⟨#[38, 108, 116, 59, 38, 35, 54, 53, 59, 38, 35, 120, 52, 50, 59, 38, 120, 59, 38, 97, 109, 112, 38, 110, 98, 115, 112, 59, 38, 35, 49, 50, 56, 59, 38, 35, 48, 59]⟩ : ByteArray)] rfl (by (try simp only [List.map_toArray, List.map_cons, List.map_nil]); first | done | rfl | (simp only [List.length_drop, List.length_take]; rfl)) ?_; (with_reducible refine (ent_Decode.calls (⟨#[38, 108, 116, 59, 38, 35, 54, 53, 59, 38, 35, 120, 52, 50, 59, 38, 120, 59, 38, 97, 109, 112, 38, 110, 98, 115, 112, 59, 38, 35, 49, 50, 56, 59, 38, 35, 48, 59]⟩ : ByteArray) t101 _ ?sideGl A1.out).mono ?_); (case sideGl => exact HGl.out.below (by repeat (first | (with_reducible first | exact HB.out | apply below_alloc | apply pw_below_drewN | apply below_drew1) | exact HB.out))); rintro e w6 ⟨rfl, hb⟩; refine ⟨_, rfl, ?_⟩; have n0_ := Aside0.mk (below_step (by repeat (first | (with_reducible first | exact HB.out | apply below_alloc | apply pw_below_drewN | apply below_drew1) | exact HB.out)) hb); clear HB; have HB := n0_; clear n0_; (try clear hb); (try clear hb2); (try clear hk); (try clear hi)) | (go_at_call 14; (with_reducible refine (ent_Text.calls (⟨#[97, 60, 98, 38, 34, 194, 160]⟩ : ByteArray) t102 _ A3.out).mono ?_); rintro e w7 ⟨rfl, hb⟩; have n0_ := Aside0.mk (below_step (by repeat (first | (with_reducible first | exact HB.out | apply below_alloc | apply pw_below_drewN | apply below_drew1) | exact HB.out)) hb); clear HB; have HB := n0_; clear n0_; (try clear hb); (try clear hb2); (try clear hk); (try clear hi)) | (go_at_call 16; (with_reducible refine (ent_Value.calls (⟨#[34, 62]⟩ : ByteArray) t103 _ ?sideGl A5.out).mono ?_); (case sideGl => exact HGl.out.below (by repeat (first | (with_reducible first | exact HB.out | apply below_alloc | apply pw_below_drewN | apply below_drew1) | exact HB.out))); rintro e w8 ⟨rfl, hb⟩; have n0_ := Aside0.mk (below_step (by repeat (first | (with_reducible first | exact HB.out | apply below_alloc | apply pw_below_drewN | apply below_drew1) | exact HB.out)) hb); clear HB; have HB := n0_; clear n0_; (try clear hb); (try clear hb2); (try clear hk); (try clear hi)))
  go_ret
  exact ⟨by first | rfl | (simp [errW_none, errW_some] <;> rfl) | (simp [*, errW_none, errW_some] <;> rfl), by repeat (first | (with_reducible first | exact HB.out | apply below_alloc | apply pw_below_drewN | apply below_drew1) | exact HB.out)⟩
mutual
def muslinref12_write.l0 : Nat → ByteArray → Bool → List Int → Int → Option (ByteArray)
  | 0, _, _, _, _ => none
  | k + 1, x0, x1, x5, x6 => if x6 < (x0.size : Int) then (if 0 ≤ x6 then (if (bt x0 x6) = 38 then (if x5.length + 5 < 140737488355328 then (muslinref12_write.l0 k x0 x1 (x5 ++ bytesOf (⟨#[38, 97, 109, 112, 59]⟩ : ByteArray)) (wrap64 (x6 + 1))) else (none)) else (if (bt x0 x6) = 60 then (if x5.length + 4 < 140737488355328 then (muslinref12_write.l0 k x0 x1 (x5 ++ bytesOf (⟨#[38, 108, 116, 59]⟩ : ByteArray)) (wrap64 (x6 + 1))) else (none)) else (if (bt x0 x6) = 62 then (if x5.length + 4 < 140737488355328 then (muslinref12_write.l0 k x0 x1 (x5 ++ bytesOf (⟨#[38, 103, 116, 59]⟩ : ByteArray)) (wrap64 (x6 + 1))) else (none)) else (if (bt x0 x6) = 34 then (muslinref12_write.j1 k x0 x1 x5 x6 x1) else (muslinref12_write.j1 k x0 x1 x5 x6 false))))) else (none)) else (some (strOfNums x5))
def muslinref12_write.j1 : Nat → ByteArray → Bool → List Int → Int → Bool → Option (ByteArray)
  | 0, _, _, _, _, _ => none
  | k + 1, x0, x1, x5, x6, x40 => if x40 = true then (if x5.length + 6 < 140737488355328 then (muslinref12_write.l0 k x0 x1 (x5 ++ bytesOf (⟨#[38, 113, 117, 111, 116, 59]⟩ : ByteArray)) (wrap64 (x6 + 1))) else (none)) else (if 0 ≤ x6 then (if x6 < (x0.size : Int) then (if (bt x0 x6) = 194 then (if (wrap64 (x6 + 1)) < (x0.size : Int) then (if 0 ≤ (wrap64 (x6 + 1)) then (if (bt x0 (wrap64 (x6 + 1))) = 160 then (if x5.length + 6 < 140737488355328 then (muslinref12_write.l0 k x0 x1 (x5 ++ bytesOf (⟨#[38, 110, 98, 115, 112, 59]⟩ : ByteArray)) (wrap64 ((wrap64 (x6 + 1)) + 1))) else (none)) else (if x5.length < 140737488355328 then (muslinref12_write.l0 k x0 x1 (x5 ++ [bt x0 x6]) (wrap64 (x6 + 1))) else (none))) else (none)) else (if x5.length < 140737488355328 then (muslinref12_write.l0 k x0 x1 (x5 ++ [bt x0 x6]) (wrap64 (x6 + 1))) else (none))) else (if x5.length < 140737488355328 then (muslinref12_write.l0 k x0 x1 (x5 ++ [bt x0 x6]) (wrap64 (x6 + 1))) else (none))) else (none)) else (none))
end
def muslinref12_write.f (k : Nat) (a0 : ByteArray) (a1 : Bool) : Option (ByteArray) := muslinref12_write.l0 k a0 a1 ([] : List Int) 0
set_option maxHeartbeats 8000000 in
set_option maxRecDepth 100000 in
theorem muslinref12_write.calls (k : Nat) (a0 : ByteArray) (a1 : Bool) (r : ByteArray) (w : World) (h : muslinref12_write.f k a0 a1 = some r) :
    Calls Tryz.prog 26 #[.string a0, .bool a1] w fun e w' => e = .returned (.string r) ∧ Below w.heap.size w w' := by
  have HB := Aside0.mk (Below.refl w.heap.size w); have H : (muslinref12_write.l0 k a0 a1 ([] : List Int) 0) = some r := h; clear h; have H' := Aside0.mk H; clear H
  go_enter Tryz.func26, Tryz.ntmps26
  go_wp2
  go_loopg [5, 6] k (fun kq v5 v6 w' => ∃ (x5_1 : List Int) (x6_1 : Int), v6 = .int .i64 x6_1 ∧ Aside0 (muslinref12_write.l0 kq a0 a1 x5_1 x6_1 = some r) ∧ Aside0 (kq ≤ k) ∧ Aside0 (Kd.R (Kd.int .u8) 5 w' w.heap.size (fun _ => True) v5 x5_1) ∧ Aside0 (Below w.heap.size w w'))
  case atStart => exact ⟨(([] : List Int)), (0), (by first | rfl | (simp; done) | (simp [*]; done)), H', ⟨Nat.le_refl _⟩, ⟨by first | exact Kd.R_nil _ _ _ _ _ | exact Kd.N_nil _ _ _ _ _ | exact Kd.V_nil _ _ _ _ _ | exact Kd.Q_nil _ _ _ _ _ | exact Kd.S_nil _ _ _ _ _⟩, ⟨by repeat (first | (with_reducible first | exact HB.out | apply below_alloc | apply pw_below_drewN | apply below_drew1) | exact HB.out)⟩⟩
  case round =>
    clear H'; (try clear c2); (try clear p2); obtain ⟨x5_1, x6_1, rfl, HA, HK1, HO_5, HB⟩ := hrel
    cases gk with
    | zero => exact absurd HA.out (by simp [muslinref12_write.l0])
    | succ k1 =>
      have H := HA.out; clear HA; simp only [muslinref12_write.l0] at H
      by_cases c3 : x6_1 < (a0.size : Int)
      case neg =>
        rw [if_neg c3] at H; have c3b0 : decide (x6_1 < (a0.size : Int)) = false := decide_eq_false c3; clear c3; obtain rfl := Option.some.inj H; have hcv43 := own_string (P := Tryz.prog) Tryz.underlying29 Tryz.underlying5 Tryz.underlying9 (Kd.own_of_R HO_5.out)
        go_wp2
        go_ret
        exact ⟨by first | rfl | (simp [errW_none, errW_some] <;> rfl) | (simp [*, errW_none, errW_some] <;> rfl), by repeat (first | (with_reducible first | exact HB.out | apply below_alloc | apply pw_below_drewN | apply below_drew1) | exact HB.out)⟩
      rw [if_pos c3] at H; have c3b0 : decide (x6_1 < (a0.size : Int)) = true := decide_eq_true c3; clear c3
      by_cases c4 : 0 ≤ x6_1
      case neg =>
        rw [if_neg c4] at H
        exact absurd H (by simp)
      rw [if_pos c4] at H; have c4b0 : decide (0 ≤ x6_1) = true := decide_eq_true c4; clear c4
      by_cases c6 : (bt a0 x6_1) = 38
      case pos =>
        rw [if_pos c6] at H; have c6b0 : ((bt a0 x6_1) == 38) = true := beq_iff_eq.mpr c6; have c6b1 : ((bt a0 x6_1) != 38) = false := bne_eq_false_iff_eq.mpr c6; clear c6
        by_cases c7 : x5_1.length + 5 < 140737488355328
        case neg =>
          rw [if_neg c7] at H
          exact absurd H (by simp)
        rw [if_pos c7] at H; have LMc7 := Aside0.mk c7; clear c7; obtain ⟨y117, hy117⟩ : ∃ y_ : List Int, y_ = (x5_1 ++ bytesOf (⟨#[38, 97, 109, 112, 59]⟩ : ByteArray)) := ⟨_, rfl⟩
        replace H : (muslinref12_write.l0 k1 a0 a1 y117 (wrap64 (x6_1 + 1))) = some r := by first | (rw [hy117]; with_reducible exact H) | (have H2_ := (Option.bind_some _ _).symm.trans H; rw [hy117]; with_reducible exact H2_) | (have H2_ := (Option.bind_some _ _).symm.trans H; with_reducible exact H2_) | with_reducible exact H | (rw [hy117]; exact H) | exact H
        have Ny117 := Aside0.mk hy117; clear hy117; have H' := Aside0.mk H; clear H; have p5 : 0 ≤ (x6_1 : Int) := of_decide_eq_true (by first | (with_reducible assumption) | assumption); have q5 : x6_1 < (a0.size : Int) := of_decide_eq_true (by first | (with_reducible assumption) | assumption); have hx5 := bt_at a0 x6_1; replace p5 := eq_true p5; replace q5 := eq_true q5; go_wp2_with (first | (at_builtin; refine print_append_str (w0 := w) w.heap.size rfl (.tmp 24) _ 29 9 5 rfl Tryz.underlying29 Tryz.underlying9 info5 u5 x5_1 (⟨#[38, 97, 109, 112, 59]⟩ : ByteArray) rfl rfl ?aO ?aB ?aS ?aL ?_; (case aB => exact (by repeat (first | (with_reducible first | exact HB.out | apply below_alloc | apply pw_below_drewN | apply below_drew1) | exact HB.out))); (case aO => exact (Kd.own_of_R (by (with_reducible repeat (first | apply Kd.R_alloc | apply Kd.R_drewN | apply Kd.R_drew)); exact HO_5.out))); (case aS => exact (below_size (by repeat (first | (with_reducible first | exact HB.out | apply below_alloc | apply pw_below_drewN | apply below_drew1) | exact HB.out)))); (case aL => have := LMc7.out; first | omega | exact Nat.le_of_lt this); intro v118 w8 ho0 hb hg; have ho := Kd.R_of_own (h1 := fun _ => rfl) (ok := fun _ => True) ho0 (fun _ _ => trivial); clear ho0; have hat := True.intro; rw [← Ny117.out] at ho; change Kd.R (Kd.int .u8) 5 w8 w.heap.size (fun _ => True) v118 y117 at ho; have n0_ := Aside0.mk (hb); have n1_ := Aside0.mk (ho); clear HB; clear HO_5; have HB := n0_; have HO119 := n1_; clear n0_ n1_; clear ho hb hg hat))
        go_roundg k1
        case measure => have := HK1.out; omega
        case rel => exact ⟨(y117), (wrap64 (x6_1 + 1)), (by first | rfl | (simp; done) | (simp [*]; done)), H', ⟨by have := HK1.out; omega⟩, ⟨by (with_reducible repeat (first | apply Kd.R_alloc | apply Kd.R_drewN | apply Kd.R_drew)); exact HO119.out⟩, ⟨by repeat (first | (with_reducible first | exact HB.out | apply below_alloc | apply pw_below_drewN | apply below_drew1) | exact HB.out)⟩⟩
      rw [if_neg c6] at H; have c6b0 : ((bt a0 x6_1) == 38) = false := beq_eq_false_iff_ne.mpr c6; have c6b1 : ((bt a0 x6_1) != 38) = true := bne_iff_ne.mpr c6
      by_cases c10 : (bt a0 x6_1) = 60
      case pos =>
        rw [if_pos c10] at H; have c10b0 : ((bt a0 x6_1) == 60) = true := beq_iff_eq.mpr c10; have c10b1 : ((bt a0 x6_1) != 60) = false := bne_eq_false_iff_eq.mpr c10; clear c10
        by_cases c11 : x5_1.length + 4 < 140737488355328
        case neg =>
          rw [if_neg c11] at H
          exact absurd H (by simp)
        rw [if_pos c11] at H; have LMc11 := Aside0.mk c11; clear c11; obtain ⟨y120, hy120⟩ : ∃ y_ : List Int, y_ = (x5_1 ++ bytesOf (⟨#[38, 108, 116, 59]⟩ : ByteArray)) := ⟨_, rfl⟩
        replace H : (muslinref12_write.l0 k1 a0 a1 y120 (wrap64 (x6_1 + 1))) = some r := by first | (rw [hy120]; with_reducible exact H) | (have H2_ := (Option.bind_some _ _).symm.trans H; rw [hy120]; with_reducible exact H2_) | (have H2_ := (Option.bind_some _ _).symm.trans H; with_reducible exact H2_) | with_reducible exact H | (rw [hy120]; exact H) | exact H
        have Ny120 := Aside0.mk hy120; clear hy120; have H' := Aside0.mk H; clear H; have p5 : 0 ≤ (x6_1 : Int) := of_decide_eq_true (by first | (with_reducible assumption) | assumption); have q5 : x6_1 < (a0.size : Int) := of_decide_eq_true (by first | (with_reducible assumption) | assumption); have hx5 := bt_at a0 x6_1; replace p5 := eq_true p5; replace q5 := eq_true q5; have p9 : 0 ≤ (x6_1 : Int) := of_decide_eq_true (by first | (with_reducible assumption) | assumption); have q9 : x6_1 < (a0.size : Int) := of_decide_eq_true (by first | (with_reducible assumption) | assumption); have hx9 := bt_at a0 x6_1; replace p9 := eq_true p9; replace q9 := eq_true q9; go_wp2_with (first | (at_builtin; refine print_append_str (w0 := w) w.heap.size rfl (.tmp 31) _ 29 9 5 rfl Tryz.underlying29 Tryz.underlying9 info5 u5 x5_1 (⟨#[38, 108, 116, 59]⟩ : ByteArray) rfl rfl ?aO ?aB ?aS ?aL ?_; (case aB => exact (by repeat (first | (with_reducible first | exact HB.out | apply below_alloc | apply pw_below_drewN | apply below_drew1) | exact HB.out))); (case aO => exact (Kd.own_of_R (by (with_reducible repeat (first | apply Kd.R_alloc | apply Kd.R_drewN | apply Kd.R_drew)); exact HO_5.out))); (case aS => exact (below_size (by repeat (first | (with_reducible first | exact HB.out | apply below_alloc | apply pw_below_drewN | apply below_drew1) | exact HB.out)))); (case aL => have := LMc11.out; first | omega | exact Nat.le_of_lt this); intro v121 w12 ho0 hb hg; have ho := Kd.R_of_own (h1 := fun _ => rfl) (ok := fun _ => True) ho0 (fun _ _ => trivial); clear ho0; have hat := True.intro; rw [← Ny120.out] at ho; change Kd.R (Kd.int .u8) 5 w12 w.heap.size (fun _ => True) v121 y120 at ho; have n0_ := Aside0.mk (hb); have n1_ := Aside0.mk (ho); clear HB; clear HO_5; have HB := n0_; have HO122 := n1_; clear n0_ n1_; clear ho hb hg hat))
        go_roundg k1
        case measure => have := HK1.out; omega
        case rel => exact ⟨(y120), (wrap64 (x6_1 + 1)), (by first | rfl | (simp; done) | (simp [*]; done)), H', ⟨by have := HK1.out; omega⟩, ⟨by (with_reducible repeat (first | apply Kd.R_alloc | apply Kd.R_drewN | apply Kd.R_drew)); exact HO122.out⟩, ⟨by repeat (first | (with_reducible first | exact HB.out | apply below_alloc | apply pw_below_drewN | apply below_drew1) | exact HB.out)⟩⟩
      rw [if_neg c10] at H; have c10b0 : ((bt a0 x6_1) == 60) = false := beq_eq_false_iff_ne.mpr c10; have c10b1 : ((bt a0 x6_1) != 60) = true := bne_iff_ne.mpr c10
      by_cases c14 : (bt a0 x6_1) = 62
      case pos =>
        rw [if_pos c14] at H; have c14b0 : ((bt a0 x6_1) == 62) = true := beq_iff_eq.mpr c14; have c14b1 : ((bt a0 x6_1) != 62) = false := bne_eq_false_iff_eq.mpr c14; clear c14
        by_cases c15 : x5_1.length + 4 < 140737488355328
        case neg =>
          rw [if_neg c15] at H
          exact absurd H (by simp)
        rw [if_pos c15] at H; have LMc15 := Aside0.mk c15; clear c15; obtain ⟨y123, hy123⟩ : ∃ y_ : List Int, y_ = (x5_1 ++ bytesOf (⟨#[38, 103, 116, 59]⟩ : ByteArray)) := ⟨_, rfl⟩
        replace H : (muslinref12_write.l0 k1 a0 a1 y123 (wrap64 (x6_1 + 1))) = some r := by first | (rw [hy123]; with_reducible exact H) | (have H2_ := (Option.bind_some _ _).symm.trans H; rw [hy123]; with_reducible exact H2_) | (have H2_ := (Option.bind_some _ _).symm.trans H; with_reducible exact H2_) | with_reducible exact H | (rw [hy123]; exact H) | exact H
        have Ny123 := Aside0.mk hy123; clear hy123; have H' := Aside0.mk H; clear H; have p5 : 0 ≤ (x6_1 : Int) := of_decide_eq_true (by first | (with_reducible assumption) | assumption); have q5 : x6_1 < (a0.size : Int) := of_decide_eq_true (by first | (with_reducible assumption) | assumption); have hx5 := bt_at a0 x6_1; replace p5 := eq_true p5; replace q5 := eq_true q5; have p9 : 0 ≤ (x6_1 : Int) := of_decide_eq_true (by first | (with_reducible assumption) | assumption); have q9 : x6_1 < (a0.size : Int) := of_decide_eq_true (by first | (with_reducible assumption) | assumption); have hx9 := bt_at a0 x6_1; replace p9 := eq_true p9; replace q9 := eq_true q9; have p13 : 0 ≤ (x6_1 : Int) := of_decide_eq_true (by first | (with_reducible assumption) | assumption); have q13 : x6_1 < (a0.size : Int) := of_decide_eq_true (by first | (with_reducible assumption) | assumption); have hx13 := bt_at a0 x6_1; replace p13 := eq_true p13; replace q13 := eq_true q13; go_wp2_with (first | (at_builtin; refine print_append_str (w0 := w) w.heap.size rfl (.tmp 38) _ 29 9 5 rfl Tryz.underlying29 Tryz.underlying9 info5 u5 x5_1 (⟨#[38, 103, 116, 59]⟩ : ByteArray) rfl rfl ?aO ?aB ?aS ?aL ?_; (case aB => exact (by repeat (first | (with_reducible first | exact HB.out | apply below_alloc | apply pw_below_drewN | apply below_drew1) | exact HB.out))); (case aO => exact (Kd.own_of_R (by (with_reducible repeat (first | apply Kd.R_alloc | apply Kd.R_drewN | apply Kd.R_drew)); exact HO_5.out))); (case aS => exact (below_size (by repeat (first | (with_reducible first | exact HB.out | apply below_alloc | apply pw_below_drewN | apply below_drew1) | exact HB.out)))); (case aL => have := LMc15.out; first | omega | exact Nat.le_of_lt this); intro v124 w16 ho0 hb hg; have ho := Kd.R_of_own (h1 := fun _ => rfl) (ok := fun _ => True) ho0 (fun _ _ => trivial); clear ho0; have hat := True.intro; rw [← Ny123.out] at ho; change Kd.R (Kd.int .u8) 5 w16 w.heap.size (fun _ => True) v124 y123 at ho; have n0_ := Aside0.mk (hb); have n1_ := Aside0.mk (ho); clear HB; clear HO_5; have HB := n0_; have HO125 := n1_; clear n0_ n1_; clear ho hb hg hat))
        go_roundg k1
        case measure => have := HK1.out; omega
        case rel => exact ⟨(y123), (wrap64 (x6_1 + 1)), (by first | rfl | (simp; done) | (simp [*]; done)), H', ⟨by have := HK1.out; omega⟩, ⟨by (with_reducible repeat (first | apply Kd.R_alloc | apply Kd.R_drewN | apply Kd.R_drew)); exact HO125.out⟩, ⟨by repeat (first | (with_reducible first | exact HB.out | apply below_alloc | apply pw_below_drewN | apply below_drew1) | exact HB.out)⟩⟩
      rw [if_neg c14] at H; have c14b0 : ((bt a0 x6_1) == 62) = false := beq_eq_false_iff_ne.mpr c14; have c14b1 : ((bt a0 x6_1) != 62) = true := bne_iff_ne.mpr c14; have HC17 := Aside0.mk H; clear H; have p5 : 0 ≤ (x6_1 : Int) := of_decide_eq_true (by first | (with_reducible assumption) | assumption); have q5 : x6_1 < (a0.size : Int) := of_decide_eq_true (by first | (with_reducible assumption) | assumption); have hx5 := bt_at a0 x6_1; replace p5 := eq_true p5; replace q5 := eq_true q5; have p9 : 0 ≤ (x6_1 : Int) := of_decide_eq_true (by first | (with_reducible assumption) | assumption); have q9 : x6_1 < (a0.size : Int) := of_decide_eq_true (by first | (with_reducible assumption) | assumption); have hx9 := bt_at a0 x6_1; replace p9 := eq_true p9; replace q9 := eq_true q9; have p13 : 0 ≤ (x6_1 : Int) := of_decide_eq_true (by first | (with_reducible assumption) | assumption); have q13 : x6_1 < (a0.size : Int) := of_decide_eq_true (by first | (with_reducible assumption) | assumption); have hx13 := bt_at a0 x6_1; replace p13 := eq_true p13; replace q13 := eq_true q13
      go_upto_region 12 with (fail)
      go_cut [40] (fun v40 wc => ∃ (kq : Nat) (x40_16 : Bool), v40 = .bool x40_16 ∧ Aside0 (muslinref12_write.j1 kq a0 a1 x5_1 x6_1 x40_16 = some r) ∧ Aside0 (kq ≤ k1) ∧ Aside0 (Kd.R (Kd.int .u8) 5 wc w.heap.size (fun _ => True) u5 x5_1) ∧ Aside0 (Below w.heap.size w wc))
      case first =>
        have H := HC17.out; clear HC17
        by_cases c19 : (bt a0 x6_1) = 34
        case neg =>
          rw [if_neg c19] at H; have c19b0 : ((bt a0 x6_1) == 34) = false := beq_eq_false_iff_ne.mpr c19; have c19b1 : ((bt a0 x6_1) != 34) = true := bne_iff_ne.mpr c19
          (first | rw [c19b0] | (simp only [i64_w, i32_w]; rw [c19b0]) | skip)
          have H' := Aside0.mk H; clear H; have p18 : 0 ≤ (x6_1 : Int) := of_decide_eq_true (by first | (with_reducible assumption) | assumption); have q18 : x6_1 < (a0.size : Int) := of_decide_eq_true (by first | (with_reducible assumption) | assumption); have hx18 := bt_at a0 x6_1; replace p18 := eq_true p18; replace q18 := eq_true q18
          go_wp2
          go_meet
          case rel => exact ⟨_, (false), (by first | rfl | (simp; done) | (simp [*]; done)), H', ⟨by have := HK1.out; first | omega | exact Nat.le_refl _⟩, ⟨by (with_reducible repeat (first | apply Kd.R_alloc | apply Kd.R_drewN | apply Kd.R_drew)); exact HO_5.out⟩, ⟨by repeat (first | (with_reducible first | exact HB.out | apply below_alloc | apply pw_below_drewN | apply below_drew1) | exact HB.out)⟩⟩
        rw [if_pos c19] at H; have c19b0 : ((bt a0 x6_1) == 34) = true := beq_iff_eq.mpr c19; have c19b1 : ((bt a0 x6_1) != 34) = false := bne_eq_false_iff_eq.mpr c19; clear c19
        (first | rw [c19b0] | (simp only [i64_w, i32_w]; rw [c19b0]) | skip)
        have H' := Aside0.mk H; clear H; have p18 : 0 ≤ (x6_1 : Int) := of_decide_eq_true (by first | (with_reducible assumption) | assumption); have q18 : x6_1 < (a0.size : Int) := of_decide_eq_true (by first | (with_reducible assumption) | assumption); have hx18 := bt_at a0 x6_1; replace p18 := eq_true p18; replace q18 := eq_true q18
        go_wp2
        go_meet
        case rel => exact ⟨_, (a1), (by first | rfl | (simp; done) | (simp [*]; done)), H', ⟨by have := HK1.out; first | omega | exact Nat.le_refl _⟩, ⟨by (with_reducible repeat (first | apply Kd.R_alloc | apply Kd.R_drewN | apply Kd.R_drew)); exact HO_5.out⟩, ⟨by repeat (first | (with_reducible first | exact HB.out | apply below_alloc | apply pw_below_drewN | apply below_drew1) | exact HB.out)⟩⟩
      case rest =>
        clear HC17; (try clear c1); (try clear p1); (try clear q1); (try clear hx1); (try clear c2); (try clear p2); (try clear c3); (try clear c3b0); (try clear c4); (try clear c4b0); (try clear p5); (try clear q5); (try clear hx5); (try clear c6); (try clear c6b0); (try clear c6b1); (try clear p6); (try clear c7); (try clear p9); (try clear q9); (try clear hx9); (try clear c10); (try clear c10b0); (try clear c10b1); (try clear c11); (try clear p13); (try clear q13); (try clear hx13); (try clear c14); (try clear c14b0); (try clear c14b1); (try clear c15); (try clear p18); (try clear q18); (try clear hx18); (try clear c19); (try clear c19b0); (try clear c19b1); (try clear p13); (try clear p18); (try clear p2); (try clear p5); (try clear p9); (try clear q13); (try clear q18); (try clear q5); (try clear q9); obtain ⟨kq, x40_16, rfl, HA, HJ16, HO_5, HB⟩ := hcut
        cases kq with
        | zero => exact absurd HA.out (by simp [muslinref12_write.j1])
        | succ kj16 =>
          have H := HA.out; clear HA; simp only [muslinref12_write.j1] at H
          by_cases c20 : x40_16 = true
          case pos =>
            subst c20
            have H1 : (if x5_1.length + 6 < 140737488355328 then (muslinref12_write.l0 kj16 a0 a1 (x5_1 ++ bytesOf (⟨#[38, 113, 117, 111, 116, 59]⟩ : ByteArray)) (wrap64 (x6_1 + 1))) else (none)) = some r := by rw [if_pos rfl] at H; exact H
            clear H; have H := H1; clear H1
            by_cases c21 : x5_1.length + 6 < 140737488355328
            case neg =>
              rw [if_neg c21] at H
              exact absurd H (by simp)
            rw [if_pos c21] at H; have LMc21 := Aside0.mk c21; clear c21; obtain ⟨y126, hy126⟩ : ∃ y_ : List Int, y_ = (x5_1 ++ bytesOf (⟨#[38, 113, 117, 111, 116, 59]⟩ : ByteArray)) := ⟨_, rfl⟩
            replace H : (muslinref12_write.l0 kj16 a0 a1 y126 (wrap64 (x6_1 + 1))) = some r := by first | (rw [hy126]; with_reducible exact H) | (have H2_ := (Option.bind_some _ _).symm.trans H; rw [hy126]; with_reducible exact H2_) | (have H2_ := (Option.bind_some _ _).symm.trans H; with_reducible exact H2_) | with_reducible exact H | (rw [hy126]; exact H) | exact H
            have Ny126 := Aside0.mk hy126; clear hy126; have H' := Aside0.mk H; clear H; go_wp2_with (first | (at_builtin; refine print_append_str (w0 := w) w.heap.size rfl (.tmp 48) _ 29 9 5 rfl Tryz.underlying29 Tryz.underlying9 info5 u5 x5_1 (⟨#[38, 113, 117, 111, 116, 59]⟩ : ByteArray) rfl rfl ?aO ?aB ?aS ?aL ?_; (case aB => exact (by repeat (first | (with_reducible first | exact HB.out | apply below_alloc | apply pw_below_drewN | apply below_drew1) | exact HB.out))); (case aO => exact (Kd.own_of_R (by (with_reducible repeat (first | apply Kd.R_alloc | apply Kd.R_drewN | apply Kd.R_drew)); exact HO_5.out))); (case aS => exact (below_size (by repeat (first | (with_reducible first | exact HB.out | apply below_alloc | apply pw_below_drewN | apply below_drew1) | exact HB.out)))); (case aL => have := LMc21.out; first | omega | exact Nat.le_of_lt this); intro v127 w22 ho0 hb hg; have ho := Kd.R_of_own (h1 := fun _ => rfl) (ok := fun _ => True) ho0 (fun _ _ => trivial); clear ho0; have hat := True.intro; rw [← Ny126.out] at ho; change Kd.R (Kd.int .u8) 5 w22 w.heap.size (fun _ => True) v127 y126 at ho; have n0_ := Aside0.mk (hb); have n1_ := Aside0.mk (ho); clear HB; clear HO_5; have HB := n0_; have HO128 := n1_; clear n0_ n1_; clear ho hb hg hat))
            go_roundg kj16
            case measure => have := HK1.out; have := HJ16.out; omega
            case rel => exact ⟨(y126), (wrap64 (x6_1 + 1)), (by first | rfl | (simp; done) | (simp [*]; done)), H', ⟨by have := HK1.out; have := HJ16.out; omega⟩, ⟨by (with_reducible repeat (first | apply Kd.R_alloc | apply Kd.R_drewN | apply Kd.R_drew)); exact HO128.out⟩, ⟨by repeat (first | (with_reducible first | exact HB.out | apply below_alloc | apply pw_below_drewN | apply below_drew1) | exact HB.out)⟩⟩
          replace c20 := Bool.eq_false_iff.mpr c20; subst c20
          have H1 : (if 0 ≤ x6_1 then (if x6_1 < (a0.size : Int) then (if (bt a0 x6_1) = 194 then (if (wrap64 (x6_1 + 1)) < (a0.size : Int) then (if 0 ≤ (wrap64 (x6_1 + 1)) then (if (bt a0 (wrap64 (x6_1 + 1))) = 160 then (if x5_1.length + 6 < 140737488355328 then (muslinref12_write.l0 kj16 a0 a1 (x5_1 ++ bytesOf (⟨#[38, 110, 98, 115, 112, 59]⟩ : ByteArray)) (wrap64 ((wrap64 (x6_1 + 1)) + 1))) else (none)) else (if x5_1.length < 140737488355328 then (muslinref12_write.l0 kj16 a0 a1 (x5_1 ++ [bt a0 x6_1]) (wrap64 (x6_1 + 1))) else (none))) else (none)) else (if x5_1.length < 140737488355328 then (muslinref12_write.l0 kj16 a0 a1 (x5_1 ++ [bt a0 x6_1]) (wrap64 (x6_1 + 1))) else (none))) else (if x5_1.length < 140737488355328 then (muslinref12_write.l0 kj16 a0 a1 (x5_1 ++ [bt a0 x6_1]) (wrap64 (x6_1 + 1))) else (none))) else (none)) else (none)) = some r := by rw [if_neg (show ¬ (false = true) by decide)] at H; exact H
          clear H; have H := H1; clear H1
          by_cases c23 : 0 ≤ x6_1
          case neg =>
            rw [if_neg c23] at H
            exact absurd H (by simp)
          rw [if_pos c23] at H; have c23b0 : decide (0 ≤ x6_1) = true := decide_eq_true c23; clear c23
          by_cases c24 : x6_1 < (a0.size : Int)
          case neg =>
            rw [if_neg c24] at H
            exact absurd H (by simp)
          rw [if_pos c24] at H; have c24b0 : decide (x6_1 < (a0.size : Int)) = true := decide_eq_true c24; clear c24
          by_cases c26 : (bt a0 x6_1) = 194
          case neg =>
            rw [if_neg c26] at H; have c26b0 : ((bt a0 x6_1) == 194) = false := beq_eq_false_iff_ne.mpr c26; have c26b1 : ((bt a0 x6_1) != 194) = true := bne_iff_ne.mpr c26
            by_cases c41 : x5_1.length < 140737488355328
            case neg =>
              rw [if_neg c41] at H
              exact absurd H (by simp)
            rw [if_pos c41] at H; have LMc41 := Aside0.mk c41; clear c41; obtain ⟨y138, hy138⟩ : ∃ y_ : List Int, y_ = (x5_1 ++ [bt a0 x6_1]) := ⟨_, rfl⟩
            replace H : (muslinref12_write.l0 kj16 a0 a1 y138 (wrap64 (x6_1 + 1))) = some r := by first | (rw [hy138]; with_reducible exact H) | (have H2_ := (Option.bind_some _ _).symm.trans H; rw [hy138]; with_reducible exact H2_) | (have H2_ := (Option.bind_some _ _).symm.trans H; with_reducible exact H2_) | with_reducible exact H | (rw [hy138]; exact H) | exact H
            have Ny138 := Aside0.mk hy138; clear hy138; have H' := Aside0.mk H; clear H; have p25 : 0 ≤ (x6_1 : Int) := of_decide_eq_true (by first | (with_reducible assumption) | assumption); have q25 : x6_1 < (a0.size : Int) := of_decide_eq_true (by first | (with_reducible assumption) | assumption); have hx25 := bt_at a0 x6_1; replace p25 := eq_true p25; replace q25 := eq_true q25; have p40 : 0 ≤ (x6_1 : Int) := of_decide_eq_true (by first | (with_reducible assumption) | assumption); have q40 : x6_1 < (a0.size : Int) := of_decide_eq_true (by first | (with_reducible assumption) | assumption); have hx40 := bt_at a0 x6_1; replace p40 := eq_true p40; replace q40 := eq_true q40; go_wp2_with (first | ((with_reducible refine gate_builtin (b := .append) (xs := #[.tmp 13, .tmp 17]) rfl ?_); (try (refine gate_guard (by rfl) ?_; dsimp only)); at_builtin; refine Kd.R_append (Kd.int .u8) (w0 := w) w.heap.size rfl (.tmp 13) (.tmp 17) 29 5 (.int .u8 0) 1 rfl Tryz.underlying29 info5 rfl (by decide) (by omega) u5 x5_1 (bt a0 x6_1) [.int .u8 (bt a0 x6_1)] (fun _ => True) (fun _ => False) rfl rfl ?aP (fun _ hk => hk.elim) ?aF ?aO ?aB ?aS ?aL ?_; (case aP => exact rfl); (case aB => exact (by repeat (first | (with_reducible first | exact HB.out | apply below_alloc | apply pw_below_drewN | apply below_drew1) | exact HB.out))); (case aF => exact (fun _ _ => trivial)); (case aO => exact (by (with_reducible repeat (first | apply Kd.R_alloc | apply Kd.R_drewN | apply Kd.R_drew)); exact HO_5.out)); (case aS => exact (below_size (by repeat (first | (with_reducible first | exact HB.out | apply below_alloc | apply pw_below_drewN | apply below_drew1) | exact HB.out)))); (case aL => have := LMc41.out; first | omega | exact Nat.le_of_lt this); intro v139 w42 ho hb hg hat; rw [← Ny138.out] at ho; have n0_ := Aside0.mk (hb); have n1_ := Aside0.mk (ho); clear HB; clear HO_5; have HB := n0_; have HO140 := n1_; clear n0_ n1_; clear ho hb hg hat))
            go_roundg kj16
            case measure => have := HK1.out; have := HJ16.out; omega
            case rel => exact ⟨(y138), (wrap64 (x6_1 + 1)), (by first | rfl | (simp; done) | (simp [*]; done)), H', ⟨by have := HK1.out; have := HJ16.out; omega⟩, ⟨by (with_reducible repeat (first | apply Kd.R_alloc | apply Kd.R_drewN | apply Kd.R_drew)); exact HO140.out⟩, ⟨by repeat (first | (with_reducible first | exact HB.out | apply below_alloc | apply pw_below_drewN | apply below_drew1) | exact HB.out)⟩⟩
          rw [if_pos c26] at H; have c26b0 : ((bt a0 x6_1) == 194) = true := beq_iff_eq.mpr c26; have c26b1 : ((bt a0 x6_1) != 194) = false := bne_eq_false_iff_eq.mpr c26; clear c26
          by_cases c27 : (wrap64 (x6_1 + 1)) < (a0.size : Int)
          case neg =>
            rw [if_neg c27] at H; have c27b0 : decide ((wrap64 (x6_1 + 1)) < (a0.size : Int)) = false := decide_eq_false c27; clear c27
            by_cases c38 : x5_1.length < 140737488355328
            case neg =>
              rw [if_neg c38] at H
              exact absurd H (by simp)
            rw [if_pos c38] at H; have LMc38 := Aside0.mk c38; clear c38; obtain ⟨y135, hy135⟩ : ∃ y_ : List Int, y_ = (x5_1 ++ [bt a0 x6_1]) := ⟨_, rfl⟩
            replace H : (muslinref12_write.l0 kj16 a0 a1 y135 (wrap64 (x6_1 + 1))) = some r := by first | (rw [hy135]; with_reducible exact H) | (have H2_ := (Option.bind_some _ _).symm.trans H; rw [hy135]; with_reducible exact H2_) | (have H2_ := (Option.bind_some _ _).symm.trans H; with_reducible exact H2_) | with_reducible exact H | (rw [hy135]; exact H) | exact H
            have Ny135 := Aside0.mk hy135; clear hy135; have H' := Aside0.mk H; clear H; have p25 : 0 ≤ (x6_1 : Int) := of_decide_eq_true (by first | (with_reducible assumption) | assumption); have q25 : x6_1 < (a0.size : Int) := of_decide_eq_true (by first | (with_reducible assumption) | assumption); have hx25 := bt_at a0 x6_1; replace p25 := eq_true p25; replace q25 := eq_true q25; have p37 : 0 ≤ (x6_1 : Int) := of_decide_eq_true (by first | (with_reducible assumption) | assumption); have q37 : x6_1 < (a0.size : Int) := of_decide_eq_true (by first | (with_reducible assumption) | assumption); have hx37 := bt_at a0 x6_1; replace p37 := eq_true p37; replace q37 := eq_true q37; go_wp2_with (first | ((with_reducible refine gate_builtin (b := .append) (xs := #[.tmp 13, .tmp 17]) rfl ?_); (try (refine gate_guard (by rfl) ?_; dsimp only)); at_builtin; refine Kd.R_append (Kd.int .u8) (w0 := w) w.heap.size rfl (.tmp 13) (.tmp 17) 29 5 (.int .u8 0) 1 rfl Tryz.underlying29 info5 rfl (by decide) (by omega) u5 x5_1 (bt a0 x6_1) [.int .u8 (bt a0 x6_1)] (fun _ => True) (fun _ => False) rfl rfl ?aP (fun _ hk => hk.elim) ?aF ?aO ?aB ?aS ?aL ?_; (case aP => exact rfl); (case aB => exact (by repeat (first | (with_reducible first | exact HB.out | apply below_alloc | apply pw_below_drewN | apply below_drew1) | exact HB.out))); (case aF => exact (fun _ _ => trivial)); (case aO => exact (by (with_reducible repeat (first | apply Kd.R_alloc | apply Kd.R_drewN | apply Kd.R_drew)); exact HO_5.out)); (case aS => exact (below_size (by repeat (first | (with_reducible first | exact HB.out | apply below_alloc | apply pw_below_drewN | apply below_drew1) | exact HB.out)))); (case aL => have := LMc38.out; first | omega | exact Nat.le_of_lt this); intro v136 w39 ho hb hg hat; rw [← Ny135.out] at ho; have n0_ := Aside0.mk (hb); have n1_ := Aside0.mk (ho); clear HB; clear HO_5; have HB := n0_; have HO137 := n1_; clear n0_ n1_; clear ho hb hg hat))
            go_roundg kj16
            case measure => have := HK1.out; have := HJ16.out; omega
            case rel => exact ⟨(y135), (wrap64 (x6_1 + 1)), (by first | rfl | (simp; done) | (simp [*]; done)), H', ⟨by have := HK1.out; have := HJ16.out; omega⟩, ⟨by (with_reducible repeat (first | apply Kd.R_alloc | apply Kd.R_drewN | apply Kd.R_drew)); exact HO137.out⟩, ⟨by repeat (first | (with_reducible first | exact HB.out | apply below_alloc | apply pw_below_drewN | apply below_drew1) | exact HB.out)⟩⟩
          rw [if_pos c27] at H; have c27b0 : decide ((wrap64 (x6_1 + 1)) < (a0.size : Int)) = true := decide_eq_true c27; clear c27; obtain ⟨ji28, hji28⟩ : ∃ j_ : Int, (wrap64 (x6_1 + 1)) = j_ := ⟨_, rfl⟩
          replace H : (if 0 ≤ (ji28) then (if (bt a0 (ji28)) = 160 then (if x5_1.length + 6 < 140737488355328 then (muslinref12_write.l0 kj16 a0 a1 (x5_1 ++ bytesOf (⟨#[38, 110, 98, 115, 112, 59]⟩ : ByteArray)) (wrap64 ((ji28) + 1))) else (none)) else (if x5_1.length < 140737488355328 then (muslinref12_write.l0 kj16 a0 a1 (x5_1 ++ [bt a0 x6_1]) ji28) else (none))) else (none)) = some r := by first | (rw [hji28] at H; exact H) | (simp only [hji28] at H ⊢; exact H)
          (try rw [hji28] at c27b0)
          have hji28w : (IntKind.i64.wrap (x6_1 + 1)) = ji28 := (i64_w _).trans hji28
          by_cases c29 : 0 ≤ (ji28)
          case neg =>
            rw [if_neg c29] at H
            exact absurd H (by simp)
          rw [if_pos c29] at H; have c29b0 : decide (0 ≤ (ji28)) = true := decide_eq_true c29; clear c29
          by_cases c31 : (bt a0 (ji28)) = 160
          case pos =>
            rw [if_pos c31] at H; have c31b0 : ((bt a0 (ji28)) == 160) = true := beq_iff_eq.mpr c31; have c31b1 : ((bt a0 (ji28)) != 160) = false := bne_eq_false_iff_eq.mpr c31; clear c31
            by_cases c32 : x5_1.length + 6 < 140737488355328
            case neg =>
              rw [if_neg c32] at H
              exact absurd H (by simp)
            rw [if_pos c32] at H; have LMc32 := Aside0.mk c32; clear c32; obtain ⟨y129, hy129⟩ : ∃ y_ : List Int, y_ = (x5_1 ++ bytesOf (⟨#[38, 110, 98, 115, 112, 59]⟩ : ByteArray)) := ⟨_, rfl⟩
            replace H : (muslinref12_write.l0 kj16 a0 a1 y129 (wrap64 ((ji28) + 1))) = some r := by first | (rw [hy129]; with_reducible exact H) | (have H2_ := (Option.bind_some _ _).symm.trans H; rw [hy129]; with_reducible exact H2_) | (have H2_ := (Option.bind_some _ _).symm.trans H; with_reducible exact H2_) | with_reducible exact H | (rw [hy129]; exact H) | exact H
            have Ny129 := Aside0.mk hy129; clear hy129; have H' := Aside0.mk H; clear H; have p25 : 0 ≤ (x6_1 : Int) := of_decide_eq_true (by first | (with_reducible assumption) | assumption); have q25 : x6_1 < (a0.size : Int) := of_decide_eq_true (by first | (with_reducible assumption) | assumption); have hx25 := bt_at a0 x6_1; replace p25 := eq_true p25; replace q25 := eq_true q25; have p30 : 0 ≤ ((ji28) : Int) := of_decide_eq_true (by first | (with_reducible assumption) | assumption); have q30 : (ji28) < (a0.size : Int) := of_decide_eq_true (by first | (with_reducible assumption) | assumption); have hx30 := bt_at a0 (ji28); replace p30 := eq_true p30; replace q30 := eq_true q30; go_wp2_with (first | (at_builtin; refine print_append_str (w0 := w) w.heap.size rfl (.tmp 69) _ 29 9 5 rfl Tryz.underlying29 Tryz.underlying9 info5 u5 x5_1 (⟨#[38, 110, 98, 115, 112, 59]⟩ : ByteArray) rfl rfl ?aO ?aB ?aS ?aL ?_; (case aB => exact (by repeat (first | (with_reducible first | exact HB.out | apply below_alloc | apply pw_below_drewN | apply below_drew1) | exact HB.out))); (case aO => exact (Kd.own_of_R (by (with_reducible repeat (first | apply Kd.R_alloc | apply Kd.R_drewN | apply Kd.R_drew)); exact HO_5.out))); (case aS => exact (below_size (by repeat (first | (with_reducible first | exact HB.out | apply below_alloc | apply pw_below_drewN | apply below_drew1) | exact HB.out)))); (case aL => have := LMc32.out; first | omega | exact Nat.le_of_lt this); intro v130 w33 ho0 hb hg; have ho := Kd.R_of_own (h1 := fun _ => rfl) (ok := fun _ => True) ho0 (fun _ _ => trivial); clear ho0; have hat := True.intro; rw [← Ny129.out] at ho; change Kd.R (Kd.int .u8) 5 w33 w.heap.size (fun _ => True) v130 y129 at ho; have n0_ := Aside0.mk (hb); have n1_ := Aside0.mk (ho); clear HB; clear HO_5; have HB := n0_; have HO131 := n1_; clear n0_ n1_; clear ho hb hg hat))
            go_roundg kj16
            case measure => have := HK1.out; have := HJ16.out; omega
            case rel => exact ⟨(y129), (wrap64 ((ji28) + 1)), (by first | rfl | (simp; done) | (simp only [← hji28] <;> (first | rfl | (simp; done) | (simp; simp only [hji28]; exact beq_iff_eq.1 (by assumption)))) | (simp [*]; done)), H', ⟨by have := HK1.out; have := HJ16.out; omega⟩, ⟨by (with_reducible repeat (first | apply Kd.R_alloc | apply Kd.R_drewN | apply Kd.R_drew)); exact HO131.out⟩, ⟨by repeat (first | (with_reducible first | exact HB.out | apply below_alloc | apply pw_below_drewN | apply below_drew1) | exact HB.out)⟩⟩
          rw [if_neg c31] at H; have c31b0 : ((bt a0 (ji28)) == 160) = false := beq_eq_false_iff_ne.mpr c31; have c31b1 : ((bt a0 (ji28)) != 160) = true := bne_iff_ne.mpr c31
          by_cases c35 : x5_1.length < 140737488355328
          case neg =>
            rw [if_neg c35] at H
            exact absurd H (by simp)
          rw [if_pos c35] at H; have LMc35 := Aside0.mk c35; clear c35; obtain ⟨y132, hy132⟩ : ∃ y_ : List Int, y_ = (x5_1 ++ [bt a0 x6_1]) := ⟨_, rfl⟩
          replace H : (muslinref12_write.l0 kj16 a0 a1 y132 ji28) = some r := by first | (rw [hy132]; with_reducible exact H) | (have H2_ := (Option.bind_some _ _).symm.trans H; rw [hy132]; with_reducible exact H2_) | (have H2_ := (Option.bind_some _ _).symm.trans H; with_reducible exact H2_) | with_reducible exact H | (rw [hy132]; exact H) | exact H
          have Ny132 := Aside0.mk hy132; clear hy132; have H' := Aside0.mk H; clear H; have p25 : 0 ≤ (x6_1 : Int) := of_decide_eq_true (by first | (with_reducible assumption) | assumption); have q25 : x6_1 < (a0.size : Int) := of_decide_eq_true (by first | (with_reducible assumption) | assumption); have hx25 := bt_at a0 x6_1; replace p25 := eq_true p25; replace q25 := eq_true q25; have p30 : 0 ≤ ((ji28) : Int) := of_decide_eq_true (by first | (with_reducible assumption) | assumption); have q30 : (ji28) < (a0.size : Int) := of_decide_eq_true (by first | (with_reducible assumption) | assumption); have hx30 := bt_at a0 (ji28); replace p30 := eq_true p30; replace q30 := eq_true q30; have p34 : 0 ≤ (x6_1 : Int) := of_decide_eq_true (by first | (with_reducible assumption) | assumption); have q34 : x6_1 < (a0.size : Int) := of_decide_eq_true (by first | (with_reducible assumption) | assumption); have hx34 := bt_at a0 x6_1; replace p34 := eq_true p34; replace q34 := eq_true q34; go_wp2_with (first | ((with_reducible refine gate_builtin (b := .append) (xs := #[.tmp 13, .tmp 17]) rfl ?_); (try (refine gate_guard (by rfl) ?_; dsimp only)); at_builtin; refine Kd.R_append (Kd.int .u8) (w0 := w) w.heap.size rfl (.tmp 13) (.tmp 17) 29 5 (.int .u8 0) 1 rfl Tryz.underlying29 info5 rfl (by decide) (by omega) u5 x5_1 (bt a0 x6_1) [.int .u8 (bt a0 x6_1)] (fun _ => True) (fun _ => False) rfl rfl ?aP (fun _ hk => hk.elim) ?aF ?aO ?aB ?aS ?aL ?_; (case aP => exact rfl); (case aB => exact (by repeat (first | (with_reducible first | exact HB.out | apply below_alloc | apply pw_below_drewN | apply below_drew1) | exact HB.out))); (case aF => exact (fun _ _ => trivial)); (case aO => exact (by (with_reducible repeat (first | apply Kd.R_alloc | apply Kd.R_drewN | apply Kd.R_drew)); exact HO_5.out)); (case aS => exact (below_size (by repeat (first | (with_reducible first | exact HB.out | apply below_alloc | apply pw_below_drewN | apply below_drew1) | exact HB.out)))); (case aL => have := LMc35.out; first | omega | exact Nat.le_of_lt this); intro v133 w36 ho hb hg hat; rw [← Ny132.out] at ho; have n0_ := Aside0.mk (hb); have n1_ := Aside0.mk (ho); clear HB; clear HO_5; have HB := n0_; have HO134 := n1_; clear n0_ n1_; clear ho hb hg hat))
          go_roundg kj16
          case measure => have := HK1.out; have := HJ16.out; omega
          case rel => exact ⟨(y132), (ji28), (by first | rfl | (simp; done) | (simp only [← hji28] <;> (first | rfl | (simp; done) | (simp; simp only [hji28]; exact beq_iff_eq.1 (by assumption)))) | (simp [*]; done)), H', ⟨by have := HK1.out; have := HJ16.out; omega⟩, ⟨by (with_reducible repeat (first | apply Kd.R_alloc | apply Kd.R_drewN | apply Kd.R_drew)); exact HO134.out⟩, ⟨by repeat (first | (with_reducible first | exact HB.out | apply below_alloc | apply pw_below_drewN | apply below_drew1) | exact HB.out)⟩⟩
def muslinref12_Text.f (k : Nat) (a0 : ByteArray) : Option (ByteArray) := (muslinref12_write.f k a0 false).bind fun t141 => (some t141)
set_option maxHeartbeats 8000000 in
set_option maxRecDepth 100000 in
theorem muslinref12_Text.calls (k : Nat) (a0 : ByteArray) (r : ByteArray) (w : World) (h : muslinref12_Text.f k a0 = some r) :
    Calls Tryz.prog 15 #[.string a0] w fun e w' => e = .returned (.string r) ∧ Below w.heap.size w w' := by
  have HB := Aside0.mk (Below.refl w.heap.size w); have H : ((muslinref12_write.f k a0 false).bind fun t141 => (some t141)) = some r := h; clear h; replace H := Option.bind_eq_some_iff.mp H; obtain ⟨t141, A20, H⟩ := H; replace H : (some t141) = some r := H; have A2 := Aside0.mk A20; clear A20; obtain rfl := Option.some.inj H
  go_enter Tryz.func15, Tryz.ntmps15
  go_wp2_with (first | ((with_reducible refine gate_callee (f := 26) rfl ?_); refine goesL_ (some 4) rfl rfl Tryz.func26 (by kernel_rfl) rfl #[.string a0, .bool false] rfl (by (try simp only [List.map_toArray, List.map_cons, List.map_nil]); first | done | rfl | (simp only [List.length_drop, List.length_take]; rfl)) ?_; (with_reducible refine (muslinref12_write.calls k a0 false t141 _ A2.out).mono ?_); rintro e w3 ⟨rfl, hb⟩; refine ⟨_, rfl, ?_⟩; have n0_ := Aside0.mk (below_step (by repeat (first | (with_reducible first | exact HB.out | apply below_alloc | apply pw_below_drewN | apply below_drew1) | exact HB.out)) hb); clear HB; have HB := n0_; clear n0_; (try clear hb); (try clear hb2); (try clear hk); (try clear hi)))
  go_ret
  exact ⟨by first | rfl | (simp [errW_none, errW_some] <;> rfl) | (simp [*, errW_none, errW_some] <;> rfl), by repeat (first | (with_reducible first | exact HB.out | apply below_alloc | apply pw_below_drewN | apply below_drew1) | exact HB.out)⟩
def muslinref12_Value.f (k : Nat) (a0 : ByteArray) : Option (ByteArray) := (muslinref12_write.f k a0 true).bind fun t142 => (some t142)
set_option maxHeartbeats 8000000 in
set_option maxRecDepth 100000 in
theorem muslinref12_Value.calls (k : Nat) (a0 : ByteArray) (r : ByteArray) (w : World) (h : muslinref12_Value.f k a0 = some r) :
    Calls Tryz.prog 17 #[.string a0] w fun e w' => e = .returned (.string r) ∧ Below w.heap.size w w' := by
  have HB := Aside0.mk (Below.refl w.heap.size w); have H : ((muslinref12_write.f k a0 true).bind fun t142 => (some t142)) = some r := h; clear h; replace H := Option.bind_eq_some_iff.mp H; obtain ⟨t142, A20, H⟩ := H; replace H : (some t142) = some r := H; have A2 := Aside0.mk A20; clear A20; obtain rfl := Option.some.inj H
  go_enter Tryz.func17, Tryz.ntmps17
  go_wp2_with (first | ((with_reducible refine gate_callee (f := 26) rfl ?_); refine goesL_ (some 4) rfl rfl Tryz.func26 (by kernel_rfl) rfl #[.string a0, .bool true] rfl (by (try simp only [List.map_toArray, List.map_cons, List.map_nil]); first | done | rfl | (simp only [List.length_drop, List.length_take]; rfl)) ?_; (with_reducible refine (muslinref12_write.calls k a0 true t142 _ A2.out).mono ?_); rintro e w3 ⟨rfl, hb⟩; refine ⟨_, rfl, ?_⟩; have n0_ := Aside0.mk (below_step (by repeat (first | (with_reducible first | exact HB.out | apply below_alloc | apply pw_below_drewN | apply below_drew1) | exact HB.out)) hb); clear HB; have HB := n0_; clear n0_; (try clear hb); (try clear hb2); (try clear hk); (try clear hi)))
  go_ret
  exact ⟨by first | rfl | (simp [errW_none, errW_some] <;> rfl) | (simp [*, errW_none, errW_some] <;> rfl), by repeat (first | (with_reducible first | exact HB.out | apply below_alloc | apply pw_below_drewN | apply below_drew1) | exact HB.out)⟩
end Go.Proofs.YtkfcbafjcjmfnaaGreatDoor.P
namespace Go.Proofs.YtkfcbafjcjmfnaaGreatDoor.P
open Go.RowKit Go.Proofs.YtkfcbafjcjmfnaaGreatDoorW.PrintWords Go.Proofs.YtkfcbafjcjmfnaaGreatDoorW.PrintLast Go.Proofs.YtkfcbafjcjmfnaaGreatDoorW.PrintMore
attribute [local go_sem] max2_int min2_int max_two min_two max_three min_three max_four min_four
set_option linter.unusedVariables false
set_option linter.unusedSimpArgs false
def muslinlaw12_EntWrites.f (k : Nat) (a0 : ByteArray) : Option (Bool) := (muslinlaw12_short.f a0).bind fun t143 => (if t143 = true then ((ent_Text.f a0).bind fun t145 => ((muslinref12_Text.f k a0).bind fun t146 => (if t145.toList = t146.toList then ((ent_Value.f a0).bind fun t147 => ((muslinref12_Value.f k a0).bind fun t148 => (if t147.toList = t148.toList then ((muslinlaw12_live.f).bind fun t149 => (some t149)) else (some false)))) else (some false)))) else ((muslinlaw12_live.f).bind fun t144 => (some t144)))
set_option maxHeartbeats 8000000 in
set_option maxRecDepth 100000 in
theorem muslinlaw12_EntWrites.calls (k : Nat) (a0 : ByteArray) (r : Bool) (w : World) (hGl : Ent.GlobE w) (h : muslinlaw12_EntWrites.f k a0 = some r) :
    Calls Tryz.prog 4 #[.string a0] w fun e w' => e = .returned (.bool r) ∧ Below w.heap.size w w' := by
  have HGl := Aside0.mk hGl; clear hGl; have HB := Aside0.mk (Below.refl w.heap.size w); have H : ((muslinlaw12_short.f a0).bind fun t143 => (if t143 = true then ((ent_Text.f a0).bind fun t145 => ((muslinref12_Text.f k a0).bind fun t146 => (if t145.toList = t146.toList then ((ent_Value.f a0).bind fun t147 => ((muslinref12_Value.f k a0).bind fun t148 => (if t147.toList = t148.toList then ((muslinlaw12_live.f).bind fun t149 => (some t149)) else (some false)))) else (some false)))) else ((muslinlaw12_live.f).bind fun t144 => (some t144)))) = some r := h; clear h; replace H := Option.bind_eq_some_iff.mp H; obtain ⟨t143, A20, H⟩ := H; replace H : (if t143 = true then ((ent_Text.f a0).bind fun t145 => ((muslinref12_Text.f k a0).bind fun t146 => (if t145.toList = t146.toList then ((ent_Value.f a0).bind fun t147 => ((muslinref12_Value.f k a0).bind fun t148 => (if t147.toList = t148.toList then ((muslinlaw12_live.f).bind fun t149 => (some t149)) else (some false)))) else (some false)))) else ((muslinlaw12_live.f).bind fun t144 => (some t144))) = some r := H; have A2 := Aside0.mk A20; clear A20
  by_cases c3 : t143 = true
  case neg =>
    replace c3 := Bool.eq_false_iff.mpr c3; subst c3
    have H1 : ((muslinlaw12_live.f).bind fun t144 => (some t144)) = some r := by rw [if_neg (show ¬ (false = true) by decide)] at H; exact H
    clear H; have H := H1; clear H1; replace H := Option.bind_eq_some_iff.mp H; obtain ⟨t144, A220, H⟩ := H; replace H : (some t144) = some r := H; have A22 := Aside0.mk A220; clear A220; obtain rfl := Option.some.inj H
    go_enter Tryz.func4, Tryz.ntmps4
    go_wp2_with (first | ((with_reducible refine gate_callee (f := 10) rfl ?_); refine goesL_ (some 4) rfl rfl Tryz.func10 (by kernel_rfl) rfl #[.string a0] rfl (by (try simp only [List.map_toArray, List.map_cons, List.map_nil]); first | done | rfl | (simp only [List.length_drop, List.length_take]; rfl)) ?_; (with_reducible refine (muslinlaw12_short.calls a0 false _ A2.out).mono ?_); rintro e w' ⟨rfl, ⟨nd, rfl⟩⟩; refine ⟨_, rfl, ?_⟩) | ((with_reducible refine gate_callee (f := 11) rfl ?_); refine goesL_ (some 6) rfl rfl Tryz.func11 (by kernel_rfl) rfl #[] rfl (by (try simp only [List.map_toArray, List.map_cons, List.map_nil]); first | done | rfl | (simp only [List.length_drop, List.length_take]; rfl)) ?_; (with_reducible refine (muslinlaw12_live.calls  t144 _ ?sideGl A22.out).mono ?_); (case sideGl => exact HGl.out.below (by repeat (first | (with_reducible first | exact HB.out | apply below_alloc | apply pw_below_drewN | apply below_drew1) | exact HB.out))); rintro e w23 ⟨rfl, hb⟩; refine ⟨_, rfl, ?_⟩; have n0_ := Aside0.mk (below_step (by repeat (first | (with_reducible first | exact HB.out | apply below_alloc | apply pw_below_drewN | apply below_drew1) | exact HB.out)) hb); clear HB; have HB := n0_; clear n0_; (try clear hb); (try clear hb2); (try clear hk); (try clear hi)))
    go_ret
    exact ⟨by first | rfl | (simp [errW_none, errW_some] <;> rfl) | (simp [*, errW_none, errW_some] <;> rfl), by repeat (first | (with_reducible first | exact HB.out | apply below_alloc | apply pw_below_drewN | apply below_drew1) | exact HB.out)⟩
  subst c3
  have H1 : ((ent_Text.f a0).bind fun t145 => ((muslinref12_Text.f k a0).bind fun t146 => (if t145.toList = t146.toList then ((ent_Value.f a0).bind fun t147 => ((muslinref12_Value.f k a0).bind fun t148 => (if t147.toList = t148.toList then ((muslinlaw12_live.f).bind fun t149 => (some t149)) else (some false)))) else (some false)))) = some r := by rw [if_pos rfl] at H; exact H
  clear H; have H := H1; clear H1; replace H := Option.bind_eq_some_iff.mp H; obtain ⟨t145, A40, H⟩ := H; replace H : ((muslinref12_Text.f k a0).bind fun t146 => (if t145.toList = t146.toList then ((ent_Value.f a0).bind fun t147 => ((muslinref12_Value.f k a0).bind fun t148 => (if t147.toList = t148.toList then ((muslinlaw12_live.f).bind fun t149 => (some t149)) else (some false)))) else (some false))) = some r := H; have A4 := Aside0.mk A40; clear A40; replace H := Option.bind_eq_some_iff.mp H; obtain ⟨t146, A50, H⟩ := H; replace H : (if t145.toList = t146.toList then ((ent_Value.f a0).bind fun t147 => ((muslinref12_Value.f k a0).bind fun t148 => (if t147.toList = t148.toList then ((muslinlaw12_live.f).bind fun t149 => (some t149)) else (some false)))) else (some false)) = some r := H; have A5 := Aside0.mk A50; clear A50
  by_cases c6 : t145.toList = t146.toList
  case neg =>
    rw [if_neg c6] at H; have c6b0 : (t145.toList == t146.toList) = false := beq_eq_false_iff_ne.mpr c6; have c6b1 : (t145.toList != t146.toList) = true := bne_iff_ne.mpr c6; obtain rfl := Option.some.inj H
    go_enter Tryz.func4, Tryz.ntmps4
    go_wp2_with (first | ((with_reducible refine gate_callee (f := 10) rfl ?_); refine goesL_ (some 4) rfl rfl Tryz.func10 (by kernel_rfl) rfl #[.string a0] rfl (by (try simp only [List.map_toArray, List.map_cons, List.map_nil]); first | done | rfl | (simp only [List.length_drop, List.length_take]; rfl)) ?_; (with_reducible refine (muslinlaw12_short.calls a0 true _ A2.out).mono ?_); rintro e w' ⟨rfl, ⟨nd, rfl⟩⟩; refine ⟨_, rfl, ?_⟩) | ((with_reducible refine gate_callee (f := 14) rfl ?_); refine goesL_ (some 8) rfl rfl Tryz.func14 (by kernel_rfl) rfl #[.string a0] rfl (by (try simp only [List.map_toArray, List.map_cons, List.map_nil]); first | done | rfl | (simp only [List.length_drop, List.length_take]; rfl)) ?_; (with_reducible refine (ent_Text.calls a0 t145 _ A4.out).mono ?_); rintro e w20 ⟨rfl, hb⟩; refine ⟨_, rfl, ?_⟩; have n0_ := Aside0.mk (below_step (by repeat (first | (with_reducible first | exact HB.out | apply below_alloc | apply pw_below_drewN | apply below_drew1) | exact HB.out)) hb); clear HB; have HB := n0_; clear n0_; (try clear hb); (try clear hb2); (try clear hk); (try clear hi)) | ((with_reducible refine gate_callee (f := 15) rfl ?_); refine goesL_ (some 10) rfl rfl Tryz.func15 (by kernel_rfl) rfl #[.string a0] rfl (by (try simp only [List.map_toArray, List.map_cons, List.map_nil]); first | done | rfl | (simp only [List.length_drop, List.length_take]; rfl)) ?_; (with_reducible refine (muslinref12_Text.calls k a0 t146 _ A5.out).mono ?_); rintro e w21 ⟨rfl, hb⟩; refine ⟨_, rfl, ?_⟩; have n0_ := Aside0.mk (below_step (by repeat (first | (with_reducible first | exact HB.out | apply below_alloc | apply pw_below_drewN | apply below_drew1) | exact HB.out)) hb); clear HB; have HB := n0_; clear n0_; (try clear hb); (try clear hb2); (try clear hk); (try clear hi)))
    go_ret
    exact ⟨by first | rfl | (simp [errW_none, errW_some] <;> rfl) | (simp [*, errW_none, errW_some] <;> rfl), by repeat (first | (with_reducible first | exact HB.out | apply below_alloc | apply pw_below_drewN | apply below_drew1) | exact HB.out)⟩
  rw [if_pos c6] at H; have c6b0 : (t145.toList == t146.toList) = true := beq_iff_eq.mpr c6; have c6b1 : (t145.toList != t146.toList) = false := bne_eq_false_iff_eq.mpr c6; clear c6; replace H := Option.bind_eq_some_iff.mp H; obtain ⟨t147, A70, H⟩ := H; replace H : ((muslinref12_Value.f k a0).bind fun t148 => (if t147.toList = t148.toList then ((muslinlaw12_live.f).bind fun t149 => (some t149)) else (some false))) = some r := H; have A7 := Aside0.mk A70; clear A70; replace H := Option.bind_eq_some_iff.mp H; obtain ⟨t148, A80, H⟩ := H; replace H : (if t147.toList = t148.toList then ((muslinlaw12_live.f).bind fun t149 => (some t149)) else (some false)) = some r := H; have A8 := Aside0.mk A80; clear A80
  by_cases c9 : t147.toList = t148.toList
  case neg =>
    rw [if_neg c9] at H; have c9b0 : (t147.toList == t148.toList) = false := beq_eq_false_iff_ne.mpr c9; have c9b1 : (t147.toList != t148.toList) = true := bne_iff_ne.mpr c9; obtain rfl := Option.some.inj H
    go_enter Tryz.func4, Tryz.ntmps4
    go_wp2_with (first | ((with_reducible refine gate_callee (f := 10) rfl ?_); refine goesL_ (some 4) rfl rfl Tryz.func10 (by kernel_rfl) rfl #[.string a0] rfl (by (try simp only [List.map_toArray, List.map_cons, List.map_nil]); first | done | rfl | (simp only [List.length_drop, List.length_take]; rfl)) ?_; (with_reducible refine (muslinlaw12_short.calls a0 true _ A2.out).mono ?_); rintro e w' ⟨rfl, ⟨nd, rfl⟩⟩; refine ⟨_, rfl, ?_⟩) | ((with_reducible refine gate_callee (f := 14) rfl ?_); refine goesL_ (some 8) rfl rfl Tryz.func14 (by kernel_rfl) rfl #[.string a0] rfl (by (try simp only [List.map_toArray, List.map_cons, List.map_nil]); first | done | rfl | (simp only [List.length_drop, List.length_take]; rfl)) ?_; (with_reducible refine (ent_Text.calls a0 t145 _ A4.out).mono ?_); rintro e w16 ⟨rfl, hb⟩; refine ⟨_, rfl, ?_⟩; have n0_ := Aside0.mk (below_step (by repeat (first | (with_reducible first | exact HB.out | apply below_alloc | apply pw_below_drewN | apply below_drew1) | exact HB.out)) hb); clear HB; have HB := n0_; clear n0_; (try clear hb); (try clear hb2); (try clear hk); (try clear hi)) | ((with_reducible refine gate_callee (f := 15) rfl ?_); refine goesL_ (some 10) rfl rfl Tryz.func15 (by kernel_rfl) rfl #[.string a0] rfl (by (try simp only [List.map_toArray, List.map_cons, List.map_nil]); first | done | rfl | (simp only [List.length_drop, List.length_take]; rfl)) ?_; (with_reducible refine (muslinref12_Text.calls k a0 t146 _ A5.out).mono ?_); rintro e w17 ⟨rfl, hb⟩; refine ⟨_, rfl, ?_⟩; have n0_ := Aside0.mk (below_step (by repeat (first | (with_reducible first | exact HB.out | apply below_alloc | apply pw_below_drewN | apply below_drew1) | exact HB.out)) hb); clear HB; have HB := n0_; clear n0_; (try clear hb); (try clear hb2); (try clear hk); (try clear hi)) | (go_at_call 16; (with_reducible refine (ent_Value.calls a0 t147 _ ?sideGl A7.out).mono ?_); (case sideGl => exact HGl.out.below (by repeat (first | (with_reducible first | exact HB.out | apply below_alloc | apply pw_below_drewN | apply below_drew1) | exact HB.out))); rintro e w18 ⟨rfl, hb⟩; have n0_ := Aside0.mk (below_step (by repeat (first | (with_reducible first | exact HB.out | apply below_alloc | apply pw_below_drewN | apply below_drew1) | exact HB.out)) hb); clear HB; have HB := n0_; clear n0_; (try clear hb); (try clear hb2); (try clear hk); (try clear hi)) | (go_at_call 17; (with_reducible refine (muslinref12_Value.calls k a0 t148 _ A8.out).mono ?_); rintro e w19 ⟨rfl, hb⟩; have n0_ := Aside0.mk (below_step (by repeat (first | (with_reducible first | exact HB.out | apply below_alloc | apply pw_below_drewN | apply below_drew1) | exact HB.out)) hb); clear HB; have HB := n0_; clear n0_; (try clear hb); (try clear hb2); (try clear hk); (try clear hi)))
    go_ret
    exact ⟨by first | rfl | (simp [errW_none, errW_some] <;> rfl) | (simp [*, errW_none, errW_some] <;> rfl), by repeat (first | (with_reducible first | exact HB.out | apply below_alloc | apply pw_below_drewN | apply below_drew1) | exact HB.out)⟩
  rw [if_pos c9] at H; have c9b0 : (t147.toList == t148.toList) = true := beq_iff_eq.mpr c9; have c9b1 : (t147.toList != t148.toList) = false := bne_eq_false_iff_eq.mpr c9; clear c9; replace H := Option.bind_eq_some_iff.mp H; obtain ⟨t149, A100, H⟩ := H; replace H : (some t149) = some r := H; have A10 := Aside0.mk A100; clear A100; obtain rfl := Option.some.inj H
  go_enter Tryz.func4, Tryz.ntmps4
  go_wp2_with (first | ((with_reducible refine gate_callee (f := 10) rfl ?_); refine goesL_ (some 4) rfl rfl Tryz.func10 (by kernel_rfl) rfl #[.string a0] rfl (by (try simp only [List.map_toArray, List.map_cons, List.map_nil]); first | done | rfl | (simp only [List.length_drop, List.length_take]; rfl)) ?_; (with_reducible refine (muslinlaw12_short.calls a0 true _ A2.out).mono ?_); rintro e w' ⟨rfl, ⟨nd, rfl⟩⟩; refine ⟨_, rfl, ?_⟩) | ((with_reducible refine gate_callee (f := 14) rfl ?_); refine goesL_ (some 8) rfl rfl Tryz.func14 (by kernel_rfl) rfl #[.string a0] rfl (by (try simp only [List.map_toArray, List.map_cons, List.map_nil]); first | done | rfl | (simp only [List.length_drop, List.length_take]; rfl)) ?_; (with_reducible refine (ent_Text.calls a0 t145 _ A4.out).mono ?_); rintro e w11 ⟨rfl, hb⟩; refine ⟨_, rfl, ?_⟩; have n0_ := Aside0.mk (below_step (by repeat (first | (with_reducible first | exact HB.out | apply below_alloc | apply pw_below_drewN | apply below_drew1) | exact HB.out)) hb); clear HB; have HB := n0_; clear n0_; (try clear hb); (try clear hb2); (try clear hk); (try clear hi)) | ((with_reducible refine gate_callee (f := 15) rfl ?_); refine goesL_ (some 10) rfl rfl Tryz.func15 (by kernel_rfl) rfl #[.string a0] rfl (by (try simp only [List.map_toArray, List.map_cons, List.map_nil]); first | done | rfl | (simp only [List.length_drop, List.length_take]; rfl)) ?_; (with_reducible refine (muslinref12_Text.calls k a0 t146 _ A5.out).mono ?_); rintro e w12 ⟨rfl, hb⟩; refine ⟨_, rfl, ?_⟩; have n0_ := Aside0.mk (below_step (by repeat (first | (with_reducible first | exact HB.out | apply below_alloc | apply pw_below_drewN | apply below_drew1) | exact HB.out)) hb); clear HB; have HB := n0_; clear n0_; (try clear hb); (try clear hb2); (try clear hk); (try clear hi)) | (go_at_call 16; (with_reducible refine (ent_Value.calls a0 t147 _ ?sideGl A7.out).mono ?_); (case sideGl => exact HGl.out.below (by repeat (first | (with_reducible first | exact HB.out | apply below_alloc | apply pw_below_drewN | apply below_drew1) | exact HB.out))); rintro e w13 ⟨rfl, hb⟩; have n0_ := Aside0.mk (below_step (by repeat (first | (with_reducible first | exact HB.out | apply below_alloc | apply pw_below_drewN | apply below_drew1) | exact HB.out)) hb); clear HB; have HB := n0_; clear n0_; (try clear hb); (try clear hb2); (try clear hk); (try clear hi)) | (go_at_call 17; (with_reducible refine (muslinref12_Value.calls k a0 t148 _ A8.out).mono ?_); rintro e w14 ⟨rfl, hb⟩; have n0_ := Aside0.mk (below_step (by repeat (first | (with_reducible first | exact HB.out | apply below_alloc | apply pw_below_drewN | apply below_drew1) | exact HB.out)) hb); clear HB; have HB := n0_; clear n0_; (try clear hb); (try clear hb2); (try clear hk); (try clear hi)) | (go_at_call 11; (with_reducible refine (muslinlaw12_live.calls  t149 _ ?sideGl A10.out).mono ?_); (case sideGl => exact HGl.out.below (by repeat (first | (with_reducible first | exact HB.out | apply below_alloc | apply pw_below_drewN | apply below_drew1) | exact HB.out))); rintro e w15 ⟨rfl, hb⟩; have n0_ := Aside0.mk (below_step (by repeat (first | (with_reducible first | exact HB.out | apply below_alloc | apply pw_below_drewN | apply below_drew1) | exact HB.out)) hb); clear HB; have HB := n0_; clear n0_; (try clear hb); (try clear hb2); (try clear hk); (try clear hi)))
  go_ret
  exact ⟨by first | rfl | (simp [errW_none, errW_some] <;> rfl) | (simp [*, errW_none, errW_some] <;> rfl), by repeat (first | (with_reducible first | exact HB.out | apply below_alloc | apply pw_below_drewN | apply below_drew1) | exact HB.out)⟩
def muslinlaw12_EntWrites.Pure : Prop := ∀ (a0 : ByteArray), a0.size ≤ 140737488351232 → ∃ k, muslinlaw12_EntWrites.f k a0 = some true
theorem muslinlaw12_EntWrites.walk (P : muslinlaw12_EntWrites.Pure) (a0 : ByteArray) (w : World) (hGl : Ent.GlobE w) (w0 : a0.size ≤ 140737488351232) :
    Calls Tryz.prog 4 #[.string a0] w fun e w' => e = .returned (.bool true) ∧ Below w.heap.size w w' := by
  obtain ⟨k, h⟩ := P a0 w0
  refine (muslinlaw12_EntWrites.calls k a0 true w hGl h).mono ?_
  rintro e w' ⟨rfl, hd⟩
  exact ⟨rfl, hd⟩
def muslinlaw12_EntBack.f (a0 : ByteArray) : Option (Bool) := (muslinlaw12_short.f a0).bind fun t150 => (if t150 = true then ((ent_Text.f a0).bind fun t152 => ((ent_Decode.f t152).bind fun t153 => (if t153.toList = a0.toList then ((ent_Value.f a0).bind fun t154 => ((ent_Decode.f t154).bind fun t155 => (if t155.toList = a0.toList then ((muslinlaw12_live.f).bind fun t156 => (some t156)) else (some false)))) else (some false)))) else ((muslinlaw12_live.f).bind fun t151 => (some t151)))
set_option maxHeartbeats 8000000 in
set_option maxRecDepth 100000 in
theorem muslinlaw12_EntBack.calls (a0 : ByteArray) (r : Bool) (w : World) (hGl : Ent.GlobE w) (h : muslinlaw12_EntBack.f a0 = some r) :
    Calls Tryz.prog 5 #[.string a0] w fun e w' => e = .returned (.bool r) ∧ Below w.heap.size w w' := by
  have HGl := Aside0.mk hGl; clear hGl; have HB := Aside0.mk (Below.refl w.heap.size w); have H : ((muslinlaw12_short.f a0).bind fun t150 => (if t150 = true then ((ent_Text.f a0).bind fun t152 => ((ent_Decode.f t152).bind fun t153 => (if t153.toList = a0.toList then ((ent_Value.f a0).bind fun t154 => ((ent_Decode.f t154).bind fun t155 => (if t155.toList = a0.toList then ((muslinlaw12_live.f).bind fun t156 => (some t156)) else (some false)))) else (some false)))) else ((muslinlaw12_live.f).bind fun t151 => (some t151)))) = some r := h; clear h; replace H := Option.bind_eq_some_iff.mp H; obtain ⟨t150, A20, H⟩ := H; replace H : (if t150 = true then ((ent_Text.f a0).bind fun t152 => ((ent_Decode.f t152).bind fun t153 => (if t153.toList = a0.toList then ((ent_Value.f a0).bind fun t154 => ((ent_Decode.f t154).bind fun t155 => (if t155.toList = a0.toList then ((muslinlaw12_live.f).bind fun t156 => (some t156)) else (some false)))) else (some false)))) else ((muslinlaw12_live.f).bind fun t151 => (some t151))) = some r := H; have A2 := Aside0.mk A20; clear A20
  by_cases c3 : t150 = true
  case neg =>
    replace c3 := Bool.eq_false_iff.mpr c3; subst c3
    have H1 : ((muslinlaw12_live.f).bind fun t151 => (some t151)) = some r := by rw [if_neg (show ¬ (false = true) by decide)] at H; exact H
    clear H; have H := H1; clear H1; replace H := Option.bind_eq_some_iff.mp H; obtain ⟨t151, A220, H⟩ := H; replace H : (some t151) = some r := H; have A22 := Aside0.mk A220; clear A220; obtain rfl := Option.some.inj H
    go_enter Tryz.func5, Tryz.ntmps5
    go_wp2_with (first | ((with_reducible refine gate_callee (f := 10) rfl ?_); refine goesL_ (some 4) rfl rfl Tryz.func10 (by kernel_rfl) rfl #[.string a0] rfl (by (try simp only [List.map_toArray, List.map_cons, List.map_nil]); first | done | rfl | (simp only [List.length_drop, List.length_take]; rfl)) ?_; (with_reducible refine (muslinlaw12_short.calls a0 false _ A2.out).mono ?_); rintro e w' ⟨rfl, ⟨nd, rfl⟩⟩; refine ⟨_, rfl, ?_⟩) | ((with_reducible refine gate_callee (f := 11) rfl ?_); refine goesL_ (some 6) rfl rfl Tryz.func11 (by kernel_rfl) rfl #[] rfl (by (try simp only [List.map_toArray, List.map_cons, List.map_nil]); first | done | rfl | (simp only [List.length_drop, List.length_take]; rfl)) ?_; (with_reducible refine (muslinlaw12_live.calls  t151 _ ?sideGl A22.out).mono ?_); (case sideGl => exact HGl.out.below (by repeat (first | (with_reducible first | exact HB.out | apply below_alloc | apply pw_below_drewN | apply below_drew1) | exact HB.out))); rintro e w23 ⟨rfl, hb⟩; refine ⟨_, rfl, ?_⟩; have n0_ := Aside0.mk (below_step (by repeat (first | (with_reducible first | exact HB.out | apply below_alloc | apply pw_below_drewN | apply below_drew1) | exact HB.out)) hb); clear HB; have HB := n0_; clear n0_; (try clear hb); (try clear hb2); (try clear hk); (try clear hi)))
    go_ret
    exact ⟨by first | rfl | (simp [errW_none, errW_some] <;> rfl) | (simp [*, errW_none, errW_some] <;> rfl), by repeat (first | (with_reducible first | exact HB.out | apply below_alloc | apply pw_below_drewN | apply below_drew1) | exact HB.out)⟩
  subst c3
  have H1 : ((ent_Text.f a0).bind fun t152 => ((ent_Decode.f t152).bind fun t153 => (if t153.toList = a0.toList then ((ent_Value.f a0).bind fun t154 => ((ent_Decode.f t154).bind fun t155 => (if t155.toList = a0.toList then ((muslinlaw12_live.f).bind fun t156 => (some t156)) else (some false)))) else (some false)))) = some r := by rw [if_pos rfl] at H; exact H
  clear H; have H := H1; clear H1; replace H := Option.bind_eq_some_iff.mp H; obtain ⟨t152, A40, H⟩ := H; replace H : ((ent_Decode.f t152).bind fun t153 => (if t153.toList = a0.toList then ((ent_Value.f a0).bind fun t154 => ((ent_Decode.f t154).bind fun t155 => (if t155.toList = a0.toList then ((muslinlaw12_live.f).bind fun t156 => (some t156)) else (some false)))) else (some false))) = some r := H; have A4 := Aside0.mk A40; clear A40; replace H := Option.bind_eq_some_iff.mp H; obtain ⟨t153, A50, H⟩ := H; replace H : (if t153.toList = a0.toList then ((ent_Value.f a0).bind fun t154 => ((ent_Decode.f t154).bind fun t155 => (if t155.toList = a0.toList then ((muslinlaw12_live.f).bind fun t156 => (some t156)) else (some false)))) else (some false)) = some r := H; have A5 := Aside0.mk A50; clear A50
  by_cases c6 : t153.toList = a0.toList
  case neg =>
    rw [if_neg c6] at H; have c6b0 : (t153.toList == a0.toList) = false := beq_eq_false_iff_ne.mpr c6; have c6b1 : (t153.toList != a0.toList) = true := bne_iff_ne.mpr c6; obtain rfl := Option.some.inj H
    go_enter Tryz.func5, Tryz.ntmps5
    go_wp2_with (first | ((with_reducible refine gate_callee (f := 10) rfl ?_); refine goesL_ (some 4) rfl rfl Tryz.func10 (by kernel_rfl) rfl #[.string a0] rfl (by (try simp only [List.map_toArray, List.map_cons, List.map_nil]); first | done | rfl | (simp only [List.length_drop, List.length_take]; rfl)) ?_; (with_reducible refine (muslinlaw12_short.calls a0 true _ A2.out).mono ?_); rintro e w' ⟨rfl, ⟨nd, rfl⟩⟩; refine ⟨_, rfl, ?_⟩) | ((with_reducible refine gate_callee (f := 14) rfl ?_); refine goesL_ (some 8) rfl rfl Tryz.func14 (by kernel_rfl) rfl #[.string a0] rfl (by (try simp only [List.map_toArray, List.map_cons, List.map_nil]); first | done | rfl | (simp only [List.length_drop, List.length_take]; rfl)) ?_; (with_reducible refine (ent_Text.calls a0 t152 _ A4.out).mono ?_); rintro e w20 ⟨rfl, hb⟩; refine ⟨_, rfl, ?_⟩; have n0_ := Aside0.mk (below_step (by repeat (first | (with_reducible first | exact HB.out | apply below_alloc | apply pw_below_drewN | apply below_drew1) | exact HB.out)) hb); clear HB; have HB := n0_; clear n0_; (try clear hb); (try clear hb2); (try clear hk); (try clear hi)) | ((with_reducible refine gate_callee (f := 12) rfl ?_); refine goesL_ (some 9) rfl rfl Tryz.func12 (by kernel_rfl) rfl #[.string t152] rfl (by (try simp only [List.map_toArray, List.map_cons, List.map_nil]); first | done | rfl | (simp only [List.length_drop, List.length_take]; rfl)) ?_; (with_reducible refine (ent_Decode.calls t152 t153 _ ?sideGl A5.out).mono ?_); (case sideGl => exact HGl.out.below (by repeat (first | (with_reducible first | exact HB.out | apply below_alloc | apply pw_below_drewN | apply below_drew1) | exact HB.out))); rintro e w21 ⟨rfl, hb⟩; refine ⟨_, rfl, ?_⟩; have n0_ := Aside0.mk (below_step (by repeat (first | (with_reducible first | exact HB.out | apply below_alloc | apply pw_below_drewN | apply below_drew1) | exact HB.out)) hb); clear HB; have HB := n0_; clear n0_; (try clear hb); (try clear hb2); (try clear hk); (try clear hi)))
    go_ret
    exact ⟨by first | rfl | (simp [errW_none, errW_some] <;> rfl) | (simp [*, errW_none, errW_some] <;> rfl), by repeat (first | (with_reducible first | exact HB.out | apply below_alloc | apply pw_below_drewN | apply below_drew1) | exact HB.out)⟩
  rw [if_pos c6] at H; have c6b0 : (t153.toList == a0.toList) = true := beq_iff_eq.mpr c6; have c6b1 : (t153.toList != a0.toList) = false := bne_eq_false_iff_eq.mpr c6; clear c6; replace H := Option.bind_eq_some_iff.mp H; obtain ⟨t154, A70, H⟩ := H; replace H : ((ent_Decode.f t154).bind fun t155 => (if t155.toList = a0.toList then ((muslinlaw12_live.f).bind fun t156 => (some t156)) else (some false))) = some r := H; have A7 := Aside0.mk A70; clear A70; replace H := Option.bind_eq_some_iff.mp H; obtain ⟨t155, A80, H⟩ := H; replace H : (if t155.toList = a0.toList then ((muslinlaw12_live.f).bind fun t156 => (some t156)) else (some false)) = some r := H; have A8 := Aside0.mk A80; clear A80
  by_cases c9 : t155.toList = a0.toList
  case neg =>
    rw [if_neg c9] at H; have c9b0 : (t155.toList == a0.toList) = false := beq_eq_false_iff_ne.mpr c9; have c9b1 : (t155.toList != a0.toList) = true := bne_iff_ne.mpr c9; obtain rfl := Option.some.inj H
    go_enter Tryz.func5, Tryz.ntmps5
    go_wp2_with (first | ((with_reducible refine gate_callee (f := 10) rfl ?_); refine goesL_ (some 4) rfl rfl Tryz.func10 (by kernel_rfl) rfl #[.string a0] rfl (by (try simp only [List.map_toArray, List.map_cons, List.map_nil]); first | done | rfl | (simp only [List.length_drop, List.length_take]; rfl)) ?_; (with_reducible refine (muslinlaw12_short.calls a0 true _ A2.out).mono ?_); rintro e w' ⟨rfl, ⟨nd, rfl⟩⟩; refine ⟨_, rfl, ?_⟩) | ((with_reducible refine gate_callee (f := 14) rfl ?_); refine goesL_ (some 8) rfl rfl Tryz.func14 (by kernel_rfl) rfl #[.string a0] rfl (by (try simp only [List.map_toArray, List.map_cons, List.map_nil]); first | done | rfl | (simp only [List.length_drop, List.length_take]; rfl)) ?_; (with_reducible refine (ent_Text.calls a0 t152 _ A4.out).mono ?_); rintro e w16 ⟨rfl, hb⟩; refine ⟨_, rfl, ?_⟩; have n0_ := Aside0.mk (below_step (by repeat (first | (with_reducible first | exact HB.out | apply below_alloc | apply pw_below_drewN | apply below_drew1) | exact HB.out)) hb); clear HB; have HB := n0_; clear n0_; (try clear hb); (try clear hb2); (try clear hk); (try clear hi)) | ((with_reducible refine gate_callee (f := 12) rfl ?_); refine goesL_ (some 9) rfl rfl Tryz.func12 (by kernel_rfl) rfl #[.string t152] rfl (by (try simp only [List.map_toArray, List.map_cons, List.map_nil]); first | done | rfl | (simp only [List.length_drop, List.length_take]; rfl)) ?_; (with_reducible refine (ent_Decode.calls t152 t153 _ ?sideGl A5.out).mono ?_); (case sideGl => exact HGl.out.below (by repeat (first | (with_reducible first | exact HB.out | apply below_alloc | apply pw_below_drewN | apply below_drew1) | exact HB.out))); rintro e w17 ⟨rfl, hb⟩; refine ⟨_, rfl, ?_⟩; have n0_ := Aside0.mk (below_step (by repeat (first | (with_reducible first | exact HB.out | apply below_alloc | apply pw_below_drewN | apply below_drew1) | exact HB.out)) hb); clear HB; have HB := n0_; clear n0_; (try clear hb); (try clear hb2); (try clear hk); (try clear hi)) | (go_at_call 16; (with_reducible refine (ent_Value.calls a0 t154 _ ?sideGl A7.out).mono ?_); (case sideGl => exact HGl.out.below (by repeat (first | (with_reducible first | exact HB.out | apply below_alloc | apply pw_below_drewN | apply below_drew1) | exact HB.out))); rintro e w18 ⟨rfl, hb⟩; have n0_ := Aside0.mk (below_step (by repeat (first | (with_reducible first | exact HB.out | apply below_alloc | apply pw_below_drewN | apply below_drew1) | exact HB.out)) hb); clear HB; have HB := n0_; clear n0_; (try clear hb); (try clear hb2); (try clear hk); (try clear hi)) | (go_at_call 12; (with_reducible refine (ent_Decode.calls t154 t155 _ ?sideGl A8.out).mono ?_); (case sideGl => exact HGl.out.below (by repeat (first | (with_reducible first | exact HB.out | apply below_alloc | apply pw_below_drewN | apply below_drew1) | exact HB.out))); rintro e w19 ⟨rfl, hb⟩; have n0_ := Aside0.mk (below_step (by repeat (first | (with_reducible first | exact HB.out | apply below_alloc | apply pw_below_drewN | apply below_drew1) | exact HB.out)) hb); clear HB; have HB := n0_; clear n0_; (try clear hb); (try clear hb2); (try clear hk); (try clear hi)))
    go_ret
    exact ⟨by first | rfl | (simp [errW_none, errW_some] <;> rfl) | (simp [*, errW_none, errW_some] <;> rfl), by repeat (first | (with_reducible first | exact HB.out | apply below_alloc | apply pw_below_drewN | apply below_drew1) | exact HB.out)⟩
  rw [if_pos c9] at H; have c9b0 : (t155.toList == a0.toList) = true := beq_iff_eq.mpr c9; have c9b1 : (t155.toList != a0.toList) = false := bne_eq_false_iff_eq.mpr c9; clear c9; replace H := Option.bind_eq_some_iff.mp H; obtain ⟨t156, A100, H⟩ := H; replace H : (some t156) = some r := H; have A10 := Aside0.mk A100; clear A100; obtain rfl := Option.some.inj H
  go_enter Tryz.func5, Tryz.ntmps5
  go_wp2_with (first | ((with_reducible refine gate_callee (f := 10) rfl ?_); refine goesL_ (some 4) rfl rfl Tryz.func10 (by kernel_rfl) rfl #[.string a0] rfl (by (try simp only [List.map_toArray, List.map_cons, List.map_nil]); first | done | rfl | (simp only [List.length_drop, List.length_take]; rfl)) ?_; (with_reducible refine (muslinlaw12_short.calls a0 true _ A2.out).mono ?_); rintro e w' ⟨rfl, ⟨nd, rfl⟩⟩; refine ⟨_, rfl, ?_⟩) | ((with_reducible refine gate_callee (f := 14) rfl ?_); refine goesL_ (some 8) rfl rfl Tryz.func14 (by kernel_rfl) rfl #[.string a0] rfl (by (try simp only [List.map_toArray, List.map_cons, List.map_nil]); first | done | rfl | (simp only [List.length_drop, List.length_take]; rfl)) ?_; (with_reducible refine (ent_Text.calls a0 t152 _ A4.out).mono ?_); rintro e w11 ⟨rfl, hb⟩; refine ⟨_, rfl, ?_⟩; have n0_ := Aside0.mk (below_step (by repeat (first | (with_reducible first | exact HB.out | apply below_alloc | apply pw_below_drewN | apply below_drew1) | exact HB.out)) hb); clear HB; have HB := n0_; clear n0_; (try clear hb); (try clear hb2); (try clear hk); (try clear hi)) | ((with_reducible refine gate_callee (f := 12) rfl ?_); refine goesL_ (some 9) rfl rfl Tryz.func12 (by kernel_rfl) rfl #[.string t152] rfl (by (try simp only [List.map_toArray, List.map_cons, List.map_nil]); first | done | rfl | (simp only [List.length_drop, List.length_take]; rfl)) ?_; (with_reducible refine (ent_Decode.calls t152 t153 _ ?sideGl A5.out).mono ?_); (case sideGl => exact HGl.out.below (by repeat (first | (with_reducible first | exact HB.out | apply below_alloc | apply pw_below_drewN | apply below_drew1) | exact HB.out))); rintro e w12 ⟨rfl, hb⟩; refine ⟨_, rfl, ?_⟩; have n0_ := Aside0.mk (below_step (by repeat (first | (with_reducible first | exact HB.out | apply below_alloc | apply pw_below_drewN | apply below_drew1) | exact HB.out)) hb); clear HB; have HB := n0_; clear n0_; (try clear hb); (try clear hb2); (try clear hk); (try clear hi)) | (go_at_call 16; (with_reducible refine (ent_Value.calls a0 t154 _ ?sideGl A7.out).mono ?_); (case sideGl => exact HGl.out.below (by repeat (first | (with_reducible first | exact HB.out | apply below_alloc | apply pw_below_drewN | apply below_drew1) | exact HB.out))); rintro e w13 ⟨rfl, hb⟩; have n0_ := Aside0.mk (below_step (by repeat (first | (with_reducible first | exact HB.out | apply below_alloc | apply pw_below_drewN | apply below_drew1) | exact HB.out)) hb); clear HB; have HB := n0_; clear n0_; (try clear hb); (try clear hb2); (try clear hk); (try clear hi)) | (go_at_call 12; (with_reducible refine (ent_Decode.calls t154 t155 _ ?sideGl A8.out).mono ?_); (case sideGl => exact HGl.out.below (by repeat (first | (with_reducible first | exact HB.out | apply below_alloc | apply pw_below_drewN | apply below_drew1) | exact HB.out))); rintro e w14 ⟨rfl, hb⟩; have n0_ := Aside0.mk (below_step (by repeat (first | (with_reducible first | exact HB.out | apply below_alloc | apply pw_below_drewN | apply below_drew1) | exact HB.out)) hb); clear HB; have HB := n0_; clear n0_; (try clear hb); (try clear hb2); (try clear hk); (try clear hi)) | (go_at_call 11; (with_reducible refine (muslinlaw12_live.calls  t156 _ ?sideGl A10.out).mono ?_); (case sideGl => exact HGl.out.below (by repeat (first | (with_reducible first | exact HB.out | apply below_alloc | apply pw_below_drewN | apply below_drew1) | exact HB.out))); rintro e w15 ⟨rfl, hb⟩; have n0_ := Aside0.mk (below_step (by repeat (first | (with_reducible first | exact HB.out | apply below_alloc | apply pw_below_drewN | apply below_drew1) | exact HB.out)) hb); clear HB; have HB := n0_; clear n0_; (try clear hb); (try clear hb2); (try clear hk); (try clear hi)))
  go_ret
  exact ⟨by first | rfl | (simp [errW_none, errW_some] <;> rfl) | (simp [*, errW_none, errW_some] <;> rfl), by repeat (first | (with_reducible first | exact HB.out | apply below_alloc | apply pw_below_drewN | apply below_drew1) | exact HB.out)⟩
def muslinlaw12_EntBack.Pure : Prop := ∀ (a0 : ByteArray), a0.size ≤ 140737488351232 → muslinlaw12_EntBack.f a0 = some true
theorem muslinlaw12_EntBack.walk (P : muslinlaw12_EntBack.Pure) (a0 : ByteArray) (w : World) (hGl : Ent.GlobE w) (w0 : a0.size ≤ 140737488351232) :
    Calls Tryz.prog 5 #[.string a0] w fun e w' => e = .returned (.bool true) ∧ Below w.heap.size w w' := by
  have h := P a0 w0
  refine (muslinlaw12_EntBack.calls a0 true w hGl h).mono ?_
  rintro e w' ⟨rfl, hd⟩
  exact ⟨rfl, hd⟩
end Go.Proofs.YtkfcbafjcjmfnaaGreatDoor.P
namespace Go.Proofs.YtkfcbafjcjmfnaaGreatDoor.P
open Go.RowKit Go.Proofs.YtkfcbafjcjmfnaaGreatDoorW.PrintWords Go.Proofs.YtkfcbafjcjmfnaaGreatDoorW.PrintLast Go.Proofs.YtkfcbafjcjmfnaaGreatDoorW.PrintMore
attribute [local go_sem] max2_int min2_int max_two min_two max_three min_three max_four min_four
set_option linter.unusedVariables false
set_option linter.unusedSimpArgs false
def muslinlaw12_EntPlain.l0 : Nat → ByteArray → Int → Option (Bool)
  | 0, _, _ => none
  | k + 1, x0, x3 => if x3 < (x0.size : Int) then (if 0 ≤ x3 then (if (bt x0 x3) = 38 then ((ent_Decode.f x0).bind fun t168 => (if (t168.size : Int) ≤ (x0.size : Int) then ((muslinlaw12_live.f).bind fun t169 => (some t169)) else (some false))) else (muslinlaw12_EntPlain.l0 k x0 (wrap64 (x3 + 1)))) else (none)) else ((ent_Decode.f x0).bind fun t166 => (if t166.toList = x0.toList then ((muslinlaw12_live.f).bind fun t167 => (some t167)) else (some false)))
def muslinlaw12_EntPlain.f (k : Nat) (a0 : ByteArray) : Option (Bool) := (muslinlaw12_short.f a0).bind fun t164 => (if t164 = true then (muslinlaw12_EntPlain.l0 k a0 0) else ((muslinlaw12_live.f).bind fun t165 => (some t165)))
set_option maxHeartbeats 8000000 in
set_option maxRecDepth 100000 in
theorem muslinlaw12_EntPlain.calls (k : Nat) (a0 : ByteArray) (r : Bool) (w : World) (hGl : Ent.GlobE w) (h : muslinlaw12_EntPlain.f k a0 = some r) :
    Calls Tryz.prog 7 #[.string a0] w fun e w' => e = .returned (.bool r) ∧ Below w.heap.size w w' := by
  have HGl := Aside0.mk hGl; clear hGl; have HB := Aside0.mk (Below.refl w.heap.size w); have H : ((muslinlaw12_short.f a0).bind fun t164 => (if t164 = true then (muslinlaw12_EntPlain.l0 k a0 0) else ((muslinlaw12_live.f).bind fun t165 => (some t165)))) = some r := h; clear h; replace H := Option.bind_eq_some_iff.mp H; obtain ⟨t164, A20, H⟩ := H; replace H : (if t164 = true then (muslinlaw12_EntPlain.l0 k a0 0) else ((muslinlaw12_live.f).bind fun t165 => (some t165))) = some r := H; have A2 := Aside0.mk A20; clear A20
  by_cases c3 : t164 = true
  case neg =>
    replace c3 := Bool.eq_false_iff.mpr c3; subst c3
    have H1 : ((muslinlaw12_live.f).bind fun t165 => (some t165)) = some r := by rw [if_neg (show ¬ (false = true) by decide)] at H; exact H
    clear H; have H := H1; clear H1; replace H := Option.bind_eq_some_iff.mp H; obtain ⟨t165, A200, H⟩ := H; replace H : (some t165) = some r := H; have A20 := Aside0.mk A200; clear A200; obtain rfl := Option.some.inj H
    go_enter Tryz.func7, Tryz.ntmps7
    go_wp2_with (first | ((with_reducible refine gate_callee (f := 10) rfl ?_); refine goesL_ (some 5) rfl rfl Tryz.func10 (by kernel_rfl) rfl #[.string a0] rfl (by (try simp only [List.map_toArray, List.map_cons, List.map_nil]); first | done | rfl | (simp only [List.length_drop, List.length_take]; rfl)) ?_; (with_reducible refine (muslinlaw12_short.calls a0 false _ A2.out).mono ?_); rintro e w' ⟨rfl, ⟨nd, rfl⟩⟩; refine ⟨_, rfl, ?_⟩) | ((with_reducible refine gate_callee (f := 11) rfl ?_); refine goesL_ (some 7) rfl rfl Tryz.func11 (by kernel_rfl) rfl #[] rfl (by (try simp only [List.map_toArray, List.map_cons, List.map_nil]); first | done | rfl | (simp only [List.length_drop, List.length_take]; rfl)) ?_; (with_reducible refine (muslinlaw12_live.calls  t165 _ ?sideGl A20.out).mono ?_); (case sideGl => exact HGl.out.below (by repeat (first | (with_reducible first | exact HB.out | apply below_alloc | apply pw_below_drewN | apply below_drew1) | exact HB.out))); rintro e w21 ⟨rfl, hb⟩; refine ⟨_, rfl, ?_⟩; have n0_ := Aside0.mk (below_step (by repeat (first | (with_reducible first | exact HB.out | apply below_alloc | apply pw_below_drewN | apply below_drew1) | exact HB.out)) hb); clear HB; have HB := n0_; clear n0_; (try clear hb); (try clear hb2); (try clear hk); (try clear hi)))
    go_ret
    exact ⟨by first | rfl | (simp [errW_none, errW_some] <;> rfl) | (simp [*, errW_none, errW_some] <;> rfl), by repeat (first | (with_reducible first | exact HB.out | apply below_alloc | apply pw_below_drewN | apply below_drew1) | exact HB.out)⟩
  subst c3
  have H1 : (muslinlaw12_EntPlain.l0 k a0 0) = some r := by rw [if_pos rfl] at H; exact H
  clear H; have H := H1; clear H1; have H' := Aside0.mk H; clear H
  go_enter Tryz.func7, Tryz.ntmps7
  go_wp2_with (first | ((with_reducible refine gate_callee (f := 10) rfl ?_); refine goesL_ (some 5) rfl rfl Tryz.func10 (by kernel_rfl) rfl #[.string a0] rfl (by (try simp only [List.map_toArray, List.map_cons, List.map_nil]); first | done | rfl | (simp only [List.length_drop, List.length_take]; rfl)) ?_; (with_reducible refine (muslinlaw12_short.calls a0 true _ A2.out).mono ?_); rintro e w' ⟨rfl, ⟨nd, rfl⟩⟩; refine ⟨_, rfl, ?_⟩))
  go_loopg [3] k (fun kq v3 w' => ∃ (x3_1 : Int), v3 = .int .i64 x3_1 ∧ Aside0 (muslinlaw12_EntPlain.l0 kq a0 x3_1 = some r) ∧ Aside0 (kq ≤ k) ∧ Aside0 (Below w.heap.size w w'))
  case atStart => exact ⟨(0), (by first | rfl | (simp; done) | (simp [*]; done)), H', ⟨Nat.le_refl _⟩, ⟨by repeat (first | (with_reducible first | exact HB.out | apply below_alloc | apply pw_below_drewN | apply below_drew1) | exact HB.out)⟩⟩
  case round =>
    clear H'; (try clear c1); (try clear p2); (try clear c3); obtain ⟨x3_1, rfl, HA, HK1, HB⟩ := hrel
    cases gk with
    | zero => exact absurd HA.out (by simp [muslinlaw12_EntPlain.l0])
    | succ k1 =>
      have H := HA.out; clear HA; simp only [muslinlaw12_EntPlain.l0] at H
      by_cases c4 : x3_1 < (a0.size : Int)
      case neg =>
        rw [if_neg c4] at H; have c4b0 : decide (x3_1 < (a0.size : Int)) = false := decide_eq_false c4; clear c4; replace H := Option.bind_eq_some_iff.mp H; obtain ⟨t166, A140, H⟩ := H; replace H : (if t166.toList = a0.toList then ((muslinlaw12_live.f).bind fun t167 => (some t167)) else (some false)) = some r := H; have A14 := Aside0.mk A140; clear A140
        by_cases c15 : t166.toList = a0.toList
        case neg =>
          rw [if_neg c15] at H; have c15b0 : (t166.toList == a0.toList) = false := beq_eq_false_iff_ne.mpr c15; have c15b1 : (t166.toList != a0.toList) = true := bne_iff_ne.mpr c15; obtain rfl := Option.some.inj H; go_wp2_with (first | ((with_reducible refine gate_callee (f := 12) rfl ?_); refine goesL_ (some 28) rfl rfl Tryz.func12 (by kernel_rfl) rfl #[.string a0] rfl (by (try simp only [List.map_toArray, List.map_cons, List.map_nil]); first | done | rfl | (simp only [List.length_drop, List.length_take]; rfl)) ?_; (with_reducible refine (ent_Decode.calls a0 t166 _ ?sideGl A14.out).mono ?_); (case sideGl => exact HGl.out.below (by repeat (first | (with_reducible first | exact HB.out | apply below_alloc | apply pw_below_drewN | apply below_drew1) | exact HB.out))); rintro e w19 ⟨rfl, hb⟩; refine ⟨_, rfl, ?_⟩; have n0_ := Aside0.mk (below_step (by repeat (first | (with_reducible first | exact HB.out | apply below_alloc | apply pw_below_drewN | apply below_drew1) | exact HB.out)) hb); clear HB; have HB := n0_; clear n0_; (try clear hb); (try clear hb2); (try clear hk); (try clear hi)))
          go_ret
          exact ⟨by first | rfl | (simp [errW_none, errW_some] <;> rfl) | (simp [*, errW_none, errW_some] <;> rfl), by repeat (first | (with_reducible first | exact HB.out | apply below_alloc | apply pw_below_drewN | apply below_drew1) | exact HB.out)⟩
        rw [if_pos c15] at H; have c15b0 : (t166.toList == a0.toList) = true := beq_iff_eq.mpr c15; have c15b1 : (t166.toList != a0.toList) = false := bne_eq_false_iff_eq.mpr c15; clear c15; replace H := Option.bind_eq_some_iff.mp H; obtain ⟨t167, A160, H⟩ := H; replace H : (some t167) = some r := H; have A16 := Aside0.mk A160; clear A160; obtain rfl := Option.some.inj H; go_wp2_with (first | ((with_reducible refine gate_callee (f := 12) rfl ?_); refine goesL_ (some 28) rfl rfl Tryz.func12 (by kernel_rfl) rfl #[.string a0] rfl (by (try simp only [List.map_toArray, List.map_cons, List.map_nil]); first | done | rfl | (simp only [List.length_drop, List.length_take]; rfl)) ?_; (with_reducible refine (ent_Decode.calls a0 t166 _ ?sideGl A14.out).mono ?_); (case sideGl => exact HGl.out.below (by repeat (first | (with_reducible first | exact HB.out | apply below_alloc | apply pw_below_drewN | apply below_drew1) | exact HB.out))); rintro e w17 ⟨rfl, hb⟩; refine ⟨_, rfl, ?_⟩; have n0_ := Aside0.mk (below_step (by repeat (first | (with_reducible first | exact HB.out | apply below_alloc | apply pw_below_drewN | apply below_drew1) | exact HB.out)) hb); clear HB; have HB := n0_; clear n0_; (try clear hb); (try clear hb2); (try clear hk); (try clear hi)) | (go_at_call 11; (with_reducible refine (muslinlaw12_live.calls  t167 _ ?sideGl A16.out).mono ?_); (case sideGl => exact HGl.out.below (by repeat (first | (with_reducible first | exact HB.out | apply below_alloc | apply pw_below_drewN | apply below_drew1) | exact HB.out))); rintro e w18 ⟨rfl, hb⟩; have n0_ := Aside0.mk (below_step (by repeat (first | (with_reducible first | exact HB.out | apply below_alloc | apply pw_below_drewN | apply below_drew1) | exact HB.out)) hb); clear HB; have HB := n0_; clear n0_; (try clear hb); (try clear hb2); (try clear hk); (try clear hi)))
        go_ret
        exact ⟨by first | rfl | (simp [errW_none, errW_some] <;> rfl) | (simp [*, errW_none, errW_some] <;> rfl), by repeat (first | (with_reducible first | exact HB.out | apply below_alloc | apply pw_below_drewN | apply below_drew1) | exact HB.out)⟩
      rw [if_pos c4] at H; have c4b0 : decide (x3_1 < (a0.size : Int)) = true := decide_eq_true c4; clear c4
      by_cases c5 : 0 ≤ x3_1
      case neg =>
        rw [if_neg c5] at H
        exact absurd H (by simp)
      rw [if_pos c5] at H; have c5b0 : decide (0 ≤ x3_1) = true := decide_eq_true c5; clear c5
      by_cases c7 : (bt a0 x3_1) = 38
      case neg =>
        rw [if_neg c7] at H; have c7b0 : ((bt a0 x3_1) == 38) = false := beq_eq_false_iff_ne.mpr c7; have c7b1 : ((bt a0 x3_1) != 38) = true := bne_iff_ne.mpr c7; have H' := Aside0.mk H; clear H; have p6 : 0 ≤ (x3_1 : Int) := of_decide_eq_true (by first | (with_reducible assumption) | assumption); have q6 : x3_1 < (a0.size : Int) := of_decide_eq_true (by first | (with_reducible assumption) | assumption); have hx6 := bt_at a0 x3_1; replace p6 := eq_true p6; replace q6 := eq_true q6
        go_wp2
        go_roundg k1
        case measure => have := HK1.out; omega
        case rel => exact ⟨(wrap64 (x3_1 + 1)), (by first | rfl | (simp; done) | (simp [*]; done)), H', ⟨by have := HK1.out; omega⟩, ⟨by repeat (first | (with_reducible first | exact HB.out | apply below_alloc | apply pw_below_drewN | apply below_drew1) | exact HB.out)⟩⟩
      rw [if_pos c7] at H; have c7b0 : ((bt a0 x3_1) == 38) = true := beq_iff_eq.mpr c7; have c7b1 : ((bt a0 x3_1) != 38) = false := bne_eq_false_iff_eq.mpr c7; clear c7; replace H := Option.bind_eq_some_iff.mp H; obtain ⟨t168, A80, H⟩ := H; replace H : (if (t168.size : Int) ≤ (a0.size : Int) then ((muslinlaw12_live.f).bind fun t169 => (some t169)) else (some false)) = some r := H; have A8 := Aside0.mk A80; clear A80
      by_cases c9 : (t168.size : Int) ≤ (a0.size : Int)
      case neg =>
        rw [if_neg c9] at H; have c9b0 : decide ((t168.size : Int) ≤ (a0.size : Int)) = false := decide_eq_false c9; have c9b1 : decide (t168.size ≤ a0.size) = false := decide_eq_false (fun h => c9 (Int.ofNat_le.mpr h)); clear c9; obtain rfl := Option.some.inj H; have p6 : 0 ≤ (x3_1 : Int) := of_decide_eq_true (by first | (with_reducible assumption) | assumption); have q6 : x3_1 < (a0.size : Int) := of_decide_eq_true (by first | (with_reducible assumption) | assumption); have hx6 := bt_at a0 x3_1; replace p6 := eq_true p6; replace q6 := eq_true q6; go_wp2_with (first | ((with_reducible refine gate_callee (f := 12) rfl ?_); refine goesL_ (some 19) rfl rfl Tryz.func12 (by kernel_rfl) rfl #[.string a0] rfl (by (try simp only [List.map_toArray, List.map_cons, List.map_nil]); first | done | rfl | (simp only [List.length_drop, List.length_take]; rfl)) ?_; (with_reducible refine (ent_Decode.calls a0 t168 _ ?sideGl A8.out).mono ?_); (case sideGl => exact HGl.out.below (by repeat (first | (with_reducible first | exact HB.out | apply below_alloc | apply pw_below_drewN | apply below_drew1) | exact HB.out))); rintro e w13 ⟨rfl, hb⟩; refine ⟨_, rfl, ?_⟩; have n0_ := Aside0.mk (below_step (by repeat (first | (with_reducible first | exact HB.out | apply below_alloc | apply pw_below_drewN | apply below_drew1) | exact HB.out)) hb); clear HB; have HB := n0_; clear n0_; (try clear hb); (try clear hb2); (try clear hk); (try clear hi)))
        go_ret
        exact ⟨by first | rfl | (simp [errW_none, errW_some] <;> rfl) | (simp [*, errW_none, errW_some] <;> rfl), by repeat (first | (with_reducible first | exact HB.out | apply below_alloc | apply pw_below_drewN | apply below_drew1) | exact HB.out)⟩
      rw [if_pos c9] at H; have c9b0 : decide ((t168.size : Int) ≤ (a0.size : Int)) = true := decide_eq_true c9; have c9b1 : decide (t168.size ≤ a0.size) = true := decide_eq_true (Int.ofNat_le.mp c9); clear c9; replace H := Option.bind_eq_some_iff.mp H; obtain ⟨t169, A100, H⟩ := H; replace H : (some t169) = some r := H; have A10 := Aside0.mk A100; clear A100; obtain rfl := Option.some.inj H; have p6 : 0 ≤ (x3_1 : Int) := of_decide_eq_true (by first | (with_reducible assumption) | assumption); have q6 : x3_1 < (a0.size : Int) := of_decide_eq_true (by first | (with_reducible assumption) | assumption); have hx6 := bt_at a0 x3_1; replace p6 := eq_true p6; replace q6 := eq_true q6; go_wp2_with (first | ((with_reducible refine gate_callee (f := 12) rfl ?_); refine goesL_ (some 19) rfl rfl Tryz.func12 (by kernel_rfl) rfl #[.string a0] rfl (by (try simp only [List.map_toArray, List.map_cons, List.map_nil]); first | done | rfl | (simp only [List.length_drop, List.length_take]; rfl)) ?_; (with_reducible refine (ent_Decode.calls a0 t168 _ ?sideGl A8.out).mono ?_); (case sideGl => exact HGl.out.below (by repeat (first | (with_reducible first | exact HB.out | apply below_alloc | apply pw_below_drewN | apply below_drew1) | exact HB.out))); rintro e w11 ⟨rfl, hb⟩; refine ⟨_, rfl, ?_⟩; have n0_ := Aside0.mk (below_step (by repeat (first | (with_reducible first | exact HB.out | apply below_alloc | apply pw_below_drewN | apply below_drew1) | exact HB.out)) hb); clear HB; have HB := n0_; clear n0_; (try clear hb); (try clear hb2); (try clear hk); (try clear hi)) | (go_at_call 11; (with_reducible refine (muslinlaw12_live.calls  t169 _ ?sideGl A10.out).mono ?_); (case sideGl => exact HGl.out.below (by repeat (first | (with_reducible first | exact HB.out | apply below_alloc | apply pw_below_drewN | apply below_drew1) | exact HB.out))); rintro e w12 ⟨rfl, hb⟩; have n0_ := Aside0.mk (below_step (by repeat (first | (with_reducible first | exact HB.out | apply below_alloc | apply pw_below_drewN | apply below_drew1) | exact HB.out)) hb); clear HB; have HB := n0_; clear n0_; (try clear hb); (try clear hb2); (try clear hk); (try clear hi)))
      go_ret
      exact ⟨by first | rfl | (simp [errW_none, errW_some] <;> rfl) | (simp [*, errW_none, errW_some] <;> rfl), by repeat (first | (with_reducible first | exact HB.out | apply below_alloc | apply pw_below_drewN | apply below_drew1) | exact HB.out)⟩
def muslinlaw12_EntPlain.Pure : Prop := ∀ (a0 : ByteArray), a0.size ≤ 140737488351232 → ∃ k, muslinlaw12_EntPlain.f k a0 = some true
theorem muslinlaw12_EntPlain.walk (P : muslinlaw12_EntPlain.Pure) (a0 : ByteArray) (w : World) (hGl : Ent.GlobE w) (w0 : a0.size ≤ 140737488351232) :
    Calls Tryz.prog 7 #[.string a0] w fun e w' => e = .returned (.bool true) ∧ Below w.heap.size w w' := by
  obtain ⟨k, h⟩ := P a0 w0
  refine (muslinlaw12_EntPlain.calls k a0 true w hGl h).mono ?_
  rintro e w' ⟨rfl, hd⟩
  exact ⟨rfl, hd⟩
def muslinlaw12_EntApart.j0 : Nat → ByteArray → ByteArray → Bool → Option (Bool)
  | 0, _, _, _ => none
  | k + 1, x0, x1, x12 => if x12 = true then ((muslinlaw12_live.f).bind fun t172 => (some t172)) else ((ent_Text.f x0).bind fun t173 => ((ent_Text.f x1).bind fun t174 => (if ((t173.toList == t174.toList) == (x0.toList == x1.toList)) = true then ((ent_Value.f x0).bind fun t175 => ((ent_Value.f x1).bind fun t176 => (if ((t175.toList == t176.toList) == (x0.toList == x1.toList)) = true then ((muslinlaw12_live.f).bind fun t177 => (some t177)) else (some false)))) else (some false))))
def muslinlaw12_EntApart.f (k : Nat) (a0 : ByteArray) (a1 : ByteArray) : Option (Bool) := (muslinlaw12_short.f a0).bind fun t170 => (if t170 = true then ((muslinlaw12_short.f a1).bind fun t171 => (muslinlaw12_EntApart.j0 k a0 a1 (!t171))) else (muslinlaw12_EntApart.j0 k a0 a1 true))
set_option maxHeartbeats 8000000 in
set_option maxRecDepth 100000 in
theorem muslinlaw12_EntApart.calls (k : Nat) (a0 : ByteArray) (a1 : ByteArray) (r : Bool) (w : World) (hGl : Ent.GlobE w) (h : muslinlaw12_EntApart.f k a0 a1 = some r) :
    Calls Tryz.prog 8 #[.string a0, .string a1] w fun e w' => e = .returned (.bool r) ∧ Below w.heap.size w w' := by
  have HGl := Aside0.mk hGl; clear hGl; have HB := Aside0.mk (Below.refl w.heap.size w); have H : ((muslinlaw12_short.f a0).bind fun t170 => (if t170 = true then ((muslinlaw12_short.f a1).bind fun t171 => (muslinlaw12_EntApart.j0 k a0 a1 (!t171))) else (muslinlaw12_EntApart.j0 k a0 a1 true))) = some r := h; clear h; have HC3 := Aside0.mk H; clear H
  go_enter Tryz.func8, Tryz.ntmps8
  go_upto_region 1 with (fail)
  go_cut [12] (fun v12 wc => ∃ (kq : Nat) (x12_2 : Bool), v12 = .bool x12_2 ∧ Aside0 (muslinlaw12_EntApart.j0 kq a0 a1 x12_2 = some r) ∧ Aside0 (kq ≤ k) ∧ Aside0 (Below w.heap.size w wc))
  case first =>
    have H := HC3.out; clear HC3; replace H := Option.bind_eq_some_iff.mp H; obtain ⟨t170, A40, H⟩ := H; replace H : (if t170 = true then ((muslinlaw12_short.f a1).bind fun t171 => (muslinlaw12_EntApart.j0 k a0 a1 (!t171))) else (muslinlaw12_EntApart.j0 k a0 a1 true)) = some r := H; have A4 := Aside0.mk A40; clear A40
    by_cases c5 : t170 = true
    case neg =>
      replace c5 := Bool.eq_false_iff.mpr c5; subst c5
      have H1 : (muslinlaw12_EntApart.j0 k a0 a1 true) = some r := by rw [if_neg (show ¬ (false = true) by decide)] at H; exact H
      clear H; have H := H1; clear H1; have H' := Aside0.mk H; clear H; go_wp2_with (first | ((with_reducible refine gate_callee (f := 10) rfl ?_); refine goesL_ (some 6) rfl rfl Tryz.func10 (by kernel_rfl) rfl #[.string a0] rfl (by (try simp only [List.map_toArray, List.map_cons, List.map_nil]); first | done | rfl | (simp only [List.length_drop, List.length_take]; rfl)) ?_; (with_reducible refine (muslinlaw12_short.calls a0 false _ A4.out).mono ?_); rintro e w' ⟨rfl, ⟨nd, rfl⟩⟩; refine ⟨_, rfl, ?_⟩))
      go_meet
      case rel => exact ⟨_, (true), (by first | rfl | (simp; done) | (simp [*]; done)), H', ⟨by first | omega | exact Nat.le_refl _⟩, ⟨by repeat (first | (with_reducible first | exact HB.out | apply below_alloc | apply pw_below_drewN | apply below_drew1) | exact HB.out)⟩⟩
    subst c5
    have H1 : ((muslinlaw12_short.f a1).bind fun t171 => (muslinlaw12_EntApart.j0 k a0 a1 (!t171))) = some r := by rw [if_pos rfl] at H; exact H
    clear H; have H := H1; clear H1; replace H := Option.bind_eq_some_iff.mp H; obtain ⟨t171, A60, H⟩ := H; replace H : (muslinlaw12_EntApart.j0 k a0 a1 (!t171)) = some r := H; have A6 := Aside0.mk A60; clear A60; have H' := Aside0.mk H; clear H; go_wp2_with (first | ((with_reducible refine gate_callee (f := 10) rfl ?_); refine goesL_ (some 6) rfl rfl Tryz.func10 (by kernel_rfl) rfl #[.string a0] rfl (by (try simp only [List.map_toArray, List.map_cons, List.map_nil]); first | done | rfl | (simp only [List.length_drop, List.length_take]; rfl)) ?_; (with_reducible refine (muslinlaw12_short.calls a0 true _ A4.out).mono ?_); rintro e w' ⟨rfl, ⟨nd, rfl⟩⟩; refine ⟨_, rfl, ?_⟩) | (go_at_call 10; (with_reducible refine (muslinlaw12_short.calls a1 t171 _ A6.out).mono ?_); rintro e w' ⟨rfl, ⟨nd, rfl⟩⟩))
    go_meet
    case rel => exact ⟨_, (!t171), (by first | rfl | (simp; done) | (simp [*]; done)), H', ⟨by first | omega | exact Nat.le_refl _⟩, ⟨by repeat (first | (with_reducible first | exact HB.out | apply below_alloc | apply pw_below_drewN | apply below_drew1) | exact HB.out)⟩⟩
  case rest =>
    clear HC3; (try clear c1); (try clear p2); (try clear c5); obtain ⟨kq, x12_2, rfl, HA, HJ2, HB⟩ := hcut
    cases kq with
    | zero => exact absurd HA.out (by simp [muslinlaw12_EntApart.j0])
    | succ kj2 =>
      have H := HA.out; clear HA; simp only [muslinlaw12_EntApart.j0] at H
      by_cases c7 : x12_2 = true
      case pos =>
        subst c7
        have H1 : ((muslinlaw12_live.f).bind fun t172 => (some t172)) = some r := by rw [if_pos rfl] at H; exact H
        clear H; have H := H1; clear H1; replace H := Option.bind_eq_some_iff.mp H; obtain ⟨t172, A80, H⟩ := H; replace H : (some t172) = some r := H; have A8 := Aside0.mk A80; clear A80; obtain rfl := Option.some.inj H; go_wp2_with (first | ((with_reducible refine gate_callee (f := 11) rfl ?_); refine goesL_ (some 13) rfl rfl Tryz.func11 (by kernel_rfl) rfl #[] rfl (by (try simp only [List.map_toArray, List.map_cons, List.map_nil]); first | done | rfl | (simp only [List.length_drop, List.length_take]; rfl)) ?_; (with_reducible refine (muslinlaw12_live.calls  t172 _ ?sideGl A8.out).mono ?_); (case sideGl => exact HGl.out.below (by repeat (first | (with_reducible first | exact HB.out | apply below_alloc | apply pw_below_drewN | apply below_drew1) | exact HB.out))); rintro e w9 ⟨rfl, hb⟩; refine ⟨_, rfl, ?_⟩; have n0_ := Aside0.mk (below_step (by repeat (first | (with_reducible first | exact HB.out | apply below_alloc | apply pw_below_drewN | apply below_drew1) | exact HB.out)) hb); clear HB; have HB := n0_; clear n0_; (try clear hb); (try clear hb2); (try clear hk); (try clear hi)))
        go_ret
        exact ⟨by first | rfl | (simp [errW_none, errW_some] <;> rfl) | (simp [*, errW_none, errW_some] <;> rfl), by repeat (first | (with_reducible first | exact HB.out | apply below_alloc | apply pw_below_drewN | apply below_drew1) | exact HB.out)⟩
      replace c7 := Bool.eq_false_iff.mpr c7; subst c7
      have H1 : ((ent_Text.f a0).bind fun t173 => ((ent_Text.f a1).bind fun t174 => (if ((t173.toList == t174.toList) == (a0.toList == a1.toList)) = true then ((ent_Value.f a0).bind fun t175 => ((ent_Value.f a1).bind fun t176 => (if ((t175.toList == t176.toList) == (a0.toList == a1.toList)) = true then ((muslinlaw12_live.f).bind fun t177 => (some t177)) else (some false)))) else (some false)))) = some r := by rw [if_neg (show ¬ (false = true) by decide)] at H; exact H
      clear H; have H := H1; clear H1; replace H := Option.bind_eq_some_iff.mp H; obtain ⟨t173, A100, H⟩ := H; replace H : ((ent_Text.f a1).bind fun t174 => (if ((t173.toList == t174.toList) == (a0.toList == a1.toList)) = true then ((ent_Value.f a0).bind fun t175 => ((ent_Value.f a1).bind fun t176 => (if ((t175.toList == t176.toList) == (a0.toList == a1.toList)) = true then ((muslinlaw12_live.f).bind fun t177 => (some t177)) else (some false)))) else (some false))) = some r := H; have A10 := Aside0.mk A100; clear A100; replace H := Option.bind_eq_some_iff.mp H; obtain ⟨t174, A110, H⟩ := H; replace H : (if ((t173.toList == t174.toList) == (a0.toList == a1.toList)) = true then ((ent_Value.f a0).bind fun t175 => ((ent_Value.f a1).bind fun t176 => (if ((t175.toList == t176.toList) == (a0.toList == a1.toList)) = true then ((muslinlaw12_live.f).bind fun t177 => (some t177)) else (some false)))) else (some false)) = some r := H; have A11 := Aside0.mk A110; clear A110
      by_cases c12 : ((t173.toList == t174.toList) == (a0.toList == a1.toList)) = true
      case neg =>
        rw [if_neg c12] at H
        have c12b0 : ((t173.toList == t174.toList) == (a0.toList == a1.toList)) = false := by simpa using c12
        (try (have c12b1 : decide ((t173.toList == t174.toList) = (a0.toList == a1.toList)) = false := by simpa using c12))
        (try (have c12b2 : ((t173.toList == t174.toList) == (a0.toList == a1.toList)) = false := by simpa using c12))
        (try (have c12b3 : ¬ ((t173.toList == t174.toList) = (a0.toList == a1.toList)) := by simpa using c12))
        clear c12; obtain rfl := Option.some.inj H; go_wp2_with (first | ((with_reducible refine gate_callee (f := 14) rfl ?_); refine goesL_ (some 15) rfl rfl Tryz.func14 (by kernel_rfl) rfl #[.string a0] rfl (by (try simp only [List.map_toArray, List.map_cons, List.map_nil]); first | done | rfl | (simp only [List.length_drop, List.length_take]; rfl)) ?_; (with_reducible refine (ent_Text.calls a0 t173 _ A10.out).mono ?_); rintro e w26 ⟨rfl, hb⟩; refine ⟨_, rfl, ?_⟩; have n0_ := Aside0.mk (below_step (by repeat (first | (with_reducible first | exact HB.out | apply below_alloc | apply pw_below_drewN | apply below_drew1) | exact HB.out)) hb); clear HB; have HB := n0_; clear n0_; (try clear hb); (try clear hb2); (try clear hk); (try clear hi)) | ((with_reducible refine gate_callee (f := 14) rfl ?_); refine goesL_ (some 17) rfl rfl Tryz.func14 (by kernel_rfl) rfl #[.string a1] rfl (by (try simp only [List.map_toArray, List.map_cons, List.map_nil]); first | done | rfl | (simp only [List.length_drop, List.length_take]; rfl)) ?_; (with_reducible refine (ent_Text.calls a1 t174 _ A11.out).mono ?_); rintro e w27 ⟨rfl, hb⟩; refine ⟨_, rfl, ?_⟩; have n0_ := Aside0.mk (below_step (by repeat (first | (with_reducible first | exact HB.out | apply below_alloc | apply pw_below_drewN | apply below_drew1) | exact HB.out)) hb); clear HB; have HB := n0_; clear n0_; (try clear hb); (try clear hb2); (try clear hk); (try clear hi)))
        go_ret
        exact ⟨by first | rfl | (simp [errW_none, errW_some] <;> rfl) | (simp [*, errW_none, errW_some] <;> rfl), by repeat (first | (with_reducible first | exact HB.out | apply below_alloc | apply pw_below_drewN | apply below_drew1) | exact HB.out)⟩
      rw [if_pos c12] at H; have c12b0 : ((t173.toList == t174.toList) == (a0.toList == a1.toList)) = true := c12
      (try (have c12b1 : decide ((t173.toList == t174.toList) = (a0.toList == a1.toList)) = true := by simpa using c12))
      (try (have c12b2 : ((t173.toList == t174.toList) == (a0.toList == a1.toList)) = true := by simpa using c12))
      clear c12; replace H := Option.bind_eq_some_iff.mp H; obtain ⟨t175, A130, H⟩ := H; replace H : ((ent_Value.f a1).bind fun t176 => (if ((t175.toList == t176.toList) == (a0.toList == a1.toList)) = true then ((muslinlaw12_live.f).bind fun t177 => (some t177)) else (some false))) = some r := H; have A13 := Aside0.mk A130; clear A130; replace H := Option.bind_eq_some_iff.mp H; obtain ⟨t176, A140, H⟩ := H; replace H : (if ((t175.toList == t176.toList) == (a0.toList == a1.toList)) = true then ((muslinlaw12_live.f).bind fun t177 => (some t177)) else (some false)) = some r := H; have A14 := Aside0.mk A140; clear A140
      by_cases c15 : ((t175.toList == t176.toList) == (a0.toList == a1.toList)) = true
      case neg =>
        rw [if_neg c15] at H
        have c15b0 : ((t175.toList == t176.toList) == (a0.toList == a1.toList)) = false := by simpa using c15
        (try (have c15b1 : decide ((t175.toList == t176.toList) = (a0.toList == a1.toList)) = false := by simpa using c15))
        (try (have c15b2 : ((t175.toList == t176.toList) == (a0.toList == a1.toList)) = false := by simpa using c15))
        (try (have c15b3 : ¬ ((t175.toList == t176.toList) = (a0.toList == a1.toList)) := by simpa using c15))
        clear c15; obtain rfl := Option.some.inj H; go_wp2_with (first | ((with_reducible refine gate_callee (f := 14) rfl ?_); refine goesL_ (some 15) rfl rfl Tryz.func14 (by kernel_rfl) rfl #[.string a0] rfl (by (try simp only [List.map_toArray, List.map_cons, List.map_nil]); first | done | rfl | (simp only [List.length_drop, List.length_take]; rfl)) ?_; (with_reducible refine (ent_Text.calls a0 t173 _ A10.out).mono ?_); rintro e w22 ⟨rfl, hb⟩; refine ⟨_, rfl, ?_⟩; have n0_ := Aside0.mk (below_step (by repeat (first | (with_reducible first | exact HB.out | apply below_alloc | apply pw_below_drewN | apply below_drew1) | exact HB.out)) hb); clear HB; have HB := n0_; clear n0_; (try clear hb); (try clear hb2); (try clear hk); (try clear hi)) | ((with_reducible refine gate_callee (f := 14) rfl ?_); refine goesL_ (some 17) rfl rfl Tryz.func14 (by kernel_rfl) rfl #[.string a1] rfl (by (try simp only [List.map_toArray, List.map_cons, List.map_nil]); first | done | rfl | (simp only [List.length_drop, List.length_take]; rfl)) ?_; (with_reducible refine (ent_Text.calls a1 t174 _ A11.out).mono ?_); rintro e w23 ⟨rfl, hb⟩; refine ⟨_, rfl, ?_⟩; have n0_ := Aside0.mk (below_step (by repeat (first | (with_reducible first | exact HB.out | apply below_alloc | apply pw_below_drewN | apply below_drew1) | exact HB.out)) hb); clear HB; have HB := n0_; clear n0_; (try clear hb); (try clear hb2); (try clear hk); (try clear hi)) | (go_at_call 16; (with_reducible refine (ent_Value.calls a0 t175 _ ?sideGl A13.out).mono ?_); (case sideGl => exact HGl.out.below (by repeat (first | (with_reducible first | exact HB.out | apply below_alloc | apply pw_below_drewN | apply below_drew1) | exact HB.out))); rintro e w24 ⟨rfl, hb⟩; have n0_ := Aside0.mk (below_step (by repeat (first | (with_reducible first | exact HB.out | apply below_alloc | apply pw_below_drewN | apply below_drew1) | exact HB.out)) hb); clear HB; have HB := n0_; clear n0_; (try clear hb); (try clear hb2); (try clear hk); (try clear hi)) | (go_at_call 16; (with_reducible refine (ent_Value.calls a1 t176 _ ?sideGl A14.out).mono ?_); (case sideGl => exact HGl.out.below (by repeat (first | (with_reducible first | exact HB.out | apply below_alloc | apply pw_below_drewN | apply below_drew1) | exact HB.out))); rintro e w25 ⟨rfl, hb⟩; have n0_ := Aside0.mk (below_step (by repeat (first | (with_reducible first | exact HB.out | apply below_alloc | apply pw_below_drewN | apply below_drew1) | exact HB.out)) hb); clear HB; have HB := n0_; clear n0_; (try clear hb); (try clear hb2); (try clear hk); (try clear hi)))
        go_ret
        exact ⟨by first | rfl | (simp [errW_none, errW_some] <;> rfl) | (simp [*, errW_none, errW_some] <;> rfl), by repeat (first | (with_reducible first | exact HB.out | apply below_alloc | apply pw_below_drewN | apply below_drew1) | exact HB.out)⟩
      rw [if_pos c15] at H; have c15b0 : ((t175.toList == t176.toList) == (a0.toList == a1.toList)) = true := c15
      (try (have c15b1 : decide ((t175.toList == t176.toList) = (a0.toList == a1.toList)) = true := by simpa using c15))
      (try (have c15b2 : ((t175.toList == t176.toList) == (a0.toList == a1.toList)) = true := by simpa using c15))
      clear c15; replace H := Option.bind_eq_some_iff.mp H; obtain ⟨t177, A160, H⟩ := H; replace H : (some t177) = some r := H; have A16 := Aside0.mk A160; clear A160; obtain rfl := Option.some.inj H; go_wp2_with (first | ((with_reducible refine gate_callee (f := 14) rfl ?_); refine goesL_ (some 15) rfl rfl Tryz.func14 (by kernel_rfl) rfl #[.string a0] rfl (by (try simp only [List.map_toArray, List.map_cons, List.map_nil]); first | done | rfl | (simp only [List.length_drop, List.length_take]; rfl)) ?_; (with_reducible refine (ent_Text.calls a0 t173 _ A10.out).mono ?_); rintro e w17 ⟨rfl, hb⟩; refine ⟨_, rfl, ?_⟩; have n0_ := Aside0.mk (below_step (by repeat (first | (with_reducible first | exact HB.out | apply below_alloc | apply pw_below_drewN | apply below_drew1) | exact HB.out)) hb); clear HB; have HB := n0_; clear n0_; (try clear hb); (try clear hb2); (try clear hk); (try clear hi)) | ((with_reducible refine gate_callee (f := 14) rfl ?_); refine goesL_ (some 17) rfl rfl Tryz.func14 (by kernel_rfl) rfl #[.string a1] rfl (by (try simp only [List.map_toArray, List.map_cons, List.map_nil]); first | done | rfl | (simp only [List.length_drop, List.length_take]; rfl)) ?_; (with_reducible refine (ent_Text.calls a1 t174 _ A11.out).mono ?_); rintro e w18 ⟨rfl, hb⟩; refine ⟨_, rfl, ?_⟩; have n0_ := Aside0.mk (below_step (by repeat (first | (with_reducible first | exact HB.out | apply below_alloc | apply pw_below_drewN | apply below_drew1) | exact HB.out)) hb); clear HB; have HB := n0_; clear n0_; (try clear hb); (try clear hb2); (try clear hk); (try clear hi)) | (go_at_call 16; (with_reducible refine (ent_Value.calls a0 t175 _ ?sideGl A13.out).mono ?_); (case sideGl => exact HGl.out.below (by repeat (first | (with_reducible first | exact HB.out | apply below_alloc | apply pw_below_drewN | apply below_drew1) | exact HB.out))); rintro e w19 ⟨rfl, hb⟩; have n0_ := Aside0.mk (below_step (by repeat (first | (with_reducible first | exact HB.out | apply below_alloc | apply pw_below_drewN | apply below_drew1) | exact HB.out)) hb); clear HB; have HB := n0_; clear n0_; (try clear hb); (try clear hb2); (try clear hk); (try clear hi)) | (go_at_call 16; (with_reducible refine (ent_Value.calls a1 t176 _ ?sideGl A14.out).mono ?_); (case sideGl => exact HGl.out.below (by repeat (first | (with_reducible first | exact HB.out | apply below_alloc | apply pw_below_drewN | apply below_drew1) | exact HB.out))); rintro e w20 ⟨rfl, hb⟩; have n0_ := Aside0.mk (below_step (by repeat (first | (with_reducible first | exact HB.out | apply below_alloc | apply pw_below_drewN | apply below_drew1) | exact HB.out)) hb); clear HB; have HB := n0_; clear n0_; (try clear hb); (try clear hb2); (try clear hk); (try clear hi)) | (go_at_call 11; (with_reducible refine (muslinlaw12_live.calls  t177 _ ?sideGl A16.out).mono ?_); (case sideGl => exact HGl.out.below (by repeat (first | (with_reducible first | exact HB.out | apply below_alloc | apply pw_below_drewN | apply below_drew1) | exact HB.out))); rintro e w21 ⟨rfl, hb⟩; have n0_ := Aside0.mk (below_step (by repeat (first | (with_reducible first | exact HB.out | apply below_alloc | apply pw_below_drewN | apply below_drew1) | exact HB.out)) hb); clear HB; have HB := n0_; clear n0_; (try clear hb); (try clear hb2); (try clear hk); (try clear hi)))
      go_ret
      exact ⟨by first | rfl | (simp [errW_none, errW_some] <;> rfl) | (simp [*, errW_none, errW_some] <;> rfl), by repeat (first | (with_reducible first | exact HB.out | apply below_alloc | apply pw_below_drewN | apply below_drew1) | exact HB.out)⟩
def muslinlaw12_EntApart.Pure : Prop := ∀ (a0 : ByteArray) (a1 : ByteArray), a0.size ≤ 140737488351232 → a1.size ≤ 140737488351232 → ∃ k, muslinlaw12_EntApart.f k a0 a1 = some true
theorem muslinlaw12_EntApart.walk (P : muslinlaw12_EntApart.Pure) (a0 : ByteArray) (a1 : ByteArray) (w : World) (hGl : Ent.GlobE w) (w0 : a0.size ≤ 140737488351232) (w1 : a1.size ≤ 140737488351232) :
    Calls Tryz.prog 8 #[.string a0, .string a1] w fun e w' => e = .returned (.bool true) ∧ Below w.heap.size w w' := by
  obtain ⟨k, h⟩ := P a0 a1 w0 w1
  refine (muslinlaw12_EntApart.calls k a0 a1 true w hGl h).mono ?_
  rintro e w' ⟨rfl, hd⟩
  exact ⟨rfl, hd⟩
def muslinlaw12_EntJoined.j0 : Nat → ByteArray → ByteArray → Bool → Option (Bool)
  | 0, _, _, _ => none
  | k + 1, x0, x1, x25 => if x25 = true then ((muslinlaw12_live.f).bind fun t180 => (some t180)) else (if x0.size + x1.size ≤ 9223372036854775807 then ((ent_Text.f (x0 ++ x1)).bind fun t181 => ((ent_Text.f x0).bind fun t182 => ((ent_Text.f x1).bind fun t183 => (if t182.size + t183.size ≤ 9223372036854775807 then (if t181.toList = (t182 ++ t183).toList then ((ent_Value.f (x0 ++ x1)).bind fun t184 => ((ent_Value.f x0).bind fun t185 => ((ent_Value.f x1).bind fun t186 => (if t185.size + t186.size ≤ 9223372036854775807 then (if t184.toList = (t185 ++ t186).toList then ((muslinlaw12_live.f).bind fun t187 => (some t187)) else (some false)) else (none))))) else (some false)) else (none))))) else (none))
def muslinlaw12_EntJoined.f (k : Nat) (a0 : ByteArray) (a1 : ByteArray) : Option (Bool) := (muslinlaw12_short.f a0).bind fun t178 => (if t178 = true then ((muslinlaw12_short.f a1).bind fun t179 => (if t179 = true then (if (a0.size : Int) > 0 then (if 0 ≤ (wrap64 ((a0.size : Int) - 1)) then (if (wrap64 ((a0.size : Int) - 1)) < (a0.size : Int) then (muslinlaw12_EntJoined.j0 k a0 a1 ((bt a0 (wrap64 ((a0.size : Int) - 1))) == 194)) else (none)) else (none)) else (muslinlaw12_EntJoined.j0 k a0 a1 false)) else (muslinlaw12_EntJoined.j0 k a0 a1 true))) else (muslinlaw12_EntJoined.j0 k a0 a1 true))
set_option maxHeartbeats 8000000 in
set_option maxRecDepth 100000 in
theorem muslinlaw12_EntJoined.calls (k : Nat) (a0 : ByteArray) (a1 : ByteArray) (r : Bool) (w : World) (hGl : Ent.GlobE w) (h : muslinlaw12_EntJoined.f k a0 a1 = some r) :
    Calls Tryz.prog 9 #[.string a0, .string a1] w fun e w' => e = .returned (.bool r) ∧ Below w.heap.size w w' := by
  have HGl := Aside0.mk hGl; clear hGl; have HB := Aside0.mk (Below.refl w.heap.size w); have H : ((muslinlaw12_short.f a0).bind fun t178 => (if t178 = true then ((muslinlaw12_short.f a1).bind fun t179 => (if t179 = true then (if (a0.size : Int) > 0 then (if 0 ≤ (wrap64 ((a0.size : Int) - 1)) then (if (wrap64 ((a0.size : Int) - 1)) < (a0.size : Int) then (muslinlaw12_EntJoined.j0 k a0 a1 ((bt a0 (wrap64 ((a0.size : Int) - 1))) == 194)) else (none)) else (none)) else (muslinlaw12_EntJoined.j0 k a0 a1 false)) else (muslinlaw12_EntJoined.j0 k a0 a1 true))) else (muslinlaw12_EntJoined.j0 k a0 a1 true))) = some r := h; clear h; have HC3 := Aside0.mk H; clear H
  go_enter Tryz.func9, Tryz.ntmps9
  go_upto_region 1 with (fail)
  go_cut [25] (fun v25 wc => ∃ (kq : Nat) (x25_2 : Bool), v25 = .bool x25_2 ∧ Aside0 (muslinlaw12_EntJoined.j0 kq a0 a1 x25_2 = some r) ∧ Aside0 (kq ≤ k) ∧ Aside0 (Below w.heap.size w wc))
  case first =>
    have H := HC3.out; clear HC3; replace H := Option.bind_eq_some_iff.mp H; obtain ⟨t178, A40, H⟩ := H; replace H : (if t178 = true then ((muslinlaw12_short.f a1).bind fun t179 => (if t179 = true then (if (a0.size : Int) > 0 then (if 0 ≤ (wrap64 ((a0.size : Int) - 1)) then (if (wrap64 ((a0.size : Int) - 1)) < (a0.size : Int) then (muslinlaw12_EntJoined.j0 k a0 a1 ((bt a0 (wrap64 ((a0.size : Int) - 1))) == 194)) else (none)) else (none)) else (muslinlaw12_EntJoined.j0 k a0 a1 false)) else (muslinlaw12_EntJoined.j0 k a0 a1 true))) else (muslinlaw12_EntJoined.j0 k a0 a1 true)) = some r := H; have A4 := Aside0.mk A40; clear A40
    by_cases c5 : t178 = true
    case neg =>
      replace c5 := Bool.eq_false_iff.mpr c5; subst c5
      have H1 : (muslinlaw12_EntJoined.j0 k a0 a1 true) = some r := by rw [if_neg (show ¬ (false = true) by decide)] at H; exact H
      clear H; have H := H1; clear H1; have H' := Aside0.mk H; clear H; go_wp2_with (first | ((with_reducible refine gate_callee (f := 10) rfl ?_); refine goesL_ (some 6) rfl rfl Tryz.func10 (by kernel_rfl) rfl #[.string a0] rfl (by (try simp only [List.map_toArray, List.map_cons, List.map_nil]); first | done | rfl | (simp only [List.length_drop, List.length_take]; rfl)) ?_; (with_reducible refine (muslinlaw12_short.calls a0 false _ A4.out).mono ?_); rintro e w' ⟨rfl, ⟨nd, rfl⟩⟩; refine ⟨_, rfl, ?_⟩))
      go_meet
      case rel => exact ⟨_, (true), (by first | rfl | (simp; done) | (simp [*]; done)), H', ⟨by first | omega | exact Nat.le_refl _⟩, ⟨by repeat (first | (with_reducible first | exact HB.out | apply below_alloc | apply pw_below_drewN | apply below_drew1) | exact HB.out)⟩⟩
    subst c5
    have H1 : ((muslinlaw12_short.f a1).bind fun t179 => (if t179 = true then (if (a0.size : Int) > 0 then (if 0 ≤ (wrap64 ((a0.size : Int) - 1)) then (if (wrap64 ((a0.size : Int) - 1)) < (a0.size : Int) then (muslinlaw12_EntJoined.j0 k a0 a1 ((bt a0 (wrap64 ((a0.size : Int) - 1))) == 194)) else (none)) else (none)) else (muslinlaw12_EntJoined.j0 k a0 a1 false)) else (muslinlaw12_EntJoined.j0 k a0 a1 true))) = some r := by rw [if_pos rfl] at H; exact H
    clear H; have H := H1; clear H1; replace H := Option.bind_eq_some_iff.mp H; obtain ⟨t179, A60, H⟩ := H; replace H : (if t179 = true then (if (a0.size : Int) > 0 then (if 0 ≤ (wrap64 ((a0.size : Int) - 1)) then (if (wrap64 ((a0.size : Int) - 1)) < (a0.size : Int) then (muslinlaw12_EntJoined.j0 k a0 a1 ((bt a0 (wrap64 ((a0.size : Int) - 1))) == 194)) else (none)) else (none)) else (muslinlaw12_EntJoined.j0 k a0 a1 false)) else (muslinlaw12_EntJoined.j0 k a0 a1 true)) = some r := H; have A6 := Aside0.mk A60; clear A60
    by_cases c7 : t179 = true
    case neg =>
      replace c7 := Bool.eq_false_iff.mpr c7; subst c7
      have H1 : (muslinlaw12_EntJoined.j0 k a0 a1 true) = some r := by rw [if_neg (show ¬ (false = true) by decide)] at H; exact H
      clear H; have H := H1; clear H1; have H' := Aside0.mk H; clear H; go_wp2_with (first | ((with_reducible refine gate_callee (f := 10) rfl ?_); refine goesL_ (some 6) rfl rfl Tryz.func10 (by kernel_rfl) rfl #[.string a0] rfl (by (try simp only [List.map_toArray, List.map_cons, List.map_nil]); first | done | rfl | (simp only [List.length_drop, List.length_take]; rfl)) ?_; (with_reducible refine (muslinlaw12_short.calls a0 true _ A4.out).mono ?_); rintro e w' ⟨rfl, ⟨nd, rfl⟩⟩; refine ⟨_, rfl, ?_⟩) | (go_at_call 10; (with_reducible refine (muslinlaw12_short.calls a1 false _ A6.out).mono ?_); rintro e w' ⟨rfl, ⟨nd, rfl⟩⟩))
      go_meet
      case rel => exact ⟨_, (true), (by first | rfl | (simp; done) | (simp [*]; done)), H', ⟨by first | omega | exact Nat.le_refl _⟩, ⟨by repeat (first | (with_reducible first | exact HB.out | apply below_alloc | apply pw_below_drewN | apply below_drew1) | exact HB.out)⟩⟩
    subst c7
    have H1 : (if (a0.size : Int) > 0 then (if 0 ≤ (wrap64 ((a0.size : Int) - 1)) then (if (wrap64 ((a0.size : Int) - 1)) < (a0.size : Int) then (muslinlaw12_EntJoined.j0 k a0 a1 ((bt a0 (wrap64 ((a0.size : Int) - 1))) == 194)) else (none)) else (none)) else (muslinlaw12_EntJoined.j0 k a0 a1 false)) = some r := by rw [if_pos rfl] at H; exact H
    clear H; have H := H1; clear H1
    by_cases c8 : (a0.size : Int) > 0
    case neg =>
      rw [if_neg c8] at H; have c8b0 : decide (0 < (a0.size : Int)) = false := decide_eq_false c8; have c8b1 : decide (0 < a0.size) = false := decide_eq_false (by omega); clear c8
      (first | rw [c8b0] | (simp only [i64_w, i32_w]; rw [c8b0]) | skip)
      have H' := Aside0.mk H; clear H; go_wp2_with (first | ((with_reducible refine gate_callee (f := 10) rfl ?_); refine goesL_ (some 6) rfl rfl Tryz.func10 (by kernel_rfl) rfl #[.string a0] rfl (by (try simp only [List.map_toArray, List.map_cons, List.map_nil]); first | done | rfl | (simp only [List.length_drop, List.length_take]; rfl)) ?_; (with_reducible refine (muslinlaw12_short.calls a0 true _ A4.out).mono ?_); rintro e w' ⟨rfl, ⟨nd, rfl⟩⟩; refine ⟨_, rfl, ?_⟩) | (go_at_call 10; (with_reducible refine (muslinlaw12_short.calls a1 true _ A6.out).mono ?_); rintro e w' ⟨rfl, ⟨nd, rfl⟩⟩))
      go_meet
      case rel => exact ⟨_, (false), (by first | rfl | (simp; done) | (simp [*]; done)), H', ⟨by first | omega | exact Nat.le_refl _⟩, ⟨by repeat (first | (with_reducible first | exact HB.out | apply below_alloc | apply pw_below_drewN | apply below_drew1) | exact HB.out)⟩⟩
    rw [if_pos c8] at H; have c8b0 : decide (0 < (a0.size : Int)) = true := decide_eq_true c8; have c8b1 : decide (0 < a0.size) = true := decide_eq_true (by omega); clear c8
    (first | rw [c8b0] | (simp only [i64_w, i32_w]; rw [c8b0]) | skip)
    obtain ⟨ji9, hji9⟩ : ∃ j_ : Int, (wrap64 ((a0.size : Int) - 1)) = j_ := ⟨_, rfl⟩
    replace H : (if 0 ≤ (ji9) then (if (ji9) < (a0.size : Int) then (muslinlaw12_EntJoined.j0 k a0 a1 ((bt a0 (ji9)) == 194)) else (none)) else (none)) = some r := by first | (rw [hji9] at H; exact H) | (simp only [hji9] at H ⊢; exact H)
    (try rw [hji9] at A4)
    (try rw [hji9] at A6)
    have hji9w : (IntKind.i64.wrap ((a0.size : Int) - 1)) = ji9 := (i64_w _).trans hji9
    by_cases c10 : 0 ≤ (ji9)
    case neg =>
      rw [if_neg c10] at H
      exact absurd H (by simp)
    rw [if_pos c10] at H; have c10b0 : decide (0 ≤ (ji9)) = true := decide_eq_true c10; clear c10
    by_cases c11 : (ji9) < (a0.size : Int)
    case neg =>
      rw [if_neg c11] at H
      exact absurd H (by simp)
    rw [if_pos c11] at H; have c11b0 : decide ((ji9) < (a0.size : Int)) = true := decide_eq_true c11; clear c11; have H' := Aside0.mk H; clear H; go_wp2_with (first | ((with_reducible refine gate_callee (f := 10) rfl ?_); refine goesL_ (some 6) rfl rfl Tryz.func10 (by kernel_rfl) rfl #[.string a0] rfl (by (try simp only [List.map_toArray, List.map_cons, List.map_nil]); first | done | rfl | (simp only [List.length_drop, List.length_take]; rfl)) ?_; (with_reducible refine (muslinlaw12_short.calls a0 true _ A4.out).mono ?_); rintro e w' ⟨rfl, ⟨nd, rfl⟩⟩; refine ⟨_, rfl, ?_⟩) | (go_at_call 10; (with_reducible refine (muslinlaw12_short.calls a1 true _ A6.out).mono ?_); rintro e w' ⟨rfl, ⟨nd, rfl⟩⟩; have p12 : 0 ≤ ((ji9) : Int) := of_decide_eq_true (by first | (with_reducible assumption) | assumption); have q12 : (ji9) < (a0.size : Int) := of_decide_eq_true (by first | (with_reducible assumption) | assumption); have hx12 := bt_at a0 (ji9); replace p12 := eq_true p12; replace q12 := eq_true q12))
    go_meet
    case rel => exact ⟨_, (((bt a0 (ji9)) == 194)), (by first | rfl | (simp; done) | (simp only [← hji9] <;> (first | rfl | (simp; done) | (simp; simp only [hji9]; exact beq_iff_eq.1 (by assumption)))) | (simp [*]; done)), H', ⟨by first | omega | exact Nat.le_refl _⟩, ⟨by repeat (first | (with_reducible first | exact HB.out | apply below_alloc | apply pw_below_drewN | apply below_drew1) | exact HB.out)⟩⟩
  case rest =>
    clear HC3; (try clear c1); (try clear p1); (try clear q1); (try clear hx1); (try clear p2); (try clear c5); (try clear p6); (try clear c7); (try clear c8); (try clear c8b0); (try clear c8b1); (try clear c9); (try clear c10); (try clear c10b0); (try clear c11); (try clear c11b0); (try clear p12); (try clear q12); (try clear hx12); (try clear p12); (try clear q12); obtain ⟨kq, x25_2, rfl, HA, HJ2, HB⟩ := hcut
    cases kq with
    | zero => exact absurd HA.out (by simp [muslinlaw12_EntJoined.j0])
    | succ kj2 =>
      have H := HA.out; clear HA; simp only [muslinlaw12_EntJoined.j0] at H
      by_cases c13 : x25_2 = true
      case pos =>
        subst c13
        have H1 : ((muslinlaw12_live.f).bind fun t180 => (some t180)) = some r := by rw [if_pos rfl] at H; exact H
        clear H; have H := H1; clear H1; replace H := Option.bind_eq_some_iff.mp H; obtain ⟨t180, A140, H⟩ := H; replace H : (some t180) = some r := H; have A14 := Aside0.mk A140; clear A140; obtain rfl := Option.some.inj H; go_wp2_with (first | ((with_reducible refine gate_callee (f := 11) rfl ?_); refine goesL_ (some 26) rfl rfl Tryz.func11 (by kernel_rfl) rfl #[] rfl (by (try simp only [List.map_toArray, List.map_cons, List.map_nil]); first | done | rfl | (simp only [List.length_drop, List.length_take]; rfl)) ?_; (with_reducible refine (muslinlaw12_live.calls  t180 _ ?sideGl A14.out).mono ?_); (case sideGl => exact HGl.out.below (by repeat (first | (with_reducible first | exact HB.out | apply below_alloc | apply pw_below_drewN | apply below_drew1) | exact HB.out))); rintro e w15 ⟨rfl, hb⟩; refine ⟨_, rfl, ?_⟩; have n0_ := Aside0.mk (below_step (by repeat (first | (with_reducible first | exact HB.out | apply below_alloc | apply pw_below_drewN | apply below_drew1) | exact HB.out)) hb); clear HB; have HB := n0_; clear n0_; (try clear hb); (try clear hb2); (try clear hk); (try clear hi)))
        go_ret
        exact ⟨by first | rfl | (simp [errW_none, errW_some] <;> rfl) | (simp [*, errW_none, errW_some] <;> rfl), by repeat (first | (with_reducible first | exact HB.out | apply below_alloc | apply pw_below_drewN | apply below_drew1) | exact HB.out)⟩
      replace c13 := Bool.eq_false_iff.mpr c13; subst c13
      have H1 : (if a0.size + a1.size ≤ 9223372036854775807 then ((ent_Text.f (a0 ++ a1)).bind fun t181 => ((ent_Text.f a0).bind fun t182 => ((ent_Text.f a1).bind fun t183 => (if t182.size + t183.size ≤ 9223372036854775807 then (if t181.toList = (t182 ++ t183).toList then ((ent_Value.f (a0 ++ a1)).bind fun t184 => ((ent_Value.f a0).bind fun t185 => ((ent_Value.f a1).bind fun t186 => (if t185.size + t186.size ≤ 9223372036854775807 then (if t184.toList = (t185 ++ t186).toList then ((muslinlaw12_live.f).bind fun t187 => (some t187)) else (some false)) else (none))))) else (some false)) else (none))))) else (none)) = some r := by rw [if_neg (show ¬ (false = true) by decide)] at H; exact H
      clear H; have H := H1; clear H1
      by_cases c16 : a0.size + a1.size ≤ 9223372036854775807
      case neg =>
        rw [if_neg c16] at H
        exact absurd H (by simp)
      rw [if_pos c16] at H; have c16b0 := eq_true c16; have c16b1 : decide (a0.size + a1.size ≤ 9223372036854775807) = true := decide_eq_true c16
      try have c16b2 : (9223372036854775807 < a0.size + a1.size) = False := eq_false (Nat.not_lt.2 c16)
      try (have c16b3 := c16; simp only [ByteArray.size_append] at c16b3)
      replace H := Option.bind_eq_some_iff.mp H; obtain ⟨t181, A170, H⟩ := H; replace H : ((ent_Text.f a0).bind fun t182 => ((ent_Text.f a1).bind fun t183 => (if t182.size + t183.size ≤ 9223372036854775807 then (if t181.toList = (t182 ++ t183).toList then ((ent_Value.f (a0 ++ a1)).bind fun t184 => ((ent_Value.f a0).bind fun t185 => ((ent_Value.f a1).bind fun t186 => (if t185.size + t186.size ≤ 9223372036854775807 then (if t184.toList = (t185 ++ t186).toList then ((muslinlaw12_live.f).bind fun t187 => (some t187)) else (some false)) else (none))))) else (some false)) else (none)))) = some r := H; have A17 := Aside0.mk A170; clear A170; replace H := Option.bind_eq_some_iff.mp H; obtain ⟨t182, A180, H⟩ := H; replace H : ((ent_Text.f a1).bind fun t183 => (if t182.size + t183.size ≤ 9223372036854775807 then (if t181.toList = (t182 ++ t183).toList then ((ent_Value.f (a0 ++ a1)).bind fun t184 => ((ent_Value.f a0).bind fun t185 => ((ent_Value.f a1).bind fun t186 => (if t185.size + t186.size ≤ 9223372036854775807 then (if t184.toList = (t185 ++ t186).toList then ((muslinlaw12_live.f).bind fun t187 => (some t187)) else (some false)) else (none))))) else (some false)) else (none))) = some r := H; have A18 := Aside0.mk A180; clear A180; replace H := Option.bind_eq_some_iff.mp H; obtain ⟨t183, A190, H⟩ := H; replace H : (if t182.size + t183.size ≤ 9223372036854775807 then (if t181.toList = (t182 ++ t183).toList then ((ent_Value.f (a0 ++ a1)).bind fun t184 => ((ent_Value.f a0).bind fun t185 => ((ent_Value.f a1).bind fun t186 => (if t185.size + t186.size ≤ 9223372036854775807 then (if t184.toList = (t185 ++ t186).toList then ((muslinlaw12_live.f).bind fun t187 => (some t187)) else (some false)) else (none))))) else (some false)) else (none)) = some r := H; have A19 := Aside0.mk A190; clear A190
      by_cases c20 : t182.size + t183.size ≤ 9223372036854775807
      case neg =>
        rw [if_neg c20] at H
        exact absurd H (by simp)
      rw [if_pos c20] at H; have c20b0 := eq_true c20; have c20b1 : decide (t182.size + t183.size ≤ 9223372036854775807) = true := decide_eq_true c20
      try have c20b2 : (9223372036854775807 < t182.size + t183.size) = False := eq_false (Nat.not_lt.2 c20)
      try (have c20b3 := c20; simp only [ByteArray.size_append] at c20b3)
      by_cases c21 : t181.toList = (t182 ++ t183).toList
      case neg =>
        rw [if_neg c21] at H; have c21b0 : (t181.toList == (t182 ++ t183).toList) = false := beq_eq_false_iff_ne.mpr c21; have c21b1 : (t181.toList != (t182 ++ t183).toList) = true := bne_iff_ne.mpr c21; obtain rfl := Option.some.inj H; go_wp2_with (first | ((with_reducible refine gate_callee (f := 14) rfl ?_); refine goesL_ (some 30) rfl rfl Tryz.func14 (by kernel_rfl) rfl #[.string (a0 ++ a1)] rfl (by (try simp only [List.map_toArray, List.map_cons, List.map_nil]); first | done | rfl | (simp only [List.length_drop, List.length_take]; rfl)) ?_; (with_reducible refine (ent_Text.calls (a0 ++ a1) t181 _ A17.out).mono ?_); rintro e w41 ⟨rfl, hb⟩; refine ⟨_, rfl, ?_⟩; have n0_ := Aside0.mk (below_step (by repeat (first | (with_reducible first | exact HB.out | apply below_alloc | apply pw_below_drewN | apply below_drew1) | exact HB.out)) hb); clear HB; have HB := n0_; clear n0_; (try clear hb); (try clear hb2); (try clear hk); (try clear hi)) | ((with_reducible refine gate_callee (f := 14) rfl ?_); refine goesL_ (some 32) rfl rfl Tryz.func14 (by kernel_rfl) rfl #[.string a0] rfl (by (try simp only [List.map_toArray, List.map_cons, List.map_nil]); first | done | rfl | (simp only [List.length_drop, List.length_take]; rfl)) ?_; (with_reducible refine (ent_Text.calls a0 t182 _ A18.out).mono ?_); rintro e w42 ⟨rfl, hb⟩; refine ⟨_, rfl, ?_⟩; have n0_ := Aside0.mk (below_step (by repeat (first | (with_reducible first | exact HB.out | apply below_alloc | apply pw_below_drewN | apply below_drew1) | exact HB.out)) hb); clear HB; have HB := n0_; clear n0_; (try clear hb); (try clear hb2); (try clear hk); (try clear hi)) | ((with_reducible refine gate_callee (f := 14) rfl ?_); refine goesL_ (some 34) rfl rfl Tryz.func14 (by kernel_rfl) rfl #[.string a1] rfl (by (try simp only [List.map_toArray, List.map_cons, List.map_nil]); first | done | rfl | (simp only [List.length_drop, List.length_take]; rfl)) ?_; (with_reducible refine (ent_Text.calls a1 t183 _ A19.out).mono ?_); rintro e w43 ⟨rfl, hb⟩; refine ⟨_, rfl, ?_⟩; have n0_ := Aside0.mk (below_step (by repeat (first | (with_reducible first | exact HB.out | apply below_alloc | apply pw_below_drewN | apply below_drew1) | exact HB.out)) hb); clear HB; have HB := n0_; clear n0_; (try clear hb); (try clear hb2); (try clear hk); (try clear hi)))
        go_ret
        exact ⟨by first | rfl | (simp [errW_none, errW_some] <;> rfl) | (simp [*, errW_none, errW_some] <;> rfl), by repeat (first | (with_reducible first | exact HB.out | apply below_alloc | apply pw_below_drewN | apply below_drew1) | exact HB.out)⟩
      rw [if_pos c21] at H; have c21b0 : (t181.toList == (t182 ++ t183).toList) = true := beq_iff_eq.mpr c21; have c21b1 : (t181.toList != (t182 ++ t183).toList) = false := bne_eq_false_iff_eq.mpr c21; clear c21; replace H := Option.bind_eq_some_iff.mp H; obtain ⟨t184, A220, H⟩ := H; replace H : ((ent_Value.f a0).bind fun t185 => ((ent_Value.f a1).bind fun t186 => (if t185.size + t186.size ≤ 9223372036854775807 then (if t184.toList = (t185 ++ t186).toList then ((muslinlaw12_live.f).bind fun t187 => (some t187)) else (some false)) else (none)))) = some r := H; have A22 := Aside0.mk A220; clear A220; replace H := Option.bind_eq_some_iff.mp H; obtain ⟨t185, A230, H⟩ := H; replace H : ((ent_Value.f a1).bind fun t186 => (if t185.size + t186.size ≤ 9223372036854775807 then (if t184.toList = (t185 ++ t186).toList then ((muslinlaw12_live.f).bind fun t187 => (some t187)) else (some false)) else (none))) = some r := H; have A23 := Aside0.mk A230; clear A230; replace H := Option.bind_eq_some_iff.mp H; obtain ⟨t186, A240, H⟩ := H; replace H : (if t185.size + t186.size ≤ 9223372036854775807 then (if t184.toList = (t185 ++ t186).toList then ((muslinlaw12_live.f).bind fun t187 => (some t187)) else (some false)) else (none)) = some r := H; have A24 := Aside0.mk A240; clear A240
      by_cases c25 : t185.size + t186.size ≤ 9223372036854775807
      case neg =>
        rw [if_neg c25] at H
        exact absurd H (by simp)
      rw [if_pos c25] at H; have c25b0 := eq_true c25; have c25b1 : decide (t185.size + t186.size ≤ 9223372036854775807) = true := decide_eq_true c25
      try have c25b2 : (9223372036854775807 < t185.size + t186.size) = False := eq_false (Nat.not_lt.2 c25)
      try (have c25b3 := c25; simp only [ByteArray.size_append] at c25b3)
      by_cases c26 : t184.toList = (t185 ++ t186).toList
      case neg =>
        rw [if_neg c26] at H; have c26b0 : (t184.toList == (t185 ++ t186).toList) = false := beq_eq_false_iff_ne.mpr c26; have c26b1 : (t184.toList != (t185 ++ t186).toList) = true := bne_iff_ne.mpr c26; obtain rfl := Option.some.inj H; go_wp2_with (first | ((with_reducible refine gate_callee (f := 14) rfl ?_); refine goesL_ (some 30) rfl rfl Tryz.func14 (by kernel_rfl) rfl #[.string (a0 ++ a1)] rfl (by (try simp only [List.map_toArray, List.map_cons, List.map_nil]); first | done | rfl | (simp only [List.length_drop, List.length_take]; rfl)) ?_; (with_reducible refine (ent_Text.calls (a0 ++ a1) t181 _ A17.out).mono ?_); rintro e w35 ⟨rfl, hb⟩; refine ⟨_, rfl, ?_⟩; have n0_ := Aside0.mk (below_step (by repeat (first | (with_reducible first | exact HB.out | apply below_alloc | apply pw_below_drewN | apply below_drew1) | exact HB.out)) hb); clear HB; have HB := n0_; clear n0_; (try clear hb); (try clear hb2); (try clear hk); (try clear hi)) | ((with_reducible refine gate_callee (f := 14) rfl ?_); refine goesL_ (some 32) rfl rfl Tryz.func14 (by kernel_rfl) rfl #[.string a0] rfl (by (try simp only [List.map_toArray, List.map_cons, List.map_nil]); first | done | rfl | (simp only [List.length_drop, List.length_take]; rfl)) ?_; (with_reducible refine (ent_Text.calls a0 t182 _ A18.out).mono ?_); rintro e w36 ⟨rfl, hb⟩; refine ⟨_, rfl, ?_⟩; have n0_ := Aside0.mk (below_step (by repeat (first | (with_reducible first | exact HB.out | apply below_alloc | apply pw_below_drewN | apply below_drew1) | exact HB.out)) hb); clear HB; have HB := n0_; clear n0_; (try clear hb); (try clear hb2); (try clear hk); (try clear hi)) | ((with_reducible refine gate_callee (f := 14) rfl ?_); refine goesL_ (some 34) rfl rfl Tryz.func14 (by kernel_rfl) rfl #[.string a1] rfl (by (try simp only [List.map_toArray, List.map_cons, List.map_nil]); first | done | rfl | (simp only [List.length_drop, List.length_take]; rfl)) ?_; (with_reducible refine (ent_Text.calls a1 t183 _ A19.out).mono ?_); rintro e w37 ⟨rfl, hb⟩; refine ⟨_, rfl, ?_⟩; have n0_ := Aside0.mk (below_step (by repeat (first | (with_reducible first | exact HB.out | apply below_alloc | apply pw_below_drewN | apply below_drew1) | exact HB.out)) hb); clear HB; have HB := n0_; clear n0_; (try clear hb); (try clear hb2); (try clear hk); (try clear hi)) | (go_at_call 16; (with_reducible refine (ent_Value.calls (a0 ++ a1) t184 _ ?sideGl A22.out).mono ?_); (case sideGl => exact HGl.out.below (by repeat (first | (with_reducible first | exact HB.out | apply below_alloc | apply pw_below_drewN | apply below_drew1) | exact HB.out))); rintro e w38 ⟨rfl, hb⟩; have n0_ := Aside0.mk (below_step (by repeat (first | (with_reducible first | exact HB.out | apply below_alloc | apply pw_below_drewN | apply below_drew1) | exact HB.out)) hb); clear HB; have HB := n0_; clear n0_; (try clear hb); (try clear hb2); (try clear hk); (try clear hi)) | (go_at_call 16; (with_reducible refine (ent_Value.calls a0 t185 _ ?sideGl A23.out).mono ?_); (case sideGl => exact HGl.out.below (by repeat (first | (with_reducible first | exact HB.out | apply below_alloc | apply pw_below_drewN | apply below_drew1) | exact HB.out))); rintro e w39 ⟨rfl, hb⟩; have n0_ := Aside0.mk (below_step (by repeat (first | (with_reducible first | exact HB.out | apply below_alloc | apply pw_below_drewN | apply below_drew1) | exact HB.out)) hb); clear HB; have HB := n0_; clear n0_; (try clear hb); (try clear hb2); (try clear hk); (try clear hi)) | (go_at_call 16; (with_reducible refine (ent_Value.calls a1 t186 _ ?sideGl A24.out).mono ?_); (case sideGl => exact HGl.out.below (by repeat (first | (with_reducible first | exact HB.out | apply below_alloc | apply pw_below_drewN | apply below_drew1) | exact HB.out))); rintro e w40 ⟨rfl, hb⟩; have n0_ := Aside0.mk (below_step (by repeat (first | (with_reducible first | exact HB.out | apply below_alloc | apply pw_below_drewN | apply below_drew1) | exact HB.out)) hb); clear HB; have HB := n0_; clear n0_; (try clear hb); (try clear hb2); (try clear hk); (try clear hi)))
        go_ret
        exact ⟨by first | rfl | (simp [errW_none, errW_some] <;> rfl) | (simp [*, errW_none, errW_some] <;> rfl), by repeat (first | (with_reducible first | exact HB.out | apply below_alloc | apply pw_below_drewN | apply below_drew1) | exact HB.out)⟩
      rw [if_pos c26] at H; have c26b0 : (t184.toList == (t185 ++ t186).toList) = true := beq_iff_eq.mpr c26; have c26b1 : (t184.toList != (t185 ++ t186).toList) = false := bne_eq_false_iff_eq.mpr c26; clear c26; replace H := Option.bind_eq_some_iff.mp H; obtain ⟨t187, A270, H⟩ := H; replace H : (some t187) = some r := H; have A27 := Aside0.mk A270; clear A270; obtain rfl := Option.some.inj H; go_wp2_with (first | ((with_reducible refine gate_callee (f := 14) rfl ?_); refine goesL_ (some 30) rfl rfl Tryz.func14 (by kernel_rfl) rfl #[.string (a0 ++ a1)] rfl (by (try simp only [List.map_toArray, List.map_cons, List.map_nil]); first | done | rfl | (simp only [List.length_drop, List.length_take]; rfl)) ?_; (with_reducible refine (ent_Text.calls (a0 ++ a1) t181 _ A17.out).mono ?_); rintro e w28 ⟨rfl, hb⟩; refine ⟨_, rfl, ?_⟩; have n0_ := Aside0.mk (below_step (by repeat (first | (with_reducible first | exact HB.out | apply below_alloc | apply pw_below_drewN | apply below_drew1) | exact HB.out)) hb); clear HB; have HB := n0_; clear n0_; (try clear hb); (try clear hb2); (try clear hk); (try clear hi)) | ((with_reducible refine gate_callee (f := 14) rfl ?_); refine goesL_ (some 32) rfl rfl Tryz.func14 (by kernel_rfl) rfl #[.string a0] rfl (by (try simp only [List.map_toArray, List.map_cons, List.map_nil]); first | done | rfl | (simp only [List.length_drop, List.length_take]; rfl)) ?_; (with_reducible refine (ent_Text.calls a0 t182 _ A18.out).mono ?_); rintro e w29 ⟨rfl, hb⟩; refine ⟨_, rfl, ?_⟩; have n0_ := Aside0.mk (below_step (by repeat (first | (with_reducible first | exact HB.out | apply below_alloc | apply pw_below_drewN | apply below_drew1) | exact HB.out)) hb); clear HB; have HB := n0_; clear n0_; (try clear hb); (try clear hb2); (try clear hk); (try clear hi)) | ((with_reducible refine gate_callee (f := 14) rfl ?_); refine goesL_ (some 34) rfl rfl Tryz.func14 (by kernel_rfl) rfl #[.string a1] rfl (by (try simp only [List.map_toArray, List.map_cons, List.map_nil]); first | done | rfl | (simp only [List.length_drop, List.length_take]; rfl)) ?_; (with_reducible refine (ent_Text.calls a1 t183 _ A19.out).mono ?_); rintro e w30 ⟨rfl, hb⟩; refine ⟨_, rfl, ?_⟩; have n0_ := Aside0.mk (below_step (by repeat (first | (with_reducible first | exact HB.out | apply below_alloc | apply pw_below_drewN | apply below_drew1) | exact HB.out)) hb); clear HB; have HB := n0_; clear n0_; (try clear hb); (try clear hb2); (try clear hk); (try clear hi)) | (go_at_call 16; (with_reducible refine (ent_Value.calls (a0 ++ a1) t184 _ ?sideGl A22.out).mono ?_); (case sideGl => exact HGl.out.below (by repeat (first | (with_reducible first | exact HB.out | apply below_alloc | apply pw_below_drewN | apply below_drew1) | exact HB.out))); rintro e w31 ⟨rfl, hb⟩; have n0_ := Aside0.mk (below_step (by repeat (first | (with_reducible first | exact HB.out | apply below_alloc | apply pw_below_drewN | apply below_drew1) | exact HB.out)) hb); clear HB; have HB := n0_; clear n0_; (try clear hb); (try clear hb2); (try clear hk); (try clear hi)) | (go_at_call 16; (with_reducible refine (ent_Value.calls a0 t185 _ ?sideGl A23.out).mono ?_); (case sideGl => exact HGl.out.below (by repeat (first | (with_reducible first | exact HB.out | apply below_alloc | apply pw_below_drewN | apply below_drew1) | exact HB.out))); rintro e w32 ⟨rfl, hb⟩; have n0_ := Aside0.mk (below_step (by repeat (first | (with_reducible first | exact HB.out | apply below_alloc | apply pw_below_drewN | apply below_drew1) | exact HB.out)) hb); clear HB; have HB := n0_; clear n0_; (try clear hb); (try clear hb2); (try clear hk); (try clear hi)) | (go_at_call 16; (with_reducible refine (ent_Value.calls a1 t186 _ ?sideGl A24.out).mono ?_); (case sideGl => exact HGl.out.below (by repeat (first | (with_reducible first | exact HB.out | apply below_alloc | apply pw_below_drewN | apply below_drew1) | exact HB.out))); rintro e w33 ⟨rfl, hb⟩; have n0_ := Aside0.mk (below_step (by repeat (first | (with_reducible first | exact HB.out | apply below_alloc | apply pw_below_drewN | apply below_drew1) | exact HB.out)) hb); clear HB; have HB := n0_; clear n0_; (try clear hb); (try clear hb2); (try clear hk); (try clear hi)) | (go_at_call 11; (with_reducible refine (muslinlaw12_live.calls  t187 _ ?sideGl A27.out).mono ?_); (case sideGl => exact HGl.out.below (by repeat (first | (with_reducible first | exact HB.out | apply below_alloc | apply pw_below_drewN | apply below_drew1) | exact HB.out))); rintro e w34 ⟨rfl, hb⟩; have n0_ := Aside0.mk (below_step (by repeat (first | (with_reducible first | exact HB.out | apply below_alloc | apply pw_below_drewN | apply below_drew1) | exact HB.out)) hb); clear HB; have HB := n0_; clear n0_; (try clear hb); (try clear hb2); (try clear hk); (try clear hi)))
      go_ret
      exact ⟨by first | rfl | (simp [errW_none, errW_some] <;> rfl) | (simp [*, errW_none, errW_some] <;> rfl), by repeat (first | (with_reducible first | exact HB.out | apply below_alloc | apply pw_below_drewN | apply below_drew1) | exact HB.out)⟩
def muslinlaw12_EntJoined.Pure : Prop := ∀ (a0 : ByteArray) (a1 : ByteArray), a0.size ≤ 140737488351232 → a1.size ≤ 140737488351232 → ∃ k, muslinlaw12_EntJoined.f k a0 a1 = some true
theorem muslinlaw12_EntJoined.walk (P : muslinlaw12_EntJoined.Pure) (a0 : ByteArray) (a1 : ByteArray) (w : World) (hGl : Ent.GlobE w) (w0 : a0.size ≤ 140737488351232) (w1 : a1.size ≤ 140737488351232) :
    Calls Tryz.prog 9 #[.string a0, .string a1] w fun e w' => e = .returned (.bool true) ∧ Below w.heap.size w w' := by
  obtain ⟨k, h⟩ := P a0 a1 w0 w1
  refine (muslinlaw12_EntJoined.calls k a0 a1 true w hGl h).mono ?_
  rintro e w' ⟨rfl, hd⟩
  exact ⟨rfl, hd⟩
end Go.Proofs.YtkfcbafjcjmfnaaGreatDoor.P
namespace Go.Proofs.YtkfcbafjcjmfnaaGreatDoor.Pure
open Go.RowKit Go.Lib Go.Proofs.YtkfcbafjcjmfnaaGreatDoor Go.Proofs.YtkfcbafjcjmfnaaGreatDoor.P Go.Proofs.YtkfcbafjcjmfnaaGreatDoor.Ent Go.Proofs.YtkfcbafjcjmfnaaGreatDoor.Gen Go.Proofs.YtkfcbafjcjmfnaaGreatDoorW.PrintWords Go.Proofs.YtkfcbafjcjmfnaaGreatDoorW.PrintLast
set_option linter.unusedVariables false
set_option linter.unusedSimpArgs false
theorem live_got : muslinlaw12_live.f = some true := by decide +kernel
def wr (q : Bool) (l : List UInt8) : List UInt8 := if q = true then quo (esc 0 l) else esc 0 l
theorem quo_const : quo [38, 97, 109, 112, 59] = [38, 97, 109, 112, 59] ∧ quo [38, 108, 116, 59] = [38, 108, 116, 59] ∧ quo [38, 103, 116, 59] = [38, 103, 116, 59] ∧ quo [38, 110, 98, 115, 112, 59] = [38, 110, 98, 115, 112, 59] := by decide
theorem wr_step (q : Bool) (l e r : List UInt8) (h : esc 0 l = e ++ esc 0 r) (he : quo e = e) : wr q l = e ++ wr q r := by
  unfold wr
  cases q with
  | true => rw [if_pos rfl, if_pos rfl, h, quo_append, he]
  | false => rw [if_neg (by simp), if_neg (by simp), h]
theorem wr_nil (q : Bool) : wr q [] = [] := by cases q <;> rfl
theorem write_loop (s : ByteArray) (hs : s.size ≤ 10000) (q : Bool) : ∀ (n i : Nat) (acc : List UInt8), s.size - i ≤ n → i ≤ s.size → acc.length ≤ 6 * i →
    Ev (fun k => muslinref12_write.l0 k s q (intsOf acc) (i : Int)) (⟨(acc ++ wr q (s.data.toList.drop i)).toArray⟩ : ByteArray)
  | n, i, acc, hn, hi, ha => by
    refine Ev.round (fun k => by rw [muslinref12_write.l0]) ?_
    by_cases hlt : i < s.size
    · refine Ev.pos (by omega) ?_
      refine Ev.pos (by omega) ?_
      have hl : i < s.data.toList.length := by rw [sizeL]; exact hlt
      have hb := bt_get s i hl
      have hdr := List.drop_eq_getElem_cons hl
      have hw1 : wrap64 ((i : Int) + 1) = ((i + 1 : Nat) : Int) := by rw [w64 (by omega) (by omega)]; rfl
      match n, hn with
      | 0, hn => omega
      | n + 1, hn =>
        have push : ∀ (e : List UInt8) (m : Nat), 1 ≤ m → i + m ≤ s.size → e.length ≤ 6 → wr q (s.data.toList.drop i) = e ++ wr q (s.data.toList.drop (i + m)) → Ev (fun k => muslinref12_write.l0 k s q (intsOf acc ++ intsOf e) ((i + m : Nat) : Int)) (⟨(acc ++ wr q (s.data.toList.drop i)).toArray⟩ : ByteArray) := fun e m h1 h2 h3 h4 => by
          have := write_loop s hs q n (i + m) (acc ++ e) (by omega) h2 (by rw [List.length_append]; omega)
          rw [intsOf_append] at this
          rw [h4, ← List.append_assoc]; exact this
        generalize hc : s.data.toList[i] = c at *
        rw [hdr] at push ⊢
        rw [hb, hw1]
        have u8 : ∀ k : UInt8, ((c.toNat : Int) = (k.toNat : Int)) ↔ c = k := fun k => ⟨fun e => UInt8.toNat_inj.1 (by omega), fun e => by rw [e]⟩
        rcases hit_cases c (s.data.toList.drop (i + 1)) with ⟨hn0, e, h1, h2, h3⟩ | ⟨rfl, e⟩ | ⟨rfl, e⟩ | ⟨rfl, e⟩ | ⟨r', rfl, hr', e⟩
        · refine Ev.neg (fun e => h1 ((u8 38).1 e)) ?_
          refine Ev.neg (fun e => h2 ((u8 60).1 e)) ?_
          refine Ev.neg (fun e => h3 ((u8 62).1 e)) ?_
          have plain : (c ≠ 34 ∨ q = false) → Ev (fun k => muslinref12_write.j1 k s q (intsOf acc) (i : Int) false) (⟨(acc ++ wr q (c :: s.data.toList.drop (i + 1))).toArray⟩ : ByteArray) := fun hq => by
            have hstep : wr q (c :: s.data.toList.drop (i + 1)) = [c] ++ wr q (s.data.toList.drop (i + 1)) := by
              rcases hq with hq | hq
              · exact wr_step q _ [c] _ (by rw [e]; rfl) (by simp [quo, qq, hq])
              · subst hq
                unfold wr
                rw [if_neg (by simp), if_neg (by simp), e]; rfl
            have fin : Ev (fun k => if (intsOf acc).length < 140737488355328 then muslinref12_write.l0 k s q (intsOf acc ++ [(c.toNat : Int)]) ((i + 1 : Nat) : Int) else none) (⟨(acc ++ wr q (c :: s.data.toList.drop (i + 1))).toArray⟩ : ByteArray) := by
              refine Ev.pos (by rw [intsOf_length]; omega) ?_
              exact push [c] 1 (by omega) (by omega) (by simp) hstep
            refine Ev.round (fun k => by rw [muslinref12_write.j1]) ?_
            refine Ev.neg Bool.false_ne_true ?_
            refine Ev.pos (by omega) ?_
            refine Ev.pos (by omega) ?_
            rw [hb, hw1]
            by_cases h194 : c = 194
            · refine Ev.pos ((u8 194).2 h194) ?_
              by_cases hl2 : i + 1 < s.size
              · refine Ev.pos (by omega) ?_
                refine Ev.pos (by omega) ?_
                have hl3 : i + 1 < s.data.toList.length := by rw [sizeL]; exact hl2
                have hb2 := bt_get s (i + 1) hl3
                rw [hb2]
                have hne : ¬ (s.data.toList[i + 1].toNat : Int) = 160 := fun h160 => by
                  have h5 : s.data.toList[i + 1] = 160 := UInt8.toNat_inj.1 (by show (s.data.toList[i + 1]).toNat = 160; omega)
                  rw [List.drop_eq_getElem_cons hl3, h5, h194] at hn0
                  simp [hitL] at hn0
                refine Ev.neg hne ?_
                exact fin
              · refine Ev.neg (by omega) ?_
                exact fin
            · refine Ev.neg (fun e => h194 ((u8 194).1 e)) ?_
              exact fin
          by_cases h34 : c = 34
          · refine Ev.pos ((u8 34).2 h34) ?_
            cases q with
            | true =>
              refine Ev.round (fun k => by rw [muslinref12_write.j1]) ?_
              refine Ev.pos rfl ?_
              refine Ev.pos (by rw [intsOf_length]; omega) ?_
              rw [hw1]
              refine push [38, 113, 117, 111, 116, 59] 1 (by omega) (by omega) (by simp) ?_
              subst h34
              unfold wr
              rw [if_pos rfl, if_pos rfl, e]
              rfl
            | false => exact plain (.inr rfl)
          · refine Ev.neg (fun e => h34 ((u8 34).1 e)) ?_
            exact plain (.inl h34)
        · refine Ev.pos rfl ?_
          refine Ev.pos (by rw [intsOf_length]; omega) ?_
          exact push [38, 97, 109, 112, 59] 1 (by omega) (by omega) (by simp) (wr_step q _ [38, 97, 109, 112, 59] _ (by rw [e]; rfl) quo_const.1)
        · refine Ev.neg (by decide) ?_
          refine Ev.pos rfl ?_
          refine Ev.pos (by rw [intsOf_length]; omega) ?_
          exact push [38, 108, 116, 59] 1 (by omega) (by omega) (by simp) (wr_step q _ [38, 108, 116, 59] _ (by rw [e]; rfl) quo_const.2.1)
        · refine Ev.neg (by decide) ?_
          refine Ev.neg (by decide) ?_
          refine Ev.pos rfl ?_
          refine Ev.pos (by rw [intsOf_length]; omega) ?_
          exact push [38, 103, 116, 59] 1 (by omega) (by omega) (by simp) (wr_step q _ [38, 103, 116, 59] _ (by rw [e]; rfl) quo_const.2.2.1)
        · refine Ev.neg (by decide) ?_
          refine Ev.neg (by decide) ?_
          refine Ev.neg (by decide) ?_
          refine Ev.neg (by decide) ?_
          have hl2 : i + 1 < s.size := by
            have := congrArg List.length hr'
            rw [List.length_drop, sizeL, List.length_cons] at this
            omega
          have hl3 : i + 1 < s.data.toList.length := by rw [sizeL]; exact hl2
          have hb2 := bt_get s (i + 1) hl3
          have h160 : s.data.toList[i + 1] = 160 := by
            have := hr'
            rw [List.drop_eq_getElem_cons hl3] at this
            injection this
          have hr2 : s.data.toList.drop (i + 2) = r' := by
            have := hr'
            rw [List.drop_eq_getElem_cons hl3] at this
            injection this
          refine Ev.round (fun k => by rw [muslinref12_write.j1]) ?_
          refine Ev.neg Bool.false_ne_true ?_
          refine Ev.pos (by omega) ?_
          refine Ev.pos (by omega) ?_
          rw [hb]
          refine Ev.pos rfl ?_
          rw [hw1]
          refine Ev.pos (by omega) ?_
          refine Ev.pos (by omega) ?_
          rw [hb2, h160]
          refine Ev.pos rfl ?_
          refine Ev.pos (by rw [intsOf_length]; omega) ?_
          rw [show wrap64 (((i + 1 : Nat) : Int) + 1) = ((i + 2 : Nat) : Int) from by rw [w64 (by omega) (by omega)]; omega]
          exact push [38, 110, 98, 115, 112, 59] 2 (by omega) (by omega) (by simp) (wr_step q _ [38, 110, 98, 115, 112, 59] _ (by rw [e, hr2]; rfl) quo_const.2.2.2)
    · refine Ev.neg (by omega) ?_
      rw [strOf_ints, List.drop_eq_nil_of_le (by rw [sizeL]; omega), wr_nil, List.append_nil]
      exact Ev.now _
theorem write_is (s : ByteArray) (hs : s.size ≤ 10000) (q : Bool) : Ev (fun k => muslinref12_write.f k s q) (⟨(wr q s.data.toList).toArray⟩ : ByteArray) :=
  write_loop s hs q s.size 0 [] (by omega) (by omega) (by simp)
theorem text_got (s : ByteArray) (hs : s.size ≤ 1000000) : ent_Text.f s = some ⟨(esc 0 s.data.toList).toArray⟩ := guard_of hs
theorem value_got (s : ByteArray) (hs : s.size ≤ 1000000) : ent_Value.f s = some ⟨(quo (esc 0 s.data.toList)).toArray⟩ := guard_of hs
theorem decode_got (s : ByteArray) (hs : s.size ≤ 1000000) : ent_Decode.f s = some ⟨(dec 0 s.data.toList).toArray⟩ := guard_of hs
theorem live_ev : Ev (fun _ => (muslinlaw12_live.f).bind fun t => some t) true := Ev.got live_got (Ev.now _)
theorem short_got (s : ByteArray) : muslinlaw12_short.f s = some (decide ((s.size : Int) ≤ 5000)) := rfl
theorem quo_len (l : List UInt8) : (quo l).length ≤ 6 * l.length := by
  induction l with
  | nil => simp [quo]
  | cons c r ih =>
    rw [quo_cons, List.length_append, List.length_cons]
    have : (qq c).length ≤ 6 := by unfold qq; split <;> simp
    omega
theorem mkl (l : List UInt8) : (⟨l.toArray⟩ : ByteArray).toList = l := by rw [toList_eq]
theorem of_ev {f : Nat → Option Bool} (h : Ev f true) : ∃ k, f k = some true := by
  obtain ⟨k, h⟩ := h
  exact ⟨k, h k (Nat.le_refl _)⟩
theorem EntWrites : muslinlaw12_EntWrites.Pure := fun s _ => of_ev (by
  unfold muslinlaw12_EntWrites.f
  refine Ev.got (short_got s) ?_
  by_cases h : (s.size : Int) ≤ 5000
  · refine Ev.pos (decide_eq_true h) ?_
    refine Ev.got (text_got s (by omega)) ?_
    have w1 := write_is s (by omega) false
    have w2 := write_is s (by omega) true
    refine Ev.bind (show Ev (fun k => muslinref12_Text.f k s) _ from Ev.bind w1 (Ev.now _)) ?_
    refine Ev.pos rfl ?_
    refine Ev.got (value_got s (by omega)) ?_
    refine Ev.bind (show Ev (fun k => muslinref12_Value.f k s) _ from Ev.bind w2 (Ev.now _)) ?_
    refine Ev.pos rfl ?_
    exact live_ev
  · refine Ev.neg (by simp; omega) ?_
    exact live_ev)
theorem EntBack : muslinlaw12_EntBack.Pure := fun s _ => by
  unfold muslinlaw12_EntBack.f
  rw [short_got]
  by_cases h : (s.size : Int) ≤ 5000
  · have hl := esc_le s
    have hq := quo_len (esc 0 s.data.toList)
    rw [decide_eq_true h]
    simp only [Option.bind_some, if_true]
    rw [text_got s (by omega)]
    simp only [Option.bind_some]
    rw [decode_got _ (by rw [mk_size]; omega)]
    simp only [Option.bind_some, mkl]
    rw [dec_esc _ _ (Nat.le_refl _), toList_eq, if_pos rfl, value_got s (by omega)]
    simp only [Option.bind_some]
    rw [decode_got _ (by rw [mk_size]; omega)]
    simp only [Option.bind_some, mkl]
    rw [dec_quo _ _ (Nat.le_refl _), if_pos rfl, live_got]
    rfl
  · rw [decide_eq_false h]
    simp only [Option.bind_some, Bool.false_eq_true, if_false]
    rw [live_got]
    rfl
theorem plain_loop (s : ByteArray) (hs : s.size ≤ 5000) : ∀ (n i : Nat), s.size - i ≤ n → i ≤ s.size → (38 : UInt8) ∉ s.data.toList.take i → Ev (fun k => muslinlaw12_EntPlain.l0 k s (i : Int)) true
  | n, i, hn, hi, hm => by
    refine Ev.round (fun k => by rw [muslinlaw12_EntPlain.l0]) ?_
    by_cases hlt : i < s.size
    · refine Ev.pos (by omega) ?_
      refine Ev.pos (by omega) ?_
      have hl : i < s.data.toList.length := by rw [sizeL]; exact hlt
      rw [bt_get s i hl]
      have hts := List.take_succ_eq_append_getElem hl
      generalize s.data.toList[i] = c at *
      by_cases h38 : c = 38
      · refine Ev.pos (by rw [h38]; rfl) ?_
        refine Ev.got (decode_got s (by omega)) ?_
        have := dec_len _ s.data.toList (Nat.le_refl _)
        rw [sizeL] at this
        refine Ev.pos (by rw [mk_size]; omega) ?_
        exact live_ev
      · refine Ev.neg (fun e => h38 (UInt8.toNat_inj.1 (by show c.toNat = 38; omega))) ?_
        rw [w64 (by omega) (by omega), show (i : Int) + 1 = ((i + 1 : Nat) : Int) from rfl]
        match n, hn with
        | 0, hn => omega
        | n + 1, hn =>
          refine plain_loop s hs n (i + 1) (by omega) (by omega) ?_
          rw [hts]
          intro h
          rcases List.mem_append.1 h with h | h
          · exact hm h
          · simp at h; exact h38 h.symm
    · refine Ev.neg (by omega) ?_
      refine Ev.got (decode_got s (by omega)) ?_
      rw [List.take_of_length_le (by rw [sizeL]; omega)] at hm
      refine Ev.pos (by rw [mkl, dec_same _ hm, toList_eq]) ?_
      exact live_ev
theorem EntPlain : muslinlaw12_EntPlain.Pure := fun s _ => of_ev (by
  unfold muslinlaw12_EntPlain.f
  refine Ev.got (short_got s) ?_
  by_cases h : (s.size : Int) ≤ 5000
  · refine Ev.pos (decide_eq_true h) ?_
    exact plain_loop s (by omega) s.size 0 (by omega) (by omega) (by simp)
  · refine Ev.neg (by simp; omega) ?_
    exact live_ev)
theorem beq_iff {a b c d : List UInt8} (h : a = b ↔ c = d) : ((a == b) == (c == d)) = true := by
  have : (a == b) = (c == d) := by rw [Bool.eq_iff_iff]; simpa using h
  rw [this]; simp
theorem esc_inj {a b : List UInt8} (h : esc 0 a = esc 0 b) : a = b := by
  rw [← dec_esc _ a (Nat.le_refl _), h, dec_esc _ b (Nat.le_refl _)]
theorem quo_inj {a b : List UInt8} (h : quo (esc 0 a) = quo (esc 0 b)) : a = b := by
  rw [← dec_quo _ a (Nat.le_refl _), h, dec_quo _ b (Nat.le_refl _)]
theorem EntApart : muslinlaw12_EntApart.Pure := fun a b _ _ => of_ev (by
  have yes : Ev (fun k => muslinlaw12_EntApart.j0 k a b true) true := by
    refine Ev.round (fun k => by rw [muslinlaw12_EntApart.j0]) ?_
    refine Ev.pos rfl ?_
    exact live_ev
  unfold muslinlaw12_EntApart.f
  refine Ev.got (short_got a) ?_
  by_cases h : (a.size : Int) ≤ 5000
  · refine Ev.pos (decide_eq_true h) ?_
    refine Ev.got (short_got b) ?_
    by_cases h2 : (b.size : Int) ≤ 5000
    · rw [decide_eq_true h2]
      refine Ev.round (fun k => by rw [muslinlaw12_EntApart.j0]) ?_
      refine Ev.neg (by decide) ?_
      refine Ev.got (text_got a (by omega)) ?_
      refine Ev.got (text_got b (by omega)) ?_
      refine Ev.pos (by rw [mkl, mkl, toList_eq, toList_eq]; exact beq_iff ⟨esc_inj, fun e => by rw [e]⟩) ?_
      refine Ev.got (value_got a (by omega)) ?_
      refine Ev.got (value_got b (by omega)) ?_
      refine Ev.pos (by rw [mkl, mkl, toList_eq, toList_eq]; exact beq_iff ⟨quo_inj, fun e => by rw [e]⟩) ?_
      exact live_ev
    · rw [decide_eq_false h2]
      exact yes
  · refine Ev.neg (by simp; omega) ?_
    exact yes)
theorem app_list (a b : ByteArray) : (a ++ b).data.toList = a.data.toList ++ b.data.toList := by simp
theorem EntJoined : muslinlaw12_EntJoined.Pure := fun a b _ _ => of_ev (by
  have yes : Ev (fun k => muslinlaw12_EntJoined.j0 k a b true) true := by
    refine Ev.round (fun k => by rw [muslinlaw12_EntJoined.j0]) ?_
    refine Ev.pos rfl ?_
    exact live_ev
  unfold muslinlaw12_EntJoined.f
  refine Ev.got (short_got a) ?_
  by_cases h : (a.size : Int) ≤ 5000
  · refine Ev.pos (decide_eq_true h) ?_
    refine Ev.got (short_got b) ?_
    by_cases h2 : (b.size : Int) ≤ 5000
    · refine Ev.pos (decide_eq_true h2) ?_
      have no : a.data.toList.getLast? ≠ some 194 → Ev (fun k => muslinlaw12_EntJoined.j0 k a b false) true := fun hl => by
        have he := esc_append _ a.data.toList b.data.toList (Nat.le_refl _) hl
        have ha := esc_le a
        have hb := esc_le b
        have hqa := quo_len (esc 0 a.data.toList)
        have hqb := quo_len (esc 0 b.data.toList)
        have hab : (a ++ b).size = a.size + b.size := by simp
        refine Ev.round (fun k => by rw [muslinlaw12_EntJoined.j0]) ?_
        refine Ev.neg Bool.false_ne_true ?_
        refine Ev.pos (by omega) ?_
        refine Ev.got (text_got (a ++ b) (by omega)) ?_
        refine Ev.got (text_got a (by omega)) ?_
        refine Ev.got (text_got b (by omega)) ?_
        refine Ev.pos (by rw [mk_size, mk_size]; omega) ?_
        refine Ev.pos (by rw [mkl, toList_eq, app_list, app_list]; exact he) ?_
        refine Ev.got (value_got (a ++ b) (by omega)) ?_
        refine Ev.got (value_got a (by omega)) ?_
        refine Ev.got (value_got b (by omega)) ?_
        refine Ev.pos (by rw [mk_size, mk_size]; omega) ?_
        refine Ev.pos (by rw [mkl, toList_eq, app_list, app_list]; rw [he, quo_append]) ?_
        exact live_ev
      by_cases h3 : (a.size : Int) > 0
      · refine Ev.pos h3 ?_
        have hw : wrap64 ((a.size : Int) - 1) = ((a.size - 1 : Nat) : Int) := by rw [w64 (by omega) (by omega)]; omega
        rw [hw]
        refine Ev.pos (by omega) ?_
        refine Ev.pos (by omega) ?_
        have hl : a.size - 1 < a.data.toList.length := by rw [sizeL]; omega
        have hlast : a.data.toList.getLast? = some a.data.toList[a.size - 1] := by
          rw [List.getLast?_eq_getElem?, sizeL, List.getElem?_eq_getElem hl]
        rw [bt_get a (a.size - 1) hl]
        rw [hlast] at no
        generalize a.data.toList[a.size - 1] = c at *
        by_cases hc : c = 194
        · subst hc
          exact yes
        · rw [show ((c.toNat : Int) == 194) = false from beq_eq_false_iff_ne.2 (fun e => hc (UInt8.toNat_inj.1 (by show c.toNat = 194; omega)))]
          exact no (fun e => hc (by injection e))
      · refine Ev.neg h3 ?_
        refine no ?_
        have : a.data.toList = [] := List.length_eq_zero_iff.1 (by rw [sizeL]; omega)
        rw [this]; simp
    · refine Ev.neg (by simp; omega) ?_
      exact yes
  · refine Ev.neg (by simp; omega) ?_
    exact yes)
end Go.Proofs.YtkfcbafjcjmfnaaGreatDoor.Pure
namespace Go.Proofs.YtkfcbafjcjmfnaaGreatDoor
open Go.RowKit Go.ChangeShapes Go.WideShapes Go.ChangeAt Go.Lib Go.Proofs.YtkfcbafjcjmfnaaGreatDoor.Ent
noncomputable def laidWorld (os : Os) : World :=
  { World.doorLaid Tryz.prog 162 os with heap := (World.doorLaid Tryz.prog 162 os).heap.modify 3 fun
      | .cells _ t frozen => .cells (Go.Pinned.utf8FirstZ.map fun (z : Nat) => Value.int .u8 (z : Int)).toArray t frozen
      | o => o }
def namesD : DataW Unit := Rows.laid_muslin_ent_names
theorem names_at (l : List UInt8) : namesD.atKey (.string l) .nil = match nameL l with | some c => .lit (.int .i32 c) | none => .nil := by
  by_cases h : ∃ p ∈ namesT, p.1 = l
  · obtain ⟨p, hp, rfl⟩ := h
    simp only [namesT, List.mem_cons, List.not_mem_nil, or_false] at hp
    rcases hp with rfl | rfl | rfl | rfl | rfl | rfl | rfl | rfl | rfl | rfl | rfl | rfl | rfl | rfl | rfl | rfl <;> rfl
  · have hn : nameL l = none := by
      unfold nameL
      rw [Option.map_eq_none_iff, List.find?_eq_none]
      intro p hp he
      exact h ⟨p, hp, by simpa using he⟩
    rw [hn]
    have hne : ∀ x, x ∈ namesT.map (·.1) → ¬ x = l := fun x hx e => by
      obtain ⟨p, hp, rfl⟩ := List.mem_map.1 hx
      exact h ⟨p, hp, e⟩
    have hf : ∀ es : List (Lit × DataW Unit), (∀ q ∈ es, q.1.sameKey (.string l) = false) → (DataW.map es).atKey (.string l) .nil = .nil := fun es he => by
      unfold DataW.atKey
      have : es.find? (fun p => p.1.sameKey (.string l)) = none := by
        rw [List.find?_eq_none]
        intro q hq
        rw [he q hq]; simp
      simp only [this]
    refine hf _ (fun q hq => ?_)
    have hk : ∀ q ∈ (match namesD with | .map es => es | _ => []), ∃ x ∈ namesT.map (·.1), q.1 = .string x := by
      intro q hq
      simp only [namesD, Rows.laid_muslin_ent_names, List.mem_cons, List.not_mem_nil, or_false] at hq
      rcases hq with rfl | rfl | rfl | rfl | rfl | rfl | rfl | rfl | rfl | rfl | rfl | rfl | rfl | rfl | rfl | rfl <;> exact ⟨_, by decide, rfl⟩
    obtain ⟨x, hx, he⟩ := hk q hq
    rw [he]
    have := hne x hx
    simp [Lit.sameKey, this]
theorem names_of {W : World} (h : VarReads Tryz.prog W "muslin/ent.names" namesD) : Ent.TabNames W := by
  obtain ⟨g, t, cs, fuel, p, hg, ht, hv, hd⟩ := h
  obtain rfl := Option.some.inj (hg.symm.trans (show Tryz.prog.globalNamed "muslin/ent.names" = some 0 from by kernel_rfl))
  obtain rfl := Option.some.inj (ht.symm.trans (show (Tryz.prog.globals[0]?).map (·.type) = some 52 from by kernel_rfl))
  have law : WideMaps.KeyLaw Tryz.prog 9 := WideMaps.string_law Tryz.underlying9
  rcases WideElems.open_map Tryz.underlying52 hd with ⟨_, hx⟩ | ⟨bm, es, clock, m, rfl, hcs, hb, _, F, hx⟩
  · simp [namesD, Rows.laid_muslin_ent_names] at hx
  simp only [Prod.mk.injEq] at hx
  have hcell : W.cell? ⟨0, 0, none⟩ = some (.map (some bm)) := by
    have := World.var?_cell hg hv 0
    rw [Array.eq_one_of_toList hcs] at this
    simpa using this
  refine ⟨bm, (Array.getElem?_eq_some_iff.1 hb).1, hcell, fun w' hh s hs => ?_⟩
  have zero : (zeroValue 21).run Tryz.prog w' = .ok (.int .i32 0) w' := by kernel_rfl
  have hkey : keyOf Tryz.prog 9 (.string s) = some (.string s.data.toList) := WideMaps.keyOf_string_mk Tryz.underlying9 (by unfold maxLen; omega)
  have hat0 := names_at s.data.toList
  rcases WideElems.fit_lookup_ok (w := w') law Tryz.underlying52 zero (hh.trans hb) F hkey with ⟨hrun, hat⟩ | ⟨v, y, hrun, hRv, hat, _⟩
  · have := hat .nil
    rw [← hx.1] at this
    rw [this] at hat0
    refine ⟨fun c hc => ?_, fun _ => hrun⟩
    rw [hc] at hat0
    cases hat0
  · obtain ⟨r, rfl, rfl, _⟩ := WideElems.elemAt_int Tryz.underlying21 hRv
    have := hat .nil
    rw [← hx.1] at this
    rw [this] at hat0
    refine ⟨fun c hc => ?_, fun hn => ?_⟩
    · rw [hc] at hat0
      cases hat0
      exact hrun
    · rw [hn] at hat0
      cases hat0
theorem star_err : "*" ++ "errors.errorString" = "*errors.errorString" := by decide
theorem row_err (u : TypeId) (h : Tryz.prog.typeName? 3 u = some "*errors.errorString") : u = 159 :=
  typeName_ptr_named (nm := "errors.errorString") (by rw [star_err]; kernel_rfl) (by kernel_rfl) (by decide) u (by rw [star_err]; exact h)
theorem err_of {W : World} {text : List UInt8} {r : List (String × DataW Unit)} (h : laidMet Tryz.prog (("strconv.ErrSyntax", .iface "*errors.errorString" (.ptr (.agg [.lit (.string text)]))) :: r) W) :
    ∃ ev, W.cell? ⟨5, 0, none⟩ = some ev ∧ (ev = .nilIface ∨ ∃ te pe, ev = .iface te pe) := by
  have hg : Tryz.prog.globalNamed "strconv.ErrSyntax" = some 5 := by kernel_rfl
  obtain ⟨a, s, hv, _, _, _⟩ := laid_sentinel h hg (show (Tryz.prog.globals[5]?).map (·.type) = some 35 from by kernel_rfl) Tryz.underlying35 row_err Tryz.underlying159 Tryz.underlying161 rfl rfl Tryz.underlying9 (by kernel_rfl) (by kernel_rfl)
  exact ⟨_, by simpa using World.var?_cell hg hv 0, .inr ⟨_, _, rfl⟩⟩
theorem glob_of {W : World} {d1 d2 d3 a d5 d6 : DataW Unit} (ha : a = acceptData) (he : d6 = Rows.laid_strconv_ErrSyntax) (h : laidMet Tryz.prog [("math/bits.deBruijn32tab", d1), ("math/bits.deBruijn64tab", d2), ("internal/strconv.uint64pow10", d3), ("unicode/utf8.acceptRanges", a), ("strconv.ErrRange", d5), ("strconv.ErrSyntax", d6), ("muslin/chars.high", Lib.tabData .i32 highTab), ("muslin/ent.names", namesD), ("unicode/utf8.first", Go.Pinned.utf8First)] W) (hsh : W.ShapedOpen Tryz.prog) : Ent.GlobE W := by
  refine ⟨⟨Lib.tabIs_of_head (show Tryz.prog.globalNamed "muslin/chars.high" = some 2 from by kernel_rfl) (show (Tryz.prog.globals[2]?).map (·.type) = some 119 from by kernel_rfl) Tryz.underlying119 Tryz.underlying21 (by kernel_rfl) (by kernel_rfl) h.tail.tail.tail.tail.tail.tail, ?_, ?_⟩, ?_, ?_⟩
  · obtain ⟨ps, hl, _⟩ := h
    have rd := LaidVars_reads hl
    have r1 := rd "unicode/utf8.acceptRanges" a (by simp)
    have r3 := rd "unicode/utf8.first" Go.Pinned.utf8First (by simp)
    rw [ha] at r1
    rw [Go.Pinned.utf8First_eq] at r3
    exact utf8Tabs_of_reads Tryz.lays260 ⟨by kernel_rfl, by kernel_rfl, by kernel_rfl, by kernel_rfl, by kernel_rfl, by kernel_rfl, by kernel_rfl⟩ r3 r1
  · exact Go.Proofs.cell_of_shapedOpen_int (zero := #[.int .i64 0]) (t := 3) hsh (of_decide_eq_true (by kernel_rfl)) (by kernel_rfl) rfl (by kernel_rfl) (by kernel_rfl) Tryz.underlying3
  · obtain ⟨ps, hl, _⟩ := h
    exact names_of (LaidVars_reads hl "muslin/ent.names" namesD (by simp))
  · subst he
    exact err_of h.tail.tail.tail.tail.tail
theorem glob_entWrites {W : World} (h : laidMetH Tryz.prog Rows.entWritesRow.laid W) (hsh : W.ShapedOpen Tryz.prog) : Ent.GlobE W := by
  rw [MakeChecks.laidMetH_plain _ _ _ (by kernel_rfl)] at h
  exact glob_of (by kernel_rfl) rfl h hsh
theorem glob_entBack {W : World} (h : laidMetH Tryz.prog Rows.entBackRow.laid W) (hsh : W.ShapedOpen Tryz.prog) : Ent.GlobE W := by
  rw [MakeChecks.laidMetH_plain _ _ _ (by kernel_rfl)] at h
  exact glob_of (by kernel_rfl) rfl h hsh
theorem glob_entPlain {W : World} (h : laidMetH Tryz.prog Rows.entPlainRow.laid W) (hsh : W.ShapedOpen Tryz.prog) : Ent.GlobE W := by
  rw [MakeChecks.laidMetH_plain _ _ _ (by kernel_rfl)] at h
  exact glob_of (by kernel_rfl) rfl h hsh
theorem glob_entApart {W : World} (h : laidMetH Tryz.prog Rows.entApartRow.laid W) (hsh : W.ShapedOpen Tryz.prog) : Ent.GlobE W := by
  rw [MakeChecks.laidMetH_plain _ _ _ (by kernel_rfl)] at h
  exact glob_of (by kernel_rfl) rfl h hsh
theorem glob_entJoined {W : World} (h : laidMetH Tryz.prog Rows.entJoinedRow.laid W) (hsh : W.ShapedOpen Tryz.prog) : Ent.GlobE W := by
  rw [MakeChecks.laidMetH_plain _ _ _ (by kernel_rfl)] at h
  exact glob_of (by kernel_rfl) rfl h hsh
theorem wrap_shaped {H : Type} {enc : TypeId × Value → H} {a : Assume} {C : Checked} {os : Os} {f : FuncId} {fn : Func} {s : ChangeSpec} {conds : List PathCond} {apart fresh handsOn again : Bool} {X : World → Array Value → Prop}
    (hX : ∀ (w w' : World) (args : Array Value), w.heap = w'.heap → X w args → X w' args)
    (own : ownKnob C.prog.godebug = none) (started : os.Started) (noInit : C.prog.inits.idxOf? f = none) (hfn : C.prog.funcs[f]? = some fn)
    (witness : ∃ (w : World) (tape : Tape) (i : Input), w.os = os ∧ (w.forCall tape i).Shaped C.prog ∧ i.vars = [] ∧ Input.okWide C.prog (w.forCall tape i) .any w.heap.size f i ∧
      ((s.pre enc C.prog fn conds apart (w.forCall tape i).memory i.args ∧ X (w.forCall tape i).memory i.args) ∧ sizedMet enc C.prog fn (OpenSpec.ofChange s) apart (w.forCall tape i).memory i.args) ∧ a.holds C.prog (lone (Frame.enter C.prog f i.args .normal) [] (w.forCall tape i)))
    (contract : ∀ (W : World) (base : Nat) (args : Array Value) (ds gs : List (DataW H)) (before : List MemPlace),
      (∀ (j : Nat) t v, fn.params[j]? = some t → args[j]? = some v → Value.okWide C.prog W .any base t v) →
      DataW.Whole enc C.prog fn.params.toList s.vars apart W args.toList ds gs before →
      conds.all (PathCond.test C.prog ⟨fn.params.toList, ds, s.plain.varTypes C.prog, gs⟩) = true →
      (DataW.weightsEach C.prog (fn.params.toList ++ s.plain.varTypes C.prog) (ds ++ gs)).all (· ≤ reachBytes) = true → X W args → W.ShapedOpen C.prog →
      a.holds C.prog (lone (Frame.enter C.prog f args .normal) [] W) →
      Calls C.prog f args W fun e W' => ∃ v, e = .returned v ∧ s.post enc C.prog fn apart fresh handsOn again W args v W') :
    ReturnsInHanded a C os f .any (fun w args => (s.pre enc C.prog fn conds apart w args ∧ X w args) ∧ sizedMet enc C.prog fn (OpenSpec.ofChange s) apart w args) (s.post enc C.prog fn apart fresh handsOn again) := by
  refine returnsInHanded_of_calls own started noInit witness ?_
  intro w tape i _ hsh _ hok hpre hholds
  obtain ⟨_, _, _, fn', hfn', _, _, _, _, hval⟩ := hok
  obtain rfl : fn' = fn := Option.some.inj (hfn'.symm.trans hfn)
  obtain ⟨⟨⟨ds, gs, before, hw, hc⟩, hx⟩, hz⟩ := hpre
  refine (contract (w.forCall tape i) w.heap.size i.args ds gs before hval (DataW.Whole.of_heap (w' := w.forCall tape i) (by rfl) hw) hc (hz.weights hw) (hX _ _ _ (by rfl) hx) hsh hholds).mono fun e W' ⟨v, he, hp⟩ => ?_
  subst he
  exact ChangeSpec.post_blind hp
end Go.Proofs.YtkfcbafjcjmfnaaGreatDoor
