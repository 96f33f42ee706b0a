/- Parts of the proof of the law WordBack, in one text: R1, Pure05a, WordR, WordX, P0, P1. -/
import Derived.Test.YtokkgjiofhhlkaaDoorMgWordBack5
import Derived.Test.YtokkgjiofhhlkaaDoorMgWordBack3
import Derived.Test.YtokkgjiofhhlkaaDoorMgWordBack4
import Derived.Test.YtokkgjiofhhlkaaDoorProg
import Derived.Below
import Derived.Deep.Draws
import Derived.Deep.AppendLies
import Derived.Maps.AppendAt
import Derived.OwnWalk
import Derived.Laws.BytesArg
import Derived.Laws.MakeOwn
import Derived.Laws.OwnMore
import Derived.Deep.OwnRows
import Derived.Tactics
import Derived.Lib.ConvBytes
import Derived.Laws.Slices
import Derived.WalkKit
import Derived.KernelRfl
import Derived.RowKit3
import Derived.Deep.LoopGhost
import Derived.Deep.QuietTactic
import Derived.BigQuiet
import Derived.WideLaws
import Derived.Deep.DeepCutAuto
import Derived.Deep.CutBlock
import Derived.Deep.RegionHeld3
import Derived.Laws.Rows
import Derived.Lib.AppendStr
import Derived.ArgAppend
import Derived.Laws.IdiomCopy
import Derived.OrdersHeld
import Derived.Laws.BitsLemmas
import Derived.RowKit
import Derived.Test.YtokkgjiofhhlkaaDoorMgWordBack1
import Derived.Test.YtokkgjiofhhlkaaDoorWWords
import Derived.Test.YtokkgjiofhhlkaaDoorWLast
import Derived.Test.YtokkgjiofhhlkaaDoorWQPut
import Derived.Test.YtokkgjiofhhlkaaDoorWApart
import Derived.Test.YtokkgjiofhhlkaaDoorWArr
import Derived.Test.YtokkgjiofhhlkaaDoorWZeros
import Derived.Test.YtokkgjiofhhlkaaDoorWFoot
import Derived.Test.YtokkgjiofhhlkaaDoorWKept
import Derived.Test.YtokkgjiofhhlkaaDoorWShare
import Derived.Test.YtokkgjiofhhlkaaDoorWN
import Derived.Laws.StructEq
import Derived.Test.YtokkgjiofhhlkaaDoorWRepsOne
import Derived.Test.YtokkgjiofhhlkaaDoorWNEv
import Derived.Test.YtokkgjiofhhlkaaDoorWMore
namespace Go.Proofs.YtokkgjiofhhlkaaDoor.R
open Go.RowKit Go.Proofs.YtokkgjiofhhlkaaDoorW.PrintWords Go.Proofs.YtokkgjiofhhlkaaDoorW.PrintLast Go.Proofs.YtokkgjiofhhlkaaDoorW.PrintMore
attribute [local go_sem] max2_int min2_int max_two min_two max_three min_three max_four min_four
set_option linter.unusedVariables false
set_option linter.unusedSimpArgs false
def muslinref01_bit.f (a0 : ByteArray) (a1 : Int) : Option (Int) := if (wrap64 (Int.tdiv a1 8)) ≥ (a0.size : Int) then (some 0) else (if 0 ≤ (wrap64 (Int.tdiv a1 8)) then (if (wrap64 (Int.tdiv a1 8)) < (a0.size : Int) then (if 0 ≤ (IntKind.u64.wrap (wrap64 (7 - (Int.tmod a1 8)))) then (some (Int.tmod (shr .i64 (wrap64 (bt a0 (wrap64 (Int.tdiv a1 8)))) (IntKind.u64.wrap (wrap64 (7 - (Int.tmod a1 8))))) 2)) else (none)) else (none)) else (none))
set_option maxHeartbeats 8000000 in
set_option maxRecDepth 100000 in
theorem muslinref01_bit.calls (a0 : ByteArray) (a1 : Int) (r : Int) (w : World) (h : muslinref01_bit.f a0 a1 = some r) :
    Calls Tryd.prog 76 #[.string a0, .int .i64 a1] w fun e w' => e = .returned (.int .i64 r) ∧ Drawn0 w w' := by
  have H : (if (wrap64 (Int.tdiv a1 8)) ≥ (a0.size : Int) then (some 0) else (if 0 ≤ (wrap64 (Int.tdiv a1 8)) then (if (wrap64 (Int.tdiv a1 8)) < (a0.size : Int) then (if 0 ≤ (IntKind.u64.wrap (wrap64 (7 - (Int.tmod a1 8)))) then (some (Int.tmod (shr .i64 (wrap64 (bt a0 (wrap64 (Int.tdiv a1 8)))) (IntKind.u64.wrap (wrap64 (7 - (Int.tmod a1 8))))) 2)) else (none)) else (none)) else (none))) = some r := h
  clear h
  by_cases c3 : (wrap64 (Int.tdiv a1 8)) ≥ (a0.size : Int)
  · rw [if_pos c3] at H
    have c3b0 : decide ((a0.size : Int) ≤ (wrap64 (Int.tdiv a1 8))) = true := decide_eq_true c3
    clear c3
    obtain rfl := Option.some.inj H
    go_enter Tryd.func76, Tryd.ntmps76
    go_wp2
    go_ret
    exact ⟨by first | rfl | (simp; done) | (simp [*]; done), by repeat (first | exact Drawn0.refl _ | apply Drawn0.step)⟩
  · rw [if_neg c3] at H
    have c3b0 : decide ((a0.size : Int) ≤ (wrap64 (Int.tdiv a1 8))) = false := decide_eq_false c3
    clear c3
    obtain ⟨ji4, hji4⟩ : ∃ j_ : Int, (wrap64 (Int.tdiv a1 8)) = j_ := ⟨_, rfl⟩
    replace H : (if 0 ≤ (ji4) then (if (ji4) < (a0.size : Int) then (if 0 ≤ (IntKind.u64.wrap (wrap64 (7 - (Int.tmod a1 8)))) then (some (Int.tmod (shr .i64 (wrap64 (bt a0 (ji4))) (IntKind.u64.wrap (wrap64 (7 - (Int.tmod a1 8))))) 2)) else (none)) else (none)) else (none)) = some r := by first | (rw [hji4] at H; exact H) | (simp only [hji4] at H ⊢; exact H)
    (try rw [hji4] at c3b0)
    have hji4w : (IntKind.i64.wrap (Int.tdiv a1 8)) = ji4 := (i64_w _).trans hji4
    by_cases c5 : 0 ≤ (ji4)
    · rw [if_pos c5] at H
      have c5b0 : decide (0 ≤ (ji4)) = true := decide_eq_true c5
      clear c5
      by_cases c6 : (ji4) < (a0.size : Int)
      · rw [if_pos c6] at H
        have c6b0 : decide ((ji4) < (a0.size : Int)) = true := decide_eq_true c6
        clear c6
        obtain ⟨ji8, hji8⟩ : ∃ j_ : Int, (IntKind.u64.wrap (wrap64 (7 - (Int.tmod a1 8)))) = j_ := ⟨_, rfl⟩
        replace H : (if 0 ≤ (ji8) then (some (Int.tmod (shr .i64 (wrap64 (bt a0 (ji4))) (ji8)) 2)) else (none)) = some r := by first | (rw [hji8] at H; exact H) | (simp only [hji8] at H ⊢; exact H)
        by_cases c9 : 0 ≤ (ji8)
        · rw [if_pos c9] at H
          have c9b0 := eq_true c9
          have c9b1 : decide (0 ≤ (ji8)) = true := decide_eq_true c9
          clear c9
          obtain ⟨ji10, hji10⟩ : ∃ j_ : Int, (shr .i64 (wrap64 (bt a0 (ji4))) (ji8)) = j_ := ⟨_, rfl⟩
          replace H : (some (Int.tmod (ji10) 2)) = some r := by first | (rw [hji10] at H; exact H) | (simp only [hji10] at H ⊢; exact H)
          have hji10_ : ((wrap64 (bt a0 (ji4))) / 2 ^ min (ji8).toNat 64) = ji10 := hji10
          have hji10z : (ji8) ≤ 64 → ((wrap64 (bt a0 (ji4))) / 2 ^ (ji8).toNat) = ji10 := shr_small hji10
          obtain rfl := Option.some.inj H
          have p7 : 0 ≤ ((ji4) : Int) := of_decide_eq_true (by first | (with_reducible assumption) | assumption)
          have q7 : (ji4) < (a0.size : Int) := of_decide_eq_true (by first | (with_reducible assumption) | assumption)
          have hx7 := bt_at a0 (ji4)
          replace p7 := eq_true p7
          replace q7 := eq_true q7
          go_enter Tryd.func76, Tryd.ntmps76
          go_wp2
          go_ret
          exact ⟨by first | rfl | (simp; done) | (simp only [← hji4, ← hji8, ← hji10] <;> (first | rfl | (simp; done) | (simp; simp only [hji4, hji8, hji10]; exact beq_iff_eq.1 (by assumption)))) | (simp [*]; done), by repeat (first | exact Drawn0.refl _ | apply Drawn0.step)⟩
        · rw [if_neg c9] at H
          exact absurd H (by simp)
      · rw [if_neg c6] at H
        exact absurd H (by simp)
    · rw [if_neg c5] at H
      exact absurd H (by simp)
mutual
def muslinref01_Encode.l0 : Nat → ByteArray → List Int → Int → Option (ByteArray)
  | 0, _, _, _ => none
  | k + 1, x0, x3, x4 => if x4 < (wrap64 (8 * (x0.size : Int))) then (muslinref01_Encode.l1 k x0 x3 x4 0 0) else (muslinref01_Encode.l2 k x3)
def muslinref01_Encode.l1 : Nat → ByteArray → List Int → Int → Int → Int → Option (ByteArray)
  | 0, _, _, _, _, _ => none
  | k + 1, x0, x3, x4, x5, x6 => if x6 < 6 then ((muslinref01_bit.f x0 (wrap64 (x4 + x6))).bind fun t101 => (muslinref01_Encode.l1 k x0 x3 x4 (wrap64 ((wrap64 (2 * x5)) + t101)) (wrap64 (x6 + 1)))) else (if 0 ≤ x5 then (if x5 < 64 then (if x3.length < 140737488355328 then (muslinref01_Encode.l0 k x0 (x3 ++ [bt (⟨#[65, 66, 67, 68, 69, 70, 71, 72, 73, 74, 75, 76, 77, 78, 79, 80, 81, 82, 83, 84, 85, 86, 87, 88, 89, 90, 97, 98, 99, 100, 101, 102, 103, 104, 105, 106, 107, 108, 109, 110, 111, 112, 113, 114, 115, 116, 117, 118, 119, 120, 121, 122, 48, 49, 50, 51, 52, 53, 54, 55, 56, 57, 43, 47]⟩ : ByteArray) x5]) (wrap64 (x4 + 6))) else (none)) else (none)) else (none))
def muslinref01_Encode.l2 : Nat → List Int → Option (ByteArray)
  | 0, _ => none
  | k + 1, x3 => if ((x3.length : Int) % 4) = 0 then (some (strOfNums x3)) else (if x3.length < 140737488355328 then (muslinref01_Encode.l2 k (x3 ++ [61])) else (none))
end
def muslinref01_Encode.f (k : Nat) (a0 : ByteArray) : Option (ByteArray) := muslinref01_Encode.l0 k a0 ([] : List Int) 0
set_option maxHeartbeats 8000000 in
set_option maxRecDepth 100000 in
theorem muslinref01_Encode.calls (k : Nat) (a0 : ByteArray) (r : ByteArray) (w : World) (h : muslinref01_Encode.f k a0 = some r) :
    Calls Tryd.prog 43 #[.string a0] w fun e w' => e = .returned (.string r) ∧ Below w.heap.size w w' := by
  have HB := Aside0.mk (Below.refl w.heap.size w)
  have H : (muslinref01_Encode.l0 k a0 ([] : List Int) 0) = some r := h
  clear h
  have H' := Aside0.mk H
  clear H
  go_enter Tryd.func43, Tryd.ntmps43
  go_wp2
  go_loopg [3, 4] k (fun kq v3 v4 w' => ∃ (x3_1 : List Int) (x4_1 : Int), v4 = .int .i64 x4_1 ∧ Aside0 (muslinref01_Encode.l0 kq a0 x3_1 x4_1 = some r) ∧ Aside0 (kq ≤ k) ∧ Aside0 (Kd.R (Kd.int .u8) 5 w' w.heap.size (fun _ => True) v3 x3_1) ∧ Aside0 (Below w.heap.size w w'))
  case atStart => exact ⟨(([] : List Int)), (0), (by first | rfl | (simp; done) | (simp [*]; done)), H', ⟨Nat.le_refl _⟩, ⟨by first | exact Kd.R_nil _ _ _ _ _ | exact Kd.N_nil _ _ _ _ _ | exact Kd.V_nil _ _ _ _ _ | exact Kd.Q_nil _ _ _ _ _ | exact Kd.S_nil _ _ _ _ _⟩, ⟨by repeat (first | (with_reducible first | exact HB.out | apply below_alloc | apply pw_below_drewN | apply below_drew1) | exact HB.out)⟩⟩
  case round =>
    clear H'
    obtain ⟨x3_1, x4_1, rfl, HA, HK1, HO_3, HB⟩ := hrel
    cases gk with
    | zero => exact absurd HA.out (by simp [muslinref01_Encode.l0])
    | succ k1 =>
      have H := HA.out
      clear HA
      simp only [muslinref01_Encode.l0] at H
      by_cases c2 : x4_1 < (wrap64 (8 * (a0.size : Int)))
      · rw [if_pos c2] at H
        have c2b0 : decide (x4_1 < (wrap64 (8 * (a0.size : Int)))) = true := decide_eq_true c2
        clear c2
        have H' := Aside0.mk H
        clear H
        go_wp2
        go_loopg [5, 6] k1 (fun kq v5 v6 w' => ∃ (x5_2 : Int) (x6_2 : Int), v5 = .int .i64 x5_2 ∧ v6 = .int .i64 x6_2 ∧ Aside0 (muslinref01_Encode.l1 kq a0 x3_1 x4_1 x5_2 x6_2 = some r) ∧ Aside0 (kq ≤ k1) ∧ Aside0 (Kd.R (Kd.int .u8) 5 w' w.heap.size (fun _ => True) u3 x3_1) ∧ Aside0 (Below w.heap.size w w'))
        case atStart => exact ⟨(0), (0), (by first | rfl | (simp; done) | (simp [*]; done)), (by first | rfl | (simp; done) | (simp [*]; done)), H', ⟨Nat.le_refl _⟩, ⟨by (with_reducible repeat (first | apply Kd.R_alloc | apply Kd.R_drewN | apply Kd.R_drew)); exact HO_3.out⟩, ⟨by repeat (first | (with_reducible first | exact HB.out | apply below_alloc | apply pw_below_drewN | apply below_drew1) | exact HB.out)⟩⟩
        case round =>
          clear H'
          try clear c2
          try clear c2b0
          try clear p2
          obtain ⟨x5_2, x6_2, rfl, rfl, HA, HK2, HO_3, HB⟩ := hrel
          cases gk with
          | zero => exact absurd HA.out (by simp [muslinref01_Encode.l1])
          | succ k2 =>
            have H := HA.out
            clear HA
            simp only [muslinref01_Encode.l1] at H
            by_cases c3 : x6_2 < 6
            · rw [if_pos c3] at H
              have c3b0 : decide (x6_2 < 6) = true := decide_eq_true c3
              clear c3
              replace H := Option.bind_eq_some_iff.mp H
              obtain ⟨t101, A40, H⟩ := H
              replace H : (muslinref01_Encode.l1 k2 a0 x3_1 x4_1 (wrap64 ((wrap64 (2 * x5_2)) + t101)) (wrap64 (x6_2 + 1))) = some r := H
              have A4 := Aside0.mk A40
              clear A40
              have H' := Aside0.mk H
              clear H
              go_wp2_with (first | ((with_reducible refine gate_callee (f := 76) rfl ?_); refine goesL_ (some 24) rfl rfl Tryd.func76 (by kernel_rfl) rfl #[.string a0, .int .i64 (wrap64 (x4_1 + x6_2))] rfl (by (try simp only [List.map_toArray, List.map_cons, List.map_nil]); first | done | rfl | (simp only [List.length_drop, List.length_take]; rfl)) ?_; (with_reducible refine (muslinref01_bit.calls a0 (wrap64 (x4_1 + x6_2)) t101 _ A4.out).mono ?_); rintro e w' ⟨rfl, ⟨nd, rfl⟩⟩; refine ⟨_, rfl, ?_⟩))
              go_roundg k2
              case measure => have := HK1.out; have := HK2.out; omega
              case rel => exact ⟨(wrap64 ((wrap64 (2 * x5_2)) + t101)), (wrap64 (x6_2 + 1)), (by first | rfl | (simp; done) | (simp [*]; done)), (by first | rfl | (simp; done) | (simp [*]; done)), H', ⟨by have := HK1.out; have := HK2.out; omega⟩, ⟨by (with_reducible repeat (first | apply Kd.R_alloc | apply Kd.R_drewN | apply Kd.R_drew)); exact HO_3.out⟩, ⟨by repeat (first | (with_reducible first | exact HB.out | apply below_alloc | apply pw_below_drewN | apply below_drew1) | exact HB.out)⟩⟩
            · rw [if_neg c3] at H
              have c3b0 : decide (x6_2 < 6) = false := decide_eq_false c3
              clear c3
              by_cases c5 : 0 ≤ x5_2
              · rw [if_pos c5] at H
                have c5b0 : decide (0 ≤ x5_2) = true := decide_eq_true c5
                clear c5
                by_cases c6 : x5_2 < 64
                · rw [if_pos c6] at H
                  have c6b0 : decide (x5_2 < 64) = true := decide_eq_true c6
                  clear c6
                  by_cases c8 : x3_1.length < 140737488355328
                  · rw [if_pos c8] at H
                    have LMc8 := Aside0.mk c8
                    clear c8
                    obtain ⟨y102, hy102⟩ : ∃ y_ : List Int, y_ = (x3_1 ++ [bt (⟨#[65, 66, 67, 68, 69, 70, 71, 72, 73, 74, 75, 76, 77, 78, 79, 80, 81, 82, 83, 84, 85, 86, 87, 88, 89, 90, 97, 98, 99, 100, 101, 102, 103, 104, 105, 106, 107, 108, 109, 110, 111, 112, 113, 114, 115, 116, 117, 118, 119, 120, 121, 122, 48, 49, 50, 51, 52, 53, 54, 55, 56, 57, 43, 47]⟩ : ByteArray) x5_2]) := ⟨_, rfl⟩
                    replace H : (muslinref01_Encode.l0 k2 a0 y102 (wrap64 (x4_1 + 6))) = some r := by first | (rw [hy102]; with_reducible exact H) | (have H2_ := (Option.bind_some _ _).symm.trans H; rw [hy102]; with_reducible exact H2_) | (have H2_ := (Option.bind_some _ _).symm.trans H; with_reducible exact H2_) | with_reducible exact H | (rw [hy102]; exact H) | exact H
                    have Ny102 := Aside0.mk hy102
                    clear hy102
                    have H' := Aside0.mk H
                    clear H
                    have p7 : 0 ≤ (x5_2 : Int) := of_decide_eq_true (by first | (with_reducible assumption) | assumption)
                    have q7 : x5_2 < (64 : Int) := of_decide_eq_true (by first | (with_reducible assumption) | assumption)
                    have hx7 := bt_at (⟨#[65, 66, 67, 68, 69, 70, 71, 72, 73, 74, 75, 76, 77, 78, 79, 80, 81, 82, 83, 84, 85, 86, 87, 88, 89, 90, 97, 98, 99, 100, 101, 102, 103, 104, 105, 106, 107, 108, 109, 110, 111, 112, 113, 114, 115, 116, 117, 118, 119, 120, 121, 122, 48, 49, 50, 51, 52, 53, 54, 55, 56, 57, 43, 47]⟩ : ByteArray) x5_2
                    replace p7 := eq_true p7
                    replace q7 := eq_true q7
                    go_wp2_with (first | ((with_reducible refine gate_builtin (b := .append) (xs := #[.tmp 26, .tmp 29]) rfl ?_); at_builtin; refine Kd.R_append (Kd.int .u8) (w0 := w) w.heap.size rfl (.tmp 26) (.tmp 29) 37 5 (.int .u8 0) 1 rfl Tryd.underlying37 info5 rfl (by decide) (by omega) u3 x3_1 (bt (⟨#[65, 66, 67, 68, 69, 70, 71, 72, 73, 74, 75, 76, 77, 78, 79, 80, 81, 82, 83, 84, 85, 86, 87, 88, 89, 90, 97, 98, 99, 100, 101, 102, 103, 104, 105, 106, 107, 108, 109, 110, 111, 112, 113, 114, 115, 116, 117, 118, 119, 120, 121, 122, 48, 49, 50, 51, 52, 53, 54, 55, 56, 57, 43, 47]⟩ : ByteArray) x5_2) [.int .u8 (bt (⟨#[65, 66, 67, 68, 69, 70, 71, 72, 73, 74, 75, 76, 77, 78, 79, 80, 81, 82, 83, 84, 85, 86, 87, 88, 89, 90, 97, 98, 99, 100, 101, 102, 103, 104, 105, 106, 107, 108, 109, 110, 111, 112, 113, 114, 115, 116, 117, 118, 119, 120, 121, 122, 48, 49, 50, 51, 52, 53, 54, 55, 56, 57, 43, 47]⟩ : ByteArray) x5_2)] (fun _ => True) (fun _ => False) rfl rfl ?aP (fun _ hk => hk.elim) ?aF ?aO ?aB ?aS ?aL ?_; (case aP => exact rfl); (case aB => exact (by repeat (first | (with_reducible first | exact HB.out | apply below_alloc | apply pw_below_drewN | apply below_drew1) | exact HB.out))); (case aF => exact (fun _ _ => trivial)); (case aO => exact (by (with_reducible repeat (first | apply Kd.R_alloc | apply Kd.R_drewN | apply Kd.R_drew)); exact HO_3.out)); (case aS => exact (below_size (by repeat (first | (with_reducible first | exact HB.out | apply below_alloc | apply pw_below_drewN | apply below_drew1) | exact HB.out)))); (case aL => have := LMc8.out; first | omega | exact Nat.le_of_lt this); intro v103 w9 ho hb hg hat; rw [← Ny102.out] at ho; have n0_ := Aside0.mk (hb); have n1_ := Aside0.mk (ho); clear HB; clear HO_3; have HB := n0_; have HO104 := n1_; clear n0_ n1_; clear ho hb hg hat))
                    go_roundg k2
                    case measure => have := HK1.out; have := HK2.out; omega
                    case rel => exact ⟨(y102), (wrap64 (x4_1 + 6)), (by first | rfl | (simp; done) | (simp [*]; done)), H', ⟨by have := HK1.out; have := HK2.out; omega⟩, ⟨by (with_reducible repeat (first | apply Kd.R_alloc | apply Kd.R_drewN | apply Kd.R_drew)); exact HO104.out⟩, ⟨by repeat (first | (with_reducible first | exact HB.out | apply below_alloc | apply pw_below_drewN | apply below_drew1) | exact HB.out)⟩⟩
                  · rw [if_neg c8] at H
                    exact absurd H (by simp)
                · rw [if_neg c6] at H
                  exact absurd H (by simp)
              · rw [if_neg c5] at H
                exact absurd H (by simp)
      · rw [if_neg c2] at H
        have c2b0 : decide (x4_1 < (wrap64 (8 * (a0.size : Int)))) = false := decide_eq_false c2
        clear c2
        have H' := Aside0.mk H
        clear H
        go_wp2
        go_loopg [3] k1 (fun kq v3 w' => ∃ (x3_2 : List Int), Aside0 (muslinref01_Encode.l2 kq x3_2 = some r) ∧ Aside0 (kq ≤ k1) ∧ Aside0 (Kd.R (Kd.int .u8) 5 w' w.heap.size (fun _ => True) v3 x3_2) ∧ Aside0 (Below w.heap.size w w'))
        case atStart => exact ⟨(x3_1), H', ⟨Nat.le_refl _⟩, ⟨by (with_reducible repeat (first | apply Kd.R_alloc | apply Kd.R_drewN | apply Kd.R_drew)); exact HO_3.out⟩, ⟨by repeat (first | (with_reducible first | exact HB.out | apply below_alloc | apply pw_below_drewN | apply below_drew1) | exact HB.out)⟩⟩
        case round =>
          clear H'
          try clear c2
          try clear c2b0
          try clear p2
          try clear c3
          try clear c3b0
          try clear c4
          try clear c5
          try clear c5b0
          try clear c6
          try clear c6b0
          try clear p6
          try clear c7
          try clear p7
          try clear q7
          try clear hx7
          try clear c8
          try clear p2
          try clear p7
          try clear q7
          obtain ⟨x3_2, HA, HK2, HO_3, HB⟩ := hrel
          cases gk with
          | zero => exact absurd HA.out (by simp [muslinref01_Encode.l2])
          | succ k2 =>
            have H := HA.out
            clear HA
            simp only [muslinref01_Encode.l2] at H
            by_cases c10 : ((x3_2.length : Int) % 4) = 0
            · rw [if_pos c10] at H
              have c10b0 : (((x3_2.length : Int) % 4) == 0) = true := beq_iff_eq.mpr c10
              have c10b1 : (((x3_2.length : Int) % 4) != 0) = false := bne_eq_false_iff_eq.mpr c10
              clear c10
              obtain rfl := Option.some.inj H
              obtain ⟨Ao11, co11, eo11⟩ := Kd.R_slice HO_3.out
              subst eo11
              have hcv12 := own_string (P := Tryd.prog) Tryd.underlying37 Tryd.underlying5 Tryd.underlying9 (Kd.own_of_R HO_3.out)
              go_wp2
              go_ret
              exact ⟨by first | rfl | (simp [errW_none, errW_some] <;> rfl) | (simp [*, errW_none, errW_some] <;> rfl), by repeat (first | (with_reducible first | exact HB.out | apply below_alloc | apply pw_below_drewN | apply below_drew1) | exact HB.out)⟩
            · rw [if_neg c10] at H
              have c10b0 : (((x3_2.length : Int) % 4) == 0) = false := beq_eq_false_iff_ne.mpr c10
              have c10b1 : (((x3_2.length : Int) % 4) != 0) = true := bne_iff_ne.mpr c10
              by_cases c13 : x3_2.length < 140737488355328
              · rw [if_pos c13] at H
                have LMc13 := Aside0.mk c13
                clear c13
                obtain ⟨y105, hy105⟩ : ∃ y_ : List Int, y_ = (x3_2 ++ [61]) := ⟨_, rfl⟩
                replace H : (muslinref01_Encode.l2 k2 y105) = some r := by first | (rw [hy105]; with_reducible exact H) | (have H2_ := (Option.bind_some _ _).symm.trans H; rw [hy105]; with_reducible exact H2_) | (have H2_ := (Option.bind_some _ _).symm.trans H; with_reducible exact H2_) | with_reducible exact H | (rw [hy105]; exact H) | exact H
                have Ny105 := Aside0.mk hy105
                clear hy105
                have H' := Aside0.mk H
                clear H
                obtain ⟨Ao14, co14, eo14⟩ := Kd.R_slice HO_3.out
                subst eo14
                go_wp2_with (first | ((with_reducible refine gate_builtin (b := .append) (xs := #[.tmp 35, .tmp 36]) rfl ?_); at_builtin; refine Kd.R_append (Kd.int .u8) (w0 := w) w.heap.size rfl (.tmp 35) (.tmp 36) 37 5 (.int .u8 0) 1 rfl Tryd.underlying37 info5 rfl (by decide) (by omega) (.slice Ao14 x3_2.length co14) x3_2 61 [.int .u8 61] (fun _ => True) (fun _ => False) rfl rfl ?aP (fun _ hk => hk.elim) ?aF ?aO ?aB ?aS ?aL ?_; (case aP => exact rfl); (case aB => exact (by repeat (first | (with_reducible first | exact HB.out | apply below_alloc | apply pw_below_drewN | apply below_drew1) | exact HB.out))); (case aF => exact (fun _ _ => trivial)); (case aO => exact (by (with_reducible repeat (first | apply Kd.R_alloc | apply Kd.R_drewN | apply Kd.R_drew)); exact HO_3.out)); (case aS => exact (below_size (by repeat (first | (with_reducible first | exact HB.out | apply below_alloc | apply pw_below_drewN | apply below_drew1) | exact HB.out)))); (case aL => have := LMc13.out; first | omega | exact Nat.le_of_lt this); intro v106 w15 ho hb hg hat; rw [← Ny105.out] at ho; have n0_ := Aside0.mk (hb); have n1_ := Aside0.mk (ho); clear HB; clear HO_3; have HB := n0_; have HO107 := n1_; clear n0_ n1_; clear ho hb hg hat))
                go_roundg k2
                case measure => have := HK1.out; have := HK2.out; omega
                case rel => exact ⟨(y105), H', ⟨by have := HK1.out; have := HK2.out; omega⟩, ⟨by (with_reducible repeat (first | apply Kd.R_alloc | apply Kd.R_drewN | apply Kd.R_drew)); exact HO107.out⟩, ⟨by repeat (first | (with_reducible first | exact HB.out | apply below_alloc | apply pw_below_drewN | apply below_drew1) | exact HB.out)⟩⟩
              · rw [if_neg c13] at H
                exact absurd H (by simp)
end Go.Proofs.YtokkgjiofhhlkaaDoor.R
namespace Go.Proofs.YtokkgjiofhhlkaaDoor.Pure
open Go.RowKit Go.Lib Go.Proofs.YtokkgjiofhhlkaaDoor Go.Proofs.YtokkgjiofhhlkaaDoor.R Go.Proofs.YtokkgjiofhhlkaaDoorW.PrintWords Go.Proofs.YtokkgjiofhhlkaaDoorW.PrintLast Go.Proofs.YtokkgjiofhhlkaaDoorW.PrintMore
set_option linter.unusedVariables false
set_option linter.unusedSimpArgs false
def bitV (l : List UInt8) (q r : Nat) : Nat := byteAt l q / 2 ^ (7 - r) % 2
theorem byteAt_end (l : List UInt8) (q : Nat) (h : l.length ≤ q) : byteAt l q = 0 := by
  unfold byteAt; rw [List.getD_eq_getElem?_getD, List.getElem?_eq_none h]; rfl
theorem bt_byte (s : ByteArray) (q : Nat) : bt s (q : Int) = (byteAt s.data.toList q : Int) := by
  have := bt_byteAt s 0 q
  simpa using this
theorem shr_small' (x : Int) (n : Nat) (h : n ≤ 63) : shr .i64 x (n : Int) = x / 2 ^ n := by
  unfold shr
  rw [Int.toNat_natCast, Nat.min_eq_left (by show n ≤ 64; omega)]
theorem bit_is (s : ByteArray) (hs : s.size ≤ 1000000000000) (i q r : Nat) (hi : i = 8 * q + r) (hr : r < 8) (hq : i ≤ 100000000000000) :
    muslinref01_bit.f s (i : Int) = some (bitV s.data.toList q r : Int) := by
  have hb := byteAt_lt s.data.toList q
  have e1 : Int.tdiv (i : Int) 8 = (q : Int) := by rw [Int.tdiv_eq_ediv_of_nonneg (by omega)]; omega
  have e2 : Int.tmod (i : Int) 8 = (r : Int) := by rw [Int.tmod_eq_emod_of_nonneg (by omega)]; omega
  have e3 : wrap64 (q : Int) = (q : Int) := w64 (by omega) (by omega)
  unfold muslinref01_bit.f
  rw [e1, e2, e3]
  by_cases h : (q : Int) ≥ (s.size : Int)
  · rw [if_pos h]
    have : bitV s.data.toList q r = 0 := by
      unfold bitV; rw [byteAt_end _ _ (by rw [sizeL]; omega)]; simp
    rw [this]; rfl
  · have e4 : IntKind.u64.wrap (wrap64 (7 - (r : Int))) = ((7 - r : Nat) : Int) := by
      rw [w64 (by omega) (by omega)]
      have : r = 0 ∨ r = 1 ∨ r = 2 ∨ r = 3 ∨ r = 4 ∨ r = 5 ∨ r = 6 ∨ r = 7 := by omega
      rcases this with rfl | rfl | rfl | rfl | rfl | rfl | rfl | rfl <;> rfl
    rw [if_neg h, if_pos (by omega), if_pos (by omega), e4, if_pos (by omega), bt_byte, w64 (by omega) (by omega), shr_small' _ _ (by omega)]
    congr 1
def sixV (l : List UInt8) (i : Nat) : Nat := 32 * bitV l (i / 8) (i % 8) + 16 * bitV l ((i + 1) / 8) ((i + 1) % 8) + 8 * bitV l ((i + 2) / 8) ((i + 2) % 8) + 4 * bitV l ((i + 3) / 8) ((i + 3) % 8) + 2 * bitV l ((i + 4) / 8) ((i + 4) % 8) + bitV l ((i + 5) / 8) ((i + 5) % 8)
theorem bitV_lt (l : List UInt8) (q r : Nat) : bitV l q r < 2 := Nat.mod_lt _ (by decide)
theorem sixV_lt (l : List UInt8) (i : Nat) : sixV l i < 64 := by
  unfold sixV
  have h0 := bitV_lt l (i / 8) (i % 8)
  have h1 := bitV_lt l ((i + 1) / 8) ((i + 1) % 8)
  have h2 := bitV_lt l ((i + 2) / 8) ((i + 2) % 8)
  have h3 := bitV_lt l ((i + 3) / 8) ((i + 3) % 8)
  have h4 := bitV_lt l ((i + 4) / 8) ((i + 4) % 8)
  have h5 := bitV_lt l ((i + 5) / 8) ((i + 5) % 8)
  omega
theorem bt_letter : ∀ n : Fin 64, bt (⟨#[65, 66, 67, 68, 69, 70, 71, 72, 73, 74, 75, 76, 77, 78, 79, 80, 81, 82, 83, 84, 85, 86, 87, 88, 89, 90, 97, 98, 99, 100, 101, 102, 103, 104, 105, 106, 107, 108, 109, 110, 111, 112, 113, 114, 115, 116, 117, 118, 119, 120, 121, 122, 48, 49, 50, 51, 52, 53, 54, 55, 56, 57, 43, 47]⟩ : ByteArray) (n.val : Int) = ((B64.letterC n.val).toNat : Int) := by decide +kernel
theorem six_loop (s : ByteArray) (hs : s.size ≤ 1000000000000) (acc : List UInt8) (hacc : acc.length < 140737488355328) (i : Nat) (hi : i ≤ 10000000000000) {r : ByteArray}
    (h : Ev (fun k => muslinref01_Encode.l0 k s (intsOf (acc ++ [B64.letterC (sixV s.data.toList i)])) ((i + 6 : Nat) : Int)) r) :
    Ev (fun k => muslinref01_Encode.l1 k s (intsOf acc) (i : Int) 0 0) r := by
  have step : ∀ (x j : Nat), x < 32 → j < 6 → ∀ r : ByteArray, Ev (fun k => muslinref01_Encode.l1 k s (intsOf acc) (i : Int) ((2 * x + bitV s.data.toList ((i + j) / 8) ((i + j) % 8) : Nat) : Int) ((j + 1 : Nat) : Int)) r → Ev (fun k => muslinref01_Encode.l1 k s (intsOf acc) (i : Int) (x : Int) (j : Int)) r := by
    intro x j hx hj r hr
    refine Ev.round (fun k => by rw [muslinref01_Encode.l1]) ?_
    refine Ev.pos (by omega) ?_
    have hb := bitV_lt s.data.toList ((i + j) / 8) ((i + j) % 8)
    have hw : wrap64 ((i : Int) + (j : Int)) = ((i + j : Nat) : Int) := by rw [w64 (by omega) (by omega)]; omega
    refine Ev.got (x := muslinref01_bit.f s (wrap64 ((i : Int) + (j : Int)))) (a := (bitV s.data.toList ((i + j) / 8) ((i + j) % 8) : Int)) (by rw [hw]; exact bit_is s hs (i + j) _ _ (by omega) (by omega) (by omega)) ?_
    rw [w64 (x := 2 * (x : Int)) (by omega) (by omega), w64 (by omega) (by omega), w64 (by omega) (by omega)]
    have e1 : (2 * (x : Int) + (bitV s.data.toList ((i + j) / 8) ((i + j) % 8) : Int)) = ((2 * x + bitV s.data.toList ((i + j) / 8) ((i + j) % 8) : Nat) : Int) := by omega
    have e2 : ((j : Int) + 1) = ((j + 1 : Nat) : Int) := by omega
    rw [e1, e2]
    exact hr
  have h0 := bitV_lt s.data.toList (i / 8) (i % 8)
  have h1 := bitV_lt s.data.toList ((i + 1) / 8) ((i + 1) % 8)
  have h2 := bitV_lt s.data.toList ((i + 2) / 8) ((i + 2) % 8)
  have h3 := bitV_lt s.data.toList ((i + 3) / 8) ((i + 3) % 8)
  have h4 := bitV_lt s.data.toList ((i + 4) / 8) ((i + 4) % 8)
  have h5 := bitV_lt s.data.toList ((i + 5) / 8) ((i + 5) % 8)
  refine step 0 0 (by omega) (by omega) _ ?_
  refine step _ 1 (by simp only [Nat.add_zero]; omega) (by omega) _ ?_
  refine step _ 2 (by simp only [Nat.add_zero]; omega) (by omega) _ ?_
  refine step _ 3 (by simp only [Nat.add_zero]; omega) (by omega) _ ?_
  refine step _ 4 (by simp only [Nat.add_zero]; omega) (by omega) _ ?_
  refine step _ 5 (by simp only [Nat.add_zero]; omega) (by omega) _ ?_
  have hv := sixV_lt s.data.toList i
  have e : (2 * (2 * (2 * (2 * (2 * (2 * 0 + bitV s.data.toList ((i + 0) / 8) ((i + 0) % 8)) + bitV s.data.toList ((i + 1) / 8) ((i + 1) % 8)) + bitV s.data.toList ((i + 2) / 8) ((i + 2) % 8)) + bitV s.data.toList ((i + 3) / 8) ((i + 3) % 8)) + bitV s.data.toList ((i + 4) / 8) ((i + 4) % 8)) + bitV s.data.toList ((i + 5) / 8) ((i + 5) % 8)) = sixV s.data.toList i := by
    unfold sixV; simp only [Nat.add_zero]; omega
  rw [e]
  refine Ev.round (fun k => by rw [muslinref01_Encode.l1]) ?_
  refine Ev.neg (by omega) ?_
  refine Ev.pos (by omega) ?_
  refine Ev.pos (by omega) ?_
  refine Ev.pos (by rw [intsOf_length]; exact_mod_cast hacc) ?_
  rw [bt_letter ⟨sixV s.data.toList i, hv⟩, w64 (by omega) (by omega)]
  have e3 : intsOf acc ++ [((B64.letterC (sixV s.data.toList i)).toNat : Int)] = intsOf (acc ++ [B64.letterC (sixV s.data.toList i)]) := by rw [intsOf_append]; rfl
  have e4 : ((i : Int) + 6) = ((i + 6 : Nat) : Int) := by omega
  simp only [e3, e4]
  exact h
theorem pad_loop : ∀ (n : Nat) (acc : List UInt8), (4 - acc.length % 4) % 4 = n → acc.length ≤ 14073748835532 → Ev (fun k => muslinref01_Encode.l2 k (intsOf acc)) (⟨(acc ++ List.replicate n 61).toArray⟩ : ByteArray)
  | 0, acc, h, hl => by
    refine Ev.round (fun k => by rw [muslinref01_Encode.l2]) ?_
    refine Ev.pos (by rw [intsOf_length]; omega) ?_
    rw [strOf_ints, List.replicate_zero, List.append_nil]
    exact Ev.now _
  | n + 1, acc, h, hl => by
    refine Ev.round (fun k => by rw [muslinref01_Encode.l2]) ?_
    refine Ev.neg (by rw [intsOf_length]; omega) ?_
    refine Ev.pos (by rw [intsOf_length]; omega) ?_
    have e : intsOf acc ++ [61] = intsOf (acc ++ [61]) := by rw [intsOf_append]; rfl
    rw [e]
    have := pad_loop n (acc ++ [61]) (by rw [List.length_append]; simp only [List.length_cons, List.length_nil]; omega) (by rw [List.length_append]; simp only [List.length_cons, List.length_nil]; omega)
    rw [List.append_assoc] at this
    exact this
theorem byteAt_drop (l : List UInt8) (a j : Nat) : byteAt (l.drop a) j = byteAt l (a + j) := by
  unfold byteAt; rw [List.getD_eq_getElem?_getD, List.getD_eq_getElem?_getD, List.getElem?_drop]
theorem six0 (l : List UInt8) (m : Nat) : sixV l (24 * m) = byteAt l (3 * m) / 4 := by
  have h := byteAt_lt l (3 * m)
  unfold sixV bitV
  rw [show 24 * m / 8 = 3 * m by omega, show (24 * m + 1) / 8 = 3 * m by omega, show (24 * m + 2) / 8 = 3 * m by omega, show (24 * m + 3) / 8 = 3 * m by omega, show (24 * m + 4) / 8 = 3 * m by omega, show (24 * m + 5) / 8 = 3 * m by omega,
    show 24 * m % 8 = 0 by omega, show (24 * m + 1) % 8 = 1 by omega, show (24 * m + 2) % 8 = 2 by omega, show (24 * m + 3) % 8 = 3 by omega, show (24 * m + 4) % 8 = 4 by omega, show (24 * m + 5) % 8 = 5 by omega]
  simp only [show 7 - 0 = 7 from rfl, show 7 - 1 = 6 from rfl, show 7 - 2 = 5 from rfl, show 7 - 3 = 4 from rfl, show 7 - 4 = 3 from rfl, show 7 - 5 = 2 from rfl]
  omega
theorem six1 (l : List UInt8) (m : Nat) : sixV l (24 * m + 6) = byteAt l (3 * m) % 4 * 16 + byteAt l (3 * m + 1) / 16 := by
  have h := byteAt_lt l (3 * m)
  have h2 := byteAt_lt l (3 * m + 1)
  unfold sixV bitV
  rw [show (24 * m + 6) / 8 = 3 * m by omega, show (24 * m + 6 + 1) / 8 = 3 * m by omega, show (24 * m + 6 + 2) / 8 = 3 * m + 1 by omega, show (24 * m + 6 + 3) / 8 = 3 * m + 1 by omega, show (24 * m + 6 + 4) / 8 = 3 * m + 1 by omega, show (24 * m + 6 + 5) / 8 = 3 * m + 1 by omega,
    show (24 * m + 6) % 8 = 6 by omega, show (24 * m + 6 + 1) % 8 = 7 by omega, show (24 * m + 6 + 2) % 8 = 0 by omega, show (24 * m + 6 + 3) % 8 = 1 by omega, show (24 * m + 6 + 4) % 8 = 2 by omega, show (24 * m + 6 + 5) % 8 = 3 by omega]
  simp only [show 7 - 0 = 7 from rfl, show 7 - 1 = 6 from rfl, show 7 - 2 = 5 from rfl, show 7 - 3 = 4 from rfl, show 7 - 6 = 1 from rfl, show 7 - 7 = 0 from rfl]
  omega
theorem six2 (l : List UInt8) (m : Nat) : sixV l (24 * m + 12) = byteAt l (3 * m + 1) % 16 * 4 + byteAt l (3 * m + 2) / 64 := by
  have h := byteAt_lt l (3 * m + 1)
  have h2 := byteAt_lt l (3 * m + 2)
  unfold sixV bitV
  rw [show (24 * m + 12) / 8 = 3 * m + 1 by omega, show (24 * m + 12 + 1) / 8 = 3 * m + 1 by omega, show (24 * m + 12 + 2) / 8 = 3 * m + 1 by omega, show (24 * m + 12 + 3) / 8 = 3 * m + 1 by omega, show (24 * m + 12 + 4) / 8 = 3 * m + 2 by omega, show (24 * m + 12 + 5) / 8 = 3 * m + 2 by omega,
    show (24 * m + 12) % 8 = 4 by omega, show (24 * m + 12 + 1) % 8 = 5 by omega, show (24 * m + 12 + 2) % 8 = 6 by omega, show (24 * m + 12 + 3) % 8 = 7 by omega, show (24 * m + 12 + 4) % 8 = 0 by omega, show (24 * m + 12 + 5) % 8 = 1 by omega]
  simp only [show 7 - 0 = 7 from rfl, show 7 - 1 = 6 from rfl, show 7 - 4 = 3 from rfl, show 7 - 5 = 2 from rfl, show 7 - 6 = 1 from rfl, show 7 - 7 = 0 from rfl]
  omega
theorem six3 (l : List UInt8) (m : Nat) : sixV l (24 * m + 18) = byteAt l (3 * m + 2) % 64 := by
  have h2 := byteAt_lt l (3 * m + 2)
  unfold sixV bitV
  rw [show (24 * m + 18) / 8 = 3 * m + 2 by omega, show (24 * m + 18 + 1) / 8 = 3 * m + 2 by omega, show (24 * m + 18 + 2) / 8 = 3 * m + 2 by omega, show (24 * m + 18 + 3) / 8 = 3 * m + 2 by omega, show (24 * m + 18 + 4) / 8 = 3 * m + 2 by omega, show (24 * m + 18 + 5) / 8 = 3 * m + 2 by omega,
    show (24 * m + 18) % 8 = 2 by omega, show (24 * m + 18 + 1) % 8 = 3 by omega, show (24 * m + 18 + 2) % 8 = 4 by omega, show (24 * m + 18 + 3) % 8 = 5 by omega, show (24 * m + 18 + 4) % 8 = 6 by omega, show (24 * m + 18 + 5) % 8 = 7 by omega]
  simp only [show 7 - 2 = 5 from rfl, show 7 - 3 = 4 from rfl, show 7 - 4 = 3 from rfl, show 7 - 5 = 2 from rfl, show 7 - 6 = 1 from rfl, show 7 - 7 = 0 from rfl]
  omega
theorem enc_loop (s : ByteArray) (hs : s.size ≤ 100000000000) : ∀ (n m : Nat) (acc : List UInt8), s.size - 3 * m ≤ n → 3 * m ≤ s.size → acc.length ≤ 4 * m →
    acc ++ (B64.encC (s.data.toList.drop (3 * m))).map B64.letterC = (B64.encC s.data.toList).map B64.letterC →
    Ev (fun k => muslinref01_Encode.l0 k s (intsOf acc) ((24 * m : Nat) : Int)) (⟨(B64.b64EncL s.data.toList).toArray⟩ : ByteArray) := by
  have hl : s.data.toList.length = s.size := sizeL s
  have fin : ∀ (acc : List UInt8) (i : Nat), 8 * s.size ≤ i → i ≤ 10000000000000 → acc.length ≤ 1000000000000 → acc = (B64.encC s.data.toList).map B64.letterC → Ev (fun k => muslinref01_Encode.l0 k s (intsOf acc) (i : Int)) (⟨(B64.b64EncL s.data.toList).toArray⟩ : ByteArray) := by
    intro acc i h1 h2 h3 h4
    refine Ev.round (fun k => by rw [muslinref01_Encode.l0]) ?_
    refine Ev.neg (by rw [w64 (by omega) (by omega)]; omega) ?_
    have e : B64.b64EncL s.data.toList = acc ++ List.replicate ((4 - acc.length % 4) % 4) 61 := by
      unfold B64.b64EncL; rw [B64.encT_is, ← h4]
    rw [e]
    exact pad_loop _ acc rfl (by omega)
  have go : ∀ (acc : List UInt8) (i : Nat), i < 8 * s.size → acc.length ≤ 1000000000000 → Ev (fun k => muslinref01_Encode.l0 k s (intsOf (acc ++ [B64.letterC (sixV s.data.toList i)])) ((i + 6 : Nat) : Int)) (⟨(B64.b64EncL s.data.toList).toArray⟩ : ByteArray) → Ev (fun k => muslinref01_Encode.l0 k s (intsOf acc) (i : Int)) (⟨(B64.b64EncL s.data.toList).toArray⟩ : ByteArray) := by
    intro acc i h1 h2 h3
    refine Ev.round (fun k => by rw [muslinref01_Encode.l0]) ?_
    refine Ev.pos (by rw [w64 (by omega) (by omega)]; omega) ?_
    exact six_loop s (by omega) acc (by omega) i (by omega) h3
  have L1 : ∀ (a : List UInt8) (x : UInt8), (a ++ [x]).length = a.length + 1 := fun a x => by simp
  intro n
  induction n with
  | zero =>
    intro m acc h1 h2 h3 h4
    have hd : s.data.toList.drop (3 * m) = [] := List.drop_eq_nil_of_le (by omega)
    rw [hd] at h4
    exact fin acc _ (by omega) (by omega) (by omega) (by simpa [B64.encC] using h4)
  | succ n ih =>
    intro m acc h1 h2 h3 h4
    have b0 := byteAt_drop s.data.toList (3 * m) 0
    have b1 := byteAt_drop s.data.toList (3 * m) 1
    have b2 := byteAt_drop s.data.toList (3 * m) 2
    have hdl : (s.data.toList.drop (3 * m)).length = s.size - 3 * m := by rw [List.length_drop, hl]
    rw [Nat.add_zero] at b0
    match hd : s.data.toList.drop (3 * m) with
    | [] =>
      rw [hd] at h4 hdl
      simp only [List.length_nil] at hdl
      exact fin acc _ (by omega) (by omega) (by omega) (by simpa [B64.encC] using h4)
    | [x] =>
      rw [hd] at h4 hdl b0 b1
      simp only [List.length_cons, List.length_nil] at hdl
      refine go acc _ (by omega) (by omega) ?_
      refine go _ _ (by omega) (by rw [L1]; omega) ?_
      refine fin _ _ (by omega) (by omega) (by rw [L1, L1]; omega) ?_
      have e0 : byteAt [x] 0 = x.toNat := rfl
      have e1 : byteAt [x] 1 = 0 := rfl
      rw [six0, six1, ← b0, ← b1, e0, e1, ← h4]
      simp [B64.encC]
    | [x, y] =>
      rw [hd] at h4 hdl b0 b1 b2
      simp only [List.length_cons, List.length_nil] at hdl
      refine go acc _ (by omega) (by omega) ?_
      refine go _ _ (by omega) (by rw [L1]; omega) ?_
      refine go _ _ (by omega) (by rw [L1, L1]; omega) ?_
      refine fin _ _ (by omega) (by omega) (by rw [L1, L1, L1]; omega) ?_
      have e0 : byteAt [x, y] 0 = x.toNat := rfl
      have e1 : byteAt [x, y] 1 = y.toNat := rfl
      have e2 : byteAt [x, y] 2 = 0 := rfl
      rw [show 24 * m + 6 + 6 = 24 * m + 12 by omega, six0, six1, six2, ← b0, ← b1, ← b2, e0, e1, e2, ← h4]
      simp [B64.encC]
    | x :: y :: z :: r =>
      rw [hd] at h4 hdl b0 b1 b2
      simp only [List.length_cons] at hdl
      refine go acc _ (by omega) (by omega) ?_
      refine go _ _ (by omega) (by rw [L1]; omega) ?_
      refine go _ _ (by omega) (by rw [L1, L1]; omega) ?_
      refine go _ _ (by omega) (by rw [L1, L1, L1]; omega) ?_
      have e0 : byteAt (x :: y :: z :: r) 0 = x.toNat := rfl
      have e1 : byteAt (x :: y :: z :: r) 1 = y.toNat := rfl
      have e2 : byteAt (x :: y :: z :: r) 2 = z.toNat := rfl
      rw [show 24 * m + 6 + 6 = 24 * m + 12 by omega, show 24 * m + 12 + 6 = 24 * m + 18 by omega, show 24 * m + 18 + 6 = 24 * (m + 1) by omega, six0, six1, six2, six3, ← b0, ← b1, ← b2, e0, e1, e2]
      refine ih (m + 1) _ (by omega) (by omega) (by rw [L1, L1, L1, L1]; omega) ?_
      have hr : s.data.toList.drop (3 * (m + 1)) = r := by
        rw [show 3 * (m + 1) = 3 * m + 3 by omega, ← List.drop_drop, hd]; rfl
      rw [hr, ← h4]
      simp [B64.encC]
theorem refEnc64_is (s : ByteArray) (hs : s.size ≤ 100000000000) : Ev (fun k => muslinref01_Encode.f k s) (⟨(B64.b64EncL s.data.toList).toArray⟩ : ByteArray) := by
  unfold muslinref01_Encode.f
  exact enc_loop s hs s.size 0 [] (by omega) (by omega) (by simp) rfl
end Go.Proofs.YtokkgjiofhhlkaaDoor.Pure
namespace Go.Proofs.YtokkgjiofhhlkaaDoor.WordL
open Go.RowKit Go.Lib Go.Proofs.YtokkgjiofhhlkaaDoor Go.Proofs.YtokkgjiofhhlkaaDoor.Pure
set_option linter.unusedVariables false
set_option linter.unusedSimpArgs false
theorem refEnc_c (s : ByteArray) (hs : s.size ≤ 100000000000) (W : World) : Calls Tryd.prog 43 #[.string s] W fun e w' => e = .returned (.string ⟨(B64.b64EncL s.data.toList).toArray⟩) ∧ Below W.heap.size W w' := by
  obtain ⟨r, h⟩ := refEnc64_is s hs
  exact R.muslinref01_Encode.calls r s _ W (h r (Nat.le_refl _))
def plainF : List UInt8 → Bool
  | [] => true
  | c :: r => okC c && !(begins (c :: r)) && plainF r
theorem plainF_is : ∀ l : List UInt8, plainF l = plainE l
  | [] => by decide
  | c :: r => by
    have ih := plainF_is r
    have hge := index_ge r [61, 63]
    unfold plainE at ih ⊢
    simp only [plainF, List.all_cons]
    rw [ih]
    cases hb : begins (c :: r) with
    | true =>
      have e : index (c :: r) [61, 63] = 0 := by
        have : [61, 63].isPrefixOf (c :: r) = true := hb
        simp only [index, this, if_true]
      rw [e]; simp
    | false =>
      have hb2 : [61, 63].isPrefixOf (c :: r) = false := hb
      have e : decide (index (c :: r) [61, 63] < 0) = decide (index r [61, 63] < 0) := by
        by_cases hr : index r [61, 63] = -1
        · simp only [index, hb2, hr]; simp
        · have : index (c :: r) [61, 63] = index r [61, 63] + 1 := by simp only [index, hb2]; simp [hr]
          rw [this]; exact decide_eq_decide.2 (by omega)
      rw [e]
      cases okC c <;> cases decide (index r [61, 63] < 0) <;> simp
def wordsFrom (m rest : List UInt8) : List (List UInt8) :=
  wordOf (m ++ rest.take (chunk rest.length rest m.length - m.length)) :: wordsL (rest.drop (chunk rest.length rest m.length - m.length))
theorem wf_end (m : List UInt8) : wordsFrom m [] = [wordOf m] := by
  simp [wordsFrom, chunk, wordsL, chunks]
theorem wf_start (v : List UInt8) (h : v ≠ []) : wordsFrom [] v = wordsL v := by
  rw [words_step v h]; rfl
theorem chunk_step (rest : List UInt8) (n : Nat) (h : rest ≠ []) : chunk rest.length rest n = if 30 < n + (uDec rest).2 then n else chunk (rest.drop (uDec rest).2).length (rest.drop (uDec rest).2) (n + (uDec rest).2) := by
  obtain ⟨q, hq⟩ : ∃ q, rest.length = q + 1 := ⟨rest.length - 1, by have := List.length_pos_iff.2 h; omega⟩
  have hw := dec_width rest h
  rw [hq]
  simp only [chunk]
  rw [if_neg h]
  split
  · rfl
  · exact chunk_more _ _ _ (Nat.le_refl _) q (by rw [List.length_drop]; omega)
theorem wf_more (m rest : List UInt8) (h : rest ≠ []) (h2 : ¬ 30 < m.length + (uDec rest).2) : wordsFrom m rest = wordsFrom (m ++ rest.take (uDec rest).2) (rest.drop (uDec rest).2) := by
  have hw := dec_width rest h
  have hl : (m ++ rest.take (uDec rest).2).length = m.length + (uDec rest).2 := by rw [List.length_append, List.length_take]; omega
  unfold wordsFrom
  rw [chunk_step rest m.length h, if_neg h2, hl]
  have hb := (chunk_bd (rest.drop (uDec rest).2).length (rest.drop (uDec rest).2) (m.length + (uDec rest).2)).1
  generalize chunk (rest.drop (uDec rest).2).length (rest.drop (uDec rest).2) (m.length + (uDec rest).2) = c at *
  have e : c - m.length = (uDec rest).2 + (c - (m.length + (uDec rest).2)) := by omega
  rw [e, List.take_add, List.drop_drop, List.append_assoc]
theorem wf_cut (m rest : List UInt8) (h : rest ≠ []) (h2 : 30 < m.length + (uDec rest).2) : wordsFrom m rest = wordOf m :: wordsFrom (rest.take (uDec rest).2) (rest.drop (uDec rest).2) := by
  have hw := dec_width rest h
  have h4 := width4 rest h
  have e := wf_more [] rest h (by simp only [List.length_nil]; omega)
  rw [List.nil_append] at e
  rw [← e, wf_start rest h]
  unfold wordsFrom
  rw [chunk_step rest m.length h, if_pos h2, Nat.sub_self, List.take_zero, List.append_nil, List.drop_zero]
theorem Val_step (l : List UInt8) (hv : Val l) (h : l ≠ []) : wholeL l = (uDec l).2 ∧ Val (l.drop (uDec l).2) := by
  obtain ⟨rs, rfl⟩ := hv
  match rs with
  | [] => exact absurd rfl h
  | r :: rs =>
    rw [List.flatMap_cons, whole_enc, dec_enc]
    simp only
    rw [List.drop_left]
    refine ⟨?_, ⟨rs, rfl⟩⟩
    first | rfl | trivial
theorem inter_cons2 (w : List UInt8) (m rest : List UInt8) : [32].intercalate (w :: wordsFrom m rest) = w ++ 32 :: [32].intercalate (wordsFrom m rest) := by
  unfold wordsFrom; exact inter_cons _ _ _
theorem enc_cat (o m : ByteArray) (t : List UInt8) : (o ++ (⟨#[61, 63, 117, 116, 102, 45, 56, 63, 66, 63]⟩ : ByteArray) ++ (⟨(B64.b64EncL m.data.toList).toArray⟩ : ByteArray) ++ (⟨([63, 61] ++ t).toArray⟩ : ByteArray)).data.toList = o.data.toList ++ wordOf m.data.toList ++ t := by
  simp [wordOf]
set_option maxRecDepth 100000 in
set_option maxHeartbeats 8000000 in
theorem refEncode_c (s : ByteArray) (hs : s.size ≤ 100000) (w : World) :
    Calls Tryd.prog 16 #[.string s] w fun e w' => e = .returned (.string ⟨(encL s.data.toList).toArray⟩) ∧ Below w.heap.size w w' := by
  have hvz : (⟨(vl s.data.toList).toArray⟩ : ByteArray).size ≤ 300000 := by
    rw [mk_size]; have := vl_len s.data.toList; have : s.data.toList.length = s.size := by simp
    omega
  have hvd : (⟨(vl s.data.toList).toArray⟩ : ByteArray).data.toList = vl s.data.toList := rfl
  have RV := Lib.hid (fun W => muslinref04_Valid.calls s _ W (guard_of (by omega)))
  have HVD := Lib.hid hvd
  clear hvd
  generalize (⟨(vl s.data.toList).toArray⟩ : ByteArray) = v at *
  have hl : s.data.toList.length = s.size := by simp
  have HL := Lib.hid hl
  clear hl
  go_enter Tryd.func16, Tryd.ntmps16
  go_wp2
  go_loop [3, 4] (fun bv iv => ∃ (b : Bool) (i : Nat), bv = .bool b ∧ iv = .int .i64 (i : Int) ∧ i ≤ s.size ∧ (b && plainF (s.data.toList.drop i)) = plainF s.data.toList) (fun _ iv => s.size - (RowKit.intOf iv).toNat)
  case atStart => exact ⟨true, 0, rfl, rfl, Nat.zero_le _, by simp⟩
  case round =>
    obtain ⟨b, i, rfl, rfl, hi, hpl⟩ := hrel
    by_cases hlt : i < s.size
    · have hc : s.data.toList.drop i = s[i] :: s.data.toList.drop (i + 1) := List.drop_eq_getElem_cons (by rw [HL.out]; exact hlt)
      have hlti : (i : Int) < (s.size : Int) := by omega
      have hE : ∀ h2 : i + 2 ≤ s.size, (s.extract i (i + 2)).toList = [61, 63] ↔ begins (s.data.toList.drop i) = true := by
        intro h2
        rw [toList_eq, extract_list]
        have hc2 : s.data.toList.drop (i + 1) = s.data.toList[i + 1]'(by rw [HL.out]; omega) :: s.data.toList.drop (i + 2) := List.drop_eq_getElem_cons (by rw [HL.out]; omega)
        have e : (s.data.toList.take (i + 2)).drop i = [s[i], s.data.toList[i + 1]'(by rw [HL.out]; omega)] := by
          rw [List.drop_take, hc, hc2, show i + 2 - i = 2 by omega]; rfl
        rw [e, hc, hc2, begins_cons]; simp
      have hB1 : i + 1 = s.size → begins (s.data.toList.drop i) = false := by
        intro h
        rw [hc, List.drop_eq_nil_of_le (by rw [HL.out]; omega)]; exact begins_one _
      have hst : plainF (s.data.toList.drop i) = (okC s[i] && !(begins (s.data.toList.drop i)) && plainF (s.data.toList.drop (i + 1))) := by
        conv => lhs; rw [hc]
        rw [hc]; rfl
      rw [hst] at hpl
      generalize begins (s.data.toList.drop i) = bg at *
      generalize hsc : s[i] = c at *
      generalize hpf : plainF (s.data.toList.drop (i + 1)) = pf at *
      have HPF := Lib.hid hpf
      clear hpf
      have HPL := Lib.hid hpl
      clear hc hst hpl
      cases b with
      | false =>
        clear hE hB1
        go_wp2
        go_round
        case rel => exact ⟨false, i + 1, rfl, by go_num, by omega, by have := HPL.out; simpa using this⟩
        case measure => simp [RowKit.intOf]; omega
      | true =>
        have h256 : c.toNat < 256 := UInt8.toNat_lt _
        by_cases c32 : 32 ≤ c.toNat
        · by_cases c126 : c.toNat ≤ 126
          · have hok : okC c = true := decide_eq_true ⟨c32, c126⟩
            by_cases h1 : i + 1 = s.size
            · have hb1 := hB1 h1
              subst hb1
              have hge : (s.size : Int) ≤ (i : Int) + 1 := by omega
              clear hE hB1
              go_wp2
              go_round
              case rel => exact ⟨true, i + 1, rfl, by go_num, by omega, by rw [HPF.out]; have := HPL.out; rw [hok] at this; simpa using this⟩
              case measure => simp [RowKit.intOf]; omega
            · have hge : ¬ (s.size : Int) ≤ (i : Int) + 1 := by omega
              have h2 : i + 2 ≤ s.size := by omega
              have h2i : (i : Int) + 2 ≤ (s.size : Int) := by omega
              have t2 : ((i : Int) + 2).toNat = i + 2 := by omega
              have t3 : (i : Int) ≤ (i : Int) + 2 := by omega
              have hEq := hE h2
              clear hE hB1 h1
              obtain ⟨E, hEe⟩ : ∃ E, s.extract i (i + 2) = E := ⟨_, rfl⟩
              rw [hEe] at hEq
              cases bg with
              | true =>
                have hx : E.toList = [61, 63] := hEq.2 rfl
                have hx2 : (E.toList == [61, 63]) = true := by rw [hx]; rfl
                clear hEq
                go_wp2
                go_round
                case rel => exact ⟨false, i + 1, rfl, by go_num, by omega, by have := HPL.out; rw [hok] at this; simpa using this⟩
                case measure => simp [RowKit.intOf]; omega
              | false =>
                have hx : ¬ E.toList = [61, 63] := fun h => Bool.false_ne_true (hEq.1 h)
                have hx2 : (E.toList == [61, 63]) = false := by simpa using hx
                clear hEq
                go_wp2
                go_round
                case rel => exact ⟨true, i + 1, rfl, by go_num, by omega, by rw [HPF.out]; have := HPL.out; rw [hok] at this; simpa using this⟩
                case measure => simp [RowKit.intOf]; omega
          · have hok : okC c = false := decide_eq_false (fun h => c126 h.2)
            clear hE hB1
            go_wp2
            go_round
            case rel => exact ⟨false, i + 1, rfl, by go_num, by omega, by have := HPL.out; rw [hok] at this; simpa using this⟩
            case measure => simp [RowKit.intOf]; omega
        · have hok : okC c = false := decide_eq_false (fun h => c32 h.1)
          clear hE hB1
          go_wp2
          go_round
          case rel => exact ⟨false, i + 1, rfl, by go_num, by omega, by have := HPL.out; rw [hok] at this; simpa using this⟩
          case measure => simp [RowKit.intOf]; omega
    · have hd : s.data.toList.drop i = [] := List.drop_eq_nil_of_le (by rw [HL.out]; omega)
      have hbp : b = plainE s.data.toList := by rw [← plainF_is, ← hpl, hd]; simp [plainF]
      have hlti : ¬ (i : Int) < (s.size : Int) := by omega
      have HE1 : Hid (plainE s.data.toList = true → encL s.data.toList = s.data.toList) := Lib.hid (fun hp => by unfold encL; rw [if_pos hp])
      have HE2 : Hid (plainE s.data.toList = false → encL s.data.toList = [32].intercalate (wordsFrom [] v.data.toList)) := Lib.hid (fun hp => by
        have hv : vl s.data.toList ≠ [] := vl_ne _ (plainE_not (by rw [hp]; exact Bool.false_ne_true))
        rw [HVD.out, wf_start _ hv]; unfold encL; rw [if_neg (by rw [hp]; exact Bool.false_ne_true)])
      subst hbp
      clear hpl hd
      generalize plainE s.data.toList = pb at *
      cases pb with
      | true =>
        have HP := Lib.hid (HE1.out rfl)
        go_wp2
        go_ret
        exact ⟨by rw [HP.out, mk_back]; rfl, Below.refl _ _⟩
      | false =>
        have HP := Lib.hid (HE2.out rfl)
        clear HE1 HE2
        have hvv : Val v.data.toList := by rw [HVD.out]; exact vl_Val _
        have HVV := Lib.hid hvv
        clear hvv
        go_wp2_with (go_at_call 18; refine (RV.out _).mono ?_; rintro e w2 ⟨rfl, b2⟩; have HB2 := Lib.hid b2; clear b2)
        go_loopw [6, 7, 8] (fun ov mv av wr => ∃ (o m : ByteArray) (a : Nat), ov = .string o ∧ mv = .string m ∧ av = .int .i64 (a : Int) ∧ a ≤ v.size ∧ m.size ≤ 30 ∧ o.size ≤ 200 * a ∧ Val (v.data.toList.drop a) ∧ o.data.toList ++ [32].intercalate (wordsFrom m.data.toList (v.data.toList.drop a)) = encL s.data.toList ∧ Below w.heap.size w wr) (fun _ _ av _ => v.size - (RowKit.intOf av).toNat)
        case atStart => exact ⟨⟨#[]⟩, ⟨#[]⟩, 0, rfl, rfl, rfl, Nat.zero_le _, by decide, by decide, HVV.out, by rw [HP.out]; rfl, HB2.out⟩
        case round =>
          obtain ⟨o, m, a, rfl, rfl, rfl, ha, hm, ho, hv, he, hb⟩ := hrel
          have HV := Lib.hid hv; have HE := Lib.hid he; have HB := Lib.hid hb
          have hvl : v.data.toList.length = v.size := by simp
          have hml : m.data.toList.length = m.size := by simp
          clear hv he hb
          have EM := Lib.hid (fun W => refEnc_c m (by omega) W)
          have hez : (⟨(B64.b64EncL m.data.toList).toArray⟩ : ByteArray).size ≤ 100 := by rw [mk_size, B64.b64_len]; omega
          have hcat := enc_cat o m
          by_cases hlt : a < v.size
          · have hlti : (a : Int) < (v.size : Int) := by omega
            have hdne : v.data.toList.drop a ≠ [] := by intro e; have := congrArg List.length e; rw [List.length_drop, hvl] at this; simp at this; omega
            obtain ⟨hwh, hvn⟩ := Val_step _ HV.out hdne
            have hw4 := width4 _ hdne
            have hwd := dec_width _ hdne
            rw [List.length_drop, hvl] at hwd
            rw [List.drop_drop] at hvn
            have WH := Lib.hid (fun W => muslinref04_Whole.calls v (a : Int) _ W (guard_of ⟨by omega, hlti, by omega⟩))
            rw [Int.toNat_natCast, hwh] at WH
            have hmore := wf_more m.data.toList _ hdne
            have hcut := wf_cut m.data.toList _ hdne
            rw [hml, List.drop_drop] at hmore hcut
            have hic := inter_cons2 (wordOf m.data.toList)
            have HMO := Lib.hid hmore; have HCU := Lib.hid hcut; have HVN := Lib.hid hvn
            clear hmore hcut hwh hdne hvn
            generalize (uDec (v.data.toList.drop a)).2 = k at *
            obtain ⟨K, hK⟩ : ∃ K, v.extract a (a + k) = K := ⟨_, rfl⟩
            have hKd : K.data.toList = (v.data.toList.drop a).take k := by rw [← hK, extract_list, List.drop_take, show a + k - a = k by omega]
            have hKz : K.size = k := by rw [← hK]; simp; omega
            have hak : a + k ≤ v.size := by omega
            have haki : (a : Int) + (k : Int) ≤ (v.size : Int) := by omega
            have hakn : ((a : Int) + (k : Int)).toNat = a + k := by omega
            have hk1 : (a : Int) ≤ (a : Int) + (k : Int) := by omega
            by_cases h30 : 30 < m.size + k
            · have h30i : (30 : Int) < (m.size : Int) + (k : Int) := by omega
              have hcu := HCU.out h30
              have hfin : o.data.toList ++ wordOf m.data.toList ++ [32] ++ [32].intercalate (wordsFrom ((v.data.toList.drop a).take k) (v.data.toList.drop (a + k))) = encL s.data.toList := by
                rw [← HE.out, hcu, hic]; simp
              have h3 := hcat [32]
              have HF := Lib.hid hfin; have H3 := Lib.hid h3; have HKD := Lib.hid hKd
              have hoz : o.size ≤ 1000000000 := by omega
              clear hcu hfin h3 hcat HMO HCU hKd
              have hx3 : ∀ x y : ByteArray, (x ++ y).size = x.size + y.size := fun x y => ByteArray.size_append
              generalize (⟨(B64.b64EncL m.data.toList).toArray⟩ : ByteArray) = X at *
              go_wp2_with (first
                | (go_at_call 42; refine (WH.out _).mono ?_; rintro e w4 ⟨rfl, b4⟩; have HB4 := Lib.hid (HB.out.trans (b4.mono HB.out.size)); clear b4)
                | (go_at_call 43; refine (EM.out _).mono ?_; rintro e w5 ⟨rfl, b5⟩; have HB5 := Lib.hid (HB4.out.trans (b5.mono HB4.out.size)); clear b5))
              go_roundw
              case rel =>
                refine ⟨_, _, a + k, rfl, rfl, by go_num, hak, ?_, ?_, HVN.out, ?_, HB5.out⟩
                · rw [hx3, hKz]; show 0 + k ≤ 30; omega
                · rw [hx3, hx3, hx3]; show o.size + 10 + X.size + 3 ≤ _; omega
                · rw [show ((⟨#[]⟩ : ByteArray) ++ K).data.toList = (v.data.toList.drop a).take k by rw [← HKD.out]; simp]
                  have e := H3.out
                  rw [show (⟨([63, 61] ++ [32] : List UInt8).toArray⟩ : ByteArray) = ⟨#[63, 61, 32]⟩ from rfl] at e
                  rw [e]; exact HF.out
              case measure => simp [RowKit.intOf]; omega
            · have h30i : ¬ (30 : Int) < (m.size : Int) + (k : Int) := by omega
              have hmo := HMO.out h30
              have hfin : o.data.toList ++ [32].intercalate (wordsFrom (m.data.toList ++ (v.data.toList.drop a).take k) (v.data.toList.drop (a + k))) = encL s.data.toList := by
                rw [← HE.out, hmo]
              have HF := Lib.hid hfin; have HKD := Lib.hid hKd
              clear hmo hfin hcat HMO HCU hKd
              have hx3 : ∀ x y : ByteArray, (x ++ y).size = x.size + y.size := fun x y => ByteArray.size_append
              go_wp2_with (go_at_call 42; refine (WH.out _).mono ?_; rintro e w4 ⟨rfl, b4⟩; have HB4 := Lib.hid (HB.out.trans (b4.mono HB.out.size)); clear b4)
              go_roundw
              case rel =>
                refine ⟨_, _, a + k, rfl, rfl, by go_num, hak, ?_, by omega, HVN.out, ?_, HB4.out⟩
                · rw [hx3, hKz]; omega
                · rw [show (m ++ K).data.toList = m.data.toList ++ (v.data.toList.drop a).take k by rw [← HKD.out]; simp]
                  exact HF.out
              case measure => simp [RowKit.intOf]; omega
          · have hlti : ¬ (a : Int) < (v.size : Int) := by omega
            have hd : v.data.toList.drop a = [] := List.drop_eq_nil_of_le (by rw [hvl]; omega)
            have hfin : o.data.toList ++ wordOf m.data.toList = encL s.data.toList := by
              rw [← HE.out, hd, wf_end, inter_one]
            have h3 := hcat []
            have HF := Lib.hid hfin; have H3 := Lib.hid h3
            have hoz : o.size ≤ 1000000000 := by omega
            clear hfin h3 hcat hd hvl hml
            generalize (⟨(B64.b64EncL m.data.toList).toArray⟩ : ByteArray) = X at *
            go_wp2_with (go_at_call 43; refine (EM.out _).mono ?_; rintro e w5 ⟨rfl, b5⟩; have HB5 := Lib.hid (HB.out.trans (b5.mono HB.out.size)); clear b5)
            go_ret
            refine ⟨congrArg (fun x => Ending.returned (Value.string x)) (ba_ext ?_), HB5.out⟩
            have e := H3.out
            simp only [List.append_nil] at e
            show _ = encL s.data.toList
            rw [← HF.out]; exact e
end Go.Proofs.YtokkgjiofhhlkaaDoor.WordL
namespace Go.Proofs.YtokkgjiofhhlkaaDoor
open Go.RowKit Go.Lib Go.Proofs.YtokkgjiofhhlkaaDoor.Pure
def muslinref05_Encode.f (s : ByteArray) : Option ByteArray := if s.size ≤ 100000 then some ⟨(WordL.encL s.data.toList).toArray⟩ else none
theorem muslinref05_Encode.calls (s r : ByteArray) (w : World) (h : muslinref05_Encode.f s = some r) :
    Calls Tryd.prog 16 #[.string s] w fun e w' => e = .returned (.string r) ∧ Below w.heap.size w w' := by
  obtain ⟨h1, rfl⟩ := of_guard h
  exact WordL.refEncode_c s h1 w
end Go.Proofs.YtokkgjiofhhlkaaDoor
namespace Go.Proofs.YtokkgjiofhhlkaaDoor
open Go.RowKit Go.Lib Go.Proofs.YtokkgjiofhhlkaaDoor.Pure
set_option linter.unusedVariables false
def word_One.f (s : ByteArray) : Option (ByteArray × Int) := if s.size ≤ 1100000 then some (⟨(WordL.oneL s.data.toList).1.toArray⟩, ((WordL.oneL s.data.toList).2 : Int)) else none
theorem word_One.calls (s r1 : ByteArray) (r2 : Int) (w : World) (hGl : Glob w) (h : word_One.f s = some (r1, r2)) :
    Calls Tryd.prog 11 #[.string s] w fun e w' => e = .returned (.tuple #[.string r1, .int .i64 r2]) ∧ Below w.heap.size w w' := WordL.word_One.calls s r1 r2 w hGl h
def word_Decode.f (s : ByteArray) : Option ByteArray := if s.size ≤ 1100000 then some ⟨(WordL.wordL s.data.toList).toArray⟩ else none
theorem word_Decode.calls (s r : ByteArray) (w : World) (hGl : Glob w) (h : word_Decode.f s = some r) :
    Calls Tryd.prog 13 #[.string s] w fun e w' => e = .returned (.string r) ∧ Below w.heap.size w w' := WordL.word_Decode.calls s r w hGl h
def word_Encode.f (s : ByteArray) : Option ByteArray := if s.size ≤ 1100000 then some ⟨(WordL.encL s.data.toList).toArray⟩ else none
theorem word_Encode.calls (s r : ByteArray) (w : World) (hGl : Glob w) (h : word_Encode.f s = some r) :
    Calls Tryd.prog 15 #[.string s] w fun e w' => e = .returned (.string r) ∧ Below w.heap.size w w' := WordL.word_Encode.calls s r w hGl h
end Go.Proofs.YtokkgjiofhhlkaaDoor
namespace Go.Proofs.YtokkgjiofhhlkaaDoor.P
open Go.RowKit Go.Proofs.YtokkgjiofhhlkaaDoorW.PrintWords Go.Proofs.YtokkgjiofhhlkaaDoorW.PrintLast Go.Proofs.YtokkgjiofhhlkaaDoorW.PrintMore
attribute [local go_sem] max2_int min2_int max_two min_two max_three min_three max_four min_four
set_option linter.unusedVariables false
set_option linter.unusedSimpArgs false
def errW : Option Int → Value
  | none => .nilIface
  | some c => .iface 0 (.int .i64 c)
theorem errW_none : errW none = .nilIface := rfl
theorem errW_some (c : Int) : errW (some c) = .iface 0 (.int .i64 c) := rfl
theorem info5 : (Tryd.prog.info? 5).map (fun i => (i.zero, i.size, i.bytes)) = some (some (.int .u8 0), 1, 1) := by kernel_rfl
end Go.Proofs.YtokkgjiofhhlkaaDoor.P
namespace Go.Proofs.YtokkgjiofhhlkaaDoor.P
open Go.RowKit Go.Proofs.YtokkgjiofhhlkaaDoorW.PrintWords Go.Proofs.YtokkgjiofhhlkaaDoorW.PrintLast Go.Proofs.YtokkgjiofhhlkaaDoorW.PrintMore
attribute [local go_sem] max2_int min2_int max_two min_two max_three min_three max_four min_four
set_option linter.unusedVariables false
set_option linter.unusedSimpArgs false
def muslinlaw05_short.f (a0 : ByteArray) : Option (Bool) := some (decide ((a0.size : Int) ≤ 2000))
set_option maxHeartbeats 8000000 in
set_option maxRecDepth 100000 in
theorem muslinlaw05_short.calls (a0 : ByteArray) (r : Bool) (w : World) (h : muslinlaw05_short.f a0 = some r) :
    Calls Tryd.prog 9 #[.string a0] w fun e w' => e = .returned (.bool r) ∧ Drawn0 w w' := by
  have H : (some (decide ((a0.size : Int) ≤ 2000))) = some r := h
  clear h
  obtain rfl := Option.some.inj H
  go_enter Tryd.func9, Tryd.ntmps9
  go_wp2
  go_ret
  exact ⟨by first | rfl | (simp; done) | (simp [*]; done), by repeat (first | exact Drawn0.refl _ | apply Drawn0.step)⟩
def muslinlaw05_live.f  : Option (Bool) := (word_One.f (⟨#[61, 63, 108, 97, 116, 105, 110, 49, 42, 101, 110, 63, 81, 63, 99, 97, 102, 61, 69, 57, 95, 120, 63, 61, 121]⟩ : ByteArray)).bind fun bt101 => ((word_One.f (⟨#[61, 63, 120, 63, 81, 63, 97, 63, 61]⟩ : ByteArray)).bind fun bt103 => (if bt101.1.toList = ([99, 97, 102, 195, 169, 32, 120] : List UInt8) then (if bt101.2 = 24 then (if bt103.2 = 0 then ((word_Decode.f (⟨#[97, 32, 61, 63, 117, 116, 102, 45, 56, 63, 66, 63, 83, 71, 107, 61, 63, 61, 32, 10, 32, 61, 63, 97, 115, 99, 105, 105, 63, 113, 63, 33, 63, 61, 32, 98]⟩ : ByteArray)).bind fun t105 => (if t105.toList = ([97, 32, 72, 105, 33, 32, 98] : List UInt8) then ((word_Encode.f (⟨#[195, 169]⟩ : ByteArray)).bind fun t106 => (if t106.toList = ([61, 63, 117, 116, 102, 45, 56, 63, 66, 63, 119, 54, 107, 61, 63, 61] : List UInt8) then ((word_Encode.f (⟨#[97, 32, 98]⟩ : ByteArray)).bind fun t107 => (some (t107.toList == ([97, 32, 98] : List UInt8)))) else (some false))) else (some false))) else (some false)) else (some false)) else (some false)))
set_option maxHeartbeats 8000000 in
set_option maxRecDepth 100000 in
theorem muslinlaw05_live.calls  (r : Bool) (w : World) (hGl : Glob w) (h : muslinlaw05_live.f  = some r) :
    Calls Tryd.prog 10 #[] w fun e w' => e = .returned (.bool r) ∧ Below w.heap.size w w' := by
  have HGl := Aside0.mk hGl
  clear hGl
  have HB := Aside0.mk (Below.refl w.heap.size w)
  have H : ((word_One.f (⟨#[61, 63, 108, 97, 116, 105, 110, 49, 42, 101, 110, 63, 81, 63, 99, 97, 102, 61, 69, 57, 95, 120, 63, 61, 121]⟩ : ByteArray)).bind fun bt101 => ((word_One.f (⟨#[61, 63, 120, 63, 81, 63, 97, 63, 61]⟩ : ByteArray)).bind fun bt103 => (if bt101.1.toList = ([99, 97, 102, 195, 169, 32, 120] : List UInt8) then (if bt101.2 = 24 then (if bt103.2 = 0 then ((word_Decode.f (⟨#[97, 32, 61, 63, 117, 116, 102, 45, 56, 63, 66, 63, 83, 71, 107, 61, 63, 61, 32, 10, 32, 61, 63, 97, 115, 99, 105, 105, 63, 113, 63, 33, 63, 61, 32, 98]⟩ : ByteArray)).bind fun t105 => (if t105.toList = ([97, 32, 72, 105, 33, 32, 98] : List UInt8) then ((word_Encode.f (⟨#[195, 169]⟩ : ByteArray)).bind fun t106 => (if t106.toList = ([61, 63, 117, 116, 102, 45, 56, 63, 66, 63, 119, 54, 107, 61, 63, 61] : List UInt8) then ((word_Encode.f (⟨#[97, 32, 98]⟩ : ByteArray)).bind fun t107 => (some (t107.toList == ([97, 32, 98] : List UInt8)))) else (some false))) else (some false))) else (some false)) else (some false)) else (some false)))) = some r := h
  clear h
  replace H := Option.bind_eq_some_iff.mp H
  obtain ⟨⟨t101, t102⟩, A10, H⟩ := H
  replace H : ((word_One.f (⟨#[61, 63, 120, 63, 81, 63, 97, 63, 61]⟩ : ByteArray)).bind fun bt103 => (if t101.toList = ([99, 97, 102, 195, 169, 32, 120] : List UInt8) then (if t102 = 24 then (if bt103.2 = 0 then ((word_Decode.f (⟨#[97, 32, 61, 63, 117, 116, 102, 45, 56, 63, 66, 63, 83, 71, 107, 61, 63, 61, 32, 10, 32, 61, 63, 97, 115, 99, 105, 105, 63, 113, 63, 33, 63, 61, 32, 98]⟩ : ByteArray)).bind fun t105 => (if t105.toList = ([97, 32, 72, 105, 33, 32, 98] : List UInt8) then ((word_Encode.f (⟨#[195, 169]⟩ : ByteArray)).bind fun t106 => (if t106.toList = ([61, 63, 117, 116, 102, 45, 56, 63, 66, 63, 119, 54, 107, 61, 63, 61] : List UInt8) then ((word_Encode.f (⟨#[97, 32, 98]⟩ : ByteArray)).bind fun t107 => (some (t107.toList == ([97, 32, 98] : List UInt8)))) else (some false))) else (some false))) else (some false)) else (some false)) else (some false))) = some r := H
  have A1 := Aside0.mk A10
  clear A10
  replace H := Option.bind_eq_some_iff.mp H
  obtain ⟨⟨t103, t104⟩, A20, H⟩ := H
  replace H : (if t101.toList = ([99, 97, 102, 195, 169, 32, 120] : List UInt8) then (if t102 = 24 then (if t104 = 0 then ((word_Decode.f (⟨#[97, 32, 61, 63, 117, 116, 102, 45, 56, 63, 66, 63, 83, 71, 107, 61, 63, 61, 32, 10, 32, 61, 63, 97, 115, 99, 105, 105, 63, 113, 63, 33, 63, 61, 32, 98]⟩ : ByteArray)).bind fun t105 => (if t105.toList = ([97, 32, 72, 105, 33, 32, 98] : List UInt8) then ((word_Encode.f (⟨#[195, 169]⟩ : ByteArray)).bind fun t106 => (if t106.toList = ([61, 63, 117, 116, 102, 45, 56, 63, 66, 63, 119, 54, 107, 61, 63, 61] : List UInt8) then ((word_Encode.f (⟨#[97, 32, 98]⟩ : ByteArray)).bind fun t107 => (some (t107.toList == ([97, 32, 98] : List UInt8)))) else (some false))) else (some false))) else (some false)) else (some false)) else (some false)) = some r := H
  have A2 := Aside0.mk A20
  clear A20
  by_cases c3 : t101.toList = ([99, 97, 102, 195, 169, 32, 120] : List UInt8)
  · rw [if_pos c3] at H
    have c3b0 : (t101.toList == ([99, 97, 102, 195, 169, 32, 120] : List UInt8)) = true := beq_iff_eq.mpr c3
    have c3b1 : (t101.toList != ([99, 97, 102, 195, 169, 32, 120] : List UInt8)) = false := bne_eq_false_iff_eq.mpr c3
    clear c3
    by_cases c4 : t102 = 24
    · rw [if_pos c4] at H
      have c4b0 : (t102 == 24) = true := beq_iff_eq.mpr c4
      have c4b1 : (t102 != 24) = false := bne_eq_false_iff_eq.mpr c4
      clear c4
      by_cases c5 : t104 = 0
      · rw [if_pos c5] at H
        have c5b0 : (t104 == 0) = true := beq_iff_eq.mpr c5
        have c5b1 : (t104 != 0) = false := bne_eq_false_iff_eq.mpr c5
        clear c5
        replace H := Option.bind_eq_some_iff.mp H
        obtain ⟨t105, A60, H⟩ := H
        replace H : (if t105.toList = ([97, 32, 72, 105, 33, 32, 98] : List UInt8) then ((word_Encode.f (⟨#[195, 169]⟩ : ByteArray)).bind fun t106 => (if t106.toList = ([61, 63, 117, 116, 102, 45, 56, 63, 66, 63, 119, 54, 107, 61, 63, 61] : List UInt8) then ((word_Encode.f (⟨#[97, 32, 98]⟩ : ByteArray)).bind fun t107 => (some (t107.toList == ([97, 32, 98] : List UInt8)))) else (some false))) else (some false)) = some r := H
        have A6 := Aside0.mk A60
        clear A60
        by_cases c7 : t105.toList = ([97, 32, 72, 105, 33, 32, 98] : List UInt8)
        · rw [if_pos c7] at H
          have c7b0 : (t105.toList == ([97, 32, 72, 105, 33, 32, 98] : List UInt8)) = true := beq_iff_eq.mpr c7
          have c7b1 : (t105.toList != ([97, 32, 72, 105, 33, 32, 98] : List UInt8)) = false := bne_eq_false_iff_eq.mpr c7
          clear c7
          replace H := Option.bind_eq_some_iff.mp H
          obtain ⟨t106, A80, H⟩ := H
          replace H : (if t106.toList = ([61, 63, 117, 116, 102, 45, 56, 63, 66, 63, 119, 54, 107, 61, 63, 61] : List UInt8) then ((word_Encode.f (⟨#[97, 32, 98]⟩ : ByteArray)).bind fun t107 => (some (t107.toList == ([97, 32, 98] : List UInt8)))) else (some false)) = some r := H
          have A8 := Aside0.mk A80
          clear A80
          by_cases c9 : t106.toList = ([61, 63, 117, 116, 102, 45, 56, 63, 66, 63, 119, 54, 107, 61, 63, 61] : List UInt8)
          · rw [if_pos c9] at H
            have c9b0 : (t106.toList == ([61, 63, 117, 116, 102, 45, 56, 63, 66, 63, 119, 54, 107, 61, 63, 61] : List UInt8)) = true := beq_iff_eq.mpr c9
            have c9b1 : (t106.toList != ([61, 63, 117, 116, 102, 45, 56, 63, 66, 63, 119, 54, 107, 61, 63, 61] : List UInt8)) = false := bne_eq_false_iff_eq.mpr c9
            clear c9
            replace H := Option.bind_eq_some_iff.mp H
            obtain ⟨t107, A100, H⟩ := H
            replace H : (some (t107.toList == ([97, 32, 98] : List UInt8))) = some r := H
            have A10 := Aside0.mk A100
            clear A100
            obtain rfl := Option.some.inj H
            go_enter Tryd.func10, Tryd.ntmps10
            go_wp2_with (first | ((with_reducible refine gate_callee (f := 11) rfl ?_); refine goesL_ (some 6) rfl rfl Tryd.func11 (by kernel_rfl) rfl #[.string (⟨#[61, 63, 108, 97, 116, 105, 110, 49, 42, 101, 110, 63, 81, 63, 99, 97, 102, 61, 69, 57, 95, 120, 63, 61, 121]⟩ : ByteArray)] rfl (by (try simp only [List.map_toArray, List.map_cons, List.map_nil]); first | done | rfl | (simp only [List.length_drop, List.length_take]; rfl)) ?_; (with_reducible refine (word_One.calls (⟨#[61, 63, 108, 97, 116, 105, 110, 49, 42, 101, 110, 63, 81, 63, 99, 97, 102, 61, 69, 57, 95, 120, 63, 61, 121]⟩ : ByteArray) t101 t102 _ ?sideGl A1.out).mono ?_); (case sideGl => exact HGl.out.below (by repeat (first | (with_reducible first | exact HB.out | apply below_alloc | apply pw_below_drewN | apply below_drew1) | exact HB.out))); rintro e w11 ⟨rfl, hb⟩; refine ⟨_, rfl, ?_⟩; have n0_ := Aside0.mk (below_step (by repeat (first | (with_reducible first | exact HB.out | apply below_alloc | apply pw_below_drewN | apply below_drew1) | exact HB.out)) hb); clear HB; have HB := n0_; clear n0_; (try clear hb); (try clear hb2); (try clear hk); (try clear hi)) | ((with_reducible refine gate_callee (f := 11) rfl ?_); refine goesL_ (some 10) rfl rfl Tryd.func11 (by kernel_rfl) rfl #[.string (⟨#[61, 63, 120, 63, 81, 63, 97, 63, 61]⟩ : ByteArray)] rfl (by (try simp only [List.map_toArray, List.map_cons, List.map_nil]); first | done | rfl | (simp only [List.length_drop, List.length_take]; rfl)) ?_; (with_reducible refine (word_One.calls (⟨#[61, 63, 120, 63, 81, 63, 97, 63, 61]⟩ : ByteArray) t103 t104 _ ?sideGl A2.out).mono ?_); (case sideGl => exact HGl.out.below (by repeat (first | (with_reducible first | exact HB.out | apply below_alloc | apply pw_below_drewN | apply below_drew1) | exact HB.out))); rintro e w12 ⟨rfl, hb⟩; refine ⟨_, rfl, ?_⟩; have n0_ := Aside0.mk (below_step (by repeat (first | (with_reducible first | exact HB.out | apply below_alloc | apply pw_below_drewN | apply below_drew1) | exact HB.out)) hb); clear HB; have HB := n0_; clear n0_; (try clear hb); (try clear hb2); (try clear hk); (try clear hi)) | (go_at_call 13; (with_reducible refine (word_Decode.calls (⟨#[97, 32, 61, 63, 117, 116, 102, 45, 56, 63, 66, 63, 83, 71, 107, 61, 63, 61, 32, 10, 32, 61, 63, 97, 115, 99, 105, 105, 63, 113, 63, 33, 63, 61, 32, 98]⟩ : ByteArray) t105 _ ?sideGl A6.out).mono ?_); (case sideGl => exact HGl.out.below (by repeat (first | (with_reducible first | exact HB.out | apply below_alloc | apply pw_below_drewN | apply below_drew1) | exact HB.out))); rintro e w13 ⟨rfl, hb⟩; have n0_ := Aside0.mk (below_step (by repeat (first | (with_reducible first | exact HB.out | apply below_alloc | apply pw_below_drewN | apply below_drew1) | exact HB.out)) hb); clear HB; have HB := n0_; clear n0_; (try clear hb); (try clear hb2); (try clear hk); (try clear hi)) | (go_at_call 15; (with_reducible refine (word_Encode.calls (⟨#[195, 169]⟩ : ByteArray) t106 _ ?sideGl A8.out).mono ?_); (case sideGl => exact HGl.out.below (by repeat (first | (with_reducible first | exact HB.out | apply below_alloc | apply pw_below_drewN | apply below_drew1) | exact HB.out))); rintro e w14 ⟨rfl, hb⟩; have n0_ := Aside0.mk (below_step (by repeat (first | (with_reducible first | exact HB.out | apply below_alloc | apply pw_below_drewN | apply below_drew1) | exact HB.out)) hb); clear HB; have HB := n0_; clear n0_; (try clear hb); (try clear hb2); (try clear hk); (try clear hi)) | (go_at_call 15; (with_reducible refine (word_Encode.calls (⟨#[97, 32, 98]⟩ : ByteArray) t107 _ ?sideGl A10.out).mono ?_); (case sideGl => exact HGl.out.below (by repeat (first | (with_reducible first | exact HB.out | apply below_alloc | apply pw_below_drewN | apply below_drew1) | exact HB.out))); rintro e w15 ⟨rfl, hb⟩; have n0_ := Aside0.mk (below_step (by repeat (first | (with_reducible first | exact HB.out | apply below_alloc | apply pw_below_drewN | apply below_drew1) | exact HB.out)) hb); clear HB; have HB := n0_; clear n0_; (try clear hb); (try clear hb2); (try clear hk); (try clear hi)))
            go_ret
            exact ⟨by first | rfl | (simp [errW_none, errW_some] <;> rfl) | (simp [*, errW_none, errW_some] <;> rfl), by repeat (first | (with_reducible first | exact HB.out | apply below_alloc | apply pw_below_drewN | apply below_drew1) | exact HB.out)⟩
          · rw [if_neg c9] at H
            have c9b0 : (t106.toList == ([61, 63, 117, 116, 102, 45, 56, 63, 66, 63, 119, 54, 107, 61, 63, 61] : List UInt8)) = false := beq_eq_false_iff_ne.mpr c9
            have c9b1 : (t106.toList != ([61, 63, 117, 116, 102, 45, 56, 63, 66, 63, 119, 54, 107, 61, 63, 61] : List UInt8)) = true := bne_iff_ne.mpr c9
            obtain rfl := Option.some.inj H
            go_enter Tryd.func10, Tryd.ntmps10
            go_wp2_with (first | ((with_reducible refine gate_callee (f := 11) rfl ?_); refine goesL_ (some 6) rfl rfl Tryd.func11 (by kernel_rfl) rfl #[.string (⟨#[61, 63, 108, 97, 116, 105, 110, 49, 42, 101, 110, 63, 81, 63, 99, 97, 102, 61, 69, 57, 95, 120, 63, 61, 121]⟩ : ByteArray)] rfl (by (try simp only [List.map_toArray, List.map_cons, List.map_nil]); first | done | rfl | (simp only [List.length_drop, List.length_take]; rfl)) ?_; (with_reducible refine (word_One.calls (⟨#[61, 63, 108, 97, 116, 105, 110, 49, 42, 101, 110, 63, 81, 63, 99, 97, 102, 61, 69, 57, 95, 120, 63, 61, 121]⟩ : ByteArray) t101 t102 _ ?sideGl A1.out).mono ?_); (case sideGl => exact HGl.out.below (by repeat (first | (with_reducible first | exact HB.out | apply below_alloc | apply pw_below_drewN | apply below_drew1) | exact HB.out))); rintro e w16 ⟨rfl, hb⟩; refine ⟨_, rfl, ?_⟩; have n0_ := Aside0.mk (below_step (by repeat (first | (with_reducible first | exact HB.out | apply below_alloc | apply pw_below_drewN | apply below_drew1) | exact HB.out)) hb); clear HB; have HB := n0_; clear n0_; (try clear hb); (try clear hb2); (try clear hk); (try clear hi)) | ((with_reducible refine gate_callee (f := 11) rfl ?_); refine goesL_ (some 10) rfl rfl Tryd.func11 (by kernel_rfl) rfl #[.string (⟨#[61, 63, 120, 63, 81, 63, 97, 63, 61]⟩ : ByteArray)] rfl (by (try simp only [List.map_toArray, List.map_cons, List.map_nil]); first | done | rfl | (simp only [List.length_drop, List.length_take]; rfl)) ?_; (with_reducible refine (word_One.calls (⟨#[61, 63, 120, 63, 81, 63, 97, 63, 61]⟩ : ByteArray) t103 t104 _ ?sideGl A2.out).mono ?_); (case sideGl => exact HGl.out.below (by repeat (first | (with_reducible first | exact HB.out | apply below_alloc | apply pw_below_drewN | apply below_drew1) | exact HB.out))); rintro e w17 ⟨rfl, hb⟩; refine ⟨_, rfl, ?_⟩; have n0_ := Aside0.mk (below_step (by repeat (first | (with_reducible first | exact HB.out | apply below_alloc | apply pw_below_drewN | apply below_drew1) | exact HB.out)) hb); clear HB; have HB := n0_; clear n0_; (try clear hb); (try clear hb2); (try clear hk); (try clear hi)) | (go_at_call 13; (with_reducible refine (word_Decode.calls (⟨#[97, 32, 61, 63, 117, 116, 102, 45, 56, 63, 66, 63, 83, 71, 107, 61, 63, 61, 32, 10, 32, 61, 63, 97, 115, 99, 105, 105, 63, 113, 63, 33, 63, 61, 32, 98]⟩ : ByteArray) t105 _ ?sideGl A6.out).mono ?_); (case sideGl => exact HGl.out.below (by repeat (first | (with_reducible first | exact HB.out | apply below_alloc | apply pw_below_drewN | apply below_drew1) | exact HB.out))); rintro e w18 ⟨rfl, hb⟩; have n0_ := Aside0.mk (below_step (by repeat (first | (with_reducible first | exact HB.out | apply below_alloc | apply pw_below_drewN | apply below_drew1) | exact HB.out)) hb); clear HB; have HB := n0_; clear n0_; (try clear hb); (try clear hb2); (try clear hk); (try clear hi)) | (go_at_call 15; (with_reducible refine (word_Encode.calls (⟨#[195, 169]⟩ : ByteArray) t106 _ ?sideGl A8.out).mono ?_); (case sideGl => exact HGl.out.below (by repeat (first | (with_reducible first | exact HB.out | apply below_alloc | apply pw_below_drewN | apply below_drew1) | exact HB.out))); rintro e w19 ⟨rfl, hb⟩; have n0_ := Aside0.mk (below_step (by repeat (first | (with_reducible first | exact HB.out | apply below_alloc | apply pw_below_drewN | apply below_drew1) | exact HB.out)) hb); clear HB; have HB := n0_; clear n0_; (try clear hb); (try clear hb2); (try clear hk); (try clear hi)))
            go_ret
            exact ⟨by first | rfl | (simp [errW_none, errW_some] <;> rfl) | (simp [*, errW_none, errW_some] <;> rfl), by repeat (first | (with_reducible first | exact HB.out | apply below_alloc | apply pw_below_drewN | apply below_drew1) | exact HB.out)⟩
        · rw [if_neg c7] at H
          have c7b0 : (t105.toList == ([97, 32, 72, 105, 33, 32, 98] : List UInt8)) = false := beq_eq_false_iff_ne.mpr c7
          have c7b1 : (t105.toList != ([97, 32, 72, 105, 33, 32, 98] : List UInt8)) = true := bne_iff_ne.mpr c7
          obtain rfl := Option.some.inj H
          go_enter Tryd.func10, Tryd.ntmps10
          go_wp2_with (first | ((with_reducible refine gate_callee (f := 11) rfl ?_); refine goesL_ (some 6) rfl rfl Tryd.func11 (by kernel_rfl) rfl #[.string (⟨#[61, 63, 108, 97, 116, 105, 110, 49, 42, 101, 110, 63, 81, 63, 99, 97, 102, 61, 69, 57, 95, 120, 63, 61, 121]⟩ : ByteArray)] rfl (by (try simp only [List.map_toArray, List.map_cons, List.map_nil]); first | done | rfl | (simp only [List.length_drop, List.length_take]; rfl)) ?_; (with_reducible refine (word_One.calls (⟨#[61, 63, 108, 97, 116, 105, 110, 49, 42, 101, 110, 63, 81, 63, 99, 97, 102, 61, 69, 57, 95, 120, 63, 61, 121]⟩ : ByteArray) t101 t102 _ ?sideGl A1.out).mono ?_); (case sideGl => exact HGl.out.below (by repeat (first | (with_reducible first | exact HB.out | apply below_alloc | apply pw_below_drewN | apply below_drew1) | exact HB.out))); rintro e w20 ⟨rfl, hb⟩; refine ⟨_, rfl, ?_⟩; have n0_ := Aside0.mk (below_step (by repeat (first | (with_reducible first | exact HB.out | apply below_alloc | apply pw_below_drewN | apply below_drew1) | exact HB.out)) hb); clear HB; have HB := n0_; clear n0_; (try clear hb); (try clear hb2); (try clear hk); (try clear hi)) | ((with_reducible refine gate_callee (f := 11) rfl ?_); refine goesL_ (some 10) rfl rfl Tryd.func11 (by kernel_rfl) rfl #[.string (⟨#[61, 63, 120, 63, 81, 63, 97, 63, 61]⟩ : ByteArray)] rfl (by (try simp only [List.map_toArray, List.map_cons, List.map_nil]); first | done | rfl | (simp only [List.length_drop, List.length_take]; rfl)) ?_; (with_reducible refine (word_One.calls (⟨#[61, 63, 120, 63, 81, 63, 97, 63, 61]⟩ : ByteArray) t103 t104 _ ?sideGl A2.out).mono ?_); (case sideGl => exact HGl.out.below (by repeat (first | (with_reducible first | exact HB.out | apply below_alloc | apply pw_below_drewN | apply below_drew1) | exact HB.out))); rintro e w21 ⟨rfl, hb⟩; refine ⟨_, rfl, ?_⟩; have n0_ := Aside0.mk (below_step (by repeat (first | (with_reducible first | exact HB.out | apply below_alloc | apply pw_below_drewN | apply below_drew1) | exact HB.out)) hb); clear HB; have HB := n0_; clear n0_; (try clear hb); (try clear hb2); (try clear hk); (try clear hi)) | (go_at_call 13; (with_reducible refine (word_Decode.calls (⟨#[97, 32, 61, 63, 117, 116, 102, 45, 56, 63, 66, 63, 83, 71, 107, 61, 63, 61, 32, 10, 32, 61, 63, 97, 115, 99, 105, 105, 63, 113, 63, 33, 63, 61, 32, 98]⟩ : ByteArray) t105 _ ?sideGl A6.out).mono ?_); (case sideGl => exact HGl.out.below (by repeat (first | (with_reducible first | exact HB.out | apply below_alloc | apply pw_below_drewN | apply below_drew1) | exact HB.out))); rintro e w22 ⟨rfl, hb⟩; have n0_ := Aside0.mk (below_step (by repeat (first | (with_reducible first | exact HB.out | apply below_alloc | apply pw_below_drewN | apply below_drew1) | exact HB.out)) hb); clear HB; have HB := n0_; clear n0_; (try clear hb); (try clear hb2); (try clear hk); (try clear hi)))
          go_ret
          exact ⟨by first | rfl | (simp [errW_none, errW_some] <;> rfl) | (simp [*, errW_none, errW_some] <;> rfl), by repeat (first | (with_reducible first | exact HB.out | apply below_alloc | apply pw_below_drewN | apply below_drew1) | exact HB.out)⟩
      · rw [if_neg c5] at H
        have c5b0 : (t104 == 0) = false := beq_eq_false_iff_ne.mpr c5
        have c5b1 : (t104 != 0) = true := bne_iff_ne.mpr c5
        obtain rfl := Option.some.inj H
        go_enter Tryd.func10, Tryd.ntmps10
        go_wp2_with (first | ((with_reducible refine gate_callee (f := 11) rfl ?_); refine goesL_ (some 6) rfl rfl Tryd.func11 (by kernel_rfl) rfl #[.string (⟨#[61, 63, 108, 97, 116, 105, 110, 49, 42, 101, 110, 63, 81, 63, 99, 97, 102, 61, 69, 57, 95, 120, 63, 61, 121]⟩ : ByteArray)] rfl (by (try simp only [List.map_toArray, List.map_cons, List.map_nil]); first | done | rfl | (simp only [List.length_drop, List.length_take]; rfl)) ?_; (with_reducible refine (word_One.calls (⟨#[61, 63, 108, 97, 116, 105, 110, 49, 42, 101, 110, 63, 81, 63, 99, 97, 102, 61, 69, 57, 95, 120, 63, 61, 121]⟩ : ByteArray) t101 t102 _ ?sideGl A1.out).mono ?_); (case sideGl => exact HGl.out.below (by repeat (first | (with_reducible first | exact HB.out | apply below_alloc | apply pw_below_drewN | apply below_drew1) | exact HB.out))); rintro e w23 ⟨rfl, hb⟩; refine ⟨_, rfl, ?_⟩; have n0_ := Aside0.mk (below_step (by repeat (first | (with_reducible first | exact HB.out | apply below_alloc | apply pw_below_drewN | apply below_drew1) | exact HB.out)) hb); clear HB; have HB := n0_; clear n0_; (try clear hb); (try clear hb2); (try clear hk); (try clear hi)) | ((with_reducible refine gate_callee (f := 11) rfl ?_); refine goesL_ (some 10) rfl rfl Tryd.func11 (by kernel_rfl) rfl #[.string (⟨#[61, 63, 120, 63, 81, 63, 97, 63, 61]⟩ : ByteArray)] rfl (by (try simp only [List.map_toArray, List.map_cons, List.map_nil]); first | done | rfl | (simp only [List.length_drop, List.length_take]; rfl)) ?_; (with_reducible refine (word_One.calls (⟨#[61, 63, 120, 63, 81, 63, 97, 63, 61]⟩ : ByteArray) t103 t104 _ ?sideGl A2.out).mono ?_); (case sideGl => exact HGl.out.below (by repeat (first | (with_reducible first | exact HB.out | apply below_alloc | apply pw_below_drewN | apply below_drew1) | exact HB.out))); rintro e w24 ⟨rfl, hb⟩; refine ⟨_, rfl, ?_⟩; have n0_ := Aside0.mk (below_step (by repeat (first | (with_reducible first | exact HB.out | apply below_alloc | apply pw_below_drewN | apply below_drew1) | exact HB.out)) hb); clear HB; have HB := n0_; clear n0_; (try clear hb); (try clear hb2); (try clear hk); (try clear hi)))
        go_ret
        exact ⟨by first | rfl | (simp [errW_none, errW_some] <;> rfl) | (simp [*, errW_none, errW_some] <;> rfl), by repeat (first | (with_reducible first | exact HB.out | apply below_alloc | apply pw_below_drewN | apply below_drew1) | exact HB.out)⟩
    · rw [if_neg c4] at H
      have c4b0 : (t102 == 24) = false := beq_eq_false_iff_ne.mpr c4
      have c4b1 : (t102 != 24) = true := bne_iff_ne.mpr c4
      obtain rfl := Option.some.inj H
      go_enter Tryd.func10, Tryd.ntmps10
      go_wp2_with (first | ((with_reducible refine gate_callee (f := 11) rfl ?_); refine goesL_ (some 6) rfl rfl Tryd.func11 (by kernel_rfl) rfl #[.string (⟨#[61, 63, 108, 97, 116, 105, 110, 49, 42, 101, 110, 63, 81, 63, 99, 97, 102, 61, 69, 57, 95, 120, 63, 61, 121]⟩ : ByteArray)] rfl (by (try simp only [List.map_toArray, List.map_cons, List.map_nil]); first | done | rfl | (simp only [List.length_drop, List.length_take]; rfl)) ?_; (with_reducible refine (word_One.calls (⟨#[61, 63, 108, 97, 116, 105, 110, 49, 42, 101, 110, 63, 81, 63, 99, 97, 102, 61, 69, 57, 95, 120, 63, 61, 121]⟩ : ByteArray) t101 t102 _ ?sideGl A1.out).mono ?_); (case sideGl => exact HGl.out.below (by repeat (first | (with_reducible first | exact HB.out | apply below_alloc | apply pw_below_drewN | apply below_drew1) | exact HB.out))); rintro e w25 ⟨rfl, hb⟩; refine ⟨_, rfl, ?_⟩; have n0_ := Aside0.mk (below_step (by repeat (first | (with_reducible first | exact HB.out | apply below_alloc | apply pw_below_drewN | apply below_drew1) | exact HB.out)) hb); clear HB; have HB := n0_; clear n0_; (try clear hb); (try clear hb2); (try clear hk); (try clear hi)) | ((with_reducible refine gate_callee (f := 11) rfl ?_); refine goesL_ (some 10) rfl rfl Tryd.func11 (by kernel_rfl) rfl #[.string (⟨#[61, 63, 120, 63, 81, 63, 97, 63, 61]⟩ : ByteArray)] rfl (by (try simp only [List.map_toArray, List.map_cons, List.map_nil]); first | done | rfl | (simp only [List.length_drop, List.length_take]; rfl)) ?_; (with_reducible refine (word_One.calls (⟨#[61, 63, 120, 63, 81, 63, 97, 63, 61]⟩ : ByteArray) t103 t104 _ ?sideGl A2.out).mono ?_); (case sideGl => exact HGl.out.below (by repeat (first | (with_reducible first | exact HB.out | apply below_alloc | apply pw_below_drewN | apply below_drew1) | exact HB.out))); rintro e w26 ⟨rfl, hb⟩; refine ⟨_, rfl, ?_⟩; have n0_ := Aside0.mk (below_step (by repeat (first | (with_reducible first | exact HB.out | apply below_alloc | apply pw_below_drewN | apply below_drew1) | exact HB.out)) hb); clear HB; have HB := n0_; clear n0_; (try clear hb); (try clear hb2); (try clear hk); (try clear hi)))
      go_ret
      exact ⟨by first | rfl | (simp [errW_none, errW_some] <;> rfl) | (simp [*, errW_none, errW_some] <;> rfl), by repeat (first | (with_reducible first | exact HB.out | apply below_alloc | apply pw_below_drewN | apply below_drew1) | exact HB.out)⟩
  · rw [if_neg c3] at H
    have c3b0 : (t101.toList == ([99, 97, 102, 195, 169, 32, 120] : List UInt8)) = false := beq_eq_false_iff_ne.mpr c3
    have c3b1 : (t101.toList != ([99, 97, 102, 195, 169, 32, 120] : List UInt8)) = true := bne_iff_ne.mpr c3
    obtain rfl := Option.some.inj H
    go_enter Tryd.func10, Tryd.ntmps10
    go_wp2_with (first | ((with_reducible refine gate_callee (f := 11) rfl ?_); refine goesL_ (some 6) rfl rfl Tryd.func11 (by kernel_rfl) rfl #[.string (⟨#[61, 63, 108, 97, 116, 105, 110, 49, 42, 101, 110, 63, 81, 63, 99, 97, 102, 61, 69, 57, 95, 120, 63, 61, 121]⟩ : ByteArray)] rfl (by (try simp only [List.map_toArray, List.map_cons, List.map_nil]); first | done | rfl | (simp only [List.length_drop, List.length_take]; rfl)) ?_; (with_reducible refine (word_One.calls (⟨#[61, 63, 108, 97, 116, 105, 110, 49, 42, 101, 110, 63, 81, 63, 99, 97, 102, 61, 69, 57, 95, 120, 63, 61, 121]⟩ : ByteArray) t101 t102 _ ?sideGl A1.out).mono ?_); (case sideGl => exact HGl.out.below (by repeat (first | (with_reducible first | exact HB.out | apply below_alloc | apply pw_below_drewN | apply below_drew1) | exact HB.out))); rintro e w27 ⟨rfl, hb⟩; refine ⟨_, rfl, ?_⟩; have n0_ := Aside0.mk (below_step (by repeat (first | (with_reducible first | exact HB.out | apply below_alloc | apply pw_below_drewN | apply below_drew1) | exact HB.out)) hb); clear HB; have HB := n0_; clear n0_; (try clear hb); (try clear hb2); (try clear hk); (try clear hi)) | ((with_reducible refine gate_callee (f := 11) rfl ?_); refine goesL_ (some 10) rfl rfl Tryd.func11 (by kernel_rfl) rfl #[.string (⟨#[61, 63, 120, 63, 81, 63, 97, 63, 61]⟩ : ByteArray)] rfl (by (try simp only [List.map_toArray, List.map_cons, List.map_nil]); first | done | rfl | (simp only [List.length_drop, List.length_take]; rfl)) ?_; (with_reducible refine (word_One.calls (⟨#[61, 63, 120, 63, 81, 63, 97, 63, 61]⟩ : ByteArray) t103 t104 _ ?sideGl A2.out).mono ?_); (case sideGl => exact HGl.out.below (by repeat (first | (with_reducible first | exact HB.out | apply below_alloc | apply pw_below_drewN | apply below_drew1) | exact HB.out))); rintro e w28 ⟨rfl, hb⟩; refine ⟨_, rfl, ?_⟩; have n0_ := Aside0.mk (below_step (by repeat (first | (with_reducible first | exact HB.out | apply below_alloc | apply pw_below_drewN | apply below_drew1) | exact HB.out)) hb); clear HB; have HB := n0_; clear n0_; (try clear hb); (try clear hb2); (try clear hk); (try clear hi)))
    go_ret
    exact ⟨by first | rfl | (simp [errW_none, errW_some] <;> rfl) | (simp [*, errW_none, errW_some] <;> rfl), by repeat (first | (with_reducible first | exact HB.out | apply below_alloc | apply pw_below_drewN | apply below_drew1) | exact HB.out)⟩
end Go.Proofs.YtokkgjiofhhlkaaDoor.P
