/- Parts of the proof of the law AddrWrites, in one text: G1, RefG, R0, R1, Pure05a, WordR, RefW, RefX, P1, P2, Pure08w. -/
import Derived.Test.YtpcncpegbboljaaGreatDoorMgAddrWrites2
set_option linter.unusedVariables false
set_option linter.unusedSimpArgs false
namespace Go.Proofs.YtpcncpegbboljaaGreatDoor.G
open Go.RowKit Go.Proofs.YtpcncpegbboljaaGreatDoorW.PrintWords Go.Proofs.YtpcncpegbboljaaGreatDoorW.PrintLast Go.Proofs.YtpcncpegbboljaaGreatDoorW.PrintMore
attribute [local go_sem] max2_int min2_int max_two min_two max_three min_three max_four min_four
set_option linter.unusedVariables false
set_option linter.unusedSimpArgs false
mutual
def muslinref08_Good.l0 : Nat → ByteArray → Int → Int → Option (Bool)
  | 0, _, _, _ => none
  | k + 1, x0, x3, x4 => if x4 < (x0.size : Int) then (if 0 ≤ x4 then (if (bt x0 x4) = 60 then (muslinref08_Good.j1 k x0 x3 x4 (bt x0 x4) ((bt x0 x4) == 60)) else (if (bt x0 x4) = 62 then (muslinref08_Good.j1 k x0 x3 x4 (bt x0 x4) ((bt x0 x4) == 62)) else (if (bt x0 x4) = 40 then (muslinref08_Good.j1 k x0 x3 x4 (bt x0 x4) ((bt x0 x4) == 40)) else (if (bt x0 x4) = 41 then (muslinref08_Good.j1 k x0 x3 x4 (bt x0 x4) ((bt x0 x4) == 41)) else (if (bt x0 x4) = 44 then (muslinref08_Good.j1 k x0 x3 x4 (bt x0 x4) ((bt x0 x4) == 44)) else (if (bt x0 x4) = 59 then (muslinref08_Good.j1 k x0 x3 x4 (bt x0 x4) ((bt x0 x4) == 59)) else (if (bt x0 x4) = 58 then (muslinref08_Good.j1 k x0 x3 x4 (bt x0 x4) ((bt x0 x4) == 58)) else (if (bt x0 x4) = 92 then (muslinref08_Good.j1 k x0 x3 x4 (bt x0 x4) ((bt x0 x4) == 92)) else (muslinref08_Good.j1 k x0 x3 x4 (bt x0 x4) ((bt x0 x4) == 34)))))))))) else (none)) else (some (x3 == 1))
def muslinref08_Good.j1 : Nat → ByteArray → Int → Int → Int → Bool → Option (Bool)
  | 0, _, _, _, _, _ => none
  | k + 1, x0, x3, x4, x13, x14 => if x14 = true then (some false) else (if x13 = 64 then (if x4 = 0 then (muslinref08_Good.j2 k x0 (wrap64 (x3 + 1)) x4 true) else (muslinref08_Good.j2 k x0 (wrap64 (x3 + 1)) x4 (x4 == (wrap64 ((x0.size : Int) - 1))))) else (if 0 ≤ x4 then (if x4 < (x0.size : Int) then (if (bt x0 x4) < 33 then (some false) else (if (bt x0 x4) > 126 then (some false) else (muslinref08_Good.l0 k x0 x3 (wrap64 (x4 + 1))))) else (none)) else (none)))
def muslinref08_Good.j2 : Nat → ByteArray → Int → Int → Bool → Option (Bool)
  | 0, _, _, _, _ => none
  | k + 1, x0, x3, x4, x36 => if x36 = true then (some false) else (if 0 ≤ x4 then (if x4 < (x0.size : Int) then (if (bt x0 x4) < 33 then (some false) else (if (bt x0 x4) > 126 then (some false) else (muslinref08_Good.l0 k x0 x3 (wrap64 (x4 + 1))))) else (none)) else (none))
end
def muslinref08_Good.f (k : Nat) (a0 : ByteArray) : Option (Bool) := muslinref08_Good.l0 k a0 0 0
set_option maxHeartbeats 8000000 in
set_option maxRecDepth 100000 in
theorem muslinref08_Good.calls (k : Nat) (a0 : ByteArray) (r : Bool) (w : World) (h : muslinref08_Good.f k a0 = some r) :
    Calls Tryz.prog 14 #[.string a0] w fun e w' => e = .returned (.bool r) ∧ Drawn0 w w' := by
  have H : (muslinref08_Good.l0 k a0 0 0) = some r := h; clear h; have H' := Aside0.mk H; clear H
  go_enter Tryz.func14, Tryz.ntmps14
  go_wp2
  go_loopg [3, 4] k (fun kq v3 v4 w' => ∃ (x3_1 : Int) (x4_1 : Int), v3 = .int .i64 x3_1 ∧ v4 = .int .i64 x4_1 ∧ Aside0 (muslinref08_Good.l0 kq a0 x3_1 x4_1 = some r) ∧ Aside0 (kq ≤ k) ∧ Drawn0 w w')
  case atStart => exact ⟨(0), (0), (by first | rfl | (simp; done) | (simp [*]; done)), (by first | rfl | (simp; done) | (simp [*]; done)), H', ⟨Nat.le_refl _⟩, by repeat (first | exact Drawn0.refl _ | apply Drawn0.step)⟩
  case round =>
    clear H'; (try clear c1); obtain ⟨x3_1, x4_1, rfl, rfl, HA, HK1, ⟨m1, rfl⟩⟩ := hrel
    cases gk with
    | zero => exact absurd HA.out (by simp [muslinref08_Good.l0])
    | succ k1 =>
      have H := HA.out; clear HA; simp only [muslinref08_Good.l0] at H
      by_cases c2 : x4_1 < (a0.size : Int)
      case neg =>
        rw [if_neg c2] at H; have c2b0 : decide (x4_1 < (a0.size : Int)) = false := decide_eq_false c2; clear c2; obtain rfl := Option.some.inj H
        go_wp2
        go_ret
        exact ⟨by first | rfl | (simp; done) | (simp [*]; done), by repeat (first | exact Drawn0.refl _ | apply Drawn0.step)⟩
      rw [if_pos c2] at H; have c2b0 : decide (x4_1 < (a0.size : Int)) = true := decide_eq_true c2; clear c2
      by_cases c3 : 0 ≤ x4_1
      case neg =>
        rw [if_neg c3] at H
        exact absurd H (by simp)
      rw [if_pos c3] at H; have c3b0 : decide (0 ≤ x4_1) = true := decide_eq_true c3; clear c3; have HC5 := Aside0.mk H; clear H; have p4 : 0 ≤ (x4_1 : Int) := of_decide_eq_true (by first | (with_reducible assumption) | assumption); have q4 : x4_1 < (a0.size : Int) := of_decide_eq_true (by first | (with_reducible assumption) | assumption); have hx4 := bt_at a0 x4_1; replace p4 := eq_true p4; replace q4 := eq_true q4
      go_upto_if 14 with (fail)
      go_cut [14] (fun v14 wc => ∃ (kq : Nat) (x14_4 : Bool), v14 = .bool x14_4 ∧ Aside0 (muslinref08_Good.j1 kq a0 x3_1 x4_1 (bt a0 x4_1) x14_4 = some r) ∧ Aside0 (kq ≤ k1) ∧ Drawn0 w wc)
      case first =>
        have H := HC5.out; clear HC5
        by_cases c6 : (bt a0 x4_1) = 60
        case pos =>
          rw [if_pos c6] at H; have c6b0 : ((bt a0 x4_1) == 60) = true := beq_iff_eq.mpr c6; have c6b1 : ((bt a0 x4_1) != 60) = false := bne_eq_false_iff_eq.mpr c6; clear c6
          (first | rw [c6b0] | (simp only [i64_w, i32_w]; rw [c6b0]) | skip)
          have H' := Aside0.mk H; clear H
          go_wp2
          go_meet
          case rel => exact ⟨_, (((bt a0 x4_1) == 60)), (by first | rfl | (simp; done) | (simp [*]; done)), H', ⟨by have := HK1.out; first | omega | exact Nat.le_refl _⟩, by repeat (first | exact Drawn0.refl _ | apply Drawn0.step)⟩
        rw [if_neg c6] at H; have c6b0 : ((bt a0 x4_1) == 60) = false := beq_eq_false_iff_ne.mpr c6; have c6b1 : ((bt a0 x4_1) != 60) = true := bne_iff_ne.mpr c6
        (first | rw [c6b0] | (simp only [i64_w, i32_w]; rw [c6b0]) | skip)
        by_cases c7 : (bt a0 x4_1) = 62
        case pos =>
          rw [if_pos c7] at H; have c7b0 : ((bt a0 x4_1) == 62) = true := beq_iff_eq.mpr c7; have c7b1 : ((bt a0 x4_1) != 62) = false := bne_eq_false_iff_eq.mpr c7; clear c7; have H' := Aside0.mk H; clear H
          go_wp2
          go_meet
          case rel => exact ⟨_, (((bt a0 x4_1) == 62)), (by first | rfl | (simp; done) | (simp [*]; done)), H', ⟨by have := HK1.out; first | omega | exact Nat.le_refl _⟩, by repeat (first | exact Drawn0.refl _ | apply Drawn0.step)⟩
        rw [if_neg c7] at H; have c7b0 : ((bt a0 x4_1) == 62) = false := beq_eq_false_iff_ne.mpr c7; have c7b1 : ((bt a0 x4_1) != 62) = true := bne_iff_ne.mpr c7
        by_cases c8 : (bt a0 x4_1) = 40
        case pos =>
          rw [if_pos c8] at H; have c8b0 : ((bt a0 x4_1) == 40) = true := beq_iff_eq.mpr c8; have c8b1 : ((bt a0 x4_1) != 40) = false := bne_eq_false_iff_eq.mpr c8; clear c8; have H' := Aside0.mk H; clear H
          go_wp2
          go_meet
          case rel => exact ⟨_, (((bt a0 x4_1) == 40)), (by first | rfl | (simp; done) | (simp [*]; done)), H', ⟨by have := HK1.out; first | omega | exact Nat.le_refl _⟩, by repeat (first | exact Drawn0.refl _ | apply Drawn0.step)⟩
        rw [if_neg c8] at H; have c8b0 : ((bt a0 x4_1) == 40) = false := beq_eq_false_iff_ne.mpr c8; have c8b1 : ((bt a0 x4_1) != 40) = true := bne_iff_ne.mpr c8
        by_cases c9 : (bt a0 x4_1) = 41
        case pos =>
          rw [if_pos c9] at H; have c9b0 : ((bt a0 x4_1) == 41) = true := beq_iff_eq.mpr c9; have c9b1 : ((bt a0 x4_1) != 41) = false := bne_eq_false_iff_eq.mpr c9; clear c9; have H' := Aside0.mk H; clear H
          go_wp2
          go_meet
          case rel => exact ⟨_, (((bt a0 x4_1) == 41)), (by first | rfl | (simp; done) | (simp [*]; done)), H', ⟨by have := HK1.out; first | omega | exact Nat.le_refl _⟩, by repeat (first | exact Drawn0.refl _ | apply Drawn0.step)⟩
        rw [if_neg c9] at H; have c9b0 : ((bt a0 x4_1) == 41) = false := beq_eq_false_iff_ne.mpr c9; have c9b1 : ((bt a0 x4_1) != 41) = true := bne_iff_ne.mpr c9
        by_cases c10 : (bt a0 x4_1) = 44
        case pos =>
          rw [if_pos c10] at H; have c10b0 : ((bt a0 x4_1) == 44) = true := beq_iff_eq.mpr c10; have c10b1 : ((bt a0 x4_1) != 44) = false := bne_eq_false_iff_eq.mpr c10; clear c10; have H' := Aside0.mk H; clear H
          go_wp2
          go_meet
          case rel => exact ⟨_, (((bt a0 x4_1) == 44)), (by first | rfl | (simp; done) | (simp [*]; done)), H', ⟨by have := HK1.out; first | omega | exact Nat.le_refl _⟩, by repeat (first | exact Drawn0.refl _ | apply Drawn0.step)⟩
        rw [if_neg c10] at H; have c10b0 : ((bt a0 x4_1) == 44) = false := beq_eq_false_iff_ne.mpr c10; have c10b1 : ((bt a0 x4_1) != 44) = true := bne_iff_ne.mpr c10
        by_cases c11 : (bt a0 x4_1) = 59
        case pos =>
          rw [if_pos c11] at H; have c11b0 : ((bt a0 x4_1) == 59) = true := beq_iff_eq.mpr c11; have c11b1 : ((bt a0 x4_1) != 59) = false := bne_eq_false_iff_eq.mpr c11; clear c11; have H' := Aside0.mk H; clear H
          go_wp2
          go_meet
          case rel => exact ⟨_, (((bt a0 x4_1) == 59)), (by first | rfl | (simp; done) | (simp [*]; done)), H', ⟨by have := HK1.out; first | omega | exact Nat.le_refl _⟩, by repeat (first | exact Drawn0.refl _ | apply Drawn0.step)⟩
        rw [if_neg c11] at H; have c11b0 : ((bt a0 x4_1) == 59) = false := beq_eq_false_iff_ne.mpr c11; have c11b1 : ((bt a0 x4_1) != 59) = true := bne_iff_ne.mpr c11
        by_cases c12 : (bt a0 x4_1) = 58
        case pos =>
          rw [if_pos c12] at H; have c12b0 : ((bt a0 x4_1) == 58) = true := beq_iff_eq.mpr c12; have c12b1 : ((bt a0 x4_1) != 58) = false := bne_eq_false_iff_eq.mpr c12; clear c12; have H' := Aside0.mk H; clear H
          go_wp2
          go_meet
          case rel => exact ⟨_, (((bt a0 x4_1) == 58)), (by first | rfl | (simp; done) | (simp [*]; done)), H', ⟨by have := HK1.out; first | omega | exact Nat.le_refl _⟩, by repeat (first | exact Drawn0.refl _ | apply Drawn0.step)⟩
        rw [if_neg c12] at H; have c12b0 : ((bt a0 x4_1) == 58) = false := beq_eq_false_iff_ne.mpr c12; have c12b1 : ((bt a0 x4_1) != 58) = true := bne_iff_ne.mpr c12
        by_cases c13 : (bt a0 x4_1) = 92
        case neg =>
          rw [if_neg c13] at H; have c13b0 : ((bt a0 x4_1) == 92) = false := beq_eq_false_iff_ne.mpr c13; have c13b1 : ((bt a0 x4_1) != 92) = true := bne_iff_ne.mpr c13; have H' := Aside0.mk H; clear H
          go_wp2
          go_meet
          case rel => exact ⟨_, (((bt a0 x4_1) == 34)), (by first | rfl | (simp; done) | (simp [*]; done)), H', ⟨by have := HK1.out; first | omega | exact Nat.le_refl _⟩, by repeat (first | exact Drawn0.refl _ | apply Drawn0.step)⟩
        rw [if_pos c13] at H; have c13b0 : ((bt a0 x4_1) == 92) = true := beq_iff_eq.mpr c13; have c13b1 : ((bt a0 x4_1) != 92) = false := bne_eq_false_iff_eq.mpr c13; clear c13; have H' := Aside0.mk H; clear H
        go_wp2
        go_meet
        case rel => exact ⟨_, (((bt a0 x4_1) == 92)), (by first | rfl | (simp; done) | (simp [*]; done)), H', ⟨by have := HK1.out; first | omega | exact Nat.le_refl _⟩, by repeat (first | exact Drawn0.refl _ | apply Drawn0.step)⟩
      case rest =>
        clear HC5; (try clear c1); (try clear c2); (try clear c2b0); (try clear p2); (try clear c3); (try clear c3b0); (try clear p4); (try clear q4); (try clear hx4); (try clear c6); (try clear c6b0); (try clear c6b1); (try clear c7); (try clear c7b0); (try clear c7b1); (try clear c8); (try clear c8b0); (try clear c8b1); (try clear c9); (try clear c9b0); (try clear c9b1); (try clear c10); (try clear c10b0); (try clear c10b1); (try clear c11); (try clear c11b0); (try clear c11b1); (try clear c12); (try clear c12b0); (try clear c12b1); (try clear c13); (try clear c13b0); (try clear c13b1); (try clear p4); (try clear q4); obtain ⟨kq, x14_4, rfl, HA, HJ4, ⟨mc4, rfl⟩⟩ := hcut
        cases kq with
        | zero => exact absurd HA.out (by simp [muslinref08_Good.j1])
        | succ kj4 =>
          have H := HA.out; clear HA; simp only [muslinref08_Good.j1] at H
          by_cases c14 : x14_4 = true
          case pos =>
            subst c14
            have H1 : (some false) = some r := by rw [if_pos rfl] at H; exact H
            clear H; have H := H1; clear H1; obtain rfl := Option.some.inj H
            go_wp2
            go_ret
            exact ⟨by first | rfl | (simp; done) | (simp [*]; done), by repeat (first | exact Drawn0.refl _ | apply Drawn0.step)⟩
          replace c14 := Bool.eq_false_iff.mpr c14; subst c14
          have H1 : (if (bt a0 x4_1) = 64 then (if x4_1 = 0 then (muslinref08_Good.j2 kj4 a0 (wrap64 (x3_1 + 1)) x4_1 true) else (muslinref08_Good.j2 kj4 a0 (wrap64 (x3_1 + 1)) x4_1 (x4_1 == (wrap64 ((a0.size : Int) - 1))))) else (if 0 ≤ x4_1 then (if x4_1 < (a0.size : Int) then (if (bt a0 x4_1) < 33 then (some false) else (if (bt a0 x4_1) > 126 then (some false) else (muslinref08_Good.l0 kj4 a0 x3_1 (wrap64 (x4_1 + 1))))) else (none)) else (none))) = some r := by rw [if_neg (show ¬ (false = true) by decide)] at H; exact H
          clear H; have H := H1; clear H1
          by_cases c15 : (bt a0 x4_1) = 64
          case neg =>
            rw [if_neg c15] at H; have c15b0 : ((bt a0 x4_1) == 64) = false := beq_eq_false_iff_ne.mpr c15; have c15b1 : ((bt a0 x4_1) != 64) = true := bne_iff_ne.mpr c15
            by_cases c25 : 0 ≤ x4_1
            case neg =>
              rw [if_neg c25] at H
              exact absurd H (by simp)
            rw [if_pos c25] at H; have c25b0 : decide (0 ≤ x4_1) = true := decide_eq_true c25; clear c25
            by_cases c26 : x4_1 < (a0.size : Int)
            case neg =>
              rw [if_neg c26] at H
              exact absurd H (by simp)
            rw [if_pos c26] at H; have c26b0 : decide (x4_1 < (a0.size : Int)) = true := decide_eq_true c26; clear c26
            by_cases c28 : (bt a0 x4_1) < 33
            case pos =>
              rw [if_pos c28] at H; have c28b0 : decide ((bt a0 x4_1) < 33) = true := decide_eq_true c28; clear c28; obtain rfl := Option.some.inj H; have p27 : 0 ≤ (x4_1 : Int) := of_decide_eq_true (by first | (with_reducible assumption) | assumption); have q27 : x4_1 < (a0.size : Int) := of_decide_eq_true (by first | (with_reducible assumption) | assumption); have hx27 := bt_at a0 x4_1; replace p27 := eq_true p27; replace q27 := eq_true q27
              go_wp2
              go_ret
              exact ⟨by first | rfl | (simp; done) | (simp [*]; done), by repeat (first | exact Drawn0.refl _ | apply Drawn0.step)⟩
            rw [if_neg c28] at H; have c28b0 : decide ((bt a0 x4_1) < 33) = false := decide_eq_false c28; clear c28
            by_cases c30 : (bt a0 x4_1) > 126
            case pos =>
              rw [if_pos c30] at H; have c30b0 : decide (126 < (bt a0 x4_1)) = true := decide_eq_true c30; clear c30; obtain rfl := Option.some.inj H; have p27 : 0 ≤ (x4_1 : Int) := of_decide_eq_true (by first | (with_reducible assumption) | assumption); have q27 : x4_1 < (a0.size : Int) := of_decide_eq_true (by first | (with_reducible assumption) | assumption); have hx27 := bt_at a0 x4_1; replace p27 := eq_true p27; replace q27 := eq_true q27; have p29 : 0 ≤ (x4_1 : Int) := of_decide_eq_true (by first | (with_reducible assumption) | assumption); have q29 : x4_1 < (a0.size : Int) := of_decide_eq_true (by first | (with_reducible assumption) | assumption); have hx29 := bt_at a0 x4_1; replace p29 := eq_true p29; replace q29 := eq_true q29
              go_wp2
              go_ret
              exact ⟨by first | rfl | (simp; done) | (simp [*]; done), by repeat (first | exact Drawn0.refl _ | apply Drawn0.step)⟩
            rw [if_neg c30] at H; have c30b0 : decide (126 < (bt a0 x4_1)) = false := decide_eq_false c30; clear c30; have H' := Aside0.mk H; clear H; have p27 : 0 ≤ (x4_1 : Int) := of_decide_eq_true (by first | (with_reducible assumption) | assumption); have q27 : x4_1 < (a0.size : Int) := of_decide_eq_true (by first | (with_reducible assumption) | assumption); have hx27 := bt_at a0 x4_1; replace p27 := eq_true p27; replace q27 := eq_true q27; have p29 : 0 ≤ (x4_1 : Int) := of_decide_eq_true (by first | (with_reducible assumption) | assumption); have q29 : x4_1 < (a0.size : Int) := of_decide_eq_true (by first | (with_reducible assumption) | assumption); have hx29 := bt_at a0 x4_1; replace p29 := eq_true p29; replace q29 := eq_true q29
            go_wp2
            go_roundg kj4
            case measure => have := HK1.out; have := HJ4.out; omega
            case rel => exact ⟨(x3_1), (wrap64 (x4_1 + 1)), (by first | rfl | (simp; done) | (simp [*]; done)), (by first | rfl | (simp; done) | (simp [*]; done)), H', ⟨by have := HK1.out; have := HJ4.out; omega⟩, by repeat (first | exact Drawn0.refl _ | apply Drawn0.step)⟩
          rw [if_pos c15] at H; have c15b0 : ((bt a0 x4_1) == 64) = true := beq_iff_eq.mpr c15; have c15b1 : ((bt a0 x4_1) != 64) = false := bne_eq_false_iff_eq.mpr c15; clear c15; have HC16 := Aside0.mk H; clear H
          go_upto_region 18 with (fail)
          go_cut [36] (fun v36 wc => ∃ (kq : Nat) (x36_15 : Bool), v36 = .bool x36_15 ∧ Aside0 (muslinref08_Good.j2 kq a0 (wrap64 (x3_1 + 1)) x4_1 x36_15 = some r) ∧ Aside0 (kq ≤ kj4) ∧ Drawn0 w wc)
          case first =>
            have H := HC16.out; clear HC16
            by_cases c17 : x4_1 = 0
            case pos =>
              rw [if_pos c17] at H; have c17b0 : (x4_1 == 0) = true := beq_iff_eq.mpr c17; have c17b1 : (x4_1 != 0) = false := bne_eq_false_iff_eq.mpr c17; clear c17
              (first | rw [c17b0] | (simp only [i64_w, i32_w]; rw [c17b0]) | skip)
              have H' := Aside0.mk H; clear H
              go_wp2
              go_meet
              case rel => exact ⟨_, (true), (by first | rfl | (simp; done) | (simp [*]; done)), H', ⟨by have := HK1.out; have := HJ4.out; first | omega | exact Nat.le_refl _⟩, by repeat (first | exact Drawn0.refl _ | apply Drawn0.step)⟩
            rw [if_neg c17] at H; have c17b0 : (x4_1 == 0) = false := beq_eq_false_iff_ne.mpr c17; have c17b1 : (x4_1 != 0) = true := bne_iff_ne.mpr c17
            (first | rw [c17b0] | (simp only [i64_w, i32_w]; rw [c17b0]) | skip)
            have H' := Aside0.mk H; clear H
            go_wp2
            go_meet
            case rel => exact ⟨_, ((x4_1 == (wrap64 ((a0.size : Int) - 1)))), (by first | rfl | (simp; done) | (simp [*]; done)), H', ⟨by have := HK1.out; have := HJ4.out; first | omega | exact Nat.le_refl _⟩, by repeat (first | exact Drawn0.refl _ | apply Drawn0.step)⟩
          case rest =>
            clear HC16; (try clear c1); (try clear c2); (try clear c2b0); (try clear p2); (try clear c3); (try clear c3b0); (try clear c4); (try clear p4); (try clear q4); (try clear hx4); (try clear c6); (try clear c6b0); (try clear c6b1); (try clear p6); (try clear c7); (try clear c7b0); (try clear c7b1); (try clear c8); (try clear c8b0); (try clear c8b1); (try clear c9); (try clear c9b0); (try clear c9b1); (try clear c10); (try clear c10b0); (try clear c10b1); (try clear c11); (try clear c11b0); (try clear c11b1); (try clear c12); (try clear c12b0); (try clear c12b1); (try clear c13); (try clear c13b0); (try clear c13b1); (try clear c14); (try clear c15); (try clear c15b0); (try clear c15b1); (try clear c17); (try clear c17b0); (try clear c17b1); (try clear p2); (try clear p4); (try clear q4); obtain ⟨kq, x36_15, rfl, HA, HJ15, ⟨mc15, rfl⟩⟩ := hcut
            cases kq with
            | zero => exact absurd HA.out (by simp [muslinref08_Good.j2])
            | succ kj15 =>
              have H := HA.out; clear HA; simp only [muslinref08_Good.j2] at H
              by_cases c18 : x36_15 = true
              case pos =>
                subst c18
                have H1 : (some false) = some r := by rw [if_pos rfl] at H; exact H
                clear H; have H := H1; clear H1; obtain rfl := Option.some.inj H
                go_wp2
                go_ret
                exact ⟨by first | rfl | (simp; done) | (simp [*]; done), by repeat (first | exact Drawn0.refl _ | apply Drawn0.step)⟩
              replace c18 := Bool.eq_false_iff.mpr c18; subst c18
              have H1 : (if 0 ≤ x4_1 then (if x4_1 < (a0.size : Int) then (if (bt a0 x4_1) < 33 then (some false) else (if (bt a0 x4_1) > 126 then (some false) else (muslinref08_Good.l0 kj15 a0 (wrap64 (x3_1 + 1)) (wrap64 (x4_1 + 1))))) else (none)) else (none)) = some r := by rw [if_neg (show ¬ (false = true) by decide)] at H; exact H
              clear H; have H := H1; clear H1
              by_cases c19 : 0 ≤ x4_1
              case neg =>
                rw [if_neg c19] at H
                exact absurd H (by simp)
              rw [if_pos c19] at H; have c19b0 : decide (0 ≤ x4_1) = true := decide_eq_true c19; clear c19
              by_cases c20 : x4_1 < (a0.size : Int)
              case neg =>
                rw [if_neg c20] at H
                exact absurd H (by simp)
              rw [if_pos c20] at H; have c20b0 : decide (x4_1 < (a0.size : Int)) = true := decide_eq_true c20; clear c20
              by_cases c22 : (bt a0 x4_1) < 33
              case pos =>
                rw [if_pos c22] at H; have c22b0 : decide ((bt a0 x4_1) < 33) = true := decide_eq_true c22; clear c22; obtain rfl := Option.some.inj H; have p21 : 0 ≤ (x4_1 : Int) := of_decide_eq_true (by first | (with_reducible assumption) | assumption); have q21 : x4_1 < (a0.size : Int) := of_decide_eq_true (by first | (with_reducible assumption) | assumption); have hx21 := bt_at a0 x4_1; replace p21 := eq_true p21; replace q21 := eq_true q21
                go_wp2
                go_ret
                exact ⟨by first | rfl | (simp; done) | (simp [*]; done), by repeat (first | exact Drawn0.refl _ | apply Drawn0.step)⟩
              rw [if_neg c22] at H; have c22b0 : decide ((bt a0 x4_1) < 33) = false := decide_eq_false c22; clear c22
              by_cases c24 : (bt a0 x4_1) > 126
              case pos =>
                rw [if_pos c24] at H; have c24b0 : decide (126 < (bt a0 x4_1)) = true := decide_eq_true c24; clear c24; obtain rfl := Option.some.inj H; have p21 : 0 ≤ (x4_1 : Int) := of_decide_eq_true (by first | (with_reducible assumption) | assumption); have q21 : x4_1 < (a0.size : Int) := of_decide_eq_true (by first | (with_reducible assumption) | assumption); have hx21 := bt_at a0 x4_1; replace p21 := eq_true p21; replace q21 := eq_true q21; have p23 : 0 ≤ (x4_1 : Int) := of_decide_eq_true (by first | (with_reducible assumption) | assumption); have q23 : x4_1 < (a0.size : Int) := of_decide_eq_true (by first | (with_reducible assumption) | assumption); have hx23 := bt_at a0 x4_1; replace p23 := eq_true p23; replace q23 := eq_true q23
                go_wp2
                go_ret
                exact ⟨by first | rfl | (simp; done) | (simp [*]; done), by repeat (first | exact Drawn0.refl _ | apply Drawn0.step)⟩
              rw [if_neg c24] at H; have c24b0 : decide (126 < (bt a0 x4_1)) = false := decide_eq_false c24; clear c24; have H' := Aside0.mk H; clear H; have p21 : 0 ≤ (x4_1 : Int) := of_decide_eq_true (by first | (with_reducible assumption) | assumption); have q21 : x4_1 < (a0.size : Int) := of_decide_eq_true (by first | (with_reducible assumption) | assumption); have hx21 := bt_at a0 x4_1; replace p21 := eq_true p21; replace q21 := eq_true q21; have p23 : 0 ≤ (x4_1 : Int) := of_decide_eq_true (by first | (with_reducible assumption) | assumption); have q23 : x4_1 < (a0.size : Int) := of_decide_eq_true (by first | (with_reducible assumption) | assumption); have hx23 := bt_at a0 x4_1; replace p23 := eq_true p23; replace q23 := eq_true q23
              go_wp2
              go_roundg kj15
              case measure => have := HK1.out; have := HJ4.out; have := HJ15.out; omega
              case rel => exact ⟨((wrap64 (x3_1 + 1))), (wrap64 (x4_1 + 1)), (by first | rfl | (simp; done) | (simp [*]; done)), (by first | rfl | (simp; done) | (simp [*]; done)), H', ⟨by have := HK1.out; have := HJ4.out; have := HJ15.out; omega⟩, by repeat (first | exact Drawn0.refl _ | apply Drawn0.step)⟩
end Go.Proofs.YtpcncpegbboljaaGreatDoor.G
namespace Go.Proofs.YtpcncpegbboljaaGreatDoor.Pure
open Go.RowKit Go.Lib Go.Proofs.YtpcncpegbboljaaGreatDoor Go.Proofs.YtpcncpegbboljaaGreatDoor.G Go.Proofs.YtpcncpegbboljaaGreatDoor.Addr Go.Proofs.YtpcncpegbboljaaGreatDoorW.PrintWords Go.Proofs.YtpcncpegbboljaaGreatDoorW.PrintLast Go.Proofs.YtpcncpegbboljaaGreatDoorW.PrintMore
set_option linter.unusedVariables false
set_option linter.unusedSimpArgs false
def badC (c : UInt8) : Bool := noB.data.toList.contains c
def gdG : Nat → Bool → List UInt8 → Bool
  | a, _, [] => a == 1
  | a, f, c :: r => if badC c = true then false else if c = 64 ∧ (f = true ∨ r = []) then false else if visC c = false then false else gdG (if c = 64 then a + 1 else a) false r
theorem gdG_is : ∀ (l : List UInt8) (a : Nat) (f : Bool), gdG a f l = (l.all (fun c => !badC c && visC c) && !(f && l.head? == some 64) && !(l.getLast? == some 64) && (a + l.count 64 == 1))
  | [], a, f => by cases f <;> simp [gdG]
  | c :: r, a, f => by
    have ih := gdG_is r (if c = 64 then a + 1 else a) false
    simp only [gdG]
    by_cases hb : badC c = true
    · rw [if_pos hb, List.all_cons, hb]; rfl
    · rw [if_neg hb]
      have hbf : badC c = false := Bool.eq_false_iff.2 hb
      by_cases hv : visC c = false
      · rw [List.all_cons, hbf, hv]
        by_cases h : c = 64 ∧ (f = true ∨ r = [])
        · rw [if_pos h]; rfl
        · rw [if_neg h, if_pos rfl]; rfl
      · have hvt : visC c = true := by simpa using hv
        by_cases h64 : c = 64
        · subst h64
          by_cases hf : f = true
          · rw [if_pos ⟨rfl, .inl hf⟩, hf]; simp
          · have hff : f = false := by simpa using hf
            by_cases hr : r = []
            · rw [if_pos ⟨rfl, .inr hr⟩, hr]; simp
            · rw [if_neg (by rintro ⟨_, h | h⟩; exact hf h; exact hr h), if_neg hv, ih, hff, List.all_cons, hbf, hvt, if_pos rfl]
              cases r with
              | nil => exact absurd rfl hr
              | cons d r =>
                have e : a + 1 + (d :: r).count 64 = a + (1 + (d :: r).count 64) := by omega
                have e2 : (64 :: d :: r).count 64 = 1 + (d :: r).count 64 := by rw [List.count_cons_self]; omega
                rw [e2, e]; simp [List.getLast?_cons_cons]
        · rw [if_neg (fun h => h64 h.1), if_neg hv, ih, List.all_cons, hbf, hvt, if_neg h64]
          have hc : (c :: r).count 64 = r.count 64 := List.count_cons_of_ne (fun h => h64 h)
          rw [hc]
          cases r with
          | nil => simp [h64]
          | cons d r =>
            have hcb : (c == 64) = false := by simpa using h64
            simp [List.getLast?_cons_cons, hcb]
theorem goodL_gd (l : List UInt8) : goodL l = gdG 0 true l := by
  rw [gdG_is]
  unfold goodL
  have hall : (!(l.any noB.data.toList.contains) && l.all visC) = l.all (fun c => !badC c && visC c) := by
    induction l with
    | nil => rfl
    | cons c r ih =>
      simp only [List.any_cons, List.all_cons]
      rw [← ih]
      show (!(badC c || _) && _) = _
      cases badC c <;> cases visC c <;> simp
  have hcut : ((cutL 64 l).2.2 && !(cutL 64 l).1.isEmpty && !(cutL 64 l).2.1.isEmpty && !(decide (0 ≤ indexByte (cutL 64 l).2.1 64))) = (!(l.head? == some 64) && !(l.getLast? == some 64) && (l.count 64 == 1)) := by
    by_cases hm : (64 : UInt8) ∈ l
    · obtain ⟨a, b, rfl, hna⟩ : ∃ a b, l = a ++ 64 :: b ∧ (64 : UInt8) ∉ a := List.eq_append_cons_of_mem hm
      rw [WordL.cut_at 64 a b hna]
      have hca : a.count 64 = 0 := List.count_eq_zero_of_not_mem hna
      simp only [List.count_append, List.count_cons_self, hca]
      have hidx : decide (0 ≤ indexByte b 64) = decide ((64 : UInt8) ∈ b) := by
        apply decide_eq_decide.2
        obtain ⟨i1, i2⟩ := index_split 64 b
        constructor
        · intro h
          by_cases hb : (64 : UInt8) ∈ b
          · exact hb
          · rw [i2 hb] at h; exact absurd h (by decide)
        · intro h
          obtain ⟨i, hi, _⟩ := i1 h
          omega
      rw [hidx]
      have hhead : ((a ++ 64 :: b).head? == some 64) = a.isEmpty := by
        cases a with
        | nil => rfl
        | cons x a =>
          have : x ≠ 64 := fun h => hna (by simp [h])
          simp [this]
      rw [hhead]
      by_cases hb : (64 : UInt8) ∈ b
      · have : 0 < b.count 64 := List.count_pos_iff.2 hb
        have h1 : (0 + (b.count 64 + 1) == 1) = false := beq_eq_false_iff_ne.2 (by omega)
        rw [h1, decide_eq_true hb]; simp
      · have h0 : b.count 64 = 0 := List.count_eq_zero_of_not_mem hb
        rw [h0, decide_eq_false hb]
        have hlast : ((a ++ 64 :: b).getLast? == some 64) = b.isEmpty := by
          cases b with
          | nil => rw [List.getLast?_append]; rfl
          | cons y b =>
            rw [List.getLast?_append, List.getLast?_cons_cons]
            have hne : (y :: b).getLast? ≠ some 64 := fun h => hb (List.mem_of_getLast? h)
            cases hh : (y :: b).getLast? with
            | none => simp at hh
            | some z =>
              rw [hh] at hne
              simp only [Option.some_or, List.isEmpty_cons]
              simpa using hne
        rw [hlast]; simp
    · have h0 : l.count 64 = 0 := List.count_eq_zero_of_not_mem hm
      have hc : (cutL 64 l).2.2 = false := by unfold cutL; rw [if_neg hm]
      rw [h0, hc]; simp
  rw [show l.all (fun c => !badC c && visC c) = (!(l.any noB.data.toList.contains) && l.all visC) from hall.symm]
  simp only [Bool.true_and, Nat.zero_add]
  have := hcut
  revert this
  generalize (!(l.any noB.data.toList.contains)) = x1
  generalize l.all visC = x2
  generalize (cutL 64 l).2.2 = y1
  generalize (!(cutL 64 l).1.isEmpty) = y2
  generalize (!(cutL 64 l).2.1.isEmpty) = y3
  generalize (!(decide (0 ≤ indexByte (cutL 64 l).2.1 64))) = y4
  generalize (!(l.head? == some 64)) = z1
  generalize (!(l.getLast? == some 64)) = z2
  generalize (l.count 64 == 1) = z3
  intro h
  rw [show (y1 && y2 && y3 && y4 && x1 && x2) = ((y1 && y2 && y3 && y4) && (x1 && x2)) from by cases y1 <;> cases y2 <;> cases y3 <;> cases y4 <;> simp, h]
  cases z1 <;> cases z2 <;> cases z3 <;> cases x1 <;> cases x2 <;> rfl
theorem bad_all : ∀ c : Fin 256, badC (UInt8.ofNat c.val) = decide (c.val = 60 ∨ c.val = 62 ∨ c.val = 40 ∨ c.val = 41 ∨ c.val = 44 ∨ c.val = 59 ∨ c.val = 58 ∨ c.val = 92 ∨ c.val = 34) := by decide +kernel
theorem bad_is (c : UInt8) : badC c = decide (c.toNat = 60 ∨ c.toNat = 62 ∨ c.toNat = 40 ∨ c.toNat = 41 ∨ c.toNat = 44 ∨ c.toNat = 59 ∨ c.toNat = 58 ∨ c.toNat = 92 ∨ c.toNat = 34) := by
  have := bad_all ⟨c.toNat, UInt8.toNat_lt c⟩
  simp only at this
  rw [show UInt8.ofNat c.toNat = c by simp] at this
  exact this
theorem good_loop (s : ByteArray) (hs : s.size ≤ 100000) : ∀ (n i a : Nat), s.size - i ≤ n → i ≤ s.size → a ≤ i →
    Ev (fun k => muslinref08_Good.l0 k s (a : Int) (i : Int)) (gdG a (decide (i = 0)) (s.data.toList.drop i)) := by
  have hl : s.data.toList.length = s.size := sizeL s
  have fin : ∀ (i a : Nat), s.size ≤ i → Ev (fun k => muslinref08_Good.l0 k s (a : Int) (i : Int)) (gdG a (decide (i = 0)) (s.data.toList.drop i)) := by
    intro i a h
    refine Ev.round (fun k => by rw [muslinref08_Good.l0]) ?_
    refine Ev.neg (by omega) ?_
    rw [List.drop_eq_nil_of_le (by omega)]
    have e : gdG a (decide (i = 0)) [] = ((a : Int) == 1) := by
      show (a == 1) = _
      rw [Bool.eq_iff_iff]; simp <;> omega
    rw [e]; exact Ev.now _
  intro n
  induction n with
  | zero => intro i a h1 h2 h3; exact fin i a (by omega)
  | succ n ih =>
    intro i a h1 h2 h3
    cases hd : s.data.toList.drop i with
    | nil => have := fin i a (at_end hd); rw [hd] at this; exact this
    | cons c r =>
      obtain ⟨hb, hlt, hr⟩ := at_drop hd
      have hc := UInt8.toNat_lt c
      have hz := congrArg List.length hd
      rw [List.length_drop, hl, List.length_cons] at hz
      have hw : wrap64 ((i : Int) + 1) = ((i + 1 : Nat) : Int) ∧ wrap64 ((a : Int) + 1) = ((a + 1 : Nat) : Int) ∧ wrap64 ((s.size : Int) - 1) = (s.size : Int) - 1 :=
        ⟨(w64 (by omega) (by omega)).trans (by omega), (w64 (by omega) (by omega)).trans (by omega), w64 (by omega) (by omega)⟩
      have HW := Lib.hid hw
      clear hw
      have hbad := bad_is c
      have hg : gdG a (decide (i = 0)) (c :: r) = if badC c = true then false else if c = 64 ∧ (decide (i = 0) = true ∨ r = []) then false else if visC c = false then false else gdG (if c = 64 then a + 1 else a) false r := by simp only [gdG]
      have next : ∀ a2 : Nat, a2 ≤ i + 1 → Ev (fun k => muslinref08_Good.l0 k s (a2 : Int) ((i + 1 : Nat) : Int)) (gdG a2 false r) := by
        intro a2 ha
        have := ih (i + 1) a2 (by omega) (by omega) ha
        rw [hr, decide_eq_false (by omega : ¬ i + 1 = 0)] at this
        exact this
      have vis : ∀ (a2 : Nat) (R : Bool), a2 ≤ i + 1 → R = (if visC c = false then false else gdG a2 false r) → Ev (fun k => if (bt s (i : Int)) < 33 then (some false) else (if (bt s (i : Int)) > 126 then (some false) else (muslinref08_Good.l0 k s (a2 : Int) ((i + 1 : Nat) : Int)))) R := by
        intro a2 R ha hR
        rw [hb]
        by_cases h33 : (c.toNat : Int) < 33
        · refine Ev.pos h33 ?_
          have : visC c = false := by unfold visC; exact decide_eq_false (by omega)
          rw [hR, if_pos this]; exact Ev.now _
        · refine Ev.neg h33 ?_
          by_cases h126 : (c.toNat : Int) > 126
          · refine Ev.pos h126 ?_
            have : visC c = false := by unfold visC; exact decide_eq_false (by omega)
            rw [hR, if_pos this]; exact Ev.now _
          · refine Ev.neg h126 ?_
            have : visC c = true := by unfold visC; exact decide_eq_true (by omega)
            rw [hR, this, if_neg (by decide)]
            exact next a2 ha
      have tail2 : ∀ (x : Bool), x = decide (i = 0 ∨ r = []) → c = 64 → badC c = false → Ev (fun k => muslinref08_Good.j2 k s ((a + 1 : Nat) : Int) (i : Int) x) (gdG a (decide (i = 0)) (c :: r)) := by
        intro x hx h64 hbf
        rw [hg, if_neg (by rw [hbf]; exact Bool.false_ne_true)]
        refine Ev.round (fun k => by rw [muslinref08_Good.j2]) ?_
        by_cases hxx : i = 0 ∨ r = []
        · rw [hx, decide_eq_true hxx, if_pos ⟨h64, hxx.imp (fun h => decide_eq_true h) id⟩]
          refine Ev.pos rfl ?_
          exact Ev.now _
        · rw [hx, decide_eq_false hxx, if_neg (by rintro ⟨_, h | h⟩; exact hxx (.inl (of_decide_eq_true h)); exact hxx (.inr h)), if_pos h64]
          refine Ev.neg Bool.false_ne_true ?_
          refine Ev.pos (by omega) ?_
          refine Ev.pos (by omega) ?_
          rw [HW.out.1]
          exact vis (a + 1) _ (by omega) rfl
      have tail1 : ∀ x : Bool, x = badC c → Ev (fun k => muslinref08_Good.j1 k s (a : Int) (i : Int) (bt s (i : Int)) x) (gdG a (decide (i = 0)) (c :: r)) := by
        intro x hx
        refine Ev.round (fun k => by rw [muslinref08_Good.j1]) ?_
        cases hbc : badC c with
        | true =>
          rw [hx, hbc, hg, if_pos hbc]
          refine Ev.pos rfl ?_
          exact Ev.now _
        | false =>
          rw [hx, hbc]
          refine Ev.neg Bool.false_ne_true ?_
          by_cases h64 : c = 64
          · refine Ev.pos (by rw [hb, h64]; rfl) ?_
            rw [HW.out.2.1, HW.out.2.2]
            by_cases hi0 : i = 0
            · refine Ev.pos (by omega) ?_
              exact tail2 true (by rw [decide_eq_true (.inl hi0)]) h64 hbc
            · refine Ev.neg (by omega) ?_
              refine tail2 _ ?_ h64 hbc
              by_cases hrn : r = []
              · rw [decide_eq_true (.inr hrn)]
                rw [hrn, List.length_nil] at hz
                exact beq_iff_eq.2 (by omega)
              · rw [decide_eq_false (by rintro (h | h); exact hi0 h; exact hrn h)]
                have := List.length_pos_iff.2 hrn
                exact beq_eq_false_iff_ne.2 (by omega)
          · refine Ev.neg (by rw [hb]; exact u8n (by decide) h64) ?_
            refine Ev.pos (by omega) ?_
            refine Ev.pos (by omega) ?_
            rw [HW.out.1, hg, if_neg (by rw [hbc]; exact Bool.false_ne_true), if_neg (fun h => h64 h.1), if_neg h64]
            exact vis a _ (by omega) rfl
      refine Ev.round (fun k => by rw [muslinref08_Good.l0]) ?_
      refine Ev.pos (by omega) ?_
      refine Ev.pos (by omega) ?_
      have hbx : ∀ m : Nat, ((bt s (i : Int)) == (m : Int)) = decide (c.toNat = m) := by
        intro m; rw [hb, Bool.eq_iff_iff]; simp; omega
      have fT : ∀ m : Nat, (bt s (i : Int)) = (m : Int) → badC c = true → Ev (fun k => muslinref08_Good.j1 k s (a : Int) (i : Int) (bt s (i : Int)) ((bt s (i : Int)) == (m : Int))) (gdG a (decide (i = 0)) (c :: r)) := by
        intro m hm hbt
        refine tail1 _ ?_
        rw [hbt]; exact beq_iff_eq.2 hm
      by_cases h1 : c.toNat = 60
      · refine Ev.pos (by omega) ?_
        exact fT 60 (by omega) (by rw [hbad]; exact decide_eq_true (by omega))
      refine Ev.neg (by omega) ?_
      by_cases h2 : c.toNat = 62
      · refine Ev.pos (by omega) ?_
        exact fT 62 (by omega) (by rw [hbad]; exact decide_eq_true (by omega))
      refine Ev.neg (by omega) ?_
      by_cases h3 : c.toNat = 40
      · refine Ev.pos (by omega) ?_
        exact fT 40 (by omega) (by rw [hbad]; exact decide_eq_true (by omega))
      refine Ev.neg (by omega) ?_
      by_cases h4 : c.toNat = 41
      · refine Ev.pos (by omega) ?_
        exact fT 41 (by omega) (by rw [hbad]; exact decide_eq_true (by omega))
      refine Ev.neg (by omega) ?_
      by_cases h5 : c.toNat = 44
      · refine Ev.pos (by omega) ?_
        exact fT 44 (by omega) (by rw [hbad]; exact decide_eq_true (by omega))
      refine Ev.neg (by omega) ?_
      by_cases h6 : c.toNat = 59
      · refine Ev.pos (by omega) ?_
        exact fT 59 (by omega) (by rw [hbad]; exact decide_eq_true (by omega))
      refine Ev.neg (by omega) ?_
      by_cases h7 : c.toNat = 58
      · refine Ev.pos (by omega) ?_
        exact fT 58 (by omega) (by rw [hbad]; exact decide_eq_true (by omega))
      refine Ev.neg (by omega) ?_
      by_cases h8 : c.toNat = 92
      · refine Ev.pos (by omega) ?_
        exact fT 92 (by omega) (by rw [hbad]; exact decide_eq_true (by omega))
      refine Ev.neg (by omega) ?_
      refine tail1 _ ?_
      rw [hbad]
      exact (hbx 34).trans (decide_eq_decide.2 (by omega))
theorem good8_is (s : ByteArray) (hs : s.size ≤ 100000) : Ev (fun k => muslinref08_Good.f k s) (goodL s.data.toList) := by
  unfold muslinref08_Good.f
  have := good_loop s hs s.size 0 0 (by omega) (by omega) (by omega)
  rw [List.drop_zero, show decide (0 = 0) = true from rfl, ← goodL_gd] at this
  exact this
theorem refGood_c (s : ByteArray) (hs : s.size ≤ 100000) (w : World) : Calls Tryz.prog 14 #[.string s] w fun e w' => e = .returned (.bool (goodL s.data.toList)) ∧ ∃ n, w' = w.drewN n := by
  obtain ⟨k, h⟩ := good8_is s hs
  exact (G.muslinref08_Good.calls k s _ w (h k (Nat.le_refl _))).mono (by rintro e w' ⟨rfl, n, rfl⟩; exact ⟨rfl, n, rfl⟩)
end Go.Proofs.YtpcncpegbboljaaGreatDoor.Pure
namespace Go.Proofs.YtpcncpegbboljaaGreatDoor.R
open Go.RowKit Go.Proofs.YtpcncpegbboljaaGreatDoorW.PrintWords Go.Proofs.YtpcncpegbboljaaGreatDoorW.PrintLast Go.Proofs.YtpcncpegbboljaaGreatDoorW.PrintMore
attribute [local go_sem] max2_int min2_int max_two min_two max_three min_three max_four min_four
set_option linter.unusedVariables false
set_option linter.unusedSimpArgs false
def errW : Option Int → Value
  | none => .nilIface
  | some c => .iface 0 (.int .i64 c)
theorem errW_none : errW none = .nilIface := rfl
theorem errW_some (c : Int) : errW (some c) = .iface 0 (.int .i64 c) := rfl
theorem info5 : (Tryz.prog.info? 5).map (fun i => (i.zero, i.size, i.bytes)) = some (some (.int .u8 0), 1, 1) := by kernel_rfl
end Go.Proofs.YtpcncpegbboljaaGreatDoor.R
namespace Go.Proofs.YtpcncpegbboljaaGreatDoor.R
open Go.RowKit Go.Proofs.YtpcncpegbboljaaGreatDoorW.PrintWords Go.Proofs.YtpcncpegbboljaaGreatDoorW.PrintLast Go.Proofs.YtpcncpegbboljaaGreatDoorW.PrintMore
attribute [local go_sem] max2_int min2_int max_two min_two max_three min_three max_four min_four
set_option linter.unusedVariables false
set_option linter.unusedSimpArgs false
def muslinref01_bit.f (a0 : ByteArray) (a1 : Int) : Option (Int) := if (wrap64 (Int.tdiv a1 8)) ≥ (a0.size : Int) then (some 0) else (if 0 ≤ (wrap64 (Int.tdiv a1 8)) then (if (wrap64 (Int.tdiv a1 8)) < (a0.size : Int) then (if 0 ≤ (IntKind.u64.wrap (wrap64 (7 - (Int.tmod a1 8)))) then (some (Int.tmod (shr .i64 (wrap64 (bt a0 (wrap64 (Int.tdiv a1 8)))) (IntKind.u64.wrap (wrap64 (7 - (Int.tmod a1 8))))) 2)) else (none)) else (none)) else (none))
set_option maxHeartbeats 8000000 in
set_option maxRecDepth 100000 in
theorem muslinref01_bit.calls (a0 : ByteArray) (a1 : Int) (r : Int) (w : World) (h : muslinref01_bit.f a0 a1 = some r) :
    Calls Tryz.prog 93 #[.string a0, .int .i64 a1] w fun e w' => e = .returned (.int .i64 r) ∧ Drawn0 w w' := by
  have H : (if (wrap64 (Int.tdiv a1 8)) ≥ (a0.size : Int) then (some 0) else (if 0 ≤ (wrap64 (Int.tdiv a1 8)) then (if (wrap64 (Int.tdiv a1 8)) < (a0.size : Int) then (if 0 ≤ (IntKind.u64.wrap (wrap64 (7 - (Int.tmod a1 8)))) then (some (Int.tmod (shr .i64 (wrap64 (bt a0 (wrap64 (Int.tdiv a1 8)))) (IntKind.u64.wrap (wrap64 (7 - (Int.tmod a1 8))))) 2)) else (none)) else (none)) else (none))) = some r := h; clear h
  by_cases c3 : (wrap64 (Int.tdiv a1 8)) ≥ (a0.size : Int)
  case pos =>
    rw [if_pos c3] at H; have c3b0 : decide ((a0.size : Int) ≤ (wrap64 (Int.tdiv a1 8))) = true := decide_eq_true c3; clear c3; obtain rfl := Option.some.inj H
    go_enter Tryz.func93, Tryz.ntmps93
    go_wp2
    go_ret
    exact ⟨by first | rfl | (simp; done) | (simp [*]; done), by repeat (first | exact Drawn0.refl _ | apply Drawn0.step)⟩
  rw [if_neg c3] at H; have c3b0 : decide ((a0.size : Int) ≤ (wrap64 (Int.tdiv a1 8))) = false := decide_eq_false c3; clear c3; obtain ⟨ji4, hji4⟩ : ∃ j_ : Int, (wrap64 (Int.tdiv a1 8)) = j_ := ⟨_, rfl⟩
  replace H : (if 0 ≤ (ji4) then (if (ji4) < (a0.size : Int) then (if 0 ≤ (IntKind.u64.wrap (wrap64 (7 - (Int.tmod a1 8)))) then (some (Int.tmod (shr .i64 (wrap64 (bt a0 (ji4))) (IntKind.u64.wrap (wrap64 (7 - (Int.tmod a1 8))))) 2)) else (none)) else (none)) else (none)) = some r := by first | (rw [hji4] at H; exact H) | (simp only [hji4] at H ⊢; exact H)
  (try rw [hji4] at c3b0)
  have hji4w : (IntKind.i64.wrap (Int.tdiv a1 8)) = ji4 := (i64_w _).trans hji4
  by_cases c5 : 0 ≤ (ji4)
  case neg =>
    rw [if_neg c5] at H
    exact absurd H (by simp)
  rw [if_pos c5] at H; have c5b0 : decide (0 ≤ (ji4)) = true := decide_eq_true c5; clear c5
  by_cases c6 : (ji4) < (a0.size : Int)
  case neg =>
    rw [if_neg c6] at H
    exact absurd H (by simp)
  rw [if_pos c6] at H; have c6b0 : decide ((ji4) < (a0.size : Int)) = true := decide_eq_true c6; clear c6; obtain ⟨ji8, hji8⟩ : ∃ j_ : Int, (IntKind.u64.wrap (wrap64 (7 - (Int.tmod a1 8)))) = j_ := ⟨_, rfl⟩
  replace H : (if 0 ≤ (ji8) then (some (Int.tmod (shr .i64 (wrap64 (bt a0 (ji4))) (ji8)) 2)) else (none)) = some r := by first | (rw [hji8] at H; exact H) | (simp only [hji8] at H ⊢; exact H)
  by_cases c9 : 0 ≤ (ji8)
  case neg =>
    rw [if_neg c9] at H
    exact absurd H (by simp)
  rw [if_pos c9] at H; have c9b0 := eq_true c9; have c9b1 : decide (0 ≤ (ji8)) = true := decide_eq_true c9; clear c9; obtain ⟨ji10, hji10⟩ : ∃ j_ : Int, (shr .i64 (wrap64 (bt a0 (ji4))) (ji8)) = j_ := ⟨_, rfl⟩
  replace H : (some (Int.tmod (ji10) 2)) = some r := by first | (rw [hji10] at H; exact H) | (simp only [hji10] at H ⊢; exact H)
  have hji10_ : ((wrap64 (bt a0 (ji4))) / 2 ^ min (ji8).toNat 64) = ji10 := hji10; have hji10z : (ji8) ≤ 64 → ((wrap64 (bt a0 (ji4))) / 2 ^ (ji8).toNat) = ji10 := shr_small hji10; obtain rfl := Option.some.inj H; have p7 : 0 ≤ ((ji4) : Int) := of_decide_eq_true (by first | (with_reducible assumption) | assumption); have q7 : (ji4) < (a0.size : Int) := of_decide_eq_true (by first | (with_reducible assumption) | assumption); have hx7 := bt_at a0 (ji4); replace p7 := eq_true p7; replace q7 := eq_true q7
  go_enter Tryz.func93, Tryz.ntmps93
  go_wp2
  go_ret
  exact ⟨by first | rfl | (simp; done) | (simp only [← hji4, ← hji8, ← hji10] <;> (first | rfl | (simp; done) | (simp; simp only [hji4, hji8, hji10]; exact beq_iff_eq.1 (by assumption)))) | (simp [*]; done), by repeat (first | exact Drawn0.refl _ | apply Drawn0.step)⟩
mutual
def muslinref01_Encode.l0 : Nat → ByteArray → List Int → Int → Option (ByteArray)
  | 0, _, _, _ => none
  | k + 1, x0, x3, x4 => if x4 < (wrap64 (8 * (x0.size : Int))) then (muslinref01_Encode.l1 k x0 x3 x4 0 0) else (muslinref01_Encode.l2 k x3)
def muslinref01_Encode.l1 : Nat → ByteArray → List Int → Int → Int → Int → Option (ByteArray)
  | 0, _, _, _, _, _ => none
  | k + 1, x0, x3, x4, x5, x6 => if x6 < 6 then ((muslinref01_bit.f x0 (wrap64 (x4 + x6))).bind fun t101 => (muslinref01_Encode.l1 k x0 x3 x4 (wrap64 ((wrap64 (2 * x5)) + t101)) (wrap64 (x6 + 1)))) else (if 0 ≤ x5 then (if x5 < 64 then (if x3.length < 140737488355328 then (muslinref01_Encode.l0 k x0 (x3 ++ [bt (⟨#[65, 66, 67, 68, 69, 70, 71, 72, 73, 74, 75, 76, 77, 78, 79, 80, 81, 82, 83, 84, 85, 86, 87, 88, 89, 90, 97, 98, 99, 100, 101, 102, 103, 104, 105, 106, 107, 108, 109, 110, 111, 112, 113, 114, 115, 116, 117, 118, 119, 120, 121, 122, 48, 49, 50, 51, 52, 53, 54, 55, 56, 57, 43, 47]⟩ : ByteArray) x5]) (wrap64 (x4 + 6))) else (none)) else (none)) else (none))
def muslinref01_Encode.l2 : Nat → List Int → Option (ByteArray)
  | 0, _ => none
  | k + 1, x3 => if ((x3.length : Int) % 4) = 0 then (some (strOfNums x3)) else (if x3.length < 140737488355328 then (muslinref01_Encode.l2 k (x3 ++ [61])) else (none))
end
def muslinref01_Encode.f (k : Nat) (a0 : ByteArray) : Option (ByteArray) := muslinref01_Encode.l0 k a0 ([] : List Int) 0
set_option maxHeartbeats 8000000 in
set_option maxRecDepth 100000 in
theorem muslinref01_Encode.calls (k : Nat) (a0 : ByteArray) (r : ByteArray) (w : World) (h : muslinref01_Encode.f k a0 = some r) :
    Calls Tryz.prog 63 #[.string a0] w fun e w' => e = .returned (.string r) ∧ Below w.heap.size w w' := by
  have HB := Aside0.mk (Below.refl w.heap.size w); have H : (muslinref01_Encode.l0 k a0 ([] : List Int) 0) = some r := h; clear h; have H' := Aside0.mk H; clear H
  go_enter Tryz.func63, Tryz.ntmps63
  go_wp2
  go_loopg [3, 4] k (fun kq v3 v4 w' => ∃ (x3_1 : List Int) (x4_1 : Int), v4 = .int .i64 x4_1 ∧ Aside0 (muslinref01_Encode.l0 kq a0 x3_1 x4_1 = some r) ∧ Aside0 (kq ≤ k) ∧ Aside0 (Kd.R (Kd.int .u8) 5 w' w.heap.size (fun _ => True) v3 x3_1) ∧ Aside0 (Below w.heap.size w w'))
  case atStart => exact ⟨(([] : List Int)), (0), (by first | rfl | (simp; done) | (simp [*]; done)), H', ⟨Nat.le_refl _⟩, ⟨by first | exact Kd.R_nil _ _ _ _ _ | exact Kd.N_nil _ _ _ _ _ | exact Kd.V_nil _ _ _ _ _ | exact Kd.Q_nil _ _ _ _ _ | exact Kd.S_nil _ _ _ _ _⟩, ⟨by repeat (first | (with_reducible first | exact HB.out | apply below_alloc | apply pw_below_drewN | apply below_drew1) | exact HB.out)⟩⟩
  case round =>
    clear H'; obtain ⟨x3_1, x4_1, rfl, HA, HK1, HO_3, HB⟩ := hrel
    cases gk with
    | zero => exact absurd HA.out (by simp [muslinref01_Encode.l0])
    | succ k1 =>
      have H := HA.out; clear HA; simp only [muslinref01_Encode.l0] at H
      by_cases c2 : x4_1 < (wrap64 (8 * (a0.size : Int)))
      case neg =>
        rw [if_neg c2] at H; have c2b0 : decide (x4_1 < (wrap64 (8 * (a0.size : Int)))) = false := decide_eq_false c2; clear c2; have H' := Aside0.mk H; clear H
        go_wp2
        go_loopg [3] k1 (fun kq v3 w' => ∃ (x3_2 : List Int), Aside0 (muslinref01_Encode.l2 kq x3_2 = some r) ∧ Aside0 (kq ≤ k1) ∧ Aside0 (Kd.R (Kd.int .u8) 5 w' w.heap.size (fun _ => True) v3 x3_2) ∧ Aside0 (Below w.heap.size w w'))
        case atStart => exact ⟨(x3_1), H', ⟨Nat.le_refl _⟩, ⟨by (with_reducible repeat (first | apply Kd.R_alloc | apply Kd.R_drewN | apply Kd.R_drew)); exact HO_3.out⟩, ⟨by repeat (first | (with_reducible first | exact HB.out | apply below_alloc | apply pw_below_drewN | apply below_drew1) | exact HB.out)⟩⟩
        case round =>
          clear H'; (try clear c2); (try clear c2b0); (try clear p2); (try clear c3); (try clear c3b0); (try clear c5); (try clear c5b0); (try clear c6); (try clear c6b0); (try clear p6); (try clear p7); (try clear q7); (try clear hx7); (try clear c8); (try clear c9); (try clear p2); (try clear p7); (try clear q7); obtain ⟨x3_2, HA, HK2, HO_3, HB⟩ := hrel
          cases gk with
          | zero => exact absurd HA.out (by simp [muslinref01_Encode.l2])
          | succ k2 =>
            have H := HA.out; clear HA; simp only [muslinref01_Encode.l2] at H
            by_cases c10 : ((x3_2.length : Int) % 4) = 0
            case pos =>
              rw [if_pos c10] at H; have c10b0 : (((x3_2.length : Int) % 4) == 0) = true := beq_iff_eq.mpr c10; have c10b1 : (((x3_2.length : Int) % 4) != 0) = false := bne_eq_false_iff_eq.mpr c10; clear c10; obtain rfl := Option.some.inj H; obtain ⟨Ao11, co11, eo11⟩ := Kd.R_slice HO_3.out; subst eo11; have hcv12 := own_string (P := Tryz.prog) Tryz.underlying45 Tryz.underlying5 Tryz.underlying9 (Kd.own_of_R HO_3.out)
              go_wp2
              go_ret
              exact ⟨by first | rfl | (simp [errW_none, errW_some] <;> rfl) | (simp [*, errW_none, errW_some] <;> rfl), by repeat (first | (with_reducible first | exact HB.out | apply below_alloc | apply pw_below_drewN | apply below_drew1) | exact HB.out)⟩
            rw [if_neg c10] at H; have c10b0 : (((x3_2.length : Int) % 4) == 0) = false := beq_eq_false_iff_ne.mpr c10; have c10b1 : (((x3_2.length : Int) % 4) != 0) = true := bne_iff_ne.mpr c10
            by_cases c13 : x3_2.length < 140737488355328
            case neg =>
              rw [if_neg c13] at H
              exact absurd H (by simp)
            rw [if_pos c13] at H; have LMc13 := Aside0.mk c13; clear c13; obtain ⟨y105, hy105⟩ : ∃ y_ : List Int, y_ = (x3_2 ++ [61]) := ⟨_, rfl⟩
            replace H : (muslinref01_Encode.l2 k2 y105) = some r := by first | (rw [hy105]; with_reducible exact H) | (have H2_ := (Option.bind_some _ _).symm.trans H; rw [hy105]; with_reducible exact H2_) | (have H2_ := (Option.bind_some _ _).symm.trans H; with_reducible exact H2_) | with_reducible exact H | (rw [hy105]; exact H) | exact H
            have Ny105 := Aside0.mk hy105; clear hy105; have H' := Aside0.mk H; clear H; obtain ⟨Ao14, co14, eo14⟩ := Kd.R_slice HO_3.out; subst eo14; go_wp2_with (first | ((with_reducible refine gate_builtin (b := .append) (xs := #[.tmp 35, .tmp 36]) rfl ?_); at_builtin; refine Kd.R_append (Kd.int .u8) (w0 := w) w.heap.size rfl (.tmp 35) (.tmp 36) 45 5 (.int .u8 0) 1 rfl Tryz.underlying45 info5 rfl (by decide) (by omega) (.slice Ao14 x3_2.length co14) x3_2 61 [.int .u8 61] (fun _ => True) (fun _ => False) rfl rfl ?aP (fun _ hk => hk.elim) ?aF ?aO ?aB ?aS ?aL ?_; (case aP => exact rfl); (case aB => exact (by repeat (first | (with_reducible first | exact HB.out | apply below_alloc | apply pw_below_drewN | apply below_drew1) | exact HB.out))); (case aF => exact (fun _ _ => trivial)); (case aO => exact (by (with_reducible repeat (first | apply Kd.R_alloc | apply Kd.R_drewN | apply Kd.R_drew)); exact HO_3.out)); (case aS => exact (below_size (by repeat (first | (with_reducible first | exact HB.out | apply below_alloc | apply pw_below_drewN | apply below_drew1) | exact HB.out)))); (case aL => have := LMc13.out; first | omega | exact Nat.le_of_lt this); intro v106 w15 ho hb hg hat; rw [← Ny105.out] at ho; have n0_ := Aside0.mk (hb); have n1_ := Aside0.mk (ho); clear HB; clear HO_3; have HB := n0_; have HO107 := n1_; clear n0_ n1_; clear ho hb hg hat))
            go_roundg k2
            case measure => have := HK1.out; have := HK2.out; omega
            case rel => exact ⟨(y105), H', ⟨by have := HK1.out; have := HK2.out; omega⟩, ⟨by (with_reducible repeat (first | apply Kd.R_alloc | apply Kd.R_drewN | apply Kd.R_drew)); exact HO107.out⟩, ⟨by repeat (first | (with_reducible first | exact HB.out | apply below_alloc | apply pw_below_drewN | apply below_drew1) | exact HB.out)⟩⟩
      rw [if_pos c2] at H; have c2b0 : decide (x4_1 < (wrap64 (8 * (a0.size : Int)))) = true := decide_eq_true c2; clear c2; have H' := Aside0.mk H; clear H
      go_wp2
      go_loopg [5, 6] k1 (fun kq v5 v6 w' => ∃ (x5_2 : Int) (x6_2 : Int), v5 = .int .i64 x5_2 ∧ v6 = .int .i64 x6_2 ∧ Aside0 (muslinref01_Encode.l1 kq a0 x3_1 x4_1 x5_2 x6_2 = some r) ∧ Aside0 (kq ≤ k1) ∧ Aside0 (Kd.R (Kd.int .u8) 5 w' w.heap.size (fun _ => True) u3 x3_1) ∧ Aside0 (Below w.heap.size w w'))
      case atStart => exact ⟨(0), (0), (by first | rfl | (simp; done) | (simp [*]; done)), (by first | rfl | (simp; done) | (simp [*]; done)), H', ⟨Nat.le_refl _⟩, ⟨by (with_reducible repeat (first | apply Kd.R_alloc | apply Kd.R_drewN | apply Kd.R_drew)); exact HO_3.out⟩, ⟨by repeat (first | (with_reducible first | exact HB.out | apply below_alloc | apply pw_below_drewN | apply below_drew1) | exact HB.out)⟩⟩
      case round =>
        clear H'; (try clear c2); (try clear c2b0); (try clear p2); obtain ⟨x5_2, x6_2, rfl, rfl, HA, HK2, HO_3, HB⟩ := hrel
        cases gk with
        | zero => exact absurd HA.out (by simp [muslinref01_Encode.l1])
        | succ k2 =>
          have H := HA.out; clear HA; simp only [muslinref01_Encode.l1] at H
          by_cases c3 : x6_2 < 6
          case pos =>
            rw [if_pos c3] at H; have c3b0 : decide (x6_2 < 6) = true := decide_eq_true c3; clear c3; replace H := Option.bind_eq_some_iff.mp H; obtain ⟨t101, A40, H⟩ := H; replace H : (muslinref01_Encode.l1 k2 a0 x3_1 x4_1 (wrap64 ((wrap64 (2 * x5_2)) + t101)) (wrap64 (x6_2 + 1))) = some r := H; have A4 := Aside0.mk A40; clear A40; have H' := Aside0.mk H; clear H; go_wp2_with (first | ((with_reducible refine gate_callee (f := 93) rfl ?_); refine goesL_ (some 24) rfl rfl Tryz.func93 (by kernel_rfl) rfl #[.string a0, .int .i64 (wrap64 (x4_1 + x6_2))] rfl (by (try simp only [List.map_toArray, List.map_cons, List.map_nil]); first | done | rfl | (simp only [List.length_drop, List.length_take]; rfl)) ?_; (with_reducible refine (muslinref01_bit.calls a0 (wrap64 (x4_1 + x6_2)) t101 _ A4.out).mono ?_); rintro e w' ⟨rfl, ⟨nd, rfl⟩⟩; refine ⟨_, rfl, ?_⟩))
            go_roundg k2
            case measure => have := HK1.out; have := HK2.out; omega
            case rel => exact ⟨(wrap64 ((wrap64 (2 * x5_2)) + t101)), (wrap64 (x6_2 + 1)), (by first | rfl | (simp; done) | (simp [*]; done)), (by first | rfl | (simp; done) | (simp [*]; done)), H', ⟨by have := HK1.out; have := HK2.out; omega⟩, ⟨by (with_reducible repeat (first | apply Kd.R_alloc | apply Kd.R_drewN | apply Kd.R_drew)); exact HO_3.out⟩, ⟨by repeat (first | (with_reducible first | exact HB.out | apply below_alloc | apply pw_below_drewN | apply below_drew1) | exact HB.out)⟩⟩
          rw [if_neg c3] at H; have c3b0 : decide (x6_2 < 6) = false := decide_eq_false c3; clear c3
          by_cases c5 : 0 ≤ x5_2
          case neg =>
            rw [if_neg c5] at H
            exact absurd H (by simp)
          rw [if_pos c5] at H; have c5b0 : decide (0 ≤ x5_2) = true := decide_eq_true c5; clear c5
          by_cases c6 : x5_2 < 64
          case neg =>
            rw [if_neg c6] at H
            exact absurd H (by simp)
          rw [if_pos c6] at H; have c6b0 : decide (x5_2 < 64) = true := decide_eq_true c6; clear c6
          by_cases c8 : x3_1.length < 140737488355328
          case neg =>
            rw [if_neg c8] at H
            exact absurd H (by simp)
          rw [if_pos c8] at H; have LMc8 := Aside0.mk c8; clear c8; obtain ⟨y102, hy102⟩ : ∃ y_ : List Int, y_ = (x3_1 ++ [bt (⟨#[65, 66, 67, 68, 69, 70, 71, 72, 73, 74, 75, 76, 77, 78, 79, 80, 81, 82, 83, 84, 85, 86, 87, 88, 89, 90, 97, 98, 99, 100, 101, 102, 103, 104, 105, 106, 107, 108, 109, 110, 111, 112, 113, 114, 115, 116, 117, 118, 119, 120, 121, 122, 48, 49, 50, 51, 52, 53, 54, 55, 56, 57, 43, 47]⟩ : ByteArray) x5_2]) := ⟨_, rfl⟩
          replace H : (muslinref01_Encode.l0 k2 a0 y102 (wrap64 (x4_1 + 6))) = some r := by first | (rw [hy102]; with_reducible exact H) | (have H2_ := (Option.bind_some _ _).symm.trans H; rw [hy102]; with_reducible exact H2_) | (have H2_ := (Option.bind_some _ _).symm.trans H; with_reducible exact H2_) | with_reducible exact H | (rw [hy102]; exact H) | exact H
          have Ny102 := Aside0.mk hy102; clear hy102; have H' := Aside0.mk H; clear H; have p7 : 0 ≤ (x5_2 : Int) := of_decide_eq_true (by first | (with_reducible assumption) | assumption); have q7 : x5_2 < (64 : Int) := of_decide_eq_true (by first | (with_reducible assumption) | assumption); have hx7 := bt_at (⟨#[65, 66, 67, 68, 69, 70, 71, 72, 73, 74, 75, 76, 77, 78, 79, 80, 81, 82, 83, 84, 85, 86, 87, 88, 89, 90, 97, 98, 99, 100, 101, 102, 103, 104, 105, 106, 107, 108, 109, 110, 111, 112, 113, 114, 115, 116, 117, 118, 119, 120, 121, 122, 48, 49, 50, 51, 52, 53, 54, 55, 56, 57, 43, 47]⟩ : ByteArray) x5_2; replace p7 := eq_true p7; replace q7 := eq_true q7; go_wp2_with (first | ((with_reducible refine gate_builtin (b := .append) (xs := #[.tmp 26, .tmp 29]) rfl ?_); at_builtin; refine Kd.R_append (Kd.int .u8) (w0 := w) w.heap.size rfl (.tmp 26) (.tmp 29) 45 5 (.int .u8 0) 1 rfl Tryz.underlying45 info5 rfl (by decide) (by omega) u3 x3_1 (bt (⟨#[65, 66, 67, 68, 69, 70, 71, 72, 73, 74, 75, 76, 77, 78, 79, 80, 81, 82, 83, 84, 85, 86, 87, 88, 89, 90, 97, 98, 99, 100, 101, 102, 103, 104, 105, 106, 107, 108, 109, 110, 111, 112, 113, 114, 115, 116, 117, 118, 119, 120, 121, 122, 48, 49, 50, 51, 52, 53, 54, 55, 56, 57, 43, 47]⟩ : ByteArray) x5_2) [.int .u8 (bt (⟨#[65, 66, 67, 68, 69, 70, 71, 72, 73, 74, 75, 76, 77, 78, 79, 80, 81, 82, 83, 84, 85, 86, 87, 88, 89, 90, 97, 98, 99, 100, 101, 102, 103, 104, 105, 106, 107, 108, 109, 110, 111, 112, 113, 114, 115, 116, 117, 118, 119, 120, 121, 122, 48, 49, 50, 51, 52, 53, 54, 55, 56, 57, 43, 47]⟩ : ByteArray) x5_2)] (fun _ => True) (fun _ => False) rfl rfl ?aP (fun _ hk => hk.elim) ?aF ?aO ?aB ?aS ?aL ?_; (case aP => exact rfl); (case aB => exact (by repeat (first | (with_reducible first | exact HB.out | apply below_alloc | apply pw_below_drewN | apply below_drew1) | exact HB.out))); (case aF => exact (fun _ _ => trivial)); (case aO => exact (by (with_reducible repeat (first | apply Kd.R_alloc | apply Kd.R_drewN | apply Kd.R_drew)); exact HO_3.out)); (case aS => exact (below_size (by repeat (first | (with_reducible first | exact HB.out | apply below_alloc | apply pw_below_drewN | apply below_drew1) | exact HB.out)))); (case aL => have := LMc8.out; first | omega | exact Nat.le_of_lt this); intro v103 w9 ho hb hg hat; rw [← Ny102.out] at ho; have n0_ := Aside0.mk (hb); have n1_ := Aside0.mk (ho); clear HB; clear HO_3; have HB := n0_; have HO104 := n1_; clear n0_ n1_; clear ho hb hg hat))
          go_roundg k2
          case measure => have := HK1.out; have := HK2.out; omega
          case rel => exact ⟨(y102), (wrap64 (x4_1 + 6)), (by first | rfl | (simp; done) | (simp [*]; done)), H', ⟨by have := HK1.out; have := HK2.out; omega⟩, ⟨by (with_reducible repeat (first | apply Kd.R_alloc | apply Kd.R_drewN | apply Kd.R_drew)); exact HO104.out⟩, ⟨by repeat (first | (with_reducible first | exact HB.out | apply below_alloc | apply pw_below_drewN | apply below_drew1) | exact HB.out)⟩⟩
end Go.Proofs.YtpcncpegbboljaaGreatDoor.R
namespace Go.Proofs.YtpcncpegbboljaaGreatDoor.Pure
open Go.RowKit Go.Lib Go.Proofs.YtpcncpegbboljaaGreatDoor Go.Proofs.YtpcncpegbboljaaGreatDoor.R Go.Proofs.YtpcncpegbboljaaGreatDoorW.PrintWords Go.Proofs.YtpcncpegbboljaaGreatDoorW.PrintLast Go.Proofs.YtpcncpegbboljaaGreatDoorW.PrintMore
set_option linter.unusedVariables false
set_option linter.unusedSimpArgs false
def bitV (l : List UInt8) (q r : Nat) : Nat := byteAt l q / 2 ^ (7 - r) % 2
theorem byteAt_end (l : List UInt8) (q : Nat) (h : l.length ≤ q) : byteAt l q = 0 := by
  unfold byteAt; rw [List.getD_eq_getElem?_getD, List.getElem?_eq_none h]; rfl
theorem bt_byte (s : ByteArray) (q : Nat) : bt s (q : Int) = (byteAt s.data.toList q : Int) := by
  have := bt_byteAt s 0 q
  simpa using this
theorem shr_small' (x : Int) (n : Nat) (h : n ≤ 63) : shr .i64 x (n : Int) = x / 2 ^ n := by
  unfold shr
  rw [Int.toNat_natCast, Nat.min_eq_left (by show n ≤ 64; omega)]
theorem bit_is (s : ByteArray) (hs : s.size ≤ 1000000000000) (i q r : Nat) (hi : i = 8 * q + r) (hr : r < 8) (hq : i ≤ 100000000000000) :
    muslinref01_bit.f s (i : Int) = some (bitV s.data.toList q r : Int) := by
  have hb := byteAt_lt s.data.toList q
  have e1 : Int.tdiv (i : Int) 8 = (q : Int) := by rw [Int.tdiv_eq_ediv_of_nonneg (by omega)]; omega
  have e2 : Int.tmod (i : Int) 8 = (r : Int) := by rw [Int.tmod_eq_emod_of_nonneg (by omega)]; omega
  have e3 : wrap64 (q : Int) = (q : Int) := w64 (by omega) (by omega)
  unfold muslinref01_bit.f
  rw [e1, e2, e3]
  by_cases h : (q : Int) ≥ (s.size : Int)
  · rw [if_pos h]
    have : bitV s.data.toList q r = 0 := by
      unfold bitV; rw [byteAt_end _ _ (by rw [sizeL]; omega)]; simp
    rw [this]; rfl
  · have e4 : IntKind.u64.wrap (wrap64 (7 - (r : Int))) = ((7 - r : Nat) : Int) := by
      rw [w64 (by omega) (by omega)]
      have : r = 0 ∨ r = 1 ∨ r = 2 ∨ r = 3 ∨ r = 4 ∨ r = 5 ∨ r = 6 ∨ r = 7 := by omega
      rcases this with rfl | rfl | rfl | rfl | rfl | rfl | rfl | rfl <;> rfl
    rw [if_neg h, if_pos (by omega), if_pos (by omega), e4, if_pos (by omega), bt_byte, w64 (by omega) (by omega), shr_small' _ _ (by omega)]
    congr 1
def sixV (l : List UInt8) (i : Nat) : Nat := 32 * bitV l (i / 8) (i % 8) + 16 * bitV l ((i + 1) / 8) ((i + 1) % 8) + 8 * bitV l ((i + 2) / 8) ((i + 2) % 8) + 4 * bitV l ((i + 3) / 8) ((i + 3) % 8) + 2 * bitV l ((i + 4) / 8) ((i + 4) % 8) + bitV l ((i + 5) / 8) ((i + 5) % 8)
theorem bitV_lt (l : List UInt8) (q r : Nat) : bitV l q r < 2 := Nat.mod_lt _ (by decide)
theorem sixV_lt (l : List UInt8) (i : Nat) : sixV l i < 64 := by
  unfold sixV
  have h0 := bitV_lt l (i / 8) (i % 8)
  have h1 := bitV_lt l ((i + 1) / 8) ((i + 1) % 8)
  have h2 := bitV_lt l ((i + 2) / 8) ((i + 2) % 8)
  have h3 := bitV_lt l ((i + 3) / 8) ((i + 3) % 8)
  have h4 := bitV_lt l ((i + 4) / 8) ((i + 4) % 8)
  have h5 := bitV_lt l ((i + 5) / 8) ((i + 5) % 8)
  omega
theorem bt_letter : ∀ n : Fin 64, bt (⟨#[65, 66, 67, 68, 69, 70, 71, 72, 73, 74, 75, 76, 77, 78, 79, 80, 81, 82, 83, 84, 85, 86, 87, 88, 89, 90, 97, 98, 99, 100, 101, 102, 103, 104, 105, 106, 107, 108, 109, 110, 111, 112, 113, 114, 115, 116, 117, 118, 119, 120, 121, 122, 48, 49, 50, 51, 52, 53, 54, 55, 56, 57, 43, 47]⟩ : ByteArray) (n.val : Int) = ((B64.letterC n.val).toNat : Int) := by decide +kernel
theorem six_loop (s : ByteArray) (hs : s.size ≤ 1000000000000) (acc : List UInt8) (hacc : acc.length < 140737488355328) (i : Nat) (hi : i ≤ 10000000000000) {r : ByteArray}
    (h : Ev (fun k => muslinref01_Encode.l0 k s (intsOf (acc ++ [B64.letterC (sixV s.data.toList i)])) ((i + 6 : Nat) : Int)) r) :
    Ev (fun k => muslinref01_Encode.l1 k s (intsOf acc) (i : Int) 0 0) r := by
  have step : ∀ (x j : Nat), x < 32 → j < 6 → ∀ r : ByteArray, Ev (fun k => muslinref01_Encode.l1 k s (intsOf acc) (i : Int) ((2 * x + bitV s.data.toList ((i + j) / 8) ((i + j) % 8) : Nat) : Int) ((j + 1 : Nat) : Int)) r → Ev (fun k => muslinref01_Encode.l1 k s (intsOf acc) (i : Int) (x : Int) (j : Int)) r := by
    intro x j hx hj r hr
    refine Ev.round (fun k => by rw [muslinref01_Encode.l1]) ?_
    refine Ev.pos (by omega) ?_
    have hb := bitV_lt s.data.toList ((i + j) / 8) ((i + j) % 8)
    have hw : wrap64 ((i : Int) + (j : Int)) = ((i + j : Nat) : Int) := by rw [w64 (by omega) (by omega)]; omega
    refine Ev.got (x := muslinref01_bit.f s (wrap64 ((i : Int) + (j : Int)))) (a := (bitV s.data.toList ((i + j) / 8) ((i + j) % 8) : Int)) (by rw [hw]; exact bit_is s hs (i + j) _ _ (by omega) (by omega) (by omega)) ?_
    rw [w64 (x := 2 * (x : Int)) (by omega) (by omega), w64 (by omega) (by omega), w64 (by omega) (by omega)]
    have e1 : (2 * (x : Int) + (bitV s.data.toList ((i + j) / 8) ((i + j) % 8) : Int)) = ((2 * x + bitV s.data.toList ((i + j) / 8) ((i + j) % 8) : Nat) : Int) := by omega
    have e2 : ((j : Int) + 1) = ((j + 1 : Nat) : Int) := by omega
    rw [e1, e2]
    exact hr
  have h0 := bitV_lt s.data.toList (i / 8) (i % 8)
  have h1 := bitV_lt s.data.toList ((i + 1) / 8) ((i + 1) % 8)
  have h2 := bitV_lt s.data.toList ((i + 2) / 8) ((i + 2) % 8)
  have h3 := bitV_lt s.data.toList ((i + 3) / 8) ((i + 3) % 8)
  have h4 := bitV_lt s.data.toList ((i + 4) / 8) ((i + 4) % 8)
  have h5 := bitV_lt s.data.toList ((i + 5) / 8) ((i + 5) % 8)
  refine step 0 0 (by omega) (by omega) _ ?_
  refine step _ 1 (by simp only [Nat.add_zero]; omega) (by omega) _ ?_
  refine step _ 2 (by simp only [Nat.add_zero]; omega) (by omega) _ ?_
  refine step _ 3 (by simp only [Nat.add_zero]; omega) (by omega) _ ?_
  refine step _ 4 (by simp only [Nat.add_zero]; omega) (by omega) _ ?_
  refine step _ 5 (by simp only [Nat.add_zero]; omega) (by omega) _ ?_
  have hv := sixV_lt s.data.toList i
  have e : (2 * (2 * (2 * (2 * (2 * (2 * 0 + bitV s.data.toList ((i + 0) / 8) ((i + 0) % 8)) + bitV s.data.toList ((i + 1) / 8) ((i + 1) % 8)) + bitV s.data.toList ((i + 2) / 8) ((i + 2) % 8)) + bitV s.data.toList ((i + 3) / 8) ((i + 3) % 8)) + bitV s.data.toList ((i + 4) / 8) ((i + 4) % 8)) + bitV s.data.toList ((i + 5) / 8) ((i + 5) % 8)) = sixV s.data.toList i := by
    unfold sixV; simp only [Nat.add_zero]; omega
  rw [e]
  refine Ev.round (fun k => by rw [muslinref01_Encode.l1]) ?_
  refine Ev.neg (by omega) ?_
  refine Ev.pos (by omega) ?_
  refine Ev.pos (by omega) ?_
  refine Ev.pos (by rw [intsOf_length]; exact_mod_cast hacc) ?_
  rw [bt_letter ⟨sixV s.data.toList i, hv⟩, w64 (by omega) (by omega)]
  have e3 : intsOf acc ++ [((B64.letterC (sixV s.data.toList i)).toNat : Int)] = intsOf (acc ++ [B64.letterC (sixV s.data.toList i)]) := by rw [intsOf_append]; rfl
  have e4 : ((i : Int) + 6) = ((i + 6 : Nat) : Int) := by omega
  simp only [e3, e4]
  exact h
theorem pad_loop : ∀ (n : Nat) (acc : List UInt8), (4 - acc.length % 4) % 4 = n → acc.length ≤ 14073748835532 → Ev (fun k => muslinref01_Encode.l2 k (intsOf acc)) (⟨(acc ++ List.replicate n 61).toArray⟩ : ByteArray)
  | 0, acc, h, hl => by
    refine Ev.round (fun k => by rw [muslinref01_Encode.l2]) ?_
    refine Ev.pos (by rw [intsOf_length]; omega) ?_
    rw [strOf_ints, List.replicate_zero, List.append_nil]
    exact Ev.now _
  | n + 1, acc, h, hl => by
    refine Ev.round (fun k => by rw [muslinref01_Encode.l2]) ?_
    refine Ev.neg (by rw [intsOf_length]; omega) ?_
    refine Ev.pos (by rw [intsOf_length]; omega) ?_
    have e : intsOf acc ++ [61] = intsOf (acc ++ [61]) := by rw [intsOf_append]; rfl
    rw [e]
    have := pad_loop n (acc ++ [61]) (by rw [List.length_append]; simp only [List.length_cons, List.length_nil]; omega) (by rw [List.length_append]; simp only [List.length_cons, List.length_nil]; omega)
    rw [List.append_assoc] at this
    exact this
theorem byteAt_drop (l : List UInt8) (a j : Nat) : byteAt (l.drop a) j = byteAt l (a + j) := by
  unfold byteAt; rw [List.getD_eq_getElem?_getD, List.getD_eq_getElem?_getD, List.getElem?_drop]
theorem six0 (l : List UInt8) (m : Nat) : sixV l (24 * m) = byteAt l (3 * m) / 4 := by
  have h := byteAt_lt l (3 * m)
  unfold sixV bitV
  rw [show 24 * m / 8 = 3 * m by omega, show (24 * m + 1) / 8 = 3 * m by omega, show (24 * m + 2) / 8 = 3 * m by omega, show (24 * m + 3) / 8 = 3 * m by omega, show (24 * m + 4) / 8 = 3 * m by omega, show (24 * m + 5) / 8 = 3 * m by omega,
    show 24 * m % 8 = 0 by omega, show (24 * m + 1) % 8 = 1 by omega, show (24 * m + 2) % 8 = 2 by omega, show (24 * m + 3) % 8 = 3 by omega, show (24 * m + 4) % 8 = 4 by omega, show (24 * m + 5) % 8 = 5 by omega]
  simp only [show 7 - 0 = 7 from rfl, show 7 - 1 = 6 from rfl, show 7 - 2 = 5 from rfl, show 7 - 3 = 4 from rfl, show 7 - 4 = 3 from rfl, show 7 - 5 = 2 from rfl]
  omega
theorem six1 (l : List UInt8) (m : Nat) : sixV l (24 * m + 6) = byteAt l (3 * m) % 4 * 16 + byteAt l (3 * m + 1) / 16 := by
  have h := byteAt_lt l (3 * m)
  have h2 := byteAt_lt l (3 * m + 1)
  unfold sixV bitV
  rw [show (24 * m + 6) / 8 = 3 * m by omega, show (24 * m + 6 + 1) / 8 = 3 * m by omega, show (24 * m + 6 + 2) / 8 = 3 * m + 1 by omega, show (24 * m + 6 + 3) / 8 = 3 * m + 1 by omega, show (24 * m + 6 + 4) / 8 = 3 * m + 1 by omega, show (24 * m + 6 + 5) / 8 = 3 * m + 1 by omega,
    show (24 * m + 6) % 8 = 6 by omega, show (24 * m + 6 + 1) % 8 = 7 by omega, show (24 * m + 6 + 2) % 8 = 0 by omega, show (24 * m + 6 + 3) % 8 = 1 by omega, show (24 * m + 6 + 4) % 8 = 2 by omega, show (24 * m + 6 + 5) % 8 = 3 by omega]
  simp only [show 7 - 0 = 7 from rfl, show 7 - 1 = 6 from rfl, show 7 - 2 = 5 from rfl, show 7 - 3 = 4 from rfl, show 7 - 6 = 1 from rfl, show 7 - 7 = 0 from rfl]
  omega
theorem six2 (l : List UInt8) (m : Nat) : sixV l (24 * m + 12) = byteAt l (3 * m + 1) % 16 * 4 + byteAt l (3 * m + 2) / 64 := by
  have h := byteAt_lt l (3 * m + 1)
  have h2 := byteAt_lt l (3 * m + 2)
  unfold sixV bitV
  rw [show (24 * m + 12) / 8 = 3 * m + 1 by omega, show (24 * m + 12 + 1) / 8 = 3 * m + 1 by omega, show (24 * m + 12 + 2) / 8 = 3 * m + 1 by omega, show (24 * m + 12 + 3) / 8 = 3 * m + 1 by omega, show (24 * m + 12 + 4) / 8 = 3 * m + 2 by omega, show (24 * m + 12 + 5) / 8 = 3 * m + 2 by omega,
    show (24 * m + 12) % 8 = 4 by omega, show (24 * m + 12 + 1) % 8 = 5 by omega, show (24 * m + 12 + 2) % 8 = 6 by omega, show (24 * m + 12 + 3) % 8 = 7 by omega, show (24 * m + 12 + 4) % 8 = 0 by omega, show (24 * m + 12 + 5) % 8 = 1 by omega]
  simp only [show 7 - 0 = 7 from rfl, show 7 - 1 = 6 from rfl, show 7 - 4 = 3 from rfl, show 7 - 5 = 2 from rfl, show 7 - 6 = 1 from rfl, show 7 - 7 = 0 from rfl]
  omega
theorem six3 (l : List UInt8) (m : Nat) : sixV l (24 * m + 18) = byteAt l (3 * m + 2) % 64 := by
  have h2 := byteAt_lt l (3 * m + 2)
  unfold sixV bitV
  rw [show (24 * m + 18) / 8 = 3 * m + 2 by omega, show (24 * m + 18 + 1) / 8 = 3 * m + 2 by omega, show (24 * m + 18 + 2) / 8 = 3 * m + 2 by omega, show (24 * m + 18 + 3) / 8 = 3 * m + 2 by omega, show (24 * m + 18 + 4) / 8 = 3 * m + 2 by omega, show (24 * m + 18 + 5) / 8 = 3 * m + 2 by omega,
    show (24 * m + 18) % 8 = 2 by omega, show (24 * m + 18 + 1) % 8 = 3 by omega, show (24 * m + 18 + 2) % 8 = 4 by omega, show (24 * m + 18 + 3) % 8 = 5 by omega, show (24 * m + 18 + 4) % 8 = 6 by omega, show (24 * m + 18 + 5) % 8 = 7 by omega]
  simp only [show 7 - 2 = 5 from rfl, show 7 - 3 = 4 from rfl, show 7 - 4 = 3 from rfl, show 7 - 5 = 2 from rfl, show 7 - 6 = 1 from rfl, show 7 - 7 = 0 from rfl]
  omega
theorem enc_loop (s : ByteArray) (hs : s.size ≤ 100000000000) : ∀ (n m : Nat) (acc : List UInt8), s.size - 3 * m ≤ n → 3 * m ≤ s.size → acc.length ≤ 4 * m →
    acc ++ (B64.encC (s.data.toList.drop (3 * m))).map B64.letterC = (B64.encC s.data.toList).map B64.letterC →
    Ev (fun k => muslinref01_Encode.l0 k s (intsOf acc) ((24 * m : Nat) : Int)) (⟨(B64.b64EncL s.data.toList).toArray⟩ : ByteArray) := by
  have hl : s.data.toList.length = s.size := sizeL s
  have fin : ∀ (acc : List UInt8) (i : Nat), 8 * s.size ≤ i → i ≤ 10000000000000 → acc.length ≤ 1000000000000 → acc = (B64.encC s.data.toList).map B64.letterC → Ev (fun k => muslinref01_Encode.l0 k s (intsOf acc) (i : Int)) (⟨(B64.b64EncL s.data.toList).toArray⟩ : ByteArray) := by
    intro acc i h1 h2 h3 h4
    refine Ev.round (fun k => by rw [muslinref01_Encode.l0]) ?_
    refine Ev.neg (by rw [w64 (by omega) (by omega)]; omega) ?_
    have e : B64.b64EncL s.data.toList = acc ++ List.replicate ((4 - acc.length % 4) % 4) 61 := by
      unfold B64.b64EncL; rw [B64.encT_is, ← h4]
    rw [e]
    exact pad_loop _ acc rfl (by omega)
  have go : ∀ (acc : List UInt8) (i : Nat), i < 8 * s.size → acc.length ≤ 1000000000000 → Ev (fun k => muslinref01_Encode.l0 k s (intsOf (acc ++ [B64.letterC (sixV s.data.toList i)])) ((i + 6 : Nat) : Int)) (⟨(B64.b64EncL s.data.toList).toArray⟩ : ByteArray) → Ev (fun k => muslinref01_Encode.l0 k s (intsOf acc) (i : Int)) (⟨(B64.b64EncL s.data.toList).toArray⟩ : ByteArray) := by
    intro acc i h1 h2 h3
    refine Ev.round (fun k => by rw [muslinref01_Encode.l0]) ?_
    refine Ev.pos (by rw [w64 (by omega) (by omega)]; omega) ?_
    exact six_loop s (by omega) acc (by omega) i (by omega) h3
  have L1 : ∀ (a : List UInt8) (x : UInt8), (a ++ [x]).length = a.length + 1 := fun a x => by simp
  intro n
  induction n with
  | zero =>
    intro m acc h1 h2 h3 h4
    have hd : s.data.toList.drop (3 * m) = [] := List.drop_eq_nil_of_le (by omega)
    rw [hd] at h4
    exact fin acc _ (by omega) (by omega) (by omega) (by simpa [B64.encC] using h4)
  | succ n ih =>
    intro m acc h1 h2 h3 h4
    have b0 := byteAt_drop s.data.toList (3 * m) 0
    have b1 := byteAt_drop s.data.toList (3 * m) 1
    have b2 := byteAt_drop s.data.toList (3 * m) 2
    have hdl : (s.data.toList.drop (3 * m)).length = s.size - 3 * m := by rw [List.length_drop, hl]
    rw [Nat.add_zero] at b0
    match hd : s.data.toList.drop (3 * m) with
    | [] =>
      rw [hd] at h4 hdl
      simp only [List.length_nil] at hdl
      exact fin acc _ (by omega) (by omega) (by omega) (by simpa [B64.encC] using h4)
    | [x] =>
      rw [hd] at h4 hdl b0 b1
      simp only [List.length_cons, List.length_nil] at hdl
      refine go acc _ (by omega) (by omega) ?_
      refine go _ _ (by omega) (by rw [L1]; omega) ?_
      refine fin _ _ (by omega) (by omega) (by rw [L1, L1]; omega) ?_
      have e0 : byteAt [x] 0 = x.toNat := rfl
      have e1 : byteAt [x] 1 = 0 := rfl
      rw [six0, six1, ← b0, ← b1, e0, e1, ← h4]
      simp [B64.encC]
    | [x, y] =>
      rw [hd] at h4 hdl b0 b1 b2
      simp only [List.length_cons, List.length_nil] at hdl
      refine go acc _ (by omega) (by omega) ?_
      refine go _ _ (by omega) (by rw [L1]; omega) ?_
      refine go _ _ (by omega) (by rw [L1, L1]; omega) ?_
      refine fin _ _ (by omega) (by omega) (by rw [L1, L1, L1]; omega) ?_
      have e0 : byteAt [x, y] 0 = x.toNat := rfl
      have e1 : byteAt [x, y] 1 = y.toNat := rfl
      have e2 : byteAt [x, y] 2 = 0 := rfl
      rw [show 24 * m + 6 + 6 = 24 * m + 12 by omega, six0, six1, six2, ← b0, ← b1, ← b2, e0, e1, e2, ← h4]
      simp [B64.encC]
    | x :: y :: z :: r =>
      rw [hd] at h4 hdl b0 b1 b2
      simp only [List.length_cons] at hdl
      refine go acc _ (by omega) (by omega) ?_
      refine go _ _ (by omega) (by rw [L1]; omega) ?_
      refine go _ _ (by omega) (by rw [L1, L1]; omega) ?_
      refine go _ _ (by omega) (by rw [L1, L1, L1]; omega) ?_
      have e0 : byteAt (x :: y :: z :: r) 0 = x.toNat := rfl
      have e1 : byteAt (x :: y :: z :: r) 1 = y.toNat := rfl
      have e2 : byteAt (x :: y :: z :: r) 2 = z.toNat := rfl
      rw [show 24 * m + 6 + 6 = 24 * m + 12 by omega, show 24 * m + 12 + 6 = 24 * m + 18 by omega, show 24 * m + 18 + 6 = 24 * (m + 1) by omega, six0, six1, six2, six3, ← b0, ← b1, ← b2, e0, e1, e2]
      refine ih (m + 1) _ (by omega) (by omega) (by rw [L1, L1, L1, L1]; omega) ?_
      have hr : s.data.toList.drop (3 * (m + 1)) = r := by
        rw [show 3 * (m + 1) = 3 * m + 3 by omega, ← List.drop_drop, hd]; rfl
      rw [hr, ← h4]
      simp [B64.encC]
theorem refEnc64_is (s : ByteArray) (hs : s.size ≤ 100000000000) : Ev (fun k => muslinref01_Encode.f k s) (⟨(B64.b64EncL s.data.toList).toArray⟩ : ByteArray) := by
  unfold muslinref01_Encode.f
  exact enc_loop s hs s.size 0 [] (by omega) (by omega) (by simp) rfl
end Go.Proofs.YtpcncpegbboljaaGreatDoor.Pure
namespace Go.Proofs.YtpcncpegbboljaaGreatDoor.WordL
open Go.RowKit Go.Lib Go.Proofs.YtpcncpegbboljaaGreatDoor Go.Proofs.YtpcncpegbboljaaGreatDoor.Pure
set_option linter.unusedVariables false
set_option linter.unusedSimpArgs false
theorem refEnc_c (s : ByteArray) (hs : s.size ≤ 100000000000) (W : World) : Calls Tryz.prog 63 #[.string s] W fun e w' => e = .returned (.string ⟨(B64.b64EncL s.data.toList).toArray⟩) ∧ Below W.heap.size W w' := by
  obtain ⟨r, h⟩ := refEnc64_is s hs
  exact R.muslinref01_Encode.calls r s _ W (h r (Nat.le_refl _))
def plainF : List UInt8 → Bool
  | [] => true
  | c :: r => okC c && !(begins (c :: r)) && plainF r
theorem plainF_is : ∀ l : List UInt8, plainF l = plainE l
  | [] => by decide
  | c :: r => by
    have ih := plainF_is r
    have hge := index_ge r [61, 63]
    unfold plainE at ih ⊢
    simp only [plainF, List.all_cons]
    rw [ih]
    cases hb : begins (c :: r) with
    | true =>
      have e : index (c :: r) [61, 63] = 0 := by
        have : [61, 63].isPrefixOf (c :: r) = true := hb
        simp only [index, this, if_true]
      rw [e]; simp
    | false =>
      have hb2 : [61, 63].isPrefixOf (c :: r) = false := hb
      have e : decide (index (c :: r) [61, 63] < 0) = decide (index r [61, 63] < 0) := by
        by_cases hr : index r [61, 63] = -1
        · simp only [index, hb2, hr]; simp
        · have : index (c :: r) [61, 63] = index r [61, 63] + 1 := by simp only [index, hb2]; simp [hr]
          rw [this]; exact decide_eq_decide.2 (by omega)
      rw [e]
      cases okC c <;> cases decide (index r [61, 63] < 0) <;> simp
def wordsFrom (m rest : List UInt8) : List (List UInt8) :=
  wordOf (m ++ rest.take (chunk rest.length rest m.length - m.length)) :: wordsL (rest.drop (chunk rest.length rest m.length - m.length))
theorem wf_end (m : List UInt8) : wordsFrom m [] = [wordOf m] := by
  simp [wordsFrom, chunk, wordsL, chunks]
theorem wf_start (v : List UInt8) (h : v ≠ []) : wordsFrom [] v = wordsL v := by
  rw [words_step v h]; rfl
theorem chunk_step (rest : List UInt8) (n : Nat) (h : rest ≠ []) : chunk rest.length rest n = if 30 < n + (uDec rest).2 then n else chunk (rest.drop (uDec rest).2).length (rest.drop (uDec rest).2) (n + (uDec rest).2) := by
  obtain ⟨q, hq⟩ : ∃ q, rest.length = q + 1 := ⟨rest.length - 1, by have := List.length_pos_iff.2 h; omega⟩
  have hw := dec_width rest h
  rw [hq]
  simp only [chunk]
  rw [if_neg h]
  split
  · rfl
  · exact chunk_more _ _ _ (Nat.le_refl _) q (by rw [List.length_drop]; omega)
theorem wf_more (m rest : List UInt8) (h : rest ≠ []) (h2 : ¬ 30 < m.length + (uDec rest).2) : wordsFrom m rest = wordsFrom (m ++ rest.take (uDec rest).2) (rest.drop (uDec rest).2) := by
  have hw := dec_width rest h
  have hl : (m ++ rest.take (uDec rest).2).length = m.length + (uDec rest).2 := by rw [List.length_append, List.length_take]; omega
  unfold wordsFrom
  rw [chunk_step rest m.length h, if_neg h2, hl]
  have hb := (chunk_bd (rest.drop (uDec rest).2).length (rest.drop (uDec rest).2) (m.length + (uDec rest).2)).1
  generalize chunk (rest.drop (uDec rest).2).length (rest.drop (uDec rest).2) (m.length + (uDec rest).2) = c at *
  have e : c - m.length = (uDec rest).2 + (c - (m.length + (uDec rest).2)) := by omega
  rw [e, List.take_add, List.drop_drop, List.append_assoc]
theorem wf_cut (m rest : List UInt8) (h : rest ≠ []) (h2 : 30 < m.length + (uDec rest).2) : wordsFrom m rest = wordOf m :: wordsFrom (rest.take (uDec rest).2) (rest.drop (uDec rest).2) := by
  have hw := dec_width rest h
  have h4 := width4 rest h
  have e := wf_more [] rest h (by simp only [List.length_nil]; omega)
  rw [List.nil_append] at e
  rw [← e, wf_start rest h]
  unfold wordsFrom
  rw [chunk_step rest m.length h, if_pos h2, Nat.sub_self, List.take_zero, List.append_nil, List.drop_zero]
theorem Val_step (l : List UInt8) (hv : Val l) (h : l ≠ []) : wholeL l = (uDec l).2 ∧ Val (l.drop (uDec l).2) := by
  obtain ⟨rs, rfl⟩ := hv
  match rs with
  | [] => exact absurd rfl h
  | r :: rs =>
    rw [List.flatMap_cons, whole_enc, dec_enc]
    simp only
    rw [List.drop_left]
    refine ⟨?_, ⟨rs, rfl⟩⟩
    first | rfl | trivial
theorem inter_cons2 (w : List UInt8) (m rest : List UInt8) : [32].intercalate (w :: wordsFrom m rest) = w ++ 32 :: [32].intercalate (wordsFrom m rest) := by
  unfold wordsFrom; exact inter_cons _ _ _
theorem enc_cat (o m : ByteArray) (t : List UInt8) : (o ++ (⟨#[61, 63, 117, 116, 102, 45, 56, 63, 66, 63]⟩ : ByteArray) ++ (⟨(B64.b64EncL m.data.toList).toArray⟩ : ByteArray) ++ (⟨([63, 61] ++ t).toArray⟩ : ByteArray)).data.toList = o.data.toList ++ wordOf m.data.toList ++ t := by
  simp [wordOf]
set_option maxRecDepth 100000 in
set_option maxHeartbeats 8000000 in
theorem refEncode_c (s : ByteArray) (hs : s.size ≤ 100000) (w : World) :
    Calls Tryz.prog 34 #[.string s] w fun e w' => e = .returned (.string ⟨(encL s.data.toList).toArray⟩) ∧ Below w.heap.size w w' := by
  have hvz : (⟨(vl s.data.toList).toArray⟩ : ByteArray).size ≤ 300000 := by
    rw [mk_size]; have := vl_len s.data.toList; have : s.data.toList.length = s.size := by simp
    omega
  have hvd : (⟨(vl s.data.toList).toArray⟩ : ByteArray).data.toList = vl s.data.toList := rfl
  have RV := Lib.hid (fun W => muslinref04_Valid.calls s _ W (guard_of (by omega)))
  have HVD := Lib.hid hvd
  clear hvd
  generalize (⟨(vl s.data.toList).toArray⟩ : ByteArray) = v at *
  have hl : s.data.toList.length = s.size := by simp
  have HL := Lib.hid hl
  clear hl
  go_enter Tryz.func34, Tryz.ntmps34
  go_wp2
  go_loop [3, 4] (fun bv iv => ∃ (b : Bool) (i : Nat), bv = .bool b ∧ iv = .int .i64 (i : Int) ∧ i ≤ s.size ∧ (b && plainF (s.data.toList.drop i)) = plainF s.data.toList) (fun _ iv => s.size - (RowKit.intOf iv).toNat)
  case atStart => exact ⟨true, 0, rfl, rfl, Nat.zero_le _, by simp⟩
  case round =>
    obtain ⟨b, i, rfl, rfl, hi, hpl⟩ := hrel
    by_cases hlt : i < s.size
    · have hc : s.data.toList.drop i = s[i] :: s.data.toList.drop (i + 1) := List.drop_eq_getElem_cons (by rw [HL.out]; exact hlt)
      have hlti : (i : Int) < (s.size : Int) := by omega
      have hE : ∀ h2 : i + 2 ≤ s.size, (s.extract i (i + 2)).toList = [61, 63] ↔ begins (s.data.toList.drop i) = true := by
        intro h2
        rw [toList_eq, extract_list]
        have hc2 : s.data.toList.drop (i + 1) = s.data.toList[i + 1]'(by rw [HL.out]; omega) :: s.data.toList.drop (i + 2) := List.drop_eq_getElem_cons (by rw [HL.out]; omega)
        have e : (s.data.toList.take (i + 2)).drop i = [s[i], s.data.toList[i + 1]'(by rw [HL.out]; omega)] := by
          rw [List.drop_take, hc, hc2, show i + 2 - i = 2 by omega]; rfl
        rw [e, hc, hc2, begins_cons]; simp
      have hB1 : i + 1 = s.size → begins (s.data.toList.drop i) = false := by
        intro h
        rw [hc, List.drop_eq_nil_of_le (by rw [HL.out]; omega)]; exact begins_one _
      have hst : plainF (s.data.toList.drop i) = (okC s[i] && !(begins (s.data.toList.drop i)) && plainF (s.data.toList.drop (i + 1))) := by
        conv => lhs; rw [hc]
        rw [hc]; rfl
      rw [hst] at hpl
      generalize begins (s.data.toList.drop i) = bg at *
      generalize hsc : s[i] = c at *
      generalize hpf : plainF (s.data.toList.drop (i + 1)) = pf at *
      have HPF := Lib.hid hpf
      clear hpf
      have HPL := Lib.hid hpl
      clear hc hst hpl
      cases b with
      | false =>
        clear hE hB1
        go_wp2
        go_round
        case rel => exact ⟨false, i + 1, rfl, by go_num, by omega, by have := HPL.out; simpa using this⟩
        case measure => simp [RowKit.intOf]; omega
      | true =>
        have h256 : c.toNat < 256 := UInt8.toNat_lt _
        by_cases c32 : 32 ≤ c.toNat
        · by_cases c126 : c.toNat ≤ 126
          · have hok : okC c = true := decide_eq_true ⟨c32, c126⟩
            by_cases h1 : i + 1 = s.size
            · have hb1 := hB1 h1
              subst hb1
              have hge : (s.size : Int) ≤ (i : Int) + 1 := by omega
              clear hE hB1
              go_wp2
              go_round
              case rel => exact ⟨true, i + 1, rfl, by go_num, by omega, by rw [HPF.out]; have := HPL.out; rw [hok] at this; simpa using this⟩
              case measure => simp [RowKit.intOf]; omega
            · have hge : ¬ (s.size : Int) ≤ (i : Int) + 1 := by omega
              have h2 : i + 2 ≤ s.size := by omega
              have h2i : (i : Int) + 2 ≤ (s.size : Int) := by omega
              have t2 : ((i : Int) + 2).toNat = i + 2 := by omega
              have t3 : (i : Int) ≤ (i : Int) + 2 := by omega
              have hEq := hE h2
              clear hE hB1 h1
              obtain ⟨E, hEe⟩ : ∃ E, s.extract i (i + 2) = E := ⟨_, rfl⟩
              rw [hEe] at hEq
              cases bg with
              | true =>
                have hx : E.toList = [61, 63] := hEq.2 rfl
                have hx2 : (E.toList == [61, 63]) = true := by rw [hx]; rfl
                clear hEq
                go_wp2
                go_round
                case rel => exact ⟨false, i + 1, rfl, by go_num, by omega, by have := HPL.out; rw [hok] at this; simpa using this⟩
                case measure => simp [RowKit.intOf]; omega
              | false =>
                have hx : ¬ E.toList = [61, 63] := fun h => Bool.false_ne_true (hEq.1 h)
                have hx2 : (E.toList == [61, 63]) = false := by simpa using hx
                clear hEq
                go_wp2
                go_round
                case rel => exact ⟨true, i + 1, rfl, by go_num, by omega, by rw [HPF.out]; have := HPL.out; rw [hok] at this; simpa using this⟩
                case measure => simp [RowKit.intOf]; omega
          · have hok : okC c = false := decide_eq_false (fun h => c126 h.2)
            clear hE hB1
            go_wp2
            go_round
            case rel => exact ⟨false, i + 1, rfl, by go_num, by omega, by have := HPL.out; rw [hok] at this; simpa using this⟩
            case measure => simp [RowKit.intOf]; omega
        · have hok : okC c = false := decide_eq_false (fun h => c32 h.1)
          clear hE hB1
          go_wp2
          go_round
          case rel => exact ⟨false, i + 1, rfl, by go_num, by omega, by have := HPL.out; rw [hok] at this; simpa using this⟩
          case measure => simp [RowKit.intOf]; omega
    · have hd : s.data.toList.drop i = [] := List.drop_eq_nil_of_le (by rw [HL.out]; omega)
      have hbp : b = plainE s.data.toList := by rw [← plainF_is, ← hpl, hd]; simp [plainF]
      have hlti : ¬ (i : Int) < (s.size : Int) := by omega
      have HE1 : Hid (plainE s.data.toList = true → encL s.data.toList = s.data.toList) := Lib.hid (fun hp => by unfold encL; rw [if_pos hp])
      have HE2 : Hid (plainE s.data.toList = false → encL s.data.toList = [32].intercalate (wordsFrom [] v.data.toList)) := Lib.hid (fun hp => by
        have hv : vl s.data.toList ≠ [] := vl_ne _ (plainE_not (by rw [hp]; exact Bool.false_ne_true))
        rw [HVD.out, wf_start _ hv]; unfold encL; rw [if_neg (by rw [hp]; exact Bool.false_ne_true)])
      subst hbp
      clear hpl hd
      generalize plainE s.data.toList = pb at *
      cases pb with
      | true =>
        have HP := Lib.hid (HE1.out rfl)
        go_wp2
        go_ret
        exact ⟨by rw [HP.out, mk_back]; rfl, Below.refl _ _⟩
      | false =>
        have HP := Lib.hid (HE2.out rfl)
        clear HE1 HE2
        have hvv : Val v.data.toList := by rw [HVD.out]; exact vl_Val _
        have HVV := Lib.hid hvv
        clear hvv
        go_wp2_with (go_at_call 61; refine (RV.out _).mono ?_; rintro e w2 ⟨rfl, b2⟩; have HB2 := Lib.hid b2; clear b2)
        go_loopw [6, 7, 8] (fun ov mv av wr => ∃ (o m : ByteArray) (a : Nat), ov = .string o ∧ mv = .string m ∧ av = .int .i64 (a : Int) ∧ a ≤ v.size ∧ m.size ≤ 30 ∧ o.size ≤ 200 * a ∧ Val (v.data.toList.drop a) ∧ o.data.toList ++ [32].intercalate (wordsFrom m.data.toList (v.data.toList.drop a)) = encL s.data.toList ∧ Below w.heap.size w wr) (fun _ _ av _ => v.size - (RowKit.intOf av).toNat)
        case atStart => exact ⟨⟨#[]⟩, ⟨#[]⟩, 0, rfl, rfl, rfl, Nat.zero_le _, by decide, by decide, HVV.out, by rw [HP.out]; rfl, HB2.out⟩
        case round =>
          obtain ⟨o, m, a, rfl, rfl, rfl, ha, hm, ho, hv, he, hb⟩ := hrel
          have HV := Lib.hid hv; have HE := Lib.hid he; have HB := Lib.hid hb
          have hvl : v.data.toList.length = v.size := by simp
          have hml : m.data.toList.length = m.size := by simp
          clear hv he hb
          have EM := Lib.hid (fun W => refEnc_c m (by omega) W)
          have hez : (⟨(B64.b64EncL m.data.toList).toArray⟩ : ByteArray).size ≤ 100 := by rw [mk_size, B64.b64_len]; omega
          have hcat := enc_cat o m
          by_cases hlt : a < v.size
          · have hlti : (a : Int) < (v.size : Int) := by omega
            have hdne : v.data.toList.drop a ≠ [] := by intro e; have := congrArg List.length e; rw [List.length_drop, hvl] at this; simp at this; omega
            obtain ⟨hwh, hvn⟩ := Val_step _ HV.out hdne
            have hw4 := width4 _ hdne
            have hwd := dec_width _ hdne
            rw [List.length_drop, hvl] at hwd
            rw [List.drop_drop] at hvn
            have WH := Lib.hid (fun W => muslinref04_Whole.calls v (a : Int) _ W (guard_of ⟨by omega, hlti, by omega⟩))
            rw [Int.toNat_natCast, hwh] at WH
            have hmore := wf_more m.data.toList _ hdne
            have hcut := wf_cut m.data.toList _ hdne
            rw [hml, List.drop_drop] at hmore hcut
            have hic := inter_cons2 (wordOf m.data.toList)
            have HMO := Lib.hid hmore; have HCU := Lib.hid hcut; have HVN := Lib.hid hvn
            clear hmore hcut hwh hdne hvn
            generalize (uDec (v.data.toList.drop a)).2 = k at *
            obtain ⟨K, hK⟩ : ∃ K, v.extract a (a + k) = K := ⟨_, rfl⟩
            have hKd : K.data.toList = (v.data.toList.drop a).take k := by rw [← hK, extract_list, List.drop_take, show a + k - a = k by omega]
            have hKz : K.size = k := by rw [← hK]; simp; omega
            have hak : a + k ≤ v.size := by omega
            have haki : (a : Int) + (k : Int) ≤ (v.size : Int) := by omega
            have hakn : ((a : Int) + (k : Int)).toNat = a + k := by omega
            have hk1 : (a : Int) ≤ (a : Int) + (k : Int) := by omega
            by_cases h30 : 30 < m.size + k
            · have h30i : (30 : Int) < (m.size : Int) + (k : Int) := by omega
              have hcu := HCU.out h30
              have hfin : o.data.toList ++ wordOf m.data.toList ++ [32] ++ [32].intercalate (wordsFrom ((v.data.toList.drop a).take k) (v.data.toList.drop (a + k))) = encL s.data.toList := by
                rw [← HE.out, hcu, hic]; simp
              have h3 := hcat [32]
              have HF := Lib.hid hfin; have H3 := Lib.hid h3; have HKD := Lib.hid hKd
              have hoz : o.size ≤ 1000000000 := by omega
              clear hcu hfin h3 hcat HMO HCU hKd
              have hx3 : ∀ x y : ByteArray, (x ++ y).size = x.size + y.size := fun x y => ByteArray.size_append
              generalize (⟨(B64.b64EncL m.data.toList).toArray⟩ : ByteArray) = X at *
              go_wp2_with (first
                | (go_at_call 62; refine (WH.out _).mono ?_; rintro e w4 ⟨rfl, b4⟩; have HB4 := Lib.hid (HB.out.trans (b4.mono HB.out.size)); clear b4)
                | (go_at_call 63; refine (EM.out _).mono ?_; rintro e w5 ⟨rfl, b5⟩; have HB5 := Lib.hid (HB4.out.trans (b5.mono HB4.out.size)); clear b5))
              go_roundw
              case rel =>
                refine ⟨_, _, a + k, rfl, rfl, by go_num, hak, ?_, ?_, HVN.out, ?_, HB5.out⟩
                · rw [hx3, hKz]; show 0 + k ≤ 30; omega
                · rw [hx3, hx3, hx3]; show o.size + 10 + X.size + 3 ≤ _; omega
                · rw [show ((⟨#[]⟩ : ByteArray) ++ K).data.toList = (v.data.toList.drop a).take k by rw [← HKD.out]; simp]
                  have e := H3.out
                  rw [show (⟨([63, 61] ++ [32] : List UInt8).toArray⟩ : ByteArray) = ⟨#[63, 61, 32]⟩ from rfl] at e
                  rw [e]; exact HF.out
              case measure => simp [RowKit.intOf]; omega
            · have h30i : ¬ (30 : Int) < (m.size : Int) + (k : Int) := by omega
              have hmo := HMO.out h30
              have hfin : o.data.toList ++ [32].intercalate (wordsFrom (m.data.toList ++ (v.data.toList.drop a).take k) (v.data.toList.drop (a + k))) = encL s.data.toList := by
                rw [← HE.out, hmo]
              have HF := Lib.hid hfin; have HKD := Lib.hid hKd
              clear hmo hfin hcat HMO HCU hKd
              have hx3 : ∀ x y : ByteArray, (x ++ y).size = x.size + y.size := fun x y => ByteArray.size_append
              go_wp2_with (go_at_call 62; refine (WH.out _).mono ?_; rintro e w4 ⟨rfl, b4⟩; have HB4 := Lib.hid (HB.out.trans (b4.mono HB.out.size)); clear b4)
              go_roundw
              case rel =>
                refine ⟨_, _, a + k, rfl, rfl, by go_num, hak, ?_, by omega, HVN.out, ?_, HB4.out⟩
                · rw [hx3, hKz]; omega
                · rw [show (m ++ K).data.toList = m.data.toList ++ (v.data.toList.drop a).take k by rw [← HKD.out]; simp]
                  exact HF.out
              case measure => simp [RowKit.intOf]; omega
          · have hlti : ¬ (a : Int) < (v.size : Int) := by omega
            have hd : v.data.toList.drop a = [] := List.drop_eq_nil_of_le (by rw [hvl]; omega)
            have hfin : o.data.toList ++ wordOf m.data.toList = encL s.data.toList := by
              rw [← HE.out, hd, wf_end, inter_one]
            have h3 := hcat []
            have HF := Lib.hid hfin; have H3 := Lib.hid h3
            have hoz : o.size ≤ 1000000000 := by omega
            clear hfin h3 hcat hd hvl hml
            generalize (⟨(B64.b64EncL m.data.toList).toArray⟩ : ByteArray) = X at *
            go_wp2_with (go_at_call 63; refine (EM.out _).mono ?_; rintro e w5 ⟨rfl, b5⟩; have HB5 := Lib.hid (HB.out.trans (b5.mono HB.out.size)); clear b5)
            go_ret
            refine ⟨congrArg (fun x => Ending.returned (Value.string x)) (ba_ext ?_), HB5.out⟩
            have e := H3.out
            simp only [List.append_nil] at e
            show _ = encL s.data.toList
            rw [← HF.out]; exact e
end Go.Proofs.YtpcncpegbboljaaGreatDoor.WordL
namespace Go.Proofs.YtpcncpegbboljaaGreatDoor
open Go.RowKit Go.Lib Go.Proofs.YtpcncpegbboljaaGreatDoor.Pure
def muslinref05_Encode.f (s : ByteArray) : Option ByteArray := if s.size ≤ 100000 then some ⟨(WordL.encL s.data.toList).toArray⟩ else none
theorem muslinref05_Encode.calls (s r : ByteArray) (w : World) (h : muslinref05_Encode.f s = some r) :
    Calls Tryz.prog 34 #[.string s] w fun e w' => e = .returned (.string r) ∧ Below w.heap.size w w' := by
  obtain ⟨h1, rfl⟩ := of_guard h
  exact WordL.refEncode_c s h1 w
end Go.Proofs.YtpcncpegbboljaaGreatDoor
namespace Go.Proofs.YtpcncpegbboljaaGreatDoor.Addr
open Go.RowKit Go.Lib Go.Proofs.YtpcncpegbboljaaGreatDoor Go.Proofs.YtpcncpegbboljaaGreatDoor.Row Go.Proofs.YtpcncpegbboljaaGreatDoor.Pure Go.Proofs.YtpcncpegbboljaaGreatDoorW.PrintWords
set_option linter.unusedVariables false
set_option linter.unusedSimpArgs false
def plL : List UInt8 → Bool
  | [] => true
  | c :: r => decide (c.toNat < 127) && !(c == 61 && r.head? == some 63) && plL r
theorem plL_is : ∀ (l : List UInt8), plL l = !(asksL l || l.any hiC)
  | [] => rfl
  | [c] => by
    have h : hiC c = !decide (c.toNat < 127) := by unfold hiC; rw [← decide_not]; apply decide_eq_decide.2; omega
    simp [plL, asksL, h]
  | c :: d :: r => by
    have h : hiC c = !decide (c.toNat < 127) := by unfold hiC; rw [← decide_not]; apply decide_eq_decide.2; omega
    have ih := plL_is (d :: r)
    rw [show plL (c :: d :: r) = (decide (c.toNat < 127) && !(c == 61 && (d :: r).head? == some 63) && plL (d :: r)) from rfl, ih, show asksL (c :: d :: r) = ((c == 61 && d == 63) || asksL (d :: r)) from rfl, show (c :: d :: r).any hiC = (hiC c || (d :: r).any hiC) from rfl, h]
    have hh : ((d :: r).head? == some 63) = (d == 63) := by simp
    rw [hh]
    cases decide (c.toNat < 127) <;> cases (c == 61 && d == 63) <;> cases asksL (d :: r) <;> simp
theorem join_snoc : ∀ (acc : List (List UInt8)) (e : List UInt8), joinW (acc ++ [e]) = if acc = [] then e else joinW acc ++ [44, 32] ++ e
  | [], e => by rw [if_pos rfl]; exact joinW_one e
  | [a], e => by
    rw [if_neg (by simp), show [a] ++ [e] = a :: e :: [] from rfl, joinW_cons, joinW_one, joinW_one]; simp
  | a :: b :: r, e => by
    have ih := join_snoc (b :: r) e
    rw [if_neg (by simp)] at ih ⊢
    rw [show (a :: b :: r) ++ [e] = a :: b :: (r ++ [e]) from rfl, joinW_cons, show b :: (r ++ [e]) = (b :: r) ++ [e] from rfl, ih, joinW_cons]
    simp
theorem one_byte_str (c : UInt8) (W : World) : (convert 45 9 (.slice (some ⟨W.heap.size, 0, none⟩) 1 1)).run Tryz.prog (W.alloc (.cells #[.int .u8 (c.toNat : Int)] 5)) = .ok (.string ⟨#[c]⟩) (W.alloc (.cells #[.int .u8 (c.toNat : Int)] 5)) := by
  refine run_convert_bytes_back (P := Tryz.prog) _ 45 9 5 ⟨W.heap.size, 0, none⟩ 1 [c] Tryz.underlying45 Tryz.underlying5 Tryz.underlying9 (fun j hj => ?_)
  obtain rfl : j = 0 := by simpa using hj
  rw [show (⟨W.heap.size, 0, none⟩ : Addr).add 0 = ⟨W.heap.size, 0, none⟩ from rfl, cell_of_row _ _ _ _ _ _ (heap_alloc_new _ _)]
  rfl
theorem byte34 (W : World) : (convert 45 9 (.slice (some ⟨W.heap.size, 0, none⟩) 1 1)).run Tryz.prog (W.alloc (.cells #[.int .u8 34] 5)) = .ok (.string ⟨#[34]⟩) (W.alloc (.cells #[.int .u8 34] 5)) := one_byte_str 34 W
theorem byte92 (W : World) : (convert 45 9 (.slice (some ⟨W.heap.size, 0, none⟩) 1 1)).run Tryz.prog (W.alloc (.cells #[.int .u8 92] 5)) = .ok (.string ⟨#[92]⟩) (W.alloc (.cells #[.int .u8 92] 5)) := one_byte_str 92 W
theorem byte61 (W : World) : (convert 45 9 (.slice (some ⟨W.heap.size, 0, none⟩) 1 1)).run Tryz.prog (W.alloc (.cells #[.int .u8 61] 5)) = .ok (.string ⟨#[61]⟩) (W.alloc (.cells #[.int .u8 61] 5)) := one_byte_str 61 W
theorem esc_len2 (c : UInt8) (r : List UInt8) : escL (c :: r) = (if c = 34 ∨ c = 92 then [92, c] else [c]) ++ escL r := rfl
set_option maxRecDepth 100000 in
set_option maxHeartbeats 16000000 in
theorem refWrite_c (A : Option Addr) (c : Nat) (l : List P.S32) (hl : l.length ≤ 40) (hsz : ∀ x ∈ l, x.f0.size ≤ 300 ∧ x.f1.size ≤ 300) (w : World) (hr : Kd.C P.k32 w A l.length l) (hc : l.length ≤ c) :
    Calls Tryz.prog 17 #[.slice A l.length c] w fun e w' => e = .returned (.tuple #[.string ⟨(writeL (l.map boxOf)).1.toArray⟩, .int .i64 (writeL (l.map boxOf)).2]) ∧ Below w.heap.size w w' := by
  have HR := Lib.hid hr; have HSZ := Lib.hid hsz
  clear hr hsz
  go_enter Tryz.func17, Tryz.ntmps17
  go_wp2
  go_loopw [4, 5] (fun ov iv wr => ∃ (i : Nat) (acc : List (List UInt8)) (O : ByteArray), ov = .string O ∧ iv = .int .i64 (i : Int) ∧ i ≤ l.length ∧ acc.length = i ∧ (writesL ((l.map boxOf).drop i)).map (fun es => acc ++ es) = writesL (l.map boxOf) ∧ (∀ e ∈ acc, e.length ≤ 2400) ∧ O.data.toList = joinW acc ∧ Below w.heap.size w wr) (fun _ iv _ => l.length - (RowKit.intOf iv).toNat)
  case atStart => exact ⟨0, [], ⟨#[]⟩, rfl, rfl, Nat.zero_le _, rfl, by rw [List.drop_zero]; simp, by simp, rfl, Below.refl _ _⟩
  case round =>
    obtain ⟨i, acc, O, rfl, rfl, hi, hal, he, hes, hO, hb⟩ := hrel
    have hOz : O.size ≤ 100000 := by
      have h1 := join_len acc hes
      have h2 : O.data.toList.length = O.size := by simp
      rw [hO] at h2
      omega
    have HE := Lib.hid he; have HES := Lib.hid hes; have HO := Lib.hid hO; have HB := Lib.hid hb; have HAL := Lib.hid hal
    clear he hes hO hb hal
    by_cases hlt : i < l.length
    · have hlti : (i : Int) < (l.length : Int) := by omega
      obtain ⟨x, hx⟩ : ∃ x, l[i] = x := ⟨_, rfl⟩
      have hm : x ∈ l := hx ▸ List.getElem_mem hlt
      obtain ⟨hs0, hs1⟩ := HSZ.out x hm
      obtain ⟨ad, cs, hA, hcl, hK, hcell⟩ := Kd.C_get HR.out P.z32 (i : Int) (by omega) (by omega)
      have hxd : l.getD i P.z32 = x := by rw [List.getD_eq_getElem?_getD, List.getElem?_eq_getElem hlt, hx]; rfl
      rw [Int.toNat_natCast, hxd] at hK
      rw [Int.toNat_natCast] at hcell
      obtain rfl := P.k32_open hK
      have kw0 : w.cell? (ad.add (i * 2)) = some (.string x.f0) := hcell 0 (.string x.f0) rfl
      have kw1 : w.cell? ⟨(ad.add (i * 2)).block, (ad.add (i * 2)).off + 1, none⟩ = some (.string x.f1) := by
        have := hcell 1 (.string x.f1) rfl
        rw [← add_field _ _ 1 (by omega)]; exact this
      have hdrop : (l.map boxOf).drop i = boxOf x :: (l.map boxOf).drop (i + 1) := by
        rw [List.drop_eq_getElem_cons (by rw [List.length_map]; exact hlt), List.getElem_map, hx]
      have HD := Lib.hid hdrop
      subst hA
      obtain ⟨N, hN⟩ : ∃ N, x.f0 = N := ⟨_, rfl⟩
      obtain ⟨M, hM⟩ : ∃ M, x.f1 = M := ⟨_, rfl⟩
      have hbx : boxOf x = (N.data.toList, M.data.toList) := by rw [← hN, ← hM]; rfl
      rw [hN] at kw0 hs0
      rw [hM] at kw1 hs1
      have CE : Hid (∀ W, Below w.heap.size w W → W.cell? (ad.add (i * 2)) = some (.string N) ∧ W.cell? ⟨(ad.add (i * 2)).block, (ad.add (i * 2)).off + 1, none⟩ = some (.string M)) := Lib.hid (fun W h => ⟨(h.cell (World.block_lt_of_cell? _ _ kw0)).trans kw0, (h.cell (World.block_lt_of_cell? _ _ kw1)).trans kw1⟩)
      have HBX := Lib.hid hbx
      have hNl : N.data.toList.length = N.size := by simp
      have hMl : M.data.toList.length = M.size := by simp
      have hON : Hid (∀ e, oneW N.data.toList M.data.toList = some e → e.length ≤ 2400) := Lib.hid fun e h => oneW_small _ _ e (by omega) (by omega) h
      have HSTEP : Hid (∀ e : List UInt8, oneW N.data.toList M.data.toList = some e → (writesL ((l.map boxOf).drop (i + 1))).map (fun es => (acc ++ [e]) ++ es) = writesL (l.map boxOf)) := Lib.hid (fun e h => wr_step HD.out (by rw [HBX.out]; exact h) HE.out)
      have HNONE : Hid (oneW N.data.toList M.data.toList = none → writeL (l.map boxOf) = ([], 1)) := Lib.hid (by
        intro h
        have := wr_none HD.out (by rw [HBX.out]; exact h) HE.out
        unfold writeL; rw [this])
      obtain ⟨k0, k1⟩ := CE.out _ HB.out
      clear hK hcell hcl hxd hx hm hdrop hbx hN hM kw0 kw1
      go_wp2
      go_loopw [6, 7, 8] (fun pv tv kv w2 => ∃ (p : Bool) (T : ByteArray) (k : Nat), pv = .bool p ∧ tv = .string T ∧ kv = .int .i64 (k : Int) ∧ k ≤ N.size ∧ (N.data.toList.take k).any ctlC = false ∧ (p && plL (N.data.toList.drop k)) = plL N.data.toList ∧ T.data.toList ++ escL (N.data.toList.drop k) = escL N.data.toList ∧ Below w.heap.size w w2) (fun _ _ kv _ => N.size - (RowKit.intOf kv).toNat)
      case atStart => exact ⟨true, ⟨#[]⟩, 0, rfl, rfl, rfl, Nat.zero_le _, rfl, rfl, rfl, HB.out⟩
      case round =>
        obtain ⟨p, T, k, rfl, rfl, rfl, hk, hct, hpl, hes, hb2⟩ := hrel
        have hTz : T.size ≤ 600 := by
          have h1 := congrArg List.length hes
          have h2 := escL_len N.data.toList
          have h3 : T.data.toList.length = T.size := by simp
          rw [List.length_append] at h1
          omega
        obtain ⟨q0, q1⟩ := CE.out _ hb2
        by_cases hkl : k < N.size
        · have hkl2 : k < N.data.toList.length := by omega
          have hkli : (k : Int) < (N.size : Int) := by omega
          have hdr := List.drop_eq_getElem_cons hkl2
          have hta := List.take_succ_eq_append_getElem hkl2
          obtain ⟨ch, hc1, hc2⟩ : ∃ ch, N[k]'hkl = ch ∧ N.data.toList[k]'hkl2 = ch := ⟨_, rfl, rfl⟩
          rw [hc2] at hdr hta
          rw [hdr] at hpl hes
          have h256 := UInt8.toNat_lt ch
          by_cases hctl : ctlC ch = true
          · have hz : Hid (writeL (l.map boxOf) = ([], 1)) := Lib.hid (HNONE.out (by
              unfold oneW
              rw [if_pos (.inr (by
                rw [List.any_eq_true]
                exact ⟨ch, by rw [← hc2]; exact List.getElem_mem hkl2, hctl⟩))]))
            have hcc : ch.toNat < 32 ∨ ch.toNat = 127 := of_decide_eq_true hctl
            have HB2 := Lib.hid hb2
            clear hct hpl hes hb2 hdr hta hc2 hctl
            rcases hcc with hcc | hcc
            · have hcci : (ch.toNat : Int) < 32 := by omega
              go_wp2
              go_ret2
              rw [hz.out]
              exact ⟨rfl, HB2.out⟩
            · have hcci : (ch.toNat : Int) = 127 := by omega
              go_wp2
              go_ret2
              rw [hz.out]
              exact ⟨rfl, HB2.out⟩
          · have hcc : ¬ (ch.toNat < 32 ∨ ch.toNat = 127) := of_decide_eq_false (Bool.eq_false_iff.2 hctl)
            have hct2 : (N.data.toList.take (k + 1)).any ctlC = false := by rw [hta, List.any_append, hct]; simp [hctl]
            have HCT := Lib.hid hct2
            have HB2 := Lib.hid hb2
            have h32i : ((ch.toNat : Int) < 32) = False := eq_false (by omega)
            have h32b : decide ((ch.toNat : Int) < 32) = false := decide_eq_false (by omega)
            have hn127 : ((ch.toNat : Int) == 127) = false := by rw [beq_eq_false_iff_ne]; omega
            have qc := one_byte_str ch
            have hTb : T.size ≤ 1000 := by omega
            by_cases htc : ch.toNat = 34
            · have h34i : ((ch.toNat : Int) == 34) = true := by rw [beq_iff_eq]; omega
              have HES2 := Lib.hid (show (T ++ ⟨#[92]⟩ ++ ⟨#[34]⟩ : ByteArray).data.toList ++ escL (N.data.toList.drop (k + 1)) = escL N.data.toList from by
                rw [← hes, esc_len2, if_pos (.inl (UInt8.toNat_inj.1 htc)), show ch = 34 from UInt8.toNat_inj.1 htc]; simp)
              have qc34 := byte34
              have HES2c := Lib.hid (show (T ++ ⟨#[92]⟩ ++ ⟨#[ch]⟩ : ByteArray).data.toList ++ escL (N.data.toList.drop (k + 1)) = escL N.data.toList from by
                rw [← hes, esc_len2, if_pos (.inl (UInt8.toNat_inj.1 htc))]; simp)
              cases p with
              | false =>
                have HPL := Lib.hid (show (false && plL (N.data.toList.drop (k + 1))) = plL N.data.toList from by rw [← hpl]; rfl)
                clear hct2 hpl hes hb2 hdr hta hc2 hct hcc hctl hkl2
                go_wp2
                go_roundw
                case rel => exact ⟨false, _, k + 1, rfl, rfl, by go_num, by omega, HCT.out, HPL.out, by first | exact HES2.out | exact HES2c.out, HB2.out.alloc HB2.out.size _⟩
                case measure => simp [RowKit.intOf]; omega
              | true =>
                have hstep : plL (ch :: N.data.toList.drop (k + 1)) = (decide (ch.toNat < 127) && !(ch == 61 && (N.data.toList.drop (k + 1)).head? == some 63) && plL (N.data.toList.drop (k + 1))) := rfl
                have h127 : ch.toNat < 127 := by omega
                have h127i : (ch.toNat : Int) < 127 := by omega
                have h61 : (ch == 61) = false := by rw [beq_eq_false_iff_ne]; rintro rfl; exact absurd htc (by decide)
                have h61i : ((ch.toNat : Int) != 61) = true := by rw [bne_iff_ne]; omega
                have HPL := Lib.hid (show (true && plL (N.data.toList.drop (k + 1))) = plL N.data.toList from by
                  rw [← hpl, hstep, decide_eq_true h127, h61]; rfl)
                clear hstep h61 htc hct2 hpl hes hb2 hdr hta hc2 hct hcc hctl hkl2
                go_wp2
                go_roundw
                case rel => exact ⟨true, _, k + 1, rfl, rfl, by go_num, by omega, HCT.out, HPL.out, by first | exact HES2.out | exact HES2c.out, HB2.out.alloc HB2.out.size _⟩
                case measure => simp [RowKit.intOf]; omega
            · have h34i : ((ch.toNat : Int) == 34) = false := by rw [beq_eq_false_iff_ne]; omega
              have hn34 : ¬ ch.toNat = 34 := htc
              clear htc
              by_cases htc : ch.toNat = 92
              · have h92i : ((ch.toNat : Int) == 92) = true := by rw [beq_iff_eq]; omega
                have HES2 := Lib.hid (show (T ++ ⟨#[92]⟩ ++ ⟨#[92]⟩ : ByteArray).data.toList ++ escL (N.data.toList.drop (k + 1)) = escL N.data.toList from by
                  rw [← hes, esc_len2, if_pos (.inr (UInt8.toNat_inj.1 htc)), show ch = 92 from UInt8.toNat_inj.1 htc]; simp)
                have qc92 := byte92
                have HES2c := Lib.hid (show (T ++ ⟨#[92]⟩ ++ ⟨#[ch]⟩ : ByteArray).data.toList ++ escL (N.data.toList.drop (k + 1)) = escL N.data.toList from by
                  rw [← hes, esc_len2, if_pos (.inr (UInt8.toNat_inj.1 htc))]; simp)
                cases p with
                | false =>
                  have HPL := Lib.hid (show (false && plL (N.data.toList.drop (k + 1))) = plL N.data.toList from by rw [← hpl]; rfl)
                  clear hct2 hpl hes hb2 hdr hta hc2 hct hcc hctl hkl2
                  go_wp2
                  go_roundw
                  case rel => exact ⟨false, _, k + 1, rfl, rfl, by go_num, by omega, HCT.out, HPL.out, by first | exact HES2.out | exact HES2c.out, HB2.out.alloc HB2.out.size _⟩
                  case measure => simp [RowKit.intOf]; omega
                | true =>
                  have hstep : plL (ch :: N.data.toList.drop (k + 1)) = (decide (ch.toNat < 127) && !(ch == 61 && (N.data.toList.drop (k + 1)).head? == some 63) && plL (N.data.toList.drop (k + 1))) := rfl
                  have h127 : ch.toNat < 127 := by omega
                  have h127i : (ch.toNat : Int) < 127 := by omega
                  have h61 : (ch == 61) = false := by rw [beq_eq_false_iff_ne]; rintro rfl; exact absurd htc (by decide)
                  have h61i : ((ch.toNat : Int) != 61) = true := by rw [bne_iff_ne]; omega
                  have HPL := Lib.hid (show (true && plL (N.data.toList.drop (k + 1))) = plL N.data.toList from by
                    rw [← hpl, hstep, decide_eq_true h127, h61]; rfl)
                  clear hstep h61 htc hct2 hpl hes hb2 hdr hta hc2 hct hcc hctl hkl2
                  go_wp2
                  go_roundw
                  case rel => exact ⟨true, _, k + 1, rfl, rfl, by go_num, by omega, HCT.out, HPL.out, by first | exact HES2.out | exact HES2c.out, HB2.out.alloc HB2.out.size _⟩
                  case measure => simp [RowKit.intOf]; omega
              · have h92i : ((ch.toNat : Int) == 92) = false := by rw [beq_eq_false_iff_ne]; omega
                have HES2 := Lib.hid (show (T ++ ⟨#[ch]⟩ : ByteArray).data.toList ++ escL (N.data.toList.drop (k + 1)) = escL N.data.toList from by
                  rw [← hes, esc_len2, if_neg (by rintro (rfl | rfl); exact hn34 rfl; exact htc rfl)]; simp)
                have HES2c := HES2
                clear htc hn34
                cases p with
                | false =>
                  have HPL := Lib.hid (show (false && plL (N.data.toList.drop (k + 1))) = plL N.data.toList from by rw [← hpl]; rfl)
                  clear hct2 hpl hes hb2 hdr hta hc2 hct hcc hctl hkl2
                  go_wp2
                  go_roundw
                  case rel => exact ⟨false, _, k + 1, rfl, rfl, by go_num, by omega, HCT.out, HPL.out, by first | exact HES2.out | exact HES2c.out, HB2.out.alloc HB2.out.size _⟩
                  case measure => simp [RowKit.intOf]; omega
                | true =>
                  have hstep : plL (ch :: N.data.toList.drop (k + 1)) = (decide (ch.toNat < 127) && !(ch == 61 && (N.data.toList.drop (k + 1)).head? == some 63) && plL (N.data.toList.drop (k + 1))) := rfl
                  by_cases h127 : ch.toNat < 127
                  · have h127i : (ch.toNat : Int) < 127 := by omega
                    by_cases h61 : ch.toNat = 61
                    · have h61i : ((ch.toNat : Int) != 61) = false := by rw [bne_eq_false_iff_eq]; omega
                      have hch : ch = 61 := UInt8.toNat_inj.1 h61
                      have HES3 := Lib.hid (show (T ++ ⟨#[61]⟩ : ByteArray).data.toList ++ escL (N.data.toList.drop (k + 1)) = escL N.data.toList from by have := HES2.out; rw [hch] at this; exact this)
                      have qc61 := byte61
                      by_cases hend : k + 1 = N.size
                      · have hendi : ((k : Int) + 1 == (N.size : Int)) = true := by rw [beq_iff_eq]; omega
                        have hcond : (ch == 61 && (N.data.toList.drop (k + 1)).head? == some 63) = false := by
                          rw [List.drop_eq_nil_of_le (by omega)]; simp
                        have HPL := Lib.hid (show (true && plL (N.data.toList.drop (k + 1))) = plL N.data.toList from by
                          rw [← hpl, hstep, decide_eq_true h127, hcond]; rfl)
                        clear hstep hcond hch hct2 hpl hes hb2 hdr hta hc2 hct hcc hctl hkl2
                        go_wp2
                        go_roundw
                        case rel => exact ⟨true, _, k + 1, rfl, rfl, by go_num, by omega, HCT.out, HPL.out, by first | exact HES3.out | exact HES2c.out, HB2.out.alloc HB2.out.size _⟩
                        case measure => simp [RowKit.intOf]; omega
                      · have hendi : ((k : Int) + 1 == (N.size : Int)) = false := by rw [beq_eq_false_iff_ne]; omega
                        have hk1 : k + 1 < N.size := by omega
                        have hk1i : (k : Int) + 1 < (N.size : Int) := by omega
                        have hk2 : k + 1 < N.data.toList.length := by omega
                        obtain ⟨d, hd1, hd2⟩ : ∃ d, N[k + 1]'hk1 = d ∧ N.data.toList[k + 1]'hk2 = d := ⟨_, rfl, rfl⟩
                        have hhead : (N.data.toList.drop (k + 1)).head? = some d := by rw [List.head?_drop, List.getElem?_eq_getElem hk2, hd2]
                        have hw1 : IntKind.i64.wrap ((k : Int) + 1) = (k : Int) + 1 := IntWalk.i64_in _ (by omega)
                        have htn : ((k : Int) + 1).toNat = k + 1 := by omega
                        by_cases h63 : d = 63
                        · have h63i : ((d.toNat : Int) != 63) = false := by rw [h63]; rfl
                          have hcond : (ch == 61 && (N.data.toList.drop (k + 1)).head? == some 63) = true := by rw [hhead, hch, h63]; rfl
                          have HPL := Lib.hid (show (false && plL (N.data.toList.drop (k + 1))) = plL N.data.toList from by
                            rw [← hpl, hstep, decide_eq_true h127, hcond]; rfl)
                          clear hstep hcond hch hhead hd2 hk2 hct2 hpl hes hb2 hdr hta hc2 hct hcc hctl hkl2
                          go_wp2
                          go_roundw
                          case rel => exact ⟨false, _, k + 1, rfl, rfl, by go_num, by omega, HCT.out, HPL.out, by first | exact HES3.out | exact HES2c.out, HB2.out.alloc HB2.out.size _⟩
                          case measure => simp [RowKit.intOf]; omega
                        · have h63i : ((d.toNat : Int) != 63) = true := by rw [bne_iff_ne]; exact fun e => h63 (UInt8.toNat_inj.1 (by show d.toNat = 63; omega))
                          have hcond : (ch == 61 && (N.data.toList.drop (k + 1)).head? == some 63) = false := by rw [hhead]; simp [h63]
                          have HPL := Lib.hid (show (true && plL (N.data.toList.drop (k + 1))) = plL N.data.toList from by
                            rw [← hpl, hstep, decide_eq_true h127, hcond]; rfl)
                          clear hstep hcond hch hhead hd2 hk2 hct2 hpl hes hb2 hdr hta hc2 hct hcc hctl hkl2
                          go_wp2
                          go_roundw
                          case rel => exact ⟨true, _, k + 1, rfl, rfl, by go_num, by omega, HCT.out, HPL.out, by first | exact HES3.out | exact HES2c.out, HB2.out.alloc HB2.out.size _⟩
                          case measure => simp [RowKit.intOf]; omega
                    · have h61i : ((ch.toNat : Int) != 61) = true := by rw [bne_iff_ne]; omega
                      have hcond : (ch == 61 && (N.data.toList.drop (k + 1)).head? == some 63) = false := by
                        have : (ch == 61) = false := by rw [beq_eq_false_iff_ne]; rintro rfl; exact h61 rfl
                        rw [this]; rfl
                      have HPL := Lib.hid (show (true && plL (N.data.toList.drop (k + 1))) = plL N.data.toList from by
                        rw [← hpl, hstep, decide_eq_true h127, hcond]; rfl)
                      clear hstep hcond hct2 hpl hes hb2 hdr hta hc2 hct hcc hctl hkl2
                      go_wp2
                      go_roundw
                      case rel => exact ⟨true, _, k + 1, rfl, rfl, by go_num, by omega, HCT.out, HPL.out, by first | exact HES2.out | exact HES2c.out, HB2.out.alloc HB2.out.size _⟩
                      case measure => simp [RowKit.intOf]; omega
                  · have h127i : ¬ (ch.toNat : Int) < 127 := by omega
                    have HPL := Lib.hid (show (false && plL (N.data.toList.drop (k + 1))) = plL N.data.toList from by
                      rw [← hpl, hstep, decide_eq_false h127]; rfl)
                    clear hstep hct2 hpl hes hb2 hdr hta hc2 hct hcc hctl hkl2
                    go_wp2
                    go_roundw
                    case rel => exact ⟨false, _, k + 1, rfl, rfl, by go_num, by omega, HCT.out, HPL.out, by first | exact HES2.out | exact HES2c.out, HB2.out.alloc HB2.out.size _⟩
                    case measure => simp [RowKit.intOf]; omega
        · obtain rfl : k = N.size := by omega
          rw [List.drop_eq_nil_of_le (by omega)] at hpl hes
          rw [List.take_of_length_le (by omega)] at hct
          have HPLe := Lib.hid (show p = plL N.data.toList from by rw [← hpl]; simp [plL])
          have HTE := Lib.hid (show escL N.data.toList = T.data.toList from by rw [← hes]; simp [escL])
          have HB2 := Lib.hid hb2
          have hone : oneW N.data.toList M.data.toList = if goodL M.data.toList = false ∨ N.data.toList.any ctlC = true then none else if N.data.toList = [] then some M.data.toList else if asksL N.data.toList = true ∨ N.data.toList.any hiC = true then some (WordL.encL N.data.toList ++ [32, 60] ++ M.data.toList ++ [62]) else some ([34] ++ escL N.data.toList ++ [34, 32, 60] ++ M.data.toList ++ [62]) := rfl
          rw [hct] at hone
          have GD := Lib.hid (fun W => refGood_c M (by omega) W)
          obtain ⟨V, hV⟩ : ∃ V : ByteArray, (⟨(WordL.encL N.data.toList).toArray⟩ : ByteArray) = V := ⟨_, rfl⟩
          have hVd : WordL.encL N.data.toList = V.data.toList := by rw [← hV]
          have hVz : V.size ≤ 2000 := by
            have := encL_small N.data.toList (by omega)
            rw [hVd] at this; simpa using this
          have EN := Lib.hid (fun W => muslinref05_Encode.calls N V W (by rw [← hV]; exact guard_of (by omega)))
          have HVD := Lib.hid hVd
          clear hpl hes hct hb2 hV hVd
          cases hg : goodL M.data.toList with
          | false =>
            rw [hg] at hone GD
            have hz : Hid (writeL (l.map boxOf) = ([], 1)) := Lib.hid (HNONE.out (by rw [hone, if_pos (.inl rfl)]))
            clear hone hg
            go_wp2_with (go_at_call 14; refine (GD.out _).mono ?_; rintro e w3 ⟨rfl, n3, rfl⟩)
            go_ret2
            rw [hz.out]
            exact ⟨rfl, bdrewN HB2.out _⟩
          | true =>
            rw [hg, if_neg (by rintro (h | h) <;> cases h)] at hone
            rw [hg] at GD
            have HONE := Lib.hid hone
            clear hone hg
            by_cases hi0 : i = 0
            · have hi0i : ¬ (0 : Int) < (i : Int) := by omega
              have HAC := Lib.hid (show acc = [] from List.length_eq_zero_iff.1 (by rw [HAL.out]; exact hi0))
              clear hi0
              by_cases hNn : N.data.toList = []
              · have hNe : N.toList.isEmpty = true := by rw [toList_eq, hNn]; rfl
                have ho : Hid (oneW N.data.toList M.data.toList = some M.data.toList) := Lib.hid (by rw [HONE.out, if_pos hNn])
                clear hNn
                go_wp2_with (go_at_call 14; refine (GD.out _).mono ?_; rintro e w3 ⟨rfl, n3, rfl⟩)
                go_roundw
                case rel => exact ⟨i + 1, acc ++ [M.data.toList], _, rfl, by go_num, by omega, by rw [List.length_append, HAL.out]; rfl, HSTEP.out _ ho.out, fun e he => (List.mem_append.1 he).elim (HES.out e) (fun h => by rw [List.mem_singleton.1 h]; exact hON.out _ ho.out), by rw [join_snoc, if_pos HAC.out]; have h0 := HO.out; rw [HAC.out] at h0; have h1 : O.data.toList = [] := h0; simp [h1], bdrewN HB2.out _⟩
                case measure => simp [RowKit.intOf]; omega
              · have hNe : N.toList.isEmpty = false := by
                  rw [toList_eq]
                  cases h : N.data.toList with
                  | nil => exact absurd h hNn
                  | cons a b => rfl
                cases p with
                | true =>
                  have ho : Hid (oneW N.data.toList M.data.toList = some ([34] ++ T.data.toList ++ [34, 32, 60] ++ M.data.toList ++ [62])) := Lib.hid (by
                    have hpl2 := HPLe.out
                    rw [plL_is] at hpl2
                    rw [HONE.out, if_neg hNn, if_neg (by
                      intro h
                      have h3 : asksL N.data.toList = false ∧ N.data.toList.any hiC = false := by simpa using hpl2.symm
                      rcases h with h | h
                      · rw [h3.1] at h; cases h
                      · rw [h3.2] at h; cases h), HTE.out])
                  clear hNn
                  go_wp2_with (go_at_call 14; refine (GD.out _).mono ?_; rintro e w3 ⟨rfl, n3, rfl⟩)
                  go_roundw
                  case rel => exact ⟨i + 1, acc ++ [[34] ++ T.data.toList ++ [34, 32, 60] ++ M.data.toList ++ [62]], _, rfl, by go_num, by omega, by rw [List.length_append, HAL.out]; rfl, HSTEP.out _ ho.out, fun e he => (List.mem_append.1 he).elim (HES.out e) (fun h => by rw [List.mem_singleton.1 h]; exact hON.out _ ho.out), by rw [join_snoc, if_pos HAC.out]; have h0 := HO.out; rw [HAC.out] at h0; have h1 : O.data.toList = [] := h0; simp [h1], bdrewN HB2.out _⟩
                  case measure => simp [RowKit.intOf]; omega
                | false =>
                  have ho : Hid (oneW N.data.toList M.data.toList = some (V.data.toList ++ [32, 60] ++ M.data.toList ++ [62])) := Lib.hid (by
                    have hpl2 := HPLe.out
                    rw [plL_is] at hpl2
                    rw [HONE.out, if_neg hNn, if_pos (by
                      have h3 : (asksL N.data.toList || N.data.toList.any hiC) = true := by
                        cases hq : (asksL N.data.toList || N.data.toList.any hiC) with
                        | true => rfl
                        | false => rw [hq] at hpl2; cases hpl2
                      simpa using h3), HVD.out])
                  clear hNn
                  go_upto_region 21 with (go_at_call 14; refine (GD.out _).mono ?_; rintro e w3 ⟨rfl, n3, rfl⟩)
                  obtain ⟨r0, r1⟩ := CE.out _ (bdrewN HB2.out n3)
                  go_wp2_with fail
                  have hz0a : ¬ 9223372036854775807 < O.size + V.size := by omega
                  have hz0b : O.size + V.size ≤ 9223372036854775807 := by omega
                  have hz1a : ¬ 9223372036854775807 < O.size + V.size + 2 := by omega
                  have hz1b : O.size + V.size + 2 ≤ 9223372036854775807 := by omega
                  have hz2a : ¬ 9223372036854775807 < O.size + V.size + 2 + M.size := by omega
                  have hz2b : O.size + V.size + 2 + M.size ≤ 9223372036854775807 := by omega
                  have hz3a : ¬ 9223372036854775807 < O.size + V.size + 2 + M.size + 1 := by omega
                  have hz3b : O.size + V.size + 2 + M.size + 1 ≤ 9223372036854775807 := by omega
                  go_region_law (first
                    | (go_simp; go_at_call 34; refine (EN.out _).mono ?_; rintro e w5 ⟨rfl, b5⟩; obtain ⟨s0, s1⟩ := CE.out w5 (by first | exact (bdrewN HB2.out _).trans (b5.mono HB2.out.size) | exact ((bdrewN HB2.out _).drew).trans (b5.mono HB2.out.size)); have B5 := Lib.hid (show Below w.heap.size w w5 from by first | exact (bdrewN HB2.out _).trans (b5.mono HB2.out.size) | exact ((bdrewN HB2.out _).drew).trans (b5.mono HB2.out.size)); clear b5))
                  all_goals go_wp2_with fail
                  all_goals go_roundw
                  all_goals first
                    | (exact ⟨i + 1, acc ++ [V.data.toList ++ [32, 60] ++ M.data.toList ++ [62]], _, rfl, by go_num, by omega, by rw [List.length_append, HAL.out]; rfl, HSTEP.out _ ho.out, fun e he => (List.mem_append.1 he).elim (HES.out e) (fun h => by rw [List.mem_singleton.1 h]; exact hON.out _ ho.out), by rw [join_snoc, if_pos HAC.out]; have h0 := HO.out; rw [HAC.out] at h0; have h1 : O.data.toList = [] := h0; simp [h1], B5.out⟩)
                    | (simp [RowKit.intOf]; omega)
            · have hi0i : (0 : Int) < (i : Int) := by omega
              have HAC := Lib.hid (show ¬ acc = [] from fun e => hi0 (by rw [← HAL.out, e]; rfl))
              clear hi0
              by_cases hNn : N.data.toList = []
              · have hNe : N.toList.isEmpty = true := by rw [toList_eq, hNn]; rfl
                have ho : Hid (oneW N.data.toList M.data.toList = some M.data.toList) := Lib.hid (by rw [HONE.out, if_pos hNn])
                clear hNn
                go_wp2_with (go_at_call 14; refine (GD.out _).mono ?_; rintro e w3 ⟨rfl, n3, rfl⟩)
                go_roundw
                case rel => exact ⟨i + 1, acc ++ [M.data.toList], _, rfl, by go_num, by omega, by rw [List.length_append, HAL.out]; rfl, HSTEP.out _ ho.out, fun e he => (List.mem_append.1 he).elim (HES.out e) (fun h => by rw [List.mem_singleton.1 h]; exact hON.out _ ho.out), by rw [join_snoc, if_neg HAC.out, ← HO.out]; simp, bdrewN HB2.out _⟩
                case measure => simp [RowKit.intOf]; omega
              · have hNe : N.toList.isEmpty = false := by
                  rw [toList_eq]
                  cases h : N.data.toList with
                  | nil => exact absurd h hNn
                  | cons a b => rfl
                cases p with
                | true =>
                  have ho : Hid (oneW N.data.toList M.data.toList = some ([34] ++ T.data.toList ++ [34, 32, 60] ++ M.data.toList ++ [62])) := Lib.hid (by
                    have hpl2 := HPLe.out
                    rw [plL_is] at hpl2
                    rw [HONE.out, if_neg hNn, if_neg (by
                      intro h
                      have h3 : asksL N.data.toList = false ∧ N.data.toList.any hiC = false := by simpa using hpl2.symm
                      rcases h with h | h
                      · rw [h3.1] at h; cases h
                      · rw [h3.2] at h; cases h), HTE.out])
                  clear hNn
                  go_wp2_with (go_at_call 14; refine (GD.out _).mono ?_; rintro e w3 ⟨rfl, n3, rfl⟩)
                  go_roundw
                  case rel => exact ⟨i + 1, acc ++ [[34] ++ T.data.toList ++ [34, 32, 60] ++ M.data.toList ++ [62]], _, rfl, by go_num, by omega, by rw [List.length_append, HAL.out]; rfl, HSTEP.out _ ho.out, fun e he => (List.mem_append.1 he).elim (HES.out e) (fun h => by rw [List.mem_singleton.1 h]; exact hON.out _ ho.out), by rw [join_snoc, if_neg HAC.out, ← HO.out]; simp, bdrewN HB2.out _⟩
                  case measure => simp [RowKit.intOf]; omega
                | false =>
                  have ho : Hid (oneW N.data.toList M.data.toList = some (V.data.toList ++ [32, 60] ++ M.data.toList ++ [62])) := Lib.hid (by
                    have hpl2 := HPLe.out
                    rw [plL_is] at hpl2
                    rw [HONE.out, if_neg hNn, if_pos (by
                      have h3 : (asksL N.data.toList || N.data.toList.any hiC) = true := by
                        cases hq : (asksL N.data.toList || N.data.toList.any hiC) with
                        | true => rfl
                        | false => rw [hq] at hpl2; cases hpl2
                      simpa using h3), HVD.out])
                  clear hNn
                  go_upto_region 21 with (go_at_call 14; refine (GD.out _).mono ?_; rintro e w3 ⟨rfl, n3, rfl⟩)
                  obtain ⟨r0, r1⟩ := CE.out _ (bdrewN HB2.out n3)
                  go_wp2_with fail
                  have hz0a : ¬ 9223372036854775807 < O.size + 2 + V.size := by omega
                  have hz0b : O.size + 2 + V.size ≤ 9223372036854775807 := by omega
                  have hz1a : ¬ 9223372036854775807 < O.size + 2 + V.size + 2 := by omega
                  have hz1b : O.size + 2 + V.size + 2 ≤ 9223372036854775807 := by omega
                  have hz2a : ¬ 9223372036854775807 < O.size + 2 + V.size + 2 + M.size := by omega
                  have hz2b : O.size + 2 + V.size + 2 + M.size ≤ 9223372036854775807 := by omega
                  have hz3a : ¬ 9223372036854775807 < O.size + 2 + V.size + 2 + M.size + 1 := by omega
                  have hz3b : O.size + 2 + V.size + 2 + M.size + 1 ≤ 9223372036854775807 := by omega
                  go_region_law (first
                    | (go_simp; go_at_call 34; refine (EN.out _).mono ?_; rintro e w5 ⟨rfl, b5⟩; obtain ⟨s0, s1⟩ := CE.out w5 (by first | exact (bdrewN HB2.out _).trans (b5.mono HB2.out.size) | exact ((bdrewN HB2.out _).drew).trans (b5.mono HB2.out.size)); have B5 := Lib.hid (show Below w.heap.size w w5 from by first | exact (bdrewN HB2.out _).trans (b5.mono HB2.out.size) | exact ((bdrewN HB2.out _).drew).trans (b5.mono HB2.out.size)); clear b5))
                  all_goals go_wp2_with fail
                  all_goals go_roundw
                  all_goals first
                    | (exact ⟨i + 1, acc ++ [V.data.toList ++ [32, 60] ++ M.data.toList ++ [62]], _, rfl, by go_num, by omega, by rw [List.length_append, HAL.out]; rfl, HSTEP.out _ ho.out, fun e he => (List.mem_append.1 he).elim (HES.out e) (fun h => by rw [List.mem_singleton.1 h]; exact hON.out _ ho.out), by rw [join_snoc, if_neg HAC.out, ← HO.out]; simp, B5.out⟩)
                    | (simp [RowKit.intOf]; omega)
    · obtain rfl : i = l.length := by omega
      have hfin : writeL (l.map boxOf) = (O.data.toList, 0) := by
        have h := HE.out
        rw [List.drop_eq_nil_of_le (by rw [List.length_map]; exact Nat.le_refl _)] at h
        have h2 : writesL (l.map boxOf) = some acc := by rw [← h]; simp [writesL]
        unfold writeL; rw [h2, HO.out]
      have HF := Lib.hid hfin
      clear hfin
      go_wp2
      go_ret2
      refine ⟨?_, HB.out⟩
      rw [HF.out]
      show _ = Ending.returned (.tuple #[.string ⟨O.data.toList.toArray⟩, .int .i64 0])
      rw [mk_back]
      rfl
end Go.Proofs.YtpcncpegbboljaaGreatDoor.Addr
namespace Go.Proofs.YtpcncpegbboljaaGreatDoor
open Go.RowKit Go.Lib Go.Proofs.YtpcncpegbboljaaGreatDoor.Pure Go.Proofs.YtpcncpegbboljaaGreatDoorW.PrintWords
end Go.Proofs.YtpcncpegbboljaaGreatDoor
namespace Go.Proofs.YtpcncpegbboljaaGreatDoor
open Go.RowKit Go.Lib Go.Proofs.YtpcncpegbboljaaGreatDoor.Pure Go.Proofs.YtpcncpegbboljaaGreatDoorW.PrintWords
set_option linter.unusedVariables false
def muslinref08_Write.f (l : List P.S32) : Option (ByteArray × Int) := if smallB l then some (⟨(Addr.writeL (l.map Addr.boxOf)).1.toArray⟩, (Addr.writeL (l.map Addr.boxOf)).2) else none
theorem muslinref08_Write.calls (A0 : Option Addr) (c0 : Nat) (l0 : List P.S32) (r1 : ByteArray) (r2 : Int) (w : World) (hr0 : Kd.C P.k32 w A0 l0.length l0) (hc0 : l0.length ≤ c0) (hGl : Glob w) (h : muslinref08_Write.f l0 = some (r1, r2)) :
    Calls Tryz.prog 17 #[.slice A0 l0.length c0] w fun e w' => e = .returned (.tuple #[.string r1, .int .i64 r2]) ∧ Below w.heap.size w w' := by
  obtain ⟨h1, h2⟩ := of_guard h
  injection h2 with h2 h3
  subst h2 h3
  exact Addr.refWrite_c A0 c0 l0 h1.1 h1.2 w hr0 hc0
end Go.Proofs.YtpcncpegbboljaaGreatDoor
namespace Go.Proofs.YtpcncpegbboljaaGreatDoor.P
open Go.RowKit Go.Proofs.YtpcncpegbboljaaGreatDoorW.PrintWords Go.Proofs.YtpcncpegbboljaaGreatDoorW.PrintLast Go.Proofs.YtpcncpegbboljaaGreatDoorW.PrintMore
attribute [local go_sem] max2_int min2_int max_two min_two max_three min_three max_four min_four
set_option linter.unusedVariables false
set_option linter.unusedSimpArgs false
theorem eqA32 (d : Nat) (w : World) (x0 y0 : ByteArray) (x1 y1 : ByteArray) :
    (Op.equalIn (d + 2) 32 (.agg #[.string x0, .string x1]) (.agg #[.string y0, .string y1])).run Tryz.prog w = .ok (x0.toList == y0.toList && (x1.toList == y1.toList)) w := by
  refine eqA_of Tryz.underlying32 (by kernel_rfl) ?_
  refine eqf_cons (by rfl) (by go_simp; rfl) (by go_simp; rfl) (by go_simp) ?_
  exact eqf_last (by rfl) (by go_simp; rfl) (by go_simp; rfl) (by go_simp)
end Go.Proofs.YtpcncpegbboljaaGreatDoor.P
namespace Go.Proofs.YtpcncpegbboljaaGreatDoor.P
open Go.RowKit Go.Proofs.YtpcncpegbboljaaGreatDoorW.PrintWords Go.Proofs.YtpcncpegbboljaaGreatDoorW.PrintLast Go.Proofs.YtpcncpegbboljaaGreatDoorW.PrintMore
attribute [local go_sem] max2_int min2_int max_two min_two max_three min_three max_four min_four
set_option linter.unusedVariables false
set_option linter.unusedSimpArgs false
attribute [local go_sem high] eqA32
def muslinref08_Same.l0 : Nat → List (S32) → List (S32) → Int → Option (Bool)
  | 0, _, _, _ => none
  | k + 1, x0, x1, x5 => if x5 < (x0.length : Int) then (if 0 ≤ x5 then (if x5 < (x1.length : Int) then (if (!((((rd_T32 x0 x5).f0).toList) == (((rd_T32 x1 x5).f0).toList)) || (!((((rd_T32 x0 x5).f1).toList) == (((rd_T32 x1 x5).f1).toList)))) = true then (some false) else (muslinref08_Same.l0 k x0 x1 (wrap64 (x5 + 1)))) else (none)) else (none)) else (some true)
def muslinref08_Same.f (k : Nat) (l0 : List (S32)) (l1 : List (S32)) : Option (Bool) := if (l0.length : Int) = (l1.length : Int) then (muslinref08_Same.l0 k l0 l1 0) else (some false)
theorem muslinref08_Same.mono_l : ∀ k, (∀ y0 y1 y2, LeO (muslinref08_Same.l0 k y0 y1 y2) (muslinref08_Same.l0 (k + 1) y0 y1 y2))
  | 0 => fun _ _ _ r h => by simp [muslinref08_Same.l0] at h
  | k + 1 => by
    have ih0 := muslinref08_Same.mono_l k
    · intro y0 y1 y2
      unfold muslinref08_Same.l0
      repeat' first
      | (with_reducible exact ih0 _ _ _)
      | (with_reducible exact LeO.refl _)
      | (with_reducible exact LeO.none _)
      | (with_reducible refine LeO.ite ?_ ?_)
      | (with_reducible refine LeO.bind ?_ (fun _ => ?_))
      | exact ih0 _ _ _
      | exact LeO.none _
      | refine LeO.ite ?_ ?_
      | refine LeO.bind ?_ (fun _ => ?_)
theorem muslinref08_Same.mono : ∀ a0 a1 k, LeO (muslinref08_Same.f k a0 a1) (muslinref08_Same.f (k + 1) a0 a1) := by
  intro a0 a1 k; have ih0 := muslinref08_Same.mono_l k; unfold muslinref08_Same.f
  repeat' first
      | (with_reducible exact ih0 _ _ _)
      | (with_reducible exact LeO.refl _)
      | (with_reducible exact LeO.none _)
      | (with_reducible refine LeO.ite ?_ ?_)
      | (with_reducible refine LeO.bind ?_ (fun _ => ?_))
      | exact ih0 _ _ _
      | exact LeO.none _
      | refine LeO.ite ?_ ?_
      | refine LeO.bind ?_ (fun _ => ?_)
set_option maxHeartbeats 8000000 in
set_option maxRecDepth 100000 in
theorem muslinref08_Same.calls (k : Nat) (A0 : Option Addr) (c0 : Nat) (l0 : List (S32)) (A1 : Option Addr) (c1 : Nat) (l1 : List (S32)) (r : Bool) (w : World) (hr0 : Kd.C k32 w A0 l0.length l0) (hc0 : l0.length ≤ c0) (hr1 : Kd.C k32 w A1 l1.length l1) (hc1 : l1.length ≤ c1) (h : muslinref08_Same.f k l0 l1 = some r) :
    Calls Tryz.prog 10 #[.slice A0 l0.length c0, .slice A1 l1.length c1] w fun e w' => e = .returned (.bool r) ∧ Drawn0 w w' := by
  have hu32 := Tryz.underlying32; have HR0 := Aside0.mk hr0; have HC0 := Aside0.mk hc0; clear hr0 hc0; have HR1 := Aside0.mk hr1; have HC1 := Aside0.mk hc1; clear hr1 hc1; have H : (if (l0.length : Int) = (l1.length : Int) then (muslinref08_Same.l0 k l0 l1 0) else (some false)) = some r := h; clear h
  by_cases c3 : (l0.length : Int) = (l1.length : Int)
  case neg =>
    rw [if_neg c3] at H; have c3b0 : ((l0.length : Int) == (l1.length : Int)) = false := beq_eq_false_iff_ne.mpr c3; have c3b1 : ((l0.length : Int) != (l1.length : Int)) = true := bne_iff_ne.mpr c3
    have c3b2 : (l0.length == l1.length) = false := by first | simpa using c3 | (simp at c3 ⊢; omega)
    obtain rfl := Option.some.inj H
    go_enter Tryz.func10, Tryz.ntmps10
    go_wp2
    repeat (go_quiet (fail); try go_wp2)
    go_ret
    exact ⟨by first | rfl | (simp; done) | (simp [*]; done), by repeat (first | exact Drawn0.refl _ | apply Drawn0.step)⟩
  rw [if_pos c3] at H; have c3b0 : ((l0.length : Int) == (l1.length : Int)) = true := beq_iff_eq.mpr c3; have c3b1 : ((l0.length : Int) != (l1.length : Int)) = false := bne_eq_false_iff_eq.mpr c3
  have c3b2 : (l0.length == l1.length) = true := by first | simpa using c3 | (simp at c3 ⊢; omega)
  clear c3; have H' := Aside0.mk H; clear H
  go_enter Tryz.func10, Tryz.ntmps10
  go_wp2
  repeat (go_quiet (fail); try go_wp2)
  go_loopg [5] k (fun kq v5 w' => ∃ (x5_1 : Int), v5 = .int .i64 x5_1 ∧ Aside0 (muslinref08_Same.l0 kq l0 l1 x5_1 = some r) ∧ Aside0 (kq ≤ k) ∧ Drawn0 w w')
  case atStart => exact ⟨(0), (by first | rfl | (simp; done) | (simp [*]; done)), H', ⟨Nat.le_refl _⟩, by repeat (first | exact Drawn0.refl _ | apply Drawn0.step)⟩
  case round =>
    clear H'; (try clear c1); (try clear p2); (try clear c3); (try clear c3b0); (try clear c3b1); (try clear c3b2); obtain ⟨x5_1, rfl, HA, HK1, ⟨m1, rfl⟩⟩ := hrel
    cases gk with
    | zero => exact absurd HA.out (by simp [muslinref08_Same.l0])
    | succ k1 =>
      have H := HA.out; clear HA; simp only [muslinref08_Same.l0] at H
      by_cases c4 : x5_1 < (l0.length : Int)
      case neg =>
        rw [if_neg c4] at H; have c4b0 : decide (x5_1 < (l0.length : Int)) = false := decide_eq_false c4; clear c4; obtain rfl := Option.some.inj H
        go_wp2
        repeat (go_quiet (fail); try go_wp2)
        go_ret
        exact ⟨by first | rfl | (simp; done) | (simp [*]; done), by repeat (first | exact Drawn0.refl _ | apply Drawn0.step)⟩
      rw [if_pos c4] at H; have c4b0 : decide (x5_1 < (l0.length : Int)) = true := decide_eq_true c4; clear c4
      by_cases c5 : 0 ≤ x5_1
      case neg =>
        rw [if_neg c5] at H
        exact absurd H (by simp)
      rw [if_pos c5] at H; have c5b0 : decide (0 ≤ x5_1) = true := decide_eq_true c5; clear c5
      by_cases c6 : x5_1 < (l1.length : Int)
      case neg =>
        rw [if_neg c6] at H
        exact absurd H (by simp)
      rw [if_pos c6] at H; have c6b0 : decide (x5_1 < (l1.length : Int)) = true := decide_eq_true c6; clear c6
      by_cases c7 : (!((((rd_T32 l0 x5_1).f0).toList) == (((rd_T32 l1 x5_1).f0).toList)) || (!((((rd_T32 l0 x5_1).f1).toList) == (((rd_T32 l1 x5_1).f1).toList)))) = true
      case pos =>
        rw [if_pos c7] at H; have c7b0 : (!((((rd_T32 l0 x5_1).f0).toList) == (((rd_T32 l1 x5_1).f0).toList)) || (!((((rd_T32 l0 x5_1).f1).toList) == (((rd_T32 l1 x5_1).f1).toList)))) = true := c7; clear c7; obtain rfl := Option.some.inj H; have p101 : 0 ≤ (x5_1 : Int) := of_decide_eq_true (by first | (with_reducible assumption) | assumption); have q101 : x5_1 < (l0.length : Int) := of_decide_eq_true (by first | (with_reducible assumption) | assumption); obtain ⟨ad101, e101, hx101_0, hx101_1⟩ := at_T32 HR0.out x5_1 p101 q101; cases e101; replace p101 := eq_true p101; replace q101 := eq_true q101; have p102 : 0 ≤ (x5_1 : Int) := of_decide_eq_true (by first | (with_reducible assumption) | assumption); have q102 : x5_1 < (l1.length : Int) := of_decide_eq_true (by first | (with_reducible assumption) | assumption); obtain ⟨ad102, e102, hx102_0, hx102_1⟩ := at_T32 HR1.out x5_1 p102 q102; cases e102; replace p102 := eq_true p102; replace q102 := eq_true q102
        go_wp2
        repeat (go_quiet (fail); try go_wp2)
        go_ret
        exact ⟨by first | rfl | (simp; done) | (simp [*]; done), by repeat (first | exact Drawn0.refl _ | apply Drawn0.step)⟩
      rw [if_neg c7] at H
      have c7b0 : (!((((rd_T32 l0 x5_1).f0).toList) == (((rd_T32 l1 x5_1).f0).toList)) || (!((((rd_T32 l0 x5_1).f1).toList) == (((rd_T32 l1 x5_1).f1).toList)))) = false := by simpa using c7
      clear c7; have H' := Aside0.mk H; clear H; have p101 : 0 ≤ (x5_1 : Int) := of_decide_eq_true (by first | (with_reducible assumption) | assumption); have q101 : x5_1 < (l0.length : Int) := of_decide_eq_true (by first | (with_reducible assumption) | assumption); obtain ⟨ad101, e101, hx101_0, hx101_1⟩ := at_T32 HR0.out x5_1 p101 q101; cases e101; replace p101 := eq_true p101; replace q101 := eq_true q101; have p102 : 0 ≤ (x5_1 : Int) := of_decide_eq_true (by first | (with_reducible assumption) | assumption); have q102 : x5_1 < (l1.length : Int) := of_decide_eq_true (by first | (with_reducible assumption) | assumption); obtain ⟨ad102, e102, hx102_0, hx102_1⟩ := at_T32 HR1.out x5_1 p102 q102; cases e102; replace p102 := eq_true p102; replace q102 := eq_true q102
      go_wp2
      repeat (go_quiet (fail); try go_wp2)
      go_roundg k1
      case measure => have := HK1.out; omega
      case rel => exact ⟨(wrap64 (x5_1 + 1)), (by first | rfl | (simp; done) | (simp [*]; done)), H', ⟨by have := HK1.out; omega⟩, by repeat (first | exact Drawn0.refl _ | apply Drawn0.step)⟩
def muslinlaw08_live.f (k : Nat)  : Option (Bool) := (addr_Parse.f (⟨#[34, 65, 44, 32, 92, 34, 66, 34, 32, 60, 97, 64, 98, 62, 44, 32, 99, 64, 100, 32, 40, 67, 32, 40, 120, 41, 41, 44, 32, 61, 63, 97, 115, 99, 105, 105, 63, 81, 63, 68, 63, 61, 32, 60, 98, 97, 100, 62, 59, 32, 101, 64, 102, 44, 44]⟩ : ByteArray)).bind fun t103 => ((addr_Write.f (([(⟨(⟨#[65, 32, 34]⟩ : ByteArray), (⟨#[97, 64, 98]⟩ : ByteArray)⟩ : S32), (⟨(⟨#[]⟩ : ByteArray), (⟨#[99, 64, 100]⟩ : ByteArray)⟩ : S32), (⟨(⟨#[195, 169]⟩ : ByteArray), (⟨#[101, 64, 102]⟩ : ByteArray)⟩ : S32)] : List (S32)))).bind fun bt109 => ((addr_Write.f (([(⟨(⟨#[]⟩ : ByteArray), (⟨#[120]⟩ : ByteArray)⟩ : S32)] : List (S32)))).bind fun bt114 => ((muslinref08_Same.f k t103 (([(⟨(⟨#[65, 44, 32, 34, 66]⟩ : ByteArray), (⟨#[97, 64, 98]⟩ : ByteArray)⟩ : S32), (⟨(⟨#[67, 32, 40, 120, 41]⟩ : ByteArray), (⟨#[99, 64, 100]⟩ : ByteArray)⟩ : S32), (⟨(⟨#[68]⟩ : ByteArray), (⟨#[]⟩ : ByteArray)⟩ : S32), (⟨(⟨#[]⟩ : ByteArray), (⟨#[101, 64, 102]⟩ : ByteArray)⟩ : S32)] : List (S32)))).bind fun t119 => (if t119 = true then (if bt109.1.toList = ([34, 65, 32, 92, 34, 34, 32, 60, 97, 64, 98, 62, 44, 32, 99, 64, 100, 44, 32, 61, 63, 117, 116, 102, 45, 56, 63, 66, 63, 119, 54, 107, 61, 63, 61, 32, 60, 101, 64, 102, 62] : List UInt8) then (if bt109.2 = 0 then (if bt114.2 = 1 then ((addr_Good.f (⟨#[97, 64, 98]⟩ : ByteArray)).bind fun t120 => (if t120 = true then ((addr_Good.f (⟨#[97, 64]⟩ : ByteArray)).bind fun t121 => (some (!t121))) else (some false))) else (some false)) else (some false)) else (some false)) else (some false)))))
theorem muslinlaw08_live.mono : ∀ k, LeO (muslinlaw08_live.f k ) (muslinlaw08_live.f (k + 1) ) := by
  intro  k; unfold muslinlaw08_live.f
  repeat' first
      | (with_reducible exact muslinref08_Same.mono _ _ _)
      | (with_reducible exact LeO.refl _)
      | (with_reducible exact LeO.none _)
      | (with_reducible refine LeO.ite ?_ ?_)
      | (with_reducible refine LeO.bind ?_ (fun _ => ?_))
      | exact muslinref08_Same.mono _ _ _
      | exact LeO.none _
      | refine LeO.ite ?_ ?_
      | refine LeO.bind ?_ (fun _ => ?_)
set_option maxHeartbeats 8000000 in
set_option maxRecDepth 100000 in
theorem muslinlaw08_live.calls (k : Nat)  (r : Bool) (w : World) (hGl : Glob w) (h : muslinlaw08_live.f k  = some r) :
    Calls Tryz.prog 9 #[] w fun e w' => e = .returned (.bool r) ∧ Below w.heap.size w w' := by
  have HGl := Aside0.mk hGl; clear hGl; have hu32 := Tryz.underlying32; have HB := Aside0.mk (Below.refl w.heap.size w); have H : ((addr_Parse.f (⟨#[34, 65, 44, 32, 92, 34, 66, 34, 32, 60, 97, 64, 98, 62, 44, 32, 99, 64, 100, 32, 40, 67, 32, 40, 120, 41, 41, 44, 32, 61, 63, 97, 115, 99, 105, 105, 63, 81, 63, 68, 63, 61, 32, 60, 98, 97, 100, 62, 59, 32, 101, 64, 102, 44, 44]⟩ : ByteArray)).bind fun t103 => ((addr_Write.f (([(⟨(⟨#[65, 32, 34]⟩ : ByteArray), (⟨#[97, 64, 98]⟩ : ByteArray)⟩ : S32), (⟨(⟨#[]⟩ : ByteArray), (⟨#[99, 64, 100]⟩ : ByteArray)⟩ : S32), (⟨(⟨#[195, 169]⟩ : ByteArray), (⟨#[101, 64, 102]⟩ : ByteArray)⟩ : S32)] : List (S32)))).bind fun bt109 => ((addr_Write.f (([(⟨(⟨#[]⟩ : ByteArray), (⟨#[120]⟩ : ByteArray)⟩ : S32)] : List (S32)))).bind fun bt114 => ((muslinref08_Same.f k t103 (([(⟨(⟨#[65, 44, 32, 34, 66]⟩ : ByteArray), (⟨#[97, 64, 98]⟩ : ByteArray)⟩ : S32), (⟨(⟨#[67, 32, 40, 120, 41]⟩ : ByteArray), (⟨#[99, 64, 100]⟩ : ByteArray)⟩ : S32), (⟨(⟨#[68]⟩ : ByteArray), (⟨#[]⟩ : ByteArray)⟩ : S32), (⟨(⟨#[]⟩ : ByteArray), (⟨#[101, 64, 102]⟩ : ByteArray)⟩ : S32)] : List (S32)))).bind fun t119 => (if t119 = true then (if bt109.1.toList = ([34, 65, 32, 92, 34, 34, 32, 60, 97, 64, 98, 62, 44, 32, 99, 64, 100, 44, 32, 61, 63, 117, 116, 102, 45, 56, 63, 66, 63, 119, 54, 107, 61, 63, 61, 32, 60, 101, 64, 102, 62] : List UInt8) then (if bt109.2 = 0 then (if bt114.2 = 1 then ((addr_Good.f (⟨#[97, 64, 98]⟩ : ByteArray)).bind fun t120 => (if t120 = true then ((addr_Good.f (⟨#[97, 64]⟩ : ByteArray)).bind fun t121 => (some (!t121))) else (some false))) else (some false)) else (some false)) else (some false)) else (some false)))))) = some r := h; clear h; replace H := Option.bind_eq_some_iff.mp H; obtain ⟨t103, A10, H⟩ := H; replace H : ((addr_Write.f (([(⟨(⟨#[65, 32, 34]⟩ : ByteArray), (⟨#[97, 64, 98]⟩ : ByteArray)⟩ : S32), (⟨(⟨#[]⟩ : ByteArray), (⟨#[99, 64, 100]⟩ : ByteArray)⟩ : S32), (⟨(⟨#[195, 169]⟩ : ByteArray), (⟨#[101, 64, 102]⟩ : ByteArray)⟩ : S32)] : List (S32)))).bind fun bt109 => ((addr_Write.f (([(⟨(⟨#[]⟩ : ByteArray), (⟨#[120]⟩ : ByteArray)⟩ : S32)] : List (S32)))).bind fun bt114 => ((muslinref08_Same.f k t103 (([(⟨(⟨#[65, 44, 32, 34, 66]⟩ : ByteArray), (⟨#[97, 64, 98]⟩ : ByteArray)⟩ : S32), (⟨(⟨#[67, 32, 40, 120, 41]⟩ : ByteArray), (⟨#[99, 64, 100]⟩ : ByteArray)⟩ : S32), (⟨(⟨#[68]⟩ : ByteArray), (⟨#[]⟩ : ByteArray)⟩ : S32), (⟨(⟨#[]⟩ : ByteArray), (⟨#[101, 64, 102]⟩ : ByteArray)⟩ : S32)] : List (S32)))).bind fun t119 => (if t119 = true then (if bt109.1.toList = ([34, 65, 32, 92, 34, 34, 32, 60, 97, 64, 98, 62, 44, 32, 99, 64, 100, 44, 32, 61, 63, 117, 116, 102, 45, 56, 63, 66, 63, 119, 54, 107, 61, 63, 61, 32, 60, 101, 64, 102, 62] : List UInt8) then (if bt109.2 = 0 then (if bt114.2 = 1 then ((addr_Good.f (⟨#[97, 64, 98]⟩ : ByteArray)).bind fun t120 => (if t120 = true then ((addr_Good.f (⟨#[97, 64]⟩ : ByteArray)).bind fun t121 => (some (!t121))) else (some false))) else (some false)) else (some false)) else (some false)) else (some false))))) = some r := H; have A1 := Aside0.mk A10; clear A10; obtain ⟨y106, hy106⟩ : ∃ y_ : List (S32), y_ = (([(⟨(⟨#[65, 32, 34]⟩ : ByteArray), (⟨#[97, 64, 98]⟩ : ByteArray)⟩ : S32), (⟨(⟨#[]⟩ : ByteArray), (⟨#[99, 64, 100]⟩ : ByteArray)⟩ : S32), (⟨(⟨#[195, 169]⟩ : ByteArray), (⟨#[101, 64, 102]⟩ : ByteArray)⟩ : S32)] : List (S32))) := ⟨_, rfl⟩
  replace H : ((addr_Write.f y106).bind fun bt109 => ((addr_Write.f (([(⟨(⟨#[]⟩ : ByteArray), (⟨#[120]⟩ : ByteArray)⟩ : S32)] : List (S32)))).bind fun bt114 => ((muslinref08_Same.f k t103 (([(⟨(⟨#[65, 44, 32, 34, 66]⟩ : ByteArray), (⟨#[97, 64, 98]⟩ : ByteArray)⟩ : S32), (⟨(⟨#[67, 32, 40, 120, 41]⟩ : ByteArray), (⟨#[99, 64, 100]⟩ : ByteArray)⟩ : S32), (⟨(⟨#[68]⟩ : ByteArray), (⟨#[]⟩ : ByteArray)⟩ : S32), (⟨(⟨#[]⟩ : ByteArray), (⟨#[101, 64, 102]⟩ : ByteArray)⟩ : S32)] : List (S32)))).bind fun t119 => (if t119 = true then (if bt109.1.toList = ([34, 65, 32, 92, 34, 34, 32, 60, 97, 64, 98, 62, 44, 32, 99, 64, 100, 44, 32, 61, 63, 117, 116, 102, 45, 56, 63, 66, 63, 119, 54, 107, 61, 63, 61, 32, 60, 101, 64, 102, 62] : List UInt8) then (if bt109.2 = 0 then (if bt114.2 = 1 then ((addr_Good.f (⟨#[97, 64, 98]⟩ : ByteArray)).bind fun t120 => (if t120 = true then ((addr_Good.f (⟨#[97, 64]⟩ : ByteArray)).bind fun t121 => (some (!t121))) else (some false))) else (some false)) else (some false)) else (some false)) else (some false))))) = some r := by first | (rw [hy106]; with_reducible exact H) | (have H2_ := (Option.bind_some _ _).symm.trans H; rw [hy106]; with_reducible exact H2_) | (have H2_ := (Option.bind_some _ _).symm.trans H; with_reducible exact H2_) | with_reducible exact H | (rw [hy106]; exact H) | exact H
  have Ny106 := Aside0.mk hy106; clear hy106; replace H := Option.bind_eq_some_iff.mp H; obtain ⟨⟨t109, t110⟩, A20, H⟩ := H; replace H : ((addr_Write.f (([(⟨(⟨#[]⟩ : ByteArray), (⟨#[120]⟩ : ByteArray)⟩ : S32)] : List (S32)))).bind fun bt114 => ((muslinref08_Same.f k t103 (([(⟨(⟨#[65, 44, 32, 34, 66]⟩ : ByteArray), (⟨#[97, 64, 98]⟩ : ByteArray)⟩ : S32), (⟨(⟨#[67, 32, 40, 120, 41]⟩ : ByteArray), (⟨#[99, 64, 100]⟩ : ByteArray)⟩ : S32), (⟨(⟨#[68]⟩ : ByteArray), (⟨#[]⟩ : ByteArray)⟩ : S32), (⟨(⟨#[]⟩ : ByteArray), (⟨#[101, 64, 102]⟩ : ByteArray)⟩ : S32)] : List (S32)))).bind fun t119 => (if t119 = true then (if t109.toList = ([34, 65, 32, 92, 34, 34, 32, 60, 97, 64, 98, 62, 44, 32, 99, 64, 100, 44, 32, 61, 63, 117, 116, 102, 45, 56, 63, 66, 63, 119, 54, 107, 61, 63, 61, 32, 60, 101, 64, 102, 62] : List UInt8) then (if t110 = 0 then (if bt114.2 = 1 then ((addr_Good.f (⟨#[97, 64, 98]⟩ : ByteArray)).bind fun t120 => (if t120 = true then ((addr_Good.f (⟨#[97, 64]⟩ : ByteArray)).bind fun t121 => (some (!t121))) else (some false))) else (some false)) else (some false)) else (some false)) else (some false)))) = some r := H; have A2 := Aside0.mk A20; clear A20; obtain ⟨y111, hy111⟩ : ∃ y_ : List (S32), y_ = (([(⟨(⟨#[]⟩ : ByteArray), (⟨#[120]⟩ : ByteArray)⟩ : S32)] : List (S32))) := ⟨_, rfl⟩
  replace H : ((addr_Write.f y111).bind fun bt114 => ((muslinref08_Same.f k t103 (([(⟨(⟨#[65, 44, 32, 34, 66]⟩ : ByteArray), (⟨#[97, 64, 98]⟩ : ByteArray)⟩ : S32), (⟨(⟨#[67, 32, 40, 120, 41]⟩ : ByteArray), (⟨#[99, 64, 100]⟩ : ByteArray)⟩ : S32), (⟨(⟨#[68]⟩ : ByteArray), (⟨#[]⟩ : ByteArray)⟩ : S32), (⟨(⟨#[]⟩ : ByteArray), (⟨#[101, 64, 102]⟩ : ByteArray)⟩ : S32)] : List (S32)))).bind fun t119 => (if t119 = true then (if t109.toList = ([34, 65, 32, 92, 34, 34, 32, 60, 97, 64, 98, 62, 44, 32, 99, 64, 100, 44, 32, 61, 63, 117, 116, 102, 45, 56, 63, 66, 63, 119, 54, 107, 61, 63, 61, 32, 60, 101, 64, 102, 62] : List UInt8) then (if t110 = 0 then (if bt114.2 = 1 then ((addr_Good.f (⟨#[97, 64, 98]⟩ : ByteArray)).bind fun t120 => (if t120 = true then ((addr_Good.f (⟨#[97, 64]⟩ : ByteArray)).bind fun t121 => (some (!t121))) else (some false))) else (some false)) else (some false)) else (some false)) else (some false)))) = some r := by first | (rw [hy111]; with_reducible exact H) | (have H2_ := (Option.bind_some _ _).symm.trans H; rw [hy111]; with_reducible exact H2_) | (have H2_ := (Option.bind_some _ _).symm.trans H; with_reducible exact H2_) | with_reducible exact H | (rw [hy111]; exact H) | exact H
  have Ny111 := Aside0.mk hy111; clear hy111; replace H := Option.bind_eq_some_iff.mp H; obtain ⟨⟨t114, t115⟩, A30, H⟩ := H; replace H : ((muslinref08_Same.f k t103 (([(⟨(⟨#[65, 44, 32, 34, 66]⟩ : ByteArray), (⟨#[97, 64, 98]⟩ : ByteArray)⟩ : S32), (⟨(⟨#[67, 32, 40, 120, 41]⟩ : ByteArray), (⟨#[99, 64, 100]⟩ : ByteArray)⟩ : S32), (⟨(⟨#[68]⟩ : ByteArray), (⟨#[]⟩ : ByteArray)⟩ : S32), (⟨(⟨#[]⟩ : ByteArray), (⟨#[101, 64, 102]⟩ : ByteArray)⟩ : S32)] : List (S32)))).bind fun t119 => (if t119 = true then (if t109.toList = ([34, 65, 32, 92, 34, 34, 32, 60, 97, 64, 98, 62, 44, 32, 99, 64, 100, 44, 32, 61, 63, 117, 116, 102, 45, 56, 63, 66, 63, 119, 54, 107, 61, 63, 61, 32, 60, 101, 64, 102, 62] : List UInt8) then (if t110 = 0 then (if t115 = 1 then ((addr_Good.f (⟨#[97, 64, 98]⟩ : ByteArray)).bind fun t120 => (if t120 = true then ((addr_Good.f (⟨#[97, 64]⟩ : ByteArray)).bind fun t121 => (some (!t121))) else (some false))) else (some false)) else (some false)) else (some false)) else (some false))) = some r := H; have A3 := Aside0.mk A30; clear A30; obtain ⟨y116, hy116⟩ : ∃ y_ : List (S32), y_ = (([(⟨(⟨#[65, 44, 32, 34, 66]⟩ : ByteArray), (⟨#[97, 64, 98]⟩ : ByteArray)⟩ : S32), (⟨(⟨#[67, 32, 40, 120, 41]⟩ : ByteArray), (⟨#[99, 64, 100]⟩ : ByteArray)⟩ : S32), (⟨(⟨#[68]⟩ : ByteArray), (⟨#[]⟩ : ByteArray)⟩ : S32), (⟨(⟨#[]⟩ : ByteArray), (⟨#[101, 64, 102]⟩ : ByteArray)⟩ : S32)] : List (S32))) := ⟨_, rfl⟩
  replace H : ((muslinref08_Same.f k t103 y116).bind fun t119 => (if t119 = true then (if t109.toList = ([34, 65, 32, 92, 34, 34, 32, 60, 97, 64, 98, 62, 44, 32, 99, 64, 100, 44, 32, 61, 63, 117, 116, 102, 45, 56, 63, 66, 63, 119, 54, 107, 61, 63, 61, 32, 60, 101, 64, 102, 62] : List UInt8) then (if t110 = 0 then (if t115 = 1 then ((addr_Good.f (⟨#[97, 64, 98]⟩ : ByteArray)).bind fun t120 => (if t120 = true then ((addr_Good.f (⟨#[97, 64]⟩ : ByteArray)).bind fun t121 => (some (!t121))) else (some false))) else (some false)) else (some false)) else (some false)) else (some false))) = some r := by first | (rw [hy116]; with_reducible exact H) | (have H2_ := (Option.bind_some _ _).symm.trans H; rw [hy116]; with_reducible exact H2_) | (have H2_ := (Option.bind_some _ _).symm.trans H; with_reducible exact H2_) | with_reducible exact H | (rw [hy116]; exact H) | exact H
  have Ny116 := Aside0.mk hy116; clear hy116; replace H := Option.bind_eq_some_iff.mp H; obtain ⟨t119, A40, H⟩ := H; replace H : (if t119 = true then (if t109.toList = ([34, 65, 32, 92, 34, 34, 32, 60, 97, 64, 98, 62, 44, 32, 99, 64, 100, 44, 32, 61, 63, 117, 116, 102, 45, 56, 63, 66, 63, 119, 54, 107, 61, 63, 61, 32, 60, 101, 64, 102, 62] : List UInt8) then (if t110 = 0 then (if t115 = 1 then ((addr_Good.f (⟨#[97, 64, 98]⟩ : ByteArray)).bind fun t120 => (if t120 = true then ((addr_Good.f (⟨#[97, 64]⟩ : ByteArray)).bind fun t121 => (some (!t121))) else (some false))) else (some false)) else (some false)) else (some false)) else (some false)) = some r := H; have A4 := Aside0.mk A40; clear A40
  by_cases c5 : t119 = true
  case neg =>
    replace c5 := Bool.eq_false_iff.mpr c5; subst c5
    have H1 : (some false) = some r := by rw [if_neg (show ¬ (false = true) by decide)] at H; exact H
    clear H; have H := H1; clear H1; obtain rfl := Option.some.inj H
    go_enter Tryz.func9, Tryz.ntmps9
    go_wp2_with (first | ((with_reducible refine gate_callee (f := 11) rfl ?_); refine goesL_ (some 6) rfl rfl Tryz.func11 (by kernel_rfl) rfl #[.string (⟨#[34, 65, 44, 32, 92, 34, 66, 34, 32, 60, 97, 64, 98, 62, 44, 32, 99, 64, 100, 32, 40, 67, 32, 40, 120, 41, 41, 44, 32, 61, 63, 97, 115, 99, 105, 105, 63, 81, 63, 68, 63, 61, 32, 60, 98, 97, 100, 62, 59, 32, 101, 64, 102, 44, 44]⟩ : ByteArray)] rfl (by (try simp only [List.map_toArray, List.map_cons, List.map_nil]); first | done | rfl | (simp only [List.length_drop, List.length_take]; rfl)) ?_; (with_reducible refine (addr_Parse.calls (⟨#[34, 65, 44, 32, 92, 34, 66, 34, 32, 60, 97, 64, 98, 62, 44, 32, 99, 64, 100, 32, 40, 67, 32, 40, 120, 41, 41, 44, 32, 61, 63, 97, 115, 99, 105, 105, 63, 81, 63, 68, 63, 61, 32, 60, 98, 97, 100, 62, 59, 32, 101, 64, 102, 44, 44]⟩ : ByteArray) t103 _ ?sideGl A1.out).mono ?_); (case sideGl => exact HGl.out.below (by repeat (first | (with_reducible first | exact HB.out | apply below_alloc | apply pw_below_drewN | apply below_drew1) | exact HB.out))); rintro e w80 ⟨v104, rfl, ho0, hb⟩; refine ⟨_, rfl, ?_⟩; have n0_ := Aside0.mk (Kd.R_lower ho0 (below_size (by repeat (first | (with_reducible first | exact HB.out | apply below_alloc | apply pw_below_drewN | apply below_drew1) | exact HB.out)))); have n1_ := Aside0.mk (below_step (by repeat (first | (with_reducible first | exact HB.out | apply below_alloc | apply pw_below_drewN | apply below_drew1) | exact HB.out)) hb); clear HB; have HO105 := n0_; have HB := n1_; clear n0_ n1_; (try clear hb); (try clear hb2); (try clear hk); (try clear hi); (try clear ho0)) | ((with_reducible refine gate_dst (N := 11) rfl ?_); refine Kd.R_lit k32 _ 32 ?hg (N := 11) ?hd (xs := ([(⟨(⟨#[65, 32, 34]⟩ : ByteArray), (⟨#[97, 64, 98]⟩ : ByteArray)⟩ : S32), (⟨(⟨#[]⟩ : ByteArray), (⟨#[99, 64, 100]⟩ : ByteArray)⟩ : S32), (⟨(⟨#[195, 169]⟩ : ByteArray), (⟨#[101, 64, 102]⟩ : ByteArray)⟩ : S32)] : List (S32))) (inner := [.string (⟨#[65, 32, 34]⟩ : ByteArray), .string (⟨#[97, 64, 98]⟩ : ByteArray), .string (⟨#[]⟩ : ByteArray), .string (⟨#[99, 64, 100]⟩ : ByteArray), .string (⟨#[195, 169]⟩ : ByteArray), .string (⟨#[101, 64, 102]⟩ : ByteArray)]) (ok := fun _ => True) (okp := fun _ => True) ?hr ?hp (fun _ hk => hk) trivial (Below.refl _ _) (Nat.le_refl _) (by simp) ?_; (case hd => rfl); (case hg => rfl); (case hr => first | (go_simp; done) | (go_simp; rfl)); (case hp => exact (Reps.c2 (show Kd.M k32 _ _ _ (⟨(⟨#[65, 32, 34]⟩ : ByteArray), (⟨#[97, 64, 98]⟩ : ByteArray)⟩ : S32) [.string (⟨#[65, 32, 34]⟩ : ByteArray), .string (⟨#[97, 64, 98]⟩ : ByteArray)] from (k32_mkM _ _ _ (⟨(⟨#[65, 32, 34]⟩ : ByteArray), (⟨#[97, 64, 98]⟩ : ByteArray)⟩ : S32) )) (Reps.c2 (show Kd.M k32 _ _ _ (⟨(⟨#[]⟩ : ByteArray), (⟨#[99, 64, 100]⟩ : ByteArray)⟩ : S32) [.string (⟨#[]⟩ : ByteArray), .string (⟨#[99, 64, 100]⟩ : ByteArray)] from (k32_mkM _ _ _ (⟨(⟨#[]⟩ : ByteArray), (⟨#[99, 64, 100]⟩ : ByteArray)⟩ : S32) )) (Reps.c2 (show Kd.M k32 _ _ _ (⟨(⟨#[195, 169]⟩ : ByteArray), (⟨#[101, 64, 102]⟩ : ByteArray)⟩ : S32) [.string (⟨#[195, 169]⟩ : ByteArray), .string (⟨#[101, 64, 102]⟩ : ByteArray)] from (k32_mkM _ _ _ (⟨(⟨#[195, 169]⟩ : ByteArray), (⟨#[101, 64, 102]⟩ : ByteArray)⟩ : S32) )) (Reps.none _ _))))); intro v107 w81 ho82 hb hg_ hnew_; clear hg_ hnew_; (first | rw [← Ny106.out] at ho82 | (simp only [Int.reduceToNat] at ho82; rw [← Ny106.out] at ho82)); have n0_ := Aside0.mk (Kd.R_elder' (by (with_reducible repeat (first | apply Kd.R_alloc | apply Kd.R_drewN | apply Kd.R_drew)); exact HO105.out) (Kd.R_base ho82) hb); have n1_ := Aside0.mk (Kd.R_lower (Kd.R_new' ho82 (Kd.R_lt (by (with_reducible repeat (first | apply Kd.R_alloc | apply Kd.R_drewN | apply Kd.R_drew)); exact HO105.out))) (below_size (by repeat (first | (with_reducible first | exact HB.out | apply below_alloc | apply pw_below_drewN | apply below_drew1) | exact HB.out)))); have n2_ := Aside0.mk (below_step (by repeat (first | (with_reducible first | exact HB.out | apply below_alloc | apply pw_below_drewN | apply below_drew1) | exact HB.out)) hb); clear HO105; clear HB; have HO105 := n0_; have HO108 := n1_; have HB := n2_; clear n0_ n1_ n2_; clear hb ho82; obtain ⟨Ao83, co83, eo83⟩ := Kd.R_slice HO108.out; subst eo83) | ((with_reducible refine gate_callee (f := 16) rfl ?_); refine goesL_ (some 12) rfl rfl Tryz.func16 (by kernel_rfl) rfl #[.slice Ao83 y106.length co83] rfl (by (try simp only [List.map_toArray, List.map_cons, List.map_nil]); first | done | rfl | (simp only [List.length_drop, List.length_take]; rfl)) ?_; (with_reducible refine (addr_Write.calls _ _ y106 t109 t110 _ ?side1 ?side2 ?sideGl A2.out).mono ?_); (case sideGl => exact HGl.out.below (by repeat (first | (with_reducible first | exact HB.out | apply below_alloc | apply pw_below_drewN | apply below_drew1) | exact HB.out))); (case side1 => repeat (first | exact (Kd.R_reads' HO108.out).2.2 | (with_reducible refine Kd.C_alloc ?_ _) | (with_reducible refine Kd.C_drewN ?_ _) | (with_reducible refine Kd.C_drew ?_))); (case side2 => exact (Kd.R_reads' HO108.out).2.1); rintro e w84 ⟨rfl, hb⟩; refine ⟨_, rfl, ?_⟩; have n0_ := Aside0.mk (Kd.R_below (by (with_reducible repeat (first | apply Kd.R_alloc | apply Kd.R_drewN | apply Kd.R_drew)); exact HO105.out) hb); have n1_ := Aside0.mk (Kd.R_below (by (with_reducible repeat (first | apply Kd.R_alloc | apply Kd.R_drewN | apply Kd.R_drew)); exact HO108.out) hb); have n2_ := Aside0.mk (below_step (by repeat (first | (with_reducible first | exact HB.out | apply below_alloc | apply pw_below_drewN | apply below_drew1) | exact HB.out)) hb); clear HO105; clear HO108; clear HB; have HO105 := n0_; have HO108 := n1_; have HB := n2_; clear n0_ n1_ n2_; (try clear hb); (try clear hb2); (try clear hk); (try clear hi)) | ((with_reducible refine gate_dst (N := 17) rfl ?_); refine Kd.R_lit k32 _ 32 ?hg (N := 17) ?hd (xs := ([(⟨(⟨#[]⟩ : ByteArray), (⟨#[120]⟩ : ByteArray)⟩ : S32)] : List (S32))) (inner := [.string (⟨#[]⟩ : ByteArray), .string (⟨#[120]⟩ : ByteArray)]) (ok := fun _ => True) (okp := fun _ => True) ?hr ?hp (fun _ hk => hk) trivial (Below.refl _ _) (Nat.le_refl _) (by simp) ?_; (case hd => rfl); (case hg => rfl); (case hr => first | (go_simp; done) | (go_simp; rfl)); (case hp => exact (Reps.c2 (show Kd.M k32 _ _ _ (⟨(⟨#[]⟩ : ByteArray), (⟨#[120]⟩ : ByteArray)⟩ : S32) [.string (⟨#[]⟩ : ByteArray), .string (⟨#[120]⟩ : ByteArray)] from (k32_mkM _ _ _ (⟨(⟨#[]⟩ : ByteArray), (⟨#[120]⟩ : ByteArray)⟩ : S32) )) (Reps.none _ _))); intro v112 w85 ho86 hb hg_ hnew_; clear hg_ hnew_; (first | rw [← Ny111.out] at ho86 | (simp only [Int.reduceToNat] at ho86; rw [← Ny111.out] at ho86)); have n0_ := Aside0.mk (Kd.R_elder' (by (with_reducible repeat (first | apply Kd.R_alloc | apply Kd.R_drewN | apply Kd.R_drew)); exact HO105.out) (Kd.R_base ho86) hb); have n1_ := Aside0.mk (Kd.R_elder' (by (with_reducible repeat (first | apply Kd.R_alloc | apply Kd.R_drewN | apply Kd.R_drew)); exact HO108.out) (Kd.R_base ho86) hb); have n2_ := Aside0.mk (Kd.R_lower (Kd.R_new' (Kd.R_new' ho86 (Kd.R_lt (by (with_reducible repeat (first | apply Kd.R_alloc | apply Kd.R_drewN | apply Kd.R_drew)); exact HO105.out))) (Kd.R_lt (by (with_reducible repeat (first | apply Kd.R_alloc | apply Kd.R_drewN | apply Kd.R_drew)); exact HO108.out))) (below_size (by repeat (first | (with_reducible first | exact HB.out | apply below_alloc | apply pw_below_drewN | apply below_drew1) | exact HB.out)))); have n3_ := Aside0.mk (below_step (by repeat (first | (with_reducible first | exact HB.out | apply below_alloc | apply pw_below_drewN | apply below_drew1) | exact HB.out)) hb); clear HO105; clear HO108; clear HB; have HO105 := n0_; have HO108 := n1_; have HO113 := n2_; have HB := n3_; clear n0_ n1_ n2_ n3_; clear hb ho86; obtain ⟨Ao87, co87, eo87⟩ := Kd.R_slice HO113.out; subst eo87) | ((with_reducible refine gate_callee (f := 16) rfl ?_); refine goesL_ (some 18) rfl rfl Tryz.func16 (by kernel_rfl) rfl #[.slice Ao87 y111.length co87] rfl (by (try simp only [List.map_toArray, List.map_cons, List.map_nil]); first | done | rfl | (simp only [List.length_drop, List.length_take]; rfl)) ?_; (with_reducible refine (addr_Write.calls _ _ y111 t114 t115 _ ?side1 ?side2 ?sideGl A3.out).mono ?_); (case sideGl => exact HGl.out.below (by repeat (first | (with_reducible first | exact HB.out | apply below_alloc | apply pw_below_drewN | apply below_drew1) | exact HB.out))); (case side1 => repeat (first | exact (Kd.R_reads' HO113.out).2.2 | (with_reducible refine Kd.C_alloc ?_ _) | (with_reducible refine Kd.C_drewN ?_ _) | (with_reducible refine Kd.C_drew ?_))); (case side2 => exact (Kd.R_reads' HO113.out).2.1); rintro e w88 ⟨rfl, hb⟩; refine ⟨_, rfl, ?_⟩; have n0_ := Aside0.mk (Kd.R_below (by (with_reducible repeat (first | apply Kd.R_alloc | apply Kd.R_drewN | apply Kd.R_drew)); exact HO105.out) hb); have n1_ := Aside0.mk (Kd.R_below (by (with_reducible repeat (first | apply Kd.R_alloc | apply Kd.R_drewN | apply Kd.R_drew)); exact HO108.out) hb); have n2_ := Aside0.mk (Kd.R_below (by (with_reducible repeat (first | apply Kd.R_alloc | apply Kd.R_drewN | apply Kd.R_drew)); exact HO113.out) hb); have n3_ := Aside0.mk (below_step (by repeat (first | (with_reducible first | exact HB.out | apply below_alloc | apply pw_below_drewN | apply below_drew1) | exact HB.out)) hb); clear HO105; clear HO108; clear HO113; clear HB; have HO105 := n0_; have HO108 := n1_; have HO113 := n2_; have HB := n3_; clear n0_ n1_ n2_ n3_; (try clear hb); (try clear hb2); (try clear hk); (try clear hi)) | ((with_reducible refine gate_dst (N := 26) rfl ?_); refine Kd.R_lit k32 _ 32 ?hg (N := 26) ?hd (xs := ([(⟨(⟨#[65, 44, 32, 34, 66]⟩ : ByteArray), (⟨#[97, 64, 98]⟩ : ByteArray)⟩ : S32), (⟨(⟨#[67, 32, 40, 120, 41]⟩ : ByteArray), (⟨#[99, 64, 100]⟩ : ByteArray)⟩ : S32), (⟨(⟨#[68]⟩ : ByteArray), (⟨#[]⟩ : ByteArray)⟩ : S32), (⟨(⟨#[]⟩ : ByteArray), (⟨#[101, 64, 102]⟩ : ByteArray)⟩ : S32)] : List (S32))) (inner := [.string (⟨#[65, 44, 32, 34, 66]⟩ : ByteArray), .string (⟨#[97, 64, 98]⟩ : ByteArray), .string (⟨#[67, 32, 40, 120, 41]⟩ : ByteArray), .string (⟨#[99, 64, 100]⟩ : ByteArray), .string (⟨#[68]⟩ : ByteArray), .string (⟨#[]⟩ : ByteArray), .string (⟨#[]⟩ : ByteArray), .string (⟨#[101, 64, 102]⟩ : ByteArray)]) (ok := fun _ => True) (okp := fun _ => True) ?hr ?hp (fun _ hk => hk) trivial (Below.refl _ _) (Nat.le_refl _) (by simp) ?_; (case hd => rfl); (case hg => rfl); (case hr => first | (go_simp; done) | (go_simp; rfl)); (case hp => exact (Reps.c2 (show Kd.M k32 _ _ _ (⟨(⟨#[65, 44, 32, 34, 66]⟩ : ByteArray), (⟨#[97, 64, 98]⟩ : ByteArray)⟩ : S32) [.string (⟨#[65, 44, 32, 34, 66]⟩ : ByteArray), .string (⟨#[97, 64, 98]⟩ : ByteArray)] from (k32_mkM _ _ _ (⟨(⟨#[65, 44, 32, 34, 66]⟩ : ByteArray), (⟨#[97, 64, 98]⟩ : ByteArray)⟩ : S32) )) (Reps.c2 (show Kd.M k32 _ _ _ (⟨(⟨#[67, 32, 40, 120, 41]⟩ : ByteArray), (⟨#[99, 64, 100]⟩ : ByteArray)⟩ : S32) [.string (⟨#[67, 32, 40, 120, 41]⟩ : ByteArray), .string (⟨#[99, 64, 100]⟩ : ByteArray)] from (k32_mkM _ _ _ (⟨(⟨#[67, 32, 40, 120, 41]⟩ : ByteArray), (⟨#[99, 64, 100]⟩ : ByteArray)⟩ : S32) )) (Reps.c2 (show Kd.M k32 _ _ _ (⟨(⟨#[68]⟩ : ByteArray), (⟨#[]⟩ : ByteArray)⟩ : S32) [.string (⟨#[68]⟩ : ByteArray), .string (⟨#[]⟩ : ByteArray)] from (k32_mkM _ _ _ (⟨(⟨#[68]⟩ : ByteArray), (⟨#[]⟩ : ByteArray)⟩ : S32) )) (Reps.c2 (show Kd.M k32 _ _ _ (⟨(⟨#[]⟩ : ByteArray), (⟨#[101, 64, 102]⟩ : ByteArray)⟩ : S32) [.string (⟨#[]⟩ : ByteArray), .string (⟨#[101, 64, 102]⟩ : ByteArray)] from (k32_mkM _ _ _ (⟨(⟨#[]⟩ : ByteArray), (⟨#[101, 64, 102]⟩ : ByteArray)⟩ : S32) )) (Reps.none _ _)))))); intro v117 w89 ho90 hb hg_ hnew_; clear hg_ hnew_; (first | rw [← Ny116.out] at ho90 | (simp only [Int.reduceToNat] at ho90; rw [← Ny116.out] at ho90)); have n0_ := Aside0.mk (Kd.R_elder' (by (with_reducible repeat (first | apply Kd.R_alloc | apply Kd.R_drewN | apply Kd.R_drew)); exact HO105.out) (Kd.R_base ho90) hb); have n1_ := Aside0.mk (Kd.R_elder' (by (with_reducible repeat (first | apply Kd.R_alloc | apply Kd.R_drewN | apply Kd.R_drew)); exact HO108.out) (Kd.R_base ho90) hb); have n2_ := Aside0.mk (Kd.R_elder' (by (with_reducible repeat (first | apply Kd.R_alloc | apply Kd.R_drewN | apply Kd.R_drew)); exact HO113.out) (Kd.R_base ho90) hb); have n3_ := Aside0.mk (Kd.R_lower (Kd.R_new' (Kd.R_new' (Kd.R_new' ho90 (Kd.R_lt (by (with_reducible repeat (first | apply Kd.R_alloc | apply Kd.R_drewN | apply Kd.R_drew)); exact HO105.out))) (Kd.R_lt (by (with_reducible repeat (first | apply Kd.R_alloc | apply Kd.R_drewN | apply Kd.R_drew)); exact HO108.out))) (Kd.R_lt (by (with_reducible repeat (first | apply Kd.R_alloc | apply Kd.R_drewN | apply Kd.R_drew)); exact HO113.out))) (below_size (by repeat (first | (with_reducible first | exact HB.out | apply below_alloc | apply pw_below_drewN | apply below_drew1) | exact HB.out)))); have n4_ := Aside0.mk (below_step (by repeat (first | (with_reducible first | exact HB.out | apply below_alloc | apply pw_below_drewN | apply below_drew1) | exact HB.out)) hb); clear HO105; clear HO108; clear HO113; clear HB; have HO105 := n0_; have HO108 := n1_; have HO113 := n2_; have HO118 := n3_; have HB := n4_; clear n0_ n1_ n2_ n3_ n4_; clear hb ho90; obtain ⟨Ao91, co91, eo91⟩ := Kd.R_slice HO105.out; subst eo91; obtain ⟨Ao92, co92, eo92⟩ := Kd.R_slice HO118.out; subst eo92) | ((with_reducible refine gate_callee (f := 10) rfl ?_); refine goesL_ (some 27) rfl rfl Tryz.func10 (by kernel_rfl) rfl #[.slice Ao91 t103.length co91, .slice Ao92 y116.length co92] rfl (by (try simp only [List.map_toArray, List.map_cons, List.map_nil]); first | done | rfl | (simp only [List.length_drop, List.length_take]; rfl)) ?_; (with_reducible refine (muslinref08_Same.calls k _ _ t103 _ _ y116 false _ ?side1 ?side2 ?side3 ?side4 A4.out).mono ?_); (case side1 => repeat (first | exact (Kd.R_reads' HO105.out).2.2 | (with_reducible refine Kd.C_alloc ?_ _) | (with_reducible refine Kd.C_drewN ?_ _) | (with_reducible refine Kd.C_drew ?_))); (case side2 => exact (Kd.R_reads' HO105.out).2.1); (case side3 => repeat (first | exact (Kd.R_reads' HO118.out).2.2 | (with_reducible refine Kd.C_alloc ?_ _) | (with_reducible refine Kd.C_drewN ?_ _) | (with_reducible refine Kd.C_drew ?_))); (case side4 => exact (Kd.R_reads' HO118.out).2.1); rintro e w' ⟨rfl, ⟨nd, rfl⟩⟩; refine ⟨_, rfl, ?_⟩))
    go_ret
    exact ⟨by first | rfl | (simp [errW_none, errW_some] <;> rfl) | (simp [*, errW_none, errW_some] <;> rfl), by repeat (first | (with_reducible first | exact HB.out | apply below_alloc | apply pw_below_drewN | apply below_drew1) | exact HB.out)⟩
  subst c5
  have H1 : (if t109.toList = ([34, 65, 32, 92, 34, 34, 32, 60, 97, 64, 98, 62, 44, 32, 99, 64, 100, 44, 32, 61, 63, 117, 116, 102, 45, 56, 63, 66, 63, 119, 54, 107, 61, 63, 61, 32, 60, 101, 64, 102, 62] : List UInt8) then (if t110 = 0 then (if t115 = 1 then ((addr_Good.f (⟨#[97, 64, 98]⟩ : ByteArray)).bind fun t120 => (if t120 = true then ((addr_Good.f (⟨#[97, 64]⟩ : ByteArray)).bind fun t121 => (some (!t121))) else (some false))) else (some false)) else (some false)) else (some false)) = some r := by rw [if_pos rfl] at H; exact H
  clear H; have H := H1; clear H1
  by_cases c6 : t109.toList = ([34, 65, 32, 92, 34, 34, 32, 60, 97, 64, 98, 62, 44, 32, 99, 64, 100, 44, 32, 61, 63, 117, 116, 102, 45, 56, 63, 66, 63, 119, 54, 107, 61, 63, 61, 32, 60, 101, 64, 102, 62] : List UInt8)
  case neg =>
    rw [if_neg c6] at H; have c6b0 : (t109.toList == ([34, 65, 32, 92, 34, 34, 32, 60, 97, 64, 98, 62, 44, 32, 99, 64, 100, 44, 32, 61, 63, 117, 116, 102, 45, 56, 63, 66, 63, 119, 54, 107, 61, 63, 61, 32, 60, 101, 64, 102, 62] : List UInt8)) = false := beq_eq_false_iff_ne.mpr c6; have c6b1 : (t109.toList != ([34, 65, 32, 92, 34, 34, 32, 60, 97, 64, 98, 62, 44, 32, 99, 64, 100, 44, 32, 61, 63, 117, 116, 102, 45, 56, 63, 66, 63, 119, 54, 107, 61, 63, 61, 32, 60, 101, 64, 102, 62] : List UInt8)) = true := bne_iff_ne.mpr c6; obtain rfl := Option.some.inj H
    go_enter Tryz.func9, Tryz.ntmps9
    go_wp2_with (first | ((with_reducible refine gate_callee (f := 11) rfl ?_); refine goesL_ (some 6) rfl rfl Tryz.func11 (by kernel_rfl) rfl #[.string (⟨#[34, 65, 44, 32, 92, 34, 66, 34, 32, 60, 97, 64, 98, 62, 44, 32, 99, 64, 100, 32, 40, 67, 32, 40, 120, 41, 41, 44, 32, 61, 63, 97, 115, 99, 105, 105, 63, 81, 63, 68, 63, 61, 32, 60, 98, 97, 100, 62, 59, 32, 101, 64, 102, 44, 44]⟩ : ByteArray)] rfl (by (try simp only [List.map_toArray, List.map_cons, List.map_nil]); first | done | rfl | (simp only [List.length_drop, List.length_take]; rfl)) ?_; (with_reducible refine (addr_Parse.calls (⟨#[34, 65, 44, 32, 92, 34, 66, 34, 32, 60, 97, 64, 98, 62, 44, 32, 99, 64, 100, 32, 40, 67, 32, 40, 120, 41, 41, 44, 32, 61, 63, 97, 115, 99, 105, 105, 63, 81, 63, 68, 63, 61, 32, 60, 98, 97, 100, 62, 59, 32, 101, 64, 102, 44, 44]⟩ : ByteArray) t103 _ ?sideGl A1.out).mono ?_); (case sideGl => exact HGl.out.below (by repeat (first | (with_reducible first | exact HB.out | apply below_alloc | apply pw_below_drewN | apply below_drew1) | exact HB.out))); rintro e w67 ⟨v104, rfl, ho0, hb⟩; refine ⟨_, rfl, ?_⟩; have n0_ := Aside0.mk (Kd.R_lower ho0 (below_size (by repeat (first | (with_reducible first | exact HB.out | apply below_alloc | apply pw_below_drewN | apply below_drew1) | exact HB.out)))); have n1_ := Aside0.mk (below_step (by repeat (first | (with_reducible first | exact HB.out | apply below_alloc | apply pw_below_drewN | apply below_drew1) | exact HB.out)) hb); clear HB; have HO105 := n0_; have HB := n1_; clear n0_ n1_; (try clear hb); (try clear hb2); (try clear hk); (try clear hi); (try clear ho0)) | ((with_reducible refine gate_dst (N := 11) rfl ?_); refine Kd.R_lit k32 _ 32 ?hg (N := 11) ?hd (xs := ([(⟨(⟨#[65, 32, 34]⟩ : ByteArray), (⟨#[97, 64, 98]⟩ : ByteArray)⟩ : S32), (⟨(⟨#[]⟩ : ByteArray), (⟨#[99, 64, 100]⟩ : ByteArray)⟩ : S32), (⟨(⟨#[195, 169]⟩ : ByteArray), (⟨#[101, 64, 102]⟩ : ByteArray)⟩ : S32)] : List (S32))) (inner := [.string (⟨#[65, 32, 34]⟩ : ByteArray), .string (⟨#[97, 64, 98]⟩ : ByteArray), .string (⟨#[]⟩ : ByteArray), .string (⟨#[99, 64, 100]⟩ : ByteArray), .string (⟨#[195, 169]⟩ : ByteArray), .string (⟨#[101, 64, 102]⟩ : ByteArray)]) (ok := fun _ => True) (okp := fun _ => True) ?hr ?hp (fun _ hk => hk) trivial (Below.refl _ _) (Nat.le_refl _) (by simp) ?_; (case hd => rfl); (case hg => rfl); (case hr => first | (go_simp; done) | (go_simp; rfl)); (case hp => exact (Reps.c2 (show Kd.M k32 _ _ _ (⟨(⟨#[65, 32, 34]⟩ : ByteArray), (⟨#[97, 64, 98]⟩ : ByteArray)⟩ : S32) [.string (⟨#[65, 32, 34]⟩ : ByteArray), .string (⟨#[97, 64, 98]⟩ : ByteArray)] from (k32_mkM _ _ _ (⟨(⟨#[65, 32, 34]⟩ : ByteArray), (⟨#[97, 64, 98]⟩ : ByteArray)⟩ : S32) )) (Reps.c2 (show Kd.M k32 _ _ _ (⟨(⟨#[]⟩ : ByteArray), (⟨#[99, 64, 100]⟩ : ByteArray)⟩ : S32) [.string (⟨#[]⟩ : ByteArray), .string (⟨#[99, 64, 100]⟩ : ByteArray)] from (k32_mkM _ _ _ (⟨(⟨#[]⟩ : ByteArray), (⟨#[99, 64, 100]⟩ : ByteArray)⟩ : S32) )) (Reps.c2 (show Kd.M k32 _ _ _ (⟨(⟨#[195, 169]⟩ : ByteArray), (⟨#[101, 64, 102]⟩ : ByteArray)⟩ : S32) [.string (⟨#[195, 169]⟩ : ByteArray), .string (⟨#[101, 64, 102]⟩ : ByteArray)] from (k32_mkM _ _ _ (⟨(⟨#[195, 169]⟩ : ByteArray), (⟨#[101, 64, 102]⟩ : ByteArray)⟩ : S32) )) (Reps.none _ _))))); intro v107 w68 ho69 hb hg_ hnew_; clear hg_ hnew_; (first | rw [← Ny106.out] at ho69 | (simp only [Int.reduceToNat] at ho69; rw [← Ny106.out] at ho69)); have n0_ := Aside0.mk (Kd.R_elder' (by (with_reducible repeat (first | apply Kd.R_alloc | apply Kd.R_drewN | apply Kd.R_drew)); exact HO105.out) (Kd.R_base ho69) hb); have n1_ := Aside0.mk (Kd.R_lower (Kd.R_new' ho69 (Kd.R_lt (by (with_reducible repeat (first | apply Kd.R_alloc | apply Kd.R_drewN | apply Kd.R_drew)); exact HO105.out))) (below_size (by repeat (first | (with_reducible first | exact HB.out | apply below_alloc | apply pw_below_drewN | apply below_drew1) | exact HB.out)))); have n2_ := Aside0.mk (below_step (by repeat (first | (with_reducible first | exact HB.out | apply below_alloc | apply pw_below_drewN | apply below_drew1) | exact HB.out)) hb); clear HO105; clear HB; have HO105 := n0_; have HO108 := n1_; have HB := n2_; clear n0_ n1_ n2_; clear hb ho69; obtain ⟨Ao70, co70, eo70⟩ := Kd.R_slice HO108.out; subst eo70) | ((with_reducible refine gate_callee (f := 16) rfl ?_); refine goesL_ (some 12) rfl rfl Tryz.func16 (by kernel_rfl) rfl #[.slice Ao70 y106.length co70] rfl (by (try simp only [List.map_toArray, List.map_cons, List.map_nil]); first | done | rfl | (simp only [List.length_drop, List.length_take]; rfl)) ?_; (with_reducible refine (addr_Write.calls _ _ y106 t109 t110 _ ?side1 ?side2 ?sideGl A2.out).mono ?_); (case sideGl => exact HGl.out.below (by repeat (first | (with_reducible first | exact HB.out | apply below_alloc | apply pw_below_drewN | apply below_drew1) | exact HB.out))); (case side1 => repeat (first | exact (Kd.R_reads' HO108.out).2.2 | (with_reducible refine Kd.C_alloc ?_ _) | (with_reducible refine Kd.C_drewN ?_ _) | (with_reducible refine Kd.C_drew ?_))); (case side2 => exact (Kd.R_reads' HO108.out).2.1); rintro e w71 ⟨rfl, hb⟩; refine ⟨_, rfl, ?_⟩; have n0_ := Aside0.mk (Kd.R_below (by (with_reducible repeat (first | apply Kd.R_alloc | apply Kd.R_drewN | apply Kd.R_drew)); exact HO105.out) hb); have n1_ := Aside0.mk (Kd.R_below (by (with_reducible repeat (first | apply Kd.R_alloc | apply Kd.R_drewN | apply Kd.R_drew)); exact HO108.out) hb); have n2_ := Aside0.mk (below_step (by repeat (first | (with_reducible first | exact HB.out | apply below_alloc | apply pw_below_drewN | apply below_drew1) | exact HB.out)) hb); clear HO105; clear HO108; clear HB; have HO105 := n0_; have HO108 := n1_; have HB := n2_; clear n0_ n1_ n2_; (try clear hb); (try clear hb2); (try clear hk); (try clear hi)) | ((with_reducible refine gate_dst (N := 17) rfl ?_); refine Kd.R_lit k32 _ 32 ?hg (N := 17) ?hd (xs := ([(⟨(⟨#[]⟩ : ByteArray), (⟨#[120]⟩ : ByteArray)⟩ : S32)] : List (S32))) (inner := [.string (⟨#[]⟩ : ByteArray), .string (⟨#[120]⟩ : ByteArray)]) (ok := fun _ => True) (okp := fun _ => True) ?hr ?hp (fun _ hk => hk) trivial (Below.refl _ _) (Nat.le_refl _) (by simp) ?_; (case hd => rfl); (case hg => rfl); (case hr => first | (go_simp; done) | (go_simp; rfl)); (case hp => exact (Reps.c2 (show Kd.M k32 _ _ _ (⟨(⟨#[]⟩ : ByteArray), (⟨#[120]⟩ : ByteArray)⟩ : S32) [.string (⟨#[]⟩ : ByteArray), .string (⟨#[120]⟩ : ByteArray)] from (k32_mkM _ _ _ (⟨(⟨#[]⟩ : ByteArray), (⟨#[120]⟩ : ByteArray)⟩ : S32) )) (Reps.none _ _))); intro v112 w72 ho73 hb hg_ hnew_; clear hg_ hnew_; (first | rw [← Ny111.out] at ho73 | (simp only [Int.reduceToNat] at ho73; rw [← Ny111.out] at ho73)); have n0_ := Aside0.mk (Kd.R_elder' (by (with_reducible repeat (first | apply Kd.R_alloc | apply Kd.R_drewN | apply Kd.R_drew)); exact HO105.out) (Kd.R_base ho73) hb); have n1_ := Aside0.mk (Kd.R_elder' (by (with_reducible repeat (first | apply Kd.R_alloc | apply Kd.R_drewN | apply Kd.R_drew)); exact HO108.out) (Kd.R_base ho73) hb); have n2_ := Aside0.mk (Kd.R_lower (Kd.R_new' (Kd.R_new' ho73 (Kd.R_lt (by (with_reducible repeat (first | apply Kd.R_alloc | apply Kd.R_drewN | apply Kd.R_drew)); exact HO105.out))) (Kd.R_lt (by (with_reducible repeat (first | apply Kd.R_alloc | apply Kd.R_drewN | apply Kd.R_drew)); exact HO108.out))) (below_size (by repeat (first | (with_reducible first | exact HB.out | apply below_alloc | apply pw_below_drewN | apply below_drew1) | exact HB.out)))); have n3_ := Aside0.mk (below_step (by repeat (first | (with_reducible first | exact HB.out | apply below_alloc | apply pw_below_drewN | apply below_drew1) | exact HB.out)) hb); clear HO105; clear HO108; clear HB; have HO105 := n0_; have HO108 := n1_; have HO113 := n2_; have HB := n3_; clear n0_ n1_ n2_ n3_; clear hb ho73; obtain ⟨Ao74, co74, eo74⟩ := Kd.R_slice HO113.out; subst eo74) | ((with_reducible refine gate_callee (f := 16) rfl ?_); refine goesL_ (some 18) rfl rfl Tryz.func16 (by kernel_rfl) rfl #[.slice Ao74 y111.length co74] rfl (by (try simp only [List.map_toArray, List.map_cons, List.map_nil]); first | done | rfl | (simp only [List.length_drop, List.length_take]; rfl)) ?_; (with_reducible refine (addr_Write.calls _ _ y111 t114 t115 _ ?side1 ?side2 ?sideGl A3.out).mono ?_); (case sideGl => exact HGl.out.below (by repeat (first | (with_reducible first | exact HB.out | apply below_alloc | apply pw_below_drewN | apply below_drew1) | exact HB.out))); (case side1 => repeat (first | exact (Kd.R_reads' HO113.out).2.2 | (with_reducible refine Kd.C_alloc ?_ _) | (with_reducible refine Kd.C_drewN ?_ _) | (with_reducible refine Kd.C_drew ?_))); (case side2 => exact (Kd.R_reads' HO113.out).2.1); rintro e w75 ⟨rfl, hb⟩; refine ⟨_, rfl, ?_⟩; have n0_ := Aside0.mk (Kd.R_below (by (with_reducible repeat (first | apply Kd.R_alloc | apply Kd.R_drewN | apply Kd.R_drew)); exact HO105.out) hb); have n1_ := Aside0.mk (Kd.R_below (by (with_reducible repeat (first | apply Kd.R_alloc | apply Kd.R_drewN | apply Kd.R_drew)); exact HO108.out) hb); have n2_ := Aside0.mk (Kd.R_below (by (with_reducible repeat (first | apply Kd.R_alloc | apply Kd.R_drewN | apply Kd.R_drew)); exact HO113.out) hb); have n3_ := Aside0.mk (below_step (by repeat (first | (with_reducible first | exact HB.out | apply below_alloc | apply pw_below_drewN | apply below_drew1) | exact HB.out)) hb); clear HO105; clear HO108; clear HO113; clear HB; have HO105 := n0_; have HO108 := n1_; have HO113 := n2_; have HB := n3_; clear n0_ n1_ n2_ n3_; (try clear hb); (try clear hb2); (try clear hk); (try clear hi)) | ((with_reducible refine gate_dst (N := 26) rfl ?_); refine Kd.R_lit k32 _ 32 ?hg (N := 26) ?hd (xs := ([(⟨(⟨#[65, 44, 32, 34, 66]⟩ : ByteArray), (⟨#[97, 64, 98]⟩ : ByteArray)⟩ : S32), (⟨(⟨#[67, 32, 40, 120, 41]⟩ : ByteArray), (⟨#[99, 64, 100]⟩ : ByteArray)⟩ : S32), (⟨(⟨#[68]⟩ : ByteArray), (⟨#[]⟩ : ByteArray)⟩ : S32), (⟨(⟨#[]⟩ : ByteArray), (⟨#[101, 64, 102]⟩ : ByteArray)⟩ : S32)] : List (S32))) (inner := [.string (⟨#[65, 44, 32, 34, 66]⟩ : ByteArray), .string (⟨#[97, 64, 98]⟩ : ByteArray), .string (⟨#[67, 32, 40, 120, 41]⟩ : ByteArray), .string (⟨#[99, 64, 100]⟩ : ByteArray), .string (⟨#[68]⟩ : ByteArray), .string (⟨#[]⟩ : ByteArray), .string (⟨#[]⟩ : ByteArray), .string (⟨#[101, 64, 102]⟩ : ByteArray)]) (ok := fun _ => True) (okp := fun _ => True) ?hr ?hp (fun _ hk => hk) trivial (Below.refl _ _) (Nat.le_refl _) (by simp) ?_; (case hd => rfl); (case hg => rfl); (case hr => first | (go_simp; done) | (go_simp; rfl)); (case hp => exact (Reps.c2 (show Kd.M k32 _ _ _ (⟨(⟨#[65, 44, 32, 34, 66]⟩ : ByteArray), (⟨#[97, 64, 98]⟩ : ByteArray)⟩ : S32) [.string (⟨#[65, 44, 32, 34, 66]⟩ : ByteArray), .string (⟨#[97, 64, 98]⟩ : ByteArray)] from (k32_mkM _ _ _ (⟨(⟨#[65, 44, 32, 34, 66]⟩ : ByteArray), (⟨#[97, 64, 98]⟩ : ByteArray)⟩ : S32) )) (Reps.c2 (show Kd.M k32 _ _ _ (⟨(⟨#[67, 32, 40, 120, 41]⟩ : ByteArray), (⟨#[99, 64, 100]⟩ : ByteArray)⟩ : S32) [.string (⟨#[67, 32, 40, 120, 41]⟩ : ByteArray), .string (⟨#[99, 64, 100]⟩ : ByteArray)] from (k32_mkM _ _ _ (⟨(⟨#[67, 32, 40, 120, 41]⟩ : ByteArray), (⟨#[99, 64, 100]⟩ : ByteArray)⟩ : S32) )) (Reps.c2 (show Kd.M k32 _ _ _ (⟨(⟨#[68]⟩ : ByteArray), (⟨#[]⟩ : ByteArray)⟩ : S32) [.string (⟨#[68]⟩ : ByteArray), .string (⟨#[]⟩ : ByteArray)] from (k32_mkM _ _ _ (⟨(⟨#[68]⟩ : ByteArray), (⟨#[]⟩ : ByteArray)⟩ : S32) )) (Reps.c2 (show Kd.M k32 _ _ _ (⟨(⟨#[]⟩ : ByteArray), (⟨#[101, 64, 102]⟩ : ByteArray)⟩ : S32) [.string (⟨#[]⟩ : ByteArray), .string (⟨#[101, 64, 102]⟩ : ByteArray)] from (k32_mkM _ _ _ (⟨(⟨#[]⟩ : ByteArray), (⟨#[101, 64, 102]⟩ : ByteArray)⟩ : S32) )) (Reps.none _ _)))))); intro v117 w76 ho77 hb hg_ hnew_; clear hg_ hnew_; (first | rw [← Ny116.out] at ho77 | (simp only [Int.reduceToNat] at ho77; rw [← Ny116.out] at ho77)); have n0_ := Aside0.mk (Kd.R_elder' (by (with_reducible repeat (first | apply Kd.R_alloc | apply Kd.R_drewN | apply Kd.R_drew)); exact HO105.out) (Kd.R_base ho77) hb); have n1_ := Aside0.mk (Kd.R_elder' (by (with_reducible repeat (first | apply Kd.R_alloc | apply Kd.R_drewN | apply Kd.R_drew)); exact HO108.out) (Kd.R_base ho77) hb); have n2_ := Aside0.mk (Kd.R_elder' (by (with_reducible repeat (first | apply Kd.R_alloc | apply Kd.R_drewN | apply Kd.R_drew)); exact HO113.out) (Kd.R_base ho77) hb); have n3_ := Aside0.mk (Kd.R_lower (Kd.R_new' (Kd.R_new' (Kd.R_new' ho77 (Kd.R_lt (by (with_reducible repeat (first | apply Kd.R_alloc | apply Kd.R_drewN | apply Kd.R_drew)); exact HO105.out))) (Kd.R_lt (by (with_reducible repeat (first | apply Kd.R_alloc | apply Kd.R_drewN | apply Kd.R_drew)); exact HO108.out))) (Kd.R_lt (by (with_reducible repeat (first | apply Kd.R_alloc | apply Kd.R_drewN | apply Kd.R_drew)); exact HO113.out))) (below_size (by repeat (first | (with_reducible first | exact HB.out | apply below_alloc | apply pw_below_drewN | apply below_drew1) | exact HB.out)))); have n4_ := Aside0.mk (below_step (by repeat (first | (with_reducible first | exact HB.out | apply below_alloc | apply pw_below_drewN | apply below_drew1) | exact HB.out)) hb); clear HO105; clear HO108; clear HO113; clear HB; have HO105 := n0_; have HO108 := n1_; have HO113 := n2_; have HO118 := n3_; have HB := n4_; clear n0_ n1_ n2_ n3_ n4_; clear hb ho77; obtain ⟨Ao78, co78, eo78⟩ := Kd.R_slice HO105.out; subst eo78; obtain ⟨Ao79, co79, eo79⟩ := Kd.R_slice HO118.out; subst eo79) | ((with_reducible refine gate_callee (f := 10) rfl ?_); refine goesL_ (some 27) rfl rfl Tryz.func10 (by kernel_rfl) rfl #[.slice Ao78 t103.length co78, .slice Ao79 y116.length co79] rfl (by (try simp only [List.map_toArray, List.map_cons, List.map_nil]); first | done | rfl | (simp only [List.length_drop, List.length_take]; rfl)) ?_; (with_reducible refine (muslinref08_Same.calls k _ _ t103 _ _ y116 true _ ?side1 ?side2 ?side3 ?side4 A4.out).mono ?_); (case side1 => repeat (first | exact (Kd.R_reads' HO105.out).2.2 | (with_reducible refine Kd.C_alloc ?_ _) | (with_reducible refine Kd.C_drewN ?_ _) | (with_reducible refine Kd.C_drew ?_))); (case side2 => exact (Kd.R_reads' HO105.out).2.1); (case side3 => repeat (first | exact (Kd.R_reads' HO118.out).2.2 | (with_reducible refine Kd.C_alloc ?_ _) | (with_reducible refine Kd.C_drewN ?_ _) | (with_reducible refine Kd.C_drew ?_))); (case side4 => exact (Kd.R_reads' HO118.out).2.1); rintro e w' ⟨rfl, ⟨nd, rfl⟩⟩; refine ⟨_, rfl, ?_⟩))
    go_ret
    exact ⟨by first | rfl | (simp [errW_none, errW_some] <;> rfl) | (simp [*, errW_none, errW_some] <;> rfl), by repeat (first | (with_reducible first | exact HB.out | apply below_alloc | apply pw_below_drewN | apply below_drew1) | exact HB.out)⟩
  rw [if_pos c6] at H; have c6b0 : (t109.toList == ([34, 65, 32, 92, 34, 34, 32, 60, 97, 64, 98, 62, 44, 32, 99, 64, 100, 44, 32, 61, 63, 117, 116, 102, 45, 56, 63, 66, 63, 119, 54, 107, 61, 63, 61, 32, 60, 101, 64, 102, 62] : List UInt8)) = true := beq_iff_eq.mpr c6; have c6b1 : (t109.toList != ([34, 65, 32, 92, 34, 34, 32, 60, 97, 64, 98, 62, 44, 32, 99, 64, 100, 44, 32, 61, 63, 117, 116, 102, 45, 56, 63, 66, 63, 119, 54, 107, 61, 63, 61, 32, 60, 101, 64, 102, 62] : List UInt8)) = false := bne_eq_false_iff_eq.mpr c6; clear c6
  by_cases c7 : t110 = 0
  case neg =>
    rw [if_neg c7] at H; have c7b0 : (t110 == 0) = false := beq_eq_false_iff_ne.mpr c7; have c7b1 : (t110 != 0) = true := bne_iff_ne.mpr c7; obtain rfl := Option.some.inj H
    go_enter Tryz.func9, Tryz.ntmps9
    go_wp2_with (first | ((with_reducible refine gate_callee (f := 11) rfl ?_); refine goesL_ (some 6) rfl rfl Tryz.func11 (by kernel_rfl) rfl #[.string (⟨#[34, 65, 44, 32, 92, 34, 66, 34, 32, 60, 97, 64, 98, 62, 44, 32, 99, 64, 100, 32, 40, 67, 32, 40, 120, 41, 41, 44, 32, 61, 63, 97, 115, 99, 105, 105, 63, 81, 63, 68, 63, 61, 32, 60, 98, 97, 100, 62, 59, 32, 101, 64, 102, 44, 44]⟩ : ByteArray)] rfl (by (try simp only [List.map_toArray, List.map_cons, List.map_nil]); first | done | rfl | (simp only [List.length_drop, List.length_take]; rfl)) ?_; (with_reducible refine (addr_Parse.calls (⟨#[34, 65, 44, 32, 92, 34, 66, 34, 32, 60, 97, 64, 98, 62, 44, 32, 99, 64, 100, 32, 40, 67, 32, 40, 120, 41, 41, 44, 32, 61, 63, 97, 115, 99, 105, 105, 63, 81, 63, 68, 63, 61, 32, 60, 98, 97, 100, 62, 59, 32, 101, 64, 102, 44, 44]⟩ : ByteArray) t103 _ ?sideGl A1.out).mono ?_); (case sideGl => exact HGl.out.below (by repeat (first | (with_reducible first | exact HB.out | apply below_alloc | apply pw_below_drewN | apply below_drew1) | exact HB.out))); rintro e w54 ⟨v104, rfl, ho0, hb⟩; refine ⟨_, rfl, ?_⟩; have n0_ := Aside0.mk (Kd.R_lower ho0 (below_size (by repeat (first | (with_reducible first | exact HB.out | apply below_alloc | apply pw_below_drewN | apply below_drew1) | exact HB.out)))); have n1_ := Aside0.mk (below_step (by repeat (first | (with_reducible first | exact HB.out | apply below_alloc | apply pw_below_drewN | apply below_drew1) | exact HB.out)) hb); clear HB; have HO105 := n0_; have HB := n1_; clear n0_ n1_; (try clear hb); (try clear hb2); (try clear hk); (try clear hi); (try clear ho0)) | ((with_reducible refine gate_dst (N := 11) rfl ?_); refine Kd.R_lit k32 _ 32 ?hg (N := 11) ?hd (xs := ([(⟨(⟨#[65, 32, 34]⟩ : ByteArray), (⟨#[97, 64, 98]⟩ : ByteArray)⟩ : S32), (⟨(⟨#[]⟩ : ByteArray), (⟨#[99, 64, 100]⟩ : ByteArray)⟩ : S32), (⟨(⟨#[195, 169]⟩ : ByteArray), (⟨#[101, 64, 102]⟩ : ByteArray)⟩ : S32)] : List (S32))) (inner := [.string (⟨#[65, 32, 34]⟩ : ByteArray), .string (⟨#[97, 64, 98]⟩ : ByteArray), .string (⟨#[]⟩ : ByteArray), .string (⟨#[99, 64, 100]⟩ : ByteArray), .string (⟨#[195, 169]⟩ : ByteArray), .string (⟨#[101, 64, 102]⟩ : ByteArray)]) (ok := fun _ => True) (okp := fun _ => True) ?hr ?hp (fun _ hk => hk) trivial (Below.refl _ _) (Nat.le_refl _) (by simp) ?_; (case hd => rfl); (case hg => rfl); (case hr => first | (go_simp; done) | (go_simp; rfl)); (case hp => exact (Reps.c2 (show Kd.M k32 _ _ _ (⟨(⟨#[65, 32, 34]⟩ : ByteArray), (⟨#[97, 64, 98]⟩ : ByteArray)⟩ : S32) [.string (⟨#[65, 32, 34]⟩ : ByteArray), .string (⟨#[97, 64, 98]⟩ : ByteArray)] from (k32_mkM _ _ _ (⟨(⟨#[65, 32, 34]⟩ : ByteArray), (⟨#[97, 64, 98]⟩ : ByteArray)⟩ : S32) )) (Reps.c2 (show Kd.M k32 _ _ _ (⟨(⟨#[]⟩ : ByteArray), (⟨#[99, 64, 100]⟩ : ByteArray)⟩ : S32) [.string (⟨#[]⟩ : ByteArray), .string (⟨#[99, 64, 100]⟩ : ByteArray)] from (k32_mkM _ _ _ (⟨(⟨#[]⟩ : ByteArray), (⟨#[99, 64, 100]⟩ : ByteArray)⟩ : S32) )) (Reps.c2 (show Kd.M k32 _ _ _ (⟨(⟨#[195, 169]⟩ : ByteArray), (⟨#[101, 64, 102]⟩ : ByteArray)⟩ : S32) [.string (⟨#[195, 169]⟩ : ByteArray), .string (⟨#[101, 64, 102]⟩ : ByteArray)] from (k32_mkM _ _ _ (⟨(⟨#[195, 169]⟩ : ByteArray), (⟨#[101, 64, 102]⟩ : ByteArray)⟩ : S32) )) (Reps.none _ _))))); intro v107 w55 ho56 hb hg_ hnew_; clear hg_ hnew_; (first | rw [← Ny106.out] at ho56 | (simp only [Int.reduceToNat] at ho56; rw [← Ny106.out] at ho56)); have n0_ := Aside0.mk (Kd.R_elder' (by (with_reducible repeat (first | apply Kd.R_alloc | apply Kd.R_drewN | apply Kd.R_drew)); exact HO105.out) (Kd.R_base ho56) hb); have n1_ := Aside0.mk (Kd.R_lower (Kd.R_new' ho56 (Kd.R_lt (by (with_reducible repeat (first | apply Kd.R_alloc | apply Kd.R_drewN | apply Kd.R_drew)); exact HO105.out))) (below_size (by repeat (first | (with_reducible first | exact HB.out | apply below_alloc | apply pw_below_drewN | apply below_drew1) | exact HB.out)))); have n2_ := Aside0.mk (below_step (by repeat (first | (with_reducible first | exact HB.out | apply below_alloc | apply pw_below_drewN | apply below_drew1) | exact HB.out)) hb); clear HO105; clear HB; have HO105 := n0_; have HO108 := n1_; have HB := n2_; clear n0_ n1_ n2_; clear hb ho56; obtain ⟨Ao57, co57, eo57⟩ := Kd.R_slice HO108.out; subst eo57) | ((with_reducible refine gate_callee (f := 16) rfl ?_); refine goesL_ (some 12) rfl rfl Tryz.func16 (by kernel_rfl) rfl #[.slice Ao57 y106.length co57] rfl (by (try simp only [List.map_toArray, List.map_cons, List.map_nil]); first | done | rfl | (simp only [List.length_drop, List.length_take]; rfl)) ?_; (with_reducible refine (addr_Write.calls _ _ y106 t109 t110 _ ?side1 ?side2 ?sideGl A2.out).mono ?_); (case sideGl => exact HGl.out.below (by repeat (first | (with_reducible first | exact HB.out | apply below_alloc | apply pw_below_drewN | apply below_drew1) | exact HB.out))); (case side1 => repeat (first | exact (Kd.R_reads' HO108.out).2.2 | (with_reducible refine Kd.C_alloc ?_ _) | (with_reducible refine Kd.C_drewN ?_ _) | (with_reducible refine Kd.C_drew ?_))); (case side2 => exact (Kd.R_reads' HO108.out).2.1); rintro e w58 ⟨rfl, hb⟩; refine ⟨_, rfl, ?_⟩; have n0_ := Aside0.mk (Kd.R_below (by (with_reducible repeat (first | apply Kd.R_alloc | apply Kd.R_drewN | apply Kd.R_drew)); exact HO105.out) hb); have n1_ := Aside0.mk (Kd.R_below (by (with_reducible repeat (first | apply Kd.R_alloc | apply Kd.R_drewN | apply Kd.R_drew)); exact HO108.out) hb); have n2_ := Aside0.mk (below_step (by repeat (first | (with_reducible first | exact HB.out | apply below_alloc | apply pw_below_drewN | apply below_drew1) | exact HB.out)) hb); clear HO105; clear HO108; clear HB; have HO105 := n0_; have HO108 := n1_; have HB := n2_; clear n0_ n1_ n2_; (try clear hb); (try clear hb2); (try clear hk); (try clear hi)) | ((with_reducible refine gate_dst (N := 17) rfl ?_); refine Kd.R_lit k32 _ 32 ?hg (N := 17) ?hd (xs := ([(⟨(⟨#[]⟩ : ByteArray), (⟨#[120]⟩ : ByteArray)⟩ : S32)] : List (S32))) (inner := [.string (⟨#[]⟩ : ByteArray), .string (⟨#[120]⟩ : ByteArray)]) (ok := fun _ => True) (okp := fun _ => True) ?hr ?hp (fun _ hk => hk) trivial (Below.refl _ _) (Nat.le_refl _) (by simp) ?_; (case hd => rfl); (case hg => rfl); (case hr => first | (go_simp; done) | (go_simp; rfl)); (case hp => exact (Reps.c2 (show Kd.M k32 _ _ _ (⟨(⟨#[]⟩ : ByteArray), (⟨#[120]⟩ : ByteArray)⟩ : S32) [.string (⟨#[]⟩ : ByteArray), .string (⟨#[120]⟩ : ByteArray)] from (k32_mkM _ _ _ (⟨(⟨#[]⟩ : ByteArray), (⟨#[120]⟩ : ByteArray)⟩ : S32) )) (Reps.none _ _))); intro v112 w59 ho60 hb hg_ hnew_; clear hg_ hnew_; (first | rw [← Ny111.out] at ho60 | (simp only [Int.reduceToNat] at ho60; rw [← Ny111.out] at ho60)); have n0_ := Aside0.mk (Kd.R_elder' (by (with_reducible repeat (first | apply Kd.R_alloc | apply Kd.R_drewN | apply Kd.R_drew)); exact HO105.out) (Kd.R_base ho60) hb); have n1_ := Aside0.mk (Kd.R_elder' (by (with_reducible repeat (first | apply Kd.R_alloc | apply Kd.R_drewN | apply Kd.R_drew)); exact HO108.out) (Kd.R_base ho60) hb); have n2_ := Aside0.mk (Kd.R_lower (Kd.R_new' (Kd.R_new' ho60 (Kd.R_lt (by (with_reducible repeat (first | apply Kd.R_alloc | apply Kd.R_drewN | apply Kd.R_drew)); exact HO105.out))) (Kd.R_lt (by (with_reducible repeat (first | apply Kd.R_alloc | apply Kd.R_drewN | apply Kd.R_drew)); exact HO108.out))) (below_size (by repeat (first | (with_reducible first | exact HB.out | apply below_alloc | apply pw_below_drewN | apply below_drew1) | exact HB.out)))); have n3_ := Aside0.mk (below_step (by repeat (first | (with_reducible first | exact HB.out | apply below_alloc | apply pw_below_drewN | apply below_drew1) | exact HB.out)) hb); clear HO105; clear HO108; clear HB; have HO105 := n0_; have HO108 := n1_; have HO113 := n2_; have HB := n3_; clear n0_ n1_ n2_ n3_; clear hb ho60; obtain ⟨Ao61, co61, eo61⟩ := Kd.R_slice HO113.out; subst eo61) | ((with_reducible refine gate_callee (f := 16) rfl ?_); refine goesL_ (some 18) rfl rfl Tryz.func16 (by kernel_rfl) rfl #[.slice Ao61 y111.length co61] rfl (by (try simp only [List.map_toArray, List.map_cons, List.map_nil]); first | done | rfl | (simp only [List.length_drop, List.length_take]; rfl)) ?_; (with_reducible refine (addr_Write.calls _ _ y111 t114 t115 _ ?side1 ?side2 ?sideGl A3.out).mono ?_); (case sideGl => exact HGl.out.below (by repeat (first | (with_reducible first | exact HB.out | apply below_alloc | apply pw_below_drewN | apply below_drew1) | exact HB.out))); (case side1 => repeat (first | exact (Kd.R_reads' HO113.out).2.2 | (with_reducible refine Kd.C_alloc ?_ _) | (with_reducible refine Kd.C_drewN ?_ _) | (with_reducible refine Kd.C_drew ?_))); (case side2 => exact (Kd.R_reads' HO113.out).2.1); rintro e w62 ⟨rfl, hb⟩; refine ⟨_, rfl, ?_⟩; have n0_ := Aside0.mk (Kd.R_below (by (with_reducible repeat (first | apply Kd.R_alloc | apply Kd.R_drewN | apply Kd.R_drew)); exact HO105.out) hb); have n1_ := Aside0.mk (Kd.R_below (by (with_reducible repeat (first | apply Kd.R_alloc | apply Kd.R_drewN | apply Kd.R_drew)); exact HO108.out) hb); have n2_ := Aside0.mk (Kd.R_below (by (with_reducible repeat (first | apply Kd.R_alloc | apply Kd.R_drewN | apply Kd.R_drew)); exact HO113.out) hb); have n3_ := Aside0.mk (below_step (by repeat (first | (with_reducible first | exact HB.out | apply below_alloc | apply pw_below_drewN | apply below_drew1) | exact HB.out)) hb); clear HO105; clear HO108; clear HO113; clear HB; have HO105 := n0_; have HO108 := n1_; have HO113 := n2_; have HB := n3_; clear n0_ n1_ n2_ n3_; (try clear hb); (try clear hb2); (try clear hk); (try clear hi)) | ((with_reducible refine gate_dst (N := 26) rfl ?_); refine Kd.R_lit k32 _ 32 ?hg (N := 26) ?hd (xs := ([(⟨(⟨#[65, 44, 32, 34, 66]⟩ : ByteArray), (⟨#[97, 64, 98]⟩ : ByteArray)⟩ : S32), (⟨(⟨#[67, 32, 40, 120, 41]⟩ : ByteArray), (⟨#[99, 64, 100]⟩ : ByteArray)⟩ : S32), (⟨(⟨#[68]⟩ : ByteArray), (⟨#[]⟩ : ByteArray)⟩ : S32), (⟨(⟨#[]⟩ : ByteArray), (⟨#[101, 64, 102]⟩ : ByteArray)⟩ : S32)] : List (S32))) (inner := [.string (⟨#[65, 44, 32, 34, 66]⟩ : ByteArray), .string (⟨#[97, 64, 98]⟩ : ByteArray), .string (⟨#[67, 32, 40, 120, 41]⟩ : ByteArray), .string (⟨#[99, 64, 100]⟩ : ByteArray), .string (⟨#[68]⟩ : ByteArray), .string (⟨#[]⟩ : ByteArray), .string (⟨#[]⟩ : ByteArray), .string (⟨#[101, 64, 102]⟩ : ByteArray)]) (ok := fun _ => True) (okp := fun _ => True) ?hr ?hp (fun _ hk => hk) trivial (Below.refl _ _) (Nat.le_refl _) (by simp) ?_; (case hd => rfl); (case hg => rfl); (case hr => first | (go_simp; done) | (go_simp; rfl)); (case hp => exact (Reps.c2 (show Kd.M k32 _ _ _ (⟨(⟨#[65, 44, 32, 34, 66]⟩ : ByteArray), (⟨#[97, 64, 98]⟩ : ByteArray)⟩ : S32) [.string (⟨#[65, 44, 32, 34, 66]⟩ : ByteArray), .string (⟨#[97, 64, 98]⟩ : ByteArray)] from (k32_mkM _ _ _ (⟨(⟨#[65, 44, 32, 34, 66]⟩ : ByteArray), (⟨#[97, 64, 98]⟩ : ByteArray)⟩ : S32) )) (Reps.c2 (show Kd.M k32 _ _ _ (⟨(⟨#[67, 32, 40, 120, 41]⟩ : ByteArray), (⟨#[99, 64, 100]⟩ : ByteArray)⟩ : S32) [.string (⟨#[67, 32, 40, 120, 41]⟩ : ByteArray), .string (⟨#[99, 64, 100]⟩ : ByteArray)] from (k32_mkM _ _ _ (⟨(⟨#[67, 32, 40, 120, 41]⟩ : ByteArray), (⟨#[99, 64, 100]⟩ : ByteArray)⟩ : S32) )) (Reps.c2 (show Kd.M k32 _ _ _ (⟨(⟨#[68]⟩ : ByteArray), (⟨#[]⟩ : ByteArray)⟩ : S32) [.string (⟨#[68]⟩ : ByteArray), .string (⟨#[]⟩ : ByteArray)] from (k32_mkM _ _ _ (⟨(⟨#[68]⟩ : ByteArray), (⟨#[]⟩ : ByteArray)⟩ : S32) )) (Reps.c2 (show Kd.M k32 _ _ _ (⟨(⟨#[]⟩ : ByteArray), (⟨#[101, 64, 102]⟩ : ByteArray)⟩ : S32) [.string (⟨#[]⟩ : ByteArray), .string (⟨#[101, 64, 102]⟩ : ByteArray)] from (k32_mkM _ _ _ (⟨(⟨#[]⟩ : ByteArray), (⟨#[101, 64, 102]⟩ : ByteArray)⟩ : S32) )) (Reps.none _ _)))))); intro v117 w63 ho64 hb hg_ hnew_; clear hg_ hnew_; (first | rw [← Ny116.out] at ho64 | (simp only [Int.reduceToNat] at ho64; rw [← Ny116.out] at ho64)); have n0_ := Aside0.mk (Kd.R_elder' (by (with_reducible repeat (first | apply Kd.R_alloc | apply Kd.R_drewN | apply Kd.R_drew)); exact HO105.out) (Kd.R_base ho64) hb); have n1_ := Aside0.mk (Kd.R_elder' (by (with_reducible repeat (first | apply Kd.R_alloc | apply Kd.R_drewN | apply Kd.R_drew)); exact HO108.out) (Kd.R_base ho64) hb); have n2_ := Aside0.mk (Kd.R_elder' (by (with_reducible repeat (first | apply Kd.R_alloc | apply Kd.R_drewN | apply Kd.R_drew)); exact HO113.out) (Kd.R_base ho64) hb); have n3_ := Aside0.mk (Kd.R_lower (Kd.R_new' (Kd.R_new' (Kd.R_new' ho64 (Kd.R_lt (by (with_reducible repeat (first | apply Kd.R_alloc | apply Kd.R_drewN | apply Kd.R_drew)); exact HO105.out))) (Kd.R_lt (by (with_reducible repeat (first | apply Kd.R_alloc | apply Kd.R_drewN | apply Kd.R_drew)); exact HO108.out))) (Kd.R_lt (by (with_reducible repeat (first | apply Kd.R_alloc | apply Kd.R_drewN | apply Kd.R_drew)); exact HO113.out))) (below_size (by repeat (first | (with_reducible first | exact HB.out | apply below_alloc | apply pw_below_drewN | apply below_drew1) | exact HB.out)))); have n4_ := Aside0.mk (below_step (by repeat (first | (with_reducible first | exact HB.out | apply below_alloc | apply pw_below_drewN | apply below_drew1) | exact HB.out)) hb); clear HO105; clear HO108; clear HO113; clear HB; have HO105 := n0_; have HO108 := n1_; have HO113 := n2_; have HO118 := n3_; have HB := n4_; clear n0_ n1_ n2_ n3_ n4_; clear hb ho64; obtain ⟨Ao65, co65, eo65⟩ := Kd.R_slice HO105.out; subst eo65; obtain ⟨Ao66, co66, eo66⟩ := Kd.R_slice HO118.out; subst eo66) | ((with_reducible refine gate_callee (f := 10) rfl ?_); refine goesL_ (some 27) rfl rfl Tryz.func10 (by kernel_rfl) rfl #[.slice Ao65 t103.length co65, .slice Ao66 y116.length co66] rfl (by (try simp only [List.map_toArray, List.map_cons, List.map_nil]); first | done | rfl | (simp only [List.length_drop, List.length_take]; rfl)) ?_; (with_reducible refine (muslinref08_Same.calls k _ _ t103 _ _ y116 true _ ?side1 ?side2 ?side3 ?side4 A4.out).mono ?_); (case side1 => repeat (first | exact (Kd.R_reads' HO105.out).2.2 | (with_reducible refine Kd.C_alloc ?_ _) | (with_reducible refine Kd.C_drewN ?_ _) | (with_reducible refine Kd.C_drew ?_))); (case side2 => exact (Kd.R_reads' HO105.out).2.1); (case side3 => repeat (first | exact (Kd.R_reads' HO118.out).2.2 | (with_reducible refine Kd.C_alloc ?_ _) | (with_reducible refine Kd.C_drewN ?_ _) | (with_reducible refine Kd.C_drew ?_))); (case side4 => exact (Kd.R_reads' HO118.out).2.1); rintro e w' ⟨rfl, ⟨nd, rfl⟩⟩; refine ⟨_, rfl, ?_⟩))
    go_ret
    exact ⟨by first | rfl | (simp [errW_none, errW_some] <;> rfl) | (simp [*, errW_none, errW_some] <;> rfl), by repeat (first | (with_reducible first | exact HB.out | apply below_alloc | apply pw_below_drewN | apply below_drew1) | exact HB.out)⟩
  rw [if_pos c7] at H; have c7b0 : (t110 == 0) = true := beq_iff_eq.mpr c7; have c7b1 : (t110 != 0) = false := bne_eq_false_iff_eq.mpr c7; clear c7
  by_cases c8 : t115 = 1
  case neg =>
    rw [if_neg c8] at H; have c8b0 : (t115 == 1) = false := beq_eq_false_iff_ne.mpr c8; have c8b1 : (t115 != 1) = true := bne_iff_ne.mpr c8; obtain rfl := Option.some.inj H
    go_enter Tryz.func9, Tryz.ntmps9
    go_wp2_with (first | ((with_reducible refine gate_callee (f := 11) rfl ?_); refine goesL_ (some 6) rfl rfl Tryz.func11 (by kernel_rfl) rfl #[.string (⟨#[34, 65, 44, 32, 92, 34, 66, 34, 32, 60, 97, 64, 98, 62, 44, 32, 99, 64, 100, 32, 40, 67, 32, 40, 120, 41, 41, 44, 32, 61, 63, 97, 115, 99, 105, 105, 63, 81, 63, 68, 63, 61, 32, 60, 98, 97, 100, 62, 59, 32, 101, 64, 102, 44, 44]⟩ : ByteArray)] rfl (by (try simp only [List.map_toArray, List.map_cons, List.map_nil]); first | done | rfl | (simp only [List.length_drop, List.length_take]; rfl)) ?_; (with_reducible refine (addr_Parse.calls (⟨#[34, 65, 44, 32, 92, 34, 66, 34, 32, 60, 97, 64, 98, 62, 44, 32, 99, 64, 100, 32, 40, 67, 32, 40, 120, 41, 41, 44, 32, 61, 63, 97, 115, 99, 105, 105, 63, 81, 63, 68, 63, 61, 32, 60, 98, 97, 100, 62, 59, 32, 101, 64, 102, 44, 44]⟩ : ByteArray) t103 _ ?sideGl A1.out).mono ?_); (case sideGl => exact HGl.out.below (by repeat (first | (with_reducible first | exact HB.out | apply below_alloc | apply pw_below_drewN | apply below_drew1) | exact HB.out))); rintro e w41 ⟨v104, rfl, ho0, hb⟩; refine ⟨_, rfl, ?_⟩; have n0_ := Aside0.mk (Kd.R_lower ho0 (below_size (by repeat (first | (with_reducible first | exact HB.out | apply below_alloc | apply pw_below_drewN | apply below_drew1) | exact HB.out)))); have n1_ := Aside0.mk (below_step (by repeat (first | (with_reducible first | exact HB.out | apply below_alloc | apply pw_below_drewN | apply below_drew1) | exact HB.out)) hb); clear HB; have HO105 := n0_; have HB := n1_; clear n0_ n1_; (try clear hb); (try clear hb2); (try clear hk); (try clear hi); (try clear ho0)) | ((with_reducible refine gate_dst (N := 11) rfl ?_); refine Kd.R_lit k32 _ 32 ?hg (N := 11) ?hd (xs := ([(⟨(⟨#[65, 32, 34]⟩ : ByteArray), (⟨#[97, 64, 98]⟩ : ByteArray)⟩ : S32), (⟨(⟨#[]⟩ : ByteArray), (⟨#[99, 64, 100]⟩ : ByteArray)⟩ : S32), (⟨(⟨#[195, 169]⟩ : ByteArray), (⟨#[101, 64, 102]⟩ : ByteArray)⟩ : S32)] : List (S32))) (inner := [.string (⟨#[65, 32, 34]⟩ : ByteArray), .string (⟨#[97, 64, 98]⟩ : ByteArray), .string (⟨#[]⟩ : ByteArray), .string (⟨#[99, 64, 100]⟩ : ByteArray), .string (⟨#[195, 169]⟩ : ByteArray), .string (⟨#[101, 64, 102]⟩ : ByteArray)]) (ok := fun _ => True) (okp := fun _ => True) ?hr ?hp (fun _ hk => hk) trivial (Below.refl _ _) (Nat.le_refl _) (by simp) ?_; (case hd => rfl); (case hg => rfl); (case hr => first | (go_simp; done) | (go_simp; rfl)); (case hp => exact (Reps.c2 (show Kd.M k32 _ _ _ (⟨(⟨#[65, 32, 34]⟩ : ByteArray), (⟨#[97, 64, 98]⟩ : ByteArray)⟩ : S32) [.string (⟨#[65, 32, 34]⟩ : ByteArray), .string (⟨#[97, 64, 98]⟩ : ByteArray)] from (k32_mkM _ _ _ (⟨(⟨#[65, 32, 34]⟩ : ByteArray), (⟨#[97, 64, 98]⟩ : ByteArray)⟩ : S32) )) (Reps.c2 (show Kd.M k32 _ _ _ (⟨(⟨#[]⟩ : ByteArray), (⟨#[99, 64, 100]⟩ : ByteArray)⟩ : S32) [.string (⟨#[]⟩ : ByteArray), .string (⟨#[99, 64, 100]⟩ : ByteArray)] from (k32_mkM _ _ _ (⟨(⟨#[]⟩ : ByteArray), (⟨#[99, 64, 100]⟩ : ByteArray)⟩ : S32) )) (Reps.c2 (show Kd.M k32 _ _ _ (⟨(⟨#[195, 169]⟩ : ByteArray), (⟨#[101, 64, 102]⟩ : ByteArray)⟩ : S32) [.string (⟨#[195, 169]⟩ : ByteArray), .string (⟨#[101, 64, 102]⟩ : ByteArray)] from (k32_mkM _ _ _ (⟨(⟨#[195, 169]⟩ : ByteArray), (⟨#[101, 64, 102]⟩ : ByteArray)⟩ : S32) )) (Reps.none _ _))))); intro v107 w42 ho43 hb hg_ hnew_; clear hg_ hnew_; (first | rw [← Ny106.out] at ho43 | (simp only [Int.reduceToNat] at ho43; rw [← Ny106.out] at ho43)); have n0_ := Aside0.mk (Kd.R_elder' (by (with_reducible repeat (first | apply Kd.R_alloc | apply Kd.R_drewN | apply Kd.R_drew)); exact HO105.out) (Kd.R_base ho43) hb); have n1_ := Aside0.mk (Kd.R_lower (Kd.R_new' ho43 (Kd.R_lt (by (with_reducible repeat (first | apply Kd.R_alloc | apply Kd.R_drewN | apply Kd.R_drew)); exact HO105.out))) (below_size (by repeat (first | (with_reducible first | exact HB.out | apply below_alloc | apply pw_below_drewN | apply below_drew1) | exact HB.out)))); have n2_ := Aside0.mk (below_step (by repeat (first | (with_reducible first | exact HB.out | apply below_alloc | apply pw_below_drewN | apply below_drew1) | exact HB.out)) hb); clear HO105; clear HB; have HO105 := n0_; have HO108 := n1_; have HB := n2_; clear n0_ n1_ n2_; clear hb ho43; obtain ⟨Ao44, co44, eo44⟩ := Kd.R_slice HO108.out; subst eo44) | ((with_reducible refine gate_callee (f := 16) rfl ?_); refine goesL_ (some 12) rfl rfl Tryz.func16 (by kernel_rfl) rfl #[.slice Ao44 y106.length co44] rfl (by (try simp only [List.map_toArray, List.map_cons, List.map_nil]); first | done | rfl | (simp only [List.length_drop, List.length_take]; rfl)) ?_; (with_reducible refine (addr_Write.calls _ _ y106 t109 t110 _ ?side1 ?side2 ?sideGl A2.out).mono ?_); (case sideGl => exact HGl.out.below (by repeat (first | (with_reducible first | exact HB.out | apply below_alloc | apply pw_below_drewN | apply below_drew1) | exact HB.out))); (case side1 => repeat (first | exact (Kd.R_reads' HO108.out).2.2 | (with_reducible refine Kd.C_alloc ?_ _) | (with_reducible refine Kd.C_drewN ?_ _) | (with_reducible refine Kd.C_drew ?_))); (case side2 => exact (Kd.R_reads' HO108.out).2.1); rintro e w45 ⟨rfl, hb⟩; refine ⟨_, rfl, ?_⟩; have n0_ := Aside0.mk (Kd.R_below (by (with_reducible repeat (first | apply Kd.R_alloc | apply Kd.R_drewN | apply Kd.R_drew)); exact HO105.out) hb); have n1_ := Aside0.mk (Kd.R_below (by (with_reducible repeat (first | apply Kd.R_alloc | apply Kd.R_drewN | apply Kd.R_drew)); exact HO108.out) hb); have n2_ := Aside0.mk (below_step (by repeat (first | (with_reducible first | exact HB.out | apply below_alloc | apply pw_below_drewN | apply below_drew1) | exact HB.out)) hb); clear HO105; clear HO108; clear HB; have HO105 := n0_; have HO108 := n1_; have HB := n2_; clear n0_ n1_ n2_; (try clear hb); (try clear hb2); (try clear hk); (try clear hi)) | ((with_reducible refine gate_dst (N := 17) rfl ?_); refine Kd.R_lit k32 _ 32 ?hg (N := 17) ?hd (xs := ([(⟨(⟨#[]⟩ : ByteArray), (⟨#[120]⟩ : ByteArray)⟩ : S32)] : List (S32))) (inner := [.string (⟨#[]⟩ : ByteArray), .string (⟨#[120]⟩ : ByteArray)]) (ok := fun _ => True) (okp := fun _ => True) ?hr ?hp (fun _ hk => hk) trivial (Below.refl _ _) (Nat.le_refl _) (by simp) ?_; (case hd => rfl); (case hg => rfl); (case hr => first | (go_simp; done) | (go_simp; rfl)); (case hp => exact (Reps.c2 (show Kd.M k32 _ _ _ (⟨(⟨#[]⟩ : ByteArray), (⟨#[120]⟩ : ByteArray)⟩ : S32) [.string (⟨#[]⟩ : ByteArray), .string (⟨#[120]⟩ : ByteArray)] from (k32_mkM _ _ _ (⟨(⟨#[]⟩ : ByteArray), (⟨#[120]⟩ : ByteArray)⟩ : S32) )) (Reps.none _ _))); intro v112 w46 ho47 hb hg_ hnew_; clear hg_ hnew_; (first | rw [← Ny111.out] at ho47 | (simp only [Int.reduceToNat] at ho47; rw [← Ny111.out] at ho47)); have n0_ := Aside0.mk (Kd.R_elder' (by (with_reducible repeat (first | apply Kd.R_alloc | apply Kd.R_drewN | apply Kd.R_drew)); exact HO105.out) (Kd.R_base ho47) hb); have n1_ := Aside0.mk (Kd.R_elder' (by (with_reducible repeat (first | apply Kd.R_alloc | apply Kd.R_drewN | apply Kd.R_drew)); exact HO108.out) (Kd.R_base ho47) hb); have n2_ := Aside0.mk (Kd.R_lower (Kd.R_new' (Kd.R_new' ho47 (Kd.R_lt (by (with_reducible repeat (first | apply Kd.R_alloc | apply Kd.R_drewN | apply Kd.R_drew)); exact HO105.out))) (Kd.R_lt (by (with_reducible repeat (first | apply Kd.R_alloc | apply Kd.R_drewN | apply Kd.R_drew)); exact HO108.out))) (below_size (by repeat (first | (with_reducible first | exact HB.out | apply below_alloc | apply pw_below_drewN | apply below_drew1) | exact HB.out)))); have n3_ := Aside0.mk (below_step (by repeat (first | (with_reducible first | exact HB.out | apply below_alloc | apply pw_below_drewN | apply below_drew1) | exact HB.out)) hb); clear HO105; clear HO108; clear HB; have HO105 := n0_; have HO108 := n1_; have HO113 := n2_; have HB := n3_; clear n0_ n1_ n2_ n3_; clear hb ho47; obtain ⟨Ao48, co48, eo48⟩ := Kd.R_slice HO113.out; subst eo48) | ((with_reducible refine gate_callee (f := 16) rfl ?_); refine goesL_ (some 18) rfl rfl Tryz.func16 (by kernel_rfl) rfl #[.slice Ao48 y111.length co48] rfl (by (try simp only [List.map_toArray, List.map_cons, List.map_nil]); first | done | rfl | (simp only [List.length_drop, List.length_take]; rfl)) ?_; (with_reducible refine (addr_Write.calls _ _ y111 t114 t115 _ ?side1 ?side2 ?sideGl A3.out).mono ?_); (case sideGl => exact HGl.out.below (by repeat (first | (with_reducible first | exact HB.out | apply below_alloc | apply pw_below_drewN | apply below_drew1) | exact HB.out))); (case side1 => repeat (first | exact (Kd.R_reads' HO113.out).2.2 | (with_reducible refine Kd.C_alloc ?_ _) | (with_reducible refine Kd.C_drewN ?_ _) | (with_reducible refine Kd.C_drew ?_))); (case side2 => exact (Kd.R_reads' HO113.out).2.1); rintro e w49 ⟨rfl, hb⟩; refine ⟨_, rfl, ?_⟩; have n0_ := Aside0.mk (Kd.R_below (by (with_reducible repeat (first | apply Kd.R_alloc | apply Kd.R_drewN | apply Kd.R_drew)); exact HO105.out) hb); have n1_ := Aside0.mk (Kd.R_below (by (with_reducible repeat (first | apply Kd.R_alloc | apply Kd.R_drewN | apply Kd.R_drew)); exact HO108.out) hb); have n2_ := Aside0.mk (Kd.R_below (by (with_reducible repeat (first | apply Kd.R_alloc | apply Kd.R_drewN | apply Kd.R_drew)); exact HO113.out) hb); have n3_ := Aside0.mk (below_step (by repeat (first | (with_reducible first | exact HB.out | apply below_alloc | apply pw_below_drewN | apply below_drew1) | exact HB.out)) hb); clear HO105; clear HO108; clear HO113; clear HB; have HO105 := n0_; have HO108 := n1_; have HO113 := n2_; have HB := n3_; clear n0_ n1_ n2_ n3_; (try clear hb); (try clear hb2); (try clear hk); (try clear hi)) | ((with_reducible refine gate_dst (N := 26) rfl ?_); refine Kd.R_lit k32 _ 32 ?hg (N := 26) ?hd (xs := ([(⟨(⟨#[65, 44, 32, 34, 66]⟩ : ByteArray), (⟨#[97, 64, 98]⟩ : ByteArray)⟩ : S32), (⟨(⟨#[67, 32, 40, 120, 41]⟩ : ByteArray), (⟨#[99, 64, 100]⟩ : ByteArray)⟩ : S32), (⟨(⟨#[68]⟩ : ByteArray), (⟨#[]⟩ : ByteArray)⟩ : S32), (⟨(⟨#[]⟩ : ByteArray), (⟨#[101, 64, 102]⟩ : ByteArray)⟩ : S32)] : List (S32))) (inner := [.string (⟨#[65, 44, 32, 34, 66]⟩ : ByteArray), .string (⟨#[97, 64, 98]⟩ : ByteArray), .string (⟨#[67, 32, 40, 120, 41]⟩ : ByteArray), .string (⟨#[99, 64, 100]⟩ : ByteArray), .string (⟨#[68]⟩ : ByteArray), .string (⟨#[]⟩ : ByteArray), .string (⟨#[]⟩ : ByteArray), .string (⟨#[101, 64, 102]⟩ : ByteArray)]) (ok := fun _ => True) (okp := fun _ => True) ?hr ?hp (fun _ hk => hk) trivial (Below.refl _ _) (Nat.le_refl _) (by simp) ?_; (case hd => rfl); (case hg => rfl); (case hr => first | (go_simp; done) | (go_simp; rfl)); (case hp => exact (Reps.c2 (show Kd.M k32 _ _ _ (⟨(⟨#[65, 44, 32, 34, 66]⟩ : ByteArray), (⟨#[97, 64, 98]⟩ : ByteArray)⟩ : S32) [.string (⟨#[65, 44, 32, 34, 66]⟩ : ByteArray), .string (⟨#[97, 64, 98]⟩ : ByteArray)] from (k32_mkM _ _ _ (⟨(⟨#[65, 44, 32, 34, 66]⟩ : ByteArray), (⟨#[97, 64, 98]⟩ : ByteArray)⟩ : S32) )) (Reps.c2 (show Kd.M k32 _ _ _ (⟨(⟨#[67, 32, 40, 120, 41]⟩ : ByteArray), (⟨#[99, 64, 100]⟩ : ByteArray)⟩ : S32) [.string (⟨#[67, 32, 40, 120, 41]⟩ : ByteArray), .string (⟨#[99, 64, 100]⟩ : ByteArray)] from (k32_mkM _ _ _ (⟨(⟨#[67, 32, 40, 120, 41]⟩ : ByteArray), (⟨#[99, 64, 100]⟩ : ByteArray)⟩ : S32) )) (Reps.c2 (show Kd.M k32 _ _ _ (⟨(⟨#[68]⟩ : ByteArray), (⟨#[]⟩ : ByteArray)⟩ : S32) [.string (⟨#[68]⟩ : ByteArray), .string (⟨#[]⟩ : ByteArray)] from (k32_mkM _ _ _ (⟨(⟨#[68]⟩ : ByteArray), (⟨#[]⟩ : ByteArray)⟩ : S32) )) (Reps.c2 (show Kd.M k32 _ _ _ (⟨(⟨#[]⟩ : ByteArray), (⟨#[101, 64, 102]⟩ : ByteArray)⟩ : S32) [.string (⟨#[]⟩ : ByteArray), .string (⟨#[101, 64, 102]⟩ : ByteArray)] from (k32_mkM _ _ _ (⟨(⟨#[]⟩ : ByteArray), (⟨#[101, 64, 102]⟩ : ByteArray)⟩ : S32) )) (Reps.none _ _)))))); intro v117 w50 ho51 hb hg_ hnew_; clear hg_ hnew_; (first | rw [← Ny116.out] at ho51 | (simp only [Int.reduceToNat] at ho51; rw [← Ny116.out] at ho51)); have n0_ := Aside0.mk (Kd.R_elder' (by (with_reducible repeat (first | apply Kd.R_alloc | apply Kd.R_drewN | apply Kd.R_drew)); exact HO105.out) (Kd.R_base ho51) hb); have n1_ := Aside0.mk (Kd.R_elder' (by (with_reducible repeat (first | apply Kd.R_alloc | apply Kd.R_drewN | apply Kd.R_drew)); exact HO108.out) (Kd.R_base ho51) hb); have n2_ := Aside0.mk (Kd.R_elder' (by (with_reducible repeat (first | apply Kd.R_alloc | apply Kd.R_drewN | apply Kd.R_drew)); exact HO113.out) (Kd.R_base ho51) hb); have n3_ := Aside0.mk (Kd.R_lower (Kd.R_new' (Kd.R_new' (Kd.R_new' ho51 (Kd.R_lt (by (with_reducible repeat (first | apply Kd.R_alloc | apply Kd.R_drewN | apply Kd.R_drew)); exact HO105.out))) (Kd.R_lt (by (with_reducible repeat (first | apply Kd.R_alloc | apply Kd.R_drewN | apply Kd.R_drew)); exact HO108.out))) (Kd.R_lt (by (with_reducible repeat (first | apply Kd.R_alloc | apply Kd.R_drewN | apply Kd.R_drew)); exact HO113.out))) (below_size (by repeat (first | (with_reducible first | exact HB.out | apply below_alloc | apply pw_below_drewN | apply below_drew1) | exact HB.out)))); have n4_ := Aside0.mk (below_step (by repeat (first | (with_reducible first | exact HB.out | apply below_alloc | apply pw_below_drewN | apply below_drew1) | exact HB.out)) hb); clear HO105; clear HO108; clear HO113; clear HB; have HO105 := n0_; have HO108 := n1_; have HO113 := n2_; have HO118 := n3_; have HB := n4_; clear n0_ n1_ n2_ n3_ n4_; clear hb ho51; obtain ⟨Ao52, co52, eo52⟩ := Kd.R_slice HO105.out; subst eo52; obtain ⟨Ao53, co53, eo53⟩ := Kd.R_slice HO118.out; subst eo53) | ((with_reducible refine gate_callee (f := 10) rfl ?_); refine goesL_ (some 27) rfl rfl Tryz.func10 (by kernel_rfl) rfl #[.slice Ao52 t103.length co52, .slice Ao53 y116.length co53] rfl (by (try simp only [List.map_toArray, List.map_cons, List.map_nil]); first | done | rfl | (simp only [List.length_drop, List.length_take]; rfl)) ?_; (with_reducible refine (muslinref08_Same.calls k _ _ t103 _ _ y116 true _ ?side1 ?side2 ?side3 ?side4 A4.out).mono ?_); (case side1 => repeat (first | exact (Kd.R_reads' HO105.out).2.2 | (with_reducible refine Kd.C_alloc ?_ _) | (with_reducible refine Kd.C_drewN ?_ _) | (with_reducible refine Kd.C_drew ?_))); (case side2 => exact (Kd.R_reads' HO105.out).2.1); (case side3 => repeat (first | exact (Kd.R_reads' HO118.out).2.2 | (with_reducible refine Kd.C_alloc ?_ _) | (with_reducible refine Kd.C_drewN ?_ _) | (with_reducible refine Kd.C_drew ?_))); (case side4 => exact (Kd.R_reads' HO118.out).2.1); rintro e w' ⟨rfl, ⟨nd, rfl⟩⟩; refine ⟨_, rfl, ?_⟩))
    go_ret
    exact ⟨by first | rfl | (simp [errW_none, errW_some] <;> rfl) | (simp [*, errW_none, errW_some] <;> rfl), by repeat (first | (with_reducible first | exact HB.out | apply below_alloc | apply pw_below_drewN | apply below_drew1) | exact HB.out)⟩
  rw [if_pos c8] at H; have c8b0 : (t115 == 1) = true := beq_iff_eq.mpr c8; have c8b1 : (t115 != 1) = false := bne_eq_false_iff_eq.mpr c8; clear c8; replace H := Option.bind_eq_some_iff.mp H; obtain ⟨t120, A90, H⟩ := H; replace H : (if t120 = true then ((addr_Good.f (⟨#[97, 64]⟩ : ByteArray)).bind fun t121 => (some (!t121))) else (some false)) = some r := H; have A9 := Aside0.mk A90; clear A90
  by_cases c10 : t120 = true
  case neg =>
    replace c10 := Bool.eq_false_iff.mpr c10; subst c10
    have H1 : (some false) = some r := by rw [if_neg (show ¬ (false = true) by decide)] at H; exact H
    clear H; have H := H1; clear H1; obtain rfl := Option.some.inj H
    go_enter Tryz.func9, Tryz.ntmps9
    go_wp2_with (first | ((with_reducible refine gate_callee (f := 11) rfl ?_); refine goesL_ (some 6) rfl rfl Tryz.func11 (by kernel_rfl) rfl #[.string (⟨#[34, 65, 44, 32, 92, 34, 66, 34, 32, 60, 97, 64, 98, 62, 44, 32, 99, 64, 100, 32, 40, 67, 32, 40, 120, 41, 41, 44, 32, 61, 63, 97, 115, 99, 105, 105, 63, 81, 63, 68, 63, 61, 32, 60, 98, 97, 100, 62, 59, 32, 101, 64, 102, 44, 44]⟩ : ByteArray)] rfl (by (try simp only [List.map_toArray, List.map_cons, List.map_nil]); first | done | rfl | (simp only [List.length_drop, List.length_take]; rfl)) ?_; (with_reducible refine (addr_Parse.calls (⟨#[34, 65, 44, 32, 92, 34, 66, 34, 32, 60, 97, 64, 98, 62, 44, 32, 99, 64, 100, 32, 40, 67, 32, 40, 120, 41, 41, 44, 32, 61, 63, 97, 115, 99, 105, 105, 63, 81, 63, 68, 63, 61, 32, 60, 98, 97, 100, 62, 59, 32, 101, 64, 102, 44, 44]⟩ : ByteArray) t103 _ ?sideGl A1.out).mono ?_); (case sideGl => exact HGl.out.below (by repeat (first | (with_reducible first | exact HB.out | apply below_alloc | apply pw_below_drewN | apply below_drew1) | exact HB.out))); rintro e w27 ⟨v104, rfl, ho0, hb⟩; refine ⟨_, rfl, ?_⟩; have n0_ := Aside0.mk (Kd.R_lower ho0 (below_size (by repeat (first | (with_reducible first | exact HB.out | apply below_alloc | apply pw_below_drewN | apply below_drew1) | exact HB.out)))); have n1_ := Aside0.mk (below_step (by repeat (first | (with_reducible first | exact HB.out | apply below_alloc | apply pw_below_drewN | apply below_drew1) | exact HB.out)) hb); clear HB; have HO105 := n0_; have HB := n1_; clear n0_ n1_; (try clear hb); (try clear hb2); (try clear hk); (try clear hi); (try clear ho0)) | ((with_reducible refine gate_dst (N := 11) rfl ?_); refine Kd.R_lit k32 _ 32 ?hg (N := 11) ?hd (xs := ([(⟨(⟨#[65, 32, 34]⟩ : ByteArray), (⟨#[97, 64, 98]⟩ : ByteArray)⟩ : S32), (⟨(⟨#[]⟩ : ByteArray), (⟨#[99, 64, 100]⟩ : ByteArray)⟩ : S32), (⟨(⟨#[195, 169]⟩ : ByteArray), (⟨#[101, 64, 102]⟩ : ByteArray)⟩ : S32)] : List (S32))) (inner := [.string (⟨#[65, 32, 34]⟩ : ByteArray), .string (⟨#[97, 64, 98]⟩ : ByteArray), .string (⟨#[]⟩ : ByteArray), .string (⟨#[99, 64, 100]⟩ : ByteArray), .string (⟨#[195, 169]⟩ : ByteArray), .string (⟨#[101, 64, 102]⟩ : ByteArray)]) (ok := fun _ => True) (okp := fun _ => True) ?hr ?hp (fun _ hk => hk) trivial (Below.refl _ _) (Nat.le_refl _) (by simp) ?_; (case hd => rfl); (case hg => rfl); (case hr => first | (go_simp; done) | (go_simp; rfl)); (case hp => exact (Reps.c2 (show Kd.M k32 _ _ _ (⟨(⟨#[65, 32, 34]⟩ : ByteArray), (⟨#[97, 64, 98]⟩ : ByteArray)⟩ : S32) [.string (⟨#[65, 32, 34]⟩ : ByteArray), .string (⟨#[97, 64, 98]⟩ : ByteArray)] from (k32_mkM _ _ _ (⟨(⟨#[65, 32, 34]⟩ : ByteArray), (⟨#[97, 64, 98]⟩ : ByteArray)⟩ : S32) )) (Reps.c2 (show Kd.M k32 _ _ _ (⟨(⟨#[]⟩ : ByteArray), (⟨#[99, 64, 100]⟩ : ByteArray)⟩ : S32) [.string (⟨#[]⟩ : ByteArray), .string (⟨#[99, 64, 100]⟩ : ByteArray)] from (k32_mkM _ _ _ (⟨(⟨#[]⟩ : ByteArray), (⟨#[99, 64, 100]⟩ : ByteArray)⟩ : S32) )) (Reps.c2 (show Kd.M k32 _ _ _ (⟨(⟨#[195, 169]⟩ : ByteArray), (⟨#[101, 64, 102]⟩ : ByteArray)⟩ : S32) [.string (⟨#[195, 169]⟩ : ByteArray), .string (⟨#[101, 64, 102]⟩ : ByteArray)] from (k32_mkM _ _ _ (⟨(⟨#[195, 169]⟩ : ByteArray), (⟨#[101, 64, 102]⟩ : ByteArray)⟩ : S32) )) (Reps.none _ _))))); intro v107 w28 ho29 hb hg_ hnew_; clear hg_ hnew_; (first | rw [← Ny106.out] at ho29 | (simp only [Int.reduceToNat] at ho29; rw [← Ny106.out] at ho29)); have n0_ := Aside0.mk (Kd.R_elder' (by (with_reducible repeat (first | apply Kd.R_alloc | apply Kd.R_drewN | apply Kd.R_drew)); exact HO105.out) (Kd.R_base ho29) hb); have n1_ := Aside0.mk (Kd.R_lower (Kd.R_new' ho29 (Kd.R_lt (by (with_reducible repeat (first | apply Kd.R_alloc | apply Kd.R_drewN | apply Kd.R_drew)); exact HO105.out))) (below_size (by repeat (first | (with_reducible first | exact HB.out | apply below_alloc | apply pw_below_drewN | apply below_drew1) | exact HB.out)))); have n2_ := Aside0.mk (below_step (by repeat (first | (with_reducible first | exact HB.out | apply below_alloc | apply pw_below_drewN | apply below_drew1) | exact HB.out)) hb); clear HO105; clear HB; have HO105 := n0_; have HO108 := n1_; have HB := n2_; clear n0_ n1_ n2_; clear hb ho29; obtain ⟨Ao30, co30, eo30⟩ := Kd.R_slice HO108.out; subst eo30) | ((with_reducible refine gate_callee (f := 16) rfl ?_); refine goesL_ (some 12) rfl rfl Tryz.func16 (by kernel_rfl) rfl #[.slice Ao30 y106.length co30] rfl (by (try simp only [List.map_toArray, List.map_cons, List.map_nil]); first | done | rfl | (simp only [List.length_drop, List.length_take]; rfl)) ?_; (with_reducible refine (addr_Write.calls _ _ y106 t109 t110 _ ?side1 ?side2 ?sideGl A2.out).mono ?_); (case sideGl => exact HGl.out.below (by repeat (first | (with_reducible first | exact HB.out | apply below_alloc | apply pw_below_drewN | apply below_drew1) | exact HB.out))); (case side1 => repeat (first | exact (Kd.R_reads' HO108.out).2.2 | (with_reducible refine Kd.C_alloc ?_ _) | (with_reducible refine Kd.C_drewN ?_ _) | (with_reducible refine Kd.C_drew ?_))); (case side2 => exact (Kd.R_reads' HO108.out).2.1); rintro e w31 ⟨rfl, hb⟩; refine ⟨_, rfl, ?_⟩; have n0_ := Aside0.mk (Kd.R_below (by (with_reducible repeat (first | apply Kd.R_alloc | apply Kd.R_drewN | apply Kd.R_drew)); exact HO105.out) hb); have n1_ := Aside0.mk (Kd.R_below (by (with_reducible repeat (first | apply Kd.R_alloc | apply Kd.R_drewN | apply Kd.R_drew)); exact HO108.out) hb); have n2_ := Aside0.mk (below_step (by repeat (first | (with_reducible first | exact HB.out | apply below_alloc | apply pw_below_drewN | apply below_drew1) | exact HB.out)) hb); clear HO105; clear HO108; clear HB; have HO105 := n0_; have HO108 := n1_; have HB := n2_; clear n0_ n1_ n2_; (try clear hb); (try clear hb2); (try clear hk); (try clear hi)) | ((with_reducible refine gate_dst (N := 17) rfl ?_); refine Kd.R_lit k32 _ 32 ?hg (N := 17) ?hd (xs := ([(⟨(⟨#[]⟩ : ByteArray), (⟨#[120]⟩ : ByteArray)⟩ : S32)] : List (S32))) (inner := [.string (⟨#[]⟩ : ByteArray), .string (⟨#[120]⟩ : ByteArray)]) (ok := fun _ => True) (okp := fun _ => True) ?hr ?hp (fun _ hk => hk) trivial (Below.refl _ _) (Nat.le_refl _) (by simp) ?_; (case hd => rfl); (case hg => rfl); (case hr => first | (go_simp; done) | (go_simp; rfl)); (case hp => exact (Reps.c2 (show Kd.M k32 _ _ _ (⟨(⟨#[]⟩ : ByteArray), (⟨#[120]⟩ : ByteArray)⟩ : S32) [.string (⟨#[]⟩ : ByteArray), .string (⟨#[120]⟩ : ByteArray)] from (k32_mkM _ _ _ (⟨(⟨#[]⟩ : ByteArray), (⟨#[120]⟩ : ByteArray)⟩ : S32) )) (Reps.none _ _))); intro v112 w32 ho33 hb hg_ hnew_; clear hg_ hnew_; (first | rw [← Ny111.out] at ho33 | (simp only [Int.reduceToNat] at ho33; rw [← Ny111.out] at ho33)); have n0_ := Aside0.mk (Kd.R_elder' (by (with_reducible repeat (first | apply Kd.R_alloc | apply Kd.R_drewN | apply Kd.R_drew)); exact HO105.out) (Kd.R_base ho33) hb); have n1_ := Aside0.mk (Kd.R_elder' (by (with_reducible repeat (first | apply Kd.R_alloc | apply Kd.R_drewN | apply Kd.R_drew)); exact HO108.out) (Kd.R_base ho33) hb); have n2_ := Aside0.mk (Kd.R_lower (Kd.R_new' (Kd.R_new' ho33 (Kd.R_lt (by (with_reducible repeat (first | apply Kd.R_alloc | apply Kd.R_drewN | apply Kd.R_drew)); exact HO105.out))) (Kd.R_lt (by (with_reducible repeat (first | apply Kd.R_alloc | apply Kd.R_drewN | apply Kd.R_drew)); exact HO108.out))) (below_size (by repeat (first | (with_reducible first | exact HB.out | apply below_alloc | apply pw_below_drewN | apply below_drew1) | exact HB.out)))); have n3_ := Aside0.mk (below_step (by repeat (first | (with_reducible first | exact HB.out | apply below_alloc | apply pw_below_drewN | apply below_drew1) | exact HB.out)) hb); clear HO105; clear HO108; clear HB; have HO105 := n0_; have HO108 := n1_; have HO113 := n2_; have HB := n3_; clear n0_ n1_ n2_ n3_; clear hb ho33; obtain ⟨Ao34, co34, eo34⟩ := Kd.R_slice HO113.out; subst eo34) | ((with_reducible refine gate_callee (f := 16) rfl ?_); refine goesL_ (some 18) rfl rfl Tryz.func16 (by kernel_rfl) rfl #[.slice Ao34 y111.length co34] rfl (by (try simp only [List.map_toArray, List.map_cons, List.map_nil]); first | done | rfl | (simp only [List.length_drop, List.length_take]; rfl)) ?_; (with_reducible refine (addr_Write.calls _ _ y111 t114 t115 _ ?side1 ?side2 ?sideGl A3.out).mono ?_); (case sideGl => exact HGl.out.below (by repeat (first | (with_reducible first | exact HB.out | apply below_alloc | apply pw_below_drewN | apply below_drew1) | exact HB.out))); (case side1 => repeat (first | exact (Kd.R_reads' HO113.out).2.2 | (with_reducible refine Kd.C_alloc ?_ _) | (with_reducible refine Kd.C_drewN ?_ _) | (with_reducible refine Kd.C_drew ?_))); (case side2 => exact (Kd.R_reads' HO113.out).2.1); rintro e w35 ⟨rfl, hb⟩; refine ⟨_, rfl, ?_⟩; have n0_ := Aside0.mk (Kd.R_below (by (with_reducible repeat (first | apply Kd.R_alloc | apply Kd.R_drewN | apply Kd.R_drew)); exact HO105.out) hb); have n1_ := Aside0.mk (Kd.R_below (by (with_reducible repeat (first | apply Kd.R_alloc | apply Kd.R_drewN | apply Kd.R_drew)); exact HO108.out) hb); have n2_ := Aside0.mk (Kd.R_below (by (with_reducible repeat (first | apply Kd.R_alloc | apply Kd.R_drewN | apply Kd.R_drew)); exact HO113.out) hb); have n3_ := Aside0.mk (below_step (by repeat (first | (with_reducible first | exact HB.out | apply below_alloc | apply pw_below_drewN | apply below_drew1) | exact HB.out)) hb); clear HO105; clear HO108; clear HO113; clear HB; have HO105 := n0_; have HO108 := n1_; have HO113 := n2_; have HB := n3_; clear n0_ n1_ n2_ n3_; (try clear hb); (try clear hb2); (try clear hk); (try clear hi)) | ((with_reducible refine gate_dst (N := 26) rfl ?_); refine Kd.R_lit k32 _ 32 ?hg (N := 26) ?hd (xs := ([(⟨(⟨#[65, 44, 32, 34, 66]⟩ : ByteArray), (⟨#[97, 64, 98]⟩ : ByteArray)⟩ : S32), (⟨(⟨#[67, 32, 40, 120, 41]⟩ : ByteArray), (⟨#[99, 64, 100]⟩ : ByteArray)⟩ : S32), (⟨(⟨#[68]⟩ : ByteArray), (⟨#[]⟩ : ByteArray)⟩ : S32), (⟨(⟨#[]⟩ : ByteArray), (⟨#[101, 64, 102]⟩ : ByteArray)⟩ : S32)] : List (S32))) (inner := [.string (⟨#[65, 44, 32, 34, 66]⟩ : ByteArray), .string (⟨#[97, 64, 98]⟩ : ByteArray), .string (⟨#[67, 32, 40, 120, 41]⟩ : ByteArray), .string (⟨#[99, 64, 100]⟩ : ByteArray), .string (⟨#[68]⟩ : ByteArray), .string (⟨#[]⟩ : ByteArray), .string (⟨#[]⟩ : ByteArray), .string (⟨#[101, 64, 102]⟩ : ByteArray)]) (ok := fun _ => True) (okp := fun _ => True) ?hr ?hp (fun _ hk => hk) trivial (Below.refl _ _) (Nat.le_refl _) (by simp) ?_; (case hd => rfl); (case hg => rfl); (case hr => first | (go_simp; done) | (go_simp; rfl)); (case hp => exact (Reps.c2 (show Kd.M k32 _ _ _ (⟨(⟨#[65, 44, 32, 34, 66]⟩ : ByteArray), (⟨#[97, 64, 98]⟩ : ByteArray)⟩ : S32) [.string (⟨#[65, 44, 32, 34, 66]⟩ : ByteArray), .string (⟨#[97, 64, 98]⟩ : ByteArray)] from (k32_mkM _ _ _ (⟨(⟨#[65, 44, 32, 34, 66]⟩ : ByteArray), (⟨#[97, 64, 98]⟩ : ByteArray)⟩ : S32) )) (Reps.c2 (show Kd.M k32 _ _ _ (⟨(⟨#[67, 32, 40, 120, 41]⟩ : ByteArray), (⟨#[99, 64, 100]⟩ : ByteArray)⟩ : S32) [.string (⟨#[67, 32, 40, 120, 41]⟩ : ByteArray), .string (⟨#[99, 64, 100]⟩ : ByteArray)] from (k32_mkM _ _ _ (⟨(⟨#[67, 32, 40, 120, 41]⟩ : ByteArray), (⟨#[99, 64, 100]⟩ : ByteArray)⟩ : S32) )) (Reps.c2 (show Kd.M k32 _ _ _ (⟨(⟨#[68]⟩ : ByteArray), (⟨#[]⟩ : ByteArray)⟩ : S32) [.string (⟨#[68]⟩ : ByteArray), .string (⟨#[]⟩ : ByteArray)] from (k32_mkM _ _ _ (⟨(⟨#[68]⟩ : ByteArray), (⟨#[]⟩ : ByteArray)⟩ : S32) )) (Reps.c2 (show Kd.M k32 _ _ _ (⟨(⟨#[]⟩ : ByteArray), (⟨#[101, 64, 102]⟩ : ByteArray)⟩ : S32) [.string (⟨#[]⟩ : ByteArray), .string (⟨#[101, 64, 102]⟩ : ByteArray)] from (k32_mkM _ _ _ (⟨(⟨#[]⟩ : ByteArray), (⟨#[101, 64, 102]⟩ : ByteArray)⟩ : S32) )) (Reps.none _ _)))))); intro v117 w36 ho37 hb hg_ hnew_; clear hg_ hnew_; (first | rw [← Ny116.out] at ho37 | (simp only [Int.reduceToNat] at ho37; rw [← Ny116.out] at ho37)); have n0_ := Aside0.mk (Kd.R_elder' (by (with_reducible repeat (first | apply Kd.R_alloc | apply Kd.R_drewN | apply Kd.R_drew)); exact HO105.out) (Kd.R_base ho37) hb); have n1_ := Aside0.mk (Kd.R_elder' (by (with_reducible repeat (first | apply Kd.R_alloc | apply Kd.R_drewN | apply Kd.R_drew)); exact HO108.out) (Kd.R_base ho37) hb); have n2_ := Aside0.mk (Kd.R_elder' (by (with_reducible repeat (first | apply Kd.R_alloc | apply Kd.R_drewN | apply Kd.R_drew)); exact HO113.out) (Kd.R_base ho37) hb); have n3_ := Aside0.mk (Kd.R_lower (Kd.R_new' (Kd.R_new' (Kd.R_new' ho37 (Kd.R_lt (by (with_reducible repeat (first | apply Kd.R_alloc | apply Kd.R_drewN | apply Kd.R_drew)); exact HO105.out))) (Kd.R_lt (by (with_reducible repeat (first | apply Kd.R_alloc | apply Kd.R_drewN | apply Kd.R_drew)); exact HO108.out))) (Kd.R_lt (by (with_reducible repeat (first | apply Kd.R_alloc | apply Kd.R_drewN | apply Kd.R_drew)); exact HO113.out))) (below_size (by repeat (first | (with_reducible first | exact HB.out | apply below_alloc | apply pw_below_drewN | apply below_drew1) | exact HB.out)))); have n4_ := Aside0.mk (below_step (by repeat (first | (with_reducible first | exact HB.out | apply below_alloc | apply pw_below_drewN | apply below_drew1) | exact HB.out)) hb); clear HO105; clear HO108; clear HO113; clear HB; have HO105 := n0_; have HO108 := n1_; have HO113 := n2_; have HO118 := n3_; have HB := n4_; clear n0_ n1_ n2_ n3_ n4_; clear hb ho37; obtain ⟨Ao38, co38, eo38⟩ := Kd.R_slice HO105.out; subst eo38; obtain ⟨Ao39, co39, eo39⟩ := Kd.R_slice HO118.out; subst eo39) | ((with_reducible refine gate_callee (f := 10) rfl ?_); refine goesL_ (some 27) rfl rfl Tryz.func10 (by kernel_rfl) rfl #[.slice Ao38 t103.length co38, .slice Ao39 y116.length co39] rfl (by (try simp only [List.map_toArray, List.map_cons, List.map_nil]); first | done | rfl | (simp only [List.length_drop, List.length_take]; rfl)) ?_; (with_reducible refine (muslinref08_Same.calls k _ _ t103 _ _ y116 true _ ?side1 ?side2 ?side3 ?side4 A4.out).mono ?_); (case side1 => repeat (first | exact (Kd.R_reads' HO105.out).2.2 | (with_reducible refine Kd.C_alloc ?_ _) | (with_reducible refine Kd.C_drewN ?_ _) | (with_reducible refine Kd.C_drew ?_))); (case side2 => exact (Kd.R_reads' HO105.out).2.1); (case side3 => repeat (first | exact (Kd.R_reads' HO118.out).2.2 | (with_reducible refine Kd.C_alloc ?_ _) | (with_reducible refine Kd.C_drewN ?_ _) | (with_reducible refine Kd.C_drew ?_))); (case side4 => exact (Kd.R_reads' HO118.out).2.1); rintro e w' ⟨rfl, ⟨nd, rfl⟩⟩; refine ⟨_, rfl, ?_⟩) | (go_at_call 13; (with_reducible refine (addr_Good.calls (⟨#[97, 64, 98]⟩ : ByteArray) false _ A9.out).mono ?_); rintro e w40 ⟨rfl, hb⟩; have n0_ := Aside0.mk (Kd.R_below (by (with_reducible repeat (first | apply Kd.R_alloc | apply Kd.R_drewN | apply Kd.R_drew)); exact HO105.out) hb); have n1_ := Aside0.mk (Kd.R_below (by (with_reducible repeat (first | apply Kd.R_alloc | apply Kd.R_drewN | apply Kd.R_drew)); exact HO108.out) hb); have n2_ := Aside0.mk (Kd.R_below (by (with_reducible repeat (first | apply Kd.R_alloc | apply Kd.R_drewN | apply Kd.R_drew)); exact HO113.out) hb); have n3_ := Aside0.mk (Kd.R_below (by (with_reducible repeat (first | apply Kd.R_alloc | apply Kd.R_drewN | apply Kd.R_drew)); exact HO118.out) hb); have n4_ := Aside0.mk (below_step (by repeat (first | (with_reducible first | exact HB.out | apply below_alloc | apply pw_below_drewN | apply below_drew1) | exact HB.out)) hb); clear HO105; clear HO108; clear HO113; clear HO118; clear HB; have HO105 := n0_; have HO108 := n1_; have HO113 := n2_; have HO118 := n3_; have HB := n4_; clear n0_ n1_ n2_ n3_ n4_; (try clear hb); (try clear hb2); (try clear hk); (try clear hi)))
    go_ret
    exact ⟨by first | rfl | (simp [errW_none, errW_some] <;> rfl) | (simp [*, errW_none, errW_some] <;> rfl), by repeat (first | (with_reducible first | exact HB.out | apply below_alloc | apply pw_below_drewN | apply below_drew1) | exact HB.out)⟩
  subst c10
  have H1 : ((addr_Good.f (⟨#[97, 64]⟩ : ByteArray)).bind fun t121 => (some (!t121))) = some r := by rw [if_pos rfl] at H; exact H
  clear H; have H := H1; clear H1; replace H := Option.bind_eq_some_iff.mp H; obtain ⟨t121, A110, H⟩ := H; replace H : (some (!t121)) = some r := H; have A11 := Aside0.mk A110; clear A110; obtain rfl := Option.some.inj H
  go_enter Tryz.func9, Tryz.ntmps9
  go_wp2_with (first | ((with_reducible refine gate_callee (f := 11) rfl ?_); refine goesL_ (some 6) rfl rfl Tryz.func11 (by kernel_rfl) rfl #[.string (⟨#[34, 65, 44, 32, 92, 34, 66, 34, 32, 60, 97, 64, 98, 62, 44, 32, 99, 64, 100, 32, 40, 67, 32, 40, 120, 41, 41, 44, 32, 61, 63, 97, 115, 99, 105, 105, 63, 81, 63, 68, 63, 61, 32, 60, 98, 97, 100, 62, 59, 32, 101, 64, 102, 44, 44]⟩ : ByteArray)] rfl (by (try simp only [List.map_toArray, List.map_cons, List.map_nil]); first | done | rfl | (simp only [List.length_drop, List.length_take]; rfl)) ?_; (with_reducible refine (addr_Parse.calls (⟨#[34, 65, 44, 32, 92, 34, 66, 34, 32, 60, 97, 64, 98, 62, 44, 32, 99, 64, 100, 32, 40, 67, 32, 40, 120, 41, 41, 44, 32, 61, 63, 97, 115, 99, 105, 105, 63, 81, 63, 68, 63, 61, 32, 60, 98, 97, 100, 62, 59, 32, 101, 64, 102, 44, 44]⟩ : ByteArray) t103 _ ?sideGl A1.out).mono ?_); (case sideGl => exact HGl.out.below (by repeat (first | (with_reducible first | exact HB.out | apply below_alloc | apply pw_below_drewN | apply below_drew1) | exact HB.out))); rintro e w12 ⟨v104, rfl, ho0, hb⟩; refine ⟨_, rfl, ?_⟩; have n0_ := Aside0.mk (Kd.R_lower ho0 (below_size (by repeat (first | (with_reducible first | exact HB.out | apply below_alloc | apply pw_below_drewN | apply below_drew1) | exact HB.out)))); have n1_ := Aside0.mk (below_step (by repeat (first | (with_reducible first | exact HB.out | apply below_alloc | apply pw_below_drewN | apply below_drew1) | exact HB.out)) hb); clear HB; have HO105 := n0_; have HB := n1_; clear n0_ n1_; (try clear hb); (try clear hb2); (try clear hk); (try clear hi); (try clear ho0)) | ((with_reducible refine gate_dst (N := 11) rfl ?_); refine Kd.R_lit k32 _ 32 ?hg (N := 11) ?hd (xs := ([(⟨(⟨#[65, 32, 34]⟩ : ByteArray), (⟨#[97, 64, 98]⟩ : ByteArray)⟩ : S32), (⟨(⟨#[]⟩ : ByteArray), (⟨#[99, 64, 100]⟩ : ByteArray)⟩ : S32), (⟨(⟨#[195, 169]⟩ : ByteArray), (⟨#[101, 64, 102]⟩ : ByteArray)⟩ : S32)] : List (S32))) (inner := [.string (⟨#[65, 32, 34]⟩ : ByteArray), .string (⟨#[97, 64, 98]⟩ : ByteArray), .string (⟨#[]⟩ : ByteArray), .string (⟨#[99, 64, 100]⟩ : ByteArray), .string (⟨#[195, 169]⟩ : ByteArray), .string (⟨#[101, 64, 102]⟩ : ByteArray)]) (ok := fun _ => True) (okp := fun _ => True) ?hr ?hp (fun _ hk => hk) trivial (Below.refl _ _) (Nat.le_refl _) (by simp) ?_; (case hd => rfl); (case hg => rfl); (case hr => first | (go_simp; done) | (go_simp; rfl)); (case hp => exact (Reps.c2 (show Kd.M k32 _ _ _ (⟨(⟨#[65, 32, 34]⟩ : ByteArray), (⟨#[97, 64, 98]⟩ : ByteArray)⟩ : S32) [.string (⟨#[65, 32, 34]⟩ : ByteArray), .string (⟨#[97, 64, 98]⟩ : ByteArray)] from (k32_mkM _ _ _ (⟨(⟨#[65, 32, 34]⟩ : ByteArray), (⟨#[97, 64, 98]⟩ : ByteArray)⟩ : S32) )) (Reps.c2 (show Kd.M k32 _ _ _ (⟨(⟨#[]⟩ : ByteArray), (⟨#[99, 64, 100]⟩ : ByteArray)⟩ : S32) [.string (⟨#[]⟩ : ByteArray), .string (⟨#[99, 64, 100]⟩ : ByteArray)] from (k32_mkM _ _ _ (⟨(⟨#[]⟩ : ByteArray), (⟨#[99, 64, 100]⟩ : ByteArray)⟩ : S32) )) (Reps.c2 (show Kd.M k32 _ _ _ (⟨(⟨#[195, 169]⟩ : ByteArray), (⟨#[101, 64, 102]⟩ : ByteArray)⟩ : S32) [.string (⟨#[195, 169]⟩ : ByteArray), .string (⟨#[101, 64, 102]⟩ : ByteArray)] from (k32_mkM _ _ _ (⟨(⟨#[195, 169]⟩ : ByteArray), (⟨#[101, 64, 102]⟩ : ByteArray)⟩ : S32) )) (Reps.none _ _))))); intro v107 w13 ho14 hb hg_ hnew_; clear hg_ hnew_; (first | rw [← Ny106.out] at ho14 | (simp only [Int.reduceToNat] at ho14; rw [← Ny106.out] at ho14)); have n0_ := Aside0.mk (Kd.R_elder' (by (with_reducible repeat (first | apply Kd.R_alloc | apply Kd.R_drewN | apply Kd.R_drew)); exact HO105.out) (Kd.R_base ho14) hb); have n1_ := Aside0.mk (Kd.R_lower (Kd.R_new' ho14 (Kd.R_lt (by (with_reducible repeat (first | apply Kd.R_alloc | apply Kd.R_drewN | apply Kd.R_drew)); exact HO105.out))) (below_size (by repeat (first | (with_reducible first | exact HB.out | apply below_alloc | apply pw_below_drewN | apply below_drew1) | exact HB.out)))); have n2_ := Aside0.mk (below_step (by repeat (first | (with_reducible first | exact HB.out | apply below_alloc | apply pw_below_drewN | apply below_drew1) | exact HB.out)) hb); clear HO105; clear HB; have HO105 := n0_; have HO108 := n1_; have HB := n2_; clear n0_ n1_ n2_; clear hb ho14; obtain ⟨Ao15, co15, eo15⟩ := Kd.R_slice HO108.out; subst eo15) | ((with_reducible refine gate_callee (f := 16) rfl ?_); refine goesL_ (some 12) rfl rfl Tryz.func16 (by kernel_rfl) rfl #[.slice Ao15 y106.length co15] rfl (by (try simp only [List.map_toArray, List.map_cons, List.map_nil]); first | done | rfl | (simp only [List.length_drop, List.length_take]; rfl)) ?_; (with_reducible refine (addr_Write.calls _ _ y106 t109 t110 _ ?side1 ?side2 ?sideGl A2.out).mono ?_); (case sideGl => exact HGl.out.below (by repeat (first | (with_reducible first | exact HB.out | apply below_alloc | apply pw_below_drewN | apply below_drew1) | exact HB.out))); (case side1 => repeat (first | exact (Kd.R_reads' HO108.out).2.2 | (with_reducible refine Kd.C_alloc ?_ _) | (with_reducible refine Kd.C_drewN ?_ _) | (with_reducible refine Kd.C_drew ?_))); (case side2 => exact (Kd.R_reads' HO108.out).2.1); rintro e w16 ⟨rfl, hb⟩; refine ⟨_, rfl, ?_⟩; have n0_ := Aside0.mk (Kd.R_below (by (with_reducible repeat (first | apply Kd.R_alloc | apply Kd.R_drewN | apply Kd.R_drew)); exact HO105.out) hb); have n1_ := Aside0.mk (Kd.R_below (by (with_reducible repeat (first | apply Kd.R_alloc | apply Kd.R_drewN | apply Kd.R_drew)); exact HO108.out) hb); have n2_ := Aside0.mk (below_step (by repeat (first | (with_reducible first | exact HB.out | apply below_alloc | apply pw_below_drewN | apply below_drew1) | exact HB.out)) hb); clear HO105; clear HO108; clear HB; have HO105 := n0_; have HO108 := n1_; have HB := n2_; clear n0_ n1_ n2_; (try clear hb); (try clear hb2); (try clear hk); (try clear hi)) | ((with_reducible refine gate_dst (N := 17) rfl ?_); refine Kd.R_lit k32 _ 32 ?hg (N := 17) ?hd (xs := ([(⟨(⟨#[]⟩ : ByteArray), (⟨#[120]⟩ : ByteArray)⟩ : S32)] : List (S32))) (inner := [.string (⟨#[]⟩ : ByteArray), .string (⟨#[120]⟩ : ByteArray)]) (ok := fun _ => True) (okp := fun _ => True) ?hr ?hp (fun _ hk => hk) trivial (Below.refl _ _) (Nat.le_refl _) (by simp) ?_; (case hd => rfl); (case hg => rfl); (case hr => first | (go_simp; done) | (go_simp; rfl)); (case hp => exact (Reps.c2 (show Kd.M k32 _ _ _ (⟨(⟨#[]⟩ : ByteArray), (⟨#[120]⟩ : ByteArray)⟩ : S32) [.string (⟨#[]⟩ : ByteArray), .string (⟨#[120]⟩ : ByteArray)] from (k32_mkM _ _ _ (⟨(⟨#[]⟩ : ByteArray), (⟨#[120]⟩ : ByteArray)⟩ : S32) )) (Reps.none _ _))); intro v112 w17 ho18 hb hg_ hnew_; clear hg_ hnew_; (first | rw [← Ny111.out] at ho18 | (simp only [Int.reduceToNat] at ho18; rw [← Ny111.out] at ho18)); have n0_ := Aside0.mk (Kd.R_elder' (by (with_reducible repeat (first | apply Kd.R_alloc | apply Kd.R_drewN | apply Kd.R_drew)); exact HO105.out) (Kd.R_base ho18) hb); have n1_ := Aside0.mk (Kd.R_elder' (by (with_reducible repeat (first | apply Kd.R_alloc | apply Kd.R_drewN | apply Kd.R_drew)); exact HO108.out) (Kd.R_base ho18) hb); have n2_ := Aside0.mk (Kd.R_lower (Kd.R_new' (Kd.R_new' ho18 (Kd.R_lt (by (with_reducible repeat (first | apply Kd.R_alloc | apply Kd.R_drewN | apply Kd.R_drew)); exact HO105.out))) (Kd.R_lt (by (with_reducible repeat (first | apply Kd.R_alloc | apply Kd.R_drewN | apply Kd.R_drew)); exact HO108.out))) (below_size (by repeat (first | (with_reducible first | exact HB.out | apply below_alloc | apply pw_below_drewN | apply below_drew1) | exact HB.out)))); have n3_ := Aside0.mk (below_step (by repeat (first | (with_reducible first | exact HB.out | apply below_alloc | apply pw_below_drewN | apply below_drew1) | exact HB.out)) hb); clear HO105; clear HO108; clear HB; have HO105 := n0_; have HO108 := n1_; have HO113 := n2_; have HB := n3_; clear n0_ n1_ n2_ n3_; clear hb ho18; obtain ⟨Ao19, co19, eo19⟩ := Kd.R_slice HO113.out; subst eo19) | ((with_reducible refine gate_callee (f := 16) rfl ?_); refine goesL_ (some 18) rfl rfl Tryz.func16 (by kernel_rfl) rfl #[.slice Ao19 y111.length co19] rfl (by (try simp only [List.map_toArray, List.map_cons, List.map_nil]); first | done | rfl | (simp only [List.length_drop, List.length_take]; rfl)) ?_; (with_reducible refine (addr_Write.calls _ _ y111 t114 t115 _ ?side1 ?side2 ?sideGl A3.out).mono ?_); (case sideGl => exact HGl.out.below (by repeat (first | (with_reducible first | exact HB.out | apply below_alloc | apply pw_below_drewN | apply below_drew1) | exact HB.out))); (case side1 => repeat (first | exact (Kd.R_reads' HO113.out).2.2 | (with_reducible refine Kd.C_alloc ?_ _) | (with_reducible refine Kd.C_drewN ?_ _) | (with_reducible refine Kd.C_drew ?_))); (case side2 => exact (Kd.R_reads' HO113.out).2.1); rintro e w20 ⟨rfl, hb⟩; refine ⟨_, rfl, ?_⟩; have n0_ := Aside0.mk (Kd.R_below (by (with_reducible repeat (first | apply Kd.R_alloc | apply Kd.R_drewN | apply Kd.R_drew)); exact HO105.out) hb); have n1_ := Aside0.mk (Kd.R_below (by (with_reducible repeat (first | apply Kd.R_alloc | apply Kd.R_drewN | apply Kd.R_drew)); exact HO108.out) hb); have n2_ := Aside0.mk (Kd.R_below (by (with_reducible repeat (first | apply Kd.R_alloc | apply Kd.R_drewN | apply Kd.R_drew)); exact HO113.out) hb); have n3_ := Aside0.mk (below_step (by repeat (first | (with_reducible first | exact HB.out | apply below_alloc | apply pw_below_drewN | apply below_drew1) | exact HB.out)) hb); clear HO105; clear HO108; clear HO113; clear HB; have HO105 := n0_; have HO108 := n1_; have HO113 := n2_; have HB := n3_; clear n0_ n1_ n2_ n3_; (try clear hb); (try clear hb2); (try clear hk); (try clear hi)) | ((with_reducible refine gate_dst (N := 26) rfl ?_); refine Kd.R_lit k32 _ 32 ?hg (N := 26) ?hd (xs := ([(⟨(⟨#[65, 44, 32, 34, 66]⟩ : ByteArray), (⟨#[97, 64, 98]⟩ : ByteArray)⟩ : S32), (⟨(⟨#[67, 32, 40, 120, 41]⟩ : ByteArray), (⟨#[99, 64, 100]⟩ : ByteArray)⟩ : S32), (⟨(⟨#[68]⟩ : ByteArray), (⟨#[]⟩ : ByteArray)⟩ : S32), (⟨(⟨#[]⟩ : ByteArray), (⟨#[101, 64, 102]⟩ : ByteArray)⟩ : S32)] : List (S32))) (inner := [.string (⟨#[65, 44, 32, 34, 66]⟩ : ByteArray), .string (⟨#[97, 64, 98]⟩ : ByteArray), .string (⟨#[67, 32, 40, 120, 41]⟩ : ByteArray), .string (⟨#[99, 64, 100]⟩ : ByteArray), .string (⟨#[68]⟩ : ByteArray), .string (⟨#[]⟩ : ByteArray), .string (⟨#[]⟩ : ByteArray), .string (⟨#[101, 64, 102]⟩ : ByteArray)]) (ok := fun _ => True) (okp := fun _ => True) ?hr ?hp (fun _ hk => hk) trivial (Below.refl _ _) (Nat.le_refl _) (by simp) ?_; (case hd => rfl); (case hg => rfl); (case hr => first | (go_simp; done) | (go_simp; rfl)); (case hp => exact (Reps.c2 (show Kd.M k32 _ _ _ (⟨(⟨#[65, 44, 32, 34, 66]⟩ : ByteArray), (⟨#[97, 64, 98]⟩ : ByteArray)⟩ : S32) [.string (⟨#[65, 44, 32, 34, 66]⟩ : ByteArray), .string (⟨#[97, 64, 98]⟩ : ByteArray)] from (k32_mkM _ _ _ (⟨(⟨#[65, 44, 32, 34, 66]⟩ : ByteArray), (⟨#[97, 64, 98]⟩ : ByteArray)⟩ : S32) )) (Reps.c2 (show Kd.M k32 _ _ _ (⟨(⟨#[67, 32, 40, 120, 41]⟩ : ByteArray), (⟨#[99, 64, 100]⟩ : ByteArray)⟩ : S32) [.string (⟨#[67, 32, 40, 120, 41]⟩ : ByteArray), .string (⟨#[99, 64, 100]⟩ : ByteArray)] from (k32_mkM _ _ _ (⟨(⟨#[67, 32, 40, 120, 41]⟩ : ByteArray), (⟨#[99, 64, 100]⟩ : ByteArray)⟩ : S32) )) (Reps.c2 (show Kd.M k32 _ _ _ (⟨(⟨#[68]⟩ : ByteArray), (⟨#[]⟩ : ByteArray)⟩ : S32) [.string (⟨#[68]⟩ : ByteArray), .string (⟨#[]⟩ : ByteArray)] from (k32_mkM _ _ _ (⟨(⟨#[68]⟩ : ByteArray), (⟨#[]⟩ : ByteArray)⟩ : S32) )) (Reps.c2 (show Kd.M k32 _ _ _ (⟨(⟨#[]⟩ : ByteArray), (⟨#[101, 64, 102]⟩ : ByteArray)⟩ : S32) [.string (⟨#[]⟩ : ByteArray), .string (⟨#[101, 64, 102]⟩ : ByteArray)] from (k32_mkM _ _ _ (⟨(⟨#[]⟩ : ByteArray), (⟨#[101, 64, 102]⟩ : ByteArray)⟩ : S32) )) (Reps.none _ _)))))); intro v117 w21 ho22 hb hg_ hnew_; clear hg_ hnew_; (first | rw [← Ny116.out] at ho22 | (simp only [Int.reduceToNat] at ho22; rw [← Ny116.out] at ho22)); have n0_ := Aside0.mk (Kd.R_elder' (by (with_reducible repeat (first | apply Kd.R_alloc | apply Kd.R_drewN | apply Kd.R_drew)); exact HO105.out) (Kd.R_base ho22) hb); have n1_ := Aside0.mk (Kd.R_elder' (by (with_reducible repeat (first | apply Kd.R_alloc | apply Kd.R_drewN | apply Kd.R_drew)); exact HO108.out) (Kd.R_base ho22) hb); have n2_ := Aside0.mk (Kd.R_elder' (by (with_reducible repeat (first | apply Kd.R_alloc | apply Kd.R_drewN | apply Kd.R_drew)); exact HO113.out) (Kd.R_base ho22) hb); have n3_ := Aside0.mk (Kd.R_lower (Kd.R_new' (Kd.R_new' (Kd.R_new' ho22 (Kd.R_lt (by (with_reducible repeat (first | apply Kd.R_alloc | apply Kd.R_drewN | apply Kd.R_drew)); exact HO105.out))) (Kd.R_lt (by (with_reducible repeat (first | apply Kd.R_alloc | apply Kd.R_drewN | apply Kd.R_drew)); exact HO108.out))) (Kd.R_lt (by (with_reducible repeat (first | apply Kd.R_alloc | apply Kd.R_drewN | apply Kd.R_drew)); exact HO113.out))) (below_size (by repeat (first | (with_reducible first | exact HB.out | apply below_alloc | apply pw_below_drewN | apply below_drew1) | exact HB.out)))); have n4_ := Aside0.mk (below_step (by repeat (first | (with_reducible first | exact HB.out | apply below_alloc | apply pw_below_drewN | apply below_drew1) | exact HB.out)) hb); clear HO105; clear HO108; clear HO113; clear HB; have HO105 := n0_; have HO108 := n1_; have HO113 := n2_; have HO118 := n3_; have HB := n4_; clear n0_ n1_ n2_ n3_ n4_; clear hb ho22; obtain ⟨Ao23, co23, eo23⟩ := Kd.R_slice HO105.out; subst eo23; obtain ⟨Ao24, co24, eo24⟩ := Kd.R_slice HO118.out; subst eo24) | ((with_reducible refine gate_callee (f := 10) rfl ?_); refine goesL_ (some 27) rfl rfl Tryz.func10 (by kernel_rfl) rfl #[.slice Ao23 t103.length co23, .slice Ao24 y116.length co24] rfl (by (try simp only [List.map_toArray, List.map_cons, List.map_nil]); first | done | rfl | (simp only [List.length_drop, List.length_take]; rfl)) ?_; (with_reducible refine (muslinref08_Same.calls k _ _ t103 _ _ y116 true _ ?side1 ?side2 ?side3 ?side4 A4.out).mono ?_); (case side1 => repeat (first | exact (Kd.R_reads' HO105.out).2.2 | (with_reducible refine Kd.C_alloc ?_ _) | (with_reducible refine Kd.C_drewN ?_ _) | (with_reducible refine Kd.C_drew ?_))); (case side2 => exact (Kd.R_reads' HO105.out).2.1); (case side3 => repeat (first | exact (Kd.R_reads' HO118.out).2.2 | (with_reducible refine Kd.C_alloc ?_ _) | (with_reducible refine Kd.C_drewN ?_ _) | (with_reducible refine Kd.C_drew ?_))); (case side4 => exact (Kd.R_reads' HO118.out).2.1); rintro e w' ⟨rfl, ⟨nd, rfl⟩⟩; refine ⟨_, rfl, ?_⟩) | (go_at_call 13; (with_reducible refine (addr_Good.calls (⟨#[97, 64, 98]⟩ : ByteArray) true _ A9.out).mono ?_); rintro e w25 ⟨rfl, hb⟩; have n0_ := Aside0.mk (Kd.R_below (by (with_reducible repeat (first | apply Kd.R_alloc | apply Kd.R_drewN | apply Kd.R_drew)); exact HO105.out) hb); have n1_ := Aside0.mk (Kd.R_below (by (with_reducible repeat (first | apply Kd.R_alloc | apply Kd.R_drewN | apply Kd.R_drew)); exact HO108.out) hb); have n2_ := Aside0.mk (Kd.R_below (by (with_reducible repeat (first | apply Kd.R_alloc | apply Kd.R_drewN | apply Kd.R_drew)); exact HO113.out) hb); have n3_ := Aside0.mk (Kd.R_below (by (with_reducible repeat (first | apply Kd.R_alloc | apply Kd.R_drewN | apply Kd.R_drew)); exact HO118.out) hb); have n4_ := Aside0.mk (below_step (by repeat (first | (with_reducible first | exact HB.out | apply below_alloc | apply pw_below_drewN | apply below_drew1) | exact HB.out)) hb); clear HO105; clear HO108; clear HO113; clear HO118; clear HB; have HO105 := n0_; have HO108 := n1_; have HO113 := n2_; have HO118 := n3_; have HB := n4_; clear n0_ n1_ n2_ n3_ n4_; (try clear hb); (try clear hb2); (try clear hk); (try clear hi)) | (go_at_call 13; (with_reducible refine (addr_Good.calls (⟨#[97, 64]⟩ : ByteArray) t121 _ A11.out).mono ?_); rintro e w26 ⟨rfl, hb⟩; have n0_ := Aside0.mk (Kd.R_below (by (with_reducible repeat (first | apply Kd.R_alloc | apply Kd.R_drewN | apply Kd.R_drew)); exact HO105.out) hb); have n1_ := Aside0.mk (Kd.R_below (by (with_reducible repeat (first | apply Kd.R_alloc | apply Kd.R_drewN | apply Kd.R_drew)); exact HO108.out) hb); have n2_ := Aside0.mk (Kd.R_below (by (with_reducible repeat (first | apply Kd.R_alloc | apply Kd.R_drewN | apply Kd.R_drew)); exact HO113.out) hb); have n3_ := Aside0.mk (Kd.R_below (by (with_reducible repeat (first | apply Kd.R_alloc | apply Kd.R_drewN | apply Kd.R_drew)); exact HO118.out) hb); have n4_ := Aside0.mk (below_step (by repeat (first | (with_reducible first | exact HB.out | apply below_alloc | apply pw_below_drewN | apply below_drew1) | exact HB.out)) hb); clear HO105; clear HO108; clear HO113; clear HO118; clear HB; have HO105 := n0_; have HO108 := n1_; have HO113 := n2_; have HO118 := n3_; have HB := n4_; clear n0_ n1_ n2_ n3_ n4_; (try clear hb); (try clear hb2); (try clear hk); (try clear hi)))
  go_ret
  exact ⟨by first | rfl | (simp [errW_none, errW_some] <;> rfl) | (simp [*, errW_none, errW_some] <;> rfl), by repeat (first | (with_reducible first | exact HB.out | apply below_alloc | apply pw_below_drewN | apply below_drew1) | exact HB.out)⟩
def muslinlaw08_few.l0 : Nat → List (S32) → Int → Option (Bool)
  | 0, _, _ => none
  | k + 1, x0, x3 => if x3 < (x0.length : Int) then (if 0 ≤ x3 then (if (((rd_T32 x0 x3).f0).size : Int) > 300 then (some false) else (if (((rd_T32 x0 x3).f1).size : Int) > 300 then (some false) else (muslinlaw08_few.l0 k x0 (wrap64 (x3 + 1))))) else (none)) else (some true)
def muslinlaw08_few.f (k : Nat) (l0 : List (S32)) : Option (Bool) := if (l0.length : Int) > 40 then (some false) else (muslinlaw08_few.l0 k l0 0)
set_option maxHeartbeats 8000000 in
set_option maxRecDepth 100000 in
theorem muslinlaw08_few.calls (k : Nat) (A0 : Option Addr) (c0 : Nat) (l0 : List (S32)) (r : Bool) (w : World) (hr0 : Kd.C k32 w A0 l0.length l0) (hc0 : l0.length ≤ c0) (h : muslinlaw08_few.f k l0 = some r) :
    Calls Tryz.prog 15 #[.slice A0 l0.length c0] w fun e w' => e = .returned (.bool r) ∧ Drawn0 w w' := by
  have HR0 := Aside0.mk hr0; have HC0 := Aside0.mk hc0; clear hr0 hc0; have H : (if (l0.length : Int) > 40 then (some false) else (muslinlaw08_few.l0 k l0 0)) = some r := h; clear h
  by_cases c2 : (l0.length : Int) > 40
  case pos =>
    rw [if_pos c2] at H; have c2b0 : decide (40 < (l0.length : Int)) = true := decide_eq_true c2; have c2b1 : decide (40 < l0.length) = true := decide_eq_true (by omega); clear c2; obtain rfl := Option.some.inj H
    go_enter Tryz.func15, Tryz.ntmps15
    go_wp2
    go_ret
    exact ⟨by first | rfl | (simp; done) | (simp [*]; done), by repeat (first | exact Drawn0.refl _ | apply Drawn0.step)⟩
  rw [if_neg c2] at H; have c2b0 : decide (40 < (l0.length : Int)) = false := decide_eq_false c2; have c2b1 : decide (40 < l0.length) = false := decide_eq_false (by omega); clear c2; have H' := Aside0.mk H; clear H
  go_enter Tryz.func15, Tryz.ntmps15
  go_wp2
  go_loopg [3] k (fun kq v3 w' => ∃ (x3_1 : Int), v3 = .int .i64 x3_1 ∧ Aside0 (muslinlaw08_few.l0 kq l0 x3_1 = some r) ∧ Aside0 (kq ≤ k) ∧ Drawn0 w w')
  case atStart => exact ⟨(0), (by first | rfl | (simp; done) | (simp [*]; done)), H', ⟨Nat.le_refl _⟩, by repeat (first | exact Drawn0.refl _ | apply Drawn0.step)⟩
  case round =>
    clear H'; (try clear c1); (try clear c2); (try clear c2b0); (try clear c2b1); (try clear p2); obtain ⟨x3_1, rfl, HA, HK1, ⟨m1, rfl⟩⟩ := hrel
    cases gk with
    | zero => exact absurd HA.out (by simp [muslinlaw08_few.l0])
    | succ k1 =>
      have H := HA.out; clear HA; simp only [muslinlaw08_few.l0] at H
      by_cases c3 : x3_1 < (l0.length : Int)
      case neg =>
        rw [if_neg c3] at H; have c3b0 : decide (x3_1 < (l0.length : Int)) = false := decide_eq_false c3; clear c3; obtain rfl := Option.some.inj H
        go_wp2
        go_ret
        exact ⟨by first | rfl | (simp; done) | (simp [*]; done), by repeat (first | exact Drawn0.refl _ | apply Drawn0.step)⟩
      rw [if_pos c3] at H; have c3b0 : decide (x3_1 < (l0.length : Int)) = true := decide_eq_true c3; clear c3
      by_cases c4 : 0 ≤ x3_1
      case neg =>
        rw [if_neg c4] at H
        exact absurd H (by simp)
      rw [if_pos c4] at H; have c4b0 : decide (0 ≤ x3_1) = true := decide_eq_true c4; clear c4
      by_cases c5 : (((rd_T32 l0 x3_1).f0).size : Int) > 300
      case pos =>
        rw [if_pos c5] at H; have c5b0 : decide (300 < (((rd_T32 l0 x3_1).f0).size : Int)) = true := decide_eq_true c5; have c5b1 : decide (300 < ((rd_T32 l0 x3_1).f0).size) = true := decide_eq_true (by omega); clear c5; obtain rfl := Option.some.inj H; have p122 : 0 ≤ (x3_1 : Int) := of_decide_eq_true (by first | (with_reducible assumption) | assumption); have q122 : x3_1 < (l0.length : Int) := of_decide_eq_true (by first | (with_reducible assumption) | assumption); obtain ⟨ad122, e122, hx122_0, hx122_1⟩ := at_T32 HR0.out x3_1 p122 q122; cases e122; replace p122 := eq_true p122; replace q122 := eq_true q122
        go_wp2
        go_ret
        exact ⟨by first | rfl | (simp; done) | (simp [*]; done), by repeat (first | exact Drawn0.refl _ | apply Drawn0.step)⟩
      rw [if_neg c5] at H; have c5b0 : decide (300 < (((rd_T32 l0 x3_1).f0).size : Int)) = false := decide_eq_false c5; have c5b1 : decide (300 < ((rd_T32 l0 x3_1).f0).size) = false := decide_eq_false (by omega); clear c5
      by_cases c6 : (((rd_T32 l0 x3_1).f1).size : Int) > 300
      case pos =>
        rw [if_pos c6] at H; have c6b0 : decide (300 < (((rd_T32 l0 x3_1).f1).size : Int)) = true := decide_eq_true c6; have c6b1 : decide (300 < ((rd_T32 l0 x3_1).f1).size) = true := decide_eq_true (by omega); clear c6; obtain rfl := Option.some.inj H; have p122 : 0 ≤ (x3_1 : Int) := of_decide_eq_true (by first | (with_reducible assumption) | assumption); have q122 : x3_1 < (l0.length : Int) := of_decide_eq_true (by first | (with_reducible assumption) | assumption); obtain ⟨ad122, e122, hx122_0, hx122_1⟩ := at_T32 HR0.out x3_1 p122 q122; cases e122; replace p122 := eq_true p122; replace q122 := eq_true q122; have p123 : 0 ≤ (x3_1 : Int) := of_decide_eq_true (by first | (with_reducible assumption) | assumption); have q123 : x3_1 < (l0.length : Int) := of_decide_eq_true (by first | (with_reducible assumption) | assumption); obtain ⟨ad123, e123, hx123_0, hx123_1⟩ := at_T32 HR0.out x3_1 p123 q123; obtain rfl : ad122 = ad123 := (by injection e123); replace p123 := eq_true p123; replace q123 := eq_true q123
        go_wp2
        go_ret
        exact ⟨by first | rfl | (simp; done) | (simp [*]; done), by repeat (first | exact Drawn0.refl _ | apply Drawn0.step)⟩
      rw [if_neg c6] at H; have c6b0 : decide (300 < (((rd_T32 l0 x3_1).f1).size : Int)) = false := decide_eq_false c6; have c6b1 : decide (300 < ((rd_T32 l0 x3_1).f1).size) = false := decide_eq_false (by omega); clear c6; have H' := Aside0.mk H; clear H; have p122 : 0 ≤ (x3_1 : Int) := of_decide_eq_true (by first | (with_reducible assumption) | assumption); have q122 : x3_1 < (l0.length : Int) := of_decide_eq_true (by first | (with_reducible assumption) | assumption); obtain ⟨ad122, e122, hx122_0, hx122_1⟩ := at_T32 HR0.out x3_1 p122 q122; cases e122; replace p122 := eq_true p122; replace q122 := eq_true q122; have p123 : 0 ≤ (x3_1 : Int) := of_decide_eq_true (by first | (with_reducible assumption) | assumption); have q123 : x3_1 < (l0.length : Int) := of_decide_eq_true (by first | (with_reducible assumption) | assumption); obtain ⟨ad123, e123, hx123_0, hx123_1⟩ := at_T32 HR0.out x3_1 p123 q123; obtain rfl : ad122 = ad123 := (by injection e123); replace p123 := eq_true p123; replace q123 := eq_true q123
      go_wp2
      go_roundg k1
      case measure => have := HK1.out; omega
      case rel => exact ⟨(wrap64 (x3_1 + 1)), (by first | rfl | (simp; done) | (simp [*]; done)), H', ⟨by have := HK1.out; omega⟩, by repeat (first | exact Drawn0.refl _ | apply Drawn0.step)⟩
def muslinlaw08_AddrWrites.f (k : Nat) (l0 : List (S32)) : Option (Bool) := (muslinlaw08_few.f k l0).bind fun t124 => (if t124 = true then ((addr_Write.f l0).bind fun bt125 => ((muslinref08_Write.f l0).bind fun bt127 => (if bt125.1.toList = bt127.1.toList then (if bt125.2 = bt127.2 then ((muslinlaw08_live.f k).bind fun t129 => (some t129)) else (some false)) else (some false)))) else ((muslinlaw08_live.f k).bind fun t130 => (some t130)))
set_option maxHeartbeats 8000000 in
set_option maxRecDepth 100000 in
theorem muslinlaw08_AddrWrites.calls (k : Nat) (A0 : Option Addr) (c0 : Nat) (l0 : List (S32)) (r : Bool) (w : World) (hGl : Glob w) (hr0 : Kd.C k32 w A0 l0.length l0) (hc0 : l0.length ≤ c0) (h : muslinlaw08_AddrWrites.f k l0 = some r) :
    Calls Tryz.prog 4 #[.slice A0 l0.length c0] w fun e w' => e = .returned (.bool r) ∧ Below w.heap.size w w' := by
  have HGl := Aside0.mk hGl; clear hGl; have HR0 := Aside0.mk hr0; have HC0 := Aside0.mk hc0; clear hr0 hc0; have HB := Aside0.mk (Below.refl w.heap.size w); have H : ((muslinlaw08_few.f k l0).bind fun t124 => (if t124 = true then ((addr_Write.f l0).bind fun bt125 => ((muslinref08_Write.f l0).bind fun bt127 => (if bt125.1.toList = bt127.1.toList then (if bt125.2 = bt127.2 then ((muslinlaw08_live.f k).bind fun t129 => (some t129)) else (some false)) else (some false)))) else ((muslinlaw08_live.f k).bind fun t130 => (some t130)))) = some r := h; clear h; replace H := Option.bind_eq_some_iff.mp H; obtain ⟨t124, A20, H⟩ := H; replace H : (if t124 = true then ((addr_Write.f l0).bind fun bt125 => ((muslinref08_Write.f l0).bind fun bt127 => (if bt125.1.toList = bt127.1.toList then (if bt125.2 = bt127.2 then ((muslinlaw08_live.f k).bind fun t129 => (some t129)) else (some false)) else (some false)))) else ((muslinlaw08_live.f k).bind fun t130 => (some t130))) = some r := H; have A2 := Aside0.mk A20; clear A20
  by_cases c3 : t124 = true
  case neg =>
    replace c3 := Bool.eq_false_iff.mpr c3; subst c3
    have H1 : ((muslinlaw08_live.f k).bind fun t130 => (some t130)) = some r := by rw [if_neg (show ¬ (false = true) by decide)] at H; exact H
    clear H; have H := H1; clear H1; replace H := Option.bind_eq_some_iff.mp H; obtain ⟨t130, A160, H⟩ := H; replace H : (some t130) = some r := H; have A16 := Aside0.mk A160; clear A160; obtain rfl := Option.some.inj H
    go_enter Tryz.func4, Tryz.ntmps4
    go_wp2_with (first | ((with_reducible refine gate_callee (f := 15) rfl ?_); refine goesL_ (some 8) rfl rfl Tryz.func15 (by kernel_rfl) rfl #[.slice A0 l0.length c0] rfl (by (try simp only [List.map_toArray, List.map_cons, List.map_nil]); first | done | rfl | (simp only [List.length_drop, List.length_take]; rfl)) ?_; (with_reducible refine (muslinlaw08_few.calls k _ _ l0 false _ ?side1 ?side2 A2.out).mono ?_); (case side1 => repeat (first | exact HR0.out | (with_reducible refine Kd.C_alloc ?_ _) | (with_reducible refine Kd.C_drewN ?_ _) | (with_reducible refine Kd.C_drew ?_))); (case side2 => exact HC0.out); rintro e w' ⟨rfl, ⟨nd, rfl⟩⟩; refine ⟨_, rfl, ?_⟩) | ((with_reducible refine gate_callee (f := 9) rfl ?_); refine goesL_ (some 10) rfl rfl Tryz.func9 (by kernel_rfl) rfl #[] rfl (by (try simp only [List.map_toArray, List.map_cons, List.map_nil]); first | done | rfl | (simp only [List.length_drop, List.length_take]; rfl)) ?_; (with_reducible refine (muslinlaw08_live.calls k  t130 _ ?sideGl A16.out).mono ?_); (case sideGl => exact HGl.out.below (by repeat (first | (with_reducible first | exact HB.out | apply below_alloc | apply pw_below_drewN | apply below_drew1) | exact HB.out))); rintro e w17 ⟨rfl, hb⟩; refine ⟨_, rfl, ?_⟩; have n0_ := Aside0.mk (below_step (by repeat (first | (with_reducible first | exact HB.out | apply below_alloc | apply pw_below_drewN | apply below_drew1) | exact HB.out)) hb); clear HB; have HB := n0_; clear n0_; (try clear hb); (try clear hb2); (try clear hk); (try clear hi)))
    go_ret
    exact ⟨by first | rfl | (simp [errW_none, errW_some] <;> rfl) | (simp [*, errW_none, errW_some] <;> rfl), by repeat (first | (with_reducible first | exact HB.out | apply below_alloc | apply pw_below_drewN | apply below_drew1) | exact HB.out)⟩
  subst c3
  have H1 : ((addr_Write.f l0).bind fun bt125 => ((muslinref08_Write.f l0).bind fun bt127 => (if bt125.1.toList = bt127.1.toList then (if bt125.2 = bt127.2 then ((muslinlaw08_live.f k).bind fun t129 => (some t129)) else (some false)) else (some false)))) = some r := by rw [if_pos rfl] at H; exact H
  clear H; have H := H1; clear H1; replace H := Option.bind_eq_some_iff.mp H; obtain ⟨⟨t125, t126⟩, A40, H⟩ := H; replace H : ((muslinref08_Write.f l0).bind fun bt127 => (if t125.toList = bt127.1.toList then (if t126 = bt127.2 then ((muslinlaw08_live.f k).bind fun t129 => (some t129)) else (some false)) else (some false))) = some r := H; have A4 := Aside0.mk A40; clear A40; replace H := Option.bind_eq_some_iff.mp H; obtain ⟨⟨t127, t128⟩, A50, H⟩ := H; replace H : (if t125.toList = t127.toList then (if t126 = t128 then ((muslinlaw08_live.f k).bind fun t129 => (some t129)) else (some false)) else (some false)) = some r := H; have A5 := Aside0.mk A50; clear A50
  by_cases c6 : t125.toList = t127.toList
  case neg =>
    rw [if_neg c6] at H; have c6b0 : (t125.toList == t127.toList) = false := beq_eq_false_iff_ne.mpr c6; have c6b1 : (t125.toList != t127.toList) = true := bne_iff_ne.mpr c6; obtain rfl := Option.some.inj H
    go_enter Tryz.func4, Tryz.ntmps4
    go_wp2_with (first | ((with_reducible refine gate_callee (f := 15) rfl ?_); refine goesL_ (some 8) rfl rfl Tryz.func15 (by kernel_rfl) rfl #[.slice A0 l0.length c0] rfl (by (try simp only [List.map_toArray, List.map_cons, List.map_nil]); first | done | rfl | (simp only [List.length_drop, List.length_take]; rfl)) ?_; (with_reducible refine (muslinlaw08_few.calls k _ _ l0 true _ ?side1 ?side2 A2.out).mono ?_); (case side1 => repeat (first | exact HR0.out | (with_reducible refine Kd.C_alloc ?_ _) | (with_reducible refine Kd.C_drewN ?_ _) | (with_reducible refine Kd.C_drew ?_))); (case side2 => exact HC0.out); rintro e w' ⟨rfl, ⟨nd, rfl⟩⟩; refine ⟨_, rfl, ?_⟩) | ((with_reducible refine gate_callee (f := 16) rfl ?_); refine goesL_ (some 13) rfl rfl Tryz.func16 (by kernel_rfl) rfl #[.slice A0 l0.length c0] rfl (by (try simp only [List.map_toArray, List.map_cons, List.map_nil]); first | done | rfl | (simp only [List.length_drop, List.length_take]; rfl)) ?_; (with_reducible refine (addr_Write.calls _ _ l0 t125 t126 _ ?side1 ?side2 ?sideGl A4.out).mono ?_); (case sideGl => exact HGl.out.below (by repeat (first | (with_reducible first | exact HB.out | apply below_alloc | apply pw_below_drewN | apply below_drew1) | exact HB.out))); (case side1 => repeat (first | exact HR0.out | (with_reducible refine Kd.C_alloc ?_ _) | (with_reducible refine Kd.C_drewN ?_ _) | (with_reducible refine Kd.C_drew ?_))); (case side2 => exact HC0.out); rintro e w14 ⟨rfl, hb⟩; refine ⟨_, rfl, ?_⟩; have n0_ := Aside0.mk (below_step (by repeat (first | (with_reducible first | exact HB.out | apply below_alloc | apply pw_below_drewN | apply below_drew1) | exact HB.out)) hb); clear HB; have HB := n0_; clear n0_; (try clear hb); (try clear hb2); (try clear hk); (try clear hi)) | ((with_reducible refine gate_callee (f := 17) rfl ?_); refine goesL_ (some 18) rfl rfl Tryz.func17 (by kernel_rfl) rfl #[.slice A0 l0.length c0] rfl (by (try simp only [List.map_toArray, List.map_cons, List.map_nil]); first | done | rfl | (simp only [List.length_drop, List.length_take]; rfl)) ?_; (with_reducible refine (muslinref08_Write.calls _ _ l0 t127 t128 _ ?side1 ?side2 ?sideGl A5.out).mono ?_); (case sideGl => exact HGl.out.below (by repeat (first | (with_reducible first | exact HB.out | apply below_alloc | apply pw_below_drewN | apply below_drew1) | exact HB.out))); (case side1 => repeat (first | exact (Kd.C_below HR0.out HB.out) | (with_reducible refine Kd.C_alloc ?_ _) | (with_reducible refine Kd.C_drewN ?_ _) | (with_reducible refine Kd.C_drew ?_))); (case side2 => exact HC0.out); rintro e w15 ⟨rfl, hb⟩; refine ⟨_, rfl, ?_⟩; have n0_ := Aside0.mk (below_step (by repeat (first | (with_reducible first | exact HB.out | apply below_alloc | apply pw_below_drewN | apply below_drew1) | exact HB.out)) hb); clear HB; have HB := n0_; clear n0_; (try clear hb); (try clear hb2); (try clear hk); (try clear hi)))
    go_ret
    exact ⟨by first | rfl | (simp [errW_none, errW_some] <;> rfl) | (simp [*, errW_none, errW_some] <;> rfl), by repeat (first | (with_reducible first | exact HB.out | apply below_alloc | apply pw_below_drewN | apply below_drew1) | exact HB.out)⟩
  rw [if_pos c6] at H; have c6b0 : (t125.toList == t127.toList) = true := beq_iff_eq.mpr c6; have c6b1 : (t125.toList != t127.toList) = false := bne_eq_false_iff_eq.mpr c6; clear c6
  by_cases c7 : t126 = t128
  case neg =>
    rw [if_neg c7] at H; have c7b0 : (t126 == t128) = false := beq_eq_false_iff_ne.mpr c7; have c7b1 : (t126 != t128) = true := bne_iff_ne.mpr c7; obtain rfl := Option.some.inj H
    go_enter Tryz.func4, Tryz.ntmps4
    go_wp2_with (first | ((with_reducible refine gate_callee (f := 15) rfl ?_); refine goesL_ (some 8) rfl rfl Tryz.func15 (by kernel_rfl) rfl #[.slice A0 l0.length c0] rfl (by (try simp only [List.map_toArray, List.map_cons, List.map_nil]); first | done | rfl | (simp only [List.length_drop, List.length_take]; rfl)) ?_; (with_reducible refine (muslinlaw08_few.calls k _ _ l0 true _ ?side1 ?side2 A2.out).mono ?_); (case side1 => repeat (first | exact HR0.out | (with_reducible refine Kd.C_alloc ?_ _) | (with_reducible refine Kd.C_drewN ?_ _) | (with_reducible refine Kd.C_drew ?_))); (case side2 => exact HC0.out); rintro e w' ⟨rfl, ⟨nd, rfl⟩⟩; refine ⟨_, rfl, ?_⟩) | ((with_reducible refine gate_callee (f := 16) rfl ?_); refine goesL_ (some 13) rfl rfl Tryz.func16 (by kernel_rfl) rfl #[.slice A0 l0.length c0] rfl (by (try simp only [List.map_toArray, List.map_cons, List.map_nil]); first | done | rfl | (simp only [List.length_drop, List.length_take]; rfl)) ?_; (with_reducible refine (addr_Write.calls _ _ l0 t125 t126 _ ?side1 ?side2 ?sideGl A4.out).mono ?_); (case sideGl => exact HGl.out.below (by repeat (first | (with_reducible first | exact HB.out | apply below_alloc | apply pw_below_drewN | apply below_drew1) | exact HB.out))); (case side1 => repeat (first | exact HR0.out | (with_reducible refine Kd.C_alloc ?_ _) | (with_reducible refine Kd.C_drewN ?_ _) | (with_reducible refine Kd.C_drew ?_))); (case side2 => exact HC0.out); rintro e w12 ⟨rfl, hb⟩; refine ⟨_, rfl, ?_⟩; have n0_ := Aside0.mk (below_step (by repeat (first | (with_reducible first | exact HB.out | apply below_alloc | apply pw_below_drewN | apply below_drew1) | exact HB.out)) hb); clear HB; have HB := n0_; clear n0_; (try clear hb); (try clear hb2); (try clear hk); (try clear hi)) | ((with_reducible refine gate_callee (f := 17) rfl ?_); refine goesL_ (some 18) rfl rfl Tryz.func17 (by kernel_rfl) rfl #[.slice A0 l0.length c0] rfl (by (try simp only [List.map_toArray, List.map_cons, List.map_nil]); first | done | rfl | (simp only [List.length_drop, List.length_take]; rfl)) ?_; (with_reducible refine (muslinref08_Write.calls _ _ l0 t127 t128 _ ?side1 ?side2 ?sideGl A5.out).mono ?_); (case sideGl => exact HGl.out.below (by repeat (first | (with_reducible first | exact HB.out | apply below_alloc | apply pw_below_drewN | apply below_drew1) | exact HB.out))); (case side1 => repeat (first | exact (Kd.C_below HR0.out HB.out) | (with_reducible refine Kd.C_alloc ?_ _) | (with_reducible refine Kd.C_drewN ?_ _) | (with_reducible refine Kd.C_drew ?_))); (case side2 => exact HC0.out); rintro e w13 ⟨rfl, hb⟩; refine ⟨_, rfl, ?_⟩; have n0_ := Aside0.mk (below_step (by repeat (first | (with_reducible first | exact HB.out | apply below_alloc | apply pw_below_drewN | apply below_drew1) | exact HB.out)) hb); clear HB; have HB := n0_; clear n0_; (try clear hb); (try clear hb2); (try clear hk); (try clear hi)))
    go_ret
    exact ⟨by first | rfl | (simp [errW_none, errW_some] <;> rfl) | (simp [*, errW_none, errW_some] <;> rfl), by repeat (first | (with_reducible first | exact HB.out | apply below_alloc | apply pw_below_drewN | apply below_drew1) | exact HB.out)⟩
  rw [if_pos c7] at H; have c7b0 : (t126 == t128) = true := beq_iff_eq.mpr c7; have c7b1 : (t126 != t128) = false := bne_eq_false_iff_eq.mpr c7; clear c7; replace H := Option.bind_eq_some_iff.mp H; obtain ⟨t129, A80, H⟩ := H; replace H : (some t129) = some r := H; have A8 := Aside0.mk A80; clear A80; obtain rfl := Option.some.inj H
  go_enter Tryz.func4, Tryz.ntmps4
  go_wp2_with (first | ((with_reducible refine gate_callee (f := 15) rfl ?_); refine goesL_ (some 8) rfl rfl Tryz.func15 (by kernel_rfl) rfl #[.slice A0 l0.length c0] rfl (by (try simp only [List.map_toArray, List.map_cons, List.map_nil]); first | done | rfl | (simp only [List.length_drop, List.length_take]; rfl)) ?_; (with_reducible refine (muslinlaw08_few.calls k _ _ l0 true _ ?side1 ?side2 A2.out).mono ?_); (case side1 => repeat (first | exact HR0.out | (with_reducible refine Kd.C_alloc ?_ _) | (with_reducible refine Kd.C_drewN ?_ _) | (with_reducible refine Kd.C_drew ?_))); (case side2 => exact HC0.out); rintro e w' ⟨rfl, ⟨nd, rfl⟩⟩; refine ⟨_, rfl, ?_⟩) | ((with_reducible refine gate_callee (f := 16) rfl ?_); refine goesL_ (some 13) rfl rfl Tryz.func16 (by kernel_rfl) rfl #[.slice A0 l0.length c0] rfl (by (try simp only [List.map_toArray, List.map_cons, List.map_nil]); first | done | rfl | (simp only [List.length_drop, List.length_take]; rfl)) ?_; (with_reducible refine (addr_Write.calls _ _ l0 t125 t126 _ ?side1 ?side2 ?sideGl A4.out).mono ?_); (case sideGl => exact HGl.out.below (by repeat (first | (with_reducible first | exact HB.out | apply below_alloc | apply pw_below_drewN | apply below_drew1) | exact HB.out))); (case side1 => repeat (first | exact HR0.out | (with_reducible refine Kd.C_alloc ?_ _) | (with_reducible refine Kd.C_drewN ?_ _) | (with_reducible refine Kd.C_drew ?_))); (case side2 => exact HC0.out); rintro e w9 ⟨rfl, hb⟩; refine ⟨_, rfl, ?_⟩; have n0_ := Aside0.mk (below_step (by repeat (first | (with_reducible first | exact HB.out | apply below_alloc | apply pw_below_drewN | apply below_drew1) | exact HB.out)) hb); clear HB; have HB := n0_; clear n0_; (try clear hb); (try clear hb2); (try clear hk); (try clear hi)) | ((with_reducible refine gate_callee (f := 17) rfl ?_); refine goesL_ (some 18) rfl rfl Tryz.func17 (by kernel_rfl) rfl #[.slice A0 l0.length c0] rfl (by (try simp only [List.map_toArray, List.map_cons, List.map_nil]); first | done | rfl | (simp only [List.length_drop, List.length_take]; rfl)) ?_; (with_reducible refine (muslinref08_Write.calls _ _ l0 t127 t128 _ ?side1 ?side2 ?sideGl A5.out).mono ?_); (case sideGl => exact HGl.out.below (by repeat (first | (with_reducible first | exact HB.out | apply below_alloc | apply pw_below_drewN | apply below_drew1) | exact HB.out))); (case side1 => repeat (first | exact (Kd.C_below HR0.out HB.out) | (with_reducible refine Kd.C_alloc ?_ _) | (with_reducible refine Kd.C_drewN ?_ _) | (with_reducible refine Kd.C_drew ?_))); (case side2 => exact HC0.out); rintro e w10 ⟨rfl, hb⟩; refine ⟨_, rfl, ?_⟩; have n0_ := Aside0.mk (below_step (by repeat (first | (with_reducible first | exact HB.out | apply below_alloc | apply pw_below_drewN | apply below_drew1) | exact HB.out)) hb); clear HB; have HB := n0_; clear n0_; (try clear hb); (try clear hb2); (try clear hk); (try clear hi)) | (go_at_call 9; (with_reducible refine (muslinlaw08_live.calls k  t129 _ ?sideGl A8.out).mono ?_); (case sideGl => exact HGl.out.below (by repeat (first | (with_reducible first | exact HB.out | apply below_alloc | apply pw_below_drewN | apply below_drew1) | exact HB.out))); rintro e w11 ⟨rfl, hb⟩; have n0_ := Aside0.mk (below_step (by repeat (first | (with_reducible first | exact HB.out | apply below_alloc | apply pw_below_drewN | apply below_drew1) | exact HB.out)) hb); clear HB; have HB := n0_; clear n0_; (try clear hb); (try clear hb2); (try clear hk); (try clear hi)))
  go_ret
  exact ⟨by first | rfl | (simp [errW_none, errW_some] <;> rfl) | (simp [*, errW_none, errW_some] <;> rfl), by repeat (first | (with_reducible first | exact HB.out | apply below_alloc | apply pw_below_drewN | apply below_drew1) | exact HB.out)⟩
end Go.Proofs.YtpcncpegbboljaaGreatDoor.P
namespace Go.Proofs.YtpcncpegbboljaaGreatDoor.Pure
open Go.RowKit Go.Lib Go.Proofs.YtpcncpegbboljaaGreatDoor Go.Proofs.YtpcncpegbboljaaGreatDoor.P Go.Proofs.YtpcncpegbboljaaGreatDoor.Addr Go.Proofs.YtpcncpegbboljaaGreatDoorW.PrintWords Go.Proofs.YtpcncpegbboljaaGreatDoorW.PrintLast Go.Proofs.YtpcncpegbboljaaGreatDoorW.PrintMore
set_option linter.unusedVariables false
set_option linter.unusedSimpArgs false
theorem live_100 : muslinlaw08_live.f 100 = some true := by kernel_rfl
theorem live_is : Ev (fun k => muslinlaw08_live.f k) true := Ev.of (fun k => muslinlaw08_live.mono k) live_100
theorem live_end : Ev (fun k => (muslinlaw08_live.f k).bind fun t => some t) true := Ev.bind live_is (Ev.now _)
def allB (l : List S32) : Bool := l.all fun x => decide (x.f0.size ≤ 300) && decide (x.f1.size ≤ 300)
def fewB (l : List S32) : Bool := decide (l.length ≤ 40) && allB l
theorem few_loop (l : List S32) (hl : l.length ≤ 40) : ∀ (n i : Nat), l.length - i ≤ n → Ev (fun k => muslinlaw08_few.l0 k l (i : Int)) (allB (l.drop i)) := by
  intro n
  induction n with
  | zero =>
    intro i h
    refine Ev.round (fun k => by rw [muslinlaw08_few.l0]) ?_
    refine Ev.neg (by omega) ?_
    rw [List.drop_eq_nil_of_le (by omega)]
    exact Ev.now _
  | succ n ih =>
    intro i h
    refine Ev.round (fun k => by rw [muslinlaw08_few.l0]) ?_
    by_cases hlt : i < l.length
    · have hrd : rd_T32 l (i : Int) = l[i] := by unfold rd_T32; simp [hlt]
      have e : allB (l.drop i) = (decide (l[i].f0.size ≤ 300) && decide (l[i].f1.size ≤ 300) && allB (l.drop (i + 1))) := by
        rw [List.drop_eq_getElem_cons hlt]; rfl
      refine Ev.pos (by omega) ?_
      refine Ev.pos (by omega) ?_
      rw [hrd, e]
      by_cases h0 : l[i].f0.size ≤ 300
      · refine Ev.neg (by omega) ?_
        by_cases h1 : l[i].f1.size ≤ 300
        · refine Ev.neg (by omega) ?_
          rw [decide_eq_true h0, decide_eq_true h1, w64 (x := (i : Int) + 1) (by omega) (by omega), show ((i : Int) + 1) = ((i + 1 : Nat) : Int) from by omega]
          exact ih (i + 1) (by omega)
        · refine Ev.pos (by omega) ?_
          rw [decide_eq_true h0, decide_eq_false h1]
          exact Ev.now _
      · refine Ev.pos (by omega) ?_
        rw [decide_eq_false h0]
        exact Ev.now _
    · refine Ev.neg (by omega) ?_
      rw [List.drop_eq_nil_of_le (by omega)]
      exact Ev.now _
theorem few_is (l : List S32) : Ev (fun k => muslinlaw08_few.f k l) (fewB l) := by
  unfold muslinlaw08_few.f
  by_cases h : l.length ≤ 40
  · refine Ev.neg (by omega) ?_
    unfold fewB
    rw [decide_eq_true h]
    have := few_loop l h _ 0 (Nat.le_refl _)
    rw [List.drop_zero] at this
    exact this
  · refine Ev.pos (by omega) ?_
    unfold fewB
    rw [decide_eq_false h]
    exact Ev.now _
theorem small_few (l : List S32) (h : fewB l = true) : smallB l := by
  unfold fewB allB at h
  rw [Bool.and_eq_true] at h
  refine ⟨of_decide_eq_true h.1, fun x hx => ?_⟩
  have := List.all_eq_true.1 h.2 x hx
  rw [Bool.and_eq_true] at this
  exact ⟨of_decide_eq_true this.1, of_decide_eq_true this.2⟩
theorem AddrWrites (l : List S32) : ∃ k, muslinlaw08_AddrWrites.f k l = some true := by
  refine Ev.rounds (r := true) (g := fun k => muslinlaw08_AddrWrites.f k l) ?_
  unfold muslinlaw08_AddrWrites.f
  refine Ev.bind (few_is l) ?_
  by_cases h : fewB l = true
  · refine Ev.pos h ?_
    have hs := small_few l h
    refine Ev.got (show addr_Write.f l = some (⟨(writeL (l.map boxOf)).1.toArray⟩, (writeL (l.map boxOf)).2) from guard_of hs) ?_
    refine Ev.got (show muslinref08_Write.f l = some (⟨(writeL (l.map boxOf)).1.toArray⟩, (writeL (l.map boxOf)).2) from guard_of hs) ?_
    refine Ev.pos rfl ?_
    refine Ev.pos rfl ?_
    exact live_end
  · refine Ev.neg h ?_
    exact live_end
end Go.Proofs.YtpcncpegbboljaaGreatDoor.Pure
