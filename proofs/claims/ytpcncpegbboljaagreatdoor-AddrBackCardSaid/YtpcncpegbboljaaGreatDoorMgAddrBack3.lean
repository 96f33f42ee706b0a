/- Parts of the proof of the law AddrBack, in one text: P2, P8, P11, Pure08b, Pure08e, Laid08, BoxArg. -/
import Derived.Test.YtpcncpegbboljaaGreatDoorMgAddrBack2
import Derived.Test.YtpcncpegbboljaaGreatDoorRows
import Derived.Lay
import Derived.PinnedBridge
import Derived.Lib.LaidU8
import Derived.Stop.LaidErr
import Derived.LaidMore
import Derived.ProofKit
import Derived.HandedShaped
import Derived.Handed
import Derived.SliceStrings
import Derived.ChangeSame
set_option linter.unusedVariables false
set_option linter.unusedSimpArgs false
namespace Go.Proofs.YtpcncpegbboljaaGreatDoor.P
open Go.RowKit Go.Proofs.YtpcncpegbboljaaGreatDoorW.PrintWords Go.Proofs.YtpcncpegbboljaaGreatDoorW.PrintLast Go.Proofs.YtpcncpegbboljaaGreatDoorW.PrintMore
attribute [local go_sem] max2_int min2_int max_two min_two max_three min_three max_four min_four
set_option linter.unusedVariables false
set_option linter.unusedSimpArgs false
attribute [local go_sem high] eqA32
def muslinref08_Same.l0 : Nat → List (S32) → List (S32) → Int → Option (Bool)
  | 0, _, _, _ => none
  | k + 1, x0, x1, x5 => if x5 < (x0.length : Int) then (if 0 ≤ x5 then (if x5 < (x1.length : Int) then (if (!((((rd_T32 x0 x5).f0).toList) == (((rd_T32 x1 x5).f0).toList)) || (!((((rd_T32 x0 x5).f1).toList) == (((rd_T32 x1 x5).f1).toList)))) = true then (some false) else (muslinref08_Same.l0 k x0 x1 (wrap64 (x5 + 1)))) else (none)) else (none)) else (some true)
def muslinref08_Same.f (k : Nat) (l0 : List (S32)) (l1 : List (S32)) : Option (Bool) := if (l0.length : Int) = (l1.length : Int) then (muslinref08_Same.l0 k l0 l1 0) else (some false)
theorem muslinref08_Same.mono_l : ∀ k, (∀ y0 y1 y2, LeO (muslinref08_Same.l0 k y0 y1 y2) (muslinref08_Same.l0 (k + 1) y0 y1 y2))
  | 0 => fun _ _ _ r h => by simp [muslinref08_Same.l0] at h
  | k + 1 => by
    have ih0 := muslinref08_Same.mono_l k
    · intro y0 y1 y2
      unfold muslinref08_Same.l0
      repeat' first
      | (with_reducible exact ih0 _ _ _)
      | (with_reducible exact LeO.refl _)
      | (with_reducible exact LeO.none _)
      | (with_reducible refine LeO.ite ?_ ?_)
      | (with_reducible refine LeO.bind ?_ (fun _ => ?_))
      | exact ih0 _ _ _
      | exact LeO.none _
      | refine LeO.ite ?_ ?_
      | refine LeO.bind ?_ (fun _ => ?_)
theorem muslinref08_Same.mono : ∀ a0 a1 k, LeO (muslinref08_Same.f k a0 a1) (muslinref08_Same.f (k + 1) a0 a1) := by
  intro a0 a1 k; have ih0 := muslinref08_Same.mono_l k; unfold muslinref08_Same.f
  repeat' first
      | (with_reducible exact ih0 _ _ _)
      | (with_reducible exact LeO.refl _)
      | (with_reducible exact LeO.none _)
      | (with_reducible refine LeO.ite ?_ ?_)
      | (with_reducible refine LeO.bind ?_ (fun _ => ?_))
      | exact ih0 _ _ _
      | exact LeO.none _
      | refine LeO.ite ?_ ?_
      | refine LeO.bind ?_ (fun _ => ?_)
set_option maxHeartbeats 8000000 in
set_option maxRecDepth 100000 in
theorem muslinref08_Same.calls (k : Nat) (A0 : Option Addr) (c0 : Nat) (l0 : List (S32)) (A1 : Option Addr) (c1 : Nat) (l1 : List (S32)) (r : Bool) (w : World) (hr0 : Kd.C k32 w A0 l0.length l0) (hc0 : l0.length ≤ c0) (hr1 : Kd.C k32 w A1 l1.length l1) (hc1 : l1.length ≤ c1) (h : muslinref08_Same.f k l0 l1 = some r) :
    Calls Tryz.prog 10 #[.slice A0 l0.length c0, .slice A1 l1.length c1] w fun e w' => e = .returned (.bool r) ∧ Drawn0 w w' := by
  have hu32 := Tryz.underlying32; have HR0 := Aside0.mk hr0; have HC0 := Aside0.mk hc0; clear hr0 hc0; have HR1 := Aside0.mk hr1; have HC1 := Aside0.mk hc1; clear hr1 hc1; have H : (if (l0.length : Int) = (l1.length : Int) then (muslinref08_Same.l0 k l0 l1 0) else (some false)) = some r := h; clear h
  by_cases c3 : (l0.length : Int) = (l1.length : Int)
  case neg =>
    rw [if_neg c3] at H; have c3b0 : ((l0.length : Int) == (l1.length : Int)) = false := beq_eq_false_iff_ne.mpr c3; have c3b1 : ((l0.length : Int) != (l1.length : Int)) = true := bne_iff_ne.mpr c3
    have c3b2 : (l0.length == l1.length) = false := by first | simpa using c3 | (simp at c3 ⊢; omega)
    obtain rfl := Option.some.inj H
    go_enter Tryz.func10, Tryz.ntmps10
    go_wp2
    repeat (go_quiet (fail); try go_wp2)
    go_ret
    exact ⟨by first | rfl | (simp; done) | (simp [*]; done), by repeat (first | exact Drawn0.refl _ | apply Drawn0.step)⟩
  rw [if_pos c3] at H; have c3b0 : ((l0.length : Int) == (l1.length : Int)) = true := beq_iff_eq.mpr c3; have c3b1 : ((l0.length : Int) != (l1.length : Int)) = false := bne_eq_false_iff_eq.mpr c3
  have c3b2 : (l0.length == l1.length) = true := by first | simpa using c3 | (simp at c3 ⊢; omega)
  clear c3; have H' := Aside0.mk H; clear H
  go_enter Tryz.func10, Tryz.ntmps10
  go_wp2
  repeat (go_quiet (fail); try go_wp2)
  go_loopg [5] k (fun kq v5 w' => ∃ (x5_1 : Int), v5 = .int .i64 x5_1 ∧ Aside0 (muslinref08_Same.l0 kq l0 l1 x5_1 = some r) ∧ Aside0 (kq ≤ k) ∧ Drawn0 w w')
  case atStart => exact ⟨(0), (by first | rfl | (simp; done) | (simp [*]; done)), H', ⟨Nat.le_refl _⟩, by repeat (first | exact Drawn0.refl _ | apply Drawn0.step)⟩
  case round =>
    clear H'; (try clear c1); (try clear p2); (try clear c3); (try clear c3b0); (try clear c3b1); (try clear c3b2); obtain ⟨x5_1, rfl, HA, HK1, ⟨m1, rfl⟩⟩ := hrel
    cases gk with
    | zero => exact absurd HA.out (by simp [muslinref08_Same.l0])
    | succ k1 =>
      have H := HA.out; clear HA; simp only [muslinref08_Same.l0] at H
      by_cases c4 : x5_1 < (l0.length : Int)
      case neg =>
        rw [if_neg c4] at H; have c4b0 : decide (x5_1 < (l0.length : Int)) = false := decide_eq_false c4; clear c4; obtain rfl := Option.some.inj H
        go_wp2
        repeat (go_quiet (fail); try go_wp2)
        go_ret
        exact ⟨by first | rfl | (simp; done) | (simp [*]; done), by repeat (first | exact Drawn0.refl _ | apply Drawn0.step)⟩
      rw [if_pos c4] at H; have c4b0 : decide (x5_1 < (l0.length : Int)) = true := decide_eq_true c4; clear c4
      by_cases c5 : 0 ≤ x5_1
      case neg =>
        rw [if_neg c5] at H
        exact absurd H (by simp)
      rw [if_pos c5] at H; have c5b0 : decide (0 ≤ x5_1) = true := decide_eq_true c5; clear c5
      by_cases c6 : x5_1 < (l1.length : Int)
      case neg =>
        rw [if_neg c6] at H
        exact absurd H (by simp)
      rw [if_pos c6] at H; have c6b0 : decide (x5_1 < (l1.length : Int)) = true := decide_eq_true c6; clear c6
      by_cases c7 : (!((((rd_T32 l0 x5_1).f0).toList) == (((rd_T32 l1 x5_1).f0).toList)) || (!((((rd_T32 l0 x5_1).f1).toList) == (((rd_T32 l1 x5_1).f1).toList)))) = true
      case pos =>
        rw [if_pos c7] at H; have c7b0 : (!((((rd_T32 l0 x5_1).f0).toList) == (((rd_T32 l1 x5_1).f0).toList)) || (!((((rd_T32 l0 x5_1).f1).toList) == (((rd_T32 l1 x5_1).f1).toList)))) = true := c7; clear c7; obtain rfl := Option.some.inj H; have p101 : 0 ≤ (x5_1 : Int) := of_decide_eq_true (by first | (with_reducible assumption) | assumption); have q101 : x5_1 < (l0.length : Int) := of_decide_eq_true (by first | (with_reducible assumption) | assumption); obtain ⟨ad101, e101, hx101_0, hx101_1⟩ := at_T32 HR0.out x5_1 p101 q101; cases e101; replace p101 := eq_true p101; replace q101 := eq_true q101; have p102 : 0 ≤ (x5_1 : Int) := of_decide_eq_true (by first | (with_reducible assumption) | assumption); have q102 : x5_1 < (l1.length : Int) := of_decide_eq_true (by first | (with_reducible assumption) | assumption); obtain ⟨ad102, e102, hx102_0, hx102_1⟩ := at_T32 HR1.out x5_1 p102 q102; cases e102; replace p102 := eq_true p102; replace q102 := eq_true q102
        go_wp2
        repeat (go_quiet (fail); try go_wp2)
        go_ret
        exact ⟨by first | rfl | (simp; done) | (simp [*]; done), by repeat (first | exact Drawn0.refl _ | apply Drawn0.step)⟩
      rw [if_neg c7] at H
      have c7b0 : (!((((rd_T32 l0 x5_1).f0).toList) == (((rd_T32 l1 x5_1).f0).toList)) || (!((((rd_T32 l0 x5_1).f1).toList) == (((rd_T32 l1 x5_1).f1).toList)))) = false := by simpa using c7
      clear c7; have H' := Aside0.mk H; clear H; have p101 : 0 ≤ (x5_1 : Int) := of_decide_eq_true (by first | (with_reducible assumption) | assumption); have q101 : x5_1 < (l0.length : Int) := of_decide_eq_true (by first | (with_reducible assumption) | assumption); obtain ⟨ad101, e101, hx101_0, hx101_1⟩ := at_T32 HR0.out x5_1 p101 q101; cases e101; replace p101 := eq_true p101; replace q101 := eq_true q101; have p102 : 0 ≤ (x5_1 : Int) := of_decide_eq_true (by first | (with_reducible assumption) | assumption); have q102 : x5_1 < (l1.length : Int) := of_decide_eq_true (by first | (with_reducible assumption) | assumption); obtain ⟨ad102, e102, hx102_0, hx102_1⟩ := at_T32 HR1.out x5_1 p102 q102; cases e102; replace p102 := eq_true p102; replace q102 := eq_true q102
      go_wp2
      repeat (go_quiet (fail); try go_wp2)
      go_roundg k1
      case measure => have := HK1.out; omega
      case rel => exact ⟨(wrap64 (x5_1 + 1)), (by first | rfl | (simp; done) | (simp [*]; done)), H', ⟨by have := HK1.out; omega⟩, by repeat (first | exact Drawn0.refl _ | apply Drawn0.step)⟩
def muslinlaw08_live.f (k : Nat)  : Option (Bool) := (addr_Parse.f (⟨#[34, 65, 44, 32, 92, 34, 66, 34, 32, 60, 97, 64, 98, 62, 44, 32, 99, 64, 100, 32, 40, 67, 32, 40, 120, 41, 41, 44, 32, 61, 63, 97, 115, 99, 105, 105, 63, 81, 63, 68, 63, 61, 32, 60, 98, 97, 100, 62, 59, 32, 101, 64, 102, 44, 44]⟩ : ByteArray)).bind fun t103 => ((addr_Write.f (([(⟨(⟨#[65, 32, 34]⟩ : ByteArray), (⟨#[97, 64, 98]⟩ : ByteArray)⟩ : S32), (⟨(⟨#[]⟩ : ByteArray), (⟨#[99, 64, 100]⟩ : ByteArray)⟩ : S32), (⟨(⟨#[195, 169]⟩ : ByteArray), (⟨#[101, 64, 102]⟩ : ByteArray)⟩ : S32)] : List (S32)))).bind fun bt109 => ((addr_Write.f (([(⟨(⟨#[]⟩ : ByteArray), (⟨#[120]⟩ : ByteArray)⟩ : S32)] : List (S32)))).bind fun bt114 => ((muslinref08_Same.f k t103 (([(⟨(⟨#[65, 44, 32, 34, 66]⟩ : ByteArray), (⟨#[97, 64, 98]⟩ : ByteArray)⟩ : S32), (⟨(⟨#[67, 32, 40, 120, 41]⟩ : ByteArray), (⟨#[99, 64, 100]⟩ : ByteArray)⟩ : S32), (⟨(⟨#[68]⟩ : ByteArray), (⟨#[]⟩ : ByteArray)⟩ : S32), (⟨(⟨#[]⟩ : ByteArray), (⟨#[101, 64, 102]⟩ : ByteArray)⟩ : S32)] : List (S32)))).bind fun t119 => (if t119 = true then (if bt109.1.toList = ([34, 65, 32, 92, 34, 34, 32, 60, 97, 64, 98, 62, 44, 32, 99, 64, 100, 44, 32, 61, 63, 117, 116, 102, 45, 56, 63, 66, 63, 119, 54, 107, 61, 63, 61, 32, 60, 101, 64, 102, 62] : List UInt8) then (if bt109.2 = 0 then (if bt114.2 = 1 then ((addr_Good.f (⟨#[97, 64, 98]⟩ : ByteArray)).bind fun t120 => (if t120 = true then ((addr_Good.f (⟨#[97, 64]⟩ : ByteArray)).bind fun t121 => (some (!t121))) else (some false))) else (some false)) else (some false)) else (some false)) else (some false)))))
theorem muslinlaw08_live.mono : ∀ k, LeO (muslinlaw08_live.f k ) (muslinlaw08_live.f (k + 1) ) := by
  intro  k; unfold muslinlaw08_live.f
  repeat' first
      | (with_reducible exact muslinref08_Same.mono _ _ _)
      | (with_reducible exact LeO.refl _)
      | (with_reducible exact LeO.none _)
      | (with_reducible refine LeO.ite ?_ ?_)
      | (with_reducible refine LeO.bind ?_ (fun _ => ?_))
      | exact muslinref08_Same.mono _ _ _
      | exact LeO.none _
      | refine LeO.ite ?_ ?_
      | refine LeO.bind ?_ (fun _ => ?_)
set_option maxHeartbeats 8000000 in
set_option maxRecDepth 100000 in
theorem muslinlaw08_live.calls (k : Nat)  (r : Bool) (w : World) (hGl : Glob w) (h : muslinlaw08_live.f k  = some r) :
    Calls Tryz.prog 9 #[] w fun e w' => e = .returned (.bool r) ∧ Below w.heap.size w w' := by
  have HGl := Aside0.mk hGl; clear hGl; have hu32 := Tryz.underlying32; have HB := Aside0.mk (Below.refl w.heap.size w); have H : ((addr_Parse.f (⟨#[34, 65, 44, 32, 92, 34, 66, 34, 32, 60, 97, 64, 98, 62, 44, 32, 99, 64, 100, 32, 40, 67, 32, 40, 120, 41, 41, 44, 32, 61, 63, 97, 115, 99, 105, 105, 63, 81, 63, 68, 63, 61, 32, 60, 98, 97, 100, 62, 59, 32, 101, 64, 102, 44, 44]⟩ : ByteArray)).bind fun t103 => ((addr_Write.f (([(⟨(⟨#[65, 32, 34]⟩ : ByteArray), (⟨#[97, 64, 98]⟩ : ByteArray)⟩ : S32), (⟨(⟨#[]⟩ : ByteArray), (⟨#[99, 64, 100]⟩ : ByteArray)⟩ : S32), (⟨(⟨#[195, 169]⟩ : ByteArray), (⟨#[101, 64, 102]⟩ : ByteArray)⟩ : S32)] : List (S32)))).bind fun bt109 => ((addr_Write.f (([(⟨(⟨#[]⟩ : ByteArray), (⟨#[120]⟩ : ByteArray)⟩ : S32)] : List (S32)))).bind fun bt114 => ((muslinref08_Same.f k t103 (([(⟨(⟨#[65, 44, 32, 34, 66]⟩ : ByteArray), (⟨#[97, 64, 98]⟩ : ByteArray)⟩ : S32), (⟨(⟨#[67, 32, 40, 120, 41]⟩ : ByteArray), (⟨#[99, 64, 100]⟩ : ByteArray)⟩ : S32), (⟨(⟨#[68]⟩ : ByteArray), (⟨#[]⟩ : ByteArray)⟩ : S32), (⟨(⟨#[]⟩ : ByteArray), (⟨#[101, 64, 102]⟩ : ByteArray)⟩ : S32)] : List (S32)))).bind fun t119 => (if t119 = true then (if bt109.1.toList = ([34, 65, 32, 92, 34, 34, 32, 60, 97, 64, 98, 62, 44, 32, 99, 64, 100, 44, 32, 61, 63, 117, 116, 102, 45, 56, 63, 66, 63, 119, 54, 107, 61, 63, 61, 32, 60, 101, 64, 102, 62] : List UInt8) then (if bt109.2 = 0 then (if bt114.2 = 1 then ((addr_Good.f (⟨#[97, 64, 98]⟩ : ByteArray)).bind fun t120 => (if t120 = true then ((addr_Good.f (⟨#[97, 64]⟩ : ByteArray)).bind fun t121 => (some (!t121))) else (some false))) else (some false)) else (some false)) else (some false)) else (some false)))))) = some r := h; clear h; replace H := Option.bind_eq_some_iff.mp H; obtain ⟨t103, A10, H⟩ := H; replace H : ((addr_Write.f (([(⟨(⟨#[65, 32, 34]⟩ : ByteArray), (⟨#[97, 64, 98]⟩ : ByteArray)⟩ : S32), (⟨(⟨#[]⟩ : ByteArray), (⟨#[99, 64, 100]⟩ : ByteArray)⟩ : S32), (⟨(⟨#[195, 169]⟩ : ByteArray), (⟨#[101, 64, 102]⟩ : ByteArray)⟩ : S32)] : List (S32)))).bind fun bt109 => ((addr_Write.f (([(⟨(⟨#[]⟩ : ByteArray), (⟨#[120]⟩ : ByteArray)⟩ : S32)] : List (S32)))).bind fun bt114 => ((muslinref08_Same.f k t103 (([(⟨(⟨#[65, 44, 32, 34, 66]⟩ : ByteArray), (⟨#[97, 64, 98]⟩ : ByteArray)⟩ : S32), (⟨(⟨#[67, 32, 40, 120, 41]⟩ : ByteArray), (⟨#[99, 64, 100]⟩ : ByteArray)⟩ : S32), (⟨(⟨#[68]⟩ : ByteArray), (⟨#[]⟩ : ByteArray)⟩ : S32), (⟨(⟨#[]⟩ : ByteArray), (⟨#[101, 64, 102]⟩ : ByteArray)⟩ : S32)] : List (S32)))).bind fun t119 => (if t119 = true then (if bt109.1.toList = ([34, 65, 32, 92, 34, 34, 32, 60, 97, 64, 98, 62, 44, 32, 99, 64, 100, 44, 32, 61, 63, 117, 116, 102, 45, 56, 63, 66, 63, 119, 54, 107, 61, 63, 61, 32, 60, 101, 64, 102, 62] : List UInt8) then (if bt109.2 = 0 then (if bt114.2 = 1 then ((addr_Good.f (⟨#[97, 64, 98]⟩ : ByteArray)).bind fun t120 => (if t120 = true then ((addr_Good.f (⟨#[97, 64]⟩ : ByteArray)).bind fun t121 => (some (!t121))) else (some false))) else (some false)) else (some false)) else (some false)) else (some false))))) = some r := H; have A1 := Aside0.mk A10; clear A10; obtain ⟨y106, hy106⟩ : ∃ y_ : List (S32), y_ = (([(⟨(⟨#[65, 32, 34]⟩ : ByteArray), (⟨#[97, 64, 98]⟩ : ByteArray)⟩ : S32), (⟨(⟨#[]⟩ : ByteArray), (⟨#[99, 64, 100]⟩ : ByteArray)⟩ : S32), (⟨(⟨#[195, 169]⟩ : ByteArray), (⟨#[101, 64, 102]⟩ : ByteArray)⟩ : S32)] : List (S32))) := ⟨_, rfl⟩
  replace H : ((addr_Write.f y106).bind fun bt109 => ((addr_Write.f (([(⟨(⟨#[]⟩ : ByteArray), (⟨#[120]⟩ : ByteArray)⟩ : S32)] : List (S32)))).bind fun bt114 => ((muslinref08_Same.f k t103 (([(⟨(⟨#[65, 44, 32, 34, 66]⟩ : ByteArray), (⟨#[97, 64, 98]⟩ : ByteArray)⟩ : S32), (⟨(⟨#[67, 32, 40, 120, 41]⟩ : ByteArray), (⟨#[99, 64, 100]⟩ : ByteArray)⟩ : S32), (⟨(⟨#[68]⟩ : ByteArray), (⟨#[]⟩ : ByteArray)⟩ : S32), (⟨(⟨#[]⟩ : ByteArray), (⟨#[101, 64, 102]⟩ : ByteArray)⟩ : S32)] : List (S32)))).bind fun t119 => (if t119 = true then (if bt109.1.toList = ([34, 65, 32, 92, 34, 34, 32, 60, 97, 64, 98, 62, 44, 32, 99, 64, 100, 44, 32, 61, 63, 117, 116, 102, 45, 56, 63, 66, 63, 119, 54, 107, 61, 63, 61, 32, 60, 101, 64, 102, 62] : List UInt8) then (if bt109.2 = 0 then (if bt114.2 = 1 then ((addr_Good.f (⟨#[97, 64, 98]⟩ : ByteArray)).bind fun t120 => (if t120 = true then ((addr_Good.f (⟨#[97, 64]⟩ : ByteArray)).bind fun t121 => (some (!t121))) else (some false))) else (some false)) else (some false)) else (some false)) else (some false))))) = some r := by first | (rw [hy106]; with_reducible exact H) | (have H2_ := (Option.bind_some _ _).symm.trans H; rw [hy106]; with_reducible exact H2_) | (have H2_ := (Option.bind_some _ _).symm.trans H; with_reducible exact H2_) | with_reducible exact H | (rw [hy106]; exact H) | exact H
  have Ny106 := Aside0.mk hy106; clear hy106; replace H := Option.bind_eq_some_iff.mp H; obtain ⟨⟨t109, t110⟩, A20, H⟩ := H; replace H : ((addr_Write.f (([(⟨(⟨#[]⟩ : ByteArray), (⟨#[120]⟩ : ByteArray)⟩ : S32)] : List (S32)))).bind fun bt114 => ((muslinref08_Same.f k t103 (([(⟨(⟨#[65, 44, 32, 34, 66]⟩ : ByteArray), (⟨#[97, 64, 98]⟩ : ByteArray)⟩ : S32), (⟨(⟨#[67, 32, 40, 120, 41]⟩ : ByteArray), (⟨#[99, 64, 100]⟩ : ByteArray)⟩ : S32), (⟨(⟨#[68]⟩ : ByteArray), (⟨#[]⟩ : ByteArray)⟩ : S32), (⟨(⟨#[]⟩ : ByteArray), (⟨#[101, 64, 102]⟩ : ByteArray)⟩ : S32)] : List (S32)))).bind fun t119 => (if t119 = true then (if t109.toList = ([34, 65, 32, 92, 34, 34, 32, 60, 97, 64, 98, 62, 44, 32, 99, 64, 100, 44, 32, 61, 63, 117, 116, 102, 45, 56, 63, 66, 63, 119, 54, 107, 61, 63, 61, 32, 60, 101, 64, 102, 62] : List UInt8) then (if t110 = 0 then (if bt114.2 = 1 then ((addr_Good.f (⟨#[97, 64, 98]⟩ : ByteArray)).bind fun t120 => (if t120 = true then ((addr_Good.f (⟨#[97, 64]⟩ : ByteArray)).bind fun t121 => (some (!t121))) else (some false))) else (some false)) else (some false)) else (some false)) else (some false)))) = some r := H; have A2 := Aside0.mk A20; clear A20; obtain ⟨y111, hy111⟩ : ∃ y_ : List (S32), y_ = (([(⟨(⟨#[]⟩ : ByteArray), (⟨#[120]⟩ : ByteArray)⟩ : S32)] : List (S32))) := ⟨_, rfl⟩
  replace H : ((addr_Write.f y111).bind fun bt114 => ((muslinref08_Same.f k t103 (([(⟨(⟨#[65, 44, 32, 34, 66]⟩ : ByteArray), (⟨#[97, 64, 98]⟩ : ByteArray)⟩ : S32), (⟨(⟨#[67, 32, 40, 120, 41]⟩ : ByteArray), (⟨#[99, 64, 100]⟩ : ByteArray)⟩ : S32), (⟨(⟨#[68]⟩ : ByteArray), (⟨#[]⟩ : ByteArray)⟩ : S32), (⟨(⟨#[]⟩ : ByteArray), (⟨#[101, 64, 102]⟩ : ByteArray)⟩ : S32)] : List (S32)))).bind fun t119 => (if t119 = true then (if t109.toList = ([34, 65, 32, 92, 34, 34, 32, 60, 97, 64, 98, 62, 44, 32, 99, 64, 100, 44, 32, 61, 63, 117, 116, 102, 45, 56, 63, 66, 63, 119, 54, 107, 61, 63, 61, 32, 60, 101, 64, 102, 62] : List UInt8) then (if t110 = 0 then (if bt114.2 = 1 then ((addr_Good.f (⟨#[97, 64, 98]⟩ : ByteArray)).bind fun t120 => (if t120 = true then ((addr_Good.f (⟨#[97, 64]⟩ : ByteArray)).bind fun t121 => (some (!t121))) else (some false))) else (some false)) else (some false)) else (some false)) else (some false)))) = some r := by first | (rw [hy111]; with_reducible exact H) | (have H2_ := (Option.bind_some _ _).symm.trans H; rw [hy111]; with_reducible exact H2_) | (have H2_ := (Option.bind_some _ _).symm.trans H; with_reducible exact H2_) | with_reducible exact H | (rw [hy111]; exact H) | exact H
  have Ny111 := Aside0.mk hy111; clear hy111; replace H := Option.bind_eq_some_iff.mp H; obtain ⟨⟨t114, t115⟩, A30, H⟩ := H; replace H : ((muslinref08_Same.f k t103 (([(⟨(⟨#[65, 44, 32, 34, 66]⟩ : ByteArray), (⟨#[97, 64, 98]⟩ : ByteArray)⟩ : S32), (⟨(⟨#[67, 32, 40, 120, 41]⟩ : ByteArray), (⟨#[99, 64, 100]⟩ : ByteArray)⟩ : S32), (⟨(⟨#[68]⟩ : ByteArray), (⟨#[]⟩ : ByteArray)⟩ : S32), (⟨(⟨#[]⟩ : ByteArray), (⟨#[101, 64, 102]⟩ : ByteArray)⟩ : S32)] : List (S32)))).bind fun t119 => (if t119 = true then (if t109.toList = ([34, 65, 32, 92, 34, 34, 32, 60, 97, 64, 98, 62, 44, 32, 99, 64, 100, 44, 32, 61, 63, 117, 116, 102, 45, 56, 63, 66, 63, 119, 54, 107, 61, 63, 61, 32, 60, 101, 64, 102, 62] : List UInt8) then (if t110 = 0 then (if t115 = 1 then ((addr_Good.f (⟨#[97, 64, 98]⟩ : ByteArray)).bind fun t120 => (if t120 = true then ((addr_Good.f (⟨#[97, 64]⟩ : ByteArray)).bind fun t121 => (some (!t121))) else (some false))) else (some false)) else (some false)) else (some false)) else (some false))) = some r := H; have A3 := Aside0.mk A30; clear A30; obtain ⟨y116, hy116⟩ : ∃ y_ : List (S32), y_ = (([(⟨(⟨#[65, 44, 32, 34, 66]⟩ : ByteArray), (⟨#[97, 64, 98]⟩ : ByteArray)⟩ : S32), (⟨(⟨#[67, 32, 40, 120, 41]⟩ : ByteArray), (⟨#[99, 64, 100]⟩ : ByteArray)⟩ : S32), (⟨(⟨#[68]⟩ : ByteArray), (⟨#[]⟩ : ByteArray)⟩ : S32), (⟨(⟨#[]⟩ : ByteArray), (⟨#[101, 64, 102]⟩ : ByteArray)⟩ : S32)] : List (S32))) := ⟨_, rfl⟩
  replace H : ((muslinref08_Same.f k t103 y116).bind fun t119 => (if t119 = true then (if t109.toList = ([34, 65, 32, 92, 34, 34, 32, 60, 97, 64, 98, 62, 44, 32, 99, 64, 100, 44, 32, 61, 63, 117, 116, 102, 45, 56, 63, 66, 63, 119, 54, 107, 61, 63, 61, 32, 60, 101, 64, 102, 62] : List UInt8) then (if t110 = 0 then (if t115 = 1 then ((addr_Good.f (⟨#[97, 64, 98]⟩ : ByteArray)).bind fun t120 => (if t120 = true then ((addr_Good.f (⟨#[97, 64]⟩ : ByteArray)).bind fun t121 => (some (!t121))) else (some false))) else (some false)) else (some false)) else (some false)) else (some false))) = some r := by first | (rw [hy116]; with_reducible exact H) | (have H2_ := (Option.bind_some _ _).symm.trans H; rw [hy116]; with_reducible exact H2_) | (have H2_ := (Option.bind_some _ _).symm.trans H; with_reducible exact H2_) | with_reducible exact H | (rw [hy116]; exact H) | exact H
  have Ny116 := Aside0.mk hy116; clear hy116; replace H := Option.bind_eq_some_iff.mp H; obtain ⟨t119, A40, H⟩ := H; replace H : (if t119 = true then (if t109.toList = ([34, 65, 32, 92, 34, 34, 32, 60, 97, 64, 98, 62, 44, 32, 99, 64, 100, 44, 32, 61, 63, 117, 116, 102, 45, 56, 63, 66, 63, 119, 54, 107, 61, 63, 61, 32, 60, 101, 64, 102, 62] : List UInt8) then (if t110 = 0 then (if t115 = 1 then ((addr_Good.f (⟨#[97, 64, 98]⟩ : ByteArray)).bind fun t120 => (if t120 = true then ((addr_Good.f (⟨#[97, 64]⟩ : ByteArray)).bind fun t121 => (some (!t121))) else (some false))) else (some false)) else (some false)) else (some false)) else (some false)) = some r := H; have A4 := Aside0.mk A40; clear A40
  by_cases c5 : t119 = true
  case neg =>
    replace c5 := Bool.eq_false_iff.mpr c5; subst c5
    have H1 : (some false) = some r := by rw [if_neg (show ¬ (false = true) by decide)] at H; exact H
    clear H; have H := H1; clear H1; obtain rfl := Option.some.inj H
    go_enter Tryz.func9, Tryz.ntmps9
    go_wp2_with (first | ((with_reducible refine gate_callee (f := 11) rfl ?_); refine goesL_ (some 6) rfl rfl Tryz.func11 (by kernel_rfl) rfl #[.string (⟨#[34, 65, 44, 32, 92, 34, 66, 34, 32, 60, 97, 64, 98, 62, 44, 32, 99, 64, 100, 32, 40, 67, 32, 40, 120, 41, 41, 44, 32, 61, 63, 97, 115, 99, 105, 105, 63, 81, 63, 68, 63, 61, 32, 60, 98, 97, 100, 62, 59, 32, 101, 64, 102, 44, 44]⟩ : ByteArray)] rfl (by (try simp only [List.map_toArray, List.map_cons, List.map_nil]); first | done | rfl | (simp only [List.length_drop, List.length_take]; rfl)) ?_; (with_reducible refine (addr_Parse.calls (⟨#[34, 65, 44, 32, 92, 34, 66, 34, 32, 60, 97, 64, 98, 62, 44, 32, 99, 64, 100, 32, 40, 67, 32, 40, 120, 41, 41, 44, 32, 61, 63, 97, 115, 99, 105, 105, 63, 81, 63, 68, 63, 61, 32, 60, 98, 97, 100, 62, 59, 32, 101, 64, 102, 44, 44]⟩ : ByteArray) t103 _ ?sideGl A1.out).mono ?_); (case sideGl => exact HGl.out.below (by repeat (first | (with_reducible first | exact HB.out | apply below_alloc | apply pw_below_drewN | apply below_drew1) | exact HB.out))); rintro e w80 ⟨v104, rfl, ho0, hb⟩; refine ⟨_, rfl, ?_⟩; have n0_ := Aside0.mk (Kd.R_lower ho0 (below_size (by repeat (first | (with_reducible first | exact HB.out | apply below_alloc | apply pw_below_drewN | apply below_drew1) | exact HB.out)))); have n1_ := Aside0.mk (below_step (by repeat (first | (with_reducible first | exact HB.out | apply below_alloc | apply pw_below_drewN | apply below_drew1) | exact HB.out)) hb); clear HB; have HO105 := n0_; have HB := n1_; clear n0_ n1_; (try clear hb); (try clear hb2); (try clear hk); (try clear hi); (try clear ho0)) | ((with_reducible refine gate_dst (N := 11) rfl ?_); refine Kd.R_lit k32 _ 32 ?hg (N := 11) ?hd (xs := ([(⟨(⟨#[65, 32, 34]⟩ : ByteArray), (⟨#[97, 64, 98]⟩ : ByteArray)⟩ : S32), (⟨(⟨#[]⟩ : ByteArray), (⟨#[99, 64, 100]⟩ : ByteArray)⟩ : S32), (⟨(⟨#[195, 169]⟩ : ByteArray), (⟨#[101, 64, 102]⟩ : ByteArray)⟩ : S32)] : List (S32))) (inner := [.string (⟨#[65, 32, 34]⟩ : ByteArray), .string (⟨#[97, 64, 98]⟩ : ByteArray), .string (⟨#[]⟩ : ByteArray), .string (⟨#[99, 64, 100]⟩ : ByteArray), .string (⟨#[195, 169]⟩ : ByteArray), .string (⟨#[101, 64, 102]⟩ : ByteArray)]) (ok := fun _ => True) (okp := fun _ => True) ?hr ?hp (fun _ hk => hk) trivial (Below.refl _ _) (Nat.le_refl _) (by simp) ?_; (case hd => rfl); (case hg => rfl); (case hr => first | (go_simp; done) | (go_simp; rfl)); (case hp => exact (Reps.c2 (show Kd.M k32 _ _ _ (⟨(⟨#[65, 32, 34]⟩ : ByteArray), (⟨#[97, 64, 98]⟩ : ByteArray)⟩ : S32) [.string (⟨#[65, 32, 34]⟩ : ByteArray), .string (⟨#[97, 64, 98]⟩ : ByteArray)] from (k32_mkM _ _ _ (⟨(⟨#[65, 32, 34]⟩ : ByteArray), (⟨#[97, 64, 98]⟩ : ByteArray)⟩ : S32) )) (Reps.c2 (show Kd.M k32 _ _ _ (⟨(⟨#[]⟩ : ByteArray), (⟨#[99, 64, 100]⟩ : ByteArray)⟩ : S32) [.string (⟨#[]⟩ : ByteArray), .string (⟨#[99, 64, 100]⟩ : ByteArray)] from (k32_mkM _ _ _ (⟨(⟨#[]⟩ : ByteArray), (⟨#[99, 64, 100]⟩ : ByteArray)⟩ : S32) )) (Reps.c2 (show Kd.M k32 _ _ _ (⟨(⟨#[195, 169]⟩ : ByteArray), (⟨#[101, 64, 102]⟩ : ByteArray)⟩ : S32) [.string (⟨#[195, 169]⟩ : ByteArray), .string (⟨#[101, 64, 102]⟩ : ByteArray)] from (k32_mkM _ _ _ (⟨(⟨#[195, 169]⟩ : ByteArray), (⟨#[101, 64, 102]⟩ : ByteArray)⟩ : S32) )) (Reps.none _ _))))); intro v107 w81 ho82 hb hg_ hnew_; clear hg_ hnew_; (first | rw [← Ny106.out] at ho82 | (simp only [Int.reduceToNat] at ho82; rw [← Ny106.out] at ho82)); have n0_ := Aside0.mk (Kd.R_elder' (by (with_reducible repeat (first | apply Kd.R_alloc | apply Kd.R_drewN | apply Kd.R_drew)); exact HO105.out) (Kd.R_base ho82) hb); have n1_ := Aside0.mk (Kd.R_lower (Kd.R_new' ho82 (Kd.R_lt (by (with_reducible repeat (first | apply Kd.R_alloc | apply Kd.R_drewN | apply Kd.R_drew)); exact HO105.out))) (below_size (by repeat (first | (with_reducible first | exact HB.out | apply below_alloc | apply pw_below_drewN | apply below_drew1) | exact HB.out)))); have n2_ := Aside0.mk (below_step (by repeat (first | (with_reducible first | exact HB.out | apply below_alloc | apply pw_below_drewN | apply below_drew1) | exact HB.out)) hb); clear HO105; clear HB; have HO105 := n0_; have HO108 := n1_; have HB := n2_; clear n0_ n1_ n2_; clear hb ho82; obtain ⟨Ao83, co83, eo83⟩ := Kd.R_slice HO108.out; subst eo83) | ((with_reducible refine gate_callee (f := 16) rfl ?_); refine goesL_ (some 12) rfl rfl Tryz.func16 (by kernel_rfl) rfl #[.slice Ao83 y106.length co83] rfl (by (try simp only [List.map_toArray, List.map_cons, List.map_nil]); first | done | rfl | (simp only [List.length_drop, List.length_take]; rfl)) ?_; (with_reducible refine (addr_Write.calls _ _ y106 t109 t110 _ ?side1 ?side2 ?sideGl A2.out).mono ?_); (case sideGl => exact HGl.out.below (by repeat (first | (with_reducible first | exact HB.out | apply below_alloc | apply pw_below_drewN | apply below_drew1) | exact HB.out))); (case side1 => repeat (first | exact (Kd.R_reads' HO108.out).2.2 | (with_reducible refine Kd.C_alloc ?_ _) | (with_reducible refine Kd.C_drewN ?_ _) | (with_reducible refine Kd.C_drew ?_))); (case side2 => exact (Kd.R_reads' HO108.out).2.1); rintro e w84 ⟨rfl, hb⟩; refine ⟨_, rfl, ?_⟩; have n0_ := Aside0.mk (Kd.R_below (by (with_reducible repeat (first | apply Kd.R_alloc | apply Kd.R_drewN | apply Kd.R_drew)); exact HO105.out) hb); have n1_ := Aside0.mk (Kd.R_below (by (with_reducible repeat (first | apply Kd.R_alloc | apply Kd.R_drewN | apply Kd.R_drew)); exact HO108.out) hb); have n2_ := Aside0.mk (below_step (by repeat (first | (with_reducible first | exact HB.out | apply below_alloc | apply pw_below_drewN | apply below_drew1) | exact HB.out)) hb); clear HO105; clear HO108; clear HB; have HO105 := n0_; have HO108 := n1_; have HB := n2_; clear n0_ n1_ n2_; (try clear hb); (try clear hb2); (try clear hk); (try clear hi)) | ((with_reducible refine gate_dst (N := 17) rfl ?_); refine Kd.R_lit k32 _ 32 ?hg (N := 17) ?hd (xs := ([(⟨(⟨#[]⟩ : ByteArray), (⟨#[120]⟩ : ByteArray)⟩ : S32)] : List (S32))) (inner := [.string (⟨#[]⟩ : ByteArray), .string (⟨#[120]⟩ : ByteArray)]) (ok := fun _ => True) (okp := fun _ => True) ?hr ?hp (fun _ hk => hk) trivial (Below.refl _ _) (Nat.le_refl _) (by simp) ?_; (case hd => rfl); (case hg => rfl); (case hr => first | (go_simp; done) | (go_simp; rfl)); (case hp => exact (Reps.c2 (show Kd.M k32 _ _ _ (⟨(⟨#[]⟩ : ByteArray), (⟨#[120]⟩ : ByteArray)⟩ : S32) [.string (⟨#[]⟩ : ByteArray), .string (⟨#[120]⟩ : ByteArray)] from (k32_mkM _ _ _ (⟨(⟨#[]⟩ : ByteArray), (⟨#[120]⟩ : ByteArray)⟩ : S32) )) (Reps.none _ _))); intro v112 w85 ho86 hb hg_ hnew_; clear hg_ hnew_; (first | rw [← Ny111.out] at ho86 | (simp only [Int.reduceToNat] at ho86; rw [← Ny111.out] at ho86)); have n0_ := Aside0.mk (Kd.R_elder' (by (with_reducible repeat (first | apply Kd.R_alloc | apply Kd.R_drewN | apply Kd.R_drew)); exact HO105.out) (Kd.R_base ho86) hb); have n1_ := Aside0.mk (Kd.R_elder' (by (with_reducible repeat (first | apply Kd.R_alloc | apply Kd.R_drewN | apply Kd.R_drew)); exact HO108.out) (Kd.R_base ho86) hb); have n2_ := Aside0.mk (Kd.R_lower (Kd.R_new' (Kd.R_new' ho86 (Kd.R_lt (by (with_reducible repeat (first | apply Kd.R_alloc | apply Kd.R_drewN | apply Kd.R_drew)); exact HO105.out))) (Kd.R_lt (by (with_reducible repeat (first | apply Kd.R_alloc | apply Kd.R_drewN | apply Kd.R_drew)); exact HO108.out))) (below_size (by repeat (first | (with_reducible first | exact HB.out | apply below_alloc | apply pw_below_drewN | apply below_drew1) | exact HB.out)))); have n3_ := Aside0.mk (below_step (by repeat (first | (with_reducible first | exact HB.out | apply below_alloc | apply pw_below_drewN | apply below_drew1) | exact HB.out)) hb); clear HO105; clear HO108; clear HB; have HO105 := n0_; have HO108 := n1_; have HO113 := n2_; have HB := n3_; clear n0_ n1_ n2_ n3_; clear hb ho86; obtain ⟨Ao87, co87, eo87⟩ := Kd.R_slice HO113.out; subst eo87) | ((with_reducible refine gate_callee (f := 16) rfl ?_); refine goesL_ (some 18) rfl rfl Tryz.func16 (by kernel_rfl) rfl #[.slice Ao87 y111.length co87] rfl (by (try simp only [List.map_toArray, List.map_cons, List.map_nil]); first | done | rfl | (simp only [List.length_drop, List.length_take]; rfl)) ?_; (with_reducible refine (addr_Write.calls _ _ y111 t114 t115 _ ?side1 ?side2 ?sideGl A3.out).mono ?_); (case sideGl => exact HGl.out.below (by repeat (first | (with_reducible first | exact HB.out | apply below_alloc | apply pw_below_drewN | apply below_drew1) | exact HB.out))); (case side1 => repeat (first | exact (Kd.R_reads' HO113.out).2.2 | (with_reducible refine Kd.C_alloc ?_ _) | (with_reducible refine Kd.C_drewN ?_ _) | (with_reducible refine Kd.C_drew ?_))); (case side2 => exact (Kd.R_reads' HO113.out).2.1); rintro e w88 ⟨rfl, hb⟩; refine ⟨_, rfl, ?_⟩; have n0_ := Aside0.mk (Kd.R_below (by (with_reducible repeat (first | apply Kd.R_alloc | apply Kd.R_drewN | apply Kd.R_drew)); exact HO105.out) hb); have n1_ := Aside0.mk (Kd.R_below (by (with_reducible repeat (first | apply Kd.R_alloc | apply Kd.R_drewN | apply Kd.R_drew)); exact HO108.out) hb); have n2_ := Aside0.mk (Kd.R_below (by (with_reducible repeat (first | apply Kd.R_alloc | apply Kd.R_drewN | apply Kd.R_drew)); exact HO113.out) hb); have n3_ := Aside0.mk (below_step (by repeat (first | (with_reducible first | exact HB.out | apply below_alloc | apply pw_below_drewN | apply below_drew1) | exact HB.out)) hb); clear HO105; clear HO108; clear HO113; clear HB; have HO105 := n0_; have HO108 := n1_; have HO113 := n2_; have HB := n3_; clear n0_ n1_ n2_ n3_; (try clear hb); (try clear hb2); (try clear hk); (try clear hi)) | ((with_reducible refine gate_dst (N := 26) rfl ?_); refine Kd.R_lit k32 _ 32 ?hg (N := 26) ?hd (xs := ([(⟨(⟨#[65, 44, 32, 34, 66]⟩ : ByteArray), (⟨#[97, 64, 98]⟩ : ByteArray)⟩ : S32), (⟨(⟨#[67, 32, 40, 120, 41]⟩ : ByteArray), (⟨#[99, 64, 100]⟩ : ByteArray)⟩ : S32), (⟨(⟨#[68]⟩ : ByteArray), (⟨#[]⟩ : ByteArray)⟩ : S32), (⟨(⟨#[]⟩ : ByteArray), (⟨#[101, 64, 102]⟩ : ByteArray)⟩ : S32)] : List (S32))) (inner := [.string (⟨#[65, 44, 32, 34, 66]⟩ : ByteArray), .string (⟨#[97, 64, 98]⟩ : ByteArray), .string (⟨#[67, 32, 40, 120, 41]⟩ : ByteArray), .string (⟨#[99, 64, 100]⟩ : ByteArray), .string (⟨#[68]⟩ : ByteArray), .string (⟨#[]⟩ : ByteArray), .string (⟨#[]⟩ : ByteArray), .string (⟨#[101, 64, 102]⟩ : ByteArray)]) (ok := fun _ => True) (okp := fun _ => True) ?hr ?hp (fun _ hk => hk) trivial (Below.refl _ _) (Nat.le_refl _) (by simp) ?_; (case hd => rfl); (case hg => rfl); (case hr => first | (go_simp; done) | (go_simp; rfl)); (case hp => exact (Reps.c2 (show Kd.M k32 _ _ _ (⟨(⟨#[65, 44, 32, 34, 66]⟩ : ByteArray), (⟨#[97, 64, 98]⟩ : ByteArray)⟩ : S32) [.string (⟨#[65, 44, 32, 34, 66]⟩ : ByteArray), .string (⟨#[97, 64, 98]⟩ : ByteArray)] from (k32_mkM _ _ _ (⟨(⟨#[65, 44, 32, 34, 66]⟩ : ByteArray), (⟨#[97, 64, 98]⟩ : ByteArray)⟩ : S32) )) (Reps.c2 (show Kd.M k32 _ _ _ (⟨(⟨#[67, 32, 40, 120, 41]⟩ : ByteArray), (⟨#[99, 64, 100]⟩ : ByteArray)⟩ : S32) [.string (⟨#[67, 32, 40, 120, 41]⟩ : ByteArray), .string (⟨#[99, 64, 100]⟩ : ByteArray)] from (k32_mkM _ _ _ (⟨(⟨#[67, 32, 40, 120, 41]⟩ : ByteArray), (⟨#[99, 64, 100]⟩ : ByteArray)⟩ : S32) )) (Reps.c2 (show Kd.M k32 _ _ _ (⟨(⟨#[68]⟩ : ByteArray), (⟨#[]⟩ : ByteArray)⟩ : S32) [.string (⟨#[68]⟩ : ByteArray), .string (⟨#[]⟩ : ByteArray)] from (k32_mkM _ _ _ (⟨(⟨#[68]⟩ : ByteArray), (⟨#[]⟩ : ByteArray)⟩ : S32) )) (Reps.c2 (show Kd.M k32 _ _ _ (⟨(⟨#[]⟩ : ByteArray), (⟨#[101, 64, 102]⟩ : ByteArray)⟩ : S32) [.string (⟨#[]⟩ : ByteArray), .string (⟨#[101, 64, 102]⟩ : ByteArray)] from (k32_mkM _ _ _ (⟨(⟨#[]⟩ : ByteArray), (⟨#[101, 64, 102]⟩ : ByteArray)⟩ : S32) )) (Reps.none _ _)))))); intro v117 w89 ho90 hb hg_ hnew_; clear hg_ hnew_; (first | rw [← Ny116.out] at ho90 | (simp only [Int.reduceToNat] at ho90; rw [← Ny116.out] at ho90)); have n0_ := Aside0.mk (Kd.R_elder' (by (with_reducible repeat (first | apply Kd.R_alloc | apply Kd.R_drewN | apply Kd.R_drew)); exact HO105.out) (Kd.R_base ho90) hb); have n1_ := Aside0.mk (Kd.R_elder' (by (with_reducible repeat (first | apply Kd.R_alloc | apply Kd.R_drewN | apply Kd.R_drew)); exact HO108.out) (Kd.R_base ho90) hb); have n2_ := Aside0.mk (Kd.R_elder' (by (with_reducible repeat (first | apply Kd.R_alloc | apply Kd.R_drewN | apply Kd.R_drew)); exact HO113.out) (Kd.R_base ho90) hb); have n3_ := Aside0.mk (Kd.R_lower (Kd.R_new' (Kd.R_new' (Kd.R_new' ho90 (Kd.R_lt (by (with_reducible repeat (first | apply Kd.R_alloc | apply Kd.R_drewN | apply Kd.R_drew)); exact HO105.out))) (Kd.R_lt (by (with_reducible repeat (first | apply Kd.R_alloc | apply Kd.R_drewN | apply Kd.R_drew)); exact HO108.out))) (Kd.R_lt (by (with_reducible repeat (first | apply Kd.R_alloc | apply Kd.R_drewN | apply Kd.R_drew)); exact HO113.out))) (below_size (by repeat (first | (with_reducible first | exact HB.out | apply below_alloc | apply pw_below_drewN | apply below_drew1) | exact HB.out)))); have n4_ := Aside0.mk (below_step (by repeat (first | (with_reducible first | exact HB.out | apply below_alloc | apply pw_below_drewN | apply below_drew1) | exact HB.out)) hb); clear HO105; clear HO108; clear HO113; clear HB; have HO105 := n0_; have HO108 := n1_; have HO113 := n2_; have HO118 := n3_; have HB := n4_; clear n0_ n1_ n2_ n3_ n4_; clear hb ho90; obtain ⟨Ao91, co91, eo91⟩ := Kd.R_slice HO105.out; subst eo91; obtain ⟨Ao92, co92, eo92⟩ := Kd.R_slice HO118.out; subst eo92) | ((with_reducible refine gate_callee (f := 10) rfl ?_); refine goesL_ (some 27) rfl rfl Tryz.func10 (by kernel_rfl) rfl #[.slice Ao91 t103.length co91, .slice Ao92 y116.length co92] rfl (by (try simp only [List.map_toArray, List.map_cons, List.map_nil]); first | done | rfl | (simp only [List.length_drop, List.length_take]; rfl)) ?_; (with_reducible refine (muslinref08_Same.calls k _ _ t103 _ _ y116 false _ ?side1 ?side2 ?side3 ?side4 A4.out).mono ?_); (case side1 => repeat (first | exact (Kd.R_reads' HO105.out).2.2 | (with_reducible refine Kd.C_alloc ?_ _) | (with_reducible refine Kd.C_drewN ?_ _) | (with_reducible refine Kd.C_drew ?_))); (case side2 => exact (Kd.R_reads' HO105.out).2.1); (case side3 => repeat (first | exact (Kd.R_reads' HO118.out).2.2 | (with_reducible refine Kd.C_alloc ?_ _) | (with_reducible refine Kd.C_drewN ?_ _) | (with_reducible refine Kd.C_drew ?_))); (case side4 => exact (Kd.R_reads' HO118.out).2.1); rintro e w' ⟨rfl, ⟨nd, rfl⟩⟩; refine ⟨_, rfl, ?_⟩))
    go_ret
    exact ⟨by first | rfl | (simp [errW_none, errW_some] <;> rfl) | (simp [*, errW_none, errW_some] <;> rfl), by repeat (first | (with_reducible first | exact HB.out | apply below_alloc | apply pw_below_drewN | apply below_drew1) | exact HB.out)⟩
  subst c5
  have H1 : (if t109.toList = ([34, 65, 32, 92, 34, 34, 32, 60, 97, 64, 98, 62, 44, 32, 99, 64, 100, 44, 32, 61, 63, 117, 116, 102, 45, 56, 63, 66, 63, 119, 54, 107, 61, 63, 61, 32, 60, 101, 64, 102, 62] : List UInt8) then (if t110 = 0 then (if t115 = 1 then ((addr_Good.f (⟨#[97, 64, 98]⟩ : ByteArray)).bind fun t120 => (if t120 = true then ((addr_Good.f (⟨#[97, 64]⟩ : ByteArray)).bind fun t121 => (some (!t121))) else (some false))) else (some false)) else (some false)) else (some false)) = some r := by rw [if_pos rfl] at H; exact H
  clear H; have H := H1; clear H1
  by_cases c6 : t109.toList = ([34, 65, 32, 92, 34, 34, 32, 60, 97, 64, 98, 62, 44, 32, 99, 64, 100, 44, 32, 61, 63, 117, 116, 102, 45, 56, 63, 66, 63, 119, 54, 107, 61, 63, 61, 32, 60, 101, 64, 102, 62] : List UInt8)
  case neg =>
    rw [if_neg c6] at H; have c6b0 : (t109.toList == ([34, 65, 32, 92, 34, 34, 32, 60, 97, 64, 98, 62, 44, 32, 99, 64, 100, 44, 32, 61, 63, 117, 116, 102, 45, 56, 63, 66, 63, 119, 54, 107, 61, 63, 61, 32, 60, 101, 64, 102, 62] : List UInt8)) = false := beq_eq_false_iff_ne.mpr c6; have c6b1 : (t109.toList != ([34, 65, 32, 92, 34, 34, 32, 60, 97, 64, 98, 62, 44, 32, 99, 64, 100, 44, 32, 61, 63, 117, 116, 102, 45, 56, 63, 66, 63, 119, 54, 107, 61, 63, 61, 32, 60, 101, 64, 102, 62] : List UInt8)) = true := bne_iff_ne.mpr c6; obtain rfl := Option.some.inj H
    go_enter Tryz.func9, Tryz.ntmps9
    go_wp2_with (first | ((with_reducible refine gate_callee (f := 11) rfl ?_); refine goesL_ (some 6) rfl rfl Tryz.func11 (by kernel_rfl) rfl #[.string (⟨#[34, 65, 44, 32, 92, 34, 66, 34, 32, 60, 97, 64, 98, 62, 44, 32, 99, 64, 100, 32, 40, 67, 32, 40, 120, 41, 41, 44, 32, 61, 63, 97, 115, 99, 105, 105, 63, 81, 63, 68, 63, 61, 32, 60, 98, 97, 100, 62, 59, 32, 101, 64, 102, 44, 44]⟩ : ByteArray)] rfl (by (try simp only [List.map_toArray, List.map_cons, List.map_nil]); first | done | rfl | (simp only [List.length_drop, List.length_take]; rfl)) ?_; (with_reducible refine (addr_Parse.calls (⟨#[34, 65, 44, 32, 92, 34, 66, 34, 32, 60, 97, 64, 98, 62, 44, 32, 99, 64, 100, 32, 40, 67, 32, 40, 120, 41, 41, 44, 32, 61, 63, 97, 115, 99, 105, 105, 63, 81, 63, 68, 63, 61, 32, 60, 98, 97, 100, 62, 59, 32, 101, 64, 102, 44, 44]⟩ : ByteArray) t103 _ ?sideGl A1.out).mono ?_); (case sideGl => exact HGl.out.below (by repeat (first | (with_reducible first | exact HB.out | apply below_alloc | apply pw_below_drewN | apply below_drew1) | exact HB.out))); rintro e w67 ⟨v104, rfl, ho0, hb⟩; refine ⟨_, rfl, ?_⟩; have n0_ := Aside0.mk (Kd.R_lower ho0 (below_size (by repeat (first | (with_reducible first | exact HB.out | apply below_alloc | apply pw_below_drewN | apply below_drew1) | exact HB.out)))); have n1_ := Aside0.mk (below_step (by repeat (first | (with_reducible first | exact HB.out | apply below_alloc | apply pw_below_drewN | apply below_drew1) | exact HB.out)) hb); clear HB; have HO105 := n0_; have HB := n1_; clear n0_ n1_; (try clear hb); (try clear hb2); (try clear hk); (try clear hi); (try clear ho0)) | ((with_reducible refine gate_dst (N := 11) rfl ?_); refine Kd.R_lit k32 _ 32 ?hg (N := 11) ?hd (xs := ([(⟨(⟨#[65, 32, 34]⟩ : ByteArray), (⟨#[97, 64, 98]⟩ : ByteArray)⟩ : S32), (⟨(⟨#[]⟩ : ByteArray), (⟨#[99, 64, 100]⟩ : ByteArray)⟩ : S32), (⟨(⟨#[195, 169]⟩ : ByteArray), (⟨#[101, 64, 102]⟩ : ByteArray)⟩ : S32)] : List (S32))) (inner := [.string (⟨#[65, 32, 34]⟩ : ByteArray), .string (⟨#[97, 64, 98]⟩ : ByteArray), .string (⟨#[]⟩ : ByteArray), .string (⟨#[99, 64, 100]⟩ : ByteArray), .string (⟨#[195, 169]⟩ : ByteArray), .string (⟨#[101, 64, 102]⟩ : ByteArray)]) (ok := fun _ => True) (okp := fun _ => True) ?hr ?hp (fun _ hk => hk) trivial (Below.refl _ _) (Nat.le_refl _) (by simp) ?_; (case hd => rfl); (case hg => rfl); (case hr => first | (go_simp; done) | (go_simp; rfl)); (case hp => exact (Reps.c2 (show Kd.M k32 _ _ _ (⟨(⟨#[65, 32, 34]⟩ : ByteArray), (⟨#[97, 64, 98]⟩ : ByteArray)⟩ : S32) [.string (⟨#[65, 32, 34]⟩ : ByteArray), .string (⟨#[97, 64, 98]⟩ : ByteArray)] from (k32_mkM _ _ _ (⟨(⟨#[65, 32, 34]⟩ : ByteArray), (⟨#[97, 64, 98]⟩ : ByteArray)⟩ : S32) )) (Reps.c2 (show Kd.M k32 _ _ _ (⟨(⟨#[]⟩ : ByteArray), (⟨#[99, 64, 100]⟩ : ByteArray)⟩ : S32) [.string (⟨#[]⟩ : ByteArray), .string (⟨#[99, 64, 100]⟩ : ByteArray)] from (k32_mkM _ _ _ (⟨(⟨#[]⟩ : ByteArray), (⟨#[99, 64, 100]⟩ : ByteArray)⟩ : S32) )) (Reps.c2 (show Kd.M k32 _ _ _ (⟨(⟨#[195, 169]⟩ : ByteArray), (⟨#[101, 64, 102]⟩ : ByteArray)⟩ : S32) [.string (⟨#[195, 169]⟩ : ByteArray), .string (⟨#[101, 64, 102]⟩ : ByteArray)] from (k32_mkM _ _ _ (⟨(⟨#[195, 169]⟩ : ByteArray), (⟨#[101, 64, 102]⟩ : ByteArray)⟩ : S32) )) (Reps.none _ _))))); intro v107 w68 ho69 hb hg_ hnew_; clear hg_ hnew_; (first | rw [← Ny106.out] at ho69 | (simp only [Int.reduceToNat] at ho69; rw [← Ny106.out] at ho69)); have n0_ := Aside0.mk (Kd.R_elder' (by (with_reducible repeat (first | apply Kd.R_alloc | apply Kd.R_drewN | apply Kd.R_drew)); exact HO105.out) (Kd.R_base ho69) hb); have n1_ := Aside0.mk (Kd.R_lower (Kd.R_new' ho69 (Kd.R_lt (by (with_reducible repeat (first | apply Kd.R_alloc | apply Kd.R_drewN | apply Kd.R_drew)); exact HO105.out))) (below_size (by repeat (first | (with_reducible first | exact HB.out | apply below_alloc | apply pw_below_drewN | apply below_drew1) | exact HB.out)))); have n2_ := Aside0.mk (below_step (by repeat (first | (with_reducible first | exact HB.out | apply below_alloc | apply pw_below_drewN | apply below_drew1) | exact HB.out)) hb); clear HO105; clear HB; have HO105 := n0_; have HO108 := n1_; have HB := n2_; clear n0_ n1_ n2_; clear hb ho69; obtain ⟨Ao70, co70, eo70⟩ := Kd.R_slice HO108.out; subst eo70) | ((with_reducible refine gate_callee (f := 16) rfl ?_); refine goesL_ (some 12) rfl rfl Tryz.func16 (by kernel_rfl) rfl #[.slice Ao70 y106.length co70] rfl (by (try simp only [List.map_toArray, List.map_cons, List.map_nil]); first | done | rfl | (simp only [List.length_drop, List.length_take]; rfl)) ?_; (with_reducible refine (addr_Write.calls _ _ y106 t109 t110 _ ?side1 ?side2 ?sideGl A2.out).mono ?_); (case sideGl => exact HGl.out.below (by repeat (first | (with_reducible first | exact HB.out | apply below_alloc | apply pw_below_drewN | apply below_drew1) | exact HB.out))); (case side1 => repeat (first | exact (Kd.R_reads' HO108.out).2.2 | (with_reducible refine Kd.C_alloc ?_ _) | (with_reducible refine Kd.C_drewN ?_ _) | (with_reducible refine Kd.C_drew ?_))); (case side2 => exact (Kd.R_reads' HO108.out).2.1); rintro e w71 ⟨rfl, hb⟩; refine ⟨_, rfl, ?_⟩; have n0_ := Aside0.mk (Kd.R_below (by (with_reducible repeat (first | apply Kd.R_alloc | apply Kd.R_drewN | apply Kd.R_drew)); exact HO105.out) hb); have n1_ := Aside0.mk (Kd.R_below (by (with_reducible repeat (first | apply Kd.R_alloc | apply Kd.R_drewN | apply Kd.R_drew)); exact HO108.out) hb); have n2_ := Aside0.mk (below_step (by repeat (first | (with_reducible first | exact HB.out | apply below_alloc | apply pw_below_drewN | apply below_drew1) | exact HB.out)) hb); clear HO105; clear HO108; clear HB; have HO105 := n0_; have HO108 := n1_; have HB := n2_; clear n0_ n1_ n2_; (try clear hb); (try clear hb2); (try clear hk); (try clear hi)) | ((with_reducible refine gate_dst (N := 17) rfl ?_); refine Kd.R_lit k32 _ 32 ?hg (N := 17) ?hd (xs := ([(⟨(⟨#[]⟩ : ByteArray), (⟨#[120]⟩ : ByteArray)⟩ : S32)] : List (S32))) (inner := [.string (⟨#[]⟩ : ByteArray), .string (⟨#[120]⟩ : ByteArray)]) (ok := fun _ => True) (okp := fun _ => True) ?hr ?hp (fun _ hk => hk) trivial (Below.refl _ _) (Nat.le_refl _) (by simp) ?_; (case hd => rfl); (case hg => rfl); (case hr => first | (go_simp; done) | (go_simp; rfl)); (case hp => exact (Reps.c2 (show Kd.M k32 _ _ _ (⟨(⟨#[]⟩ : ByteArray), (⟨#[120]⟩ : ByteArray)⟩ : S32) [.string (⟨#[]⟩ : ByteArray), .string (⟨#[120]⟩ : ByteArray)] from (k32_mkM _ _ _ (⟨(⟨#[]⟩ : ByteArray), (⟨#[120]⟩ : ByteArray)⟩ : S32) )) (Reps.none _ _))); intro v112 w72 ho73 hb hg_ hnew_; clear hg_ hnew_; (first | rw [← Ny111.out] at ho73 | (simp only [Int.reduceToNat] at ho73; rw [← Ny111.out] at ho73)); have n0_ := Aside0.mk (Kd.R_elder' (by (with_reducible repeat (first | apply Kd.R_alloc | apply Kd.R_drewN | apply Kd.R_drew)); exact HO105.out) (Kd.R_base ho73) hb); have n1_ := Aside0.mk (Kd.R_elder' (by (with_reducible repeat (first | apply Kd.R_alloc | apply Kd.R_drewN | apply Kd.R_drew)); exact HO108.out) (Kd.R_base ho73) hb); have n2_ := Aside0.mk (Kd.R_lower (Kd.R_new' (Kd.R_new' ho73 (Kd.R_lt (by (with_reducible repeat (first | apply Kd.R_alloc | apply Kd.R_drewN | apply Kd.R_drew)); exact HO105.out))) (Kd.R_lt (by (with_reducible repeat (first | apply Kd.R_alloc | apply Kd.R_drewN | apply Kd.R_drew)); exact HO108.out))) (below_size (by repeat (first | (with_reducible first | exact HB.out | apply below_alloc | apply pw_below_drewN | apply below_drew1) | exact HB.out)))); have n3_ := Aside0.mk (below_step (by repeat (first | (with_reducible first | exact HB.out | apply below_alloc | apply pw_below_drewN | apply below_drew1) | exact HB.out)) hb); clear HO105; clear HO108; clear HB; have HO105 := n0_; have HO108 := n1_; have HO113 := n2_; have HB := n3_; clear n0_ n1_ n2_ n3_; clear hb ho73; obtain ⟨Ao74, co74, eo74⟩ := Kd.R_slice HO113.out; subst eo74) | ((with_reducible refine gate_callee (f := 16) rfl ?_); refine goesL_ (some 18) rfl rfl Tryz.func16 (by kernel_rfl) rfl #[.slice Ao74 y111.length co74] rfl (by (try simp only [List.map_toArray, List.map_cons, List.map_nil]); first | done | rfl | (simp only [List.length_drop, List.length_take]; rfl)) ?_; (with_reducible refine (addr_Write.calls _ _ y111 t114 t115 _ ?side1 ?side2 ?sideGl A3.out).mono ?_); (case sideGl => exact HGl.out.below (by repeat (first | (with_reducible first | exact HB.out | apply below_alloc | apply pw_below_drewN | apply below_drew1) | exact HB.out))); (case side1 => repeat (first | exact (Kd.R_reads' HO113.out).2.2 | (with_reducible refine Kd.C_alloc ?_ _) | (with_reducible refine Kd.C_drewN ?_ _) | (with_reducible refine Kd.C_drew ?_))); (case side2 => exact (Kd.R_reads' HO113.out).2.1); rintro e w75 ⟨rfl, hb⟩; refine ⟨_, rfl, ?_⟩; have n0_ := Aside0.mk (Kd.R_below (by (with_reducible repeat (first | apply Kd.R_alloc | apply Kd.R_drewN | apply Kd.R_drew)); exact HO105.out) hb); have n1_ := Aside0.mk (Kd.R_below (by (with_reducible repeat (first | apply Kd.R_alloc | apply Kd.R_drewN | apply Kd.R_drew)); exact HO108.out) hb); have n2_ := Aside0.mk (Kd.R_below (by (with_reducible repeat (first | apply Kd.R_alloc | apply Kd.R_drewN | apply Kd.R_drew)); exact HO113.out) hb); have n3_ := Aside0.mk (below_step (by repeat (first | (with_reducible first | exact HB.out | apply below_alloc | apply pw_below_drewN | apply below_drew1) | exact HB.out)) hb); clear HO105; clear HO108; clear HO113; clear HB; have HO105 := n0_; have HO108 := n1_; have HO113 := n2_; have HB := n3_; clear n0_ n1_ n2_ n3_; (try clear hb); (try clear hb2); (try clear hk); (try clear hi)) | ((with_reducible refine gate_dst (N := 26) rfl ?_); refine Kd.R_lit k32 _ 32 ?hg (N := 26) ?hd (xs := ([(⟨(⟨#[65, 44, 32, 34, 66]⟩ : ByteArray), (⟨#[97, 64, 98]⟩ : ByteArray)⟩ : S32), (⟨(⟨#[67, 32, 40, 120, 41]⟩ : ByteArray), (⟨#[99, 64, 100]⟩ : ByteArray)⟩ : S32), (⟨(⟨#[68]⟩ : ByteArray), (⟨#[]⟩ : ByteArray)⟩ : S32), (⟨(⟨#[]⟩ : ByteArray), (⟨#[101, 64, 102]⟩ : ByteArray)⟩ : S32)] : List (S32))) (inner := [.string (⟨#[65, 44, 32, 34, 66]⟩ : ByteArray), .string (⟨#[97, 64, 98]⟩ : ByteArray), .string (⟨#[67, 32, 40, 120, 41]⟩ : ByteArray), .string (⟨#[99, 64, 100]⟩ : ByteArray), .string (⟨#[68]⟩ : ByteArray), .string (⟨#[]⟩ : ByteArray), .string (⟨#[]⟩ : ByteArray), .string (⟨#[101, 64, 102]⟩ : ByteArray)]) (ok := fun _ => True) (okp := fun _ => True) ?hr ?hp (fun _ hk => hk) trivial (Below.refl _ _) (Nat.le_refl _) (by simp) ?_; (case hd => rfl); (case hg => rfl); (case hr => first | (go_simp; done) | (go_simp; rfl)); (case hp => exact (Reps.c2 (show Kd.M k32 _ _ _ (⟨(⟨#[65, 44, 32, 34, 66]⟩ : ByteArray), (⟨#[97, 64, 98]⟩ : ByteArray)⟩ : S32) [.string (⟨#[65, 44, 32, 34, 66]⟩ : ByteArray), .string (⟨#[97, 64, 98]⟩ : ByteArray)] from (k32_mkM _ _ _ (⟨(⟨#[65, 44, 32, 34, 66]⟩ : ByteArray), (⟨#[97, 64, 98]⟩ : ByteArray)⟩ : S32) )) (Reps.c2 (show Kd.M k32 _ _ _ (⟨(⟨#[67, 32, 40, 120, 41]⟩ : ByteArray), (⟨#[99, 64, 100]⟩ : ByteArray)⟩ : S32) [.string (⟨#[67, 32, 40, 120, 41]⟩ : ByteArray), .string (⟨#[99, 64, 100]⟩ : ByteArray)] from (k32_mkM _ _ _ (⟨(⟨#[67, 32, 40, 120, 41]⟩ : ByteArray), (⟨#[99, 64, 100]⟩ : ByteArray)⟩ : S32) )) (Reps.c2 (show Kd.M k32 _ _ _ (⟨(⟨#[68]⟩ : ByteArray), (⟨#[]⟩ : ByteArray)⟩ : S32) [.string (⟨#[68]⟩ : ByteArray), .string (⟨#[]⟩ : ByteArray)] from (k32_mkM _ _ _ (⟨(⟨#[68]⟩ : ByteArray), (⟨#[]⟩ : ByteArray)⟩ : S32) )) (Reps.c2 (show Kd.M k32 _ _ _ (⟨(⟨#[]⟩ : ByteArray), (⟨#[101, 64, 102]⟩ : ByteArray)⟩ : S32) [.string (⟨#[]⟩ : ByteArray), .string (⟨#[101, 64, 102]⟩ : ByteArray)] from (k32_mkM _ _ _ (⟨(⟨#[]⟩ : ByteArray), (⟨#[101, 64, 102]⟩ : ByteArray)⟩ : S32) )) (Reps.none _ _)))))); intro v117 w76 ho77 hb hg_ hnew_; clear hg_ hnew_; (first | rw [← Ny116.out] at ho77 | (simp only [Int.reduceToNat] at ho77; rw [← Ny116.out] at ho77)); have n0_ := Aside0.mk (Kd.R_elder' (by (with_reducible repeat (first | apply Kd.R_alloc | apply Kd.R_drewN | apply Kd.R_drew)); exact HO105.out) (Kd.R_base ho77) hb); have n1_ := Aside0.mk (Kd.R_elder' (by (with_reducible repeat (first | apply Kd.R_alloc | apply Kd.R_drewN | apply Kd.R_drew)); exact HO108.out) (Kd.R_base ho77) hb); have n2_ := Aside0.mk (Kd.R_elder' (by (with_reducible repeat (first | apply Kd.R_alloc | apply Kd.R_drewN | apply Kd.R_drew)); exact HO113.out) (Kd.R_base ho77) hb); have n3_ := Aside0.mk (Kd.R_lower (Kd.R_new' (Kd.R_new' (Kd.R_new' ho77 (Kd.R_lt (by (with_reducible repeat (first | apply Kd.R_alloc | apply Kd.R_drewN | apply Kd.R_drew)); exact HO105.out))) (Kd.R_lt (by (with_reducible repeat (first | apply Kd.R_alloc | apply Kd.R_drewN | apply Kd.R_drew)); exact HO108.out))) (Kd.R_lt (by (with_reducible repeat (first | apply Kd.R_alloc | apply Kd.R_drewN | apply Kd.R_drew)); exact HO113.out))) (below_size (by repeat (first | (with_reducible first | exact HB.out | apply below_alloc | apply pw_below_drewN | apply below_drew1) | exact HB.out)))); have n4_ := Aside0.mk (below_step (by repeat (first | (with_reducible first | exact HB.out | apply below_alloc | apply pw_below_drewN | apply below_drew1) | exact HB.out)) hb); clear HO105; clear HO108; clear HO113; clear HB; have HO105 := n0_; have HO108 := n1_; have HO113 := n2_; have HO118 := n3_; have HB := n4_; clear n0_ n1_ n2_ n3_ n4_; clear hb ho77; obtain ⟨Ao78, co78, eo78⟩ := Kd.R_slice HO105.out; subst eo78; obtain ⟨Ao79, co79, eo79⟩ := Kd.R_slice HO118.out; subst eo79) | ((with_reducible refine gate_callee (f := 10) rfl ?_); refine goesL_ (some 27) rfl rfl Tryz.func10 (by kernel_rfl) rfl #[.slice Ao78 t103.length co78, .slice Ao79 y116.length co79] rfl (by (try simp only [List.map_toArray, List.map_cons, List.map_nil]); first | done | rfl | (simp only [List.length_drop, List.length_take]; rfl)) ?_; (with_reducible refine (muslinref08_Same.calls k _ _ t103 _ _ y116 true _ ?side1 ?side2 ?side3 ?side4 A4.out).mono ?_); (case side1 => repeat (first | exact (Kd.R_reads' HO105.out).2.2 | (with_reducible refine Kd.C_alloc ?_ _) | (with_reducible refine Kd.C_drewN ?_ _) | (with_reducible refine Kd.C_drew ?_))); (case side2 => exact (Kd.R_reads' HO105.out).2.1); (case side3 => repeat (first | exact (Kd.R_reads' HO118.out).2.2 | (with_reducible refine Kd.C_alloc ?_ _) | (with_reducible refine Kd.C_drewN ?_ _) | (with_reducible refine Kd.C_drew ?_))); (case side4 => exact (Kd.R_reads' HO118.out).2.1); rintro e w' ⟨rfl, ⟨nd, rfl⟩⟩; refine ⟨_, rfl, ?_⟩))
    go_ret
    exact ⟨by first | rfl | (simp [errW_none, errW_some] <;> rfl) | (simp [*, errW_none, errW_some] <;> rfl), by repeat (first | (with_reducible first | exact HB.out | apply below_alloc | apply pw_below_drewN | apply below_drew1) | exact HB.out)⟩
  rw [if_pos c6] at H; have c6b0 : (t109.toList == ([34, 65, 32, 92, 34, 34, 32, 60, 97, 64, 98, 62, 44, 32, 99, 64, 100, 44, 32, 61, 63, 117, 116, 102, 45, 56, 63, 66, 63, 119, 54, 107, 61, 63, 61, 32, 60, 101, 64, 102, 62] : List UInt8)) = true := beq_iff_eq.mpr c6; have c6b1 : (t109.toList != ([34, 65, 32, 92, 34, 34, 32, 60, 97, 64, 98, 62, 44, 32, 99, 64, 100, 44, 32, 61, 63, 117, 116, 102, 45, 56, 63, 66, 63, 119, 54, 107, 61, 63, 61, 32, 60, 101, 64, 102, 62] : List UInt8)) = false := bne_eq_false_iff_eq.mpr c6; clear c6
  by_cases c7 : t110 = 0
  case neg =>
    rw [if_neg c7] at H; have c7b0 : (t110 == 0) = false := beq_eq_false_iff_ne.mpr c7; have c7b1 : (t110 != 0) = true := bne_iff_ne.mpr c7; obtain rfl := Option.some.inj H
    go_enter Tryz.func9, Tryz.ntmps9
    go_wp2_with (first | ((with_reducible refine gate_callee (f := 11) rfl ?_); refine goesL_ (some 6) rfl rfl Tryz.func11 (by kernel_rfl) rfl #[.string (⟨#[34, 65, 44, 32, 92, 34, 66, 34, 32, 60, 97, 64, 98, 62, 44, 32, 99, 64, 100, 32, 40, 67, 32, 40, 120, 41, 41, 44, 32, 61, 63, 97, 115, 99, 105, 105, 63, 81, 63, 68, 63, 61, 32, 60, 98, 97, 100, 62, 59, 32, 101, 64, 102, 44, 44]⟩ : ByteArray)] rfl (by (try simp only [List.map_toArray, List.map_cons, List.map_nil]); first | done | rfl | (simp only [List.length_drop, List.length_take]; rfl)) ?_; (with_reducible refine (addr_Parse.calls (⟨#[34, 65, 44, 32, 92, 34, 66, 34, 32, 60, 97, 64, 98, 62, 44, 32, 99, 64, 100, 32, 40, 67, 32, 40, 120, 41, 41, 44, 32, 61, 63, 97, 115, 99, 105, 105, 63, 81, 63, 68, 63, 61, 32, 60, 98, 97, 100, 62, 59, 32, 101, 64, 102, 44, 44]⟩ : ByteArray) t103 _ ?sideGl A1.out).mono ?_); (case sideGl => exact HGl.out.below (by repeat (first | (with_reducible first | exact HB.out | apply below_alloc | apply pw_below_drewN | apply below_drew1) | exact HB.out))); rintro e w54 ⟨v104, rfl, ho0, hb⟩; refine ⟨_, rfl, ?_⟩; have n0_ := Aside0.mk (Kd.R_lower ho0 (below_size (by repeat (first | (with_reducible first | exact HB.out | apply below_alloc | apply pw_below_drewN | apply below_drew1) | exact HB.out)))); have n1_ := Aside0.mk (below_step (by repeat (first | (with_reducible first | exact HB.out | apply below_alloc | apply pw_below_drewN | apply below_drew1) | exact HB.out)) hb); clear HB; have HO105 := n0_; have HB := n1_; clear n0_ n1_; (try clear hb); (try clear hb2); (try clear hk); (try clear hi); (try clear ho0)) | ((with_reducible refine gate_dst (N := 11) rfl ?_); refine Kd.R_lit k32 _ 32 ?hg (N := 11) ?hd (xs := ([(⟨(⟨#[65, 32, 34]⟩ : ByteArray), (⟨#[97, 64, 98]⟩ : ByteArray)⟩ : S32), (⟨(⟨#[]⟩ : ByteArray), (⟨#[99, 64, 100]⟩ : ByteArray)⟩ : S32), (⟨(⟨#[195, 169]⟩ : ByteArray), (⟨#[101, 64, 102]⟩ : ByteArray)⟩ : S32)] : List (S32))) (inner := [.string (⟨#[65, 32, 34]⟩ : ByteArray), .string (⟨#[97, 64, 98]⟩ : ByteArray), .string (⟨#[]⟩ : ByteArray), .string (⟨#[99, 64, 100]⟩ : ByteArray), .string (⟨#[195, 169]⟩ : ByteArray), .string (⟨#[101, 64, 102]⟩ : ByteArray)]) (ok := fun _ => True) (okp := fun _ => True) ?hr ?hp (fun _ hk => hk) trivial (Below.refl _ _) (Nat.le_refl _) (by simp) ?_; (case hd => rfl); (case hg => rfl); (case hr => first | (go_simp; done) | (go_simp; rfl)); (case hp => exact (Reps.c2 (show Kd.M k32 _ _ _ (⟨(⟨#[65, 32, 34]⟩ : ByteArray), (⟨#[97, 64, 98]⟩ : ByteArray)⟩ : S32) [.string (⟨#[65, 32, 34]⟩ : ByteArray), .string (⟨#[97, 64, 98]⟩ : ByteArray)] from (k32_mkM _ _ _ (⟨(⟨#[65, 32, 34]⟩ : ByteArray), (⟨#[97, 64, 98]⟩ : ByteArray)⟩ : S32) )) (Reps.c2 (show Kd.M k32 _ _ _ (⟨(⟨#[]⟩ : ByteArray), (⟨#[99, 64, 100]⟩ : ByteArray)⟩ : S32) [.string (⟨#[]⟩ : ByteArray), .string (⟨#[99, 64, 100]⟩ : ByteArray)] from (k32_mkM _ _ _ (⟨(⟨#[]⟩ : ByteArray), (⟨#[99, 64, 100]⟩ : ByteArray)⟩ : S32) )) (Reps.c2 (show Kd.M k32 _ _ _ (⟨(⟨#[195, 169]⟩ : ByteArray), (⟨#[101, 64, 102]⟩ : ByteArray)⟩ : S32) [.string (⟨#[195, 169]⟩ : ByteArray), .string (⟨#[101, 64, 102]⟩ : ByteArray)] from (k32_mkM _ _ _ (⟨(⟨#[195, 169]⟩ : ByteArray), (⟨#[101, 64, 102]⟩ : ByteArray)⟩ : S32) )) (Reps.none _ _))))); intro v107 w55 ho56 hb hg_ hnew_; clear hg_ hnew_; (first | rw [← Ny106.out] at ho56 | (simp only [Int.reduceToNat] at ho56; rw [← Ny106.out] at ho56)); have n0_ := Aside0.mk (Kd.R_elder' (by (with_reducible repeat (first | apply Kd.R_alloc | apply Kd.R_drewN | apply Kd.R_drew)); exact HO105.out) (Kd.R_base ho56) hb); have n1_ := Aside0.mk (Kd.R_lower (Kd.R_new' ho56 (Kd.R_lt (by (with_reducible repeat (first | apply Kd.R_alloc | apply Kd.R_drewN | apply Kd.R_drew)); exact HO105.out))) (below_size (by repeat (first | (with_reducible first | exact HB.out | apply below_alloc | apply pw_below_drewN | apply below_drew1) | exact HB.out)))); have n2_ := Aside0.mk (below_step (by repeat (first | (with_reducible first | exact HB.out | apply below_alloc | apply pw_below_drewN | apply below_drew1) | exact HB.out)) hb); clear HO105; clear HB; have HO105 := n0_; have HO108 := n1_; have HB := n2_; clear n0_ n1_ n2_; clear hb ho56; obtain ⟨Ao57, co57, eo57⟩ := Kd.R_slice HO108.out; subst eo57) | ((with_reducible refine gate_callee (f := 16) rfl ?_); refine goesL_ (some 12) rfl rfl Tryz.func16 (by kernel_rfl) rfl #[.slice Ao57 y106.length co57] rfl (by (try simp only [List.map_toArray, List.map_cons, List.map_nil]); first | done | rfl | (simp only [List.length_drop, List.length_take]; rfl)) ?_; (with_reducible refine (addr_Write.calls _ _ y106 t109 t110 _ ?side1 ?side2 ?sideGl A2.out).mono ?_); (case sideGl => exact HGl.out.below (by repeat (first | (with_reducible first | exact HB.out | apply below_alloc | apply pw_below_drewN | apply below_drew1) | exact HB.out))); (case side1 => repeat (first | exact (Kd.R_reads' HO108.out).2.2 | (with_reducible refine Kd.C_alloc ?_ _) | (with_reducible refine Kd.C_drewN ?_ _) | (with_reducible refine Kd.C_drew ?_))); (case side2 => exact (Kd.R_reads' HO108.out).2.1); rintro e w58 ⟨rfl, hb⟩; refine ⟨_, rfl, ?_⟩; have n0_ := Aside0.mk (Kd.R_below (by (with_reducible repeat (first | apply Kd.R_alloc | apply Kd.R_drewN | apply Kd.R_drew)); exact HO105.out) hb); have n1_ := Aside0.mk (Kd.R_below (by (with_reducible repeat (first | apply Kd.R_alloc | apply Kd.R_drewN | apply Kd.R_drew)); exact HO108.out) hb); have n2_ := Aside0.mk (below_step (by repeat (first | (with_reducible first | exact HB.out | apply below_alloc | apply pw_below_drewN | apply below_drew1) | exact HB.out)) hb); clear HO105; clear HO108; clear HB; have HO105 := n0_; have HO108 := n1_; have HB := n2_; clear n0_ n1_ n2_; (try clear hb); (try clear hb2); (try clear hk); (try clear hi)) | ((with_reducible refine gate_dst (N := 17) rfl ?_); refine Kd.R_lit k32 _ 32 ?hg (N := 17) ?hd (xs := ([(⟨(⟨#[]⟩ : ByteArray), (⟨#[120]⟩ : ByteArray)⟩ : S32)] : List (S32))) (inner := [.string (⟨#[]⟩ : ByteArray), .string (⟨#[120]⟩ : ByteArray)]) (ok := fun _ => True) (okp := fun _ => True) ?hr ?hp (fun _ hk => hk) trivial (Below.refl _ _) (Nat.le_refl _) (by simp) ?_; (case hd => rfl); (case hg => rfl); (case hr => first | (go_simp; done) | (go_simp; rfl)); (case hp => exact (Reps.c2 (show Kd.M k32 _ _ _ (⟨(⟨#[]⟩ : ByteArray), (⟨#[120]⟩ : ByteArray)⟩ : S32) [.string (⟨#[]⟩ : ByteArray), .string (⟨#[120]⟩ : ByteArray)] from (k32_mkM _ _ _ (⟨(⟨#[]⟩ : ByteArray), (⟨#[120]⟩ : ByteArray)⟩ : S32) )) (Reps.none _ _))); intro v112 w59 ho60 hb hg_ hnew_; clear hg_ hnew_; (first | rw [← Ny111.out] at ho60 | (simp only [Int.reduceToNat] at ho60; rw [← Ny111.out] at ho60)); have n0_ := Aside0.mk (Kd.R_elder' (by (with_reducible repeat (first | apply Kd.R_alloc | apply Kd.R_drewN | apply Kd.R_drew)); exact HO105.out) (Kd.R_base ho60) hb); have n1_ := Aside0.mk (Kd.R_elder' (by (with_reducible repeat (first | apply Kd.R_alloc | apply Kd.R_drewN | apply Kd.R_drew)); exact HO108.out) (Kd.R_base ho60) hb); have n2_ := Aside0.mk (Kd.R_lower (Kd.R_new' (Kd.R_new' ho60 (Kd.R_lt (by (with_reducible repeat (first | apply Kd.R_alloc | apply Kd.R_drewN | apply Kd.R_drew)); exact HO105.out))) (Kd.R_lt (by (with_reducible repeat (first | apply Kd.R_alloc | apply Kd.R_drewN | apply Kd.R_drew)); exact HO108.out))) (below_size (by repeat (first | (with_reducible first | exact HB.out | apply below_alloc | apply pw_below_drewN | apply below_drew1) | exact HB.out)))); have n3_ := Aside0.mk (below_step (by repeat (first | (with_reducible first | exact HB.out | apply below_alloc | apply pw_below_drewN | apply below_drew1) | exact HB.out)) hb); clear HO105; clear HO108; clear HB; have HO105 := n0_; have HO108 := n1_; have HO113 := n2_; have HB := n3_; clear n0_ n1_ n2_ n3_; clear hb ho60; obtain ⟨Ao61, co61, eo61⟩ := Kd.R_slice HO113.out; subst eo61) | ((with_reducible refine gate_callee (f := 16) rfl ?_); refine goesL_ (some 18) rfl rfl Tryz.func16 (by kernel_rfl) rfl #[.slice Ao61 y111.length co61] rfl (by (try simp only [List.map_toArray, List.map_cons, List.map_nil]); first | done | rfl | (simp only [List.length_drop, List.length_take]; rfl)) ?_; (with_reducible refine (addr_Write.calls _ _ y111 t114 t115 _ ?side1 ?side2 ?sideGl A3.out).mono ?_); (case sideGl => exact HGl.out.below (by repeat (first | (with_reducible first | exact HB.out | apply below_alloc | apply pw_below_drewN | apply below_drew1) | exact HB.out))); (case side1 => repeat (first | exact (Kd.R_reads' HO113.out).2.2 | (with_reducible refine Kd.C_alloc ?_ _) | (with_reducible refine Kd.C_drewN ?_ _) | (with_reducible refine Kd.C_drew ?_))); (case side2 => exact (Kd.R_reads' HO113.out).2.1); rintro e w62 ⟨rfl, hb⟩; refine ⟨_, rfl, ?_⟩; have n0_ := Aside0.mk (Kd.R_below (by (with_reducible repeat (first | apply Kd.R_alloc | apply Kd.R_drewN | apply Kd.R_drew)); exact HO105.out) hb); have n1_ := Aside0.mk (Kd.R_below (by (with_reducible repeat (first | apply Kd.R_alloc | apply Kd.R_drewN | apply Kd.R_drew)); exact HO108.out) hb); have n2_ := Aside0.mk (Kd.R_below (by (with_reducible repeat (first | apply Kd.R_alloc | apply Kd.R_drewN | apply Kd.R_drew)); exact HO113.out) hb); have n3_ := Aside0.mk (below_step (by repeat (first | (with_reducible first | exact HB.out | apply below_alloc | apply pw_below_drewN | apply below_drew1) | exact HB.out)) hb); clear HO105; clear HO108; clear HO113; clear HB; have HO105 := n0_; have HO108 := n1_; have HO113 := n2_; have HB := n3_; clear n0_ n1_ n2_ n3_; (try clear hb); (try clear hb2); (try clear hk); (try clear hi)) | ((with_reducible refine gate_dst (N := 26) rfl ?_); refine Kd.R_lit k32 _ 32 ?hg (N := 26) ?hd (xs := ([(⟨(⟨#[65, 44, 32, 34, 66]⟩ : ByteArray), (⟨#[97, 64, 98]⟩ : ByteArray)⟩ : S32), (⟨(⟨#[67, 32, 40, 120, 41]⟩ : ByteArray), (⟨#[99, 64, 100]⟩ : ByteArray)⟩ : S32), (⟨(⟨#[68]⟩ : ByteArray), (⟨#[]⟩ : ByteArray)⟩ : S32), (⟨(⟨#[]⟩ : ByteArray), (⟨#[101, 64, 102]⟩ : ByteArray)⟩ : S32)] : List (S32))) (inner := [.string (⟨#[65, 44, 32, 34, 66]⟩ : ByteArray), .string (⟨#[97, 64, 98]⟩ : ByteArray), .string (⟨#[67, 32, 40, 120, 41]⟩ : ByteArray), .string (⟨#[99, 64, 100]⟩ : ByteArray), .string (⟨#[68]⟩ : ByteArray), .string (⟨#[]⟩ : ByteArray), .string (⟨#[]⟩ : ByteArray), .string (⟨#[101, 64, 102]⟩ : ByteArray)]) (ok := fun _ => True) (okp := fun _ => True) ?hr ?hp (fun _ hk => hk) trivial (Below.refl _ _) (Nat.le_refl _) (by simp) ?_; (case hd => rfl); (case hg => rfl); (case hr => first | (go_simp; done) | (go_simp; rfl)); (case hp => exact (Reps.c2 (show Kd.M k32 _ _ _ (⟨(⟨#[65, 44, 32, 34, 66]⟩ : ByteArray), (⟨#[97, 64, 98]⟩ : ByteArray)⟩ : S32) [.string (⟨#[65, 44, 32, 34, 66]⟩ : ByteArray), .string (⟨#[97, 64, 98]⟩ : ByteArray)] from (k32_mkM _ _ _ (⟨(⟨#[65, 44, 32, 34, 66]⟩ : ByteArray), (⟨#[97, 64, 98]⟩ : ByteArray)⟩ : S32) )) (Reps.c2 (show Kd.M k32 _ _ _ (⟨(⟨#[67, 32, 40, 120, 41]⟩ : ByteArray), (⟨#[99, 64, 100]⟩ : ByteArray)⟩ : S32) [.string (⟨#[67, 32, 40, 120, 41]⟩ : ByteArray), .string (⟨#[99, 64, 100]⟩ : ByteArray)] from (k32_mkM _ _ _ (⟨(⟨#[67, 32, 40, 120, 41]⟩ : ByteArray), (⟨#[99, 64, 100]⟩ : ByteArray)⟩ : S32) )) (Reps.c2 (show Kd.M k32 _ _ _ (⟨(⟨#[68]⟩ : ByteArray), (⟨#[]⟩ : ByteArray)⟩ : S32) [.string (⟨#[68]⟩ : ByteArray), .string (⟨#[]⟩ : ByteArray)] from (k32_mkM _ _ _ (⟨(⟨#[68]⟩ : ByteArray), (⟨#[]⟩ : ByteArray)⟩ : S32) )) (Reps.c2 (show Kd.M k32 _ _ _ (⟨(⟨#[]⟩ : ByteArray), (⟨#[101, 64, 102]⟩ : ByteArray)⟩ : S32) [.string (⟨#[]⟩ : ByteArray), .string (⟨#[101, 64, 102]⟩ : ByteArray)] from (k32_mkM _ _ _ (⟨(⟨#[]⟩ : ByteArray), (⟨#[101, 64, 102]⟩ : ByteArray)⟩ : S32) )) (Reps.none _ _)))))); intro v117 w63 ho64 hb hg_ hnew_; clear hg_ hnew_; (first | rw [← Ny116.out] at ho64 | (simp only [Int.reduceToNat] at ho64; rw [← Ny116.out] at ho64)); have n0_ := Aside0.mk (Kd.R_elder' (by (with_reducible repeat (first | apply Kd.R_alloc | apply Kd.R_drewN | apply Kd.R_drew)); exact HO105.out) (Kd.R_base ho64) hb); have n1_ := Aside0.mk (Kd.R_elder' (by (with_reducible repeat (first | apply Kd.R_alloc | apply Kd.R_drewN | apply Kd.R_drew)); exact HO108.out) (Kd.R_base ho64) hb); have n2_ := Aside0.mk (Kd.R_elder' (by (with_reducible repeat (first | apply Kd.R_alloc | apply Kd.R_drewN | apply Kd.R_drew)); exact HO113.out) (Kd.R_base ho64) hb); have n3_ := Aside0.mk (Kd.R_lower (Kd.R_new' (Kd.R_new' (Kd.R_new' ho64 (Kd.R_lt (by (with_reducible repeat (first | apply Kd.R_alloc | apply Kd.R_drewN | apply Kd.R_drew)); exact HO105.out))) (Kd.R_lt (by (with_reducible repeat (first | apply Kd.R_alloc | apply Kd.R_drewN | apply Kd.R_drew)); exact HO108.out))) (Kd.R_lt (by (with_reducible repeat (first | apply Kd.R_alloc | apply Kd.R_drewN | apply Kd.R_drew)); exact HO113.out))) (below_size (by repeat (first | (with_reducible first | exact HB.out | apply below_alloc | apply pw_below_drewN | apply below_drew1) | exact HB.out)))); have n4_ := Aside0.mk (below_step (by repeat (first | (with_reducible first | exact HB.out | apply below_alloc | apply pw_below_drewN | apply below_drew1) | exact HB.out)) hb); clear HO105; clear HO108; clear HO113; clear HB; have HO105 := n0_; have HO108 := n1_; have HO113 := n2_; have HO118 := n3_; have HB := n4_; clear n0_ n1_ n2_ n3_ n4_; clear hb ho64; obtain ⟨Ao65, co65, eo65⟩ := Kd.R_slice HO105.out; subst eo65; obtain ⟨Ao66, co66, eo66⟩ := Kd.R_slice HO118.out; subst eo66) | ((with_reducible refine gate_callee (f := 10) rfl ?_); refine goesL_ (some 27) rfl rfl Tryz.func10 (by kernel_rfl) rfl #[.slice Ao65 t103.length co65, .slice Ao66 y116.length co66] rfl (by (try simp only [List.map_toArray, List.map_cons, List.map_nil]); first | done | rfl | (simp only [List.length_drop, List.length_take]; rfl)) ?_; (with_reducible refine (muslinref08_Same.calls k _ _ t103 _ _ y116 true _ ?side1 ?side2 ?side3 ?side4 A4.out).mono ?_); (case side1 => repeat (first | exact (Kd.R_reads' HO105.out).2.2 | (with_reducible refine Kd.C_alloc ?_ _) | (with_reducible refine Kd.C_drewN ?_ _) | (with_reducible refine Kd.C_drew ?_))); (case side2 => exact (Kd.R_reads' HO105.out).2.1); (case side3 => repeat (first | exact (Kd.R_reads' HO118.out).2.2 | (with_reducible refine Kd.C_alloc ?_ _) | (with_reducible refine Kd.C_drewN ?_ _) | (with_reducible refine Kd.C_drew ?_))); (case side4 => exact (Kd.R_reads' HO118.out).2.1); rintro e w' ⟨rfl, ⟨nd, rfl⟩⟩; refine ⟨_, rfl, ?_⟩))
    go_ret
    exact ⟨by first | rfl | (simp [errW_none, errW_some] <;> rfl) | (simp [*, errW_none, errW_some] <;> rfl), by repeat (first | (with_reducible first | exact HB.out | apply below_alloc | apply pw_below_drewN | apply below_drew1) | exact HB.out)⟩
  rw [if_pos c7] at H; have c7b0 : (t110 == 0) = true := beq_iff_eq.mpr c7; have c7b1 : (t110 != 0) = false := bne_eq_false_iff_eq.mpr c7; clear c7
  by_cases c8 : t115 = 1
  case neg =>
    rw [if_neg c8] at H; have c8b0 : (t115 == 1) = false := beq_eq_false_iff_ne.mpr c8; have c8b1 : (t115 != 1) = true := bne_iff_ne.mpr c8; obtain rfl := Option.some.inj H
    go_enter Tryz.func9, Tryz.ntmps9
    go_wp2_with (first | ((with_reducible refine gate_callee (f := 11) rfl ?_); refine goesL_ (some 6) rfl rfl Tryz.func11 (by kernel_rfl) rfl #[.string (⟨#[34, 65, 44, 32, 92, 34, 66, 34, 32, 60, 97, 64, 98, 62, 44, 32, 99, 64, 100, 32, 40, 67, 32, 40, 120, 41, 41, 44, 32, 61, 63, 97, 115, 99, 105, 105, 63, 81, 63, 68, 63, 61, 32, 60, 98, 97, 100, 62, 59, 32, 101, 64, 102, 44, 44]⟩ : ByteArray)] rfl (by (try simp only [List.map_toArray, List.map_cons, List.map_nil]); first | done | rfl | (simp only [List.length_drop, List.length_take]; rfl)) ?_; (with_reducible refine (addr_Parse.calls (⟨#[34, 65, 44, 32, 92, 34, 66, 34, 32, 60, 97, 64, 98, 62, 44, 32, 99, 64, 100, 32, 40, 67, 32, 40, 120, 41, 41, 44, 32, 61, 63, 97, 115, 99, 105, 105, 63, 81, 63, 68, 63, 61, 32, 60, 98, 97, 100, 62, 59, 32, 101, 64, 102, 44, 44]⟩ : ByteArray) t103 _ ?sideGl A1.out).mono ?_); (case sideGl => exact HGl.out.below (by repeat (first | (with_reducible first | exact HB.out | apply below_alloc | apply pw_below_drewN | apply below_drew1) | exact HB.out))); rintro e w41 ⟨v104, rfl, ho0, hb⟩; refine ⟨_, rfl, ?_⟩; have n0_ := Aside0.mk (Kd.R_lower ho0 (below_size (by repeat (first | (with_reducible first | exact HB.out | apply below_alloc | apply pw_below_drewN | apply below_drew1) | exact HB.out)))); have n1_ := Aside0.mk (below_step (by repeat (first | (with_reducible first | exact HB.out | apply below_alloc | apply pw_below_drewN | apply below_drew1) | exact HB.out)) hb); clear HB; have HO105 := n0_; have HB := n1_; clear n0_ n1_; (try clear hb); (try clear hb2); (try clear hk); (try clear hi); (try clear ho0)) | ((with_reducible refine gate_dst (N := 11) rfl ?_); refine Kd.R_lit k32 _ 32 ?hg (N := 11) ?hd (xs := ([(⟨(⟨#[65, 32, 34]⟩ : ByteArray), (⟨#[97, 64, 98]⟩ : ByteArray)⟩ : S32), (⟨(⟨#[]⟩ : ByteArray), (⟨#[99, 64, 100]⟩ : ByteArray)⟩ : S32), (⟨(⟨#[195, 169]⟩ : ByteArray), (⟨#[101, 64, 102]⟩ : ByteArray)⟩ : S32)] : List (S32))) (inner := [.string (⟨#[65, 32, 34]⟩ : ByteArray), .string (⟨#[97, 64, 98]⟩ : ByteArray), .string (⟨#[]⟩ : ByteArray), .string (⟨#[99, 64, 100]⟩ : ByteArray), .string (⟨#[195, 169]⟩ : ByteArray), .string (⟨#[101, 64, 102]⟩ : ByteArray)]) (ok := fun _ => True) (okp := fun _ => True) ?hr ?hp (fun _ hk => hk) trivial (Below.refl _ _) (Nat.le_refl _) (by simp) ?_; (case hd => rfl); (case hg => rfl); (case hr => first | (go_simp; done) | (go_simp; rfl)); (case hp => exact (Reps.c2 (show Kd.M k32 _ _ _ (⟨(⟨#[65, 32, 34]⟩ : ByteArray), (⟨#[97, 64, 98]⟩ : ByteArray)⟩ : S32) [.string (⟨#[65, 32, 34]⟩ : ByteArray), .string (⟨#[97, 64, 98]⟩ : ByteArray)] from (k32_mkM _ _ _ (⟨(⟨#[65, 32, 34]⟩ : ByteArray), (⟨#[97, 64, 98]⟩ : ByteArray)⟩ : S32) )) (Reps.c2 (show Kd.M k32 _ _ _ (⟨(⟨#[]⟩ : ByteArray), (⟨#[99, 64, 100]⟩ : ByteArray)⟩ : S32) [.string (⟨#[]⟩ : ByteArray), .string (⟨#[99, 64, 100]⟩ : ByteArray)] from (k32_mkM _ _ _ (⟨(⟨#[]⟩ : ByteArray), (⟨#[99, 64, 100]⟩ : ByteArray)⟩ : S32) )) (Reps.c2 (show Kd.M k32 _ _ _ (⟨(⟨#[195, 169]⟩ : ByteArray), (⟨#[101, 64, 102]⟩ : ByteArray)⟩ : S32) [.string (⟨#[195, 169]⟩ : ByteArray), .string (⟨#[101, 64, 102]⟩ : ByteArray)] from (k32_mkM _ _ _ (⟨(⟨#[195, 169]⟩ : ByteArray), (⟨#[101, 64, 102]⟩ : ByteArray)⟩ : S32) )) (Reps.none _ _))))); intro v107 w42 ho43 hb hg_ hnew_; clear hg_ hnew_; (first | rw [← Ny106.out] at ho43 | (simp only [Int.reduceToNat] at ho43; rw [← Ny106.out] at ho43)); have n0_ := Aside0.mk (Kd.R_elder' (by (with_reducible repeat (first | apply Kd.R_alloc | apply Kd.R_drewN | apply Kd.R_drew)); exact HO105.out) (Kd.R_base ho43) hb); have n1_ := Aside0.mk (Kd.R_lower (Kd.R_new' ho43 (Kd.R_lt (by (with_reducible repeat (first | apply Kd.R_alloc | apply Kd.R_drewN | apply Kd.R_drew)); exact HO105.out))) (below_size (by repeat (first | (with_reducible first | exact HB.out | apply below_alloc | apply pw_below_drewN | apply below_drew1) | exact HB.out)))); have n2_ := Aside0.mk (below_step (by repeat (first | (with_reducible first | exact HB.out | apply below_alloc | apply pw_below_drewN | apply below_drew1) | exact HB.out)) hb); clear HO105; clear HB; have HO105 := n0_; have HO108 := n1_; have HB := n2_; clear n0_ n1_ n2_; clear hb ho43; obtain ⟨Ao44, co44, eo44⟩ := Kd.R_slice HO108.out; subst eo44) | ((with_reducible refine gate_callee (f := 16) rfl ?_); refine goesL_ (some 12) rfl rfl Tryz.func16 (by kernel_rfl) rfl #[.slice Ao44 y106.length co44] rfl (by (try simp only [List.map_toArray, List.map_cons, List.map_nil]); first | done | rfl | (simp only [List.length_drop, List.length_take]; rfl)) ?_; (with_reducible refine (addr_Write.calls _ _ y106 t109 t110 _ ?side1 ?side2 ?sideGl A2.out).mono ?_); (case sideGl => exact HGl.out.below (by repeat (first | (with_reducible first | exact HB.out | apply below_alloc | apply pw_below_drewN | apply below_drew1) | exact HB.out))); (case side1 => repeat (first | exact (Kd.R_reads' HO108.out).2.2 | (with_reducible refine Kd.C_alloc ?_ _) | (with_reducible refine Kd.C_drewN ?_ _) | (with_reducible refine Kd.C_drew ?_))); (case side2 => exact (Kd.R_reads' HO108.out).2.1); rintro e w45 ⟨rfl, hb⟩; refine ⟨_, rfl, ?_⟩; have n0_ := Aside0.mk (Kd.R_below (by (with_reducible repeat (first | apply Kd.R_alloc | apply Kd.R_drewN | apply Kd.R_drew)); exact HO105.out) hb); have n1_ := Aside0.mk (Kd.R_below (by (with_reducible repeat (first | apply Kd.R_alloc | apply Kd.R_drewN | apply Kd.R_drew)); exact HO108.out) hb); have n2_ := Aside0.mk (below_step (by repeat (first | (with_reducible first | exact HB.out | apply below_alloc | apply pw_below_drewN | apply below_drew1) | exact HB.out)) hb); clear HO105; clear HO108; clear HB; have HO105 := n0_; have HO108 := n1_; have HB := n2_; clear n0_ n1_ n2_; (try clear hb); (try clear hb2); (try clear hk); (try clear hi)) | ((with_reducible refine gate_dst (N := 17) rfl ?_); refine Kd.R_lit k32 _ 32 ?hg (N := 17) ?hd (xs := ([(⟨(⟨#[]⟩ : ByteArray), (⟨#[120]⟩ : ByteArray)⟩ : S32)] : List (S32))) (inner := [.string (⟨#[]⟩ : ByteArray), .string (⟨#[120]⟩ : ByteArray)]) (ok := fun _ => True) (okp := fun _ => True) ?hr ?hp (fun _ hk => hk) trivial (Below.refl _ _) (Nat.le_refl _) (by simp) ?_; (case hd => rfl); (case hg => rfl); (case hr => first | (go_simp; done) | (go_simp; rfl)); (case hp => exact (Reps.c2 (show Kd.M k32 _ _ _ (⟨(⟨#[]⟩ : ByteArray), (⟨#[120]⟩ : ByteArray)⟩ : S32) [.string (⟨#[]⟩ : ByteArray), .string (⟨#[120]⟩ : ByteArray)] from (k32_mkM _ _ _ (⟨(⟨#[]⟩ : ByteArray), (⟨#[120]⟩ : ByteArray)⟩ : S32) )) (Reps.none _ _))); intro v112 w46 ho47 hb hg_ hnew_; clear hg_ hnew_; (first | rw [← Ny111.out] at ho47 | (simp only [Int.reduceToNat] at ho47; rw [← Ny111.out] at ho47)); have n0_ := Aside0.mk (Kd.R_elder' (by (with_reducible repeat (first | apply Kd.R_alloc | apply Kd.R_drewN | apply Kd.R_drew)); exact HO105.out) (Kd.R_base ho47) hb); have n1_ := Aside0.mk (Kd.R_elder' (by (with_reducible repeat (first | apply Kd.R_alloc | apply Kd.R_drewN | apply Kd.R_drew)); exact HO108.out) (Kd.R_base ho47) hb); have n2_ := Aside0.mk (Kd.R_lower (Kd.R_new' (Kd.R_new' ho47 (Kd.R_lt (by (with_reducible repeat (first | apply Kd.R_alloc | apply Kd.R_drewN | apply Kd.R_drew)); exact HO105.out))) (Kd.R_lt (by (with_reducible repeat (first | apply Kd.R_alloc | apply Kd.R_drewN | apply Kd.R_drew)); exact HO108.out))) (below_size (by repeat (first | (with_reducible first | exact HB.out | apply below_alloc | apply pw_below_drewN | apply below_drew1) | exact HB.out)))); have n3_ := Aside0.mk (below_step (by repeat (first | (with_reducible first | exact HB.out | apply below_alloc | apply pw_below_drewN | apply below_drew1) | exact HB.out)) hb); clear HO105; clear HO108; clear HB; have HO105 := n0_; have HO108 := n1_; have HO113 := n2_; have HB := n3_; clear n0_ n1_ n2_ n3_; clear hb ho47; obtain ⟨Ao48, co48, eo48⟩ := Kd.R_slice HO113.out; subst eo48) | ((with_reducible refine gate_callee (f := 16) rfl ?_); refine goesL_ (some 18) rfl rfl Tryz.func16 (by kernel_rfl) rfl #[.slice Ao48 y111.length co48] rfl (by (try simp only [List.map_toArray, List.map_cons, List.map_nil]); first | done | rfl | (simp only [List.length_drop, List.length_take]; rfl)) ?_; (with_reducible refine (addr_Write.calls _ _ y111 t114 t115 _ ?side1 ?side2 ?sideGl A3.out).mono ?_); (case sideGl => exact HGl.out.below (by repeat (first | (with_reducible first | exact HB.out | apply below_alloc | apply pw_below_drewN | apply below_drew1) | exact HB.out))); (case side1 => repeat (first | exact (Kd.R_reads' HO113.out).2.2 | (with_reducible refine Kd.C_alloc ?_ _) | (with_reducible refine Kd.C_drewN ?_ _) | (with_reducible refine Kd.C_drew ?_))); (case side2 => exact (Kd.R_reads' HO113.out).2.1); rintro e w49 ⟨rfl, hb⟩; refine ⟨_, rfl, ?_⟩; have n0_ := Aside0.mk (Kd.R_below (by (with_reducible repeat (first | apply Kd.R_alloc | apply Kd.R_drewN | apply Kd.R_drew)); exact HO105.out) hb); have n1_ := Aside0.mk (Kd.R_below (by (with_reducible repeat (first | apply Kd.R_alloc | apply Kd.R_drewN | apply Kd.R_drew)); exact HO108.out) hb); have n2_ := Aside0.mk (Kd.R_below (by (with_reducible repeat (first | apply Kd.R_alloc | apply Kd.R_drewN | apply Kd.R_drew)); exact HO113.out) hb); have n3_ := Aside0.mk (below_step (by repeat (first | (with_reducible first | exact HB.out | apply below_alloc | apply pw_below_drewN | apply below_drew1) | exact HB.out)) hb); clear HO105; clear HO108; clear HO113; clear HB; have HO105 := n0_; have HO108 := n1_; have HO113 := n2_; have HB := n3_; clear n0_ n1_ n2_ n3_; (try clear hb); (try clear hb2); (try clear hk); (try clear hi)) | ((with_reducible refine gate_dst (N := 26) rfl ?_); refine Kd.R_lit k32 _ 32 ?hg (N := 26) ?hd (xs := ([(⟨(⟨#[65, 44, 32, 34, 66]⟩ : ByteArray), (⟨#[97, 64, 98]⟩ : ByteArray)⟩ : S32), (⟨(⟨#[67, 32, 40, 120, 41]⟩ : ByteArray), (⟨#[99, 64, 100]⟩ : ByteArray)⟩ : S32), (⟨(⟨#[68]⟩ : ByteArray), (⟨#[]⟩ : ByteArray)⟩ : S32), (⟨(⟨#[]⟩ : ByteArray), (⟨#[101, 64, 102]⟩ : ByteArray)⟩ : S32)] : List (S32))) (inner := [.string (⟨#[65, 44, 32, 34, 66]⟩ : ByteArray), .string (⟨#[97, 64, 98]⟩ : ByteArray), .string (⟨#[67, 32, 40, 120, 41]⟩ : ByteArray), .string (⟨#[99, 64, 100]⟩ : ByteArray), .string (⟨#[68]⟩ : ByteArray), .string (⟨#[]⟩ : ByteArray), .string (⟨#[]⟩ : ByteArray), .string (⟨#[101, 64, 102]⟩ : ByteArray)]) (ok := fun _ => True) (okp := fun _ => True) ?hr ?hp (fun _ hk => hk) trivial (Below.refl _ _) (Nat.le_refl _) (by simp) ?_; (case hd => rfl); (case hg => rfl); (case hr => first | (go_simp; done) | (go_simp; rfl)); (case hp => exact (Reps.c2 (show Kd.M k32 _ _ _ (⟨(⟨#[65, 44, 32, 34, 66]⟩ : ByteArray), (⟨#[97, 64, 98]⟩ : ByteArray)⟩ : S32) [.string (⟨#[65, 44, 32, 34, 66]⟩ : ByteArray), .string (⟨#[97, 64, 98]⟩ : ByteArray)] from (k32_mkM _ _ _ (⟨(⟨#[65, 44, 32, 34, 66]⟩ : ByteArray), (⟨#[97, 64, 98]⟩ : ByteArray)⟩ : S32) )) (Reps.c2 (show Kd.M k32 _ _ _ (⟨(⟨#[67, 32, 40, 120, 41]⟩ : ByteArray), (⟨#[99, 64, 100]⟩ : ByteArray)⟩ : S32) [.string (⟨#[67, 32, 40, 120, 41]⟩ : ByteArray), .string (⟨#[99, 64, 100]⟩ : ByteArray)] from (k32_mkM _ _ _ (⟨(⟨#[67, 32, 40, 120, 41]⟩ : ByteArray), (⟨#[99, 64, 100]⟩ : ByteArray)⟩ : S32) )) (Reps.c2 (show Kd.M k32 _ _ _ (⟨(⟨#[68]⟩ : ByteArray), (⟨#[]⟩ : ByteArray)⟩ : S32) [.string (⟨#[68]⟩ : ByteArray), .string (⟨#[]⟩ : ByteArray)] from (k32_mkM _ _ _ (⟨(⟨#[68]⟩ : ByteArray), (⟨#[]⟩ : ByteArray)⟩ : S32) )) (Reps.c2 (show Kd.M k32 _ _ _ (⟨(⟨#[]⟩ : ByteArray), (⟨#[101, 64, 102]⟩ : ByteArray)⟩ : S32) [.string (⟨#[]⟩ : ByteArray), .string (⟨#[101, 64, 102]⟩ : ByteArray)] from (k32_mkM _ _ _ (⟨(⟨#[]⟩ : ByteArray), (⟨#[101, 64, 102]⟩ : ByteArray)⟩ : S32) )) (Reps.none _ _)))))); intro v117 w50 ho51 hb hg_ hnew_; clear hg_ hnew_; (first | rw [← Ny116.out] at ho51 | (simp only [Int.reduceToNat] at ho51; rw [← Ny116.out] at ho51)); have n0_ := Aside0.mk (Kd.R_elder' (by (with_reducible repeat (first | apply Kd.R_alloc | apply Kd.R_drewN | apply Kd.R_drew)); exact HO105.out) (Kd.R_base ho51) hb); have n1_ := Aside0.mk (Kd.R_elder' (by (with_reducible repeat (first | apply Kd.R_alloc | apply Kd.R_drewN | apply Kd.R_drew)); exact HO108.out) (Kd.R_base ho51) hb); have n2_ := Aside0.mk (Kd.R_elder' (by (with_reducible repeat (first | apply Kd.R_alloc | apply Kd.R_drewN | apply Kd.R_drew)); exact HO113.out) (Kd.R_base ho51) hb); have n3_ := Aside0.mk (Kd.R_lower (Kd.R_new' (Kd.R_new' (Kd.R_new' ho51 (Kd.R_lt (by (with_reducible repeat (first | apply Kd.R_alloc | apply Kd.R_drewN | apply Kd.R_drew)); exact HO105.out))) (Kd.R_lt (by (with_reducible repeat (first | apply Kd.R_alloc | apply Kd.R_drewN | apply Kd.R_drew)); exact HO108.out))) (Kd.R_lt (by (with_reducible repeat (first | apply Kd.R_alloc | apply Kd.R_drewN | apply Kd.R_drew)); exact HO113.out))) (below_size (by repeat (first | (with_reducible first | exact HB.out | apply below_alloc | apply pw_below_drewN | apply below_drew1) | exact HB.out)))); have n4_ := Aside0.mk (below_step (by repeat (first | (with_reducible first | exact HB.out | apply below_alloc | apply pw_below_drewN | apply below_drew1) | exact HB.out)) hb); clear HO105; clear HO108; clear HO113; clear HB; have HO105 := n0_; have HO108 := n1_; have HO113 := n2_; have HO118 := n3_; have HB := n4_; clear n0_ n1_ n2_ n3_ n4_; clear hb ho51; obtain ⟨Ao52, co52, eo52⟩ := Kd.R_slice HO105.out; subst eo52; obtain ⟨Ao53, co53, eo53⟩ := Kd.R_slice HO118.out; subst eo53) | ((with_reducible refine gate_callee (f := 10) rfl ?_); refine goesL_ (some 27) rfl rfl Tryz.func10 (by kernel_rfl) rfl #[.slice Ao52 t103.length co52, .slice Ao53 y116.length co53] rfl (by (try simp only [List.map_toArray, List.map_cons, List.map_nil]); first | done | rfl | (simp only [List.length_drop, List.length_take]; rfl)) ?_; (with_reducible refine (muslinref08_Same.calls k _ _ t103 _ _ y116 true _ ?side1 ?side2 ?side3 ?side4 A4.out).mono ?_); (case side1 => repeat (first | exact (Kd.R_reads' HO105.out).2.2 | (with_reducible refine Kd.C_alloc ?_ _) | (with_reducible refine Kd.C_drewN ?_ _) | (with_reducible refine Kd.C_drew ?_))); (case side2 => exact (Kd.R_reads' HO105.out).2.1); (case side3 => repeat (first | exact (Kd.R_reads' HO118.out).2.2 | (with_reducible refine Kd.C_alloc ?_ _) | (with_reducible refine Kd.C_drewN ?_ _) | (with_reducible refine Kd.C_drew ?_))); (case side4 => exact (Kd.R_reads' HO118.out).2.1); rintro e w' ⟨rfl, ⟨nd, rfl⟩⟩; refine ⟨_, rfl, ?_⟩))
    go_ret
    exact ⟨by first | rfl | (simp [errW_none, errW_some] <;> rfl) | (simp [*, errW_none, errW_some] <;> rfl), by repeat (first | (with_reducible first | exact HB.out | apply below_alloc | apply pw_below_drewN | apply below_drew1) | exact HB.out)⟩
  rw [if_pos c8] at H; have c8b0 : (t115 == 1) = true := beq_iff_eq.mpr c8; have c8b1 : (t115 != 1) = false := bne_eq_false_iff_eq.mpr c8; clear c8; replace H := Option.bind_eq_some_iff.mp H; obtain ⟨t120, A90, H⟩ := H; replace H : (if t120 = true then ((addr_Good.f (⟨#[97, 64]⟩ : ByteArray)).bind fun t121 => (some (!t121))) else (some false)) = some r := H; have A9 := Aside0.mk A90; clear A90
  by_cases c10 : t120 = true
  case neg =>
    replace c10 := Bool.eq_false_iff.mpr c10; subst c10
    have H1 : (some false) = some r := by rw [if_neg (show ¬ (false = true) by decide)] at H; exact H
    clear H; have H := H1; clear H1; obtain rfl := Option.some.inj H
    go_enter Tryz.func9, Tryz.ntmps9
    go_wp2_with (first | ((with_reducible refine gate_callee (f := 11) rfl ?_); refine goesL_ (some 6) rfl rfl Tryz.func11 (by kernel_rfl) rfl #[.string (⟨#[34, 65, 44, 32, 92, 34, 66, 34, 32, 60, 97, 64, 98, 62, 44, 32, 99, 64, 100, 32, 40, 67, 32, 40, 120, 41, 41, 44, 32, 61, 63, 97, 115, 99, 105, 105, 63, 81, 63, 68, 63, 61, 32, 60, 98, 97, 100, 62, 59, 32, 101, 64, 102, 44, 44]⟩ : ByteArray)] rfl (by (try simp only [List.map_toArray, List.map_cons, List.map_nil]); first | done | rfl | (simp only [List.length_drop, List.length_take]; rfl)) ?_; (with_reducible refine (addr_Parse.calls (⟨#[34, 65, 44, 32, 92, 34, 66, 34, 32, 60, 97, 64, 98, 62, 44, 32, 99, 64, 100, 32, 40, 67, 32, 40, 120, 41, 41, 44, 32, 61, 63, 97, 115, 99, 105, 105, 63, 81, 63, 68, 63, 61, 32, 60, 98, 97, 100, 62, 59, 32, 101, 64, 102, 44, 44]⟩ : ByteArray) t103 _ ?sideGl A1.out).mono ?_); (case sideGl => exact HGl.out.below (by repeat (first | (with_reducible first | exact HB.out | apply below_alloc | apply pw_below_drewN | apply below_drew1) | exact HB.out))); rintro e w27 ⟨v104, rfl, ho0, hb⟩; refine ⟨_, rfl, ?_⟩; have n0_ := Aside0.mk (Kd.R_lower ho0 (below_size (by repeat (first | (with_reducible first | exact HB.out | apply below_alloc | apply pw_below_drewN | apply below_drew1) | exact HB.out)))); have n1_ := Aside0.mk (below_step (by repeat (first | (with_reducible first | exact HB.out | apply below_alloc | apply pw_below_drewN | apply below_drew1) | exact HB.out)) hb); clear HB; have HO105 := n0_; have HB := n1_; clear n0_ n1_; (try clear hb); (try clear hb2); (try clear hk); (try clear hi); (try clear ho0)) | ((with_reducible refine gate_dst (N := 11) rfl ?_); refine Kd.R_lit k32 _ 32 ?hg (N := 11) ?hd (xs := ([(⟨(⟨#[65, 32, 34]⟩ : ByteArray), (⟨#[97, 64, 98]⟩ : ByteArray)⟩ : S32), (⟨(⟨#[]⟩ : ByteArray), (⟨#[99, 64, 100]⟩ : ByteArray)⟩ : S32), (⟨(⟨#[195, 169]⟩ : ByteArray), (⟨#[101, 64, 102]⟩ : ByteArray)⟩ : S32)] : List (S32))) (inner := [.string (⟨#[65, 32, 34]⟩ : ByteArray), .string (⟨#[97, 64, 98]⟩ : ByteArray), .string (⟨#[]⟩ : ByteArray), .string (⟨#[99, 64, 100]⟩ : ByteArray), .string (⟨#[195, 169]⟩ : ByteArray), .string (⟨#[101, 64, 102]⟩ : ByteArray)]) (ok := fun _ => True) (okp := fun _ => True) ?hr ?hp (fun _ hk => hk) trivial (Below.refl _ _) (Nat.le_refl _) (by simp) ?_; (case hd => rfl); (case hg => rfl); (case hr => first | (go_simp; done) | (go_simp; rfl)); (case hp => exact (Reps.c2 (show Kd.M k32 _ _ _ (⟨(⟨#[65, 32, 34]⟩ : ByteArray), (⟨#[97, 64, 98]⟩ : ByteArray)⟩ : S32) [.string (⟨#[65, 32, 34]⟩ : ByteArray), .string (⟨#[97, 64, 98]⟩ : ByteArray)] from (k32_mkM _ _ _ (⟨(⟨#[65, 32, 34]⟩ : ByteArray), (⟨#[97, 64, 98]⟩ : ByteArray)⟩ : S32) )) (Reps.c2 (show Kd.M k32 _ _ _ (⟨(⟨#[]⟩ : ByteArray), (⟨#[99, 64, 100]⟩ : ByteArray)⟩ : S32) [.string (⟨#[]⟩ : ByteArray), .string (⟨#[99, 64, 100]⟩ : ByteArray)] from (k32_mkM _ _ _ (⟨(⟨#[]⟩ : ByteArray), (⟨#[99, 64, 100]⟩ : ByteArray)⟩ : S32) )) (Reps.c2 (show Kd.M k32 _ _ _ (⟨(⟨#[195, 169]⟩ : ByteArray), (⟨#[101, 64, 102]⟩ : ByteArray)⟩ : S32) [.string (⟨#[195, 169]⟩ : ByteArray), .string (⟨#[101, 64, 102]⟩ : ByteArray)] from (k32_mkM _ _ _ (⟨(⟨#[195, 169]⟩ : ByteArray), (⟨#[101, 64, 102]⟩ : ByteArray)⟩ : S32) )) (Reps.none _ _))))); intro v107 w28 ho29 hb hg_ hnew_; clear hg_ hnew_; (first | rw [← Ny106.out] at ho29 | (simp only [Int.reduceToNat] at ho29; rw [← Ny106.out] at ho29)); have n0_ := Aside0.mk (Kd.R_elder' (by (with_reducible repeat (first | apply Kd.R_alloc | apply Kd.R_drewN | apply Kd.R_drew)); exact HO105.out) (Kd.R_base ho29) hb); have n1_ := Aside0.mk (Kd.R_lower (Kd.R_new' ho29 (Kd.R_lt (by (with_reducible repeat (first | apply Kd.R_alloc | apply Kd.R_drewN | apply Kd.R_drew)); exact HO105.out))) (below_size (by repeat (first | (with_reducible first | exact HB.out | apply below_alloc | apply pw_below_drewN | apply below_drew1) | exact HB.out)))); have n2_ := Aside0.mk (below_step (by repeat (first | (with_reducible first | exact HB.out | apply below_alloc | apply pw_below_drewN | apply below_drew1) | exact HB.out)) hb); clear HO105; clear HB; have HO105 := n0_; have HO108 := n1_; have HB := n2_; clear n0_ n1_ n2_; clear hb ho29; obtain ⟨Ao30, co30, eo30⟩ := Kd.R_slice HO108.out; subst eo30) | ((with_reducible refine gate_callee (f := 16) rfl ?_); refine goesL_ (some 12) rfl rfl Tryz.func16 (by kernel_rfl) rfl #[.slice Ao30 y106.length co30] rfl (by (try simp only [List.map_toArray, List.map_cons, List.map_nil]); first | done | rfl | (simp only [List.length_drop, List.length_take]; rfl)) ?_; (with_reducible refine (addr_Write.calls _ _ y106 t109 t110 _ ?side1 ?side2 ?sideGl A2.out).mono ?_); (case sideGl => exact HGl.out.below (by repeat (first | (with_reducible first | exact HB.out | apply below_alloc | apply pw_below_drewN | apply below_drew1) | exact HB.out))); (case side1 => repeat (first | exact (Kd.R_reads' HO108.out).2.2 | (with_reducible refine Kd.C_alloc ?_ _) | (with_reducible refine Kd.C_drewN ?_ _) | (with_reducible refine Kd.C_drew ?_))); (case side2 => exact (Kd.R_reads' HO108.out).2.1); rintro e w31 ⟨rfl, hb⟩; refine ⟨_, rfl, ?_⟩; have n0_ := Aside0.mk (Kd.R_below (by (with_reducible repeat (first | apply Kd.R_alloc | apply Kd.R_drewN | apply Kd.R_drew)); exact HO105.out) hb); have n1_ := Aside0.mk (Kd.R_below (by (with_reducible repeat (first | apply Kd.R_alloc | apply Kd.R_drewN | apply Kd.R_drew)); exact HO108.out) hb); have n2_ := Aside0.mk (below_step (by repeat (first | (with_reducible first | exact HB.out | apply below_alloc | apply pw_below_drewN | apply below_drew1) | exact HB.out)) hb); clear HO105; clear HO108; clear HB; have HO105 := n0_; have HO108 := n1_; have HB := n2_; clear n0_ n1_ n2_; (try clear hb); (try clear hb2); (try clear hk); (try clear hi)) | ((with_reducible refine gate_dst (N := 17) rfl ?_); refine Kd.R_lit k32 _ 32 ?hg (N := 17) ?hd (xs := ([(⟨(⟨#[]⟩ : ByteArray), (⟨#[120]⟩ : ByteArray)⟩ : S32)] : List (S32))) (inner := [.string (⟨#[]⟩ : ByteArray), .string (⟨#[120]⟩ : ByteArray)]) (ok := fun _ => True) (okp := fun _ => True) ?hr ?hp (fun _ hk => hk) trivial (Below.refl _ _) (Nat.le_refl _) (by simp) ?_; (case hd => rfl); (case hg => rfl); (case hr => first | (go_simp; done) | (go_simp; rfl)); (case hp => exact (Reps.c2 (show Kd.M k32 _ _ _ (⟨(⟨#[]⟩ : ByteArray), (⟨#[120]⟩ : ByteArray)⟩ : S32) [.string (⟨#[]⟩ : ByteArray), .string (⟨#[120]⟩ : ByteArray)] from (k32_mkM _ _ _ (⟨(⟨#[]⟩ : ByteArray), (⟨#[120]⟩ : ByteArray)⟩ : S32) )) (Reps.none _ _))); intro v112 w32 ho33 hb hg_ hnew_; clear hg_ hnew_; (first | rw [← Ny111.out] at ho33 | (simp only [Int.reduceToNat] at ho33; rw [← Ny111.out] at ho33)); have n0_ := Aside0.mk (Kd.R_elder' (by (with_reducible repeat (first | apply Kd.R_alloc | apply Kd.R_drewN | apply Kd.R_drew)); exact HO105.out) (Kd.R_base ho33) hb); have n1_ := Aside0.mk (Kd.R_elder' (by (with_reducible repeat (first | apply Kd.R_alloc | apply Kd.R_drewN | apply Kd.R_drew)); exact HO108.out) (Kd.R_base ho33) hb); have n2_ := Aside0.mk (Kd.R_lower (Kd.R_new' (Kd.R_new' ho33 (Kd.R_lt (by (with_reducible repeat (first | apply Kd.R_alloc | apply Kd.R_drewN | apply Kd.R_drew)); exact HO105.out))) (Kd.R_lt (by (with_reducible repeat (first | apply Kd.R_alloc | apply Kd.R_drewN | apply Kd.R_drew)); exact HO108.out))) (below_size (by repeat (first | (with_reducible first | exact HB.out | apply below_alloc | apply pw_below_drewN | apply below_drew1) | exact HB.out)))); have n3_ := Aside0.mk (below_step (by repeat (first | (with_reducible first | exact HB.out | apply below_alloc | apply pw_below_drewN | apply below_drew1) | exact HB.out)) hb); clear HO105; clear HO108; clear HB; have HO105 := n0_; have HO108 := n1_; have HO113 := n2_; have HB := n3_; clear n0_ n1_ n2_ n3_; clear hb ho33; obtain ⟨Ao34, co34, eo34⟩ := Kd.R_slice HO113.out; subst eo34) | ((with_reducible refine gate_callee (f := 16) rfl ?_); refine goesL_ (some 18) rfl rfl Tryz.func16 (by kernel_rfl) rfl #[.slice Ao34 y111.length co34] rfl (by (try simp only [List.map_toArray, List.map_cons, List.map_nil]); first | done | rfl | (simp only [List.length_drop, List.length_take]; rfl)) ?_; (with_reducible refine (addr_Write.calls _ _ y111 t114 t115 _ ?side1 ?side2 ?sideGl A3.out).mono ?_); (case sideGl => exact HGl.out.below (by repeat (first | (with_reducible first | exact HB.out | apply below_alloc | apply pw_below_drewN | apply below_drew1) | exact HB.out))); (case side1 => repeat (first | exact (Kd.R_reads' HO113.out).2.2 | (with_reducible refine Kd.C_alloc ?_ _) | (with_reducible refine Kd.C_drewN ?_ _) | (with_reducible refine Kd.C_drew ?_))); (case side2 => exact (Kd.R_reads' HO113.out).2.1); rintro e w35 ⟨rfl, hb⟩; refine ⟨_, rfl, ?_⟩; have n0_ := Aside0.mk (Kd.R_below (by (with_reducible repeat (first | apply Kd.R_alloc | apply Kd.R_drewN | apply Kd.R_drew)); exact HO105.out) hb); have n1_ := Aside0.mk (Kd.R_below (by (with_reducible repeat (first | apply Kd.R_alloc | apply Kd.R_drewN | apply Kd.R_drew)); exact HO108.out) hb); have n2_ := Aside0.mk (Kd.R_below (by (with_reducible repeat (first | apply Kd.R_alloc | apply Kd.R_drewN | apply Kd.R_drew)); exact HO113.out) hb); have n3_ := Aside0.mk (below_step (by repeat (first | (with_reducible first | exact HB.out | apply below_alloc | apply pw_below_drewN | apply below_drew1) | exact HB.out)) hb); clear HO105; clear HO108; clear HO113; clear HB; have HO105 := n0_; have HO108 := n1_; have HO113 := n2_; have HB := n3_; clear n0_ n1_ n2_ n3_; (try clear hb); (try clear hb2); (try clear hk); (try clear hi)) | ((with_reducible refine gate_dst (N := 26) rfl ?_); refine Kd.R_lit k32 _ 32 ?hg (N := 26) ?hd (xs := ([(⟨(⟨#[65, 44, 32, 34, 66]⟩ : ByteArray), (⟨#[97, 64, 98]⟩ : ByteArray)⟩ : S32), (⟨(⟨#[67, 32, 40, 120, 41]⟩ : ByteArray), (⟨#[99, 64, 100]⟩ : ByteArray)⟩ : S32), (⟨(⟨#[68]⟩ : ByteArray), (⟨#[]⟩ : ByteArray)⟩ : S32), (⟨(⟨#[]⟩ : ByteArray), (⟨#[101, 64, 102]⟩ : ByteArray)⟩ : S32)] : List (S32))) (inner := [.string (⟨#[65, 44, 32, 34, 66]⟩ : ByteArray), .string (⟨#[97, 64, 98]⟩ : ByteArray), .string (⟨#[67, 32, 40, 120, 41]⟩ : ByteArray), .string (⟨#[99, 64, 100]⟩ : ByteArray), .string (⟨#[68]⟩ : ByteArray), .string (⟨#[]⟩ : ByteArray), .string (⟨#[]⟩ : ByteArray), .string (⟨#[101, 64, 102]⟩ : ByteArray)]) (ok := fun _ => True) (okp := fun _ => True) ?hr ?hp (fun _ hk => hk) trivial (Below.refl _ _) (Nat.le_refl _) (by simp) ?_; (case hd => rfl); (case hg => rfl); (case hr => first | (go_simp; done) | (go_simp; rfl)); (case hp => exact (Reps.c2 (show Kd.M k32 _ _ _ (⟨(⟨#[65, 44, 32, 34, 66]⟩ : ByteArray), (⟨#[97, 64, 98]⟩ : ByteArray)⟩ : S32) [.string (⟨#[65, 44, 32, 34, 66]⟩ : ByteArray), .string (⟨#[97, 64, 98]⟩ : ByteArray)] from (k32_mkM _ _ _ (⟨(⟨#[65, 44, 32, 34, 66]⟩ : ByteArray), (⟨#[97, 64, 98]⟩ : ByteArray)⟩ : S32) )) (Reps.c2 (show Kd.M k32 _ _ _ (⟨(⟨#[67, 32, 40, 120, 41]⟩ : ByteArray), (⟨#[99, 64, 100]⟩ : ByteArray)⟩ : S32) [.string (⟨#[67, 32, 40, 120, 41]⟩ : ByteArray), .string (⟨#[99, 64, 100]⟩ : ByteArray)] from (k32_mkM _ _ _ (⟨(⟨#[67, 32, 40, 120, 41]⟩ : ByteArray), (⟨#[99, 64, 100]⟩ : ByteArray)⟩ : S32) )) (Reps.c2 (show Kd.M k32 _ _ _ (⟨(⟨#[68]⟩ : ByteArray), (⟨#[]⟩ : ByteArray)⟩ : S32) [.string (⟨#[68]⟩ : ByteArray), .string (⟨#[]⟩ : ByteArray)] from (k32_mkM _ _ _ (⟨(⟨#[68]⟩ : ByteArray), (⟨#[]⟩ : ByteArray)⟩ : S32) )) (Reps.c2 (show Kd.M k32 _ _ _ (⟨(⟨#[]⟩ : ByteArray), (⟨#[101, 64, 102]⟩ : ByteArray)⟩ : S32) [.string (⟨#[]⟩ : ByteArray), .string (⟨#[101, 64, 102]⟩ : ByteArray)] from (k32_mkM _ _ _ (⟨(⟨#[]⟩ : ByteArray), (⟨#[101, 64, 102]⟩ : ByteArray)⟩ : S32) )) (Reps.none _ _)))))); intro v117 w36 ho37 hb hg_ hnew_; clear hg_ hnew_; (first | rw [← Ny116.out] at ho37 | (simp only [Int.reduceToNat] at ho37; rw [← Ny116.out] at ho37)); have n0_ := Aside0.mk (Kd.R_elder' (by (with_reducible repeat (first | apply Kd.R_alloc | apply Kd.R_drewN | apply Kd.R_drew)); exact HO105.out) (Kd.R_base ho37) hb); have n1_ := Aside0.mk (Kd.R_elder' (by (with_reducible repeat (first | apply Kd.R_alloc | apply Kd.R_drewN | apply Kd.R_drew)); exact HO108.out) (Kd.R_base ho37) hb); have n2_ := Aside0.mk (Kd.R_elder' (by (with_reducible repeat (first | apply Kd.R_alloc | apply Kd.R_drewN | apply Kd.R_drew)); exact HO113.out) (Kd.R_base ho37) hb); have n3_ := Aside0.mk (Kd.R_lower (Kd.R_new' (Kd.R_new' (Kd.R_new' ho37 (Kd.R_lt (by (with_reducible repeat (first | apply Kd.R_alloc | apply Kd.R_drewN | apply Kd.R_drew)); exact HO105.out))) (Kd.R_lt (by (with_reducible repeat (first | apply Kd.R_alloc | apply Kd.R_drewN | apply Kd.R_drew)); exact HO108.out))) (Kd.R_lt (by (with_reducible repeat (first | apply Kd.R_alloc | apply Kd.R_drewN | apply Kd.R_drew)); exact HO113.out))) (below_size (by repeat (first | (with_reducible first | exact HB.out | apply below_alloc | apply pw_below_drewN | apply below_drew1) | exact HB.out)))); have n4_ := Aside0.mk (below_step (by repeat (first | (with_reducible first | exact HB.out | apply below_alloc | apply pw_below_drewN | apply below_drew1) | exact HB.out)) hb); clear HO105; clear HO108; clear HO113; clear HB; have HO105 := n0_; have HO108 := n1_; have HO113 := n2_; have HO118 := n3_; have HB := n4_; clear n0_ n1_ n2_ n3_ n4_; clear hb ho37; obtain ⟨Ao38, co38, eo38⟩ := Kd.R_slice HO105.out; subst eo38; obtain ⟨Ao39, co39, eo39⟩ := Kd.R_slice HO118.out; subst eo39) | ((with_reducible refine gate_callee (f := 10) rfl ?_); refine goesL_ (some 27) rfl rfl Tryz.func10 (by kernel_rfl) rfl #[.slice Ao38 t103.length co38, .slice Ao39 y116.length co39] rfl (by (try simp only [List.map_toArray, List.map_cons, List.map_nil]); first | done | rfl | (simp only [List.length_drop, List.length_take]; rfl)) ?_; (with_reducible refine (muslinref08_Same.calls k _ _ t103 _ _ y116 true _ ?side1 ?side2 ?side3 ?side4 A4.out).mono ?_); (case side1 => repeat (first | exact (Kd.R_reads' HO105.out).2.2 | (with_reducible refine Kd.C_alloc ?_ _) | (with_reducible refine Kd.C_drewN ?_ _) | (with_reducible refine Kd.C_drew ?_))); (case side2 => exact (Kd.R_reads' HO105.out).2.1); (case side3 => repeat (first | exact (Kd.R_reads' HO118.out).2.2 | (with_reducible refine Kd.C_alloc ?_ _) | (with_reducible refine Kd.C_drewN ?_ _) | (with_reducible refine Kd.C_drew ?_))); (case side4 => exact (Kd.R_reads' HO118.out).2.1); rintro e w' ⟨rfl, ⟨nd, rfl⟩⟩; refine ⟨_, rfl, ?_⟩) | (go_at_call 13; (with_reducible refine (addr_Good.calls (⟨#[97, 64, 98]⟩ : ByteArray) false _ A9.out).mono ?_); rintro e w40 ⟨rfl, hb⟩; have n0_ := Aside0.mk (Kd.R_below (by (with_reducible repeat (first | apply Kd.R_alloc | apply Kd.R_drewN | apply Kd.R_drew)); exact HO105.out) hb); have n1_ := Aside0.mk (Kd.R_below (by (with_reducible repeat (first | apply Kd.R_alloc | apply Kd.R_drewN | apply Kd.R_drew)); exact HO108.out) hb); have n2_ := Aside0.mk (Kd.R_below (by (with_reducible repeat (first | apply Kd.R_alloc | apply Kd.R_drewN | apply Kd.R_drew)); exact HO113.out) hb); have n3_ := Aside0.mk (Kd.R_below (by (with_reducible repeat (first | apply Kd.R_alloc | apply Kd.R_drewN | apply Kd.R_drew)); exact HO118.out) hb); have n4_ := Aside0.mk (below_step (by repeat (first | (with_reducible first | exact HB.out | apply below_alloc | apply pw_below_drewN | apply below_drew1) | exact HB.out)) hb); clear HO105; clear HO108; clear HO113; clear HO118; clear HB; have HO105 := n0_; have HO108 := n1_; have HO113 := n2_; have HO118 := n3_; have HB := n4_; clear n0_ n1_ n2_ n3_ n4_; (try clear hb); (try clear hb2); (try clear hk); (try clear hi)))
    go_ret
    exact ⟨by first | rfl | (simp [errW_none, errW_some] <;> rfl) | (simp [*, errW_none, errW_some] <;> rfl), by repeat (first | (with_reducible first | exact HB.out | apply below_alloc | apply pw_below_drewN | apply below_drew1) | exact HB.out)⟩
  subst c10
  have H1 : ((addr_Good.f (⟨#[97, 64]⟩ : ByteArray)).bind fun t121 => (some (!t121))) = some r := by rw [if_pos rfl] at H; exact H
  clear H; have H := H1; clear H1; replace H := Option.bind_eq_some_iff.mp H; obtain ⟨t121, A110, H⟩ := H; replace H : (some (!t121)) = some r := H; have A11 := Aside0.mk A110; clear A110; obtain rfl := Option.some.inj H
  go_enter Tryz.func9, Tryz.ntmps9
  go_wp2_with (first | ((with_reducible refine gate_callee (f := 11) rfl ?_); refine goesL_ (some 6) rfl rfl Tryz.func11 (by kernel_rfl) rfl #[.string (⟨#[34, 65, 44, 32, 92, 34, 66, 34, 32, 60, 97, 64, 98, 62, 44, 32, 99, 64, 100, 32, 40, 67, 32, 40, 120, 41, 41, 44, 32, 61, 63, 97, 115, 99, 105, 105, 63, 81, 63, 68, 63, 61, 32, 60, 98, 97, 100, 62, 59, 32, 101, 64, 102, 44, 44]⟩ : ByteArray)] rfl (by (try simp only [List.map_toArray, List.map_cons, List.map_nil]); first | done | rfl | (simp only [List.length_drop, List.length_take]; rfl)) ?_; (with_reducible refine (addr_Parse.calls (⟨#[34, 65, 44, 32, 92, 34, 66, 34, 32, 60, 97, 64, 98, 62, 44, 32, 99, 64, 100, 32, 40, 67, 32, 40, 120, 41, 41, 44, 32, 61, 63, 97, 115, 99, 105, 105, 63, 81, 63, 68, 63, 61, 32, 60, 98, 97, 100, 62, 59, 32, 101, 64, 102, 44, 44]⟩ : ByteArray) t103 _ ?sideGl A1.out).mono ?_); (case sideGl => exact HGl.out.below (by repeat (first | (with_reducible first | exact HB.out | apply below_alloc | apply pw_below_drewN | apply below_drew1) | exact HB.out))); rintro e w12 ⟨v104, rfl, ho0, hb⟩; refine ⟨_, rfl, ?_⟩; have n0_ := Aside0.mk (Kd.R_lower ho0 (below_size (by repeat (first | (with_reducible first | exact HB.out | apply below_alloc | apply pw_below_drewN | apply below_drew1) | exact HB.out)))); have n1_ := Aside0.mk (below_step (by repeat (first | (with_reducible first | exact HB.out | apply below_alloc | apply pw_below_drewN | apply below_drew1) | exact HB.out)) hb); clear HB; have HO105 := n0_; have HB := n1_; clear n0_ n1_; (try clear hb); (try clear hb2); (try clear hk); (try clear hi); (try clear ho0)) | ((with_reducible refine gate_dst (N := 11) rfl ?_); refine Kd.R_lit k32 _ 32 ?hg (N := 11) ?hd (xs := ([(⟨(⟨#[65, 32, 34]⟩ : ByteArray), (⟨#[97, 64, 98]⟩ : ByteArray)⟩ : S32), (⟨(⟨#[]⟩ : ByteArray), (⟨#[99, 64, 100]⟩ : ByteArray)⟩ : S32), (⟨(⟨#[195, 169]⟩ : ByteArray), (⟨#[101, 64, 102]⟩ : ByteArray)⟩ : S32)] : List (S32))) (inner := [.string (⟨#[65, 32, 34]⟩ : ByteArray), .string (⟨#[97, 64, 98]⟩ : ByteArray), .string (⟨#[]⟩ : ByteArray), .string (⟨#[99, 64, 100]⟩ : ByteArray), .string (⟨#[195, 169]⟩ : ByteArray), .string (⟨#[101, 64, 102]⟩ : ByteArray)]) (ok := fun _ => True) (okp := fun _ => True) ?hr ?hp (fun _ hk => hk) trivial (Below.refl _ _) (Nat.le_refl _) (by simp) ?_; (case hd => rfl); (case hg => rfl); (case hr => first | (go_simp; done) | (go_simp; rfl)); (case hp => exact (Reps.c2 (show Kd.M k32 _ _ _ (⟨(⟨#[65, 32, 34]⟩ : ByteArray), (⟨#[97, 64, 98]⟩ : ByteArray)⟩ : S32) [.string (⟨#[65, 32, 34]⟩ : ByteArray), .string (⟨#[97, 64, 98]⟩ : ByteArray)] from (k32_mkM _ _ _ (⟨(⟨#[65, 32, 34]⟩ : ByteArray), (⟨#[97, 64, 98]⟩ : ByteArray)⟩ : S32) )) (Reps.c2 (show Kd.M k32 _ _ _ (⟨(⟨#[]⟩ : ByteArray), (⟨#[99, 64, 100]⟩ : ByteArray)⟩ : S32) [.string (⟨#[]⟩ : ByteArray), .string (⟨#[99, 64, 100]⟩ : ByteArray)] from (k32_mkM _ _ _ (⟨(⟨#[]⟩ : ByteArray), (⟨#[99, 64, 100]⟩ : ByteArray)⟩ : S32) )) (Reps.c2 (show Kd.M k32 _ _ _ (⟨(⟨#[195, 169]⟩ : ByteArray), (⟨#[101, 64, 102]⟩ : ByteArray)⟩ : S32) [.string (⟨#[195, 169]⟩ : ByteArray), .string (⟨#[101, 64, 102]⟩ : ByteArray)] from (k32_mkM _ _ _ (⟨(⟨#[195, 169]⟩ : ByteArray), (⟨#[101, 64, 102]⟩ : ByteArray)⟩ : S32) )) (Reps.none _ _))))); intro v107 w13 ho14 hb hg_ hnew_; clear hg_ hnew_; (first | rw [← Ny106.out] at ho14 | (simp only [Int.reduceToNat] at ho14; rw [← Ny106.out] at ho14)); have n0_ := Aside0.mk (Kd.R_elder' (by (with_reducible repeat (first | apply Kd.R_alloc | apply Kd.R_drewN | apply Kd.R_drew)); exact HO105.out) (Kd.R_base ho14) hb); have n1_ := Aside0.mk (Kd.R_lower (Kd.R_new' ho14 (Kd.R_lt (by (with_reducible repeat (first | apply Kd.R_alloc | apply Kd.R_drewN | apply Kd.R_drew)); exact HO105.out))) (below_size (by repeat (first | (with_reducible first | exact HB.out | apply below_alloc | apply pw_below_drewN | apply below_drew1) | exact HB.out)))); have n2_ := Aside0.mk (below_step (by repeat (first | (with_reducible first | exact HB.out | apply below_alloc | apply pw_below_drewN | apply below_drew1) | exact HB.out)) hb); clear HO105; clear HB; have HO105 := n0_; have HO108 := n1_; have HB := n2_; clear n0_ n1_ n2_; clear hb ho14; obtain ⟨Ao15, co15, eo15⟩ := Kd.R_slice HO108.out; subst eo15) | ((with_reducible refine gate_callee (f := 16) rfl ?_); refine goesL_ (some 12) rfl rfl Tryz.func16 (by kernel_rfl) rfl #[.slice Ao15 y106.length co15] rfl (by (try simp only [List.map_toArray, List.map_cons, List.map_nil]); first | done | rfl | (simp only [List.length_drop, List.length_take]; rfl)) ?_; (with_reducible refine (addr_Write.calls _ _ y106 t109 t110 _ ?side1 ?side2 ?sideGl A2.out).mono ?_); (case sideGl => exact HGl.out.below (by repeat (first | (with_reducible first | exact HB.out | apply below_alloc | apply pw_below_drewN | apply below_drew1) | exact HB.out))); (case side1 => repeat (first | exact (Kd.R_reads' HO108.out).2.2 | (with_reducible refine Kd.C_alloc ?_ _) | (with_reducible refine Kd.C_drewN ?_ _) | (with_reducible refine Kd.C_drew ?_))); (case side2 => exact (Kd.R_reads' HO108.out).2.1); rintro e w16 ⟨rfl, hb⟩; refine ⟨_, rfl, ?_⟩; have n0_ := Aside0.mk (Kd.R_below (by (with_reducible repeat (first | apply Kd.R_alloc | apply Kd.R_drewN | apply Kd.R_drew)); exact HO105.out) hb); have n1_ := Aside0.mk (Kd.R_below (by (with_reducible repeat (first | apply Kd.R_alloc | apply Kd.R_drewN | apply Kd.R_drew)); exact HO108.out) hb); have n2_ := Aside0.mk (below_step (by repeat (first | (with_reducible first | exact HB.out | apply below_alloc | apply pw_below_drewN | apply below_drew1) | exact HB.out)) hb); clear HO105; clear HO108; clear HB; have HO105 := n0_; have HO108 := n1_; have HB := n2_; clear n0_ n1_ n2_; (try clear hb); (try clear hb2); (try clear hk); (try clear hi)) | ((with_reducible refine gate_dst (N := 17) rfl ?_); refine Kd.R_lit k32 _ 32 ?hg (N := 17) ?hd (xs := ([(⟨(⟨#[]⟩ : ByteArray), (⟨#[120]⟩ : ByteArray)⟩ : S32)] : List (S32))) (inner := [.string (⟨#[]⟩ : ByteArray), .string (⟨#[120]⟩ : ByteArray)]) (ok := fun _ => True) (okp := fun _ => True) ?hr ?hp (fun _ hk => hk) trivial (Below.refl _ _) (Nat.le_refl _) (by simp) ?_; (case hd => rfl); (case hg => rfl); (case hr => first | (go_simp; done) | (go_simp; rfl)); (case hp => exact (Reps.c2 (show Kd.M k32 _ _ _ (⟨(⟨#[]⟩ : ByteArray), (⟨#[120]⟩ : ByteArray)⟩ : S32) [.string (⟨#[]⟩ : ByteArray), .string (⟨#[120]⟩ : ByteArray)] from (k32_mkM _ _ _ (⟨(⟨#[]⟩ : ByteArray), (⟨#[120]⟩ : ByteArray)⟩ : S32) )) (Reps.none _ _))); intro v112 w17 ho18 hb hg_ hnew_; clear hg_ hnew_; (first | rw [← Ny111.out] at ho18 | (simp only [Int.reduceToNat] at ho18; rw [← Ny111.out] at ho18)); have n0_ := Aside0.mk (Kd.R_elder' (by (with_reducible repeat (first | apply Kd.R_alloc | apply Kd.R_drewN | apply Kd.R_drew)); exact HO105.out) (Kd.R_base ho18) hb); have n1_ := Aside0.mk (Kd.R_elder' (by (with_reducible repeat (first | apply Kd.R_alloc | apply Kd.R_drewN | apply Kd.R_drew)); exact HO108.out) (Kd.R_base ho18) hb); have n2_ := Aside0.mk (Kd.R_lower (Kd.R_new' (Kd.R_new' ho18 (Kd.R_lt (by (with_reducible repeat (first | apply Kd.R_alloc | apply Kd.R_drewN | apply Kd.R_drew)); exact HO105.out))) (Kd.R_lt (by (with_reducible repeat (first | apply Kd.R_alloc | apply Kd.R_drewN | apply Kd.R_drew)); exact HO108.out))) (below_size (by repeat (first | (with_reducible first | exact HB.out | apply below_alloc | apply pw_below_drewN | apply below_drew1) | exact HB.out)))); have n3_ := Aside0.mk (below_step (by repeat (first | (with_reducible first | exact HB.out | apply below_alloc | apply pw_below_drewN | apply below_drew1) | exact HB.out)) hb); clear HO105; clear HO108; clear HB; have HO105 := n0_; have HO108 := n1_; have HO113 := n2_; have HB := n3_; clear n0_ n1_ n2_ n3_; clear hb ho18; obtain ⟨Ao19, co19, eo19⟩ := Kd.R_slice HO113.out; subst eo19) | ((with_reducible refine gate_callee (f := 16) rfl ?_); refine goesL_ (some 18) rfl rfl Tryz.func16 (by kernel_rfl) rfl #[.slice Ao19 y111.length co19] rfl (by (try simp only [List.map_toArray, List.map_cons, List.map_nil]); first | done | rfl | (simp only [List.length_drop, List.length_take]; rfl)) ?_; (with_reducible refine (addr_Write.calls _ _ y111 t114 t115 _ ?side1 ?side2 ?sideGl A3.out).mono ?_); (case sideGl => exact HGl.out.below (by repeat (first | (with_reducible first | exact HB.out | apply below_alloc | apply pw_below_drewN | apply below_drew1) | exact HB.out))); (case side1 => repeat (first | exact (Kd.R_reads' HO113.out).2.2 | (with_reducible refine Kd.C_alloc ?_ _) | (with_reducible refine Kd.C_drewN ?_ _) | (with_reducible refine Kd.C_drew ?_))); (case side2 => exact (Kd.R_reads' HO113.out).2.1); rintro e w20 ⟨rfl, hb⟩; refine ⟨_, rfl, ?_⟩; have n0_ := Aside0.mk (Kd.R_below (by (with_reducible repeat (first | apply Kd.R_alloc | apply Kd.R_drewN | apply Kd.R_drew)); exact HO105.out) hb); have n1_ := Aside0.mk (Kd.R_below (by (with_reducible repeat (first | apply Kd.R_alloc | apply Kd.R_drewN | apply Kd.R_drew)); exact HO108.out) hb); have n2_ := Aside0.mk (Kd.R_below (by (with_reducible repeat (first | apply Kd.R_alloc | apply Kd.R_drewN | apply Kd.R_drew)); exact HO113.out) hb); have n3_ := Aside0.mk (below_step (by repeat (first | (with_reducible first | exact HB.out | apply below_alloc | apply pw_below_drewN | apply below_drew1) | exact HB.out)) hb); clear HO105; clear HO108; clear HO113; clear HB; have HO105 := n0_; have HO108 := n1_; have HO113 := n2_; have HB := n3_; clear n0_ n1_ n2_ n3_; (try clear hb); (try clear hb2); (try clear hk); (try clear hi)) | ((with_reducible refine gate_dst (N := 26) rfl ?_); refine Kd.R_lit k32 _ 32 ?hg (N := 26) ?hd (xs := ([(⟨(⟨#[65, 44, 32, 34, 66]⟩ : ByteArray), (⟨#[97, 64, 98]⟩ : ByteArray)⟩ : S32), (⟨(⟨#[67, 32, 40, 120, 41]⟩ : ByteArray), (⟨#[99, 64, 100]⟩ : ByteArray)⟩ : S32), (⟨(⟨#[68]⟩ : ByteArray), (⟨#[]⟩ : ByteArray)⟩ : S32), (⟨(⟨#[]⟩ : ByteArray), (⟨#[101, 64, 102]⟩ : ByteArray)⟩ : S32)] : List (S32))) (inner := [.string (⟨#[65, 44, 32, 34, 66]⟩ : ByteArray), .string (⟨#[97, 64, 98]⟩ : ByteArray), .string (⟨#[67, 32, 40, 120, 41]⟩ : ByteArray), .string (⟨#[99, 64, 100]⟩ : ByteArray), .string (⟨#[68]⟩ : ByteArray), .string (⟨#[]⟩ : ByteArray), .string (⟨#[]⟩ : ByteArray), .string (⟨#[101, 64, 102]⟩ : ByteArray)]) (ok := fun _ => True) (okp := fun _ => True) ?hr ?hp (fun _ hk => hk) trivial (Below.refl _ _) (Nat.le_refl _) (by simp) ?_; (case hd => rfl); (case hg => rfl); (case hr => first | (go_simp; done) | (go_simp; rfl)); (case hp => exact (Reps.c2 (show Kd.M k32 _ _ _ (⟨(⟨#[65, 44, 32, 34, 66]⟩ : ByteArray), (⟨#[97, 64, 98]⟩ : ByteArray)⟩ : S32) [.string (⟨#[65, 44, 32, 34, 66]⟩ : ByteArray), .string (⟨#[97, 64, 98]⟩ : ByteArray)] from (k32_mkM _ _ _ (⟨(⟨#[65, 44, 32, 34, 66]⟩ : ByteArray), (⟨#[97, 64, 98]⟩ : ByteArray)⟩ : S32) )) (Reps.c2 (show Kd.M k32 _ _ _ (⟨(⟨#[67, 32, 40, 120, 41]⟩ : ByteArray), (⟨#[99, 64, 100]⟩ : ByteArray)⟩ : S32) [.string (⟨#[67, 32, 40, 120, 41]⟩ : ByteArray), .string (⟨#[99, 64, 100]⟩ : ByteArray)] from (k32_mkM _ _ _ (⟨(⟨#[67, 32, 40, 120, 41]⟩ : ByteArray), (⟨#[99, 64, 100]⟩ : ByteArray)⟩ : S32) )) (Reps.c2 (show Kd.M k32 _ _ _ (⟨(⟨#[68]⟩ : ByteArray), (⟨#[]⟩ : ByteArray)⟩ : S32) [.string (⟨#[68]⟩ : ByteArray), .string (⟨#[]⟩ : ByteArray)] from (k32_mkM _ _ _ (⟨(⟨#[68]⟩ : ByteArray), (⟨#[]⟩ : ByteArray)⟩ : S32) )) (Reps.c2 (show Kd.M k32 _ _ _ (⟨(⟨#[]⟩ : ByteArray), (⟨#[101, 64, 102]⟩ : ByteArray)⟩ : S32) [.string (⟨#[]⟩ : ByteArray), .string (⟨#[101, 64, 102]⟩ : ByteArray)] from (k32_mkM _ _ _ (⟨(⟨#[]⟩ : ByteArray), (⟨#[101, 64, 102]⟩ : ByteArray)⟩ : S32) )) (Reps.none _ _)))))); intro v117 w21 ho22 hb hg_ hnew_; clear hg_ hnew_; (first | rw [← Ny116.out] at ho22 | (simp only [Int.reduceToNat] at ho22; rw [← Ny116.out] at ho22)); have n0_ := Aside0.mk (Kd.R_elder' (by (with_reducible repeat (first | apply Kd.R_alloc | apply Kd.R_drewN | apply Kd.R_drew)); exact HO105.out) (Kd.R_base ho22) hb); have n1_ := Aside0.mk (Kd.R_elder' (by (with_reducible repeat (first | apply Kd.R_alloc | apply Kd.R_drewN | apply Kd.R_drew)); exact HO108.out) (Kd.R_base ho22) hb); have n2_ := Aside0.mk (Kd.R_elder' (by (with_reducible repeat (first | apply Kd.R_alloc | apply Kd.R_drewN | apply Kd.R_drew)); exact HO113.out) (Kd.R_base ho22) hb); have n3_ := Aside0.mk (Kd.R_lower (Kd.R_new' (Kd.R_new' (Kd.R_new' ho22 (Kd.R_lt (by (with_reducible repeat (first | apply Kd.R_alloc | apply Kd.R_drewN | apply Kd.R_drew)); exact HO105.out))) (Kd.R_lt (by (with_reducible repeat (first | apply Kd.R_alloc | apply Kd.R_drewN | apply Kd.R_drew)); exact HO108.out))) (Kd.R_lt (by (with_reducible repeat (first | apply Kd.R_alloc | apply Kd.R_drewN | apply Kd.R_drew)); exact HO113.out))) (below_size (by repeat (first | (with_reducible first | exact HB.out | apply below_alloc | apply pw_below_drewN | apply below_drew1) | exact HB.out)))); have n4_ := Aside0.mk (below_step (by repeat (first | (with_reducible first | exact HB.out | apply below_alloc | apply pw_below_drewN | apply below_drew1) | exact HB.out)) hb); clear HO105; clear HO108; clear HO113; clear HB; have HO105 := n0_; have HO108 := n1_; have HO113 := n2_; have HO118 := n3_; have HB := n4_; clear n0_ n1_ n2_ n3_ n4_; clear hb ho22; obtain ⟨Ao23, co23, eo23⟩ := Kd.R_slice HO105.out; subst eo23; obtain ⟨Ao24, co24, eo24⟩ := Kd.R_slice HO118.out; subst eo24) | ((with_reducible refine gate_callee (f := 10) rfl ?_); refine goesL_ (some 27) rfl rfl Tryz.func10 (by kernel_rfl) rfl #[.slice Ao23 t103.length co23, .slice Ao24 y116.length co24] rfl (by (try simp only [List.map_toArray, List.map_cons, List.map_nil]); first | done | rfl | (simp only [List.length_drop, List.length_take]; rfl)) ?_; (with_reducible refine (muslinref08_Same.calls k _ _ t103 _ _ y116 true _ ?side1 ?side2 ?side3 ?side4 A4.out).mono ?_); (case side1 => repeat (first | exact (Kd.R_reads' HO105.out).2.2 | (with_reducible refine Kd.C_alloc ?_ _) | (with_reducible refine Kd.C_drewN ?_ _) | (with_reducible refine Kd.C_drew ?_))); (case side2 => exact (Kd.R_reads' HO105.out).2.1); (case side3 => repeat (first | exact (Kd.R_reads' HO118.out).2.2 | (with_reducible refine Kd.C_alloc ?_ _) | (with_reducible refine Kd.C_drewN ?_ _) | (with_reducible refine Kd.C_drew ?_))); (case side4 => exact (Kd.R_reads' HO118.out).2.1); rintro e w' ⟨rfl, ⟨nd, rfl⟩⟩; refine ⟨_, rfl, ?_⟩) | (go_at_call 13; (with_reducible refine (addr_Good.calls (⟨#[97, 64, 98]⟩ : ByteArray) true _ A9.out).mono ?_); rintro e w25 ⟨rfl, hb⟩; have n0_ := Aside0.mk (Kd.R_below (by (with_reducible repeat (first | apply Kd.R_alloc | apply Kd.R_drewN | apply Kd.R_drew)); exact HO105.out) hb); have n1_ := Aside0.mk (Kd.R_below (by (with_reducible repeat (first | apply Kd.R_alloc | apply Kd.R_drewN | apply Kd.R_drew)); exact HO108.out) hb); have n2_ := Aside0.mk (Kd.R_below (by (with_reducible repeat (first | apply Kd.R_alloc | apply Kd.R_drewN | apply Kd.R_drew)); exact HO113.out) hb); have n3_ := Aside0.mk (Kd.R_below (by (with_reducible repeat (first | apply Kd.R_alloc | apply Kd.R_drewN | apply Kd.R_drew)); exact HO118.out) hb); have n4_ := Aside0.mk (below_step (by repeat (first | (with_reducible first | exact HB.out | apply below_alloc | apply pw_below_drewN | apply below_drew1) | exact HB.out)) hb); clear HO105; clear HO108; clear HO113; clear HO118; clear HB; have HO105 := n0_; have HO108 := n1_; have HO113 := n2_; have HO118 := n3_; have HB := n4_; clear n0_ n1_ n2_ n3_ n4_; (try clear hb); (try clear hb2); (try clear hk); (try clear hi)) | (go_at_call 13; (with_reducible refine (addr_Good.calls (⟨#[97, 64]⟩ : ByteArray) t121 _ A11.out).mono ?_); rintro e w26 ⟨rfl, hb⟩; have n0_ := Aside0.mk (Kd.R_below (by (with_reducible repeat (first | apply Kd.R_alloc | apply Kd.R_drewN | apply Kd.R_drew)); exact HO105.out) hb); have n1_ := Aside0.mk (Kd.R_below (by (with_reducible repeat (first | apply Kd.R_alloc | apply Kd.R_drewN | apply Kd.R_drew)); exact HO108.out) hb); have n2_ := Aside0.mk (Kd.R_below (by (with_reducible repeat (first | apply Kd.R_alloc | apply Kd.R_drewN | apply Kd.R_drew)); exact HO113.out) hb); have n3_ := Aside0.mk (Kd.R_below (by (with_reducible repeat (first | apply Kd.R_alloc | apply Kd.R_drewN | apply Kd.R_drew)); exact HO118.out) hb); have n4_ := Aside0.mk (below_step (by repeat (first | (with_reducible first | exact HB.out | apply below_alloc | apply pw_below_drewN | apply below_drew1) | exact HB.out)) hb); clear HO105; clear HO108; clear HO113; clear HO118; clear HB; have HO105 := n0_; have HO108 := n1_; have HO113 := n2_; have HO118 := n3_; have HB := n4_; clear n0_ n1_ n2_ n3_ n4_; (try clear hb); (try clear hb2); (try clear hk); (try clear hi)))
  go_ret
  exact ⟨by first | rfl | (simp [errW_none, errW_some] <;> rfl) | (simp [*, errW_none, errW_some] <;> rfl), by repeat (first | (with_reducible first | exact HB.out | apply below_alloc | apply pw_below_drewN | apply below_drew1) | exact HB.out)⟩
end Go.Proofs.YtpcncpegbboljaaGreatDoor.P
namespace Go.Proofs.YtpcncpegbboljaaGreatDoor.P
open Go.RowKit Go.Proofs.YtpcncpegbboljaaGreatDoorW.PrintWords Go.Proofs.YtpcncpegbboljaaGreatDoorW.PrintLast Go.Proofs.YtpcncpegbboljaaGreatDoorW.PrintMore
attribute [local go_sem] max2_int min2_int max_two min_two max_three min_three max_four min_four
set_option linter.unusedVariables false
set_option linter.unusedSimpArgs false
def muslinlaw08_few.l0 : Nat → List (S32) → Int → Option (Bool)
  | 0, _, _ => none
  | k + 1, x0, x3 => if x3 < (x0.length : Int) then (if 0 ≤ x3 then (if (((rd_T32 x0 x3).f0).size : Int) > 300 then (some false) else (if (((rd_T32 x0 x3).f1).size : Int) > 300 then (some false) else (muslinlaw08_few.l0 k x0 (wrap64 (x3 + 1))))) else (none)) else (some true)
def muslinlaw08_few.f (k : Nat) (l0 : List (S32)) : Option (Bool) := if (l0.length : Int) > 40 then (some false) else (muslinlaw08_few.l0 k l0 0)
set_option maxHeartbeats 8000000 in
set_option maxRecDepth 100000 in
theorem muslinlaw08_few.calls (k : Nat) (A0 : Option Addr) (c0 : Nat) (l0 : List (S32)) (r : Bool) (w : World) (hr0 : Kd.C k32 w A0 l0.length l0) (hc0 : l0.length ≤ c0) (h : muslinlaw08_few.f k l0 = some r) :
    Calls Tryz.prog 15 #[.slice A0 l0.length c0] w fun e w' => e = .returned (.bool r) ∧ Drawn0 w w' := by
  have HR0 := Aside0.mk hr0; have HC0 := Aside0.mk hc0; clear hr0 hc0; have H : (if (l0.length : Int) > 40 then (some false) else (muslinlaw08_few.l0 k l0 0)) = some r := h; clear h
  by_cases c2 : (l0.length : Int) > 40
  case pos =>
    rw [if_pos c2] at H; have c2b0 : decide (40 < (l0.length : Int)) = true := decide_eq_true c2; have c2b1 : decide (40 < l0.length) = true := decide_eq_true (by omega); clear c2; obtain rfl := Option.some.inj H
    go_enter Tryz.func15, Tryz.ntmps15
    go_wp2
    go_ret
    exact ⟨by first | rfl | (simp; done) | (simp [*]; done), by repeat (first | exact Drawn0.refl _ | apply Drawn0.step)⟩
  rw [if_neg c2] at H; have c2b0 : decide (40 < (l0.length : Int)) = false := decide_eq_false c2; have c2b1 : decide (40 < l0.length) = false := decide_eq_false (by omega); clear c2; have H' := Aside0.mk H; clear H
  go_enter Tryz.func15, Tryz.ntmps15
  go_wp2
  go_loopg [3] k (fun kq v3 w' => ∃ (x3_1 : Int), v3 = .int .i64 x3_1 ∧ Aside0 (muslinlaw08_few.l0 kq l0 x3_1 = some r) ∧ Aside0 (kq ≤ k) ∧ Drawn0 w w')
  case atStart => exact ⟨(0), (by first | rfl | (simp; done) | (simp [*]; done)), H', ⟨Nat.le_refl _⟩, by repeat (first | exact Drawn0.refl _ | apply Drawn0.step)⟩
  case round =>
    clear H'; (try clear c1); (try clear c2); (try clear c2b0); (try clear c2b1); (try clear p2); obtain ⟨x3_1, rfl, HA, HK1, ⟨m1, rfl⟩⟩ := hrel
    cases gk with
    | zero => exact absurd HA.out (by simp [muslinlaw08_few.l0])
    | succ k1 =>
      have H := HA.out; clear HA; simp only [muslinlaw08_few.l0] at H
      by_cases c3 : x3_1 < (l0.length : Int)
      case neg =>
        rw [if_neg c3] at H; have c3b0 : decide (x3_1 < (l0.length : Int)) = false := decide_eq_false c3; clear c3; obtain rfl := Option.some.inj H
        go_wp2
        go_ret
        exact ⟨by first | rfl | (simp; done) | (simp [*]; done), by repeat (first | exact Drawn0.refl _ | apply Drawn0.step)⟩
      rw [if_pos c3] at H; have c3b0 : decide (x3_1 < (l0.length : Int)) = true := decide_eq_true c3; clear c3
      by_cases c4 : 0 ≤ x3_1
      case neg =>
        rw [if_neg c4] at H
        exact absurd H (by simp)
      rw [if_pos c4] at H; have c4b0 : decide (0 ≤ x3_1) = true := decide_eq_true c4; clear c4
      by_cases c5 : (((rd_T32 l0 x3_1).f0).size : Int) > 300
      case pos =>
        rw [if_pos c5] at H; have c5b0 : decide (300 < (((rd_T32 l0 x3_1).f0).size : Int)) = true := decide_eq_true c5; have c5b1 : decide (300 < ((rd_T32 l0 x3_1).f0).size) = true := decide_eq_true (by omega); clear c5; obtain rfl := Option.some.inj H; have p219 : 0 ≤ (x3_1 : Int) := of_decide_eq_true (by first | (with_reducible assumption) | assumption); have q219 : x3_1 < (l0.length : Int) := of_decide_eq_true (by first | (with_reducible assumption) | assumption); obtain ⟨ad219, e219, hx219_0, hx219_1⟩ := at_T32 HR0.out x3_1 p219 q219; cases e219; replace p219 := eq_true p219; replace q219 := eq_true q219
        go_wp2
        go_ret
        exact ⟨by first | rfl | (simp; done) | (simp [*]; done), by repeat (first | exact Drawn0.refl _ | apply Drawn0.step)⟩
      rw [if_neg c5] at H; have c5b0 : decide (300 < (((rd_T32 l0 x3_1).f0).size : Int)) = false := decide_eq_false c5; have c5b1 : decide (300 < ((rd_T32 l0 x3_1).f0).size) = false := decide_eq_false (by omega); clear c5
      by_cases c6 : (((rd_T32 l0 x3_1).f1).size : Int) > 300
      case pos =>
        rw [if_pos c6] at H; have c6b0 : decide (300 < (((rd_T32 l0 x3_1).f1).size : Int)) = true := decide_eq_true c6; have c6b1 : decide (300 < ((rd_T32 l0 x3_1).f1).size) = true := decide_eq_true (by omega); clear c6; obtain rfl := Option.some.inj H; have p219 : 0 ≤ (x3_1 : Int) := of_decide_eq_true (by first | (with_reducible assumption) | assumption); have q219 : x3_1 < (l0.length : Int) := of_decide_eq_true (by first | (with_reducible assumption) | assumption); obtain ⟨ad219, e219, hx219_0, hx219_1⟩ := at_T32 HR0.out x3_1 p219 q219; cases e219; replace p219 := eq_true p219; replace q219 := eq_true q219; have p220 : 0 ≤ (x3_1 : Int) := of_decide_eq_true (by first | (with_reducible assumption) | assumption); have q220 : x3_1 < (l0.length : Int) := of_decide_eq_true (by first | (with_reducible assumption) | assumption); obtain ⟨ad220, e220, hx220_0, hx220_1⟩ := at_T32 HR0.out x3_1 p220 q220; obtain rfl : ad219 = ad220 := (by injection e220); replace p220 := eq_true p220; replace q220 := eq_true q220
        go_wp2
        go_ret
        exact ⟨by first | rfl | (simp; done) | (simp [*]; done), by repeat (first | exact Drawn0.refl _ | apply Drawn0.step)⟩
      rw [if_neg c6] at H; have c6b0 : decide (300 < (((rd_T32 l0 x3_1).f1).size : Int)) = false := decide_eq_false c6; have c6b1 : decide (300 < ((rd_T32 l0 x3_1).f1).size) = false := decide_eq_false (by omega); clear c6; have H' := Aside0.mk H; clear H; have p219 : 0 ≤ (x3_1 : Int) := of_decide_eq_true (by first | (with_reducible assumption) | assumption); have q219 : x3_1 < (l0.length : Int) := of_decide_eq_true (by first | (with_reducible assumption) | assumption); obtain ⟨ad219, e219, hx219_0, hx219_1⟩ := at_T32 HR0.out x3_1 p219 q219; cases e219; replace p219 := eq_true p219; replace q219 := eq_true q219; have p220 : 0 ≤ (x3_1 : Int) := of_decide_eq_true (by first | (with_reducible assumption) | assumption); have q220 : x3_1 < (l0.length : Int) := of_decide_eq_true (by first | (with_reducible assumption) | assumption); obtain ⟨ad220, e220, hx220_0, hx220_1⟩ := at_T32 HR0.out x3_1 p220 q220; obtain rfl : ad219 = ad220 := (by injection e220); replace p220 := eq_true p220; replace q220 := eq_true q220
      go_wp2
      go_roundg k1
      case measure => have := HK1.out; omega
      case rel => exact ⟨(wrap64 (x3_1 + 1)), (by first | rfl | (simp; done) | (simp [*]; done)), H', ⟨by have := HK1.out; omega⟩, by repeat (first | exact Drawn0.refl _ | apply Drawn0.step)⟩
end Go.Proofs.YtpcncpegbboljaaGreatDoor.P
namespace Go.Proofs.YtpcncpegbboljaaGreatDoor.P
open Go.RowKit Go.Proofs.YtpcncpegbboljaaGreatDoorW.PrintWords Go.Proofs.YtpcncpegbboljaaGreatDoorW.PrintLast Go.Proofs.YtpcncpegbboljaaGreatDoorW.PrintMore
attribute [local go_sem] max2_int min2_int max_two min_two max_three min_three max_four min_four
set_option linter.unusedVariables false
set_option linter.unusedSimpArgs false
def muslinlaw08_AddrBack.l0 : Nat → List (S32) → List (S32) → Int → Option (Bool)
  | 0, _, _, _ => none
  | k + 1, x0, x5, x6 => if x6 < (x0.length : Int) then (if 0 ≤ x6 then (if x6 < (x5.length : Int) then (if ((rd_T32 x5 x6).f1).toList = ((rd_T32 x0 x6).f1).toList then ((chars_Valid.f ((rd_T32 x0 x6).f0)).bind fun t297 => (if ((rd_T32 x5 x6).f0).toList = t297.toList then (muslinlaw08_AddrBack.l0 k x0 x5 (wrap64 (x6 + 1))) else (some false))) else (some false)) else (none)) else (none)) else ((muslinlaw08_live.f k).bind fun t298 => (some t298))
def muslinlaw08_AddrBack.f (k : Nat) (l0 : List (S32)) : Option (Bool) := (muslinlaw08_few.f k l0).bind fun t285 => (if t285 = true then ((addr_Write.f l0).bind fun bt287 => (if bt287.2 = 0 then ((addr_Parse.f bt287.1).bind fun t290 => (if (t290.length : Int) = (l0.length : Int) then (muslinlaw08_AddrBack.l0 k l0 t290 0) else (some false))) else (if bt287.1.toList = ([] : List UInt8) then ((muslinlaw08_live.f k).bind fun t289 => (some t289)) else (some false)))) else ((muslinlaw08_live.f k).bind fun t286 => (some t286)))
def muslinlaw08_AddrBack.T12 : Bool × List (List Nat × List Nat) := (true, [([], []), ([], []), ([0, 1], [0, 1]), ([2], [2]), ([3], [3]), ([], []), ([], []), ([5, 6], [5, 6]), ([7], [7]), ([8], [8]), ([4, 9], [4, 9]), ([10], [10]), ([11], [11]), ([11], [11]), ([12, 13, 11], [11, 12, 13]), ([14, 11], [11, 14]), ([15, 11], [11, 15]), ([11], [11]), ([11], [11]), ([17, 18, 11], [11, 17, 18]), ([19, 11], [11, 19]), ([20, 11], [11, 20]), ([21, 11, 11], [11, 21]), ([16, 22, 11], [11, 16, 22]), ([11, 23], [11, 23])])
def muslinlaw08_AddrBack.B12 : List Nat := [0, 0, 3, 7, 15, 0, 0, 96, 224, 480, 1023, 2047, 4095, 4095, 16383, 32767, 65535, 4095, 4095, 397311, 921599, 1970175, 4067327, 8388607, 16777215]
theorem muslinlaw08_AddrBack.tab12 : rtab .any (opsOf Tryz.f5 12) = muslinlaw08_AddrBack.T12 := by kernel_rfl
theorem muslinlaw08_AddrBack.bits12 : waitsOk muslinlaw08_AddrBack.T12.2 muslinlaw08_AddrBack.B12 = true := by kernel_rfl
set_option maxHeartbeats 8000000 in
set_option maxRecDepth 100000 in
theorem muslinlaw08_AddrBack.calls (k : Nat) (A0 : Option Addr) (c0 : Nat) (l0 : List (S32)) (r : Bool) (w : World) (hGl : Glob w) (hr0 : Kd.C k32 w A0 l0.length l0) (hc0 : l0.length ≤ c0) (h : muslinlaw08_AddrBack.f k l0 = some r) :
    Calls Tryz.prog 5 #[.slice A0 l0.length c0] w fun e w' => e = .returned (.bool r) ∧ Below w.heap.size w w' := by
  have HGl := Aside0.mk hGl; clear hGl; have HR0 := Aside0.mk hr0; have HC0 := Aside0.mk hc0; clear hr0 hc0; have HB := Aside0.mk (Below.refl w.heap.size w); have H : ((muslinlaw08_few.f k l0).bind fun t285 => (if t285 = true then ((addr_Write.f l0).bind fun bt287 => (if bt287.2 = 0 then ((addr_Parse.f bt287.1).bind fun t290 => (if (t290.length : Int) = (l0.length : Int) then (muslinlaw08_AddrBack.l0 k l0 t290 0) else (some false))) else (if bt287.1.toList = ([] : List UInt8) then ((muslinlaw08_live.f k).bind fun t289 => (some t289)) else (some false)))) else ((muslinlaw08_live.f k).bind fun t286 => (some t286)))) = some r := h; clear h; replace H := Option.bind_eq_some_iff.mp H; obtain ⟨t285, A20, H⟩ := H; replace H : (if t285 = true then ((addr_Write.f l0).bind fun bt287 => (if bt287.2 = 0 then ((addr_Parse.f bt287.1).bind fun t290 => (if (t290.length : Int) = (l0.length : Int) then (muslinlaw08_AddrBack.l0 k l0 t290 0) else (some false))) else (if bt287.1.toList = ([] : List UInt8) then ((muslinlaw08_live.f k).bind fun t289 => (some t289)) else (some false)))) else ((muslinlaw08_live.f k).bind fun t286 => (some t286))) = some r := H; have A2 := Aside0.mk A20; clear A20
  by_cases c3 : t285 = true
  case neg =>
    replace c3 := Bool.eq_false_iff.mpr c3; subst c3
    have H1 : ((muslinlaw08_live.f k).bind fun t286 => (some t286)) = some r := by rw [if_neg (show ¬ (false = true) by decide)] at H; exact H
    clear H; have H := H1; clear H1; replace H := Option.bind_eq_some_iff.mp H; obtain ⟨t286, A320, H⟩ := H; replace H : (some t286) = some r := H; have A32 := Aside0.mk A320; clear A320; obtain rfl := Option.some.inj H
    go_enter Tryz.func5, Tryz.ntmps5
    go_wp2_with (first | ((with_reducible refine gate_callee (f := 15) rfl ?_); refine goesL_ (some 8) rfl rfl Tryz.func15 (by kernel_rfl) rfl #[.slice A0 l0.length c0] rfl (by (try simp only [List.map_toArray, List.map_cons, List.map_nil]); first | done | rfl | (simp only [List.length_drop, List.length_take]; rfl)) ?_; (with_reducible refine (muslinlaw08_few.calls k _ _ l0 false _ ?side1 ?side2 A2.out).mono ?_); (case side1 => repeat (first | exact HR0.out | (with_reducible refine Kd.C_alloc ?_ _) | (with_reducible refine Kd.C_drewN ?_ _) | (with_reducible refine Kd.C_drew ?_))); (case side2 => exact HC0.out); rintro e w' ⟨rfl, ⟨nd, rfl⟩⟩; refine ⟨_, rfl, ?_⟩) | ((with_reducible refine gate_callee (f := 9) rfl ?_); refine goesL_ (some 10) rfl rfl Tryz.func9 (by kernel_rfl) rfl #[] rfl (by (try simp only [List.map_toArray, List.map_cons, List.map_nil]); first | done | rfl | (simp only [List.length_drop, List.length_take]; rfl)) ?_; (with_reducible refine (muslinlaw08_live.calls k  t286 _ ?sideGl A32.out).mono ?_); (case sideGl => exact HGl.out.below (by repeat (first | (with_reducible first | exact HB.out | apply below_alloc | apply pw_below_drewN | apply below_drew1) | exact HB.out))); rintro e w33 ⟨rfl, hb⟩; refine ⟨_, rfl, ?_⟩; have n0_ := Aside0.mk (below_step (by repeat (first | (with_reducible first | exact HB.out | apply below_alloc | apply pw_below_drewN | apply below_drew1) | exact HB.out)) hb); clear HB; have HB := n0_; clear n0_; (try clear hb); (try clear hb2); (try clear hk); (try clear hi)))
    go_ret
    exact ⟨by first | rfl | (simp [errW_none, errW_some] <;> rfl) | (simp [*, errW_none, errW_some] <;> rfl), by repeat (first | (with_reducible first | exact HB.out | apply below_alloc | apply pw_below_drewN | apply below_drew1) | exact HB.out)⟩
  subst c3
  have H1 : ((addr_Write.f l0).bind fun bt287 => (if bt287.2 = 0 then ((addr_Parse.f bt287.1).bind fun t290 => (if (t290.length : Int) = (l0.length : Int) then (muslinlaw08_AddrBack.l0 k l0 t290 0) else (some false))) else (if bt287.1.toList = ([] : List UInt8) then ((muslinlaw08_live.f k).bind fun t289 => (some t289)) else (some false)))) = some r := by rw [if_pos rfl] at H; exact H
  clear H; have H := H1; clear H1; replace H := Option.bind_eq_some_iff.mp H; obtain ⟨⟨t287, t288⟩, A40, H⟩ := H; replace H : (if t288 = 0 then ((addr_Parse.f t287).bind fun t290 => (if (t290.length : Int) = (l0.length : Int) then (muslinlaw08_AddrBack.l0 k l0 t290 0) else (some false))) else (if t287.toList = ([] : List UInt8) then ((muslinlaw08_live.f k).bind fun t289 => (some t289)) else (some false))) = some r := H; have A4 := Aside0.mk A40; clear A40
  by_cases c5 : t288 = 0
  case neg =>
    rw [if_neg c5] at H; have c5b0 : (t288 == 0) = false := beq_eq_false_iff_ne.mpr c5; have c5b1 : (t288 != 0) = true := bne_iff_ne.mpr c5
    by_cases c27 : t287.toList = ([] : List UInt8)
    case neg =>
      rw [if_neg c27] at H; have c27b0 : (t287.toList == ([] : List UInt8)) = false := beq_eq_false_iff_ne.mpr c27; have c27b1 : (t287.toList != ([] : List UInt8)) = true := bne_iff_ne.mpr c27; obtain rfl := Option.some.inj H
      go_enter Tryz.func5, Tryz.ntmps5
      go_wp2_with (first | ((with_reducible refine gate_callee (f := 15) rfl ?_); refine goesL_ (some 8) rfl rfl Tryz.func15 (by kernel_rfl) rfl #[.slice A0 l0.length c0] rfl (by (try simp only [List.map_toArray, List.map_cons, List.map_nil]); first | done | rfl | (simp only [List.length_drop, List.length_take]; rfl)) ?_; (with_reducible refine (muslinlaw08_few.calls k _ _ l0 true _ ?side1 ?side2 A2.out).mono ?_); (case side1 => repeat (first | exact HR0.out | (with_reducible refine Kd.C_alloc ?_ _) | (with_reducible refine Kd.C_drewN ?_ _) | (with_reducible refine Kd.C_drew ?_))); (case side2 => exact HC0.out); rintro e w' ⟨rfl, ⟨nd, rfl⟩⟩; refine ⟨_, rfl, ?_⟩) | ((with_reducible refine gate_callee (f := 16) rfl ?_); refine goesL_ (some 13) rfl rfl Tryz.func16 (by kernel_rfl) rfl #[.slice A0 l0.length c0] rfl (by (try simp only [List.map_toArray, List.map_cons, List.map_nil]); first | done | rfl | (simp only [List.length_drop, List.length_take]; rfl)) ?_; (with_reducible refine (addr_Write.calls _ _ l0 t287 t288 _ ?side1 ?side2 ?sideGl A4.out).mono ?_); (case sideGl => exact HGl.out.below (by repeat (first | (with_reducible first | exact HB.out | apply below_alloc | apply pw_below_drewN | apply below_drew1) | exact HB.out))); (case side1 => repeat (first | exact HR0.out | (with_reducible refine Kd.C_alloc ?_ _) | (with_reducible refine Kd.C_drewN ?_ _) | (with_reducible refine Kd.C_drew ?_))); (case side2 => exact HC0.out); rintro e w31 ⟨rfl, hb⟩; refine ⟨_, rfl, ?_⟩; have n0_ := Aside0.mk (below_step (by repeat (first | (with_reducible first | exact HB.out | apply below_alloc | apply pw_below_drewN | apply below_drew1) | exact HB.out)) hb); clear HB; have HB := n0_; clear n0_; (try clear hb); (try clear hb2); (try clear hk); (try clear hi)))
      go_ret
      exact ⟨by first | rfl | (simp [errW_none, errW_some] <;> rfl) | (simp [*, errW_none, errW_some] <;> rfl), by repeat (first | (with_reducible first | exact HB.out | apply below_alloc | apply pw_below_drewN | apply below_drew1) | exact HB.out)⟩
    rw [if_pos c27] at H; have c27b0 : (t287.toList == ([] : List UInt8)) = true := beq_iff_eq.mpr c27; have c27b1 : (t287.toList != ([] : List UInt8)) = false := bne_eq_false_iff_eq.mpr c27; clear c27; replace H := Option.bind_eq_some_iff.mp H; obtain ⟨t289, A280, H⟩ := H; replace H : (some t289) = some r := H; have A28 := Aside0.mk A280; clear A280; obtain rfl := Option.some.inj H
    go_enter Tryz.func5, Tryz.ntmps5
    go_wp2_with (first | ((with_reducible refine gate_callee (f := 15) rfl ?_); refine goesL_ (some 8) rfl rfl Tryz.func15 (by kernel_rfl) rfl #[.slice A0 l0.length c0] rfl (by (try simp only [List.map_toArray, List.map_cons, List.map_nil]); first | done | rfl | (simp only [List.length_drop, List.length_take]; rfl)) ?_; (with_reducible refine (muslinlaw08_few.calls k _ _ l0 true _ ?side1 ?side2 A2.out).mono ?_); (case side1 => repeat (first | exact HR0.out | (with_reducible refine Kd.C_alloc ?_ _) | (with_reducible refine Kd.C_drewN ?_ _) | (with_reducible refine Kd.C_drew ?_))); (case side2 => exact HC0.out); rintro e w' ⟨rfl, ⟨nd, rfl⟩⟩; refine ⟨_, rfl, ?_⟩) | ((with_reducible refine gate_callee (f := 16) rfl ?_); refine goesL_ (some 13) rfl rfl Tryz.func16 (by kernel_rfl) rfl #[.slice A0 l0.length c0] rfl (by (try simp only [List.map_toArray, List.map_cons, List.map_nil]); first | done | rfl | (simp only [List.length_drop, List.length_take]; rfl)) ?_; (with_reducible refine (addr_Write.calls _ _ l0 t287 t288 _ ?side1 ?side2 ?sideGl A4.out).mono ?_); (case sideGl => exact HGl.out.below (by repeat (first | (with_reducible first | exact HB.out | apply below_alloc | apply pw_below_drewN | apply below_drew1) | exact HB.out))); (case side1 => repeat (first | exact HR0.out | (with_reducible refine Kd.C_alloc ?_ _) | (with_reducible refine Kd.C_drewN ?_ _) | (with_reducible refine Kd.C_drew ?_))); (case side2 => exact HC0.out); rintro e w29 ⟨rfl, hb⟩; refine ⟨_, rfl, ?_⟩; have n0_ := Aside0.mk (below_step (by repeat (first | (with_reducible first | exact HB.out | apply below_alloc | apply pw_below_drewN | apply below_drew1) | exact HB.out)) hb); clear HB; have HB := n0_; clear n0_; (try clear hb); (try clear hb2); (try clear hk); (try clear hi)) | (go_at_call 9; (with_reducible refine (muslinlaw08_live.calls k  t289 _ ?sideGl A28.out).mono ?_); (case sideGl => exact HGl.out.below (by repeat (first | (with_reducible first | exact HB.out | apply below_alloc | apply pw_below_drewN | apply below_drew1) | exact HB.out))); rintro e w30 ⟨rfl, hb⟩; have n0_ := Aside0.mk (below_step (by repeat (first | (with_reducible first | exact HB.out | apply below_alloc | apply pw_below_drewN | apply below_drew1) | exact HB.out)) hb); clear HB; have HB := n0_; clear n0_; (try clear hb); (try clear hb2); (try clear hk); (try clear hi)))
    go_ret
    exact ⟨by first | rfl | (simp [errW_none, errW_some] <;> rfl) | (simp [*, errW_none, errW_some] <;> rfl), by repeat (first | (with_reducible first | exact HB.out | apply below_alloc | apply pw_below_drewN | apply below_drew1) | exact HB.out)⟩
  rw [if_pos c5] at H; have c5b0 : (t288 == 0) = true := beq_iff_eq.mpr c5; have c5b1 : (t288 != 0) = false := bne_eq_false_iff_eq.mpr c5; clear c5; replace H := Option.bind_eq_some_iff.mp H; obtain ⟨t290, A60, H⟩ := H; replace H : (if (t290.length : Int) = (l0.length : Int) then (muslinlaw08_AddrBack.l0 k l0 t290 0) else (some false)) = some r := H; have A6 := Aside0.mk A60; clear A60
  by_cases c7 : (t290.length : Int) = (l0.length : Int)
  case neg =>
    rw [if_neg c7] at H; have c7b0 : ((t290.length : Int) == (l0.length : Int)) = false := beq_eq_false_iff_ne.mpr c7; have c7b1 : ((t290.length : Int) != (l0.length : Int)) = true := bne_iff_ne.mpr c7
    have c7b2 : (t290.length == l0.length) = false := by first | simpa using c7 | (simp at c7 ⊢; omega)
    obtain rfl := Option.some.inj H
    go_enter Tryz.func5, Tryz.ntmps5
    go_wp2_with (first | ((with_reducible refine gate_callee (f := 15) rfl ?_); refine goesL_ (some 8) rfl rfl Tryz.func15 (by kernel_rfl) rfl #[.slice A0 l0.length c0] rfl (by (try simp only [List.map_toArray, List.map_cons, List.map_nil]); first | done | rfl | (simp only [List.length_drop, List.length_take]; rfl)) ?_; (with_reducible refine (muslinlaw08_few.calls k _ _ l0 true _ ?side1 ?side2 A2.out).mono ?_); (case side1 => repeat (first | exact HR0.out | (with_reducible refine Kd.C_alloc ?_ _) | (with_reducible refine Kd.C_drewN ?_ _) | (with_reducible refine Kd.C_drew ?_))); (case side2 => exact HC0.out); rintro e w' ⟨rfl, ⟨nd, rfl⟩⟩; refine ⟨_, rfl, ?_⟩) | ((with_reducible refine gate_callee (f := 16) rfl ?_); refine goesL_ (some 13) rfl rfl Tryz.func16 (by kernel_rfl) rfl #[.slice A0 l0.length c0] rfl (by (try simp only [List.map_toArray, List.map_cons, List.map_nil]); first | done | rfl | (simp only [List.length_drop, List.length_take]; rfl)) ?_; (with_reducible refine (addr_Write.calls _ _ l0 t287 t288 _ ?side1 ?side2 ?sideGl A4.out).mono ?_); (case sideGl => exact HGl.out.below (by repeat (first | (with_reducible first | exact HB.out | apply below_alloc | apply pw_below_drewN | apply below_drew1) | exact HB.out))); (case side1 => repeat (first | exact HR0.out | (with_reducible refine Kd.C_alloc ?_ _) | (with_reducible refine Kd.C_drewN ?_ _) | (with_reducible refine Kd.C_drew ?_))); (case side2 => exact HC0.out); rintro e w24 ⟨rfl, hb⟩; refine ⟨_, rfl, ?_⟩; have n0_ := Aside0.mk (below_step (by repeat (first | (with_reducible first | exact HB.out | apply below_alloc | apply pw_below_drewN | apply below_drew1) | exact HB.out)) hb); clear HB; have HB := n0_; clear n0_; (try clear hb); (try clear hb2); (try clear hk); (try clear hi)) | ((with_reducible refine gate_callee (f := 11) rfl ?_); refine goesL_ (some 24) rfl rfl Tryz.func11 (by kernel_rfl) rfl #[.string t287] rfl (by (try simp only [List.map_toArray, List.map_cons, List.map_nil]); first | done | rfl | (simp only [List.length_drop, List.length_take]; rfl)) ?_; (with_reducible refine (addr_Parse.calls t287 t290 _ ?sideGl A6.out).mono ?_); (case sideGl => exact HGl.out.below (by repeat (first | (with_reducible first | exact HB.out | apply below_alloc | apply pw_below_drewN | apply below_drew1) | exact HB.out))); rintro e w25 ⟨v291, rfl, ho0, hb⟩; refine ⟨_, rfl, ?_⟩; have n0_ := Aside0.mk (Kd.R_lower ho0 (below_size (by repeat (first | (with_reducible first | exact HB.out | apply below_alloc | apply pw_below_drewN | apply below_drew1) | exact HB.out)))); have n1_ := Aside0.mk (below_step (by repeat (first | (with_reducible first | exact HB.out | apply below_alloc | apply pw_below_drewN | apply below_drew1) | exact HB.out)) hb); clear HB; have HO292 := n0_; have HB := n1_; clear n0_ n1_; (try clear hb); (try clear hb2); (try clear hk); (try clear hi); (try clear ho0); obtain ⟨Ao26, co26, eo26⟩ := Kd.R_slice HO292.out; subst eo26))
    go_ret
    exact ⟨by first | rfl | (simp [errW_none, errW_some] <;> rfl) | (simp [*, errW_none, errW_some] <;> rfl), by repeat (first | (with_reducible first | exact HB.out | apply below_alloc | apply pw_below_drewN | apply below_drew1) | exact HB.out)⟩
  rw [if_pos c7] at H; have c7b0 : ((t290.length : Int) == (l0.length : Int)) = true := beq_iff_eq.mpr c7; have c7b1 : ((t290.length : Int) != (l0.length : Int)) = false := bne_eq_false_iff_eq.mpr c7
  have c7b2 : (t290.length == l0.length) = true := by first | simpa using c7 | (simp at c7 ⊢; omega)
  clear c7; have H' := Aside0.mk H; clear H
  go_enter Tryz.func5, Tryz.ntmps5
  go_wp2_with (first | ((with_reducible refine gate_callee (f := 15) rfl ?_); refine goesL_ (some 8) rfl rfl Tryz.func15 (by kernel_rfl) rfl #[.slice A0 l0.length c0] rfl (by (try simp only [List.map_toArray, List.map_cons, List.map_nil]); first | done | rfl | (simp only [List.length_drop, List.length_take]; rfl)) ?_; (with_reducible refine (muslinlaw08_few.calls k _ _ l0 true _ ?side1 ?side2 A2.out).mono ?_); (case side1 => repeat (first | exact HR0.out | (with_reducible refine Kd.C_alloc ?_ _) | (with_reducible refine Kd.C_drewN ?_ _) | (with_reducible refine Kd.C_drew ?_))); (case side2 => exact HC0.out); rintro e w' ⟨rfl, ⟨nd, rfl⟩⟩; refine ⟨_, rfl, ?_⟩) | ((with_reducible refine gate_callee (f := 16) rfl ?_); refine goesL_ (some 13) rfl rfl Tryz.func16 (by kernel_rfl) rfl #[.slice A0 l0.length c0] rfl (by (try simp only [List.map_toArray, List.map_cons, List.map_nil]); first | done | rfl | (simp only [List.length_drop, List.length_take]; rfl)) ?_; (with_reducible refine (addr_Write.calls _ _ l0 t287 t288 _ ?side1 ?side2 ?sideGl A4.out).mono ?_); (case sideGl => exact HGl.out.below (by repeat (first | (with_reducible first | exact HB.out | apply below_alloc | apply pw_below_drewN | apply below_drew1) | exact HB.out))); (case side1 => repeat (first | exact HR0.out | (with_reducible refine Kd.C_alloc ?_ _) | (with_reducible refine Kd.C_drewN ?_ _) | (with_reducible refine Kd.C_drew ?_))); (case side2 => exact HC0.out); rintro e w8 ⟨rfl, hb⟩; refine ⟨_, rfl, ?_⟩; have n0_ := Aside0.mk (below_step (by repeat (first | (with_reducible first | exact HB.out | apply below_alloc | apply pw_below_drewN | apply below_drew1) | exact HB.out)) hb); clear HB; have HB := n0_; clear n0_; (try clear hb); (try clear hb2); (try clear hk); (try clear hi)) | ((with_reducible refine gate_callee (f := 11) rfl ?_); refine goesL_ (some 24) rfl rfl Tryz.func11 (by kernel_rfl) rfl #[.string t287] rfl (by (try simp only [List.map_toArray, List.map_cons, List.map_nil]); first | done | rfl | (simp only [List.length_drop, List.length_take]; rfl)) ?_; (with_reducible refine (addr_Parse.calls t287 t290 _ ?sideGl A6.out).mono ?_); (case sideGl => exact HGl.out.below (by repeat (first | (with_reducible first | exact HB.out | apply below_alloc | apply pw_below_drewN | apply below_drew1) | exact HB.out))); rintro e w9 ⟨v291, rfl, ho0, hb⟩; refine ⟨_, rfl, ?_⟩; have n0_ := Aside0.mk (Kd.R_lower ho0 (below_size (by repeat (first | (with_reducible first | exact HB.out | apply below_alloc | apply pw_below_drewN | apply below_drew1) | exact HB.out)))); have n1_ := Aside0.mk (below_step (by repeat (first | (with_reducible first | exact HB.out | apply below_alloc | apply pw_below_drewN | apply below_drew1) | exact HB.out)) hb); clear HB; have HO292 := n0_; have HB := n1_; clear n0_ n1_; (try clear hb); (try clear hb2); (try clear hk); (try clear hi); (try clear ho0); obtain ⟨Ao10, co10, eo10⟩ := Kd.R_slice HO292.out; subst eo10))
  go_loopg [6] k (fun kq v6 w' => ∃ (x6_1 : Int), v6 = .int .i64 x6_1 ∧ Aside0 (muslinlaw08_AddrBack.l0 kq l0 t290 x6_1 = some r) ∧ Aside0 (kq ≤ k) ∧ Aside0 (Kd.R k32 32 w' w.heap.size (fun _ => True) (.slice Ao10 t290.length co10) t290) ∧ Aside0 (Below w.heap.size w w'))
  case atStart => exact ⟨(0), (by first | rfl | (simp; done) | (simp [*]; done)), H', ⟨Nat.le_refl _⟩, ⟨by (with_reducible repeat (first | apply Kd.R_alloc | apply Kd.R_drewN | apply Kd.R_drew)); exact HO292.out⟩, ⟨by repeat (first | (with_reducible first | exact HB.out | apply below_alloc | apply pw_below_drewN | apply below_drew1) | exact HB.out)⟩⟩
  case round =>
    clear H'; (try clear c1); (try clear p2); (try clear c3); (try clear c5); (try clear c5b0); (try clear c5b1); (try clear c7); (try clear c7b0); (try clear c7b1); (try clear c7b2); obtain ⟨x6_1, rfl, HA, HK1, HO_5, HB⟩ := hrel
    cases gk with
    | zero => exact absurd HA.out (by simp [muslinlaw08_AddrBack.l0])
    | succ k1 =>
      have H := HA.out; clear HA; simp only [muslinlaw08_AddrBack.l0] at H
      by_cases c11 : x6_1 < (l0.length : Int)
      case neg =>
        rw [if_neg c11] at H; have c11b0 : decide (x6_1 < (l0.length : Int)) = false := decide_eq_false c11; clear c11; replace H := Option.bind_eq_some_iff.mp H; obtain ⟨t298, A220, H⟩ := H; replace H : (some t298) = some r := H; have A22 := Aside0.mk A220; clear A220; obtain rfl := Option.some.inj H; go_wp2_with (first | ((with_reducible refine gate_callee (f := 9) rfl ?_); refine goesL_ (some 61) rfl rfl Tryz.func9 (by kernel_rfl) rfl #[] rfl (by (try simp only [List.map_toArray, List.map_cons, List.map_nil]); first | done | rfl | (simp only [List.length_drop, List.length_take]; rfl)) ?_; (with_reducible refine (muslinlaw08_live.calls k1  t298 _ ?sideGl A22.out).mono ?_); (case sideGl => exact HGl.out.below (by repeat (first | (with_reducible first | exact HB.out | apply below_alloc | apply pw_below_drewN | apply below_drew1) | exact HB.out))); rintro e w23 ⟨rfl, hb⟩; refine ⟨_, rfl, ?_⟩; have n0_ := Aside0.mk (Kd.R_below (by (with_reducible repeat (first | apply Kd.R_alloc | apply Kd.R_drewN | apply Kd.R_drew)); exact HO_5.out) hb); have n1_ := Aside0.mk (below_step (by repeat (first | (with_reducible first | exact HB.out | apply below_alloc | apply pw_below_drewN | apply below_drew1) | exact HB.out)) hb); clear HO_5; clear HB; have HO_5 := n0_; have HB := n1_; clear n0_ n1_; (try clear hb); (try clear hb2); (try clear hk); (try clear hi)))
        go_ret
        exact ⟨by first | rfl | (simp [errW_none, errW_some] <;> rfl) | (simp [*, errW_none, errW_some] <;> rfl), by repeat (first | (with_reducible first | exact HB.out | apply below_alloc | apply pw_below_drewN | apply below_drew1) | exact HB.out)⟩
      rw [if_pos c11] at H; have c11b0 : decide (x6_1 < (l0.length : Int)) = true := decide_eq_true c11; clear c11
      by_cases c12 : 0 ≤ x6_1
      case neg =>
        rw [if_neg c12] at H
        exact absurd H (by simp)
      rw [if_pos c12] at H; have c12b0 : decide (0 ≤ x6_1) = true := decide_eq_true c12; clear c12
      by_cases c13 : x6_1 < (t290.length : Int)
      case neg =>
        rw [if_neg c13] at H
        exact absurd H (by simp)
      rw [if_pos c13] at H; have c13b0 : decide (x6_1 < (t290.length : Int)) = true := decide_eq_true c13; clear c13
      by_cases c14 : ((rd_T32 t290 x6_1).f1).toList = ((rd_T32 l0 x6_1).f1).toList
      case neg =>
        rw [if_neg c14] at H; have c14b0 : (((rd_T32 t290 x6_1).f1).toList == ((rd_T32 l0 x6_1).f1).toList) = false := beq_eq_false_iff_ne.mpr c14; have c14b1 : (((rd_T32 t290 x6_1).f1).toList != ((rd_T32 l0 x6_1).f1).toList) = true := bne_iff_ne.mpr c14; obtain rfl := Option.some.inj H
        try go_wp2
        have n0_ := Aside0.mk (Kd.R_drew HO_5.out); have n1_ := Aside0.mk (below_drew1 HB.out); clear HO_5; clear HB; have HO_5 := n0_; have HB := n1_; clear n0_ n1_; have p293 : 0 ≤ (x6_1 : Int) := of_decide_eq_true (by first | (with_reducible assumption) | assumption); have q293 : x6_1 < (t290.length : Int) := of_decide_eq_true (by first | (with_reducible assumption) | assumption); obtain ⟨ad293, e293, hx293_0, hx293_1⟩ := at_T32 (Kd.R_reads' HO_5.out).2.2 x6_1 p293 q293; cases e293; replace p293 := eq_true p293; replace q293 := eq_true q293; have p294 : 0 ≤ (x6_1 : Int) := of_decide_eq_true (by first | (with_reducible assumption) | assumption); have q294 : x6_1 < (l0.length : Int) := of_decide_eq_true (by first | (with_reducible assumption) | assumption); obtain ⟨ad294, e294, hx294_0, hx294_1⟩ := at_T32 HR0.out x6_1 p294 q294; have hw294_1 := hx294_1; have hw294_0 := hx294_0; cases e294; replace hx294_0 := (HB.out.cell (World.block_lt_of_cell? w _ hx294_0)).trans hx294_0; replace hx294_1 := (HB.out.cell (World.block_lt_of_cell? w _ hx294_1)).trans hx294_1; replace p294 := eq_true p294; replace q294 := eq_true q294
        refine start_ (n := 25) (S := fun w' => w'.cell? (ad293.add ((x6_1).toNat * 2)) = some (.string ((rd_T32 t290 x6_1).f0)) ∧ w'.cell? ⟨(ad293.add ((x6_1).toNat * 2)).block, (ad293.add ((x6_1).toNat * 2)).off + 1, none⟩ = some (.string ((rd_T32 t290 x6_1).f1)) ∧ w'.cell? (ad294.add ((x6_1).toNat * 2)) = some (.string ((rd_T32 l0 x6_1).f0)) ∧ w'.cell? ⟨(ad294.add ((x6_1).toNat * 2)).block, (ad294.add ((x6_1).toNat * 2)).off + 1, none⟩ = some (.string ((rd_T32 l0 x6_1).f1))) (ds := []) #[false, false, false, false, false, false, false, false, false, false, false, false, false, false, false, false, false, false, false, false, false, false, false, false, false] (by kernel_rfl) rfl rfl ⟨hx293_0, hx293_1, ((HB.out.cell (World.block_lt_of_cell? w _ hw294_0)).trans hw294_0), ((HB.out.cell (World.block_lt_of_cell? w _ hw294_1)).trans hw294_1)⟩ (fun hHeld => ?_); refine with_tabW muslinlaw08_AddrBack.tab12 muslinlaw08_AddrBack.bits12 (fun HT_ HW_ => ?_)
        generalize wr.drew = w21 at HO_5 HB hx293_0 hx293_1 hx294_0 hx294_1 hHeld ⊢
        refine pure_ (i := 0) (N := some 36) (v := ?_) (a' := ?_) #[true, false, false, false, false, false, false, false, false, false, false, false, false, false, false, false, false, false, false, false, false, false, false, false, false] rfl rfl (any_of HT_.out (by kernel_rfl)) (fun _ _ _ h => h) (Or.inl ⟨by rfl, ?_⟩) ?_ ?_
        rotate_left
        · intro w'
          go_simp
          with_reducible rfl
        rotate_left
        · simp only [Act.put, List.setIfInBounds_toArray, List.set_cons_zero, List.set_cons_succ, i64_w, i32_w]
          rfl
        refine pure_ (i := 1) (N := some 37) (v := ?_) (a' := ?_) #[true, true, false, false, false, false, false, false, false, false, false, false, false, false, false, false, false, false, false, false, false, false, false, false, false] rfl rfl (any_of HT_.out (by kernel_rfl)) (fun _ _ _ h => h) (Or.inl ⟨by rfl, ?_⟩) ?_ ?_
        rotate_left
        · intro w'
          go_simp
          with_reducible rfl
        rotate_left
        · simp only [Act.put, List.setIfInBounds_toArray, List.set_cons_zero, List.set_cons_succ, i64_w, i32_w]
          rfl
        refine pure_ (i := 2) (N := some 38) (v := ?_) (a' := ?_) #[true, true, true, false, false, false, false, false, false, false, false, false, false, false, false, false, false, false, false, false, false, false, false, false, false] rfl rfl (any_of HT_.out (by kernel_rfl)) (fun _ _ _ h => h) (Or.inl ⟨by rfl, ?_⟩) ?_ ?_
        rotate_left
        · intro w'
          go_simp
          with_reducible rfl
        rotate_left
        · simp only [Act.put, List.setIfInBounds_toArray, List.set_cons_zero, List.set_cons_succ, i64_w, i32_w]
          rfl
        refine pure_ (i := 3) (N := some 39) (v := ?_) (a' := ?_) #[true, true, true, true, false, false, false, false, false, false, false, false, false, false, false, false, false, false, false, false, false, false, false, false, false] rfl rfl (any_of HT_.out (by kernel_rfl)) (fun _ _ _ h => h) (Or.inl ⟨by rfl, ?_⟩) ?_ ?_
        rotate_left
        · intro w'
          go_simp
          with_reducible rfl
        rotate_left
        · simp only [Act.put, List.setIfInBounds_toArray, List.set_cons_zero, List.set_cons_succ, i64_w, i32_w]
          rfl
        refine pure_ (i := 5) (N := some 41) (v := ?_) (a' := ?_) #[true, true, true, true, false, true, false, false, false, false, false, false, false, false, false, false, false, false, false, false, false, false, false, false, false] rfl rfl (any_of HT_.out (by kernel_rfl)) (fun _ _ _ h => h) (Or.inl ⟨by rfl, ?_⟩) ?_ ?_
        rotate_left
        · intro w'
          go_simp
          with_reducible rfl
        rotate_left
        · simp only [Act.put, List.setIfInBounds_toArray, List.set_cons_zero, List.set_cons_succ, i64_w, i32_w]
          rfl
        refine pure_ (i := 6) (N := some 42) (v := ?_) (a' := ?_) #[true, true, true, true, false, true, true, false, false, false, false, false, false, false, false, false, false, false, false, false, false, false, false, false, false] rfl rfl (any_of HT_.out (by kernel_rfl)) (fun _ _ _ h => h) (Or.inl ⟨by rfl, ?_⟩) ?_ ?_
        rotate_left
        · intro w'
          go_simp
          with_reducible rfl
        rotate_left
        · simp only [Act.put, List.setIfInBounds_toArray, List.set_cons_zero, List.set_cons_succ, i64_w, i32_w]
          rfl
        refine pure_ (i := 7) (N := some 43) (v := ?_) (a' := ?_) #[true, true, true, true, false, true, true, true, false, false, false, false, false, false, false, false, false, false, false, false, false, false, false, false, false] rfl rfl (any_of HT_.out (by kernel_rfl)) (fun _ _ _ h => h) (Or.inl ⟨by rfl, ?_⟩) ?_ ?_
        rotate_left
        · intro w'
          go_simp
          with_reducible rfl
        rotate_left
        · simp only [Act.put, List.setIfInBounds_toArray, List.set_cons_zero, List.set_cons_succ, i64_w, i32_w]
          rfl
        refine pure_ (i := 8) (N := some 44) (v := ?_) (a' := ?_) #[true, true, true, true, false, true, true, true, true, false, false, false, false, false, false, false, false, false, false, false, false, false, false, false, false] rfl rfl (any_of HT_.out (by kernel_rfl)) (fun _ _ _ h => h) (Or.inl ⟨by rfl, ?_⟩) ?_ ?_
        rotate_left
        · intro w'
          go_simp
          with_reducible rfl
        rotate_left
        · simp only [Act.put, List.setIfInBounds_toArray, List.set_cons_zero, List.set_cons_succ, i64_w, i32_w]
          rfl
        refine take_ (i := 4) (N := some 40) (v := ?_) (a' := ?_) #[true, true, true, true, true, true, true, true, true, false, false, false, false, false, false, false, false, false, false, false, false, false, false, false, false] rfl rfl (take_ofW HT_.out HW_.out (by kernel_rfl)) (fun _ _ _ h => h) (Or.inl ⟨by rfl, ?_⟩) hHeld ?_ ?_
        rotate_left
        · rintro w' ⟨s0, s1, s2, s3⟩
          go_simp
          with_reducible rfl
        rotate_left
        · simp only [Act.put, List.setIfInBounds_toArray, List.set_cons_zero, List.set_cons_succ, i64_w, i32_w]
          rfl
        refine take_ (i := 9) (N := some 45) (v := ?_) (a' := ?_) #[true, true, true, true, true, true, true, true, true, true, false, false, false, false, false, false, false, false, false, false, false, false, false, false, false] rfl rfl (take_ofW HT_.out HW_.out (by kernel_rfl)) (fun _ _ _ h => h) (Or.inl ⟨by rfl, ?_⟩) hHeld ?_ ?_
        rotate_left
        · rintro w' ⟨s0, s1, s2, s3⟩
          go_simp
          with_reducible rfl
        rotate_left
        · simp only [Act.put, List.setIfInBounds_toArray, List.set_cons_zero, List.set_cons_succ, i64_w, i32_w]
          rfl
        refine pure_ (i := 10) (N := some 46) (v := ?_) (a' := ?_) #[true, true, true, true, true, true, true, true, true, true, true, false, false, false, false, false, false, false, false, false, false, false, false, false, false] rfl rfl (any_of HT_.out (by kernel_rfl)) (fun _ _ _ h => h) (Or.inl ⟨by rfl, ?_⟩) ?_ ?_
        rotate_left
        · intro w'
          go_simp
          with_reducible rfl
        rotate_left
        · simp only [Act.put, List.setIfInBounds_toArray, List.set_cons_zero, List.set_cons_succ, i64_w, i32_w]
          rfl
        refine pure_ (i := 11) (N := some 47) (v := ?_) (a' := ?_) #[true, true, true, true, true, true, true, true, true, true, true, true, false, false, false, false, false, false, false, false, false, false, false, false, false] rfl rfl (any_of HT_.out (by kernel_rfl)) (fun _ _ _ h => h) (Or.inl ⟨by rfl, ?_⟩) ?_ ?_
        rotate_left
        · intro w'
          go_simp
          with_reducible rfl
        rotate_left
        · simp only [Act.put, List.setIfInBounds_toArray, List.set_cons_zero, List.set_cons_succ, i64_w, i32_w]
          rfl
        refine pure_ (i := 12) (N := some 48) (v := undef) (a' := ?_) #[true, true, true, true, true, true, true, true, true, true, true, true, true, false, false, false, false, false, false, false, false, false, false, false, false] rfl rfl (any_of HT_.out (by kernel_rfl)) (fun _ _ _ h => h) (Or.inr ⟨by rfl, rfl⟩) ?_ ?_
        rotate_left
        · simp only [Act.put, List.setIfInBounds_toArray, List.set_cons_zero, List.set_cons_succ, i64_w, i32_w]
          rfl
        refine pure_ (i := 13) (N := some 49) (v := undef) (a' := ?_) #[true, true, true, true, true, true, true, true, true, true, true, true, true, true, false, false, false, false, false, false, false, false, false, false, false] rfl rfl (any_of HT_.out (by kernel_rfl)) (fun _ _ _ h => h) (Or.inr ⟨by rfl, rfl⟩) ?_ ?_
        rotate_left
        · simp only [Act.put, List.setIfInBounds_toArray, List.set_cons_zero, List.set_cons_succ, i64_w, i32_w]
          rfl
        refine pure_ (i := 14) (N := some 50) (v := undef) (a' := ?_) #[true, true, true, true, true, true, true, true, true, true, true, true, true, true, true, false, false, false, false, false, false, false, false, false, false] rfl rfl (any_of HT_.out (by kernel_rfl)) (fun _ _ _ h => h) (Or.inr ⟨by rfl, rfl⟩) ?_ ?_
        rotate_left
        · simp only [Act.put, List.setIfInBounds_toArray, List.set_cons_zero, List.set_cons_succ, i64_w, i32_w]
          rfl
        refine pure_ (i := 15) (N := some 51) (v := undef) (a' := ?_) #[true, true, true, true, true, true, true, true, true, true, true, true, true, true, true, true, false, false, false, false, false, false, false, false, false] rfl rfl (any_of HT_.out (by kernel_rfl)) (fun _ _ _ h => h) (Or.inr ⟨by rfl, rfl⟩) ?_ ?_
        rotate_left
        · simp only [Act.put, List.setIfInBounds_toArray, List.set_cons_zero, List.set_cons_succ, i64_w, i32_w]
          rfl
        refine pure_ (i := 16) (N := some 52) (v := undef) (a' := ?_) #[true, true, true, true, true, true, true, true, true, true, true, true, true, true, true, true, true, false, false, false, false, false, false, false, false] rfl rfl (any_of HT_.out (by kernel_rfl)) (fun _ _ _ h => h) (Or.inr ⟨by rfl, rfl⟩) ?_ ?_
        rotate_left
        · simp only [Act.put, List.setIfInBounds_toArray, List.set_cons_zero, List.set_cons_succ, i64_w, i32_w]
          rfl
        refine pure_ (i := 17) (N := some 53) (v := undef) (a' := ?_) #[true, true, true, true, true, true, true, true, true, true, true, true, true, true, true, true, true, true, false, false, false, false, false, false, false] rfl rfl (any_of HT_.out (by kernel_rfl)) (fun _ _ _ h => h) (Or.inr ⟨by rfl, rfl⟩) ?_ ?_
        rotate_left
        · simp only [Act.put, List.setIfInBounds_toArray, List.set_cons_zero, List.set_cons_succ, i64_w, i32_w]
          rfl
        refine pure_ (i := 18) (N := some 54) (v := undef) (a' := ?_) #[true, true, true, true, true, true, true, true, true, true, true, true, true, true, true, true, true, true, true, false, false, false, false, false, false] rfl rfl (any_of HT_.out (by kernel_rfl)) (fun _ _ _ h => h) (Or.inr ⟨by rfl, rfl⟩) ?_ ?_
        rotate_left
        · simp only [Act.put, List.setIfInBounds_toArray, List.set_cons_zero, List.set_cons_succ, i64_w, i32_w]
          rfl
        refine pure_ (i := 19) (N := some 55) (v := undef) (a' := ?_) #[true, true, true, true, true, true, true, true, true, true, true, true, true, true, true, true, true, true, true, true, false, false, false, false, false] rfl rfl (any_of HT_.out (by kernel_rfl)) (fun _ _ _ h => h) (Or.inr ⟨by rfl, rfl⟩) ?_ ?_
        rotate_left
        · simp only [Act.put, List.setIfInBounds_toArray, List.set_cons_zero, List.set_cons_succ, i64_w, i32_w]
          rfl
        refine pure_ (i := 20) (N := some 56) (v := undef) (a' := ?_) #[true, true, true, true, true, true, true, true, true, true, true, true, true, true, true, true, true, true, true, true, true, false, false, false, false] rfl rfl (any_of HT_.out (by kernel_rfl)) (fun _ _ _ h => h) (Or.inr ⟨by rfl, rfl⟩) ?_ ?_
        rotate_left
        · simp only [Act.put, List.setIfInBounds_toArray, List.set_cons_zero, List.set_cons_succ, i64_w, i32_w]
          rfl
        refine pure_ (i := 21) (N := some 57) (v := undef) (a' := ?_) #[true, true, true, true, true, true, true, true, true, true, true, true, true, true, true, true, true, true, true, true, true, true, false, false, false] rfl rfl (any_of HT_.out (by kernel_rfl)) (fun _ _ _ h => h) (Or.inr ⟨by rfl, rfl⟩) ?_ ?_
        rotate_left
        · simp only [Act.put, List.setIfInBounds_toArray, List.set_cons_zero, List.set_cons_succ, i64_w, i32_w]
          rfl
        refine pure_ (i := 22) (N := some 58) (v := undef) (a' := ?_) #[true, true, true, true, true, true, true, true, true, true, true, true, true, true, true, true, true, true, true, true, true, true, true, false, false] rfl rfl (any_of HT_.out (by kernel_rfl)) (fun _ _ _ h => h) (Or.inr ⟨by rfl, rfl⟩) ?_ ?_
        rotate_left
        · simp only [Act.put, List.setIfInBounds_toArray, List.set_cons_zero, List.set_cons_succ, i64_w, i32_w]
          rfl
        refine pure_ (i := 23) (N := some 59) (v := undef) (a' := ?_) #[true, true, true, true, true, true, true, true, true, true, true, true, true, true, true, true, true, true, true, true, true, true, true, true, false] rfl rfl (any_of HT_.out (by kernel_rfl)) (fun _ _ _ h => h) (Or.inr ⟨by rfl, rfl⟩) ?_ ?_
        rotate_left
        · simp only [Act.put, List.setIfInBounds_toArray, List.set_cons_zero, List.set_cons_succ, i64_w, i32_w]
          rfl
        refine pure_ (i := 24) (N := some 60) (v := ?_) (a' := ?_) #[true, true, true, true, true, true, true, true, true, true, true, true, true, true, true, true, true, true, true, true, true, true, true, true, true] rfl rfl (any_of HT_.out (by kernel_rfl)) (fun _ _ _ h => h) (Or.inl ⟨by rfl, ?_⟩) ?_ ?_
        rotate_left
        · intro w'
          go_simp
          with_reducible rfl
        rotate_left
        · simp only [Act.put, List.setIfInBounds_toArray, List.set_cons_zero, List.set_cons_succ, i64_w, i32_w]
          rfl
        refine done_ (done_of HT_.out (by kernel_rfl)) ?_
        try go_wp2
        go_ret
        exact ⟨by first | rfl | (simp [errW_none, errW_some] <;> rfl) | (simp [*, errW_none, errW_some] <;> rfl), by repeat (first | (with_reducible first | exact HB.out | apply below_alloc | apply pw_below_drewN | apply below_drew1) | exact HB.out)⟩
      rw [if_pos c14] at H; have c14b0 : (((rd_T32 t290 x6_1).f1).toList == ((rd_T32 l0 x6_1).f1).toList) = true := beq_iff_eq.mpr c14; have c14b1 : (((rd_T32 t290 x6_1).f1).toList != ((rd_T32 l0 x6_1).f1).toList) = false := bne_eq_false_iff_eq.mpr c14; clear c14; replace H := Option.bind_eq_some_iff.mp H; obtain ⟨t297, A150, H⟩ := H; replace H : (if ((rd_T32 t290 x6_1).f0).toList = t297.toList then (muslinlaw08_AddrBack.l0 k1 l0 t290 (wrap64 (x6_1 + 1))) else (some false)) = some r := H; have A15 := Aside0.mk A150; clear A150
      by_cases c16 : ((rd_T32 t290 x6_1).f0).toList = t297.toList
      case neg =>
        rw [if_neg c16] at H; have c16b0 : (((rd_T32 t290 x6_1).f0).toList == t297.toList) = false := beq_eq_false_iff_ne.mpr c16; have c16b1 : (((rd_T32 t290 x6_1).f0).toList != t297.toList) = true := bne_iff_ne.mpr c16; obtain rfl := Option.some.inj H
        try go_wp2
        have n0_ := Aside0.mk (Kd.R_drew HO_5.out); have n1_ := Aside0.mk (below_drew1 HB.out); clear HO_5; clear HB; have HO_5 := n0_; have HB := n1_; clear n0_ n1_; have p293 : 0 ≤ (x6_1 : Int) := of_decide_eq_true (by first | (with_reducible assumption) | assumption); have q293 : x6_1 < (t290.length : Int) := of_decide_eq_true (by first | (with_reducible assumption) | assumption); obtain ⟨ad293, e293, hx293_0, hx293_1⟩ := at_T32 (Kd.R_reads' HO_5.out).2.2 x6_1 p293 q293; cases e293; replace p293 := eq_true p293; replace q293 := eq_true q293; have p294 : 0 ≤ (x6_1 : Int) := of_decide_eq_true (by first | (with_reducible assumption) | assumption); have q294 : x6_1 < (l0.length : Int) := of_decide_eq_true (by first | (with_reducible assumption) | assumption); obtain ⟨ad294, e294, hx294_0, hx294_1⟩ := at_T32 HR0.out x6_1 p294 q294; have hw294_1 := hx294_1; have hw294_0 := hx294_0; cases e294; replace hx294_0 := (HB.out.cell (World.block_lt_of_cell? w _ hx294_0)).trans hx294_0; replace hx294_1 := (HB.out.cell (World.block_lt_of_cell? w _ hx294_1)).trans hx294_1; replace p294 := eq_true p294; replace q294 := eq_true q294; have p295 : 0 ≤ (x6_1 : Int) := of_decide_eq_true (by first | (with_reducible assumption) | assumption); have q295 : x6_1 < (t290.length : Int) := of_decide_eq_true (by first | (with_reducible assumption) | assumption); obtain ⟨ad295, e295, hx295_0, hx295_1⟩ := at_T32 (Kd.R_reads' HO_5.out).2.2 x6_1 p295 q295; obtain rfl : ad293 = ad295 := (by injection e295); replace p295 := eq_true p295; replace q295 := eq_true q295; have p296 : 0 ≤ (x6_1 : Int) := of_decide_eq_true (by first | (with_reducible assumption) | assumption); have q296 : x6_1 < (l0.length : Int) := of_decide_eq_true (by first | (with_reducible assumption) | assumption); obtain ⟨ad296, e296, hx296_0, hx296_1⟩ := at_T32 HR0.out x6_1 p296 q296; have hw296_1 := hx296_1; have hw296_0 := hx296_0; obtain rfl : ad294 = ad296 := (by injection e296); replace hx296_0 := (HB.out.cell (World.block_lt_of_cell? w _ hx296_0)).trans hx296_0; replace hx296_1 := (HB.out.cell (World.block_lt_of_cell? w _ hx296_1)).trans hx296_1; replace p296 := eq_true p296; replace q296 := eq_true q296
        refine start_ (n := 25) (S := fun w' => w'.cell? (ad293.add ((x6_1).toNat * 2)) = some (.string ((rd_T32 t290 x6_1).f0)) ∧ w'.cell? ⟨(ad293.add ((x6_1).toNat * 2)).block, (ad293.add ((x6_1).toNat * 2)).off + 1, none⟩ = some (.string ((rd_T32 t290 x6_1).f1)) ∧ w'.cell? (ad294.add ((x6_1).toNat * 2)) = some (.string ((rd_T32 l0 x6_1).f0)) ∧ w'.cell? ⟨(ad294.add ((x6_1).toNat * 2)).block, (ad294.add ((x6_1).toNat * 2)).off + 1, none⟩ = some (.string ((rd_T32 l0 x6_1).f1)) ∧ w'.cell? (ad293.add ((x6_1).toNat * 2)) = some (.string ((rd_T32 t290 x6_1).f0)) ∧ w'.cell? ⟨(ad293.add ((x6_1).toNat * 2)).block, (ad293.add ((x6_1).toNat * 2)).off + 1, none⟩ = some (.string ((rd_T32 t290 x6_1).f1)) ∧ w'.cell? (ad294.add ((x6_1).toNat * 2)) = some (.string ((rd_T32 l0 x6_1).f0)) ∧ w'.cell? ⟨(ad294.add ((x6_1).toNat * 2)).block, (ad294.add ((x6_1).toNat * 2)).off + 1, none⟩ = some (.string ((rd_T32 l0 x6_1).f1))) (ds := []) #[false, false, false, false, false, false, false, false, false, false, false, false, false, false, false, false, false, false, false, false, false, false, false, false, false] (by kernel_rfl) rfl rfl ⟨hx293_0, hx293_1, ((HB.out.cell (World.block_lt_of_cell? w _ hw294_0)).trans hw294_0), ((HB.out.cell (World.block_lt_of_cell? w _ hw294_1)).trans hw294_1), hx295_0, hx295_1, ((HB.out.cell (World.block_lt_of_cell? w _ hw296_0)).trans hw296_0), ((HB.out.cell (World.block_lt_of_cell? w _ hw296_1)).trans hw296_1)⟩ (fun hHeld => ?_); refine with_tabW muslinlaw08_AddrBack.tab12 muslinlaw08_AddrBack.bits12 (fun HT_ HW_ => ?_)
        generalize wr.drew = w19 at HO_5 HB hx293_0 hx293_1 hx294_0 hx294_1 hx295_0 hx295_1 hx296_0 hx296_1 hHeld ⊢
        refine pure_ (i := 0) (N := some 36) (v := ?_) (a' := ?_) #[true, false, false, false, false, false, false, false, false, false, false, false, false, false, false, false, false, false, false, false, false, false, false, false, false] rfl rfl (any_of HT_.out (by kernel_rfl)) (fun _ _ _ h => h) (Or.inl ⟨by rfl, ?_⟩) ?_ ?_
        rotate_left
        · intro w'
          go_simp
          with_reducible rfl
        rotate_left
        · simp only [Act.put, List.setIfInBounds_toArray, List.set_cons_zero, List.set_cons_succ, i64_w, i32_w]
          rfl
        refine pure_ (i := 1) (N := some 37) (v := ?_) (a' := ?_) #[true, true, false, false, false, false, false, false, false, false, false, false, false, false, false, false, false, false, false, false, false, false, false, false, false] rfl rfl (any_of HT_.out (by kernel_rfl)) (fun _ _ _ h => h) (Or.inl ⟨by rfl, ?_⟩) ?_ ?_
        rotate_left
        · intro w'
          go_simp
          with_reducible rfl
        rotate_left
        · simp only [Act.put, List.setIfInBounds_toArray, List.set_cons_zero, List.set_cons_succ, i64_w, i32_w]
          rfl
        refine pure_ (i := 2) (N := some 38) (v := ?_) (a' := ?_) #[true, true, true, false, false, false, false, false, false, false, false, false, false, false, false, false, false, false, false, false, false, false, false, false, false] rfl rfl (any_of HT_.out (by kernel_rfl)) (fun _ _ _ h => h) (Or.inl ⟨by rfl, ?_⟩) ?_ ?_
        rotate_left
        · intro w'
          go_simp
          with_reducible rfl
        rotate_left
        · simp only [Act.put, List.setIfInBounds_toArray, List.set_cons_zero, List.set_cons_succ, i64_w, i32_w]
          rfl
        refine pure_ (i := 3) (N := some 39) (v := ?_) (a' := ?_) #[true, true, true, true, false, false, false, false, false, false, false, false, false, false, false, false, false, false, false, false, false, false, false, false, false] rfl rfl (any_of HT_.out (by kernel_rfl)) (fun _ _ _ h => h) (Or.inl ⟨by rfl, ?_⟩) ?_ ?_
        rotate_left
        · intro w'
          go_simp
          with_reducible rfl
        rotate_left
        · simp only [Act.put, List.setIfInBounds_toArray, List.set_cons_zero, List.set_cons_succ, i64_w, i32_w]
          rfl
        refine pure_ (i := 5) (N := some 41) (v := ?_) (a' := ?_) #[true, true, true, true, false, true, false, false, false, false, false, false, false, false, false, false, false, false, false, false, false, false, false, false, false] rfl rfl (any_of HT_.out (by kernel_rfl)) (fun _ _ _ h => h) (Or.inl ⟨by rfl, ?_⟩) ?_ ?_
        rotate_left
        · intro w'
          go_simp
          with_reducible rfl
        rotate_left
        · simp only [Act.put, List.setIfInBounds_toArray, List.set_cons_zero, List.set_cons_succ, i64_w, i32_w]
          rfl
        refine pure_ (i := 6) (N := some 42) (v := ?_) (a' := ?_) #[true, true, true, true, false, true, true, false, false, false, false, false, false, false, false, false, false, false, false, false, false, false, false, false, false] rfl rfl (any_of HT_.out (by kernel_rfl)) (fun _ _ _ h => h) (Or.inl ⟨by rfl, ?_⟩) ?_ ?_
        rotate_left
        · intro w'
          go_simp
          with_reducible rfl
        rotate_left
        · simp only [Act.put, List.setIfInBounds_toArray, List.set_cons_zero, List.set_cons_succ, i64_w, i32_w]
          rfl
        refine pure_ (i := 7) (N := some 43) (v := ?_) (a' := ?_) #[true, true, true, true, false, true, true, true, false, false, false, false, false, false, false, false, false, false, false, false, false, false, false, false, false] rfl rfl (any_of HT_.out (by kernel_rfl)) (fun _ _ _ h => h) (Or.inl ⟨by rfl, ?_⟩) ?_ ?_
        rotate_left
        · intro w'
          go_simp
          with_reducible rfl
        rotate_left
        · simp only [Act.put, List.setIfInBounds_toArray, List.set_cons_zero, List.set_cons_succ, i64_w, i32_w]
          rfl
        refine pure_ (i := 8) (N := some 44) (v := ?_) (a' := ?_) #[true, true, true, true, false, true, true, true, true, false, false, false, false, false, false, false, false, false, false, false, false, false, false, false, false] rfl rfl (any_of HT_.out (by kernel_rfl)) (fun _ _ _ h => h) (Or.inl ⟨by rfl, ?_⟩) ?_ ?_
        rotate_left
        · intro w'
          go_simp
          with_reducible rfl
        rotate_left
        · simp only [Act.put, List.setIfInBounds_toArray, List.set_cons_zero, List.set_cons_succ, i64_w, i32_w]
          rfl
        refine take_ (i := 4) (N := some 40) (v := ?_) (a' := ?_) #[true, true, true, true, true, true, true, true, true, false, false, false, false, false, false, false, false, false, false, false, false, false, false, false, false] rfl rfl (take_ofW HT_.out HW_.out (by kernel_rfl)) (fun _ _ _ h => h) (Or.inl ⟨by rfl, ?_⟩) hHeld ?_ ?_
        rotate_left
        · rintro w' ⟨s0, s1, s2, s3, s4, s5, s6, s7⟩
          go_simp
          with_reducible rfl
        rotate_left
        · simp only [Act.put, List.setIfInBounds_toArray, List.set_cons_zero, List.set_cons_succ, i64_w, i32_w]
          rfl
        refine take_ (i := 9) (N := some 45) (v := ?_) (a' := ?_) #[true, true, true, true, true, true, true, true, true, true, false, false, false, false, false, false, false, false, false, false, false, false, false, false, false] rfl rfl (take_ofW HT_.out HW_.out (by kernel_rfl)) (fun _ _ _ h => h) (Or.inl ⟨by rfl, ?_⟩) hHeld ?_ ?_
        rotate_left
        · rintro w' ⟨s0, s1, s2, s3, s4, s5, s6, s7⟩
          go_simp
          with_reducible rfl
        rotate_left
        · simp only [Act.put, List.setIfInBounds_toArray, List.set_cons_zero, List.set_cons_succ, i64_w, i32_w]
          rfl
        refine pure_ (i := 10) (N := some 46) (v := ?_) (a' := ?_) #[true, true, true, true, true, true, true, true, true, true, true, false, false, false, false, false, false, false, false, false, false, false, false, false, false] rfl rfl (any_of HT_.out (by kernel_rfl)) (fun _ _ _ h => h) (Or.inl ⟨by rfl, ?_⟩) ?_ ?_
        rotate_left
        · intro w'
          go_simp
          with_reducible rfl
        rotate_left
        · simp only [Act.put, List.setIfInBounds_toArray, List.set_cons_zero, List.set_cons_succ, i64_w, i32_w]
          rfl
        refine pure_ (i := 11) (N := some 47) (v := ?_) (a' := ?_) #[true, true, true, true, true, true, true, true, true, true, true, true, false, false, false, false, false, false, false, false, false, false, false, false, false] rfl rfl (any_of HT_.out (by kernel_rfl)) (fun _ _ _ h => h) (Or.inl ⟨by rfl, ?_⟩) ?_ ?_
        rotate_left
        · intro w'
          go_simp
          with_reducible rfl
        rotate_left
        · simp only [Act.put, List.setIfInBounds_toArray, List.set_cons_zero, List.set_cons_succ, i64_w, i32_w]
          rfl
        refine pure_ (i := 12) (N := some 48) (v := ?_) (a' := ?_) #[true, true, true, true, true, true, true, true, true, true, true, true, true, false, false, false, false, false, false, false, false, false, false, false, false] rfl rfl (any_of HT_.out (by kernel_rfl)) (fun _ _ _ h => h) (Or.inl ⟨by rfl, ?_⟩) ?_ ?_
        rotate_left
        · intro w'
          go_simp
          with_reducible rfl
        rotate_left
        · simp only [Act.put, List.setIfInBounds_toArray, List.set_cons_zero, List.set_cons_succ, i64_w, i32_w]
          rfl
        refine pure_ (i := 13) (N := some 49) (v := ?_) (a' := ?_) #[true, true, true, true, true, true, true, true, true, true, true, true, true, true, false, false, false, false, false, false, false, false, false, false, false] rfl rfl (any_of HT_.out (by kernel_rfl)) (fun _ _ _ h => h) (Or.inl ⟨by rfl, ?_⟩) ?_ ?_
        rotate_left
        · intro w'
          go_simp
          with_reducible rfl
        rotate_left
        · simp only [Act.put, List.setIfInBounds_toArray, List.set_cons_zero, List.set_cons_succ, i64_w, i32_w]
          rfl
        refine pure_ (i := 14) (N := some 50) (v := ?_) (a' := ?_) #[true, true, true, true, true, true, true, true, true, true, true, true, true, true, true, false, false, false, false, false, false, false, false, false, false] rfl rfl (any_of HT_.out (by kernel_rfl)) (fun _ _ _ h => h) (Or.inl ⟨by rfl, ?_⟩) ?_ ?_
        rotate_left
        · intro w'
          go_simp
          with_reducible rfl
        rotate_left
        · simp only [Act.put, List.setIfInBounds_toArray, List.set_cons_zero, List.set_cons_succ, i64_w, i32_w]
          rfl
        refine pure_ (i := 15) (N := some 51) (v := ?_) (a' := ?_) #[true, true, true, true, true, true, true, true, true, true, true, true, true, true, true, true, false, false, false, false, false, false, false, false, false] rfl rfl (any_of HT_.out (by kernel_rfl)) (fun _ _ _ h => h) (Or.inl ⟨by rfl, ?_⟩) ?_ ?_
        rotate_left
        · intro w'
          go_simp
          with_reducible rfl
        rotate_left
        · simp only [Act.put, List.setIfInBounds_toArray, List.set_cons_zero, List.set_cons_succ, i64_w, i32_w]
          rfl
        refine pure_ (i := 17) (N := some 53) (v := ?_) (a' := ?_) #[true, true, true, true, true, true, true, true, true, true, true, true, true, true, true, true, false, true, false, false, false, false, false, false, false] rfl rfl (any_of HT_.out (by kernel_rfl)) (fun _ _ _ h => h) (Or.inl ⟨by rfl, ?_⟩) ?_ ?_
        rotate_left
        · intro w'
          go_simp
          with_reducible rfl
        rotate_left
        · simp only [Act.put, List.setIfInBounds_toArray, List.set_cons_zero, List.set_cons_succ, i64_w, i32_w]
          rfl
        refine pure_ (i := 18) (N := some 54) (v := ?_) (a' := ?_) #[true, true, true, true, true, true, true, true, true, true, true, true, true, true, true, true, false, true, true, false, false, false, false, false, false] rfl rfl (any_of HT_.out (by kernel_rfl)) (fun _ _ _ h => h) (Or.inl ⟨by rfl, ?_⟩) ?_ ?_
        rotate_left
        · intro w'
          go_simp
          with_reducible rfl
        rotate_left
        · simp only [Act.put, List.setIfInBounds_toArray, List.set_cons_zero, List.set_cons_succ, i64_w, i32_w]
          rfl
        refine pure_ (i := 19) (N := some 55) (v := ?_) (a' := ?_) #[true, true, true, true, true, true, true, true, true, true, true, true, true, true, true, true, false, true, true, true, false, false, false, false, false] rfl rfl (any_of HT_.out (by kernel_rfl)) (fun _ _ _ h => h) (Or.inl ⟨by rfl, ?_⟩) ?_ ?_
        rotate_left
        · intro w'
          go_simp
          with_reducible rfl
        rotate_left
        · simp only [Act.put, List.setIfInBounds_toArray, List.set_cons_zero, List.set_cons_succ, i64_w, i32_w]
          rfl
        refine pure_ (i := 20) (N := some 56) (v := ?_) (a' := ?_) #[true, true, true, true, true, true, true, true, true, true, true, true, true, true, true, true, false, true, true, true, true, false, false, false, false] rfl rfl (any_of HT_.out (by kernel_rfl)) (fun _ _ _ h => h) (Or.inl ⟨by rfl, ?_⟩) ?_ ?_
        rotate_left
        · intro w'
          go_simp
          with_reducible rfl
        rotate_left
        · simp only [Act.put, List.setIfInBounds_toArray, List.set_cons_zero, List.set_cons_succ, i64_w, i32_w]
          rfl
        refine take_ (i := 16) (N := some 52) (v := ?_) (a' := ?_) #[true, true, true, true, true, true, true, true, true, true, true, true, true, true, true, true, true, true, true, true, true, false, false, false, false] rfl rfl (take_ofW HT_.out HW_.out (by kernel_rfl)) (fun _ _ _ h => h) (Or.inl ⟨by rfl, ?_⟩) hHeld ?_ ?_
        rotate_left
        · rintro w' ⟨s0, s1, s2, s3, s4, s5, s6, s7⟩
          go_simp
          with_reducible rfl
        rotate_left
        · simp only [Act.put, List.setIfInBounds_toArray, List.set_cons_zero, List.set_cons_succ, i64_w, i32_w]
          rfl
        refine take_ (i := 21) (N := some 57) (v := ?_) (a' := ?_) #[true, true, true, true, true, true, true, true, true, true, true, true, true, true, true, true, true, true, true, true, true, true, false, false, false] rfl rfl (take_ofW HT_.out HW_.out (by kernel_rfl)) (fun _ _ _ h => h) (Or.inl ⟨by rfl, ?_⟩) hHeld ?_ ?_
        rotate_left
        · rintro w' ⟨s0, s1, s2, s3, s4, s5, s6, s7⟩
          go_simp
          with_reducible rfl
        rotate_left
        · simp only [Act.put, List.setIfInBounds_toArray, List.set_cons_zero, List.set_cons_succ, i64_w, i32_w]
          rfl
        refine one_ (i := 22) (N := some 58) #[true, true, true, true, true, true, true, true, true, true, true, true, true, true, true, true, true, true, true, true, true, true, true, false, false] rfl rfl (one_of HT_.out (by kernel_rfl)) (by decide) (fun K hK => ?_)
        refine goes_ Tryz.func18 (by kernel_rfl) rfl #[.string ((rd_T32 l0 x6_1).f0)] (by rfl) rfl rfl (by (try simp only [List.map_toArray, List.map_cons, List.map_nil]); first | done | rfl | (simp only [List.length_drop, List.length_take]; rfl)) ?_
        with_reducible refine (chars_Valid.calls ((rd_T32 l0 x6_1).f0) t297 _ A15.out).mono ?_
        rintro e w20 ⟨rfl, hb⟩; have HS0_ := (hb.cell (World.block_lt_of_cell? _ _ (hHeld.1))).trans (hHeld.1); have HS1_ := (hb.cell (World.block_lt_of_cell? _ _ (hHeld.2.1))).trans (hHeld.2.1); have HS4_ := (hb.cell (World.block_lt_of_cell? _ _ (hHeld.2.2.2.2.1))).trans (hHeld.2.2.2.2.1); have HS5_ := (hb.cell (World.block_lt_of_cell? _ _ (hHeld.2.2.2.2.2.1))).trans (hHeld.2.2.2.2.2.1)
        refine ⟨_, rfl, ?_⟩
        have n0_ := Aside0.mk (Kd.R_below (by (with_reducible repeat (first | apply Kd.R_alloc | apply Kd.R_drewN | apply Kd.R_drew)); exact HO_5.out) hb); have n1_ := Aside0.mk (below_step (by repeat (first | (with_reducible first | exact HB.out | apply below_alloc | apply pw_below_drewN | apply below_drew1) | exact HB.out)) hb); clear HO_5; clear HB; have HO_5 := n0_; have HB := n1_; clear n0_ n1_; (try clear hb); (try clear hb2); (try clear hk); (try clear hi)
        refine hK.out _ _ ⟨HS0_, HS1_, ((HB.out.cell (World.block_lt_of_cell? w _ hw294_0)).trans hw294_0), ((HB.out.cell (World.block_lt_of_cell? w _ hw294_1)).trans hw294_1), HS4_, HS5_, ((HB.out.cell (World.block_lt_of_cell? w _ hw296_0)).trans hw296_0), ((HB.out.cell (World.block_lt_of_cell? w _ hw296_1)).trans hw296_1)⟩ (fun hHeld => ?_)
        clear hK K
        refine norm_ (a' := ?_) ?_ ?_
        rotate_left
        · show Act.put _ (some 58) _ = _
          simp only [Act.put, List.setIfInBounds_toArray, List.set_cons_zero, List.set_cons_succ, i64_w, i32_w]
          rfl
        refine pure_ (i := 23) (N := some 59) (v := ?_) (a' := ?_) #[true, true, true, true, true, true, true, true, true, true, true, true, true, true, true, true, true, true, true, true, true, true, true, true, false] rfl rfl (any_of HT_.out (by kernel_rfl)) (fun _ _ _ h => h) (Or.inl ⟨by rfl, ?_⟩) ?_ ?_
        rotate_left
        · intro w'
          go_simp
          with_reducible rfl
        rotate_left
        · simp only [Act.put, List.setIfInBounds_toArray, List.set_cons_zero, List.set_cons_succ, i64_w, i32_w]
          rfl
        refine pure_ (i := 24) (N := some 60) (v := ?_) (a' := ?_) #[true, true, true, true, true, true, true, true, true, true, true, true, true, true, true, true, true, true, true, true, true, true, true, true, true] rfl rfl (any_of HT_.out (by kernel_rfl)) (fun _ _ _ h => h) (Or.inl ⟨by rfl, ?_⟩) ?_ ?_
        rotate_left
        · intro w'
          go_simp
          with_reducible rfl
        rotate_left
        · simp only [Act.put, List.setIfInBounds_toArray, List.set_cons_zero, List.set_cons_succ, i64_w, i32_w]
          rfl
        refine done_ (done_of HT_.out (by kernel_rfl)) ?_
        try go_wp2
        go_ret
        exact ⟨by first | rfl | (simp [errW_none, errW_some] <;> rfl) | (simp [*, errW_none, errW_some] <;> rfl), by repeat (first | (with_reducible first | exact HB.out | apply below_alloc | apply pw_below_drewN | apply below_drew1) | exact HB.out)⟩
      rw [if_pos c16] at H; have c16b0 : (((rd_T32 t290 x6_1).f0).toList == t297.toList) = true := beq_iff_eq.mpr c16; have c16b1 : (((rd_T32 t290 x6_1).f0).toList != t297.toList) = false := bne_eq_false_iff_eq.mpr c16; clear c16; have H' := Aside0.mk H; clear H
      try go_wp2
      have n0_ := Aside0.mk (Kd.R_drew HO_5.out); have n1_ := Aside0.mk (below_drew1 HB.out); clear HO_5; clear HB; have HO_5 := n0_; have HB := n1_; clear n0_ n1_; have p293 : 0 ≤ (x6_1 : Int) := of_decide_eq_true (by first | (with_reducible assumption) | assumption); have q293 : x6_1 < (t290.length : Int) := of_decide_eq_true (by first | (with_reducible assumption) | assumption); obtain ⟨ad293, e293, hx293_0, hx293_1⟩ := at_T32 (Kd.R_reads' HO_5.out).2.2 x6_1 p293 q293; cases e293; replace p293 := eq_true p293; replace q293 := eq_true q293; have p294 : 0 ≤ (x6_1 : Int) := of_decide_eq_true (by first | (with_reducible assumption) | assumption); have q294 : x6_1 < (l0.length : Int) := of_decide_eq_true (by first | (with_reducible assumption) | assumption); obtain ⟨ad294, e294, hx294_0, hx294_1⟩ := at_T32 HR0.out x6_1 p294 q294; have hw294_1 := hx294_1; have hw294_0 := hx294_0; cases e294; replace hx294_0 := (HB.out.cell (World.block_lt_of_cell? w _ hx294_0)).trans hx294_0; replace hx294_1 := (HB.out.cell (World.block_lt_of_cell? w _ hx294_1)).trans hx294_1; replace p294 := eq_true p294; replace q294 := eq_true q294; have p295 : 0 ≤ (x6_1 : Int) := of_decide_eq_true (by first | (with_reducible assumption) | assumption); have q295 : x6_1 < (t290.length : Int) := of_decide_eq_true (by first | (with_reducible assumption) | assumption); obtain ⟨ad295, e295, hx295_0, hx295_1⟩ := at_T32 (Kd.R_reads' HO_5.out).2.2 x6_1 p295 q295; obtain rfl : ad293 = ad295 := (by injection e295); replace p295 := eq_true p295; replace q295 := eq_true q295; have p296 : 0 ≤ (x6_1 : Int) := of_decide_eq_true (by first | (with_reducible assumption) | assumption); have q296 : x6_1 < (l0.length : Int) := of_decide_eq_true (by first | (with_reducible assumption) | assumption); obtain ⟨ad296, e296, hx296_0, hx296_1⟩ := at_T32 HR0.out x6_1 p296 q296; have hw296_1 := hx296_1; have hw296_0 := hx296_0; obtain rfl : ad294 = ad296 := (by injection e296); replace hx296_0 := (HB.out.cell (World.block_lt_of_cell? w _ hx296_0)).trans hx296_0; replace hx296_1 := (HB.out.cell (World.block_lt_of_cell? w _ hx296_1)).trans hx296_1; replace p296 := eq_true p296; replace q296 := eq_true q296
      refine start_ (n := 25) (S := fun w' => w'.cell? (ad293.add ((x6_1).toNat * 2)) = some (.string ((rd_T32 t290 x6_1).f0)) ∧ w'.cell? ⟨(ad293.add ((x6_1).toNat * 2)).block, (ad293.add ((x6_1).toNat * 2)).off + 1, none⟩ = some (.string ((rd_T32 t290 x6_1).f1)) ∧ w'.cell? (ad294.add ((x6_1).toNat * 2)) = some (.string ((rd_T32 l0 x6_1).f0)) ∧ w'.cell? ⟨(ad294.add ((x6_1).toNat * 2)).block, (ad294.add ((x6_1).toNat * 2)).off + 1, none⟩ = some (.string ((rd_T32 l0 x6_1).f1)) ∧ w'.cell? (ad293.add ((x6_1).toNat * 2)) = some (.string ((rd_T32 t290 x6_1).f0)) ∧ w'.cell? ⟨(ad293.add ((x6_1).toNat * 2)).block, (ad293.add ((x6_1).toNat * 2)).off + 1, none⟩ = some (.string ((rd_T32 t290 x6_1).f1)) ∧ w'.cell? (ad294.add ((x6_1).toNat * 2)) = some (.string ((rd_T32 l0 x6_1).f0)) ∧ w'.cell? ⟨(ad294.add ((x6_1).toNat * 2)).block, (ad294.add ((x6_1).toNat * 2)).off + 1, none⟩ = some (.string ((rd_T32 l0 x6_1).f1))) (ds := []) #[false, false, false, false, false, false, false, false, false, false, false, false, false, false, false, false, false, false, false, false, false, false, false, false, false] (by kernel_rfl) rfl rfl ⟨hx293_0, hx293_1, ((HB.out.cell (World.block_lt_of_cell? w _ hw294_0)).trans hw294_0), ((HB.out.cell (World.block_lt_of_cell? w _ hw294_1)).trans hw294_1), hx295_0, hx295_1, ((HB.out.cell (World.block_lt_of_cell? w _ hw296_0)).trans hw296_0), ((HB.out.cell (World.block_lt_of_cell? w _ hw296_1)).trans hw296_1)⟩ (fun hHeld => ?_); refine with_tabW muslinlaw08_AddrBack.tab12 muslinlaw08_AddrBack.bits12 (fun HT_ HW_ => ?_)
      generalize wr.drew = w17 at HO_5 HB hx293_0 hx293_1 hx294_0 hx294_1 hx295_0 hx295_1 hx296_0 hx296_1 hHeld ⊢
      refine pure_ (i := 0) (N := some 36) (v := ?_) (a' := ?_) #[true, false, false, false, false, false, false, false, false, false, false, false, false, false, false, false, false, false, false, false, false, false, false, false, false] rfl rfl (any_of HT_.out (by kernel_rfl)) (fun _ _ _ h => h) (Or.inl ⟨by rfl, ?_⟩) ?_ ?_
      rotate_left
      · intro w'
        go_simp
        with_reducible rfl
      rotate_left
      · simp only [Act.put, List.setIfInBounds_toArray, List.set_cons_zero, List.set_cons_succ, i64_w, i32_w]
        rfl
      refine pure_ (i := 1) (N := some 37) (v := ?_) (a' := ?_) #[true, true, false, false, false, false, false, false, false, false, false, false, false, false, false, false, false, false, false, false, false, false, false, false, false] rfl rfl (any_of HT_.out (by kernel_rfl)) (fun _ _ _ h => h) (Or.inl ⟨by rfl, ?_⟩) ?_ ?_
      rotate_left
      · intro w'
        go_simp
        with_reducible rfl
      rotate_left
      · simp only [Act.put, List.setIfInBounds_toArray, List.set_cons_zero, List.set_cons_succ, i64_w, i32_w]
        rfl
      refine pure_ (i := 2) (N := some 38) (v := ?_) (a' := ?_) #[true, true, true, false, false, false, false, false, false, false, false, false, false, false, false, false, false, false, false, false, false, false, false, false, false] rfl rfl (any_of HT_.out (by kernel_rfl)) (fun _ _ _ h => h) (Or.inl ⟨by rfl, ?_⟩) ?_ ?_
      rotate_left
      · intro w'
        go_simp
        with_reducible rfl
      rotate_left
      · simp only [Act.put, List.setIfInBounds_toArray, List.set_cons_zero, List.set_cons_succ, i64_w, i32_w]
        rfl
      refine pure_ (i := 3) (N := some 39) (v := ?_) (a' := ?_) #[true, true, true, true, false, false, false, false, false, false, false, false, false, false, false, false, false, false, false, false, false, false, false, false, false] rfl rfl (any_of HT_.out (by kernel_rfl)) (fun _ _ _ h => h) (Or.inl ⟨by rfl, ?_⟩) ?_ ?_
      rotate_left
      · intro w'
        go_simp
        with_reducible rfl
      rotate_left
      · simp only [Act.put, List.setIfInBounds_toArray, List.set_cons_zero, List.set_cons_succ, i64_w, i32_w]
        rfl
      refine pure_ (i := 5) (N := some 41) (v := ?_) (a' := ?_) #[true, true, true, true, false, true, false, false, false, false, false, false, false, false, false, false, false, false, false, false, false, false, false, false, false] rfl rfl (any_of HT_.out (by kernel_rfl)) (fun _ _ _ h => h) (Or.inl ⟨by rfl, ?_⟩) ?_ ?_
      rotate_left
      · intro w'
        go_simp
        with_reducible rfl
      rotate_left
      · simp only [Act.put, List.setIfInBounds_toArray, List.set_cons_zero, List.set_cons_succ, i64_w, i32_w]
        rfl
      refine pure_ (i := 6) (N := some 42) (v := ?_) (a' := ?_) #[true, true, true, true, false, true, true, false, false, false, false, false, false, false, false, false, false, false, false, false, false, false, false, false, false] rfl rfl (any_of HT_.out (by kernel_rfl)) (fun _ _ _ h => h) (Or.inl ⟨by rfl, ?_⟩) ?_ ?_
      rotate_left
      · intro w'
        go_simp
        with_reducible rfl
      rotate_left
      · simp only [Act.put, List.setIfInBounds_toArray, List.set_cons_zero, List.set_cons_succ, i64_w, i32_w]
        rfl
      refine pure_ (i := 7) (N := some 43) (v := ?_) (a' := ?_) #[true, true, true, true, false, true, true, true, false, false, false, false, false, false, false, false, false, false, false, false, false, false, false, false, false] rfl rfl (any_of HT_.out (by kernel_rfl)) (fun _ _ _ h => h) (Or.inl ⟨by rfl, ?_⟩) ?_ ?_
      rotate_left
      · intro w'
        go_simp
        with_reducible rfl
      rotate_left
      · simp only [Act.put, List.setIfInBounds_toArray, List.set_cons_zero, List.set_cons_succ, i64_w, i32_w]
        rfl
      refine pure_ (i := 8) (N := some 44) (v := ?_) (a' := ?_) #[true, true, true, true, false, true, true, true, true, false, false, false, false, false, false, false, false, false, false, false, false, false, false, false, false] rfl rfl (any_of HT_.out (by kernel_rfl)) (fun _ _ _ h => h) (Or.inl ⟨by rfl, ?_⟩) ?_ ?_
      rotate_left
      · intro w'
        go_simp
        with_reducible rfl
      rotate_left
      · simp only [Act.put, List.setIfInBounds_toArray, List.set_cons_zero, List.set_cons_succ, i64_w, i32_w]
        rfl
      refine take_ (i := 4) (N := some 40) (v := ?_) (a' := ?_) #[true, true, true, true, true, true, true, true, true, false, false, false, false, false, false, false, false, false, false, false, false, false, false, false, false] rfl rfl (take_ofW HT_.out HW_.out (by kernel_rfl)) (fun _ _ _ h => h) (Or.inl ⟨by rfl, ?_⟩) hHeld ?_ ?_
      rotate_left
      · rintro w' ⟨s0, s1, s2, s3, s4, s5, s6, s7⟩
        go_simp
        with_reducible rfl
      rotate_left
      · simp only [Act.put, List.setIfInBounds_toArray, List.set_cons_zero, List.set_cons_succ, i64_w, i32_w]
        rfl
      refine take_ (i := 9) (N := some 45) (v := ?_) (a' := ?_) #[true, true, true, true, true, true, true, true, true, true, false, false, false, false, false, false, false, false, false, false, false, false, false, false, false] rfl rfl (take_ofW HT_.out HW_.out (by kernel_rfl)) (fun _ _ _ h => h) (Or.inl ⟨by rfl, ?_⟩) hHeld ?_ ?_
      rotate_left
      · rintro w' ⟨s0, s1, s2, s3, s4, s5, s6, s7⟩
        go_simp
        with_reducible rfl
      rotate_left
      · simp only [Act.put, List.setIfInBounds_toArray, List.set_cons_zero, List.set_cons_succ, i64_w, i32_w]
        rfl
      refine pure_ (i := 10) (N := some 46) (v := ?_) (a' := ?_) #[true, true, true, true, true, true, true, true, true, true, true, false, false, false, false, false, false, false, false, false, false, false, false, false, false] rfl rfl (any_of HT_.out (by kernel_rfl)) (fun _ _ _ h => h) (Or.inl ⟨by rfl, ?_⟩) ?_ ?_
      rotate_left
      · intro w'
        go_simp
        with_reducible rfl
      rotate_left
      · simp only [Act.put, List.setIfInBounds_toArray, List.set_cons_zero, List.set_cons_succ, i64_w, i32_w]
        rfl
      refine pure_ (i := 11) (N := some 47) (v := ?_) (a' := ?_) #[true, true, true, true, true, true, true, true, true, true, true, true, false, false, false, false, false, false, false, false, false, false, false, false, false] rfl rfl (any_of HT_.out (by kernel_rfl)) (fun _ _ _ h => h) (Or.inl ⟨by rfl, ?_⟩) ?_ ?_
      rotate_left
      · intro w'
        go_simp
        with_reducible rfl
      rotate_left
      · simp only [Act.put, List.setIfInBounds_toArray, List.set_cons_zero, List.set_cons_succ, i64_w, i32_w]
        rfl
      refine pure_ (i := 12) (N := some 48) (v := ?_) (a' := ?_) #[true, true, true, true, true, true, true, true, true, true, true, true, true, false, false, false, false, false, false, false, false, false, false, false, false] rfl rfl (any_of HT_.out (by kernel_rfl)) (fun _ _ _ h => h) (Or.inl ⟨by rfl, ?_⟩) ?_ ?_
      rotate_left
      · intro w'
        go_simp
        with_reducible rfl
      rotate_left
      · simp only [Act.put, List.setIfInBounds_toArray, List.set_cons_zero, List.set_cons_succ, i64_w, i32_w]
        rfl
      refine pure_ (i := 13) (N := some 49) (v := ?_) (a' := ?_) #[true, true, true, true, true, true, true, true, true, true, true, true, true, true, false, false, false, false, false, false, false, false, false, false, false] rfl rfl (any_of HT_.out (by kernel_rfl)) (fun _ _ _ h => h) (Or.inl ⟨by rfl, ?_⟩) ?_ ?_
      rotate_left
      · intro w'
        go_simp
        with_reducible rfl
      rotate_left
      · simp only [Act.put, List.setIfInBounds_toArray, List.set_cons_zero, List.set_cons_succ, i64_w, i32_w]
        rfl
      refine pure_ (i := 14) (N := some 50) (v := ?_) (a' := ?_) #[true, true, true, true, true, true, true, true, true, true, true, true, true, true, true, false, false, false, false, false, false, false, false, false, false] rfl rfl (any_of HT_.out (by kernel_rfl)) (fun _ _ _ h => h) (Or.inl ⟨by rfl, ?_⟩) ?_ ?_
      rotate_left
      · intro w'
        go_simp
        with_reducible rfl
      rotate_left
      · simp only [Act.put, List.setIfInBounds_toArray, List.set_cons_zero, List.set_cons_succ, i64_w, i32_w]
        rfl
      refine pure_ (i := 15) (N := some 51) (v := ?_) (a' := ?_) #[true, true, true, true, true, true, true, true, true, true, true, true, true, true, true, true, false, false, false, false, false, false, false, false, false] rfl rfl (any_of HT_.out (by kernel_rfl)) (fun _ _ _ h => h) (Or.inl ⟨by rfl, ?_⟩) ?_ ?_
      rotate_left
      · intro w'
        go_simp
        with_reducible rfl
      rotate_left
      · simp only [Act.put, List.setIfInBounds_toArray, List.set_cons_zero, List.set_cons_succ, i64_w, i32_w]
        rfl
      refine pure_ (i := 17) (N := some 53) (v := ?_) (a' := ?_) #[true, true, true, true, true, true, true, true, true, true, true, true, true, true, true, true, false, true, false, false, false, false, false, false, false] rfl rfl (any_of HT_.out (by kernel_rfl)) (fun _ _ _ h => h) (Or.inl ⟨by rfl, ?_⟩) ?_ ?_
      rotate_left
      · intro w'
        go_simp
        with_reducible rfl
      rotate_left
      · simp only [Act.put, List.setIfInBounds_toArray, List.set_cons_zero, List.set_cons_succ, i64_w, i32_w]
        rfl
      refine pure_ (i := 18) (N := some 54) (v := ?_) (a' := ?_) #[true, true, true, true, true, true, true, true, true, true, true, true, true, true, true, true, false, true, true, false, false, false, false, false, false] rfl rfl (any_of HT_.out (by kernel_rfl)) (fun _ _ _ h => h) (Or.inl ⟨by rfl, ?_⟩) ?_ ?_
      rotate_left
      · intro w'
        go_simp
        with_reducible rfl
      rotate_left
      · simp only [Act.put, List.setIfInBounds_toArray, List.set_cons_zero, List.set_cons_succ, i64_w, i32_w]
        rfl
      refine pure_ (i := 19) (N := some 55) (v := ?_) (a' := ?_) #[true, true, true, true, true, true, true, true, true, true, true, true, true, true, true, true, false, true, true, true, false, false, false, false, false] rfl rfl (any_of HT_.out (by kernel_rfl)) (fun _ _ _ h => h) (Or.inl ⟨by rfl, ?_⟩) ?_ ?_
      rotate_left
      · intro w'
        go_simp
        with_reducible rfl
      rotate_left
      · simp only [Act.put, List.setIfInBounds_toArray, List.set_cons_zero, List.set_cons_succ, i64_w, i32_w]
        rfl
      refine pure_ (i := 20) (N := some 56) (v := ?_) (a' := ?_) #[true, true, true, true, true, true, true, true, true, true, true, true, true, true, true, true, false, true, true, true, true, false, false, false, false] rfl rfl (any_of HT_.out (by kernel_rfl)) (fun _ _ _ h => h) (Or.inl ⟨by rfl, ?_⟩) ?_ ?_
      rotate_left
      · intro w'
        go_simp
        with_reducible rfl
      rotate_left
      · simp only [Act.put, List.setIfInBounds_toArray, List.set_cons_zero, List.set_cons_succ, i64_w, i32_w]
        rfl
      refine take_ (i := 16) (N := some 52) (v := ?_) (a' := ?_) #[true, true, true, true, true, true, true, true, true, true, true, true, true, true, true, true, true, true, true, true, true, false, false, false, false] rfl rfl (take_ofW HT_.out HW_.out (by kernel_rfl)) (fun _ _ _ h => h) (Or.inl ⟨by rfl, ?_⟩) hHeld ?_ ?_
      rotate_left
      · rintro w' ⟨s0, s1, s2, s3, s4, s5, s6, s7⟩
        go_simp
        with_reducible rfl
      rotate_left
      · simp only [Act.put, List.setIfInBounds_toArray, List.set_cons_zero, List.set_cons_succ, i64_w, i32_w]
        rfl
      refine take_ (i := 21) (N := some 57) (v := ?_) (a' := ?_) #[true, true, true, true, true, true, true, true, true, true, true, true, true, true, true, true, true, true, true, true, true, true, false, false, false] rfl rfl (take_ofW HT_.out HW_.out (by kernel_rfl)) (fun _ _ _ h => h) (Or.inl ⟨by rfl, ?_⟩) hHeld ?_ ?_
      rotate_left
      · rintro w' ⟨s0, s1, s2, s3, s4, s5, s6, s7⟩
        go_simp
        with_reducible rfl
      rotate_left
      · simp only [Act.put, List.setIfInBounds_toArray, List.set_cons_zero, List.set_cons_succ, i64_w, i32_w]
        rfl
      refine one_ (i := 22) (N := some 58) #[true, true, true, true, true, true, true, true, true, true, true, true, true, true, true, true, true, true, true, true, true, true, true, false, false] rfl rfl (one_of HT_.out (by kernel_rfl)) (by decide) (fun K hK => ?_)
      refine goes_ Tryz.func18 (by kernel_rfl) rfl #[.string ((rd_T32 l0 x6_1).f0)] (by rfl) rfl rfl (by (try simp only [List.map_toArray, List.map_cons, List.map_nil]); first | done | rfl | (simp only [List.length_drop, List.length_take]; rfl)) ?_
      with_reducible refine (chars_Valid.calls ((rd_T32 l0 x6_1).f0) t297 _ A15.out).mono ?_
      rintro e w18 ⟨rfl, hb⟩; have HS0_ := (hb.cell (World.block_lt_of_cell? _ _ (hHeld.1))).trans (hHeld.1); have HS1_ := (hb.cell (World.block_lt_of_cell? _ _ (hHeld.2.1))).trans (hHeld.2.1); have HS4_ := (hb.cell (World.block_lt_of_cell? _ _ (hHeld.2.2.2.2.1))).trans (hHeld.2.2.2.2.1); have HS5_ := (hb.cell (World.block_lt_of_cell? _ _ (hHeld.2.2.2.2.2.1))).trans (hHeld.2.2.2.2.2.1)
      refine ⟨_, rfl, ?_⟩
      have n0_ := Aside0.mk (Kd.R_below (by (with_reducible repeat (first | apply Kd.R_alloc | apply Kd.R_drewN | apply Kd.R_drew)); exact HO_5.out) hb); have n1_ := Aside0.mk (below_step (by repeat (first | (with_reducible first | exact HB.out | apply below_alloc | apply pw_below_drewN | apply below_drew1) | exact HB.out)) hb); clear HO_5; clear HB; have HO_5 := n0_; have HB := n1_; clear n0_ n1_; (try clear hb); (try clear hb2); (try clear hk); (try clear hi)
      refine hK.out _ _ ⟨HS0_, HS1_, ((HB.out.cell (World.block_lt_of_cell? w _ hw294_0)).trans hw294_0), ((HB.out.cell (World.block_lt_of_cell? w _ hw294_1)).trans hw294_1), HS4_, HS5_, ((HB.out.cell (World.block_lt_of_cell? w _ hw296_0)).trans hw296_0), ((HB.out.cell (World.block_lt_of_cell? w _ hw296_1)).trans hw296_1)⟩ (fun hHeld => ?_)
      clear hK K
      refine norm_ (a' := ?_) ?_ ?_
      rotate_left
      · show Act.put _ (some 58) _ = _
        simp only [Act.put, List.setIfInBounds_toArray, List.set_cons_zero, List.set_cons_succ, i64_w, i32_w]
        rfl
      refine pure_ (i := 23) (N := some 59) (v := ?_) (a' := ?_) #[true, true, true, true, true, true, true, true, true, true, true, true, true, true, true, true, true, true, true, true, true, true, true, true, false] rfl rfl (any_of HT_.out (by kernel_rfl)) (fun _ _ _ h => h) (Or.inl ⟨by rfl, ?_⟩) ?_ ?_
      rotate_left
      · intro w'
        go_simp
        with_reducible rfl
      rotate_left
      · simp only [Act.put, List.setIfInBounds_toArray, List.set_cons_zero, List.set_cons_succ, i64_w, i32_w]
        rfl
      refine pure_ (i := 24) (N := some 60) (v := ?_) (a' := ?_) #[true, true, true, true, true, true, true, true, true, true, true, true, true, true, true, true, true, true, true, true, true, true, true, true, true] rfl rfl (any_of HT_.out (by kernel_rfl)) (fun _ _ _ h => h) (Or.inl ⟨by rfl, ?_⟩) ?_ ?_
      rotate_left
      · intro w'
        go_simp
        with_reducible rfl
      rotate_left
      · simp only [Act.put, List.setIfInBounds_toArray, List.set_cons_zero, List.set_cons_succ, i64_w, i32_w]
        rfl
      refine done_ (done_of HT_.out (by kernel_rfl)) ?_
      try go_wp2
      go_roundg k1
      case measure => have := HK1.out; omega
      case rel => exact ⟨(wrap64 (x6_1 + 1)), (by first | rfl | (simp; done) | (simp [*]; done)), H', ⟨by have := HK1.out; omega⟩, ⟨by (with_reducible repeat (first | apply Kd.R_alloc | apply Kd.R_drewN | apply Kd.R_drew)); exact HO_5.out⟩, ⟨by repeat (first | (with_reducible first | exact HB.out | apply below_alloc | apply pw_below_drewN | apply below_drew1) | exact HB.out)⟩⟩
end Go.Proofs.YtpcncpegbboljaaGreatDoor.P
namespace Go.Proofs.YtpcncpegbboljaaGreatDoor.Pure
open Go.RowKit Go.Lib Go.Proofs.YtpcncpegbboljaaGreatDoor Go.Proofs.YtpcncpegbboljaaGreatDoor.P Go.Proofs.YtpcncpegbboljaaGreatDoor.Addr Go.Proofs.YtpcncpegbboljaaGreatDoorW.PrintWords Go.Proofs.YtpcncpegbboljaaGreatDoorW.PrintLast Go.Proofs.YtpcncpegbboljaaGreatDoorW.PrintMore
set_option linter.unusedVariables false
set_option linter.unusedSimpArgs false
def mkB (l : List UInt8) : ByteArray := ⟨l.toArray⟩
theorem mkB_data (l : List UInt8) : (mkB l).data.toList = l := rfl
theorem mkB_size (l : List UInt8) : (mkB l).size = l.length := mk_size l
end Go.Proofs.YtpcncpegbboljaaGreatDoor.Pure
namespace Go.Proofs.YtpcncpegbboljaaGreatDoor.Pure
open Go.RowKit Go.Lib Go.Proofs.YtpcncpegbboljaaGreatDoor Go.Proofs.YtpcncpegbboljaaGreatDoor.P Go.Proofs.YtpcncpegbboljaaGreatDoor.Addr Go.Proofs.YtpcncpegbboljaaGreatDoorW.PrintWords Go.Proofs.YtpcncpegbboljaaGreatDoorW.PrintLast Go.Proofs.YtpcncpegbboljaaGreatDoorW.PrintMore
set_option linter.unusedVariables false
set_option linter.unusedSimpArgs false
theorem live_100 : muslinlaw08_live.f 100 = some true := by kernel_rfl
theorem live_is : Ev (fun k => muslinlaw08_live.f k) true := Ev.of (fun k => muslinlaw08_live.mono k) live_100
theorem live_end : Ev (fun k => (muslinlaw08_live.f k).bind fun t => some t) true := Ev.bind live_is (Ev.now _)
theorem rd_box (l : List (List UInt8 × List UInt8)) (i : Nat) (h : i < l.length) : rd_T32 (l.map toBox) (i : Int) = toBox l[i] := by
  unfold rd_T32
  simp [h]
theorem toBox0 (x : List UInt8 × List UInt8) : (toBox x).f0.data.toList = x.1 := rfl
theorem toBox1 (x : List UInt8 × List UInt8) : (toBox x).f1.data.toList = x.2 := rfl
theorem valid_got (s : ByteArray) (h : s.size ≤ 100000000) : chars_Valid.f s = some (mkB (vl s.data.toList)) := by
  unfold chars_Valid.f
  rw [if_pos (by omega), validS_eq]; rfl
def allB (l : List S32) : Bool := l.all fun x => decide (x.f0.size ≤ 300) && decide (x.f1.size ≤ 300)
def fewB (l : List S32) : Bool := decide (l.length ≤ 40) && allB l
theorem few_loop (l : List S32) (hl : l.length ≤ 40) : ∀ (n i : Nat), l.length - i ≤ n → Ev (fun k => muslinlaw08_few.l0 k l (i : Int)) (allB (l.drop i)) := by
  intro n
  induction n with
  | zero =>
    intro i h
    refine Ev.round (fun k => by rw [muslinlaw08_few.l0]) ?_
    refine Ev.neg (by omega) ?_
    rw [List.drop_eq_nil_of_le (by omega)]
    exact Ev.now _
  | succ n ih =>
    intro i h
    refine Ev.round (fun k => by rw [muslinlaw08_few.l0]) ?_
    by_cases hlt : i < l.length
    · have hrd : rd_T32 l (i : Int) = l[i] := by unfold rd_T32; simp [hlt]
      have e : allB (l.drop i) = (decide (l[i].f0.size ≤ 300) && decide (l[i].f1.size ≤ 300) && allB (l.drop (i + 1))) := by
        rw [List.drop_eq_getElem_cons hlt]; rfl
      refine Ev.pos (by omega) ?_
      refine Ev.pos (by omega) ?_
      rw [hrd, e]
      by_cases h0 : l[i].f0.size ≤ 300
      · refine Ev.neg (by omega) ?_
        by_cases h1 : l[i].f1.size ≤ 300
        · refine Ev.neg (by omega) ?_
          rw [decide_eq_true h0, decide_eq_true h1, w64 (x := (i : Int) + 1) (by omega) (by omega), show ((i : Int) + 1) = ((i + 1 : Nat) : Int) from by omega]
          exact ih (i + 1) (by omega)
        · refine Ev.pos (by omega) ?_
          rw [decide_eq_true h0, decide_eq_false h1]
          exact Ev.now _
      · refine Ev.pos (by omega) ?_
        rw [decide_eq_false h0]
        exact Ev.now _
    · refine Ev.neg (by omega) ?_
      rw [List.drop_eq_nil_of_le (by omega)]
      exact Ev.now _
theorem few_is (l : List S32) : Ev (fun k => muslinlaw08_few.f k l) (fewB l) := by
  unfold muslinlaw08_few.f
  by_cases h : l.length ≤ 40
  · refine Ev.neg (by omega) ?_
    unfold fewB
    rw [decide_eq_true h]
    have := few_loop l h _ 0 (Nat.le_refl _)
    rw [List.drop_zero] at this
    exact this
  · refine Ev.pos (by omega) ?_
    unfold fewB
    rw [decide_eq_false h]
    exact Ev.now _
theorem small_few (l : List S32) (h : fewB l = true) : smallB l := by
  unfold fewB allB at h
  rw [Bool.and_eq_true] at h
  refine ⟨of_decide_eq_true h.1, fun x hx => ?_⟩
  have := List.all_eq_true.1 h.2 x hx
  rw [Bool.and_eq_true] at this
  exact ⟨of_decide_eq_true this.1, of_decide_eq_true this.2⟩
theorem write_got (l : List S32) (h : smallB l) : addr_Write.f l = some (mkB (writeL (l.map boxOf)).1, (writeL (l.map boxOf)).2) := guard_of h
theorem writes_small : ∀ (l : List (List UInt8 × List UInt8)) (es : List (List UInt8)), (∀ x ∈ l, x.1.length ≤ 300 ∧ x.2.length ≤ 300) → writesL l = some es → es.length = l.length ∧ ∀ e ∈ es, e.length ≤ 2400
  | [], es, _, h => by obtain rfl := Option.some.inj h; simp
  | x :: l, es, hz, h => by
    simp only [writesL] at h
    obtain ⟨e, h1, h⟩ := Option.bind_eq_some_iff.1 h
    obtain ⟨r, h2, h⟩ := Option.bind_eq_some_iff.1 h
    obtain rfl := Option.some.inj h
    obtain ⟨i1, i2⟩ := writes_small l r (fun y hy => hz y (List.mem_cons_of_mem _ hy)) h2
    obtain ⟨z1, z2⟩ := hz x (by simp)
    refine ⟨by simp [i1], fun y hy => ?_⟩
    rcases List.mem_cons.1 hy with rfl | hy
    · exact oneW_small _ _ _ z1 z2 h1
    · exact i2 y hy
theorem written (l : List S32) (h : smallB l) (es : List (List UInt8)) (he : writesL (l.map boxOf) = some es) : (joinW es).length ≤ 100000 := by
  obtain ⟨i1, i2⟩ := writes_small (l.map boxOf) es (fun x hx => by
    obtain ⟨y, hy, rfl⟩ := List.mem_map.1 hx
    have := h.2 y hy
    exact ⟨by show y.f0.data.toList.length ≤ _; rw [sizeL]; exact this.1, by show y.f1.data.toList.length ≤ _; rw [sizeL]; exact this.2⟩) he
  have := join_len es i2
  rw [List.length_map] at i1
  have := h.1
  have : 2402 * es.length ≤ 2402 * 40 := Nat.mul_le_mul_left _ (by omega)
  omega
theorem made_len (l : List (List UInt8 × List UInt8)) : (madeW l).length = l.length := by simp [madeW]
theorem back_loop (l : List S32) (h : smallB l) : ∀ (n i : Nat), l.length - i ≤ n → Ev (fun k => muslinlaw08_AddrBack.l0 k l ((madeW (l.map boxOf)).map toBox) (i : Int)) true := by
  have hl := h.1
  have hlen : ((madeW (l.map boxOf)).map toBox).length = l.length := by rw [List.length_map, made_len, List.length_map]
  intro n
  induction n with
  | zero =>
    intro i h1
    refine Ev.round (fun k => by rw [muslinlaw08_AddrBack.l0]) ?_
    refine Ev.neg (by omega) ?_
    exact live_end
  | succ n ih =>
    intro i h1
    refine Ev.round (fun k => by rw [muslinlaw08_AddrBack.l0]) ?_
    by_cases hlt : i < l.length
    · have hrd : rd_T32 l (i : Int) = l[i] := by unfold rd_T32; simp [hlt]
      have hrd2 : rd_T32 ((madeW (l.map boxOf)).map toBox) (i : Int) = toBox (vl l[i].f0.data.toList, l[i].f1.data.toList) := by
        rw [rd_box _ i (by rw [made_len, List.length_map]; exact hlt)]
        congr 1
        simp [madeW, boxOf]
      have hz := (h.2 l[i] (List.getElem_mem hlt)).1
      refine Ev.pos (by omega) ?_
      refine Ev.pos (by omega) ?_
      refine Ev.pos (by omega) ?_
      rw [hrd, hrd2]
      refine Ev.pos (by rw [toList_eq, toList_eq, toBox1]) ?_
      refine Ev.got (valid_got _ (by omega)) ?_
      refine Ev.pos (by rw [toList_eq, toList_eq, toBox0, mkB_data]) ?_
      rw [w64 (x := (i : Int) + 1) (by omega) (by omega), show ((i : Int) + 1) = ((i + 1 : Nat) : Int) from by omega]
      exact ih (i + 1) (by omega)
    · refine Ev.neg (by omega) ?_
      exact live_end
theorem AddrBack (l : List S32) : ∃ k, muslinlaw08_AddrBack.f k l = some true := by
  refine Ev.rounds (r := true) (g := fun k => muslinlaw08_AddrBack.f k l) ?_
  unfold muslinlaw08_AddrBack.f
  refine Ev.bind (few_is l) ?_
  by_cases h : fewB l = true
  · refine Ev.pos h ?_
    have hs := small_few l h
    refine Ev.got (write_got l hs) ?_
    cases hw : writesL (l.map boxOf) with
    | none =>
      have e : writeL (l.map boxOf) = ([], 1) := by unfold writeL; rw [hw]
      rw [e]
      refine Ev.neg (by decide) ?_
      refine Ev.pos (by rw [toList_eq]; rfl) ?_
      exact live_end
    | some es =>
      have e : writeL (l.map boxOf) = (joinW es, 0) := by unfold writeL; rw [hw]
      have hz := written l hs es hw
      rw [e]
      refine Ev.pos rfl ?_
      have hp : addr_Parse.f (mkB (joinW es)) = some ((madeW (l.map boxOf)).map toBox) := by
        unfold addr_Parse.f
        rw [if_pos (by rw [mkB_size]; omega), mkB_data, parse_back _ es hw]
      refine Ev.got hp ?_
      refine Ev.pos (by rw [List.length_map, made_len, List.length_map]) ?_
      exact back_loop l hs _ 0 (Nat.le_refl _)
  · refine Ev.neg h ?_
    exact live_end
end Go.Proofs.YtpcncpegbboljaaGreatDoor.Pure
namespace Go.Proofs.YtpcncpegbboljaaGreatDoor
open Go.RowKit Go.ChangeShapes Go.WideShapes Go.ChangeAt Go.Lib
theorem glob_of {W : World} {a : DataW Unit} (ha : a = acceptData) (h : laidMet Tryz.prog [("unicode/utf8.acceptRanges", a), ("muslin/chars.high", Lib.tabData .i32 highTab), ("unicode/utf8.first", Go.Pinned.utf8First)] W) (hsh : W.ShapedOpen Tryz.prog) : Glob W := by
  refine ⟨Lib.tabIs_of_head (show Tryz.prog.globalNamed "muslin/chars.high" = some 3 from by kernel_rfl) (show (Tryz.prog.globals[3]?).map (·.type) = some 160 from by kernel_rfl) Tryz.underlying160 Tryz.underlying21 (by kernel_rfl) (by kernel_rfl) h.tail, ?_, ?_⟩
  · obtain ⟨ps, hl, _⟩ := h
    have rd := LaidVars_reads hl
    have r1 := rd "unicode/utf8.acceptRanges" a (by simp)
    have r3 := rd "unicode/utf8.first" Go.Pinned.utf8First (by simp)
    rw [ha] at r1
    rw [Go.Pinned.utf8First_eq] at r3
    exact utf8Tabs_of_reads Tryz.lays260 ⟨by kernel_rfl, by kernel_rfl, by kernel_rfl, by kernel_rfl, by kernel_rfl, by kernel_rfl, by kernel_rfl⟩ r3 r1
  · exact Go.Proofs.cell_of_shapedOpen_int (zero := #[.int .i64 0]) (t := 3) hsh (of_decide_eq_true (by kernel_rfl)) (by kernel_rfl) rfl (by kernel_rfl) (by kernel_rfl) Tryz.underlying3
theorem glob_addrBack {W : World} (h : laidMetH Tryz.prog Rows.addrBackRow.laid W) (hsh : W.ShapedOpen Tryz.prog) : Glob W := glob_of (by kernel_rfl) h hsh
theorem wrap_shaped {H : Type} {enc : TypeId × Value → H} {a : Assume} {C : Checked} {os : Os} {f : FuncId} {fn : Func} {s : ChangeSpec} {conds : List PathCond} {apart fresh handsOn again : Bool} {X : World → Array Value → Prop}
    (hX : ∀ (w w' : World) (args : Array Value), w.heap = w'.heap → X w args → X w' args)
    (own : ownKnob C.prog.godebug = none) (started : os.Started) (noInit : C.prog.inits.idxOf? f = none) (hfn : C.prog.funcs[f]? = some fn)
    (witness : ∃ (w : World) (tape : Tape) (i : Input), w.os = os ∧ (w.forCall tape i).Shaped C.prog ∧ i.vars = [] ∧ Input.okWide C.prog (w.forCall tape i) .any w.heap.size f i ∧
      ((s.pre enc C.prog fn conds apart (w.forCall tape i).memory i.args ∧ X (w.forCall tape i).memory i.args) ∧ sizedMet enc C.prog fn (OpenSpec.ofChange s) apart (w.forCall tape i).memory i.args) ∧ a.holds C.prog (lone (Frame.enter C.prog f i.args .normal) [] (w.forCall tape i)))
    (contract : ∀ (W : World) (base : Nat) (args : Array Value) (ds gs : List (DataW H)) (before : List MemPlace),
      (∀ (j : Nat) t v, fn.params[j]? = some t → args[j]? = some v → Value.okWide C.prog W .any base t v) →
      DataW.Whole enc C.prog fn.params.toList s.vars apart W args.toList ds gs before →
      conds.all (PathCond.test C.prog ⟨fn.params.toList, ds, s.plain.varTypes C.prog, gs⟩) = true →
      (DataW.weightsEach C.prog (fn.params.toList ++ s.plain.varTypes C.prog) (ds ++ gs)).all (· ≤ reachBytes) = true → X W args → W.ShapedOpen C.prog →
      a.holds C.prog (lone (Frame.enter C.prog f args .normal) [] W) →
      Calls C.prog f args W fun e W' => ∃ v, e = .returned v ∧ s.post enc C.prog fn apart fresh handsOn again W args v W') :
    ReturnsInHanded a C os f .any (fun w args => (s.pre enc C.prog fn conds apart w args ∧ X w args) ∧ sizedMet enc C.prog fn (OpenSpec.ofChange s) apart w args) (s.post enc C.prog fn apart fresh handsOn again) := by
  refine returnsInHanded_of_calls own started noInit witness ?_
  intro w tape i _ hsh _ hok hpre hholds
  obtain ⟨_, _, _, fn', hfn', _, _, _, _, hval⟩ := hok
  obtain rfl : fn' = fn := Option.some.inj (hfn'.symm.trans hfn)
  obtain ⟨⟨⟨ds, gs, before, hw, hc⟩, hx⟩, hz⟩ := hpre
  refine (contract (w.forCall tape i) w.heap.size i.args ds gs before hval (DataW.Whole.of_heap (w' := w.forCall tape i) (by rfl) hw) hc (hz.weights hw) (hX _ _ _ (by rfl) hx) hsh hholds).mono fun e W' ⟨v, he, hp⟩ => ?_
  subst he
  exact ChangeSpec.post_blind hp
end Go.Proofs.YtpcncpegbboljaaGreatDoor
namespace Go.Proofs.YtpcncpegbboljaaGreatDoor
open Go.ChangeShapes Go.WideShapes Go.ChangeAt Go.RowKit
theorem add_add8 (a : Addr) (x y : Nat) : (a.add x).add y = a.add (x + y) := by
  unfold Addr.add
  by_cases hx : x = 0
  · subst hx; simp
  · by_cases hy : y = 0
    · subst hy; simp
    · simp [hx, hy, Nat.add_assoc]
theorem boxes_arg {H : Type} {enc : TypeId × Value → H} {Pr : Program} {W : World} {base : Nat} {spare : Nat → Bool} {held : Bool} {t e : TypeId} {b : Option Addr} {len cap : Nat} {d : DataW H} {ps : List MemPlace} {f0 f1 : Field}
    (hu : Pr.underlying t = some (.slice e)) (hs : Pr.underlying e = some (.struct #[f0, f1])) (h0 : Pr.underlying f0.type = some .string) (h1 : Pr.underlying f1.type = some .string) (c0 : Pr.cellsOf f0.type = 1) (c1 : Pr.cellsOf f1.type = 1)
    (o0 : f0.offset = 0) (o1 : f1.offset = 1) (hc : Pr.cellsOf e = 2) (h : DataW.Trod enc Pr W base spare held t (.slice b len cap) d ps) :
    ∃ l : List P.S32, len = l.length ∧ l.length ≤ cap ∧ l.length ≤ maxLen ∧ Go.Proofs.YtpcncpegbboljaaGreatDoorW.PrintWords.Kd.C P.k32 W b l.length l := by
  obtain ⟨fuel, hf⟩ := h
  rcases DataW.trod_slice hu hf with ⟨hcs, _⟩ | ⟨a, l, c, elems, rest, n, _, hcs, _, _, hl, hm, hlen, hel, _, _⟩
  · simp [Value.cells] at hcs
    obtain ⟨rfl, rfl, rfl⟩ := hcs
    exact ⟨[], rfl, Nat.le_refl _, by simp [maxLen], Go.Proofs.YtpcncpegbboljaaGreatDoorW.PrintWords.Kd.C_nil _ _⟩
  · simp [Value.cells] at hcs
    obtain ⟨rfl, rfl, rfl⟩ := hcs
    have each : ∀ i, i < len → ∃ x : P.S32, W.cell? (a.add (i * 2 + 0)) = some (.string x.f0) ∧ W.cell? (a.add (i * 2 + 1)) = some (.string x.f1) := by
      intro i hi
      have hb := hel i hi
      rw [List.getElem?_eq_getElem (by omega), hc, Option.bind_eq_some_iff] at hb
      obtain ⟨cs, hcs, hy⟩ := hb
      obtain ⟨_, hlc, hcell⟩ := World.cells?_some hcs
      obtain ⟨y0, y1, m, _, _, t0, t1⟩ := trod_struct2 hs hy
      match cs, hlc with
      | [v0, v1], _ =>
        rw [c0, o0] at t0
        rw [c1, o1] at t1
        obtain ⟨s0, e0, _, _⟩ := DataW.trod_string h0 t0
        obtain ⟨s1, e1, _, _⟩ := DataW.trod_string h1 t1
        simp at e0 e1
        subst e0 e1
        refine ⟨⟨s0, s1⟩, ?_, ?_⟩
        · have := hcell 0 (by omega)
          rw [show (a.add (i * 2)).add 0 = a.add (i * 2 + 0) from add_add8 _ _ _] at this
          exact this
        · have := hcell 1 (by omega)
          rw [show (a.add (i * 2)).add 1 = a.add (i * 2 + 1) from add_add8 _ _ _] at this
          exact this
    have pick : ∀ m, m ≤ len → ∃ l : List P.S32, l.length = m ∧ ∀ j q, l[j]? = some q → W.cell? (a.add (j * 2 + 0)) = some (.string q.f0) ∧ W.cell? (a.add (j * 2 + 1)) = some (.string q.f1) := by
      intro m
      induction m with
      | zero => intro _; exact ⟨[], rfl, by simp⟩
      | succ m ih =>
        intro hm
        obtain ⟨l, e, hl⟩ := ih (by omega)
        obtain ⟨x, hx⟩ := each m (by omega)
        refine ⟨l ++ [x], by simp [e], fun j q hj => ?_⟩
        by_cases hjl : j < l.length
        · rw [List.getElem?_append_left hjl] at hj; exact hl j q hj
        · have hjm : j = m := by
            have := (List.getElem?_eq_some_iff.1 hj).1
            rw [List.length_append, List.length_singleton] at this; omega
          subst hjm
          rw [List.getElem?_append_right (by omega)] at hj
          simp [e] at hj
          subst hj; exact hx
    obtain ⟨xs, hxl, hxs⟩ := pick len (Nat.le_refl _)
    refine ⟨xs, hxl.symm, by omega, by omega, ⟨rfl, by unfold maxLen at hm; omega, fun _ => ⟨a, rfl, ?_⟩⟩⟩
    intro j q hj
    obtain ⟨k0, k1⟩ := hxs j q hj
    refine ⟨[.string q.f0, .string q.f1], rfl, P.k32_mk W q, fun i u hu => ?_⟩
    match i, hu with
    | 0, hu => obtain rfl := Option.some.inj hu; exact k0
    | 1, hu => obtain rfl := Option.some.inj hu; exact k1
    | i + 2, hu => exact absurd hu (by simp)
end Go.Proofs.YtpcncpegbboljaaGreatDoor
