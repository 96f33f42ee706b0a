/- Parts of the proof of the law WordJoined, in one text: C1, Utf, Ev, PureChars, PureKnown, PureDec, Alph, B64. -/
import Derived.Test.YtokkgjiofhhlkaaDoorMgWordJoined1
import Derived.Lib.RuneBytes
import Derived.Laws.RangeAny
import Derived.Deep.RegionWith
import Derived.Deep.Heap
import Derived.BigRegion
import Derived.Lib.BufferKept
import Derived.Lib.SmallJoins
set_option linter.unusedVariables false
set_option linter.unusedSimpArgs false
namespace Go.Proofs.YtokkgjiofhhlkaaDoor.C
open Go.RowKit Go.Proofs.YtokkgjiofhhlkaaDoorW.PrintWords Go.Proofs.YtokkgjiofhhlkaaDoorW.PrintLast Go.Proofs.YtokkgjiofhhlkaaDoorW.PrintMore
attribute [local go_sem] max2_int min2_int max_two min_two max_three min_three max_four min_four
set_option linter.unusedVariables false
set_option linter.unusedSimpArgs false
mutual
def chars_Known.j0 : Nat → ByteArray → Bool → Option (ByteArray × Bool)
  | 0, _, _ => none
  | k + 1, x6, x7 => if x7 = true then (some ((⟨#[117, 116, 102, 45, 56]⟩ : ByteArray), true)) else (if x6.toList = ([119, 105, 110, 100, 111, 119, 115, 45, 49, 50, 53, 50] : List UInt8) then (chars_Known.j1 k x6 (x6.toList == ([119, 105, 110, 100, 111, 119, 115, 45, 49, 50, 53, 50] : List UInt8))) else (if x6.toList = ([99, 112, 49, 50, 53, 50] : List UInt8) then (chars_Known.j1 k x6 (x6.toList == ([99, 112, 49, 50, 53, 50] : List UInt8))) else (if x6.toList = ([117, 115, 45, 97, 115, 99, 105, 105] : List UInt8) then (chars_Known.j1 k x6 (x6.toList == ([117, 115, 45, 97, 115, 99, 105, 105] : List UInt8))) else (if x6.toList = ([97, 115, 99, 105, 105] : List UInt8) then (chars_Known.j1 k x6 (x6.toList == ([97, 115, 99, 105, 105] : List UInt8))) else (if x6.toList = ([105, 115, 111, 45, 56, 56, 53, 57, 45, 49] : List UInt8) then (chars_Known.j1 k x6 (x6.toList == ([105, 115, 111, 45, 56, 56, 53, 57, 45, 49] : List UInt8))) else (if x6.toList = ([105, 115, 111, 56, 56, 53, 57, 45, 49] : List UInt8) then (chars_Known.j1 k x6 (x6.toList == ([105, 115, 111, 56, 56, 53, 57, 45, 49] : List UInt8))) else (if x6.toList = ([108, 97, 116, 105, 110, 49] : List UInt8) then (chars_Known.j1 k x6 (x6.toList == ([108, 97, 116, 105, 110, 49] : List UInt8))) else (chars_Known.j1 k x6 (x6.toList == ([108, 49] : List UInt8))))))))))
def chars_Known.j1 : Nat → ByteArray → Bool → Option (ByteArray × Bool)
  | 0, _, _ => none
  | k + 1, x6, x11 => if x11 = true then (some ((⟨#[119, 105, 110, 100, 111, 119, 115, 45, 49, 50, 53, 50]⟩ : ByteArray), true)) else (if x6.toList = ([117, 116, 102, 45, 49, 54, 108, 101] : List UInt8) then (chars_Known.j2 k x6 (x6.toList == ([117, 116, 102, 45, 49, 54, 108, 101] : List UInt8))) else (if x6.toList = ([117, 116, 102, 45, 49, 54] : List UInt8) then (chars_Known.j2 k x6 (x6.toList == ([117, 116, 102, 45, 49, 54] : List UInt8))) else (if x6.toList = ([117, 110, 105, 99, 111, 100, 101] : List UInt8) then (chars_Known.j2 k x6 (x6.toList == ([117, 110, 105, 99, 111, 100, 101] : List UInt8))) else (chars_Known.j2 k x6 (x6.toList == ([117, 99, 115, 45, 50] : List UInt8))))))
def chars_Known.j2 : Nat → ByteArray → Bool → Option (ByteArray × Bool)
  | 0, _, _ => none
  | k + 1, x6, x20 => if x20 = true then (some ((⟨#[117, 116, 102, 45, 49, 54, 108, 101]⟩ : ByteArray), true)) else (if x6.toList = ([117, 116, 102, 45, 49, 54, 98, 101] : List UInt8) then (some ((⟨#[117, 116, 102, 45, 49, 54, 98, 101]⟩ : ByteArray), true)) else (if x6.toList = ([117, 110, 105, 99, 111, 100, 101, 102, 102, 102, 101] : List UInt8) then (some ((⟨#[117, 116, 102, 45, 49, 54, 98, 101]⟩ : ByteArray), true)) else (some ((⟨#[]⟩ : ByteArray), false))))
end
def chars_Known.f (k : Nat) (a0 : ByteArray) : Option (ByteArray × Bool) := (strings_Trim.f a0 (⟨#[32, 9, 10, 12, 13]⟩ : ByteArray)).bind fun t101 => ((chars_small.f t101).bind fun t102 => (if t102.toList = ([117, 116, 102, 45, 56] : List UInt8) then (chars_Known.j0 k t102 (t102.toList == ([117, 116, 102, 45, 56] : List UInt8))) else (if t102.toList = ([117, 116, 102, 56] : List UInt8) then (chars_Known.j0 k t102 (t102.toList == ([117, 116, 102, 56] : List UInt8))) else (chars_Known.j0 k t102 (t102.toList == ([117, 110, 105, 99, 111, 100, 101, 45, 49, 45, 49, 45, 117, 116, 102, 45, 56] : List UInt8))))))
theorem chars_Known.mono_l : ∀ k, (∀ y0 y1, LeO (chars_Known.j0 k y0 y1) (chars_Known.j0 (k + 1) y0 y1)) ∧ (∀ y0 y1, LeO (chars_Known.j1 k y0 y1) (chars_Known.j1 (k + 1) y0 y1)) ∧ (∀ y0 y1, LeO (chars_Known.j2 k y0 y1) (chars_Known.j2 (k + 1) y0 y1))
  | 0 => ⟨fun _ _ r h => by simp [chars_Known.j0] at h, fun _ _ r h => by simp [chars_Known.j1] at h, fun _ _ r h => by simp [chars_Known.j2] at h⟩
  | k + 1 => by
    obtain ⟨ih0, ih1, ih2⟩ := chars_Known.mono_l k
    refine ⟨?_, ?_, ?_⟩
    · intro y0 y1
      unfold chars_Known.j0
      repeat' first
      | (with_reducible exact ih0 _ _)
      | (with_reducible exact ih1 _ _)
      | (with_reducible exact ih2 _ _)
      | (with_reducible exact LeO.refl _)
      | (with_reducible exact LeO.none _)
      | (with_reducible refine LeO.ite ?_ ?_)
      | (with_reducible refine LeO.bind ?_ (fun _ => ?_))
      | exact ih0 _ _
      | exact ih1 _ _
      | exact ih2 _ _
      | exact LeO.none _
      | refine LeO.ite ?_ ?_
      | refine LeO.bind ?_ (fun _ => ?_)
    · intro y0 y1
      unfold chars_Known.j1
      repeat' first
      | (with_reducible exact ih0 _ _)
      | (with_reducible exact ih1 _ _)
      | (with_reducible exact ih2 _ _)
      | (with_reducible exact LeO.refl _)
      | (with_reducible exact LeO.none _)
      | (with_reducible refine LeO.ite ?_ ?_)
      | (with_reducible refine LeO.bind ?_ (fun _ => ?_))
      | exact ih0 _ _
      | exact ih1 _ _
      | exact ih2 _ _
      | exact LeO.none _
      | refine LeO.ite ?_ ?_
      | refine LeO.bind ?_ (fun _ => ?_)
    · intro y0 y1
      unfold chars_Known.j2
      repeat' first
      | (with_reducible exact ih0 _ _)
      | (with_reducible exact ih1 _ _)
      | (with_reducible exact ih2 _ _)
      | (with_reducible exact LeO.refl _)
      | (with_reducible exact LeO.none _)
      | (with_reducible refine LeO.ite ?_ ?_)
      | (with_reducible refine LeO.bind ?_ (fun _ => ?_))
      | exact ih0 _ _
      | exact ih1 _ _
      | exact ih2 _ _
      | exact LeO.none _
      | refine LeO.ite ?_ ?_
      | refine LeO.bind ?_ (fun _ => ?_)
set_option maxHeartbeats 8000000 in
set_option maxRecDepth 100000 in
theorem chars_Known.calls (k : Nat) (a0 : ByteArray) (r1 : ByteArray) (r2 : Bool) (w : World) (h : chars_Known.f k a0 = some (r1, r2)) :
    Calls Tryd.prog 22 #[.string a0] w fun e w' => e = .returned (.tuple #[.string r1, .bool r2]) ∧ Below w.heap.size w w' := by
  have HB := Aside0.mk (Below.refl w.heap.size w)
  have H : ((strings_Trim.f a0 (⟨#[32, 9, 10, 12, 13]⟩ : ByteArray)).bind fun t101 => ((chars_small.f t101).bind fun t102 => (if t102.toList = ([117, 116, 102, 45, 56] : List UInt8) then (chars_Known.j0 k t102 (t102.toList == ([117, 116, 102, 45, 56] : List UInt8))) else (if t102.toList = ([117, 116, 102, 56] : List UInt8) then (chars_Known.j0 k t102 (t102.toList == ([117, 116, 102, 56] : List UInt8))) else (chars_Known.j0 k t102 (t102.toList == ([117, 110, 105, 99, 111, 100, 101, 45, 49, 45, 49, 45, 117, 116, 102, 45, 56] : List UInt8))))))) = some (r1, r2) := h
  clear h
  replace H := Option.bind_eq_some_iff.mp H
  obtain ⟨t101, A20, H⟩ := H
  replace H : ((chars_small.f t101).bind fun t102 => (if t102.toList = ([117, 116, 102, 45, 56] : List UInt8) then (chars_Known.j0 k t102 (t102.toList == ([117, 116, 102, 45, 56] : List UInt8))) else (if t102.toList = ([117, 116, 102, 56] : List UInt8) then (chars_Known.j0 k t102 (t102.toList == ([117, 116, 102, 56] : List UInt8))) else (chars_Known.j0 k t102 (t102.toList == ([117, 110, 105, 99, 111, 100, 101, 45, 49, 45, 49, 45, 117, 116, 102, 45, 56] : List UInt8)))))) = some (r1, r2) := H
  have A2 := Aside0.mk A20
  clear A20
  replace H := Option.bind_eq_some_iff.mp H
  obtain ⟨t102, A30, H⟩ := H
  replace H : (if t102.toList = ([117, 116, 102, 45, 56] : List UInt8) then (chars_Known.j0 k t102 (t102.toList == ([117, 116, 102, 45, 56] : List UInt8))) else (if t102.toList = ([117, 116, 102, 56] : List UInt8) then (chars_Known.j0 k t102 (t102.toList == ([117, 116, 102, 56] : List UInt8))) else (chars_Known.j0 k t102 (t102.toList == ([117, 110, 105, 99, 111, 100, 101, 45, 49, 45, 49, 45, 117, 116, 102, 45, 56] : List UInt8))))) = some (r1, r2) := H
  have A3 := Aside0.mk A30
  clear A30
  have HC4 := Aside0.mk H
  clear H
  go_enter Tryd.func22, Tryd.ntmps22
  go_upto_if 7 with (first | ((with_reducible refine gate_callee (f := 32) rfl ?_); refine goesL_ (some 5) rfl rfl Tryd.func32 (by kernel_rfl) rfl #[.string a0, .string (⟨#[32, 9, 10, 12, 13]⟩ : ByteArray)] rfl (by (try simp only [List.map_toArray, List.map_cons, List.map_nil]); first | done | rfl | (simp only [List.length_drop, List.length_take]; rfl)) ?_; (with_reducible refine (strings_Trim.calls a0 (⟨#[32, 9, 10, 12, 13]⟩ : ByteArray) t101 _ A2.out).mono ?_); rintro e w5 ⟨rfl, hb⟩; refine ⟨_, rfl, ?_⟩; have n0_ := Aside0.mk (below_step (by repeat (first | (with_reducible first | exact HB.out | apply below_alloc | apply pw_below_drewN | apply below_drew1) | exact HB.out)) hb); clear HB; have HB := n0_; clear n0_; (try clear hb); (try clear hb2); (try clear hk); (try clear hi)) | ((with_reducible refine gate_callee (f := 48) rfl ?_); refine goesL_ (some 6) rfl rfl Tryd.func48 (by kernel_rfl) rfl #[.string t101] rfl (by (try simp only [List.map_toArray, List.map_cons, List.map_nil]); first | done | rfl | (simp only [List.length_drop, List.length_take]; rfl)) ?_; (with_reducible refine (chars_small.calls t101 t102 _ A3.out).mono ?_); rintro e w6 ⟨rfl, hb⟩; refine ⟨_, rfl, ?_⟩; have n0_ := Aside0.mk (below_step (by repeat (first | (with_reducible first | exact HB.out | apply below_alloc | apply pw_below_drewN | apply below_drew1) | exact HB.out)) hb); clear HB; have HB := n0_; clear n0_; (try clear hb); (try clear hb2); (try clear hk); (try clear hi)))
  (try simp only [Act.put, List.setIfInBounds_toArray, List.set_cons_zero, List.set_cons_succ])
  go_cut [7] (fun v7 wc => ∃ (kq : Nat) (x7_3 : Bool), v7 = .bool x7_3 ∧ Aside0 (chars_Known.j0 kq t102 x7_3 = some (r1, r2)) ∧ Aside0 (kq ≤ k) ∧ Aside0 (Below w.heap.size w wc))
  case first =>
    have H := HC4.out
    clear HC4
    by_cases c7 : t102.toList = ([117, 116, 102, 45, 56] : List UInt8)
    · rw [if_pos c7] at H
      have c7b0 : (t102.toList == ([117, 116, 102, 45, 56] : List UInt8)) = true := beq_iff_eq.mpr c7
      have c7b1 : (t102.toList != ([117, 116, 102, 45, 56] : List UInt8)) = false := bne_eq_false_iff_eq.mpr c7
      clear c7
      (first | rw [c7b0] | (simp only [i64_w, i32_w]; rw [c7b0]) | skip)
      have H' := Aside0.mk H
      clear H
      go_wp2
      go_meet
      case rel => exact ⟨_, ((t102.toList == ([117, 116, 102, 45, 56] : List UInt8))), (by first | rfl | (simp; done) | (simp [*]; done)), H', ⟨by first | omega | exact Nat.le_refl _⟩, ⟨by repeat (first | (with_reducible first | exact HB.out | apply below_alloc | apply pw_below_drewN | apply below_drew1) | exact HB.out)⟩⟩
    · rw [if_neg c7] at H
      have c7b0 : (t102.toList == ([117, 116, 102, 45, 56] : List UInt8)) = false := beq_eq_false_iff_ne.mpr c7
      have c7b1 : (t102.toList != ([117, 116, 102, 45, 56] : List UInt8)) = true := bne_iff_ne.mpr c7
      (first | rw [c7b0] | (simp only [i64_w, i32_w]; rw [c7b0]) | skip)
      by_cases c8 : t102.toList = ([117, 116, 102, 56] : List UInt8)
      · rw [if_pos c8] at H
        have c8b0 : (t102.toList == ([117, 116, 102, 56] : List UInt8)) = true := beq_iff_eq.mpr c8
        have c8b1 : (t102.toList != ([117, 116, 102, 56] : List UInt8)) = false := bne_eq_false_iff_eq.mpr c8
        clear c8
        have H' := Aside0.mk H
        clear H
        go_wp2
        go_meet
        case rel => exact ⟨_, ((t102.toList == ([117, 116, 102, 56] : List UInt8))), (by first | rfl | (simp; done) | (simp [*]; done)), H', ⟨by first | omega | exact Nat.le_refl _⟩, ⟨by repeat (first | (with_reducible first | exact HB.out | apply below_alloc | apply pw_below_drewN | apply below_drew1) | exact HB.out)⟩⟩
      · rw [if_neg c8] at H
        have c8b0 : (t102.toList == ([117, 116, 102, 56] : List UInt8)) = false := beq_eq_false_iff_ne.mpr c8
        have c8b1 : (t102.toList != ([117, 116, 102, 56] : List UInt8)) = true := bne_iff_ne.mpr c8
        have H' := Aside0.mk H
        clear H
        go_wp2
        go_meet
        case rel => exact ⟨_, ((t102.toList == ([117, 110, 105, 99, 111, 100, 101, 45, 49, 45, 49, 45, 117, 116, 102, 45, 56] : List UInt8))), (by first | rfl | (simp; done) | (simp [*]; done)), H', ⟨by first | omega | exact Nat.le_refl _⟩, ⟨by repeat (first | (with_reducible first | exact HB.out | apply below_alloc | apply pw_below_drewN | apply below_drew1) | exact HB.out)⟩⟩
  case rest =>
    clear HC4
    try clear c2
    try clear p2
    try clear c3
    try clear c4
    try clear c7
    try clear c7b0
    try clear c7b1
    try clear c8
    try clear c8b0
    try clear c8b1
    obtain ⟨kq, x7_3, rfl, HA, HJ3, HB⟩ := hcut
    cases kq with
    | zero => exact absurd HA.out (by simp [chars_Known.j0])
    | succ kj3 =>
      have H := HA.out
      clear HA
      simp only [chars_Known.j0] at H
      by_cases c9 : x7_3 = true
      · subst c9
        have H1 : (some ((⟨#[117, 116, 102, 45, 56]⟩ : ByteArray), true)) = some (r1, r2) := by rw [if_pos rfl] at H; exact H
        clear H
        have H := H1
        clear H1
        simp only [Option.some.injEq, Prod.mk.injEq] at H
        obtain ⟨rfl, rfl⟩ := H
        go_wp2
        go_ret2
        exact ⟨by first | rfl | (simp [errW_none, errW_some] <;> rfl) | (simp [*, errW_none, errW_some] <;> rfl), by repeat (first | (with_reducible first | exact HB.out | apply below_alloc | apply pw_below_drewN | apply below_drew1) | exact HB.out)⟩
      · replace c9 := Bool.eq_false_iff.mpr c9
        subst c9
        have H1 : (if t102.toList = ([119, 105, 110, 100, 111, 119, 115, 45, 49, 50, 53, 50] : List UInt8) then (chars_Known.j1 kj3 t102 (t102.toList == ([119, 105, 110, 100, 111, 119, 115, 45, 49, 50, 53, 50] : List UInt8))) else (if t102.toList = ([99, 112, 49, 50, 53, 50] : List UInt8) then (chars_Known.j1 kj3 t102 (t102.toList == ([99, 112, 49, 50, 53, 50] : List UInt8))) else (if t102.toList = ([117, 115, 45, 97, 115, 99, 105, 105] : List UInt8) then (chars_Known.j1 kj3 t102 (t102.toList == ([117, 115, 45, 97, 115, 99, 105, 105] : List UInt8))) else (if t102.toList = ([97, 115, 99, 105, 105] : List UInt8) then (chars_Known.j1 kj3 t102 (t102.toList == ([97, 115, 99, 105, 105] : List UInt8))) else (if t102.toList = ([105, 115, 111, 45, 56, 56, 53, 57, 45, 49] : List UInt8) then (chars_Known.j1 kj3 t102 (t102.toList == ([105, 115, 111, 45, 56, 56, 53, 57, 45, 49] : List UInt8))) else (if t102.toList = ([105, 115, 111, 56, 56, 53, 57, 45, 49] : List UInt8) then (chars_Known.j1 kj3 t102 (t102.toList == ([105, 115, 111, 56, 56, 53, 57, 45, 49] : List UInt8))) else (if t102.toList = ([108, 97, 116, 105, 110, 49] : List UInt8) then (chars_Known.j1 kj3 t102 (t102.toList == ([108, 97, 116, 105, 110, 49] : List UInt8))) else (chars_Known.j1 kj3 t102 (t102.toList == ([108, 49] : List UInt8)))))))))) = some (r1, r2) := by rw [if_neg (show ¬ (false = true) by decide)] at H; exact H
        clear H
        have H := H1
        clear H1
        have HC10 := Aside0.mk H
        clear H
        go_upto_if 11 with (fail)
        go_cut [11] (fun v11 wc => ∃ (kq : Nat) (x11_9 : Bool), v11 = .bool x11_9 ∧ Aside0 (chars_Known.j1 kq t102 x11_9 = some (r1, r2)) ∧ Aside0 (kq ≤ kj3) ∧ Aside0 (Below w.heap.size w wc))
        case first =>
          have H := HC10.out
          clear HC10
          by_cases c11 : t102.toList = ([119, 105, 110, 100, 111, 119, 115, 45, 49, 50, 53, 50] : List UInt8)
          · rw [if_pos c11] at H
            have c11b0 : (t102.toList == ([119, 105, 110, 100, 111, 119, 115, 45, 49, 50, 53, 50] : List UInt8)) = true := beq_iff_eq.mpr c11
            have c11b1 : (t102.toList != ([119, 105, 110, 100, 111, 119, 115, 45, 49, 50, 53, 50] : List UInt8)) = false := bne_eq_false_iff_eq.mpr c11
            clear c11
            (first | rw [c11b0] | (simp only [i64_w, i32_w]; rw [c11b0]) | skip)
            have H' := Aside0.mk H
            clear H
            go_wp2
            go_meet
            case rel => exact ⟨_, ((t102.toList == ([119, 105, 110, 100, 111, 119, 115, 45, 49, 50, 53, 50] : List UInt8))), (by first | rfl | (simp; done) | (simp [*]; done)), H', ⟨by have := HJ3.out; first | omega | exact Nat.le_refl _⟩, ⟨by repeat (first | (with_reducible first | exact HB.out | apply below_alloc | apply pw_below_drewN | apply below_drew1) | exact HB.out)⟩⟩
          · rw [if_neg c11] at H
            have c11b0 : (t102.toList == ([119, 105, 110, 100, 111, 119, 115, 45, 49, 50, 53, 50] : List UInt8)) = false := beq_eq_false_iff_ne.mpr c11
            have c11b1 : (t102.toList != ([119, 105, 110, 100, 111, 119, 115, 45, 49, 50, 53, 50] : List UInt8)) = true := bne_iff_ne.mpr c11
            (first | rw [c11b0] | (simp only [i64_w, i32_w]; rw [c11b0]) | skip)
            by_cases c12 : t102.toList = ([99, 112, 49, 50, 53, 50] : List UInt8)
            · rw [if_pos c12] at H
              have c12b0 : (t102.toList == ([99, 112, 49, 50, 53, 50] : List UInt8)) = true := beq_iff_eq.mpr c12
              have c12b1 : (t102.toList != ([99, 112, 49, 50, 53, 50] : List UInt8)) = false := bne_eq_false_iff_eq.mpr c12
              clear c12
              have H' := Aside0.mk H
              clear H
              go_wp2
              go_meet
              case rel => exact ⟨_, ((t102.toList == ([99, 112, 49, 50, 53, 50] : List UInt8))), (by first | rfl | (simp; done) | (simp [*]; done)), H', ⟨by have := HJ3.out; first | omega | exact Nat.le_refl _⟩, ⟨by repeat (first | (with_reducible first | exact HB.out | apply below_alloc | apply pw_below_drewN | apply below_drew1) | exact HB.out)⟩⟩
            · rw [if_neg c12] at H
              have c12b0 : (t102.toList == ([99, 112, 49, 50, 53, 50] : List UInt8)) = false := beq_eq_false_iff_ne.mpr c12
              have c12b1 : (t102.toList != ([99, 112, 49, 50, 53, 50] : List UInt8)) = true := bne_iff_ne.mpr c12
              by_cases c13 : t102.toList = ([117, 115, 45, 97, 115, 99, 105, 105] : List UInt8)
              · rw [if_pos c13] at H
                have c13b0 : (t102.toList == ([117, 115, 45, 97, 115, 99, 105, 105] : List UInt8)) = true := beq_iff_eq.mpr c13
                have c13b1 : (t102.toList != ([117, 115, 45, 97, 115, 99, 105, 105] : List UInt8)) = false := bne_eq_false_iff_eq.mpr c13
                clear c13
                have H' := Aside0.mk H
                clear H
                go_wp2
                go_meet
                case rel => exact ⟨_, ((t102.toList == ([117, 115, 45, 97, 115, 99, 105, 105] : List UInt8))), (by first | rfl | (simp; done) | (simp [*]; done)), H', ⟨by have := HJ3.out; first | omega | exact Nat.le_refl _⟩, ⟨by repeat (first | (with_reducible first | exact HB.out | apply below_alloc | apply pw_below_drewN | apply below_drew1) | exact HB.out)⟩⟩
              · rw [if_neg c13] at H
                have c13b0 : (t102.toList == ([117, 115, 45, 97, 115, 99, 105, 105] : List UInt8)) = false := beq_eq_false_iff_ne.mpr c13
                have c13b1 : (t102.toList != ([117, 115, 45, 97, 115, 99, 105, 105] : List UInt8)) = true := bne_iff_ne.mpr c13
                by_cases c14 : t102.toList = ([97, 115, 99, 105, 105] : List UInt8)
                · rw [if_pos c14] at H
                  have c14b0 : (t102.toList == ([97, 115, 99, 105, 105] : List UInt8)) = true := beq_iff_eq.mpr c14
                  have c14b1 : (t102.toList != ([97, 115, 99, 105, 105] : List UInt8)) = false := bne_eq_false_iff_eq.mpr c14
                  clear c14
                  have H' := Aside0.mk H
                  clear H
                  go_wp2
                  go_meet
                  case rel => exact ⟨_, ((t102.toList == ([97, 115, 99, 105, 105] : List UInt8))), (by first | rfl | (simp; done) | (simp [*]; done)), H', ⟨by have := HJ3.out; first | omega | exact Nat.le_refl _⟩, ⟨by repeat (first | (with_reducible first | exact HB.out | apply below_alloc | apply pw_below_drewN | apply below_drew1) | exact HB.out)⟩⟩
                · rw [if_neg c14] at H
                  have c14b0 : (t102.toList == ([97, 115, 99, 105, 105] : List UInt8)) = false := beq_eq_false_iff_ne.mpr c14
                  have c14b1 : (t102.toList != ([97, 115, 99, 105, 105] : List UInt8)) = true := bne_iff_ne.mpr c14
                  by_cases c15 : t102.toList = ([105, 115, 111, 45, 56, 56, 53, 57, 45, 49] : List UInt8)
                  · rw [if_pos c15] at H
                    have c15b0 : (t102.toList == ([105, 115, 111, 45, 56, 56, 53, 57, 45, 49] : List UInt8)) = true := beq_iff_eq.mpr c15
                    have c15b1 : (t102.toList != ([105, 115, 111, 45, 56, 56, 53, 57, 45, 49] : List UInt8)) = false := bne_eq_false_iff_eq.mpr c15
                    clear c15
                    have H' := Aside0.mk H
                    clear H
                    go_wp2
                    go_meet
                    case rel => exact ⟨_, ((t102.toList == ([105, 115, 111, 45, 56, 56, 53, 57, 45, 49] : List UInt8))), (by first | rfl | (simp; done) | (simp [*]; done)), H', ⟨by have := HJ3.out; first | omega | exact Nat.le_refl _⟩, ⟨by repeat (first | (with_reducible first | exact HB.out | apply below_alloc | apply pw_below_drewN | apply below_drew1) | exact HB.out)⟩⟩
                  · rw [if_neg c15] at H
                    have c15b0 : (t102.toList == ([105, 115, 111, 45, 56, 56, 53, 57, 45, 49] : List UInt8)) = false := beq_eq_false_iff_ne.mpr c15
                    have c15b1 : (t102.toList != ([105, 115, 111, 45, 56, 56, 53, 57, 45, 49] : List UInt8)) = true := bne_iff_ne.mpr c15
                    by_cases c16 : t102.toList = ([105, 115, 111, 56, 56, 53, 57, 45, 49] : List UInt8)
                    · rw [if_pos c16] at H
                      have c16b0 : (t102.toList == ([105, 115, 111, 56, 56, 53, 57, 45, 49] : List UInt8)) = true := beq_iff_eq.mpr c16
                      have c16b1 : (t102.toList != ([105, 115, 111, 56, 56, 53, 57, 45, 49] : List UInt8)) = false := bne_eq_false_iff_eq.mpr c16
                      clear c16
                      have H' := Aside0.mk H
                      clear H
                      go_wp2
                      go_meet
                      case rel => exact ⟨_, ((t102.toList == ([105, 115, 111, 56, 56, 53, 57, 45, 49] : List UInt8))), (by first | rfl | (simp; done) | (simp [*]; done)), H', ⟨by have := HJ3.out; first | omega | exact Nat.le_refl _⟩, ⟨by repeat (first | (with_reducible first | exact HB.out | apply below_alloc | apply pw_below_drewN | apply below_drew1) | exact HB.out)⟩⟩
                    · rw [if_neg c16] at H
                      have c16b0 : (t102.toList == ([105, 115, 111, 56, 56, 53, 57, 45, 49] : List UInt8)) = false := beq_eq_false_iff_ne.mpr c16
                      have c16b1 : (t102.toList != ([105, 115, 111, 56, 56, 53, 57, 45, 49] : List UInt8)) = true := bne_iff_ne.mpr c16
                      by_cases c17 : t102.toList = ([108, 97, 116, 105, 110, 49] : List UInt8)
                      · rw [if_pos c17] at H
                        have c17b0 : (t102.toList == ([108, 97, 116, 105, 110, 49] : List UInt8)) = true := beq_iff_eq.mpr c17
                        have c17b1 : (t102.toList != ([108, 97, 116, 105, 110, 49] : List UInt8)) = false := bne_eq_false_iff_eq.mpr c17
                        clear c17
                        have H' := Aside0.mk H
                        clear H
                        go_wp2
                        go_meet
                        case rel => exact ⟨_, ((t102.toList == ([108, 97, 116, 105, 110, 49] : List UInt8))), (by first | rfl | (simp; done) | (simp [*]; done)), H', ⟨by have := HJ3.out; first | omega | exact Nat.le_refl _⟩, ⟨by repeat (first | (with_reducible first | exact HB.out | apply below_alloc | apply pw_below_drewN | apply below_drew1) | exact HB.out)⟩⟩
                      · rw [if_neg c17] at H
                        have c17b0 : (t102.toList == ([108, 97, 116, 105, 110, 49] : List UInt8)) = false := beq_eq_false_iff_ne.mpr c17
                        have c17b1 : (t102.toList != ([108, 97, 116, 105, 110, 49] : List UInt8)) = true := bne_iff_ne.mpr c17
                        have H' := Aside0.mk H
                        clear H
                        go_wp2
                        go_meet
                        case rel => exact ⟨_, ((t102.toList == ([108, 49] : List UInt8))), (by first | rfl | (simp; done) | (simp [*]; done)), H', ⟨by have := HJ3.out; first | omega | exact Nat.le_refl _⟩, ⟨by repeat (first | (with_reducible first | exact HB.out | apply below_alloc | apply pw_below_drewN | apply below_drew1) | exact HB.out)⟩⟩
        case rest =>
          clear HC10
          try clear c1
          try clear c2
          try clear p2
          try clear c3
          try clear c4
          try clear c7
          try clear c7b0
          try clear c7b1
          try clear c8
          try clear c8b0
          try clear c8b1
          try clear c9
          try clear c11
          try clear c11b0
          try clear c11b1
          try clear c12
          try clear c12b0
          try clear c12b1
          try clear c13
          try clear c13b0
          try clear c13b1
          try clear c14
          try clear c14b0
          try clear c14b1
          try clear c15
          try clear c15b0
          try clear c15b1
          try clear c16
          try clear c16b0
          try clear c16b1
          try clear c17
          try clear c17b0
          try clear c17b1
          try clear p2
          obtain ⟨kq, x11_9, rfl, HA, HJ9, HB⟩ := hcut
          cases kq with
          | zero => exact absurd HA.out (by simp [chars_Known.j1])
          | succ kj9 =>
            have H := HA.out
            clear HA
            simp only [chars_Known.j1] at H
            by_cases c18 : x11_9 = true
            · subst c18
              have H1 : (some ((⟨#[119, 105, 110, 100, 111, 119, 115, 45, 49, 50, 53, 50]⟩ : ByteArray), true)) = some (r1, r2) := by rw [if_pos rfl] at H; exact H
              clear H
              have H := H1
              clear H1
              simp only [Option.some.injEq, Prod.mk.injEq] at H
              obtain ⟨rfl, rfl⟩ := H
              go_wp2
              go_ret2
              exact ⟨by first | rfl | (simp [errW_none, errW_some] <;> rfl) | (simp [*, errW_none, errW_some] <;> rfl), by repeat (first | (with_reducible first | exact HB.out | apply below_alloc | apply pw_below_drewN | apply below_drew1) | exact HB.out)⟩
            · replace c18 := Bool.eq_false_iff.mpr c18
              subst c18
              have H1 : (if t102.toList = ([117, 116, 102, 45, 49, 54, 108, 101] : List UInt8) then (chars_Known.j2 kj9 t102 (t102.toList == ([117, 116, 102, 45, 49, 54, 108, 101] : List UInt8))) else (if t102.toList = ([117, 116, 102, 45, 49, 54] : List UInt8) then (chars_Known.j2 kj9 t102 (t102.toList == ([117, 116, 102, 45, 49, 54] : List UInt8))) else (if t102.toList = ([117, 110, 105, 99, 111, 100, 101] : List UInt8) then (chars_Known.j2 kj9 t102 (t102.toList == ([117, 110, 105, 99, 111, 100, 101] : List UInt8))) else (chars_Known.j2 kj9 t102 (t102.toList == ([117, 99, 115, 45, 50] : List UInt8)))))) = some (r1, r2) := by rw [if_neg (show ¬ (false = true) by decide)] at H; exact H
              clear H
              have H := H1
              clear H1
              have HC19 := Aside0.mk H
              clear H
              go_upto_if 20 with (fail)
              go_cut [20] (fun v20 wc => ∃ (kq : Nat) (x20_18 : Bool), v20 = .bool x20_18 ∧ Aside0 (chars_Known.j2 kq t102 x20_18 = some (r1, r2)) ∧ Aside0 (kq ≤ kj9) ∧ Aside0 (Below w.heap.size w wc))
              case first =>
                have H := HC19.out
                clear HC19
                by_cases c20 : t102.toList = ([117, 116, 102, 45, 49, 54, 108, 101] : List UInt8)
                · rw [if_pos c20] at H
                  have c20b0 : (t102.toList == ([117, 116, 102, 45, 49, 54, 108, 101] : List UInt8)) = true := beq_iff_eq.mpr c20
                  have c20b1 : (t102.toList != ([117, 116, 102, 45, 49, 54, 108, 101] : List UInt8)) = false := bne_eq_false_iff_eq.mpr c20
                  clear c20
                  (first | rw [c20b0] | (simp only [i64_w, i32_w]; rw [c20b0]) | skip)
                  have H' := Aside0.mk H
                  clear H
                  go_wp2
                  go_meet
                  case rel => exact ⟨_, ((t102.toList == ([117, 116, 102, 45, 49, 54, 108, 101] : List UInt8))), (by first | rfl | (simp; done) | (simp [*]; done)), H', ⟨by have := HJ3.out; have := HJ9.out; first | omega | exact Nat.le_refl _⟩, ⟨by repeat (first | (with_reducible first | exact HB.out | apply below_alloc | apply pw_below_drewN | apply below_drew1) | exact HB.out)⟩⟩
                · rw [if_neg c20] at H
                  have c20b0 : (t102.toList == ([117, 116, 102, 45, 49, 54, 108, 101] : List UInt8)) = false := beq_eq_false_iff_ne.mpr c20
                  have c20b1 : (t102.toList != ([117, 116, 102, 45, 49, 54, 108, 101] : List UInt8)) = true := bne_iff_ne.mpr c20
                  (first | rw [c20b0] | (simp only [i64_w, i32_w]; rw [c20b0]) | skip)
                  by_cases c21 : t102.toList = ([117, 116, 102, 45, 49, 54] : List UInt8)
                  · rw [if_pos c21] at H
                    have c21b0 : (t102.toList == ([117, 116, 102, 45, 49, 54] : List UInt8)) = true := beq_iff_eq.mpr c21
                    have c21b1 : (t102.toList != ([117, 116, 102, 45, 49, 54] : List UInt8)) = false := bne_eq_false_iff_eq.mpr c21
                    clear c21
                    have H' := Aside0.mk H
                    clear H
                    go_wp2
                    go_meet
                    case rel => exact ⟨_, ((t102.toList == ([117, 116, 102, 45, 49, 54] : List UInt8))), (by first | rfl | (simp; done) | (simp [*]; done)), H', ⟨by have := HJ3.out; have := HJ9.out; first | omega | exact Nat.le_refl _⟩, ⟨by repeat (first | (with_reducible first | exact HB.out | apply below_alloc | apply pw_below_drewN | apply below_drew1) | exact HB.out)⟩⟩
                  · rw [if_neg c21] at H
                    have c21b0 : (t102.toList == ([117, 116, 102, 45, 49, 54] : List UInt8)) = false := beq_eq_false_iff_ne.mpr c21
                    have c21b1 : (t102.toList != ([117, 116, 102, 45, 49, 54] : List UInt8)) = true := bne_iff_ne.mpr c21
                    by_cases c22 : t102.toList = ([117, 110, 105, 99, 111, 100, 101] : List UInt8)
                    · rw [if_pos c22] at H
                      have c22b0 : (t102.toList == ([117, 110, 105, 99, 111, 100, 101] : List UInt8)) = true := beq_iff_eq.mpr c22
                      have c22b1 : (t102.toList != ([117, 110, 105, 99, 111, 100, 101] : List UInt8)) = false := bne_eq_false_iff_eq.mpr c22
                      clear c22
                      have H' := Aside0.mk H
                      clear H
                      go_wp2
                      go_meet
                      case rel => exact ⟨_, ((t102.toList == ([117, 110, 105, 99, 111, 100, 101] : List UInt8))), (by first | rfl | (simp; done) | (simp [*]; done)), H', ⟨by have := HJ3.out; have := HJ9.out; first | omega | exact Nat.le_refl _⟩, ⟨by repeat (first | (with_reducible first | exact HB.out | apply below_alloc | apply pw_below_drewN | apply below_drew1) | exact HB.out)⟩⟩
                    · rw [if_neg c22] at H
                      have c22b0 : (t102.toList == ([117, 110, 105, 99, 111, 100, 101] : List UInt8)) = false := beq_eq_false_iff_ne.mpr c22
                      have c22b1 : (t102.toList != ([117, 110, 105, 99, 111, 100, 101] : List UInt8)) = true := bne_iff_ne.mpr c22
                      have H' := Aside0.mk H
                      clear H
                      go_wp2
                      go_meet
                      case rel => exact ⟨_, ((t102.toList == ([117, 99, 115, 45, 50] : List UInt8))), (by first | rfl | (simp; done) | (simp [*]; done)), H', ⟨by have := HJ3.out; have := HJ9.out; first | omega | exact Nat.le_refl _⟩, ⟨by repeat (first | (with_reducible first | exact HB.out | apply below_alloc | apply pw_below_drewN | apply below_drew1) | exact HB.out)⟩⟩
              case rest =>
                clear HC19
                try clear c1
                try clear c2
                try clear p2
                try clear c3
                try clear c4
                try clear c7
                try clear c7b0
                try clear c7b1
                try clear c8
                try clear c8b0
                try clear c8b1
                try clear c9
                try clear c11
                try clear c11b0
                try clear c11b1
                try clear c12
                try clear c12b0
                try clear c12b1
                try clear c13
                try clear c13b0
                try clear c13b1
                try clear c14
                try clear c14b0
                try clear c14b1
                try clear c15
                try clear c15b0
                try clear c15b1
                try clear c16
                try clear c16b0
                try clear c16b1
                try clear c17
                try clear c17b0
                try clear c17b1
                try clear c18
                try clear c20
                try clear c20b0
                try clear c20b1
                try clear c21
                try clear c21b0
                try clear c21b1
                try clear c22
                try clear c22b0
                try clear c22b1
                try clear p2
                obtain ⟨kq, x20_18, rfl, HA, HJ18, HB⟩ := hcut
                cases kq with
                | zero => exact absurd HA.out (by simp [chars_Known.j2])
                | succ kj18 =>
                  have H := HA.out
                  clear HA
                  simp only [chars_Known.j2] at H
                  by_cases c23 : x20_18 = true
                  · subst c23
                    have H1 : (some ((⟨#[117, 116, 102, 45, 49, 54, 108, 101]⟩ : ByteArray), true)) = some (r1, r2) := by rw [if_pos rfl] at H; exact H
                    clear H
                    have H := H1
                    clear H1
                    simp only [Option.some.injEq, Prod.mk.injEq] at H
                    obtain ⟨rfl, rfl⟩ := H
                    go_wp2
                    go_ret2
                    exact ⟨by first | rfl | (simp [errW_none, errW_some] <;> rfl) | (simp [*, errW_none, errW_some] <;> rfl), by repeat (first | (with_reducible first | exact HB.out | apply below_alloc | apply pw_below_drewN | apply below_drew1) | exact HB.out)⟩
                  · replace c23 := Bool.eq_false_iff.mpr c23
                    subst c23
                    have H1 : (if t102.toList = ([117, 116, 102, 45, 49, 54, 98, 101] : List UInt8) then (some ((⟨#[117, 116, 102, 45, 49, 54, 98, 101]⟩ : ByteArray), true)) else (if t102.toList = ([117, 110, 105, 99, 111, 100, 101, 102, 102, 102, 101] : List UInt8) then (some ((⟨#[117, 116, 102, 45, 49, 54, 98, 101]⟩ : ByteArray), true)) else (some ((⟨#[]⟩ : ByteArray), false)))) = some (r1, r2) := by rw [if_neg (show ¬ (false = true) by decide)] at H; exact H
                    clear H
                    have H := H1
                    clear H1
                    by_cases c24 : t102.toList = ([117, 116, 102, 45, 49, 54, 98, 101] : List UInt8)
                    · rw [if_pos c24] at H
                      have c24b0 : (t102.toList == ([117, 116, 102, 45, 49, 54, 98, 101] : List UInt8)) = true := beq_iff_eq.mpr c24
                      have c24b1 : (t102.toList != ([117, 116, 102, 45, 49, 54, 98, 101] : List UInt8)) = false := bne_eq_false_iff_eq.mpr c24
                      clear c24
                      simp only [Option.some.injEq, Prod.mk.injEq] at H
                      obtain ⟨rfl, rfl⟩ := H
                      go_wp2
                      go_ret2
                      exact ⟨by first | rfl | (simp [errW_none, errW_some] <;> rfl) | (simp [*, errW_none, errW_some] <;> rfl), by repeat (first | (with_reducible first | exact HB.out | apply below_alloc | apply pw_below_drewN | apply below_drew1) | exact HB.out)⟩
                    · rw [if_neg c24] at H
                      have c24b0 : (t102.toList == ([117, 116, 102, 45, 49, 54, 98, 101] : List UInt8)) = false := beq_eq_false_iff_ne.mpr c24
                      have c24b1 : (t102.toList != ([117, 116, 102, 45, 49, 54, 98, 101] : List UInt8)) = true := bne_iff_ne.mpr c24
                      by_cases c25 : t102.toList = ([117, 110, 105, 99, 111, 100, 101, 102, 102, 102, 101] : List UInt8)
                      · rw [if_pos c25] at H
                        have c25b0 : (t102.toList == ([117, 110, 105, 99, 111, 100, 101, 102, 102, 102, 101] : List UInt8)) = true := beq_iff_eq.mpr c25
                        have c25b1 : (t102.toList != ([117, 110, 105, 99, 111, 100, 101, 102, 102, 102, 101] : List UInt8)) = false := bne_eq_false_iff_eq.mpr c25
                        clear c25
                        simp only [Option.some.injEq, Prod.mk.injEq] at H
                        obtain ⟨rfl, rfl⟩ := H
                        go_wp2
                        go_ret2
                        exact ⟨by first | rfl | (simp [errW_none, errW_some] <;> rfl) | (simp [*, errW_none, errW_some] <;> rfl), by repeat (first | (with_reducible first | exact HB.out | apply below_alloc | apply pw_below_drewN | apply below_drew1) | exact HB.out)⟩
                      · rw [if_neg c25] at H
                        have c25b0 : (t102.toList == ([117, 110, 105, 99, 111, 100, 101, 102, 102, 102, 101] : List UInt8)) = false := beq_eq_false_iff_ne.mpr c25
                        have c25b1 : (t102.toList != ([117, 110, 105, 99, 111, 100, 101, 102, 102, 102, 101] : List UInt8)) = true := bne_iff_ne.mpr c25
                        simp only [Option.some.injEq, Prod.mk.injEq] at H
                        obtain ⟨rfl, rfl⟩ := H
                        go_wp2
                        go_ret2
                        exact ⟨by first | rfl | (simp [errW_none, errW_some] <;> rfl) | (simp [*, errW_none, errW_some] <;> rfl), by repeat (first | (with_reducible first | exact HB.out | apply below_alloc | apply pw_below_drewN | apply below_drew1) | exact HB.out)⟩
def chars_Decode.f (k : Nat) (a0 : ByteArray) (a1 : ByteArray) : Option (ByteArray × Bool) := (chars_Known.f k a0).bind fun bt103 => (if bt103.1.toList = ([119, 105, 110, 100, 111, 119, 115, 45, 49, 50, 53, 50] : List UInt8) then ((chars_singles.f a1).bind fun t105 => (some (t105, bt103.2))) else (if bt103.1.toList = ([117, 116, 102, 45, 49, 54, 108, 101] : List UInt8) then ((chars_doubles.f a1 0 8).bind fun t106 => (some (t106, bt103.2))) else (if bt103.1.toList = ([117, 116, 102, 45, 49, 54, 98, 101] : List UInt8) then ((chars_doubles.f a1 8 0).bind fun t107 => (some (t107, bt103.2))) else ((chars_Valid.f a1).bind fun t108 => (some (t108, bt103.2))))))
set_option maxHeartbeats 8000000 in
set_option maxRecDepth 100000 in
theorem chars_Decode.calls (k : Nat) (a0 : ByteArray) (a1 : ByteArray) (r1 : ByteArray) (r2 : Bool) (w : World) (hGl : Glob w) (h : chars_Decode.f k a0 a1 = some (r1, r2)) :
    Calls Tryd.prog 25 #[.string a0, .string a1] w fun e w' => e = .returned (.tuple #[.string r1, .bool r2]) ∧ Below w.heap.size w w' := by
  have HGl := Aside0.mk hGl
  clear hGl
  have HB := Aside0.mk (Below.refl w.heap.size w)
  have H : ((chars_Known.f k a0).bind fun bt103 => (if bt103.1.toList = ([119, 105, 110, 100, 111, 119, 115, 45, 49, 50, 53, 50] : List UInt8) then ((chars_singles.f a1).bind fun t105 => (some (t105, bt103.2))) else (if bt103.1.toList = ([117, 116, 102, 45, 49, 54, 108, 101] : List UInt8) then ((chars_doubles.f a1 0 8).bind fun t106 => (some (t106, bt103.2))) else (if bt103.1.toList = ([117, 116, 102, 45, 49, 54, 98, 101] : List UInt8) then ((chars_doubles.f a1 8 0).bind fun t107 => (some (t107, bt103.2))) else ((chars_Valid.f a1).bind fun t108 => (some (t108, bt103.2))))))) = some (r1, r2) := h
  clear h
  replace H := Option.bind_eq_some_iff.mp H
  obtain ⟨⟨t103, t104⟩, A30, H⟩ := H
  replace H : (if t103.toList = ([119, 105, 110, 100, 111, 119, 115, 45, 49, 50, 53, 50] : List UInt8) then ((chars_singles.f a1).bind fun t105 => (some (t105, t104))) else (if t103.toList = ([117, 116, 102, 45, 49, 54, 108, 101] : List UInt8) then ((chars_doubles.f a1 0 8).bind fun t106 => (some (t106, t104))) else (if t103.toList = ([117, 116, 102, 45, 49, 54, 98, 101] : List UInt8) then ((chars_doubles.f a1 8 0).bind fun t107 => (some (t107, t104))) else ((chars_Valid.f a1).bind fun t108 => (some (t108, t104)))))) = some (r1, r2) := H
  have A3 := Aside0.mk A30
  clear A30
  by_cases c4 : t103.toList = ([119, 105, 110, 100, 111, 119, 115, 45, 49, 50, 53, 50] : List UInt8)
  · rw [if_pos c4] at H
    have c4b0 : (t103.toList == ([119, 105, 110, 100, 111, 119, 115, 45, 49, 50, 53, 50] : List UInt8)) = true := beq_iff_eq.mpr c4
    have c4b1 : (t103.toList != ([119, 105, 110, 100, 111, 119, 115, 45, 49, 50, 53, 50] : List UInt8)) = false := bne_eq_false_iff_eq.mpr c4
    clear c4
    replace H := Option.bind_eq_some_iff.mp H
    obtain ⟨t105, A50, H⟩ := H
    replace H : (some (t105, t104)) = some (r1, r2) := H
    have A5 := Aside0.mk A50
    clear A50
    simp only [Option.some.injEq, Prod.mk.injEq] at H
    obtain ⟨rfl, rfl⟩ := H
    go_enter Tryd.func25, Tryd.ntmps25
    go_wp2_with (first | ((with_reducible refine gate_callee (f := 22) rfl ?_); refine goesL_ (some 10) rfl rfl Tryd.func22 (by kernel_rfl) rfl #[.string a0] rfl (by (try simp only [List.map_toArray, List.map_cons, List.map_nil]); first | done | rfl | (simp only [List.length_drop, List.length_take]; rfl)) ?_; (with_reducible refine (chars_Known.calls k a0 t103 t104 _ A3.out).mono ?_); rintro e w6 ⟨rfl, hb⟩; refine ⟨_, rfl, ?_⟩; have n0_ := Aside0.mk (below_step (by repeat (first | (with_reducible first | exact HB.out | apply below_alloc | apply pw_below_drewN | apply below_drew1) | exact HB.out)) hb); clear HB; have HB := n0_; clear n0_; (try clear hb); (try clear hb2); (try clear hk); (try clear hi)) | ((with_reducible refine gate_callee (f := 54) rfl ?_); refine goesL_ (some 17) rfl rfl Tryd.func54 (by kernel_rfl) rfl #[.string a1] rfl (by (try simp only [List.map_toArray, List.map_cons, List.map_nil]); first | done | rfl | (simp only [List.length_drop, List.length_take]; rfl)) ?_; (with_reducible refine (chars_singles.calls a1 t105 _ ?sideGl A5.out).mono ?_); (case sideGl => exact HGl.out.below (by repeat (first | (with_reducible first | exact HB.out | apply below_alloc | apply pw_below_drewN | apply below_drew1) | exact HB.out))); rintro e w7 ⟨rfl, hb⟩; refine ⟨_, rfl, ?_⟩; have n0_ := Aside0.mk (below_step (by repeat (first | (with_reducible first | exact HB.out | apply below_alloc | apply pw_below_drewN | apply below_drew1) | exact HB.out)) hb); clear HB; have HB := n0_; clear n0_; (try clear hb); (try clear hb2); (try clear hk); (try clear hi)))
    go_ret2
    exact ⟨by first | rfl | (simp [errW_none, errW_some] <;> rfl) | (simp [*, errW_none, errW_some] <;> rfl), by repeat (first | (with_reducible first | exact HB.out | apply below_alloc | apply pw_below_drewN | apply below_drew1) | exact HB.out)⟩
  · rw [if_neg c4] at H
    have c4b0 : (t103.toList == ([119, 105, 110, 100, 111, 119, 115, 45, 49, 50, 53, 50] : List UInt8)) = false := beq_eq_false_iff_ne.mpr c4
    have c4b1 : (t103.toList != ([119, 105, 110, 100, 111, 119, 115, 45, 49, 50, 53, 50] : List UInt8)) = true := bne_iff_ne.mpr c4
    by_cases c8 : t103.toList = ([117, 116, 102, 45, 49, 54, 108, 101] : List UInt8)
    · rw [if_pos c8] at H
      have c8b0 : (t103.toList == ([117, 116, 102, 45, 49, 54, 108, 101] : List UInt8)) = true := beq_iff_eq.mpr c8
      have c8b1 : (t103.toList != ([117, 116, 102, 45, 49, 54, 108, 101] : List UInt8)) = false := bne_eq_false_iff_eq.mpr c8
      clear c8
      replace H := Option.bind_eq_some_iff.mp H
      obtain ⟨t106, A90, H⟩ := H
      replace H : (some (t106, t104)) = some (r1, r2) := H
      have A9 := Aside0.mk A90
      clear A90
      simp only [Option.some.injEq, Prod.mk.injEq] at H
      obtain ⟨rfl, rfl⟩ := H
      go_enter Tryd.func25, Tryd.ntmps25
      go_wp2_with (first | ((with_reducible refine gate_callee (f := 22) rfl ?_); refine goesL_ (some 10) rfl rfl Tryd.func22 (by kernel_rfl) rfl #[.string a0] rfl (by (try simp only [List.map_toArray, List.map_cons, List.map_nil]); first | done | rfl | (simp only [List.length_drop, List.length_take]; rfl)) ?_; (with_reducible refine (chars_Known.calls k a0 t103 t104 _ A3.out).mono ?_); rintro e w10 ⟨rfl, hb⟩; refine ⟨_, rfl, ?_⟩; have n0_ := Aside0.mk (below_step (by repeat (first | (with_reducible first | exact HB.out | apply below_alloc | apply pw_below_drewN | apply below_drew1) | exact HB.out)) hb); clear HB; have HB := n0_; clear n0_; (try clear hb); (try clear hb2); (try clear hk); (try clear hi)) | ((with_reducible refine gate_callee (f := 55) rfl ?_); refine goesL_ (some 22) rfl rfl Tryd.func55 (by kernel_rfl) rfl #[.string a1, .int .i64 0, .int .i64 8] rfl (by (try simp only [List.map_toArray, List.map_cons, List.map_nil]); first | done | rfl | (simp only [List.length_drop, List.length_take]; rfl)) ?_; (with_reducible refine (chars_doubles.calls a1 0 8 t106 _ A9.out).mono ?_); rintro e w11 ⟨rfl, hb⟩; refine ⟨_, rfl, ?_⟩; have n0_ := Aside0.mk (below_step (by repeat (first | (with_reducible first | exact HB.out | apply below_alloc | apply pw_below_drewN | apply below_drew1) | exact HB.out)) hb); clear HB; have HB := n0_; clear n0_; (try clear hb); (try clear hb2); (try clear hk); (try clear hi)))
      go_ret2
      exact ⟨by first | rfl | (simp [errW_none, errW_some] <;> rfl) | (simp [*, errW_none, errW_some] <;> rfl), by repeat (first | (with_reducible first | exact HB.out | apply below_alloc | apply pw_below_drewN | apply below_drew1) | exact HB.out)⟩
    · rw [if_neg c8] at H
      have c8b0 : (t103.toList == ([117, 116, 102, 45, 49, 54, 108, 101] : List UInt8)) = false := beq_eq_false_iff_ne.mpr c8
      have c8b1 : (t103.toList != ([117, 116, 102, 45, 49, 54, 108, 101] : List UInt8)) = true := bne_iff_ne.mpr c8
      by_cases c12 : t103.toList = ([117, 116, 102, 45, 49, 54, 98, 101] : List UInt8)
      · rw [if_pos c12] at H
        have c12b0 : (t103.toList == ([117, 116, 102, 45, 49, 54, 98, 101] : List UInt8)) = true := beq_iff_eq.mpr c12
        have c12b1 : (t103.toList != ([117, 116, 102, 45, 49, 54, 98, 101] : List UInt8)) = false := bne_eq_false_iff_eq.mpr c12
        clear c12
        replace H := Option.bind_eq_some_iff.mp H
        obtain ⟨t107, A130, H⟩ := H
        replace H : (some (t107, t104)) = some (r1, r2) := H
        have A13 := Aside0.mk A130
        clear A130
        simp only [Option.some.injEq, Prod.mk.injEq] at H
        obtain ⟨rfl, rfl⟩ := H
        go_enter Tryd.func25, Tryd.ntmps25
        go_wp2_with (first | ((with_reducible refine gate_callee (f := 22) rfl ?_); refine goesL_ (some 10) rfl rfl Tryd.func22 (by kernel_rfl) rfl #[.string a0] rfl (by (try simp only [List.map_toArray, List.map_cons, List.map_nil]); first | done | rfl | (simp only [List.length_drop, List.length_take]; rfl)) ?_; (with_reducible refine (chars_Known.calls k a0 t103 t104 _ A3.out).mono ?_); rintro e w14 ⟨rfl, hb⟩; refine ⟨_, rfl, ?_⟩; have n0_ := Aside0.mk (below_step (by repeat (first | (with_reducible first | exact HB.out | apply below_alloc | apply pw_below_drewN | apply below_drew1) | exact HB.out)) hb); clear HB; have HB := n0_; clear n0_; (try clear hb); (try clear hb2); (try clear hk); (try clear hi)) | ((with_reducible refine gate_callee (f := 55) rfl ?_); refine goesL_ (some 27) rfl rfl Tryd.func55 (by kernel_rfl) rfl #[.string a1, .int .i64 8, .int .i64 0] rfl (by (try simp only [List.map_toArray, List.map_cons, List.map_nil]); first | done | rfl | (simp only [List.length_drop, List.length_take]; rfl)) ?_; (with_reducible refine (chars_doubles.calls a1 8 0 t107 _ A13.out).mono ?_); rintro e w15 ⟨rfl, hb⟩; refine ⟨_, rfl, ?_⟩; have n0_ := Aside0.mk (below_step (by repeat (first | (with_reducible first | exact HB.out | apply below_alloc | apply pw_below_drewN | apply below_drew1) | exact HB.out)) hb); clear HB; have HB := n0_; clear n0_; (try clear hb); (try clear hb2); (try clear hk); (try clear hi)))
        go_ret2
        exact ⟨by first | rfl | (simp [errW_none, errW_some] <;> rfl) | (simp [*, errW_none, errW_some] <;> rfl), by repeat (first | (with_reducible first | exact HB.out | apply below_alloc | apply pw_below_drewN | apply below_drew1) | exact HB.out)⟩
      · rw [if_neg c12] at H
        have c12b0 : (t103.toList == ([117, 116, 102, 45, 49, 54, 98, 101] : List UInt8)) = false := beq_eq_false_iff_ne.mpr c12
        have c12b1 : (t103.toList != ([117, 116, 102, 45, 49, 54, 98, 101] : List UInt8)) = true := bne_iff_ne.mpr c12
        replace H := Option.bind_eq_some_iff.mp H
        obtain ⟨t108, A160, H⟩ := H
        replace H : (some (t108, t104)) = some (r1, r2) := H
        have A16 := Aside0.mk A160
        clear A160
        simp only [Option.some.injEq, Prod.mk.injEq] at H
        obtain ⟨rfl, rfl⟩ := H
        go_enter Tryd.func25, Tryd.ntmps25
        go_wp2_with (first | ((with_reducible refine gate_callee (f := 22) rfl ?_); refine goesL_ (some 10) rfl rfl Tryd.func22 (by kernel_rfl) rfl #[.string a0] rfl (by (try simp only [List.map_toArray, List.map_cons, List.map_nil]); first | done | rfl | (simp only [List.length_drop, List.length_take]; rfl)) ?_; (with_reducible refine (chars_Known.calls k a0 t103 t104 _ A3.out).mono ?_); rintro e w17 ⟨rfl, hb⟩; refine ⟨_, rfl, ?_⟩; have n0_ := Aside0.mk (below_step (by repeat (first | (with_reducible first | exact HB.out | apply below_alloc | apply pw_below_drewN | apply below_drew1) | exact HB.out)) hb); clear HB; have HB := n0_; clear n0_; (try clear hb); (try clear hb2); (try clear hk); (try clear hi)) | ((with_reducible refine gate_callee (f := 17) rfl ?_); refine goesL_ (some 30) rfl rfl Tryd.func17 (by kernel_rfl) rfl #[.string a1] rfl (by (try simp only [List.map_toArray, List.map_cons, List.map_nil]); first | done | rfl | (simp only [List.length_drop, List.length_take]; rfl)) ?_; (with_reducible refine (chars_Valid.calls a1 t108 _ A16.out).mono ?_); rintro e w18 ⟨rfl, hb⟩; refine ⟨_, rfl, ?_⟩; have n0_ := Aside0.mk (below_step (by repeat (first | (with_reducible first | exact HB.out | apply below_alloc | apply pw_below_drewN | apply below_drew1) | exact HB.out)) hb); clear HB; have HB := n0_; clear n0_; (try clear hb); (try clear hb2); (try clear hk); (try clear hi)))
        go_ret2
        exact ⟨by first | rfl | (simp [errW_none, errW_some] <;> rfl) | (simp [*, errW_none, errW_some] <;> rfl), by repeat (first | (with_reducible first | exact HB.out | apply below_alloc | apply pw_below_drewN | apply below_drew1) | exact HB.out)⟩
end Go.Proofs.YtokkgjiofhhlkaaDoor.C
namespace Go.Proofs.YtokkgjiofhhlkaaDoor
set_option linter.unusedVariables false
set_option linter.unusedSimpArgs false
def byteAt (l : List UInt8) (j : Nat) : Nat := (l.getD j 0).toNat
def contAt (l : List UInt8) (j : Nat) : Bool := decide (j < l.length) && byteAt l j / 64 == 2
def uDec (l : List UInt8) : Nat × Nat :=
  if byteAt l 0 < 128 then (byteAt l 0, 1)
  else if byteAt l 0 / 32 == 6 && contAt l 1 then
    if byteAt l 0 % 32 * 64 + byteAt l 1 % 64 ≥ 128 then (byteAt l 0 % 32 * 64 + byteAt l 1 % 64, 2) else (65533, 1)
  else if byteAt l 0 / 16 == 14 && contAt l 1 && contAt l 2 then
    if byteAt l 0 % 16 * 4096 + byteAt l 1 % 64 * 64 + byteAt l 2 % 64 ≥ 2048 && Utf8.valid ((byteAt l 0 % 16 * 4096 + byteAt l 1 % 64 * 64 + byteAt l 2 % 64 : Nat) : Int) then (byteAt l 0 % 16 * 4096 + byteAt l 1 % 64 * 64 + byteAt l 2 % 64, 3) else (65533, 1)
  else if byteAt l 0 / 8 == 30 && contAt l 1 && contAt l 2 && contAt l 3 then
    if byteAt l 0 % 8 * 262144 + byteAt l 1 % 64 * 4096 + byteAt l 2 % 64 * 64 + byteAt l 3 % 64 ≥ 65536 && Utf8.valid ((byteAt l 0 % 8 * 262144 + byteAt l 1 % 64 * 4096 + byteAt l 2 % 64 * 64 + byteAt l 3 % 64 : Nat) : Int) then (byteAt l 0 % 8 * 262144 + byteAt l 1 % 64 * 4096 + byteAt l 2 % 64 * 64 + byteAt l 3 % 64, 4) else (65533, 1)
  else (65533, 1)
theorem decode_list (s : ByteArray) (i : Nat) : Utf8.decode s i = uDec (s.data.toList.drop i) := by
  have hg : ∀ k, (s.get! (i + k)).toNat = byteAt (s.data.toList.drop i) k := by
    intro k
    simp only [byteAt, List.getD_eq_getElem?_getD, List.getElem?_drop, ByteArray.get!]
    rw [Array.getElem?_toList]
    simp [getElem!_def]
    cases s.data[i + k]? <;> rfl
  have hc : ∀ k, (decide (i + k < s.size) && byteAt (s.data.toList.drop i) k / 64 == 2) = contAt (s.data.toList.drop i) k := by
    intro k
    simp only [contAt, List.length_drop, Array.length_toList]
    congr 1
    simp only [ByteArray.size, decide_eq_decide]
    omega
  simp only [Utf8.decode, hg, hc]
  simp only [uDec, Utf8.runeError]
theorem byte_back {x : Int} {a : UInt8} (h : x = (a.toNat : Int)) : x.toNat.toUInt8 = a := by
  subst h
  simp
theorem valid_iff (r : Int) : Utf8.valid r = true ↔ (0 ≤ r ∧ r < 55296) ∨ (57344 ≤ r ∧ r ≤ 1114111) := by
  simp only [Utf8.valid, Bool.or_eq_true, Bool.and_eq_true, decide_eq_true_eq]
theorem enc_one {r : Int} (h0 : 0 ≤ r) (h1 : r ≤ 127) : Lib.encodeRune r = [r.toNat.toUInt8] := by
  simp [Lib.encodeRune, Lib.encodeRuneZ_one h0 h1]
theorem enc_two {r : Int} (h0 : 128 ≤ r) (h1 : r ≤ 2047) : Lib.encodeRune r = [(192 + r / 64).toNat.toUInt8, (128 + r % 64).toNat.toUInt8] := by
  simp [Lib.encodeRune, Lib.encodeRuneZ_two h0 h1]
theorem enc_three {r : Int} (h : (2048 ≤ r ∧ r < 55296) ∨ (57343 < r ∧ r ≤ 65535)) : Lib.encodeRune r = [(224 + r / 4096).toNat.toUInt8, (128 + r / 64 % 64).toNat.toUInt8, (128 + r % 64).toNat.toUInt8] := by
  simp [Lib.encodeRune, Lib.encodeRuneZ_three h]
theorem enc_four {r : Int} (h0 : 65536 ≤ r) (h1 : r ≤ 1114111) : Lib.encodeRune r = [(240 + r / 262144).toNat.toUInt8, (128 + r / 4096 % 64).toNat.toUInt8, (128 + r / 64 % 64).toNat.toUInt8, (128 + r % 64).toNat.toUInt8] := by
  simp [Lib.encodeRune, Lib.encodeRuneZ_four h0 h1]
theorem enc_bad {r : Int} (h : r < 0 ∨ (55296 ≤ r ∧ r ≤ 57343) ∨ 1114111 < r) : Lib.encodeRune r = [239, 191, 189] := by
  simp [Lib.encodeRune, Lib.encodeRuneZ_bad h]
theorem toU8 {x : Int} (h0 : 0 ≤ x) (h1 : x < 256) : (x.toNat.toUInt8).toNat = x.toNat := by
  show (UInt8.ofNat x.toNat).toNat = _
  rw [UInt8.toNat_ofNat']; omega
def wholeL (l : List UInt8) : Nat := if (uDec l).2 = 1 ∧ 128 ≤ byteAt l 0 then 0 else (uDec l).2
theorem ex2 {a : UInt8} {r : List UInt8} (h : 2 < (a :: r).length) : ∃ b c r', r = b :: c :: r' := by
  match r, h with
  | b :: c :: r', _ => exact ⟨b, c, r', rfl⟩
theorem ex3 {a : UInt8} {r : List UInt8} (h : 3 < (a :: r).length) : ∃ b c d r', r = b :: c :: d :: r' := by
  match r, h with
  | b :: c :: d :: r', _ => exact ⟨b, c, d, r', rfl⟩
theorem contAt_iff (l : List UInt8) (j : Nat) : contAt l j = true ↔ j < l.length ∧ byteAt l j / 64 = 2 := by
  simp [contAt]
theorem dec_cases (l : List UInt8) (hl : l ≠ []) :
    (wholeL l = 0 ∧ uDec l = (65533, 1) ∧ 128 ≤ byteAt l 0) ∨
    (wholeL l = (uDec l).2 ∧ 0 < (uDec l).2 ∧ (uDec l).2 ≤ 4 ∧ (uDec l).2 ≤ l.length ∧ Utf8.valid (uDec l).1 = true ∧ Lib.encodeRune (uDec l).1 = l.take (uDec l).2) := by
  obtain ⟨a, r, rfl⟩ := List.exists_cons_of_ne_nil hl
  by_cases h0 : byteAt (a :: r) 0 < 128
  · right
    have e : uDec (a :: r) = (byteAt (a :: r) 0, 1) := by simp only [uDec, if_pos h0]
    have hw : wholeL (a :: r) = 1 := by unfold wholeL; rw [e, if_neg (by omega)]
    have ha : byteAt (a :: r) 0 = a.toNat := rfl
    rw [hw, e]
    refine ⟨rfl, by omega, by omega, by simp, ?_, ?_⟩
    · rw [valid_iff]; simp only; omega
    · rw [enc_one (by simp) (by simp only; omega)]; simp [ha]
  · have bad : uDec (a :: r) = (65533, 1) → (wholeL (a :: r) = 0 ∧ uDec (a :: r) = (65533, 1) ∧ 128 ≤ byteAt (a :: r) 0) := fun e =>
      ⟨by unfold wholeL; rw [e, if_pos ⟨rfl, by omega⟩], e, by omega⟩
    have good : ∀ n w, uDec (a :: r) = (n, w) → 1 < w → wholeL (a :: r) = w := fun n w e hw => by
      unfold wholeL; rw [e, if_neg (by simp only; omega)]
    by_cases h2 : byteAt (a :: r) 0 / 32 = 6 ∧ contAt (a :: r) 1 = true
    · obtain ⟨c0, c1⟩ := h2
      by_cases h3 : byteAt (a :: r) 0 % 32 * 64 + byteAt (a :: r) 1 % 64 ≥ 128
      · right
        have e : uDec (a :: r) = (byteAt (a :: r) 0 % 32 * 64 + byteAt (a :: r) 1 % 64, 2) := by
          simp only [uDec, if_neg h0, c0, c1, beq_self_eq_true, Bool.and_self, if_true, if_pos h3]
        rw [good _ _ e (by omega), e]
        rw [contAt_iff] at c1
        match r, c1, e, h3, c0, h0 with
        | b :: r, c1, e, h3, c0, h0 =>
          have ha : byteAt (a :: b :: r) 0 = a.toNat := rfl
          have hb : byteAt (a :: b :: r) 1 = b.toNat := rfl
          have := UInt8.toNat_lt a; have := UInt8.toNat_lt b
          rw [ha, hb]
          refine ⟨rfl, by omega, by omega, by simp, ?_, ?_⟩
          · rw [valid_iff]; simp only; omega
          · rw [enc_two (by simp only; omega) (by simp only; omega)]
            rw [byte_back (a := a) (by simp only; omega), byte_back (a := b) (by simp only; omega)]
            rfl
      · left
        exact bad (by simp only [uDec, if_neg h0, c0, c1, beq_self_eq_true, Bool.and_self, if_true, if_neg h3])
    · have n2 : (byteAt (a :: r) 0 / 32 == 6 && contAt (a :: r) 1) = false := by
        cases hh : (byteAt (a :: r) 0 / 32 == 6 && contAt (a :: r) 1) with
        | false => rfl
        | true => simp only [Bool.and_eq_true, beq_iff_eq] at hh; exact absurd hh h2
      by_cases h4 : byteAt (a :: r) 0 / 16 = 14 ∧ contAt (a :: r) 1 = true ∧ contAt (a :: r) 2 = true
      · obtain ⟨c0, c1, c2⟩ := h4
        by_cases h5 : (decide (byteAt (a :: r) 0 % 16 * 4096 + byteAt (a :: r) 1 % 64 * 64 + byteAt (a :: r) 2 % 64 ≥ 2048) && Utf8.valid ((byteAt (a :: r) 0 % 16 * 4096 + byteAt (a :: r) 1 % 64 * 64 + byteAt (a :: r) 2 % 64 : Nat) : Int)) = true
        · right
          have e : uDec (a :: r) = (byteAt (a :: r) 0 % 16 * 4096 + byteAt (a :: r) 1 % 64 * 64 + byteAt (a :: r) 2 % 64, 3) := by
            simp only [uDec, if_neg h0, n2, Bool.false_eq_true, if_false]
            rw [if_pos (by simp [c0, c1, c2]), if_pos h5]
          rw [good _ _ e (by omega), e]
          rw [contAt_iff] at c1 c2
          simp only [Bool.and_eq_true, decide_eq_true_eq] at h5
          obtain ⟨h5, h6⟩ := h5
          obtain ⟨b, c, r, rfl⟩ := ex2 c2.1
          · skip
            have ha : byteAt (a :: b :: c :: r) 0 = a.toNat := rfl
            have hb : byteAt (a :: b :: c :: r) 1 = b.toNat := rfl
            have hc : byteAt (a :: b :: c :: r) 2 = c.toNat := rfl
            have := UInt8.toNat_lt a; have := UInt8.toNat_lt b; have := UInt8.toNat_lt c
            simp only [ha, hb, hc] at *
            refine ⟨trivial, by omega, by omega, by simp, h6, ?_⟩
            rw [valid_iff] at h6
            rw [enc_three (by omega)]
            rw [byte_back (a := a) (by omega), byte_back (a := b) (by omega), byte_back (a := c) (by omega)]
            rfl
        · left
          exact bad (by
            simp only [uDec, if_neg h0, n2, Bool.false_eq_true, if_false]
            rw [if_pos (by simp [c0, c1, c2]), if_neg h5])
      · have n4 : (byteAt (a :: r) 0 / 16 == 14 && contAt (a :: r) 1 && contAt (a :: r) 2) = false := by
          cases hh : (byteAt (a :: r) 0 / 16 == 14 && contAt (a :: r) 1 && contAt (a :: r) 2) with
          | false => rfl
          | true => simp only [Bool.and_eq_true, beq_iff_eq] at hh; exact absurd ⟨hh.1.1, hh.1.2, hh.2⟩ h4
        by_cases h6 : byteAt (a :: r) 0 / 8 = 30 ∧ contAt (a :: r) 1 = true ∧ contAt (a :: r) 2 = true ∧ contAt (a :: r) 3 = true
        · obtain ⟨c0, c1, c2, c3⟩ := h6
          by_cases h7 : (decide (byteAt (a :: r) 0 % 8 * 262144 + byteAt (a :: r) 1 % 64 * 4096 + byteAt (a :: r) 2 % 64 * 64 + byteAt (a :: r) 3 % 64 ≥ 65536) && Utf8.valid ((byteAt (a :: r) 0 % 8 * 262144 + byteAt (a :: r) 1 % 64 * 4096 + byteAt (a :: r) 2 % 64 * 64 + byteAt (a :: r) 3 % 64 : Nat) : Int)) = true
          · right
            have e : uDec (a :: r) = (byteAt (a :: r) 0 % 8 * 262144 + byteAt (a :: r) 1 % 64 * 4096 + byteAt (a :: r) 2 % 64 * 64 + byteAt (a :: r) 3 % 64, 4) := by
              simp only [uDec, if_neg h0, n2, n4, Bool.false_eq_true, if_false]
              rw [if_pos (by simp [c0, c1, c2, c3]), if_pos h7]
            rw [good _ _ e (by omega), e]
            rw [contAt_iff] at c1 c2 c3
            simp only [Bool.and_eq_true, decide_eq_true_eq] at h7
            obtain ⟨h7, h8⟩ := h7
            obtain ⟨b, c, d, r, rfl⟩ := ex3 c3.1
            · skip
              have ha : byteAt (a :: b :: c :: d :: r) 0 = a.toNat := rfl
              have hb : byteAt (a :: b :: c :: d :: r) 1 = b.toNat := rfl
              have hc : byteAt (a :: b :: c :: d :: r) 2 = c.toNat := rfl
              have hd : byteAt (a :: b :: c :: d :: r) 3 = d.toNat := rfl
              have := UInt8.toNat_lt a; have := UInt8.toNat_lt b; have := UInt8.toNat_lt c; have := UInt8.toNat_lt d
              simp only [ha, hb, hc, hd] at *
              refine ⟨trivial, by omega, by omega, by simp, h8, ?_⟩
              rw [valid_iff] at h8
              rw [enc_four (by omega) (by omega)]
              rw [byte_back (a := a) (by omega), byte_back (a := b) (by omega), byte_back (a := c) (by omega), byte_back (a := d) (by omega)]
              rfl
          · left
            exact bad (by
              simp only [uDec, if_neg h0, n2, n4, Bool.false_eq_true, if_false]
              rw [if_pos (by simp [c0, c1, c2, c3]), if_neg h7])
        · left
          have n6 : (byteAt (a :: r) 0 / 8 == 30 && contAt (a :: r) 1 && contAt (a :: r) 2 && contAt (a :: r) 3) = false := by
            cases hh : (byteAt (a :: r) 0 / 8 == 30 && contAt (a :: r) 1 && contAt (a :: r) 2 && contAt (a :: r) 3) with
            | false => rfl
            | true => simp only [Bool.and_eq_true, beq_iff_eq] at hh; exact absurd ⟨hh.1.1.1, hh.1.1.2, hh.1.2, hh.2⟩ h6
          exact bad (by simp only [uDec, if_neg h0, n2, n4, n6, Bool.false_eq_true, if_false])
theorem enc_ne (r : Int) : Lib.encodeRune r ≠ [] := by
  intro h
  have := Lib.encodeRuneZ_length r
  have h2 := congrArg List.length h
  simp [Lib.encodeRune] at h2
  rw [h2] at this
  simp at this
theorem enc_len (r : Int) : 1 ≤ (Lib.encodeRune r).length ∧ (Lib.encodeRune r).length ≤ 4 := by
  have := Lib.encodeRuneZ_length r
  simpa [Lib.encodeRune] using this
def valL : Nat → List UInt8 → List UInt8
  | 0, _ => []
  | n + 1, l => if l = [] then [] else Lib.encodeRune (uDec l).1 ++ valL n (l.drop (uDec l).2)
theorem dec_width (l : List UInt8) (hl : l ≠ []) : 1 ≤ (uDec l).2 ∧ (uDec l).2 ≤ l.length := by
  rcases dec_cases l hl with ⟨_, h, _⟩ | ⟨_, h1, _, h2, _⟩
  · rw [h]; have := List.length_pos_iff.2 hl; exact ⟨Nat.le_refl _, this⟩
  · exact ⟨h1, h2⟩
theorem valL_len : ∀ (n : Nat) (l : List UInt8), (valL n l).length ≤ 3 * l.length := by
  intro n
  induction n with
  | zero => intro l; simp [valL]
  | succ n ih =>
    intro l
    simp only [valL]
    split
    · simp
    · rename_i h
      have h1 := ih (l.drop (uDec l).2)
      have hw := dec_width l h
      rw [List.length_append]
      rw [List.length_drop] at h1
      rcases dec_cases l h with ⟨_, h2, _⟩ | ⟨_, _, _, h3, _, h4⟩
      · rw [h2] at h1 hw ⊢
        have : (Lib.encodeRune ((65533, 1) : Nat × Nat).1).length = 3 := by decide
        simp only at *
        omega
      · rw [h4, List.length_take]; omega
end Go.Proofs.YtokkgjiofhhlkaaDoor
namespace Go.Proofs.YtokkgjiofhhlkaaDoor.Pure
open Go.RowKit Go.Proofs.YtokkgjiofhhlkaaDoorW.PrintWords
set_option linter.unusedVariables false
set_option linter.unusedSimpArgs false
theorem w64 {x : Int} (h0 : -9223372036854775808 ≤ x) (h1 : x ≤ 9223372036854775807) : wrap64 x = x := by unfold wrap64; omega
theorem sizeL (s : ByteArray) : s.data.toList.length = s.size := by simp
theorem toList_eq (s : ByteArray) : s.toList = s.data.toList := ByteArray.toList_eq s
theorem mk_toList (l : List UInt8) : (⟨l.toArray⟩ : ByteArray).data.toList = l := rfl
theorem mk_size (l : List UInt8) : (⟨l.toArray⟩ : ByteArray).size = l.length := by simp [ByteArray.size]
theorem extract_list (s : ByteArray) (i j : Nat) : (s.extract i j).data.toList = (s.data.toList.take j).drop i := by
  simp [List.drop_take]
theorem mk_back (s : ByteArray) : (⟨s.data.toList.toArray⟩ : ByteArray) = s := by
  apply ByteArray.ext; simp
theorem ba_ext {s t : ByteArray} (h : s.data.toList = t.data.toList) : s = t := by
  apply ByteArray.ext; exact Array.ext' h
theorem Ev.round {α : Type} {g f : Nat → Option α} {r : α} (h : ∀ k, g (k + 1) = f k) (k : Ev f r) : Ev g r := Ev.step h k
theorem Ev.pos {α : Type} {c : Prop} [Decidable c] {g f : Nat → Option α} {r : α} (h : c) (k : Ev g r) : Ev (fun n => if c then g n else f n) r := by
  refine Ev.congr (fun n => ?_) k; exact if_pos h
theorem Ev.neg {α : Type} {c : Prop} [Decidable c] {g f : Nat → Option α} {r : α} (h : ¬ c) (k : Ev f r) : Ev (fun n => if c then g n else f n) r := by
  refine Ev.congr (fun n => ?_) k; exact if_neg h
theorem Ev.got {α β : Type} {x : Option α} {a : α} {f : Nat → α → Option β} {r : β} (h : x = some a) (k : Ev (fun n => f n a) r) : Ev (fun n => x.bind (f n)) r := by
  subst h; exact k
end Go.Proofs.YtokkgjiofhhlkaaDoor.Pure
namespace Go.Proofs.YtokkgjiofhhlkaaDoor.Pure
open Go.RowKit Go.Proofs.YtokkgjiofhhlkaaDoor.C Go.Proofs.YtokkgjiofhhlkaaDoorW.PrintWords Go.Proofs.YtokkgjiofhhlkaaDoorW.PrintLast
set_option linter.unusedVariables false
set_option linter.unusedSimpArgs false
section whole
variable (s : ByteArray) (hs : s.size ≤ 140737488351232)
include hs
end whole
theorem validFrom_valL (s : ByteArray) : ∀ (fuel pos : Nat), validFrom s fuel pos = valL fuel (s.data.toList.drop pos) := by
  intro fuel
  induction fuel with
  | zero => intro pos; rfl
  | succ n ih =>
    intro pos
    simp only [validFrom, valL]
    by_cases h : pos < s.size
    · rw [if_pos h, if_neg (by intro h2; have := congrArg List.length h2; simp at this; omega), decode_list, ih, List.drop_drop]
    · rw [if_neg h, if_pos (List.drop_eq_nil_of_le (by rw [sizeL]; omega))]
def vl (l : List UInt8) : List UInt8 := valL l.length l
theorem validS_eq (s : ByteArray) : validS s = ⟨(vl s.data.toList).toArray⟩ := by
  unfold validS vl
  rw [validFrom_valL, List.drop_zero, sizeL]
theorem vl_nil : vl [] = [] := rfl
end Go.Proofs.YtokkgjiofhhlkaaDoor.Pure
namespace Go.Proofs.YtokkgjiofhhlkaaDoor.Pure
open Go.RowKit Go.Proofs.YtokkgjiofhhlkaaDoor.C Go.Proofs.YtokkgjiofhhlkaaDoorW.PrintWords Go.Proofs.YtokkgjiofhhlkaaDoorW.PrintLast
set_option linter.unusedVariables false
set_option linter.unusedSimpArgs false
def knownL (t : List UInt8) : ByteArray × Bool :=
  if t = [117, 116, 102, 45, 56] ∨ t = [117, 116, 102, 56] ∨ t = [117, 110, 105, 99, 111, 100, 101, 45, 49, 45, 49, 45, 117, 116, 102, 45, 56] then ((⟨#[117, 116, 102, 45, 56]⟩ : ByteArray), true)
  else if t = [119, 105, 110, 100, 111, 119, 115, 45, 49, 50, 53, 50] ∨ t = [99, 112, 49, 50, 53, 50] ∨ t = [117, 115, 45, 97, 115, 99, 105, 105] ∨ t = [97, 115, 99, 105, 105] ∨ t = [105, 115, 111, 45, 56, 56, 53, 57, 45, 49] ∨ t = [105, 115, 111, 56, 56, 53, 57, 45, 49] ∨ t = [108, 97, 116, 105, 110, 49] ∨ t = [108, 49] then ((⟨#[119, 105, 110, 100, 111, 119, 115, 45, 49, 50, 53, 50]⟩ : ByteArray), true)
  else if t = [117, 116, 102, 45, 49, 54, 108, 101] ∨ t = [117, 116, 102, 45, 49, 54] ∨ t = [117, 110, 105, 99, 111, 100, 101] ∨ t = [117, 99, 115, 45, 50] then ((⟨#[117, 116, 102, 45, 49, 54, 108, 101]⟩ : ByteArray), true)
  else if t = [117, 116, 102, 45, 49, 54, 98, 101] ∨ t = [117, 110, 105, 99, 111, 100, 101, 102, 102, 102, 101] then ((⟨#[117, 116, 102, 45, 49, 54, 98, 101]⟩ : ByteArray), true)
  else ((⟨#[]⟩ : ByteArray), false)
set_option maxHeartbeats 1000000 in
theorem chars_Known_tail (t : ByteArray) : Ev (fun k => if t.toList = ([117, 116, 102, 45, 56] : List UInt8) then chars_Known.j0 k t (t.toList == ([117, 116, 102, 45, 56] : List UInt8)) else if t.toList = ([117, 116, 102, 56] : List UInt8) then chars_Known.j0 k t (t.toList == ([117, 116, 102, 56] : List UInt8)) else chars_Known.j0 k t (t.toList == ([117, 110, 105, 99, 111, 100, 101, 45, 49, 45, 49, 45, 117, 116, 102, 45, 56] : List UInt8))) (knownL t.data.toList) := by
  rw [← toList_eq]
  refine Ev.of (k := 3) (fun k => ?_) ?_
  · intro r h
    have m := fun x y => (chars_Known.mono_l k).1 x y
    split at h
    · rename_i c; rw [if_pos c]; exact m _ _ _ h
    · rename_i c; rw [if_neg c]
      split at h
      · rename_i c2; rw [if_pos c2]; exact m _ _ _ h
      · rename_i c2; rw [if_neg c2]; exact m _ _ _ h
  by_cases h0 : t.toList = [117, 116, 102, 45, 56]
  · simp [chars_Known.j0, chars_Known.j1, chars_Known.j2, h0, knownL]
  by_cases h1 : t.toList = [117, 116, 102, 56]
  · simp [chars_Known.j0, chars_Known.j1, chars_Known.j2, h1, knownL]
  by_cases h2 : t.toList = [117, 110, 105, 99, 111, 100, 101, 45, 49, 45, 49, 45, 117, 116, 102, 45, 56]
  · simp [chars_Known.j0, chars_Known.j1, chars_Known.j2, h2, knownL]
  by_cases h3 : t.toList = [119, 105, 110, 100, 111, 119, 115, 45, 49, 50, 53, 50]
  · simp [chars_Known.j0, chars_Known.j1, chars_Known.j2, h3, knownL]
  by_cases h4 : t.toList = [99, 112, 49, 50, 53, 50]
  · simp [chars_Known.j0, chars_Known.j1, chars_Known.j2, h4, knownL]
  by_cases h5 : t.toList = [117, 115, 45, 97, 115, 99, 105, 105]
  · simp [chars_Known.j0, chars_Known.j1, chars_Known.j2, h5, knownL]
  by_cases h6 : t.toList = [97, 115, 99, 105, 105]
  · simp [chars_Known.j0, chars_Known.j1, chars_Known.j2, h6, knownL]
  by_cases h7 : t.toList = [105, 115, 111, 45, 56, 56, 53, 57, 45, 49]
  · simp [chars_Known.j0, chars_Known.j1, chars_Known.j2, h7, knownL]
  by_cases h8 : t.toList = [105, 115, 111, 56, 56, 53, 57, 45, 49]
  · simp [chars_Known.j0, chars_Known.j1, chars_Known.j2, h8, knownL]
  by_cases h9 : t.toList = [108, 97, 116, 105, 110, 49]
  · simp [chars_Known.j0, chars_Known.j1, chars_Known.j2, h9, knownL]
  by_cases h10 : t.toList = [108, 49]
  · simp [chars_Known.j0, chars_Known.j1, chars_Known.j2, h10, knownL]
  by_cases h11 : t.toList = [117, 116, 102, 45, 49, 54, 108, 101]
  · simp [chars_Known.j0, chars_Known.j1, chars_Known.j2, h11, knownL]
  by_cases h12 : t.toList = [117, 116, 102, 45, 49, 54]
  · simp [chars_Known.j0, chars_Known.j1, chars_Known.j2, h12, knownL]
  by_cases h13 : t.toList = [117, 110, 105, 99, 111, 100, 101]
  · simp [chars_Known.j0, chars_Known.j1, chars_Known.j2, h13, knownL]
  by_cases h14 : t.toList = [117, 99, 115, 45, 50]
  · simp [chars_Known.j0, chars_Known.j1, chars_Known.j2, h14, knownL]
  by_cases h15 : t.toList = [117, 116, 102, 45, 49, 54, 98, 101]
  · simp [chars_Known.j0, chars_Known.j1, chars_Known.j2, h15, knownL]
  by_cases h16 : t.toList = [117, 110, 105, 99, 111, 100, 101, 102, 102, 102, 101]
  · simp [chars_Known.j0, chars_Known.j1, chars_Known.j2, h16, knownL]
  simp [chars_Known.j0, chars_Known.j1, chars_Known.j2, knownL, h0, h1, h2, h3, h4, h5, h6, h7, h8, h9, h10, h11, h12, h13, h14, h15, h16]
def rdrop (p : UInt8 → Bool) (l : List UInt8) : List UInt8 := (l.reverse.dropWhile p).reverse
theorem rdrop_cons (p : UInt8 → Bool) (x : UInt8) (xs : List UInt8) : rdrop p (x :: xs) = if rdrop p xs = [] then (if p x then [] else [x]) else x :: rdrop p xs := by
  unfold rdrop
  rw [List.reverse_cons, List.dropWhile_append]
  by_cases h : xs.reverse.dropWhile p = []
  · simp only [h, List.isEmpty_nil, if_true, List.reverse_nil]
    by_cases hx : p x = true
    · simp [hx]
    · simp [hx]
  · have h2 : (xs.reverse.dropWhile p).isEmpty = false := by
      cases hh : xs.reverse.dropWhile p with
      | nil => exact absurd hh h
      | cons a b => rfl
    simp [h2, h]
theorem drop_rdrop (p : UInt8 → Bool) : ∀ l : List UInt8, (rdrop p l).dropWhile p = rdrop p (l.dropWhile p) := by
  intro l
  induction l with
  | nil => rfl
  | cons x xs ih =>
    rw [rdrop_cons]
    by_cases hx : p x = true
    · rw [List.dropWhile_cons_of_pos hx, ← ih]
      by_cases h : rdrop p xs = []
      · rw [if_pos h, if_pos hx, h]
      · rw [if_neg h, List.dropWhile_cons_of_pos hx]
    · rw [List.dropWhile_cons_of_neg hx, rdrop_cons]
      by_cases h : rdrop p xs = []
      · rw [if_pos h, if_neg hx, List.dropWhile_cons_of_neg hx]
      · rw [if_neg h, List.dropWhile_cons_of_neg hx]
def isSp (c : UInt8) : Bool := [32, 9, 10, 12, 13].contains c
theorem trimS_sp (l : List UInt8) : Lib.trimS l [32, 9, 10, 12, 13] = rdrop isSp (l.dropWhile isSp) := by
  rw [← drop_rdrop]; rfl
def labelL (a : ByteArray) : List UInt8 := (rdrop isSp (a.data.toList.dropWhile isSp)).map lowC
theorem trim_got (a : ByteArray) (h : a.size ≤ 9223372036854775000) : strings_Trim.f a (⟨#[32, 9, 10, 12, 13]⟩ : ByteArray) = some ⟨(rdrop isSp (a.data.toList.dropWhile isSp)).toArray⟩ := by
  unfold strings_Trim.f
  rw [if_pos ⟨by omega, by decide, by decide⟩]
  rw [show (⟨#[32, 9, 10, 12, 13]⟩ : ByteArray).data.toList = [32, 9, 10, 12, 13] from rfl, trimS_sp]
theorem rdrop_len (p : UInt8 → Bool) (l : List UInt8) : (rdrop p l).length ≤ l.length := by
  unfold rdrop
  rw [List.length_reverse]
  have := (List.dropWhile_sublist (p := p) (l := l.reverse)).length_le
  simpa using this
theorem known_is (a : ByteArray) (h : a.size ≤ 5000) : Ev (fun k => chars_Known.f k a) (knownL (labelL a)) := by
  unfold chars_Known.f
  refine Ev.got (trim_got a (by omega)) ?_
  have h1 := rdrop_len isSp (a.data.toList.dropWhile isSp)
  have h2 := (List.dropWhile_sublist (p := isSp) (l := a.data.toList)).length_le
  rw [sizeL] at h2
  refine Ev.got (x := chars_small.f _) (guard_of (by rw [mk_size]; omega)) ?_
  exact chars_Known_tail _
end Go.Proofs.YtokkgjiofhhlkaaDoor.Pure
namespace Go.Proofs.YtokkgjiofhhlkaaDoor.Pure
open Go.RowKit Go.Proofs.YtokkgjiofhhlkaaDoor.C Go.Proofs.YtokkgjiofhhlkaaDoorW.PrintWords Go.Proofs.YtokkgjiofhhlkaaDoorW.PrintLast
set_option linter.unusedVariables false
set_option linter.unusedSimpArgs false
def nUtf : ByteArray := ⟨#[117, 116, 102, 45, 56]⟩
def nLat : ByteArray := ⟨#[119, 105, 110, 100, 111, 119, 115, 45, 49, 50, 53, 50]⟩
def nLe : ByteArray := ⟨#[117, 116, 102, 45, 49, 54, 108, 101]⟩
def nBe : ByteArray := ⟨#[117, 116, 102, 45, 49, 54, 98, 101]⟩
def nNone : ByteArray := ⟨#[]⟩
theorem known_cases (t : List UInt8) : knownL t = (nUtf, true) ∨ knownL t = (nLat, true) ∨ knownL t = (nLe, true) ∨ knownL t = (nBe, true) ∨ knownL t = (nNone, false) := by
  unfold knownL
  split
  · exact .inl rfl
  · split
    · exact .inr (.inl rfl)
    · split
      · exact .inr (.inr (.inl rfl))
      · split
        · exact .inr (.inr (.inr (.inl rfl)))
        · exact .inr (.inr (.inr (.inr rfl)))
def decL (n : ByteArray) (l : List UInt8) : List UInt8 :=
  if n.data.toList = nLat.data.toList then singlesL l else if n.data.toList = nLe.data.toList then dblL uLE l else if n.data.toList = nBe.data.toList then dblL uBE l else vl l
theorem nameEq {n : ByteArray} {l : List UInt8} (h : n.data.toList = l) : n.toList = l := by rw [toList_eq]; exact h
theorem nameNe {n : ByteArray} {l : List UInt8} (h : n.data.toList ≠ l) : ¬ n.toList = l := by rw [toList_eq]; exact h
theorem decode_is (a s : ByteArray) (ha : a.size ≤ 5000) (hs : s.size ≤ 11000000) : Ev (fun k => chars_Decode.f k a s) ((⟨(decL (knownL (labelL a)).1 s.data.toList).toArray⟩ : ByteArray), (knownL (labelL a)).2) := by
  unfold chars_Decode.f
  refine Ev.bind (known_is a ha) ?_
  have h5 : s.size ≤ 35184372088832 := by omega
  have hv : Ev (fun _ => (chars_Valid.f s).bind fun t => some (t, (knownL (labelL a)).2)) ((⟨(vl s.data.toList).toArray⟩ : ByteArray), (knownL (labelL a)).2) := by
    refine Ev.got (x := chars_Valid.f s) (guard_of h5) ?_
    rw [validS_eq]; exact Ev.now _
  rcases known_cases (labelL a) with h | h | h | h | h
  · rw [h] at hv ⊢
    refine Ev.neg (nameNe (by decide)) ?_
    refine Ev.neg (nameNe (by decide)) ?_
    refine Ev.neg (nameNe (by decide)) ?_
    exact hv
  · rw [h]
    refine Ev.pos (nameEq (by decide)) ?_
    refine Ev.got (x := chars_singles.f s) (guard_of h5) ?_
    exact Ev.now _
  · rw [h]
    refine Ev.neg (nameNe (by decide)) ?_
    refine Ev.pos (nameEq (by decide)) ?_
    refine Ev.got (x := chars_doubles.f s 0 8) (guard_of ⟨h5, .inl ⟨rfl, rfl⟩⟩) ?_
    exact Ev.now _
  · rw [h]
    refine Ev.neg (nameNe (by decide)) ?_
    refine Ev.neg (nameNe (by decide)) ?_
    refine Ev.pos (nameEq (by decide)) ?_
    refine Ev.got (x := chars_doubles.f s 8 0) (guard_of ⟨h5, .inr ⟨rfl, rfl⟩⟩) ?_
    exact Ev.now _
  · rw [h] at hv ⊢
    refine Ev.neg (nameNe (by decide)) ?_
    refine Ev.neg (nameNe (by decide)) ?_
    refine Ev.neg (nameNe (by decide)) ?_
    exact hv
theorem enc_len3 (r : Int) (h : r ≤ 65535) : (Lib.encodeRune r).length ≤ 3 := by
  simp only [Lib.encodeRune, List.length_map, Lib.encodeRuneZ]
  split
  · simp
  · split
    · simp
    · split
      · simp
      · split
        · omega
        · simp
theorem singles_len (l : List UInt8) : (singlesL l).length ≤ 3 * l.length := by
  induction l with
  | nil => simp [singlesL]
  | cons c r ih =>
    have h := enc_len3 (hiC c) (hiC_range c).2
    have e : singlesL (c :: r) = Lib.encodeRune (hiC c) ++ singlesL r := by simp [singlesL]
    rw [e, List.length_append, List.length_cons]; omega
theorem dblL_len (u : UInt8 → UInt8 → Int) (hu : ∀ a b, u a b ≤ 65535) : ∀ (n : Nat) (l : List UInt8), l.length ≤ n → (dblL u l).length ≤ 3 * l.length := by
  intro n
  induction n with
  | zero => intro l h; obtain rfl : l = [] := List.eq_nil_of_length_eq_zero (by omega); simp [dblL]
  | succ n ih =>
    intro l h
    match l with
    | [] => simp [dblL]
    | [a] => simp only [dblL]; exact enc_len3 _ (by omega)
    | [a, b] => simp only [dblL]; have := enc_len3 _ (hu a b); simp; omega
    | [a, b, c] => simp only [dblL]; have := enc_len3 _ (hu a b); have := enc_len3 65533 (by omega); simp; omega
    | a :: b :: c :: d :: r =>
      simp only [dblL]
      split
      · have := ih r (by simp at h; omega)
        have := (enc_len (65536 + (u a b - 55296) * 1024 + u c d - 56320)).2
        rw [List.length_append]; simp only [List.length_cons]; omega
      · have := ih (c :: d :: r) (by simp at h ⊢; omega)
        have := enc_len3 _ (hu a b)
        rw [List.length_append]; simp only [List.length_cons] at *; omega
theorem decL_len (n : ByteArray) (l : List UInt8) : (decL n l).length ≤ 3 * l.length := by
  unfold decL
  split
  · exact singles_len _
  · split
    · exact dblL_len _ (fun a b => (uLE_range a b).2) _ _ (Nat.le_refl _)
    · split
      · exact dblL_len _ (fun a b => (uBE_range a b).2) _ _ (Nat.le_refl _)
      · exact valL_len _ _
end Go.Proofs.YtokkgjiofhhlkaaDoor.Pure
namespace Go.Proofs.YtokkgjiofhhlkaaDoor.Alph
open Go.RowKit Go.Lib Go.Proofs.YtokkgjiofhhlkaaDoor Go.Proofs.YtokkgjiofhhlkaaDoor.C Go.Proofs.YtokkgjiofhhlkaaDoor.Pure
set_option linter.unusedVariables false
theorem known_c (a : ByteArray) (ha : a.size ≤ 5000) (w : World) : Calls Tryd.prog 22 #[.string a] w fun e w' => e = .returned (.tuple #[.string (knownL (labelL a)).1, .bool (knownL (labelL a)).2]) ∧ Below w.heap.size w w' := by
  obtain ⟨r, h⟩ := known_is a ha
  exact chars_Known.calls r a _ _ w (h r (Nat.le_refl _))
theorem decode_c (a s : ByteArray) (ha : a.size ≤ 5000) (hs : s.size ≤ 11000000) (w : World) (hGl : Glob w) : Calls Tryd.prog 25 #[.string a, .string s] w fun e w' => e = .returned (.tuple #[.string ⟨(decL (knownL (labelL a)).1 s.data.toList).toArray⟩, .bool (knownL (labelL a)).2]) ∧ Below w.heap.size w w' := by
  obtain ⟨r, h⟩ := decode_is a s ha hs
  exact chars_Decode.calls r a s _ _ w hGl (h r (Nat.le_refl _))
end Go.Proofs.YtokkgjiofhhlkaaDoor.Alph
namespace Go.Proofs.YtokkgjiofhhlkaaDoor
open Go.RowKit Go.Lib Go.Proofs.YtokkgjiofhhlkaaDoor.Pure
set_option linter.unusedVariables false
def chars_Known.f (a : ByteArray) : Option (ByteArray × Bool) := if a.size ≤ 5000 then some (knownL (labelL a)) else none
theorem chars_Known.calls (a r1 : ByteArray) (r2 : Bool) (w : World) (h : chars_Known.f a = some (r1, r2)) :
    Calls Tryd.prog 22 #[.string a] w fun e w' => e = .returned (.tuple #[.string r1, .bool r2]) ∧ Below w.heap.size w w' := by
  obtain ⟨h1, h2⟩ := of_guard h
  have := Alph.known_c a h1 w
  rw [h2] at this; exact this
def chars_Decode.f (a s : ByteArray) : Option (ByteArray × Bool) := if a.size ≤ 5000 ∧ s.size ≤ 11000000 then some (⟨(decL (knownL (labelL a)).1 s.data.toList).toArray⟩, (knownL (labelL a)).2) else none
theorem chars_Decode.calls (a s r1 : ByteArray) (r2 : Bool) (w : World) (hGl : Glob w) (h : chars_Decode.f a s = some (r1, r2)) :
    Calls Tryd.prog 25 #[.string a, .string s] w fun e w' => e = .returned (.tuple #[.string r1, .bool r2]) ∧ Below w.heap.size w w' := by
  obtain ⟨⟨h1, h2⟩, h3⟩ := of_guard h
  injection h3 with h4 h5
  subst h4 h5
  exact Alph.decode_c a s h1 h2 w hGl
end Go.Proofs.YtokkgjiofhhlkaaDoor
namespace Go.Proofs.YtokkgjiofhhlkaaDoor.B64
open Go.RowKit Go.Lib Go.Proofs.YtokkgjiofhhlkaaDoor Go.Proofs.YtokkgjiofhhlkaaDoor.Row
set_option linter.unusedVariables false
set_option linter.unusedSimpArgs false
structure Gat (M : Nat) (F T : Int) (ov : Value) (all bits : Int) (w : World) : Prop where
  b0 : w.heap[M]? = some (.cells #[.int .i64 F] 3 (0, 0))
  b1 : w.heap[M + 1]? = some (.cells #[.int .i64 T] 3 (0, 0))
  b2 : w.heap[M + 2]? = some (.cells #[ov] 56 (0, 0))
  b3 : w.heap[M + 3]? = some (.cells #[.int .i64 all] 3 (0, 0))
  b4 : w.heap[M + 4]? = some (.cells #[.int .i64 bits] 3 (0, 0))
theorem Gat.kept {M : Nat} {F T : Int} {ov : Value} {all bits : Int} {w w' : World} {E : Nat} (h : Gat M F T ov all bits w) (hE : E < M) (hk : OthersKept 5 (some E) w w') : Gat M F T ov all bits w' := by
  have key : ∀ k (cs : Array Value) t, t ≠ 5 → E < k → w.heap[k]? = some (.cells cs t (0, 0)) → w'.heap[k]? = some (.cells cs t (0, 0)) := by
    intro k cs t ht hk1 h1
    refine hk k _ h1 (by simp <;> omega) ?_
    intro c fz e
    injection e with _ e2 _
    exact ht e2
  exact ⟨key _ _ _ (by decide) (by omega) h.b0, key _ _ _ (by decide) (by omega) h.b1, key _ _ _ (by decide) (by omega) h.b2, key _ _ _ (by decide) (by omega) h.b3, key _ _ _ (by decide) (by omega) h.b4⟩
theorem Gat.drewN {M : Nat} {F T : Int} {ov : Value} {all bits : Int} {w : World} (h : Gat M F T ov all bits w) (n : Nat) : Gat M F T ov all bits (w.drewN n) := ⟨h.b0, h.b1, h.b2, h.b3, h.b4⟩
abbrev gatV (M : Nat) : Value := .func (.func 82) #[] #[.pointer (some ⟨M + 3, 0, none⟩), .pointer (some ⟨M, 0, none⟩), .pointer (some ⟨M + 4, 0, none⟩), .pointer (some ⟨M + 1, 0, none⟩), .pointer (some ⟨M + 2, 0, none⟩)]
theorem al_new (w : World) (o : Obj) : (w.alloc o).heap[w.heap.size]? = some o := by
  exact Deep.blk_alloc_new w o
theorem al_new1 (w : World) (o : Obj) (k : Nat) (h : k = w.heap.size) : (w.alloc o).heap[k]? = some o := by subst h; exact al_new w o
abbrev outV (g E : Nat) : Value := .func (.func g) #[] #[.pointer (some ⟨E, 0, none⟩)]
set_option maxRecDepth 100000 in
set_option maxHeartbeats 4000000 in
theorem gather_c (F T : Int) (g E : Nat) (w : World) :
    Calls Tryd.prog 49 #[.int .i64 F, .int .i64 T, outV g E] w fun e w' => e = .returned (gatV w.heap.size) ∧ Below w.heap.size w w' ∧ Gat w.heap.size F T (outV g E) 0 0 w' ∧ OthersKept 5 none w w' ∧ w'.heap.size = w.heap.size + 5 := by
  have hmf : ∀ (fn : Fn) (first cap : Array Value) (w : World), (Instr.makeFunc fn first cap).run Tryd.prog w = .ok (.func fn first cap) w := fun _ _ _ _ => rfl
  unfold outV
  go_enter Tryd.func49, Tryd.ntmps49
  go_wp2_with fail
  go_ret
  have old : ∀ (v : World) (o : Obj) (k : Nat) x, k < v.heap.size → v.heap[k]? = some x → (v.alloc o).heap[k]? = some x := fun v o k x hk h => (Below.heap_alloc v o k hk).trans h
  refine ⟨rfl, ((((((Below.refl _ w).alloc (Nat.le_refl _) _).alloc (by simp) _).alloc (by simp <;> omega) _).alloc (by simp <;> omega) _).alloc (by simp <;> omega) _), ⟨?_, ?_, ?_, ?_, ?_⟩, ((((((OthersKept.refl _ _ w).alloc _).alloc _).alloc _).alloc _).alloc _), by simp⟩
  · exact old _ _ _ _ (by simp <;> omega) (old _ _ _ _ (by simp <;> omega) (old _ _ _ _ (by simp <;> omega) (old _ _ _ _ (by simp) (al_new1 _ _ _ rfl))))
  · exact old _ _ _ _ (by simp <;> omega) (old _ _ _ _ (by simp <;> omega) (old _ _ _ _ (by simp) (al_new1 _ _ _ (by simp))))
  · exact old _ _ _ _ (by simp <;> omega) (old _ _ _ _ (by simp) (al_new1 _ _ _ (by simp)))
  · exact old _ _ _ _ (by simp) (al_new1 _ _ _ (by simp))
  · exact al_new1 _ _ _ (by simp)
structure Sink (B E g T : Nat) (K : List Nat → World → Prop) (L : Nat) : Prop where
  call : ∀ (l : List Nat) (n : Nat) (w : World), K l w → n < 2 ^ T → l.length ≤ L → B ≤ w.heap.size →
    Calls Tryd.prog g #[.int .i64 (n : Int), .pointer (some ⟨E, 0, none⟩)] w fun e w' => e = .returned (.tuple #[]) ∧ K (l ++ [n]) w' ∧ Below B w w' ∧ OthersKept 5 (some E) w w'
  set : ∀ (l : List Nat) (w : World) (k : Nat) (cs : Array Value) (v : Value), K l w → k ≠ E → w.heap[k]? = some (.cells cs 3 (0, 0)) → K l (w.setCell ⟨k, 0, none⟩ v)
  drew : ∀ (l : List Nat) (w : World) (n : Nat), K l w → K l (w.drewN n)
theorem Gat.setAll {M : Nat} {F T : Int} {ov : Value} {all bits : Int} {w : World} (h : Gat M F T ov all bits w) (x : Int) : Gat M F T ov x bits (w.setCell ⟨M + 3, 0, none⟩ (.int .i64 x)) := by
  have ne : ∀ k, k ≠ M + 3 → (w.setCell ⟨M + 3, 0, none⟩ (.int .i64 x)).heap[k]? = w.heap[k]? := fun k hk => Deep.blk_setCell_other w ⟨M + 3, 0, none⟩ _ k hk
  refine ⟨(ne _ (by omega)).trans h.b0, (ne _ (by omega)).trans h.b1, (ne _ (by omega)).trans h.b2, ?_, (ne _ (by omega)).trans h.b4⟩
  exact Joins.block_setCell h.b3 _
theorem Gat.setBits {M : Nat} {F T : Int} {ov : Value} {all bits : Int} {w : World} (h : Gat M F T ov all bits w) (x : Int) : Gat M F T ov all x (w.setCell ⟨M + 4, 0, none⟩ (.int .i64 x)) := by
  have ne : ∀ k, k ≠ M + 4 → (w.setCell ⟨M + 4, 0, none⟩ (.int .i64 x)).heap[k]? = w.heap[k]? := fun k hk => Deep.blk_setCell_other w ⟨M + 4, 0, none⟩ _ k hk
  refine ⟨(ne _ (by omega)).trans h.b0, (ne _ (by omega)).trans h.b1, (ne _ (by omega)).trans h.b2, (ne _ (by omega)).trans h.b3, ?_⟩
  exact Joins.block_setCell h.b4 _
theorem wraps_i64 (n : Int) (h0 : 0 ≤ n) (h1 : n < 2 ^ 62) : IntKind.i64.wrap n = n := by rw [IntKind.wrap_i64]; omega
theorem orand6 (a n : Nat) (ha : a < 65536) (hn : n < 2 ^ 6) : bits BinOp.and .i64 (bits BinOp.or .i64 ((a : Int) * 64) (n : Int)) 65535 = (((a * 2 ^ 6 + n) % 65536 : Nat) : Int) := by
  have e1 : (a : Int) * 64 = ((a * 64 : Nat) : Int) := by omega
  rw [e1, (bits_nat .i64 62 (by decide) wraps_i64 (a * 64) n (by omega) (by omega)).2, nat_join 6 _ _ (by omega) (by omega)]
  have := bits_mask .i64 62 (by decide) wraps_i64 16 (by decide) ((a * 64 + n : Nat) : Int) (by omega) (by omega)
  rw [show ((2 : Int) ^ 16 - 1) = 65535 by decide] at this
  rw [this]
  omega
theorem orand8 (a n : Nat) (ha : a < 65536) (hn : n < 2 ^ 8) : bits BinOp.and .i64 (bits BinOp.or .i64 ((a : Int) * 256) (n : Int)) 65535 = (((a * 2 ^ 8 + n) % 65536 : Nat) : Int) := by
  have e1 : (a : Int) * 256 = ((a * 256 : Nat) : Int) := by omega
  rw [e1, (bits_nat .i64 62 (by decide) wraps_i64 (a * 256) n (by omega) (by omega)).2, nat_join 8 _ _ (by omega) (by omega)]
  have := bits_mask .i64 62 (by decide) wraps_i64 16 (by decide) ((a * 256 + n : Nat) : Int) (by omega) (by omega)
  rw [show ((2 : Int) ^ 16 - 1) = 65535 by decide] at this
  rw [this]
  omega
def emit (T a : Nat) : Nat → Nat → List Nat
  | 0, _ => []
  | k + 1, b => if T ≤ b then (a / 2 ^ (b - T)) % 2 ^ T :: emit T a k (b - T) else []
end Go.Proofs.YtokkgjiofhhlkaaDoor.B64
