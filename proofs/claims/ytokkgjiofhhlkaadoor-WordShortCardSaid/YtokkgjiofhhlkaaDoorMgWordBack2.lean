/- Parts of the proof of the law WordBack, in one text: C1, C3. -/
import Derived.Test.YtokkgjiofhhlkaaDoorMgWordBack1
namespace Go.Proofs.YtokkgjiofhhlkaaDoor.C
open Go.RowKit Go.Proofs.YtokkgjiofhhlkaaDoorW.PrintWords Go.Proofs.YtokkgjiofhhlkaaDoorW.PrintLast Go.Proofs.YtokkgjiofhhlkaaDoorW.PrintMore
attribute [local go_sem] max2_int min2_int max_two min_two max_three min_three max_four min_four
set_option linter.unusedVariables false
set_option linter.unusedSimpArgs false
mutual
def chars_Known.j0 : Nat → ByteArray → Bool → Option (ByteArray × Bool)
  | 0, _, _ => none
  | k + 1, x6, x7 => if x7 = true then (some ((⟨#[117, 116, 102, 45, 56]⟩ : ByteArray), true)) else (if x6.toList = ([119, 105, 110, 100, 111, 119, 115, 45, 49, 50, 53, 50] : List UInt8) then (chars_Known.j1 k x6 (x6.toList == ([119, 105, 110, 100, 111, 119, 115, 45, 49, 50, 53, 50] : List UInt8))) else (if x6.toList = ([99, 112, 49, 50, 53, 50] : List UInt8) then (chars_Known.j1 k x6 (x6.toList == ([99, 112, 49, 50, 53, 50] : List UInt8))) else (if x6.toList = ([117, 115, 45, 97, 115, 99, 105, 105] : List UInt8) then (chars_Known.j1 k x6 (x6.toList == ([117, 115, 45, 97, 115, 99, 105, 105] : List UInt8))) else (if x6.toList = ([97, 115, 99, 105, 105] : List UInt8) then (chars_Known.j1 k x6 (x6.toList == ([97, 115, 99, 105, 105] : List UInt8))) else (if x6.toList = ([105, 115, 111, 45, 56, 56, 53, 57, 45, 49] : List UInt8) then (chars_Known.j1 k x6 (x6.toList == ([105, 115, 111, 45, 56, 56, 53, 57, 45, 49] : List UInt8))) else (if x6.toList = ([105, 115, 111, 56, 56, 53, 57, 45, 49] : List UInt8) then (chars_Known.j1 k x6 (x6.toList == ([105, 115, 111, 56, 56, 53, 57, 45, 49] : List UInt8))) else (if x6.toList = ([108, 97, 116, 105, 110, 49] : List UInt8) then (chars_Known.j1 k x6 (x6.toList == ([108, 97, 116, 105, 110, 49] : List UInt8))) else (chars_Known.j1 k x6 (x6.toList == ([108, 49] : List UInt8))))))))))
def chars_Known.j1 : Nat → ByteArray → Bool → Option (ByteArray × Bool)
  | 0, _, _ => none
  | k + 1, x6, x11 => if x11 = true then (some ((⟨#[119, 105, 110, 100, 111, 119, 115, 45, 49, 50, 53, 50]⟩ : ByteArray), true)) else (if x6.toList = ([117, 116, 102, 45, 49, 54, 108, 101] : List UInt8) then (chars_Known.j2 k x6 (x6.toList == ([117, 116, 102, 45, 49, 54, 108, 101] : List UInt8))) else (if x6.toList = ([117, 116, 102, 45, 49, 54] : List UInt8) then (chars_Known.j2 k x6 (x6.toList == ([117, 116, 102, 45, 49, 54] : List UInt8))) else (if x6.toList = ([117, 110, 105, 99, 111, 100, 101] : List UInt8) then (chars_Known.j2 k x6 (x6.toList == ([117, 110, 105, 99, 111, 100, 101] : List UInt8))) else (chars_Known.j2 k x6 (x6.toList == ([117, 99, 115, 45, 50] : List UInt8))))))
def chars_Known.j2 : Nat → ByteArray → Bool → Option (ByteArray × Bool)
  | 0, _, _ => none
  | k + 1, x6, x20 => if x20 = true then (some ((⟨#[117, 116, 102, 45, 49, 54, 108, 101]⟩ : ByteArray), true)) else (if x6.toList = ([117, 116, 102, 45, 49, 54, 98, 101] : List UInt8) then (some ((⟨#[117, 116, 102, 45, 49, 54, 98, 101]⟩ : ByteArray), true)) else (if x6.toList = ([117, 110, 105, 99, 111, 100, 101, 102, 102, 102, 101] : List UInt8) then (some ((⟨#[117, 116, 102, 45, 49, 54, 98, 101]⟩ : ByteArray), true)) else (some ((⟨#[]⟩ : ByteArray), false))))
end
def chars_Known.f (k : Nat) (a0 : ByteArray) : Option (ByteArray × Bool) := (strings_Trim.f a0 (⟨#[32, 9, 10, 12, 13]⟩ : ByteArray)).bind fun t101 => ((chars_small.f t101).bind fun t102 => (if t102.toList = ([117, 116, 102, 45, 56] : List UInt8) then (chars_Known.j0 k t102 (t102.toList == ([117, 116, 102, 45, 56] : List UInt8))) else (if t102.toList = ([117, 116, 102, 56] : List UInt8) then (chars_Known.j0 k t102 (t102.toList == ([117, 116, 102, 56] : List UInt8))) else (chars_Known.j0 k t102 (t102.toList == ([117, 110, 105, 99, 111, 100, 101, 45, 49, 45, 49, 45, 117, 116, 102, 45, 56] : List UInt8))))))
theorem chars_Known.mono_l : ∀ k, (∀ y0 y1, LeO (chars_Known.j0 k y0 y1) (chars_Known.j0 (k + 1) y0 y1)) ∧ (∀ y0 y1, LeO (chars_Known.j1 k y0 y1) (chars_Known.j1 (k + 1) y0 y1)) ∧ (∀ y0 y1, LeO (chars_Known.j2 k y0 y1) (chars_Known.j2 (k + 1) y0 y1))
  | 0 => ⟨fun _ _ r h => by simp [chars_Known.j0] at h, fun _ _ r h => by simp [chars_Known.j1] at h, fun _ _ r h => by simp [chars_Known.j2] at h⟩
  | k + 1 => by
    obtain ⟨ih0, ih1, ih2⟩ := chars_Known.mono_l k
    refine ⟨?_, ?_, ?_⟩
    · intro y0 y1
      unfold chars_Known.j0
      repeat' first
      | (with_reducible exact ih0 _ _)
      | (with_reducible exact ih1 _ _)
      | (with_reducible exact ih2 _ _)
      | (with_reducible exact LeO.refl _)
      | (with_reducible exact LeO.none _)
      | (with_reducible refine LeO.ite ?_ ?_)
      | (with_reducible refine LeO.bind ?_ (fun _ => ?_))
      | exact ih0 _ _
      | exact ih1 _ _
      | exact ih2 _ _
      | exact LeO.none _
      | refine LeO.ite ?_ ?_
      | refine LeO.bind ?_ (fun _ => ?_)
    · intro y0 y1
      unfold chars_Known.j1
      repeat' first
      | (with_reducible exact ih0 _ _)
      | (with_reducible exact ih1 _ _)
      | (with_reducible exact ih2 _ _)
      | (with_reducible exact LeO.refl _)
      | (with_reducible exact LeO.none _)
      | (with_reducible refine LeO.ite ?_ ?_)
      | (with_reducible refine LeO.bind ?_ (fun _ => ?_))
      | exact ih0 _ _
      | exact ih1 _ _
      | exact ih2 _ _
      | exact LeO.none _
      | refine LeO.ite ?_ ?_
      | refine LeO.bind ?_ (fun _ => ?_)
    · intro y0 y1
      unfold chars_Known.j2
      repeat' first
      | (with_reducible exact ih0 _ _)
      | (with_reducible exact ih1 _ _)
      | (with_reducible exact ih2 _ _)
      | (with_reducible exact LeO.refl _)
      | (with_reducible exact LeO.none _)
      | (with_reducible refine LeO.ite ?_ ?_)
      | (with_reducible refine LeO.bind ?_ (fun _ => ?_))
      | exact ih0 _ _
      | exact ih1 _ _
      | exact ih2 _ _
      | exact LeO.none _
      | refine LeO.ite ?_ ?_
      | refine LeO.bind ?_ (fun _ => ?_)
set_option maxHeartbeats 8000000 in
set_option maxRecDepth 100000 in
theorem chars_Known.calls (k : Nat) (a0 : ByteArray) (r1 : ByteArray) (r2 : Bool) (w : World) (h : chars_Known.f k a0 = some (r1, r2)) :
    Calls Tryd.prog 22 #[.string a0] w fun e w' => e = .returned (.tuple #[.string r1, .bool r2]) ∧ Below w.heap.size w w' := by
  have HB := Aside0.mk (Below.refl w.heap.size w)
  have H : ((strings_Trim.f a0 (⟨#[32, 9, 10, 12, 13]⟩ : ByteArray)).bind fun t101 => ((chars_small.f t101).bind fun t102 => (if t102.toList = ([117, 116, 102, 45, 56] : List UInt8) then (chars_Known.j0 k t102 (t102.toList == ([117, 116, 102, 45, 56] : List UInt8))) else (if t102.toList = ([117, 116, 102, 56] : List UInt8) then (chars_Known.j0 k t102 (t102.toList == ([117, 116, 102, 56] : List UInt8))) else (chars_Known.j0 k t102 (t102.toList == ([117, 110, 105, 99, 111, 100, 101, 45, 49, 45, 49, 45, 117, 116, 102, 45, 56] : List UInt8))))))) = some (r1, r2) := h
  clear h
  replace H := Option.bind_eq_some_iff.mp H
  obtain ⟨t101, A20, H⟩ := H
  replace H : ((chars_small.f t101).bind fun t102 => (if t102.toList = ([117, 116, 102, 45, 56] : List UInt8) then (chars_Known.j0 k t102 (t102.toList == ([117, 116, 102, 45, 56] : List UInt8))) else (if t102.toList = ([117, 116, 102, 56] : List UInt8) then (chars_Known.j0 k t102 (t102.toList == ([117, 116, 102, 56] : List UInt8))) else (chars_Known.j0 k t102 (t102.toList == ([117, 110, 105, 99, 111, 100, 101, 45, 49, 45, 49, 45, 117, 116, 102, 45, 56] : List UInt8)))))) = some (r1, r2) := H
  have A2 := Aside0.mk A20
  clear A20
  replace H := Option.bind_eq_some_iff.mp H
  obtain ⟨t102, A30, H⟩ := H
  replace H : (if t102.toList = ([117, 116, 102, 45, 56] : List UInt8) then (chars_Known.j0 k t102 (t102.toList == ([117, 116, 102, 45, 56] : List UInt8))) else (if t102.toList = ([117, 116, 102, 56] : List UInt8) then (chars_Known.j0 k t102 (t102.toList == ([117, 116, 102, 56] : List UInt8))) else (chars_Known.j0 k t102 (t102.toList == ([117, 110, 105, 99, 111, 100, 101, 45, 49, 45, 49, 45, 117, 116, 102, 45, 56] : List UInt8))))) = some (r1, r2) := H
  have A3 := Aside0.mk A30
  clear A30
  have HC4 := Aside0.mk H
  clear H
  go_enter Tryd.func22, Tryd.ntmps22
  go_upto_if 7 with (first | ((with_reducible refine gate_callee (f := 32) rfl ?_); refine goesL_ (some 5) rfl rfl Tryd.func32 (by kernel_rfl) rfl #[.string a0, .string (⟨#[32, 9, 10, 12, 13]⟩ : ByteArray)] rfl (by (try simp only [List.map_toArray, List.map_cons, List.map_nil]); first | done | rfl | (simp only [List.length_drop, List.length_take]; rfl)) ?_; (with_reducible refine (strings_Trim.calls a0 (⟨#[32, 9, 10, 12, 13]⟩ : ByteArray) t101 _ A2.out).mono ?_); rintro e w5 ⟨rfl, hb⟩; refine ⟨_, rfl, ?_⟩; have n0_ := Aside0.mk (below_step (by repeat (first | (with_reducible first | exact HB.out | apply below_alloc | apply pw_below_drewN | apply below_drew1) | exact HB.out)) hb); clear HB; have HB := n0_; clear n0_; (try clear hb); (try clear hb2); (try clear hk); (try clear hi)) | ((with_reducible refine gate_callee (f := 48) rfl ?_); refine goesL_ (some 6) rfl rfl Tryd.func48 (by kernel_rfl) rfl #[.string t101] rfl (by (try simp only [List.map_toArray, List.map_cons, List.map_nil]); first | done | rfl | (simp only [List.length_drop, List.length_take]; rfl)) ?_; (with_reducible refine (chars_small.calls t101 t102 _ A3.out).mono ?_); rintro e w6 ⟨rfl, hb⟩; refine ⟨_, rfl, ?_⟩; have n0_ := Aside0.mk (below_step (by repeat (first | (with_reducible first | exact HB.out | apply below_alloc | apply pw_below_drewN | apply below_drew1) | exact HB.out)) hb); clear HB; have HB := n0_; clear n0_; (try clear hb); (try clear hb2); (try clear hk); (try clear hi)))
  (try simp only [Act.put, List.setIfInBounds_toArray, List.set_cons_zero, List.set_cons_succ])
  go_cut [7] (fun v7 wc => ∃ (kq : Nat) (x7_3 : Bool), v7 = .bool x7_3 ∧ Aside0 (chars_Known.j0 kq t102 x7_3 = some (r1, r2)) ∧ Aside0 (kq ≤ k) ∧ Aside0 (Below w.heap.size w wc))
  case first =>
    have H := HC4.out
    clear HC4
    by_cases c7 : t102.toList = ([117, 116, 102, 45, 56] : List UInt8)
    · rw [if_pos c7] at H
      have c7b0 : (t102.toList == ([117, 116, 102, 45, 56] : List UInt8)) = true := beq_iff_eq.mpr c7
      have c7b1 : (t102.toList != ([117, 116, 102, 45, 56] : List UInt8)) = false := bne_eq_false_iff_eq.mpr c7
      clear c7
      (first | rw [c7b0] | (simp only [i64_w, i32_w]; rw [c7b0]) | skip)
      have H' := Aside0.mk H
      clear H
      go_wp2
      go_meet
      case rel => exact ⟨_, ((t102.toList == ([117, 116, 102, 45, 56] : List UInt8))), (by first | rfl | (simp; done) | (simp [*]; done)), H', ⟨by first | omega | exact Nat.le_refl _⟩, ⟨by repeat (first | (with_reducible first | exact HB.out | apply below_alloc | apply pw_below_drewN | apply below_drew1) | exact HB.out)⟩⟩
    · rw [if_neg c7] at H
      have c7b0 : (t102.toList == ([117, 116, 102, 45, 56] : List UInt8)) = false := beq_eq_false_iff_ne.mpr c7
      have c7b1 : (t102.toList != ([117, 116, 102, 45, 56] : List UInt8)) = true := bne_iff_ne.mpr c7
      (first | rw [c7b0] | (simp only [i64_w, i32_w]; rw [c7b0]) | skip)
      by_cases c8 : t102.toList = ([117, 116, 102, 56] : List UInt8)
      · rw [if_pos c8] at H
        have c8b0 : (t102.toList == ([117, 116, 102, 56] : List UInt8)) = true := beq_iff_eq.mpr c8
        have c8b1 : (t102.toList != ([117, 116, 102, 56] : List UInt8)) = false := bne_eq_false_iff_eq.mpr c8
        clear c8
        have H' := Aside0.mk H
        clear H
        go_wp2
        go_meet
        case rel => exact ⟨_, ((t102.toList == ([117, 116, 102, 56] : List UInt8))), (by first | rfl | (simp; done) | (simp [*]; done)), H', ⟨by first | omega | exact Nat.le_refl _⟩, ⟨by repeat (first | (with_reducible first | exact HB.out | apply below_alloc | apply pw_below_drewN | apply below_drew1) | exact HB.out)⟩⟩
      · rw [if_neg c8] at H
        have c8b0 : (t102.toList == ([117, 116, 102, 56] : List UInt8)) = false := beq_eq_false_iff_ne.mpr c8
        have c8b1 : (t102.toList != ([117, 116, 102, 56] : List UInt8)) = true := bne_iff_ne.mpr c8
        have H' := Aside0.mk H
        clear H
        go_wp2
        go_meet
        case rel => exact ⟨_, ((t102.toList == ([117, 110, 105, 99, 111, 100, 101, 45, 49, 45, 49, 45, 117, 116, 102, 45, 56] : List UInt8))), (by first | rfl | (simp; done) | (simp [*]; done)), H', ⟨by first | omega | exact Nat.le_refl _⟩, ⟨by repeat (first | (with_reducible first | exact HB.out | apply below_alloc | apply pw_below_drewN | apply below_drew1) | exact HB.out)⟩⟩
  case rest =>
    clear HC4
    try clear c2
    try clear p2
    try clear c3
    try clear c4
    try clear c7
    try clear c7b0
    try clear c7b1
    try clear c8
    try clear c8b0
    try clear c8b1
    obtain ⟨kq, x7_3, rfl, HA, HJ3, HB⟩ := hcut
    cases kq with
    | zero => exact absurd HA.out (by simp [chars_Known.j0])
    | succ kj3 =>
      have H := HA.out
      clear HA
      simp only [chars_Known.j0] at H
      by_cases c9 : x7_3 = true
      · subst c9
        have H1 : (some ((⟨#[117, 116, 102, 45, 56]⟩ : ByteArray), true)) = some (r1, r2) := by rw [if_pos rfl] at H; exact H
        clear H
        have H := H1
        clear H1
        simp only [Option.some.injEq, Prod.mk.injEq] at H
        obtain ⟨rfl, rfl⟩ := H
        go_wp2
        go_ret2
        exact ⟨by first | rfl | (simp [errW_none, errW_some] <;> rfl) | (simp [*, errW_none, errW_some] <;> rfl), by repeat (first | (with_reducible first | exact HB.out | apply below_alloc | apply pw_below_drewN | apply below_drew1) | exact HB.out)⟩
      · replace c9 := Bool.eq_false_iff.mpr c9
        subst c9
        have H1 : (if t102.toList = ([119, 105, 110, 100, 111, 119, 115, 45, 49, 50, 53, 50] : List UInt8) then (chars_Known.j1 kj3 t102 (t102.toList == ([119, 105, 110, 100, 111, 119, 115, 45, 49, 50, 53, 50] : List UInt8))) else (if t102.toList = ([99, 112, 49, 50, 53, 50] : List UInt8) then (chars_Known.j1 kj3 t102 (t102.toList == ([99, 112, 49, 50, 53, 50] : List UInt8))) else (if t102.toList = ([117, 115, 45, 97, 115, 99, 105, 105] : List UInt8) then (chars_Known.j1 kj3 t102 (t102.toList == ([117, 115, 45, 97, 115, 99, 105, 105] : List UInt8))) else (if t102.toList = ([97, 115, 99, 105, 105] : List UInt8) then (chars_Known.j1 kj3 t102 (t102.toList == ([97, 115, 99, 105, 105] : List UInt8))) else (if t102.toList = ([105, 115, 111, 45, 56, 56, 53, 57, 45, 49] : List UInt8) then (chars_Known.j1 kj3 t102 (t102.toList == ([105, 115, 111, 45, 56, 56, 53, 57, 45, 49] : List UInt8))) else (if t102.toList = ([105, 115, 111, 56, 56, 53, 57, 45, 49] : List UInt8) then (chars_Known.j1 kj3 t102 (t102.toList == ([105, 115, 111, 56, 56, 53, 57, 45, 49] : List UInt8))) else (if t102.toList = ([108, 97, 116, 105, 110, 49] : List UInt8) then (chars_Known.j1 kj3 t102 (t102.toList == ([108, 97, 116, 105, 110, 49] : List UInt8))) else (chars_Known.j1 kj3 t102 (t102.toList == ([108, 49] : List UInt8)))))))))) = some (r1, r2) := by rw [if_neg (show ¬ (false = true) by decide)] at H; exact H
        clear H
        have H := H1
        clear H1
        have HC10 := Aside0.mk H
        clear H
        go_upto_if 11 with (fail)
        go_cut [11] (fun v11 wc => ∃ (kq : Nat) (x11_9 : Bool), v11 = .bool x11_9 ∧ Aside0 (chars_Known.j1 kq t102 x11_9 = some (r1, r2)) ∧ Aside0 (kq ≤ kj3) ∧ Aside0 (Below w.heap.size w wc))
        case first =>
          have H := HC10.out
          clear HC10
          by_cases c11 : t102.toList = ([119, 105, 110, 100, 111, 119, 115, 45, 49, 50, 53, 50] : List UInt8)
          · rw [if_pos c11] at H
            have c11b0 : (t102.toList == ([119, 105, 110, 100, 111, 119, 115, 45, 49, 50, 53, 50] : List UInt8)) = true := beq_iff_eq.mpr c11
            have c11b1 : (t102.toList != ([119, 105, 110, 100, 111, 119, 115, 45, 49, 50, 53, 50] : List UInt8)) = false := bne_eq_false_iff_eq.mpr c11
            clear c11
            (first | rw [c11b0] | (simp only [i64_w, i32_w]; rw [c11b0]) | skip)
            have H' := Aside0.mk H
            clear H
            go_wp2
            go_meet
            case rel => exact ⟨_, ((t102.toList == ([119, 105, 110, 100, 111, 119, 115, 45, 49, 50, 53, 50] : List UInt8))), (by first | rfl | (simp; done) | (simp [*]; done)), H', ⟨by have := HJ3.out; first | omega | exact Nat.le_refl _⟩, ⟨by repeat (first | (with_reducible first | exact HB.out | apply below_alloc | apply pw_below_drewN | apply below_drew1) | exact HB.out)⟩⟩
          · rw [if_neg c11] at H
            have c11b0 : (t102.toList == ([119, 105, 110, 100, 111, 119, 115, 45, 49, 50, 53, 50] : List UInt8)) = false := beq_eq_false_iff_ne.mpr c11
            have c11b1 : (t102.toList != ([119, 105, 110, 100, 111, 119, 115, 45, 49, 50, 53, 50] : List UInt8)) = true := bne_iff_ne.mpr c11
            (first | rw [c11b0] | (simp only [i64_w, i32_w]; rw [c11b0]) | skip)
            by_cases c12 : t102.toList = ([99, 112, 49, 50, 53, 50] : List UInt8)
            · rw [if_pos c12] at H
              have c12b0 : (t102.toList == ([99, 112, 49, 50, 53, 50] : List UInt8)) = true := beq_iff_eq.mpr c12
              have c12b1 : (t102.toList != ([99, 112, 49, 50, 53, 50] : List UInt8)) = false := bne_eq_false_iff_eq.mpr c12
              clear c12
              have H' := Aside0.mk H
              clear H
              go_wp2
              go_meet
              case rel => exact ⟨_, ((t102.toList == ([99, 112, 49, 50, 53, 50] : List UInt8))), (by first | rfl | (simp; done) | (simp [*]; done)), H', ⟨by have := HJ3.out; first | omega | exact Nat.le_refl _⟩, ⟨by repeat (first | (with_reducible first | exact HB.out | apply below_alloc | apply pw_below_drewN | apply below_drew1) | exact HB.out)⟩⟩
            · rw [if_neg c12] at H
              have c12b0 : (t102.toList == ([99, 112, 49, 50, 53, 50] : List UInt8)) = false := beq_eq_false_iff_ne.mpr c12
              have c12b1 : (t102.toList != ([99, 112, 49, 50, 53, 50] : List UInt8)) = true := bne_iff_ne.mpr c12
              by_cases c13 : t102.toList = ([117, 115, 45, 97, 115, 99, 105, 105] : List UInt8)
              · rw [if_pos c13] at H
                have c13b0 : (t102.toList == ([117, 115, 45, 97, 115, 99, 105, 105] : List UInt8)) = true := beq_iff_eq.mpr c13
                have c13b1 : (t102.toList != ([117, 115, 45, 97, 115, 99, 105, 105] : List UInt8)) = false := bne_eq_false_iff_eq.mpr c13
                clear c13
                have H' := Aside0.mk H
                clear H
                go_wp2
                go_meet
                case rel => exact ⟨_, ((t102.toList == ([117, 115, 45, 97, 115, 99, 105, 105] : List UInt8))), (by first | rfl | (simp; done) | (simp [*]; done)), H', ⟨by have := HJ3.out; first | omega | exact Nat.le_refl _⟩, ⟨by repeat (first | (with_reducible first | exact HB.out | apply below_alloc | apply pw_below_drewN | apply below_drew1) | exact HB.out)⟩⟩
              · rw [if_neg c13] at H
                have c13b0 : (t102.toList == ([117, 115, 45, 97, 115, 99, 105, 105] : List UInt8)) = false := beq_eq_false_iff_ne.mpr c13
                have c13b1 : (t102.toList != ([117, 115, 45, 97, 115, 99, 105, 105] : List UInt8)) = true := bne_iff_ne.mpr c13
                by_cases c14 : t102.toList = ([97, 115, 99, 105, 105] : List UInt8)
                · rw [if_pos c14] at H
                  have c14b0 : (t102.toList == ([97, 115, 99, 105, 105] : List UInt8)) = true := beq_iff_eq.mpr c14
                  have c14b1 : (t102.toList != ([97, 115, 99, 105, 105] : List UInt8)) = false := bne_eq_false_iff_eq.mpr c14
                  clear c14
                  have H' := Aside0.mk H
                  clear H
                  go_wp2
                  go_meet
                  case rel => exact ⟨_, ((t102.toList == ([97, 115, 99, 105, 105] : List UInt8))), (by first | rfl | (simp; done) | (simp [*]; done)), H', ⟨by have := HJ3.out; first | omega | exact Nat.le_refl _⟩, ⟨by repeat (first | (with_reducible first | exact HB.out | apply below_alloc | apply pw_below_drewN | apply below_drew1) | exact HB.out)⟩⟩
                · rw [if_neg c14] at H
                  have c14b0 : (t102.toList == ([97, 115, 99, 105, 105] : List UInt8)) = false := beq_eq_false_iff_ne.mpr c14
                  have c14b1 : (t102.toList != ([97, 115, 99, 105, 105] : List UInt8)) = true := bne_iff_ne.mpr c14
                  by_cases c15 : t102.toList = ([105, 115, 111, 45, 56, 56, 53, 57, 45, 49] : List UInt8)
                  · rw [if_pos c15] at H
                    have c15b0 : (t102.toList == ([105, 115, 111, 45, 56, 56, 53, 57, 45, 49] : List UInt8)) = true := beq_iff_eq.mpr c15
                    have c15b1 : (t102.toList != ([105, 115, 111, 45, 56, 56, 53, 57, 45, 49] : List UInt8)) = false := bne_eq_false_iff_eq.mpr c15
                    clear c15
                    have H' := Aside0.mk H
                    clear H
                    go_wp2
                    go_meet
                    case rel => exact ⟨_, ((t102.toList == ([105, 115, 111, 45, 56, 56, 53, 57, 45, 49] : List UInt8))), (by first | rfl | (simp; done) | (simp [*]; done)), H', ⟨by have := HJ3.out; first | omega | exact Nat.le_refl _⟩, ⟨by repeat (first | (with_reducible first | exact HB.out | apply below_alloc | apply pw_below_drewN | apply below_drew1) | exact HB.out)⟩⟩
                  · rw [if_neg c15] at H
                    have c15b0 : (t102.toList == ([105, 115, 111, 45, 56, 56, 53, 57, 45, 49] : List UInt8)) = false := beq_eq_false_iff_ne.mpr c15
                    have c15b1 : (t102.toList != ([105, 115, 111, 45, 56, 56, 53, 57, 45, 49] : List UInt8)) = true := bne_iff_ne.mpr c15
                    by_cases c16 : t102.toList = ([105, 115, 111, 56, 56, 53, 57, 45, 49] : List UInt8)
                    · rw [if_pos c16] at H
                      have c16b0 : (t102.toList == ([105, 115, 111, 56, 56, 53, 57, 45, 49] : List UInt8)) = true := beq_iff_eq.mpr c16
                      have c16b1 : (t102.toList != ([105, 115, 111, 56, 56, 53, 57, 45, 49] : List UInt8)) = false := bne_eq_false_iff_eq.mpr c16
                      clear c16
                      have H' := Aside0.mk H
                      clear H
                      go_wp2
                      go_meet
                      case rel => exact ⟨_, ((t102.toList == ([105, 115, 111, 56, 56, 53, 57, 45, 49] : List UInt8))), (by first | rfl | (simp; done) | (simp [*]; done)), H', ⟨by have := HJ3.out; first | omega | exact Nat.le_refl _⟩, ⟨by repeat (first | (with_reducible first | exact HB.out | apply below_alloc | apply pw_below_drewN | apply below_drew1) | exact HB.out)⟩⟩
                    · rw [if_neg c16] at H
                      have c16b0 : (t102.toList == ([105, 115, 111, 56, 56, 53, 57, 45, 49] : List UInt8)) = false := beq_eq_false_iff_ne.mpr c16
                      have c16b1 : (t102.toList != ([105, 115, 111, 56, 56, 53, 57, 45, 49] : List UInt8)) = true := bne_iff_ne.mpr c16
                      by_cases c17 : t102.toList = ([108, 97, 116, 105, 110, 49] : List UInt8)
                      · rw [if_pos c17] at H
                        have c17b0 : (t102.toList == ([108, 97, 116, 105, 110, 49] : List UInt8)) = true := beq_iff_eq.mpr c17
                        have c17b1 : (t102.toList != ([108, 97, 116, 105, 110, 49] : List UInt8)) = false := bne_eq_false_iff_eq.mpr c17
                        clear c17
                        have H' := Aside0.mk H
                        clear H
                        go_wp2
                        go_meet
                        case rel => exact ⟨_, ((t102.toList == ([108, 97, 116, 105, 110, 49] : List UInt8))), (by first | rfl | (simp; done) | (simp [*]; done)), H', ⟨by have := HJ3.out; first | omega | exact Nat.le_refl _⟩, ⟨by repeat (first | (with_reducible first | exact HB.out | apply below_alloc | apply pw_below_drewN | apply below_drew1) | exact HB.out)⟩⟩
                      · rw [if_neg c17] at H
                        have c17b0 : (t102.toList == ([108, 97, 116, 105, 110, 49] : List UInt8)) = false := beq_eq_false_iff_ne.mpr c17
                        have c17b1 : (t102.toList != ([108, 97, 116, 105, 110, 49] : List UInt8)) = true := bne_iff_ne.mpr c17
                        have H' := Aside0.mk H
                        clear H
                        go_wp2
                        go_meet
                        case rel => exact ⟨_, ((t102.toList == ([108, 49] : List UInt8))), (by first | rfl | (simp; done) | (simp [*]; done)), H', ⟨by have := HJ3.out; first | omega | exact Nat.le_refl _⟩, ⟨by repeat (first | (with_reducible first | exact HB.out | apply below_alloc | apply pw_below_drewN | apply below_drew1) | exact HB.out)⟩⟩
        case rest =>
          clear HC10
          try clear c1
          try clear c2
          try clear p2
          try clear c3
          try clear c4
          try clear c7
          try clear c7b0
          try clear c7b1
          try clear c8
          try clear c8b0
          try clear c8b1
          try clear c9
          try clear c11
          try clear c11b0
          try clear c11b1
          try clear c12
          try clear c12b0
          try clear c12b1
          try clear c13
          try clear c13b0
          try clear c13b1
          try clear c14
          try clear c14b0
          try clear c14b1
          try clear c15
          try clear c15b0
          try clear c15b1
          try clear c16
          try clear c16b0
          try clear c16b1
          try clear c17
          try clear c17b0
          try clear c17b1
          try clear p2
          obtain ⟨kq, x11_9, rfl, HA, HJ9, HB⟩ := hcut
          cases kq with
          | zero => exact absurd HA.out (by simp [chars_Known.j1])
          | succ kj9 =>
            have H := HA.out
            clear HA
            simp only [chars_Known.j1] at H
            by_cases c18 : x11_9 = true
            · subst c18
              have H1 : (some ((⟨#[119, 105, 110, 100, 111, 119, 115, 45, 49, 50, 53, 50]⟩ : ByteArray), true)) = some (r1, r2) := by rw [if_pos rfl] at H; exact H
              clear H
              have H := H1
              clear H1
              simp only [Option.some.injEq, Prod.mk.injEq] at H
              obtain ⟨rfl, rfl⟩ := H
              go_wp2
              go_ret2
              exact ⟨by first | rfl | (simp [errW_none, errW_some] <;> rfl) | (simp [*, errW_none, errW_some] <;> rfl), by repeat (first | (with_reducible first | exact HB.out | apply below_alloc | apply pw_below_drewN | apply below_drew1) | exact HB.out)⟩
            · replace c18 := Bool.eq_false_iff.mpr c18
              subst c18
              have H1 : (if t102.toList = ([117, 116, 102, 45, 49, 54, 108, 101] : List UInt8) then (chars_Known.j2 kj9 t102 (t102.toList == ([117, 116, 102, 45, 49, 54, 108, 101] : List UInt8))) else (if t102.toList = ([117, 116, 102, 45, 49, 54] : List UInt8) then (chars_Known.j2 kj9 t102 (t102.toList == ([117, 116, 102, 45, 49, 54] : List UInt8))) else (if t102.toList = ([117, 110, 105, 99, 111, 100, 101] : List UInt8) then (chars_Known.j2 kj9 t102 (t102.toList == ([117, 110, 105, 99, 111, 100, 101] : List UInt8))) else (chars_Known.j2 kj9 t102 (t102.toList == ([117, 99, 115, 45, 50] : List UInt8)))))) = some (r1, r2) := by rw [if_neg (show ¬ (false = true) by decide)] at H; exact H
              clear H
              have H := H1
              clear H1
              have HC19 := Aside0.mk H
              clear H
              go_upto_if 20 with (fail)
              go_cut [20] (fun v20 wc => ∃ (kq : Nat) (x20_18 : Bool), v20 = .bool x20_18 ∧ Aside0 (chars_Known.j2 kq t102 x20_18 = some (r1, r2)) ∧ Aside0 (kq ≤ kj9) ∧ Aside0 (Below w.heap.size w wc))
              case first =>
                have H := HC19.out
                clear HC19
                by_cases c20 : t102.toList = ([117, 116, 102, 45, 49, 54, 108, 101] : List UInt8)
                · rw [if_pos c20] at H
                  have c20b0 : (t102.toList == ([117, 116, 102, 45, 49, 54, 108, 101] : List UInt8)) = true := beq_iff_eq.mpr c20
                  have c20b1 : (t102.toList != ([117, 116, 102, 45, 49, 54, 108, 101] : List UInt8)) = false := bne_eq_false_iff_eq.mpr c20
                  clear c20
                  (first | rw [c20b0] | (simp only [i64_w, i32_w]; rw [c20b0]) | skip)
                  have H' := Aside0.mk H
                  clear H
                  go_wp2
                  go_meet
                  case rel => exact ⟨_, ((t102.toList == ([117, 116, 102, 45, 49, 54, 108, 101] : List UInt8))), (by first | rfl | (simp; done) | (simp [*]; done)), H', ⟨by have := HJ3.out; have := HJ9.out; first | omega | exact Nat.le_refl _⟩, ⟨by repeat (first | (with_reducible first | exact HB.out | apply below_alloc | apply pw_below_drewN | apply below_drew1) | exact HB.out)⟩⟩
                · rw [if_neg c20] at H
                  have c20b0 : (t102.toList == ([117, 116, 102, 45, 49, 54, 108, 101] : List UInt8)) = false := beq_eq_false_iff_ne.mpr c20
                  have c20b1 : (t102.toList != ([117, 116, 102, 45, 49, 54, 108, 101] : List UInt8)) = true := bne_iff_ne.mpr c20
                  (first | rw [c20b0] | (simp only [i64_w, i32_w]; rw [c20b0]) | skip)
                  by_cases c21 : t102.toList = ([117, 116, 102, 45, 49, 54] : List UInt8)
                  · rw [if_pos c21] at H
                    have c21b0 : (t102.toList == ([117, 116, 102, 45, 49, 54] : List UInt8)) = true := beq_iff_eq.mpr c21
                    have c21b1 : (t102.toList != ([117, 116, 102, 45, 49, 54] : List UInt8)) = false := bne_eq_false_iff_eq.mpr c21
                    clear c21
                    have H' := Aside0.mk H
                    clear H
                    go_wp2
                    go_meet
                    case rel => exact ⟨_, ((t102.toList == ([117, 116, 102, 45, 49, 54] : List UInt8))), (by first | rfl | (simp; done) | (simp [*]; done)), H', ⟨by have := HJ3.out; have := HJ9.out; first | omega | exact Nat.le_refl _⟩, ⟨by repeat (first | (with_reducible first | exact HB.out | apply below_alloc | apply pw_below_drewN | apply below_drew1) | exact HB.out)⟩⟩
                  · rw [if_neg c21] at H
                    have c21b0 : (t102.toList == ([117, 116, 102, 45, 49, 54] : List UInt8)) = false := beq_eq_false_iff_ne.mpr c21
                    have c21b1 : (t102.toList != ([117, 116, 102, 45, 49, 54] : List UInt8)) = true := bne_iff_ne.mpr c21
                    by_cases c22 : t102.toList = ([117, 110, 105, 99, 111, 100, 101] : List UInt8)
                    · rw [if_pos c22] at H
                      have c22b0 : (t102.toList == ([117, 110, 105, 99, 111, 100, 101] : List UInt8)) = true := beq_iff_eq.mpr c22
                      have c22b1 : (t102.toList != ([117, 110, 105, 99, 111, 100, 101] : List UInt8)) = false := bne_eq_false_iff_eq.mpr c22
                      clear c22
                      have H' := Aside0.mk H
                      clear H
                      go_wp2
                      go_meet
                      case rel => exact ⟨_, ((t102.toList == ([117, 110, 105, 99, 111, 100, 101] : List UInt8))), (by first | rfl | (simp; done) | (simp [*]; done)), H', ⟨by have := HJ3.out; have := HJ9.out; first | omega | exact Nat.le_refl _⟩, ⟨by repeat (first | (with_reducible first | exact HB.out | apply below_alloc | apply pw_below_drewN | apply below_drew1) | exact HB.out)⟩⟩
                    · rw [if_neg c22] at H
                      have c22b0 : (t102.toList == ([117, 110, 105, 99, 111, 100, 101] : List UInt8)) = false := beq_eq_false_iff_ne.mpr c22
                      have c22b1 : (t102.toList != ([117, 110, 105, 99, 111, 100, 101] : List UInt8)) = true := bne_iff_ne.mpr c22
                      have H' := Aside0.mk H
                      clear H
                      go_wp2
                      go_meet
                      case rel => exact ⟨_, ((t102.toList == ([117, 99, 115, 45, 50] : List UInt8))), (by first | rfl | (simp; done) | (simp [*]; done)), H', ⟨by have := HJ3.out; have := HJ9.out; first | omega | exact Nat.le_refl _⟩, ⟨by repeat (first | (with_reducible first | exact HB.out | apply below_alloc | apply pw_below_drewN | apply below_drew1) | exact HB.out)⟩⟩
              case rest =>
                clear HC19
                try clear c1
                try clear c2
                try clear p2
                try clear c3
                try clear c4
                try clear c7
                try clear c7b0
                try clear c7b1
                try clear c8
                try clear c8b0
                try clear c8b1
                try clear c9
                try clear c11
                try clear c11b0
                try clear c11b1
                try clear c12
                try clear c12b0
                try clear c12b1
                try clear c13
                try clear c13b0
                try clear c13b1
                try clear c14
                try clear c14b0
                try clear c14b1
                try clear c15
                try clear c15b0
                try clear c15b1
                try clear c16
                try clear c16b0
                try clear c16b1
                try clear c17
                try clear c17b0
                try clear c17b1
                try clear c18
                try clear c20
                try clear c20b0
                try clear c20b1
                try clear c21
                try clear c21b0
                try clear c21b1
                try clear c22
                try clear c22b0
                try clear c22b1
                try clear p2
                obtain ⟨kq, x20_18, rfl, HA, HJ18, HB⟩ := hcut
                cases kq with
                | zero => exact absurd HA.out (by simp [chars_Known.j2])
                | succ kj18 =>
                  have H := HA.out
                  clear HA
                  simp only [chars_Known.j2] at H
                  by_cases c23 : x20_18 = true
                  · subst c23
                    have H1 : (some ((⟨#[117, 116, 102, 45, 49, 54, 108, 101]⟩ : ByteArray), true)) = some (r1, r2) := by rw [if_pos rfl] at H; exact H
                    clear H
                    have H := H1
                    clear H1
                    simp only [Option.some.injEq, Prod.mk.injEq] at H
                    obtain ⟨rfl, rfl⟩ := H
                    go_wp2
                    go_ret2
                    exact ⟨by first | rfl | (simp [errW_none, errW_some] <;> rfl) | (simp [*, errW_none, errW_some] <;> rfl), by repeat (first | (with_reducible first | exact HB.out | apply below_alloc | apply pw_below_drewN | apply below_drew1) | exact HB.out)⟩
                  · replace c23 := Bool.eq_false_iff.mpr c23
                    subst c23
                    have H1 : (if t102.toList = ([117, 116, 102, 45, 49, 54, 98, 101] : List UInt8) then (some ((⟨#[117, 116, 102, 45, 49, 54, 98, 101]⟩ : ByteArray), true)) else (if t102.toList = ([117, 110, 105, 99, 111, 100, 101, 102, 102, 102, 101] : List UInt8) then (some ((⟨#[117, 116, 102, 45, 49, 54, 98, 101]⟩ : ByteArray), true)) else (some ((⟨#[]⟩ : ByteArray), false)))) = some (r1, r2) := by rw [if_neg (show ¬ (false = true) by decide)] at H; exact H
                    clear H
                    have H := H1
                    clear H1
                    by_cases c24 : t102.toList = ([117, 116, 102, 45, 49, 54, 98, 101] : List UInt8)
                    · rw [if_pos c24] at H
                      have c24b0 : (t102.toList == ([117, 116, 102, 45, 49, 54, 98, 101] : List UInt8)) = true := beq_iff_eq.mpr c24
                      have c24b1 : (t102.toList != ([117, 116, 102, 45, 49, 54, 98, 101] : List UInt8)) = false := bne_eq_false_iff_eq.mpr c24
                      clear c24
                      simp only [Option.some.injEq, Prod.mk.injEq] at H
                      obtain ⟨rfl, rfl⟩ := H
                      go_wp2
                      go_ret2
                      exact ⟨by first | rfl | (simp [errW_none, errW_some] <;> rfl) | (simp [*, errW_none, errW_some] <;> rfl), by repeat (first | (with_reducible first | exact HB.out | apply below_alloc | apply pw_below_drewN | apply below_drew1) | exact HB.out)⟩
                    · rw [if_neg c24] at H
                      have c24b0 : (t102.toList == ([117, 116, 102, 45, 49, 54, 98, 101] : List UInt8)) = false := beq_eq_false_iff_ne.mpr c24
                      have c24b1 : (t102.toList != ([117, 116, 102, 45, 49, 54, 98, 101] : List UInt8)) = true := bne_iff_ne.mpr c24
                      by_cases c25 : t102.toList = ([117, 110, 105, 99, 111, 100, 101, 102, 102, 102, 101] : List UInt8)
                      · rw [if_pos c25] at H
                        have c25b0 : (t102.toList == ([117, 110, 105, 99, 111, 100, 101, 102, 102, 102, 101] : List UInt8)) = true := beq_iff_eq.mpr c25
                        have c25b1 : (t102.toList != ([117, 110, 105, 99, 111, 100, 101, 102, 102, 102, 101] : List UInt8)) = false := bne_eq_false_iff_eq.mpr c25
                        clear c25
                        simp only [Option.some.injEq, Prod.mk.injEq] at H
                        obtain ⟨rfl, rfl⟩ := H
                        go_wp2
                        go_ret2
                        exact ⟨by first | rfl | (simp [errW_none, errW_some] <;> rfl) | (simp [*, errW_none, errW_some] <;> rfl), by repeat (first | (with_reducible first | exact HB.out | apply below_alloc | apply pw_below_drewN | apply below_drew1) | exact HB.out)⟩
                      · rw [if_neg c25] at H
                        have c25b0 : (t102.toList == ([117, 110, 105, 99, 111, 100, 101, 102, 102, 102, 101] : List UInt8)) = false := beq_eq_false_iff_ne.mpr c25
                        have c25b1 : (t102.toList != ([117, 110, 105, 99, 111, 100, 101, 102, 102, 102, 101] : List UInt8)) = true := bne_iff_ne.mpr c25
                        simp only [Option.some.injEq, Prod.mk.injEq] at H
                        obtain ⟨rfl, rfl⟩ := H
                        go_wp2
                        go_ret2
                        exact ⟨by first | rfl | (simp [errW_none, errW_some] <;> rfl) | (simp [*, errW_none, errW_some] <;> rfl), by repeat (first | (with_reducible first | exact HB.out | apply below_alloc | apply pw_below_drewN | apply below_drew1) | exact HB.out)⟩
def chars_Decode.f (k : Nat) (a0 : ByteArray) (a1 : ByteArray) : Option (ByteArray × Bool) := (chars_Known.f k a0).bind fun bt103 => (if bt103.1.toList = ([119, 105, 110, 100, 111, 119, 115, 45, 49, 50, 53, 50] : List UInt8) then ((chars_singles.f a1).bind fun t105 => (some (t105, bt103.2))) else (if bt103.1.toList = ([117, 116, 102, 45, 49, 54, 108, 101] : List UInt8) then ((chars_doubles.f a1 0 8).bind fun t106 => (some (t106, bt103.2))) else (if bt103.1.toList = ([117, 116, 102, 45, 49, 54, 98, 101] : List UInt8) then ((chars_doubles.f a1 8 0).bind fun t107 => (some (t107, bt103.2))) else ((chars_Valid.f a1).bind fun t108 => (some (t108, bt103.2))))))
set_option maxHeartbeats 8000000 in
set_option maxRecDepth 100000 in
theorem chars_Decode.calls (k : Nat) (a0 : ByteArray) (a1 : ByteArray) (r1 : ByteArray) (r2 : Bool) (w : World) (hGl : Glob w) (h : chars_Decode.f k a0 a1 = some (r1, r2)) :
    Calls Tryd.prog 25 #[.string a0, .string a1] w fun e w' => e = .returned (.tuple #[.string r1, .bool r2]) ∧ Below w.heap.size w w' := by
  have HGl := Aside0.mk hGl
  clear hGl
  have HB := Aside0.mk (Below.refl w.heap.size w)
  have H : ((chars_Known.f k a0).bind fun bt103 => (if bt103.1.toList = ([119, 105, 110, 100, 111, 119, 115, 45, 49, 50, 53, 50] : List UInt8) then ((chars_singles.f a1).bind fun t105 => (some (t105, bt103.2))) else (if bt103.1.toList = ([117, 116, 102, 45, 49, 54, 108, 101] : List UInt8) then ((chars_doubles.f a1 0 8).bind fun t106 => (some (t106, bt103.2))) else (if bt103.1.toList = ([117, 116, 102, 45, 49, 54, 98, 101] : List UInt8) then ((chars_doubles.f a1 8 0).bind fun t107 => (some (t107, bt103.2))) else ((chars_Valid.f a1).bind fun t108 => (some (t108, bt103.2))))))) = some (r1, r2) := h
  clear h
  replace H := Option.bind_eq_some_iff.mp H
  obtain ⟨⟨t103, t104⟩, A30, H⟩ := H
  replace H : (if t103.toList = ([119, 105, 110, 100, 111, 119, 115, 45, 49, 50, 53, 50] : List UInt8) then ((chars_singles.f a1).bind fun t105 => (some (t105, t104))) else (if t103.toList = ([117, 116, 102, 45, 49, 54, 108, 101] : List UInt8) then ((chars_doubles.f a1 0 8).bind fun t106 => (some (t106, t104))) else (if t103.toList = ([117, 116, 102, 45, 49, 54, 98, 101] : List UInt8) then ((chars_doubles.f a1 8 0).bind fun t107 => (some (t107, t104))) else ((chars_Valid.f a1).bind fun t108 => (some (t108, t104)))))) = some (r1, r2) := H
  have A3 := Aside0.mk A30
  clear A30
  by_cases c4 : t103.toList = ([119, 105, 110, 100, 111, 119, 115, 45, 49, 50, 53, 50] : List UInt8)
  · rw [if_pos c4] at H
    have c4b0 : (t103.toList == ([119, 105, 110, 100, 111, 119, 115, 45, 49, 50, 53, 50] : List UInt8)) = true := beq_iff_eq.mpr c4
    have c4b1 : (t103.toList != ([119, 105, 110, 100, 111, 119, 115, 45, 49, 50, 53, 50] : List UInt8)) = false := bne_eq_false_iff_eq.mpr c4
    clear c4
    replace H := Option.bind_eq_some_iff.mp H
    obtain ⟨t105, A50, H⟩ := H
    replace H : (some (t105, t104)) = some (r1, r2) := H
    have A5 := Aside0.mk A50
    clear A50
    simp only [Option.some.injEq, Prod.mk.injEq] at H
    obtain ⟨rfl, rfl⟩ := H
    go_enter Tryd.func25, Tryd.ntmps25
    go_wp2_with (first | ((with_reducible refine gate_callee (f := 22) rfl ?_); refine goesL_ (some 10) rfl rfl Tryd.func22 (by kernel_rfl) rfl #[.string a0] rfl (by (try simp only [List.map_toArray, List.map_cons, List.map_nil]); first | done | rfl | (simp only [List.length_drop, List.length_take]; rfl)) ?_; (with_reducible refine (chars_Known.calls k a0 t103 t104 _ A3.out).mono ?_); rintro e w6 ⟨rfl, hb⟩; refine ⟨_, rfl, ?_⟩; have n0_ := Aside0.mk (below_step (by repeat (first | (with_reducible first | exact HB.out | apply below_alloc | apply pw_below_drewN | apply below_drew1) | exact HB.out)) hb); clear HB; have HB := n0_; clear n0_; (try clear hb); (try clear hb2); (try clear hk); (try clear hi)) | ((with_reducible refine gate_callee (f := 54) rfl ?_); refine goesL_ (some 17) rfl rfl Tryd.func54 (by kernel_rfl) rfl #[.string a1] rfl (by (try simp only [List.map_toArray, List.map_cons, List.map_nil]); first | done | rfl | (simp only [List.length_drop, List.length_take]; rfl)) ?_; (with_reducible refine (chars_singles.calls a1 t105 _ ?sideGl A5.out).mono ?_); (case sideGl => exact HGl.out.below (by repeat (first | (with_reducible first | exact HB.out | apply below_alloc | apply pw_below_drewN | apply below_drew1) | exact HB.out))); rintro e w7 ⟨rfl, hb⟩; refine ⟨_, rfl, ?_⟩; have n0_ := Aside0.mk (below_step (by repeat (first | (with_reducible first | exact HB.out | apply below_alloc | apply pw_below_drewN | apply below_drew1) | exact HB.out)) hb); clear HB; have HB := n0_; clear n0_; (try clear hb); (try clear hb2); (try clear hk); (try clear hi)))
    go_ret2
    exact ⟨by first | rfl | (simp [errW_none, errW_some] <;> rfl) | (simp [*, errW_none, errW_some] <;> rfl), by repeat (first | (with_reducible first | exact HB.out | apply below_alloc | apply pw_below_drewN | apply below_drew1) | exact HB.out)⟩
  · rw [if_neg c4] at H
    have c4b0 : (t103.toList == ([119, 105, 110, 100, 111, 119, 115, 45, 49, 50, 53, 50] : List UInt8)) = false := beq_eq_false_iff_ne.mpr c4
    have c4b1 : (t103.toList != ([119, 105, 110, 100, 111, 119, 115, 45, 49, 50, 53, 50] : List UInt8)) = true := bne_iff_ne.mpr c4
    by_cases c8 : t103.toList = ([117, 116, 102, 45, 49, 54, 108, 101] : List UInt8)
    · rw [if_pos c8] at H
      have c8b0 : (t103.toList == ([117, 116, 102, 45, 49, 54, 108, 101] : List UInt8)) = true := beq_iff_eq.mpr c8
      have c8b1 : (t103.toList != ([117, 116, 102, 45, 49, 54, 108, 101] : List UInt8)) = false := bne_eq_false_iff_eq.mpr c8
      clear c8
      replace H := Option.bind_eq_some_iff.mp H
      obtain ⟨t106, A90, H⟩ := H
      replace H : (some (t106, t104)) = some (r1, r2) := H
      have A9 := Aside0.mk A90
      clear A90
      simp only [Option.some.injEq, Prod.mk.injEq] at H
      obtain ⟨rfl, rfl⟩ := H
      go_enter Tryd.func25, Tryd.ntmps25
      go_wp2_with (first | ((with_reducible refine gate_callee (f := 22) rfl ?_); refine goesL_ (some 10) rfl rfl Tryd.func22 (by kernel_rfl) rfl #[.string a0] rfl (by (try simp only [List.map_toArray, List.map_cons, List.map_nil]); first | done | rfl | (simp only [List.length_drop, List.length_take]; rfl)) ?_; (with_reducible refine (chars_Known.calls k a0 t103 t104 _ A3.out).mono ?_); rintro e w10 ⟨rfl, hb⟩; refine ⟨_, rfl, ?_⟩; have n0_ := Aside0.mk (below_step (by repeat (first | (with_reducible first | exact HB.out | apply below_alloc | apply pw_below_drewN | apply below_drew1) | exact HB.out)) hb); clear HB; have HB := n0_; clear n0_; (try clear hb); (try clear hb2); (try clear hk); (try clear hi)) | ((with_reducible refine gate_callee (f := 55) rfl ?_); refine goesL_ (some 22) rfl rfl Tryd.func55 (by kernel_rfl) rfl #[.string a1, .int .i64 0, .int .i64 8] rfl (by (try simp only [List.map_toArray, List.map_cons, List.map_nil]); first | done | rfl | (simp only [List.length_drop, List.length_take]; rfl)) ?_; (with_reducible refine (chars_doubles.calls a1 0 8 t106 _ A9.out).mono ?_); rintro e w11 ⟨rfl, hb⟩; refine ⟨_, rfl, ?_⟩; have n0_ := Aside0.mk (below_step (by repeat (first | (with_reducible first | exact HB.out | apply below_alloc | apply pw_below_drewN | apply below_drew1) | exact HB.out)) hb); clear HB; have HB := n0_; clear n0_; (try clear hb); (try clear hb2); (try clear hk); (try clear hi)))
      go_ret2
      exact ⟨by first | rfl | (simp [errW_none, errW_some] <;> rfl) | (simp [*, errW_none, errW_some] <;> rfl), by repeat (first | (with_reducible first | exact HB.out | apply below_alloc | apply pw_below_drewN | apply below_drew1) | exact HB.out)⟩
    · rw [if_neg c8] at H
      have c8b0 : (t103.toList == ([117, 116, 102, 45, 49, 54, 108, 101] : List UInt8)) = false := beq_eq_false_iff_ne.mpr c8
      have c8b1 : (t103.toList != ([117, 116, 102, 45, 49, 54, 108, 101] : List UInt8)) = true := bne_iff_ne.mpr c8
      by_cases c12 : t103.toList = ([117, 116, 102, 45, 49, 54, 98, 101] : List UInt8)
      · rw [if_pos c12] at H
        have c12b0 : (t103.toList == ([117, 116, 102, 45, 49, 54, 98, 101] : List UInt8)) = true := beq_iff_eq.mpr c12
        have c12b1 : (t103.toList != ([117, 116, 102, 45, 49, 54, 98, 101] : List UInt8)) = false := bne_eq_false_iff_eq.mpr c12
        clear c12
        replace H := Option.bind_eq_some_iff.mp H
        obtain ⟨t107, A130, H⟩ := H
        replace H : (some (t107, t104)) = some (r1, r2) := H
        have A13 := Aside0.mk A130
        clear A130
        simp only [Option.some.injEq, Prod.mk.injEq] at H
        obtain ⟨rfl, rfl⟩ := H
        go_enter Tryd.func25, Tryd.ntmps25
        go_wp2_with (first | ((with_reducible refine gate_callee (f := 22) rfl ?_); refine goesL_ (some 10) rfl rfl Tryd.func22 (by kernel_rfl) rfl #[.string a0] rfl (by (try simp only [List.map_toArray, List.map_cons, List.map_nil]); first | done | rfl | (simp only [List.length_drop, List.length_take]; rfl)) ?_; (with_reducible refine (chars_Known.calls k a0 t103 t104 _ A3.out).mono ?_); rintro e w14 ⟨rfl, hb⟩; refine ⟨_, rfl, ?_⟩; have n0_ := Aside0.mk (below_step (by repeat (first | (with_reducible first | exact HB.out | apply below_alloc | apply pw_below_drewN | apply below_drew1) | exact HB.out)) hb); clear HB; have HB := n0_; clear n0_; (try clear hb); (try clear hb2); (try clear hk); (try clear hi)) | ((with_reducible refine gate_callee (f := 55) rfl ?_); refine goesL_ (some 27) rfl rfl Tryd.func55 (by kernel_rfl) rfl #[.string a1, .int .i64 8, .int .i64 0] rfl (by (try simp only [List.map_toArray, List.map_cons, List.map_nil]); first | done | rfl | (simp only [List.length_drop, List.length_take]; rfl)) ?_; (with_reducible refine (chars_doubles.calls a1 8 0 t107 _ A13.out).mono ?_); rintro e w15 ⟨rfl, hb⟩; refine ⟨_, rfl, ?_⟩; have n0_ := Aside0.mk (below_step (by repeat (first | (with_reducible first | exact HB.out | apply below_alloc | apply pw_below_drewN | apply below_drew1) | exact HB.out)) hb); clear HB; have HB := n0_; clear n0_; (try clear hb); (try clear hb2); (try clear hk); (try clear hi)))
        go_ret2
        exact ⟨by first | rfl | (simp [errW_none, errW_some] <;> rfl) | (simp [*, errW_none, errW_some] <;> rfl), by repeat (first | (with_reducible first | exact HB.out | apply below_alloc | apply pw_below_drewN | apply below_drew1) | exact HB.out)⟩
      · rw [if_neg c12] at H
        have c12b0 : (t103.toList == ([117, 116, 102, 45, 49, 54, 98, 101] : List UInt8)) = false := beq_eq_false_iff_ne.mpr c12
        have c12b1 : (t103.toList != ([117, 116, 102, 45, 49, 54, 98, 101] : List UInt8)) = true := bne_iff_ne.mpr c12
        replace H := Option.bind_eq_some_iff.mp H
        obtain ⟨t108, A160, H⟩ := H
        replace H : (some (t108, t104)) = some (r1, r2) := H
        have A16 := Aside0.mk A160
        clear A160
        simp only [Option.some.injEq, Prod.mk.injEq] at H
        obtain ⟨rfl, rfl⟩ := H
        go_enter Tryd.func25, Tryd.ntmps25
        go_wp2_with (first | ((with_reducible refine gate_callee (f := 22) rfl ?_); refine goesL_ (some 10) rfl rfl Tryd.func22 (by kernel_rfl) rfl #[.string a0] rfl (by (try simp only [List.map_toArray, List.map_cons, List.map_nil]); first | done | rfl | (simp only [List.length_drop, List.length_take]; rfl)) ?_; (with_reducible refine (chars_Known.calls k a0 t103 t104 _ A3.out).mono ?_); rintro e w17 ⟨rfl, hb⟩; refine ⟨_, rfl, ?_⟩; have n0_ := Aside0.mk (below_step (by repeat (first | (with_reducible first | exact HB.out | apply below_alloc | apply pw_below_drewN | apply below_drew1) | exact HB.out)) hb); clear HB; have HB := n0_; clear n0_; (try clear hb); (try clear hb2); (try clear hk); (try clear hi)) | ((with_reducible refine gate_callee (f := 17) rfl ?_); refine goesL_ (some 30) rfl rfl Tryd.func17 (by kernel_rfl) rfl #[.string a1] rfl (by (try simp only [List.map_toArray, List.map_cons, List.map_nil]); first | done | rfl | (simp only [List.length_drop, List.length_take]; rfl)) ?_; (with_reducible refine (chars_Valid.calls a1 t108 _ A16.out).mono ?_); rintro e w18 ⟨rfl, hb⟩; refine ⟨_, rfl, ?_⟩; have n0_ := Aside0.mk (below_step (by repeat (first | (with_reducible first | exact HB.out | apply below_alloc | apply pw_below_drewN | apply below_drew1) | exact HB.out)) hb); clear HB; have HB := n0_; clear n0_; (try clear hb); (try clear hb2); (try clear hk); (try clear hi)))
        go_ret2
        exact ⟨by first | rfl | (simp [errW_none, errW_some] <;> rfl) | (simp [*, errW_none, errW_some] <;> rfl), by repeat (first | (with_reducible first | exact HB.out | apply below_alloc | apply pw_below_drewN | apply below_drew1) | exact HB.out)⟩
end Go.Proofs.YtokkgjiofhhlkaaDoor.C
namespace Go.Proofs.YtokkgjiofhhlkaaDoor.C
open Go.RowKit Go.Proofs.YtokkgjiofhhlkaaDoorW.PrintWords Go.Proofs.YtokkgjiofhhlkaaDoorW.PrintLast Go.Proofs.YtokkgjiofhhlkaaDoorW.PrintMore
attribute [local go_sem] max2_int min2_int max_two min_two max_three min_three max_four min_four
set_option linter.unusedVariables false
set_option linter.unusedSimpArgs false
mutual
def muslinref04_Whole.j2 : Nat → ByteArray → Int → Int → Int → Int → Option (Int)
  | 0, _, _, _, _, _ => none
  | k + 1, x0, x1, x6, x7, x8 => if (wrap64 (x1 + x6)) > (x0.size : Int) then (some 0) else (muslinref04_Whole.l0 k x0 x1 x6 x7 x8 1)
def muslinref04_Whole.l0 : Nat → ByteArray → Int → Int → Int → Int → Int → Option (Int)
  | 0, _, _, _, _, _, _ => none
  | k + 1, x0, x1, x6, x7, x8, x9 => if x9 < x6 then (if 0 ≤ (wrap64 (x1 + x9)) then (if (wrap64 (x1 + x9)) < (x0.size : Int) then (if (wrap64 (bt x0 (wrap64 (x1 + x9)))) < 128 then (some 0) else (if (wrap64 (bt x0 (wrap64 (x1 + x9)))) > 191 then (some 0) else (muslinref04_Whole.l0 k x0 x1 x6 x7 (wrap64 ((wrap64 ((wrap64 (64 * x8)) + (wrap64 (bt x0 (wrap64 (x1 + x9)))))) - 128)) (wrap64 (x9 + 1))))) else (none)) else (none)) else (if x8 < x7 then (some 0) else (if x8 > 1114111 then (some 0) else (if x8 ≥ 55296 then (if x8 ≤ 57343 then (some 0) else (some x6)) else (some x6))))
def muslinref04_Whole.j0 : Nat → ByteArray → Int → Int → Bool → Option (Int)
  | 0, _, _, _, _ => none
  | k + 1, x0, x1, x5, x19 => if x19 = true then (muslinref04_Whole.j2 k x0 x1 2 128 (wrap64 (x5 - 192))) else (if x5 ≥ 224 then (muslinref04_Whole.j1 k x0 x1 x5 (decide (x5 < 240))) else (muslinref04_Whole.j1 k x0 x1 x5 false))
def muslinref04_Whole.j1 : Nat → ByteArray → Int → Int → Bool → Option (Int)
  | 0, _, _, _, _ => none
  | k + 1, x0, x1, x5, x28 => if x28 = true then (muslinref04_Whole.j2 k x0 x1 3 2048 (wrap64 (x5 - 224))) else (if x5 ≥ 240 then (if x5 < 248 then (muslinref04_Whole.j2 k x0 x1 4 65536 (wrap64 (x5 - 240))) else (some 0)) else (some 0))
end
def muslinref04_Whole.f (k : Nat) (a0 : ByteArray) (a1 : Int) : Option (Int) := if 0 ≤ a1 then (if a1 < (a0.size : Int) then (if (wrap64 (bt a0 a1)) < 128 then (some 1) else (if (wrap64 (bt a0 a1)) ≥ 192 then (muslinref04_Whole.j0 k a0 a1 (wrap64 (bt a0 a1)) (decide ((wrap64 (bt a0 a1)) < 224))) else (muslinref04_Whole.j0 k a0 a1 (wrap64 (bt a0 a1)) false))) else (none)) else (none)
set_option maxHeartbeats 8000000 in
set_option maxRecDepth 100000 in
theorem muslinref04_Whole.calls (k : Nat) (a0 : ByteArray) (a1 : Int) (r : Int) (w : World) (h : muslinref04_Whole.f k a0 a1 = some r) :
    Calls Tryd.prog 42 #[.string a0, .int .i64 a1] w fun e w' => e = .returned (.int .i64 r) ∧ Drawn0 w w' := by
  have H : (if 0 ≤ a1 then (if a1 < (a0.size : Int) then (if (wrap64 (bt a0 a1)) < 128 then (some 1) else (if (wrap64 (bt a0 a1)) ≥ 192 then (muslinref04_Whole.j0 k a0 a1 (wrap64 (bt a0 a1)) (decide ((wrap64 (bt a0 a1)) < 224))) else (muslinref04_Whole.j0 k a0 a1 (wrap64 (bt a0 a1)) false))) else (none)) else (none)) = some r := h
  clear h
  by_cases c3 : 0 ≤ a1
  · rw [if_pos c3] at H
    have c3b0 : decide (0 ≤ a1) = true := decide_eq_true c3
    clear c3
    by_cases c4 : a1 < (a0.size : Int)
    · rw [if_pos c4] at H
      have c4b0 : decide (a1 < (a0.size : Int)) = true := decide_eq_true c4
      clear c4
      have HC6 := Aside0.mk H
      clear H
      have p5 : 0 ≤ (a1 : Int) := of_decide_eq_true (by first | (with_reducible assumption) | assumption)
      have q5 : a1 < (a0.size : Int) := of_decide_eq_true (by first | (with_reducible assumption) | assumption)
      have hx5 := bt_at a0 a1
      replace p5 := eq_true p5
      replace q5 := eq_true q5
      go_enter Tryd.func42, Tryd.ntmps42
      go_upto_block 0 with (fail)
      go_cut [6, 7, 8] (fun v6 v7 v8 wc => ∃ (kq : Nat) (x6_5 : Int) (x7_5 : Int) (x8_5 : Int), v6 = .int .i64 x6_5 ∧ v7 = .int .i64 x7_5 ∧ v8 = .int .i64 x8_5 ∧ Aside0 (muslinref04_Whole.j2 kq a0 a1 x6_5 x7_5 x8_5 = some r) ∧ Aside0 (kq ≤ k) ∧ Drawn0 w wc)
      case first =>
        have H := HC6.out
        clear HC6
        by_cases c7 : (wrap64 (bt a0 a1)) < 128
        · rw [if_pos c7] at H
          have c7b0 : decide ((wrap64 (bt a0 a1)) < 128) = true := decide_eq_true c7
          clear c7
          (first | rw [c7b0] | (simp only [i64_w, i32_w]; rw [c7b0]) | skip)
          obtain rfl := Option.some.inj H
          go_wp2
          go_ret
          exact ⟨by first | rfl | (simp; done) | (simp [*]; done), by repeat (first | exact Drawn0.refl _ | apply Drawn0.step)⟩
        · rw [if_neg c7] at H
          have c7b0 : decide ((wrap64 (bt a0 a1)) < 128) = false := decide_eq_false c7
          clear c7
          (first | rw [c7b0] | (simp only [i64_w, i32_w]; rw [c7b0]) | skip)
          have HC8 := Aside0.mk H
          clear H
          go_upto_region 8 with (fail)
          go_cut [19] (fun v19 wc => ∃ (kq : Nat) (x19_7 : Bool), v19 = .bool x19_7 ∧ Aside0 (muslinref04_Whole.j0 kq a0 a1 (wrap64 (bt a0 a1)) x19_7 = some r) ∧ Aside0 (kq ≤ k) ∧ Drawn0 w wc)
          case first =>
            have H := HC8.out
            clear HC8
            by_cases c9 : (wrap64 (bt a0 a1)) ≥ 192
            · rw [if_pos c9] at H
              have c9b0 : decide (192 ≤ (wrap64 (bt a0 a1))) = true := decide_eq_true c9
              clear c9
              (first | rw [c9b0] | (simp only [i64_w, i32_w]; rw [c9b0]) | skip)
              have H' := Aside0.mk H
              clear H
              go_wp2
              go_meet
              case rel => exact ⟨_, (decide ((wrap64 (bt a0 a1)) < 224)), (by first | rfl | (simp; done) | (simp [*]; done)), H', ⟨by first | omega | exact Nat.le_refl _⟩, by repeat (first | exact Drawn0.refl _ | apply Drawn0.step)⟩
            · rw [if_neg c9] at H
              have c9b0 : decide (192 ≤ (wrap64 (bt a0 a1))) = false := decide_eq_false c9
              clear c9
              (first | rw [c9b0] | (simp only [i64_w, i32_w]; rw [c9b0]) | skip)
              have H' := Aside0.mk H
              clear H
              go_wp2
              go_meet
              case rel => exact ⟨_, (false), (by first | rfl | (simp; done) | (simp [*]; done)), H', ⟨by first | omega | exact Nat.le_refl _⟩, by repeat (first | exact Drawn0.refl _ | apply Drawn0.step)⟩
          case rest =>
            clear HC8
            try clear p2
            try clear c3
            try clear c3b0
            try clear c4
            try clear c4b0
            try clear p5
            try clear q5
            try clear hx5
            try clear p6
            try clear c7
            try clear c7b0
            try clear c9
            try clear c9b0
            try clear p5
            try clear q5
            obtain ⟨kq, x19_7, rfl, HA, HJ7, ⟨mc7, rfl⟩⟩ := hcut
            cases kq with
            | zero => exact absurd HA.out (by simp [muslinref04_Whole.j0])
            | succ kj7 =>
              have H := HA.out
              clear HA
              simp only [muslinref04_Whole.j0] at H
              by_cases c10 : x19_7 = true
              · subst c10
                have H1 : (muslinref04_Whole.j2 kj7 a0 a1 2 128 (wrap64 ((wrap64 (bt a0 a1)) - 192))) = some r := by rw [if_pos rfl] at H; exact H
                clear H
                have H := H1
                clear H1
                have H' := Aside0.mk H
                clear H
                go_wp2
                go_meet
                case rel => exact ⟨_, (2), (128), (wrap64 ((wrap64 (bt a0 a1)) - 192)), (by first | rfl | (simp; done) | (simp [*]; done)), (by first | rfl | (simp; done) | (simp [*]; done)), (by first | rfl | (simp; done) | (simp [*]; done)), H', ⟨by have := HJ7.out; first | omega | exact Nat.le_refl _⟩, by repeat (first | exact Drawn0.refl _ | apply Drawn0.step)⟩
              · replace c10 := Bool.eq_false_iff.mpr c10
                subst c10
                have H1 : (if (wrap64 (bt a0 a1)) ≥ 224 then (muslinref04_Whole.j1 kj7 a0 a1 (wrap64 (bt a0 a1)) (decide ((wrap64 (bt a0 a1)) < 240))) else (muslinref04_Whole.j1 kj7 a0 a1 (wrap64 (bt a0 a1)) false)) = some r := by rw [if_neg (show ¬ (false = true) by decide)] at H; exact H
                clear H
                have H := H1
                clear H1
                have HC11 := Aside0.mk H
                clear H
                go_upto_region 12 with (fail)
                go_cut [28] (fun v28 wc => ∃ (kq : Nat) (x28_10 : Bool), v28 = .bool x28_10 ∧ Aside0 (muslinref04_Whole.j1 kq a0 a1 (wrap64 (bt a0 a1)) x28_10 = some r) ∧ Aside0 (kq ≤ kj7) ∧ Drawn0 w wc)
                case first =>
                  have H := HC11.out
                  clear HC11
                  by_cases c12 : (wrap64 (bt a0 a1)) ≥ 224
                  · rw [if_pos c12] at H
                    have c12b0 : decide (224 ≤ (wrap64 (bt a0 a1))) = true := decide_eq_true c12
                    clear c12
                    (first | rw [c12b0] | (simp only [i64_w, i32_w]; rw [c12b0]) | skip)
                    have H' := Aside0.mk H
                    clear H
                    go_wp2
                    go_meet
                    case rel => exact ⟨_, (decide ((wrap64 (bt a0 a1)) < 240)), (by first | rfl | (simp; done) | (simp [*]; done)), H', ⟨by have := HJ7.out; first | omega | exact Nat.le_refl _⟩, by repeat (first | exact Drawn0.refl _ | apply Drawn0.step)⟩
                  · rw [if_neg c12] at H
                    have c12b0 : decide (224 ≤ (wrap64 (bt a0 a1))) = false := decide_eq_false c12
                    clear c12
                    (first | rw [c12b0] | (simp only [i64_w, i32_w]; rw [c12b0]) | skip)
                    have H' := Aside0.mk H
                    clear H
                    go_wp2
                    go_meet
                    case rel => exact ⟨_, (false), (by first | rfl | (simp; done) | (simp [*]; done)), H', ⟨by have := HJ7.out; first | omega | exact Nat.le_refl _⟩, by repeat (first | exact Drawn0.refl _ | apply Drawn0.step)⟩
                case rest =>
                  clear HC11
                  try clear c1
                  try clear p2
                  try clear c3
                  try clear c3b0
                  try clear c4
                  try clear c4b0
                  try clear p5
                  try clear q5
                  try clear hx5
                  try clear p6
                  try clear c7
                  try clear c7b0
                  try clear c9
                  try clear c9b0
                  try clear c10
                  try clear c12
                  try clear c12b0
                  try clear p2
                  try clear p5
                  try clear p6
                  try clear q5
                  obtain ⟨kq, x28_10, rfl, HA, HJ10, ⟨mc10, rfl⟩⟩ := hcut
                  cases kq with
                  | zero => exact absurd HA.out (by simp [muslinref04_Whole.j1])
                  | succ kj10 =>
                    have H := HA.out
                    clear HA
                    simp only [muslinref04_Whole.j1] at H
                    by_cases c13 : x28_10 = true
                    · subst c13
                      have H1 : (muslinref04_Whole.j2 kj10 a0 a1 3 2048 (wrap64 ((wrap64 (bt a0 a1)) - 224))) = some r := by rw [if_pos rfl] at H; exact H
                      clear H
                      have H := H1
                      clear H1
                      have H' := Aside0.mk H
                      clear H
                      go_wp2
                      go_meet
                      case rel => exact ⟨_, (3), (2048), (wrap64 ((wrap64 (bt a0 a1)) - 224)), (by first | rfl | (simp; done) | (simp [*]; done)), (by first | rfl | (simp; done) | (simp [*]; done)), (by first | rfl | (simp; done) | (simp [*]; done)), H', ⟨by have := HJ7.out; have := HJ10.out; first | omega | exact Nat.le_refl _⟩, by repeat (first | exact Drawn0.refl _ | apply Drawn0.step)⟩
                    · replace c13 := Bool.eq_false_iff.mpr c13
                      subst c13
                      have H1 : (if (wrap64 (bt a0 a1)) ≥ 240 then (if (wrap64 (bt a0 a1)) < 248 then (muslinref04_Whole.j2 kj10 a0 a1 4 65536 (wrap64 ((wrap64 (bt a0 a1)) - 240))) else (some 0)) else (some 0)) = some r := by rw [if_neg (show ¬ (false = true) by decide)] at H; exact H
                      clear H
                      have H := H1
                      clear H1
                      by_cases c14 : (wrap64 (bt a0 a1)) ≥ 240
                      · rw [if_pos c14] at H
                        have c14b0 : decide (240 ≤ (wrap64 (bt a0 a1))) = true := decide_eq_true c14
                        clear c14
                        by_cases c15 : (wrap64 (bt a0 a1)) < 248
                        · rw [if_pos c15] at H
                          have c15b0 : decide ((wrap64 (bt a0 a1)) < 248) = true := decide_eq_true c15
                          clear c15
                          have H' := Aside0.mk H
                          clear H
                          go_wp2
                          go_meet
                          case rel => exact ⟨_, (4), (65536), (wrap64 ((wrap64 (bt a0 a1)) - 240)), (by first | rfl | (simp; done) | (simp [*]; done)), (by first | rfl | (simp; done) | (simp [*]; done)), (by first | rfl | (simp; done) | (simp [*]; done)), H', ⟨by have := HJ7.out; have := HJ10.out; first | omega | exact Nat.le_refl _⟩, by repeat (first | exact Drawn0.refl _ | apply Drawn0.step)⟩
                        · rw [if_neg c15] at H
                          have c15b0 : decide ((wrap64 (bt a0 a1)) < 248) = false := decide_eq_false c15
                          clear c15
                          obtain rfl := Option.some.inj H
                          go_wp2
                          go_ret
                          exact ⟨by first | rfl | (simp; done) | (simp [*]; done), by repeat (first | exact Drawn0.refl _ | apply Drawn0.step)⟩
                      · rw [if_neg c14] at H
                        have c14b0 : decide (240 ≤ (wrap64 (bt a0 a1))) = false := decide_eq_false c14
                        clear c14
                        obtain rfl := Option.some.inj H
                        go_wp2
                        go_ret
                        exact ⟨by first | rfl | (simp; done) | (simp [*]; done), by repeat (first | exact Drawn0.refl _ | apply Drawn0.step)⟩
      case rest =>
        clear HC6
        try clear c1
        try clear p2
        try clear c3
        try clear c3b0
        try clear c4
        try clear c4b0
        try clear p5
        try clear q5
        try clear hx5
        try clear p6
        try clear c7
        try clear c7b0
        try clear c9
        try clear c9b0
        try clear c10
        try clear c12
        try clear c12b0
        try clear c13
        try clear c14
        try clear c14b0
        try clear c15
        try clear c15b0
        try clear p2
        try clear p5
        try clear p6
        try clear q5
        obtain ⟨kq, x6_5, x7_5, x8_5, rfl, rfl, rfl, HA, HJ5, ⟨mc5, rfl⟩⟩ := hcut
        cases kq with
        | zero => exact absurd HA.out (by simp [muslinref04_Whole.j2])
        | succ kj5 =>
          have H := HA.out
          clear HA
          simp only [muslinref04_Whole.j2] at H
          by_cases c16 : (wrap64 (a1 + x6_5)) > (a0.size : Int)
          · rw [if_pos c16] at H
            have c16b0 : decide ((a0.size : Int) < (wrap64 (a1 + x6_5))) = true := decide_eq_true c16
            clear c16
            obtain rfl := Option.some.inj H
            go_wp2
            go_ret
            exact ⟨by first | rfl | (simp; done) | (simp [*]; done), by repeat (first | exact Drawn0.refl _ | apply Drawn0.step)⟩
          · rw [if_neg c16] at H
            have c16b0 : decide ((a0.size : Int) < (wrap64 (a1 + x6_5))) = false := decide_eq_false c16
            clear c16
            have H' := Aside0.mk H
            clear H
            go_wp2
            go_loopg [8, 9] kj5 (fun kq v8 v9 w' => ∃ (x8_2 : Int) (x9_2 : Int), v8 = .int .i64 x8_2 ∧ v9 = .int .i64 x9_2 ∧ Aside0 (muslinref04_Whole.l0 kq a0 a1 x6_5 x7_5 x8_2 x9_2 = some r) ∧ Aside0 (kq ≤ kj5) ∧ Drawn0 w w')
            case atStart => exact ⟨(x8_5), (1), (by first | rfl | (simp; done) | (simp [*]; done)), (by first | rfl | (simp; done) | (simp [*]; done)), H', ⟨Nat.le_refl _⟩, by repeat (first | exact Drawn0.refl _ | apply Drawn0.step)⟩
            case round =>
              clear H'
              try clear c1
              try clear p2
              try clear c3
              try clear c3b0
              try clear c4
              try clear c4b0
              try clear c5
              try clear p5
              try clear q5
              try clear hx5
              try clear p6
              try clear c7
              try clear c7b0
              try clear c9
              try clear c9b0
              try clear c10
              try clear c12
              try clear c12b0
              try clear c13
              try clear c14
              try clear c14b0
              try clear c15
              try clear c15b0
              try clear c16
              try clear c16b0
              try clear p2
              try clear p5
              try clear p6
              try clear q5
              obtain ⟨x8_2, x9_2, rfl, rfl, HA, HK2, ⟨m2, rfl⟩⟩ := hrel
              cases gk with
              | zero => exact absurd HA.out (by simp [muslinref04_Whole.l0])
              | succ k2 =>
                have H := HA.out
                clear HA
                simp only [muslinref04_Whole.l0] at H
                by_cases c17 : x9_2 < x6_5
                · rw [if_pos c17] at H
                  have c17b0 : decide (x9_2 < x6_5) = true := decide_eq_true c17
                  clear c17
                  obtain ⟨ji18, hji18⟩ : ∃ j_ : Int, (wrap64 (a1 + x9_2)) = j_ := ⟨_, rfl⟩
                  replace H : (if 0 ≤ (ji18) then (if (ji18) < (a0.size : Int) then (if (wrap64 (bt a0 (ji18))) < 128 then (some 0) else (if (wrap64 (bt a0 (ji18))) > 191 then (some 0) else (muslinref04_Whole.l0 k2 a0 a1 x6_5 x7_5 (wrap64 ((wrap64 ((wrap64 (64 * x8_2)) + (wrap64 (bt a0 (ji18))))) - 128)) (wrap64 (x9_2 + 1))))) else (none)) else (none)) = some r := by first | (rw [hji18] at H; exact H) | (simp only [hji18] at H ⊢; exact H)
                  have hji18w : (IntKind.i64.wrap (a1 + x9_2)) = ji18 := (i64_w _).trans hji18
                  by_cases c19 : 0 ≤ (ji18)
                  · rw [if_pos c19] at H
                    have c19b0 : decide (0 ≤ (ji18)) = true := decide_eq_true c19
                    clear c19
                    by_cases c20 : (ji18) < (a0.size : Int)
                    · rw [if_pos c20] at H
                      have c20b0 : decide ((ji18) < (a0.size : Int)) = true := decide_eq_true c20
                      clear c20
                      by_cases c22 : (wrap64 (bt a0 (ji18))) < 128
                      · rw [if_pos c22] at H
                        have c22b0 : decide ((wrap64 (bt a0 (ji18))) < 128) = true := decide_eq_true c22
                        clear c22
                        obtain rfl := Option.some.inj H
                        have p21 : 0 ≤ ((ji18) : Int) := of_decide_eq_true (by first | (with_reducible assumption) | assumption)
                        have q21 : (ji18) < (a0.size : Int) := of_decide_eq_true (by first | (with_reducible assumption) | assumption)
                        have hx21 := bt_at a0 (ji18)
                        replace p21 := eq_true p21
                        replace q21 := eq_true q21
                        go_wp2
                        go_ret
                        exact ⟨by first | rfl | (simp; done) | (simp only [← hji18] <;> (first | rfl | simp)) | (simp [*]; done), by repeat (first | exact Drawn0.refl _ | apply Drawn0.step)⟩
                      · rw [if_neg c22] at H
                        have c22b0 : decide ((wrap64 (bt a0 (ji18))) < 128) = false := decide_eq_false c22
                        clear c22
                        by_cases c23 : (wrap64 (bt a0 (ji18))) > 191
                        · rw [if_pos c23] at H
                          have c23b0 : decide (191 < (wrap64 (bt a0 (ji18)))) = true := decide_eq_true c23
                          clear c23
                          obtain rfl := Option.some.inj H
                          have p21 : 0 ≤ ((ji18) : Int) := of_decide_eq_true (by first | (with_reducible assumption) | assumption)
                          have q21 : (ji18) < (a0.size : Int) := of_decide_eq_true (by first | (with_reducible assumption) | assumption)
                          have hx21 := bt_at a0 (ji18)
                          replace p21 := eq_true p21
                          replace q21 := eq_true q21
                          go_wp2
                          go_ret
                          exact ⟨by first | rfl | (simp; done) | (simp only [← hji18] <;> (first | rfl | simp)) | (simp [*]; done), by repeat (first | exact Drawn0.refl _ | apply Drawn0.step)⟩
                        · rw [if_neg c23] at H
                          have c23b0 : decide (191 < (wrap64 (bt a0 (ji18)))) = false := decide_eq_false c23
                          clear c23
                          have H' := Aside0.mk H
                          clear H
                          have p21 : 0 ≤ ((ji18) : Int) := of_decide_eq_true (by first | (with_reducible assumption) | assumption)
                          have q21 : (ji18) < (a0.size : Int) := of_decide_eq_true (by first | (with_reducible assumption) | assumption)
                          have hx21 := bt_at a0 (ji18)
                          replace p21 := eq_true p21
                          replace q21 := eq_true q21
                          go_wp2
                          go_roundg k2
                          case measure => have := HJ5.out; have := HK2.out; omega
                          case rel => exact ⟨(wrap64 ((wrap64 ((wrap64 (64 * x8_2)) + (wrap64 (bt a0 (ji18))))) - 128)), (wrap64 (x9_2 + 1)), (by first | rfl | (simp; done) | (simp only [← hji18] <;> (first | rfl | simp)) | (simp [*]; done)), (by first | rfl | (simp; done) | (simp [*]; done)), H', ⟨by have := HJ5.out; have := HK2.out; omega⟩, by repeat (first | exact Drawn0.refl _ | apply Drawn0.step)⟩
                    · rw [if_neg c20] at H
                      exact absurd H (by simp)
                  · rw [if_neg c19] at H
                    exact absurd H (by simp)
                · rw [if_neg c17] at H
                  have c17b0 : decide (x9_2 < x6_5) = false := decide_eq_false c17
                  clear c17
                  by_cases c24 : x8_2 < x7_5
                  · rw [if_pos c24] at H
                    have c24b0 : decide (x8_2 < x7_5) = true := decide_eq_true c24
                    clear c24
                    obtain rfl := Option.some.inj H
                    go_wp2
                    go_ret
                    exact ⟨by first | rfl | (simp; done) | (simp [*]; done), by repeat (first | exact Drawn0.refl _ | apply Drawn0.step)⟩
                  · rw [if_neg c24] at H
                    have c24b0 : decide (x8_2 < x7_5) = false := decide_eq_false c24
                    clear c24
                    by_cases c25 : x8_2 > 1114111
                    · rw [if_pos c25] at H
                      have c25b0 : decide (1114111 < x8_2) = true := decide_eq_true c25
                      clear c25
                      obtain rfl := Option.some.inj H
                      go_wp2
                      go_ret
                      exact ⟨by first | rfl | (simp; done) | (simp [*]; done), by repeat (first | exact Drawn0.refl _ | apply Drawn0.step)⟩
                    · rw [if_neg c25] at H
                      have c25b0 : decide (1114111 < x8_2) = false := decide_eq_false c25
                      clear c25
                      by_cases c26 : x8_2 ≥ 55296
                      · rw [if_pos c26] at H
                        have c26b0 : decide (55296 ≤ x8_2) = true := decide_eq_true c26
                        clear c26
                        by_cases c27 : x8_2 ≤ 57343
                        · rw [if_pos c27] at H
                          have c27b0 : decide (x8_2 ≤ 57343) = true := decide_eq_true c27
                          clear c27
                          obtain rfl := Option.some.inj H
                          go_wp2
                          go_ret
                          exact ⟨by first | rfl | (simp; done) | (simp [*]; done), by repeat (first | exact Drawn0.refl _ | apply Drawn0.step)⟩
                        · rw [if_neg c27] at H
                          have c27b0 : decide (x8_2 ≤ 57343) = false := decide_eq_false c27
                          clear c27
                          obtain rfl := Option.some.inj H
                          go_wp2
                          go_ret
                          exact ⟨by first | rfl | (simp; done) | (simp [*]; done), by repeat (first | exact Drawn0.refl _ | apply Drawn0.step)⟩
                      · rw [if_neg c26] at H
                        have c26b0 : decide (55296 ≤ x8_2) = false := decide_eq_false c26
                        clear c26
                        obtain rfl := Option.some.inj H
                        go_wp2
                        go_ret
                        exact ⟨by first | rfl | (simp; done) | (simp [*]; done), by repeat (first | exact Drawn0.refl _ | apply Drawn0.step)⟩
    · rw [if_neg c4] at H
      exact absurd H (by simp)
  · rw [if_neg c3] at H
    exact absurd H (by simp)
def muslinref04_Valid.l0 : Nat → ByteArray → List Int → Int → Option (ByteArray)
  | 0, _, _, _ => none
  | k + 1, x0, x3, x4 => if x4 < (x0.size : Int) then ((muslinref04_Whole.f k x0 x4).bind fun t114 => (if t114 = 0 then (if x3.length + 3 < 140737488355328 then (muslinref04_Valid.l0 k x0 (x3 ++ bytesOf (⟨#[239, 191, 189]⟩ : ByteArray)) (wrap64 (x4 + 1))) else (none)) else (if 0 ≤ x4 then (if x4 ≤ (wrap64 (x4 + t114)) then (if (wrap64 (x4 + t114)) ≤ (x0.size : Int) then (if x3.length + (x0.extract (x4 : Int).toNat ((wrap64 (x4 + t114)) : Int).toNat).size < 140737488355328 then (muslinref04_Valid.l0 k x0 (x3 ++ bytesOf (x0.extract (x4 : Int).toNat ((wrap64 (x4 + t114)) : Int).toNat)) (wrap64 (x4 + t114))) else (none)) else (none)) else (none)) else (none)))) else (some (strOfNums x3))
def muslinref04_Valid.f (k : Nat) (a0 : ByteArray) : Option (ByteArray) := muslinref04_Valid.l0 k a0 ([] : List Int) 0
set_option maxHeartbeats 8000000 in
set_option maxRecDepth 100000 in
theorem muslinref04_Valid.calls (k : Nat) (a0 : ByteArray) (r : ByteArray) (w : World) (h : muslinref04_Valid.f k a0 = some r) :
    Calls Tryd.prog 18 #[.string a0] w fun e w' => e = .returned (.string r) ∧ Below w.heap.size w w' := by
  have HB := Aside0.mk (Below.refl w.heap.size w)
  have H : (muslinref04_Valid.l0 k a0 ([] : List Int) 0) = some r := h
  clear h
  have H' := Aside0.mk H
  clear H
  go_enter Tryd.func18, Tryd.ntmps18
  go_wp2
  go_loopg [3, 4] k (fun kq v3 v4 w' => ∃ (x3_1 : List Int) (x4_1 : Int), v4 = .int .i64 x4_1 ∧ Aside0 (muslinref04_Valid.l0 kq a0 x3_1 x4_1 = some r) ∧ Aside0 (kq ≤ k) ∧ Aside0 (Kd.R (Kd.int .u8) 5 w' w.heap.size (fun _ => True) v3 x3_1) ∧ Aside0 (Below w.heap.size w w'))
  case atStart => exact ⟨(([] : List Int)), (0), (by first | rfl | (simp; done) | (simp [*]; done)), H', ⟨Nat.le_refl _⟩, ⟨by first | exact Kd.R_nil _ _ _ _ _ | exact Kd.N_nil _ _ _ _ _ | exact Kd.V_nil _ _ _ _ _ | exact Kd.Q_nil _ _ _ _ _ | exact Kd.S_nil _ _ _ _ _⟩, ⟨by repeat (first | (with_reducible first | exact HB.out | apply below_alloc | apply pw_below_drewN | apply below_drew1) | exact HB.out)⟩⟩
  case round =>
    clear H'
    try clear c1
    obtain ⟨x3_1, x4_1, rfl, HA, HK1, HO_3, HB⟩ := hrel
    cases gk with
    | zero => exact absurd HA.out (by simp [muslinref04_Valid.l0])
    | succ k1 =>
      have H := HA.out
      clear HA
      simp only [muslinref04_Valid.l0] at H
      by_cases c2 : x4_1 < (a0.size : Int)
      · rw [if_pos c2] at H
        have c2b0 : decide (x4_1 < (a0.size : Int)) = true := decide_eq_true c2
        clear c2
        replace H := Option.bind_eq_some_iff.mp H
        obtain ⟨t114, A30, H⟩ := H
        replace H : (if t114 = 0 then (if x3_1.length + 3 < 140737488355328 then (muslinref04_Valid.l0 k1 a0 (x3_1 ++ bytesOf (⟨#[239, 191, 189]⟩ : ByteArray)) (wrap64 (x4_1 + 1))) else (none)) else (if 0 ≤ x4_1 then (if x4_1 ≤ (wrap64 (x4_1 + t114)) then (if (wrap64 (x4_1 + t114)) ≤ (a0.size : Int) then (if x3_1.length + (a0.extract (x4_1 : Int).toNat ((wrap64 (x4_1 + t114)) : Int).toNat).size < 140737488355328 then (muslinref04_Valid.l0 k1 a0 (x3_1 ++ bytesOf (a0.extract (x4_1 : Int).toNat ((wrap64 (x4_1 + t114)) : Int).toNat)) (wrap64 (x4_1 + t114))) else (none)) else (none)) else (none)) else (none))) = some r := H
        have A3 := Aside0.mk A30
        clear A30
        by_cases c4 : t114 = 0
        · rw [if_pos c4] at H
          have c4b0 : (t114 == 0) = true := beq_iff_eq.mpr c4
          have c4b1 : (t114 != 0) = false := bne_eq_false_iff_eq.mpr c4
          clear c4
          by_cases c5 : x3_1.length + 3 < 140737488355328
          · rw [if_pos c5] at H
            have LMc5 := Aside0.mk c5
            clear c5
            obtain ⟨y115, hy115⟩ : ∃ y_ : List Int, y_ = (x3_1 ++ bytesOf (⟨#[239, 191, 189]⟩ : ByteArray)) := ⟨_, rfl⟩
            replace H : (muslinref04_Valid.l0 k1 a0 y115 (wrap64 (x4_1 + 1))) = some r := by first | (rw [hy115]; with_reducible exact H) | (have H2_ := (Option.bind_some _ _).symm.trans H; rw [hy115]; with_reducible exact H2_) | (have H2_ := (Option.bind_some _ _).symm.trans H; with_reducible exact H2_) | with_reducible exact H | (rw [hy115]; exact H) | exact H
            have Ny115 := Aside0.mk hy115
            clear hy115
            have H' := Aside0.mk H
            clear H
            go_wp2_with (first | ((with_reducible refine gate_callee (f := 42) rfl ?_); refine goesL_ (some 12) rfl rfl Tryd.func42 (by kernel_rfl) rfl #[.string a0, .int .i64 x4_1] rfl (by (try simp only [List.map_toArray, List.map_cons, List.map_nil]); first | done | rfl | (simp only [List.length_drop, List.length_take]; rfl)) ?_; (with_reducible refine (muslinref04_Whole.calls k1 a0 x4_1 t114 _ A3.out).mono ?_); rintro e w' ⟨rfl, ⟨nd, rfl⟩⟩; refine ⟨_, rfl, ?_⟩) | (at_builtin; refine print_append_str (w0 := w) w.heap.size rfl (.tmp 15) _ 37 9 5 rfl Tryd.underlying37 Tryd.underlying9 info5 u3 x3_1 (⟨#[239, 191, 189]⟩ : ByteArray) rfl rfl ?aO ?aB ?aS ?aL ?_; (case aB => exact (by repeat (first | (with_reducible first | exact HB.out | apply below_alloc | apply pw_below_drewN | apply below_drew1) | exact HB.out))); (case aO => exact (Kd.own_of_R (by (with_reducible repeat (first | apply Kd.R_alloc | apply Kd.R_drewN | apply Kd.R_drew)); exact HO_3.out))); (case aS => exact (below_size (by repeat (first | (with_reducible first | exact HB.out | apply below_alloc | apply pw_below_drewN | apply below_drew1) | exact HB.out)))); (case aL => have := LMc5.out; first | omega | exact Nat.le_of_lt this); intro v116 w6 ho0 hb hg; have ho := Kd.R_of_own (h1 := fun _ => rfl) (ok := fun _ => True) ho0 (fun _ _ => trivial); clear ho0; have hat := True.intro; rw [← Ny115.out] at ho; change Kd.R (Kd.int .u8) 5 w6 w.heap.size (fun _ => True) v116 y115 at ho; have n0_ := Aside0.mk (hb); have n1_ := Aside0.mk (ho); clear HB; clear HO_3; have HB := n0_; have HO117 := n1_; clear n0_ n1_; clear ho hb hg hat))
            go_roundg k1
            case measure => have := HK1.out; omega
            case rel => exact ⟨(y115), (wrap64 (x4_1 + 1)), (by first | rfl | (simp; done) | (simp [*]; done)), H', ⟨by have := HK1.out; omega⟩, ⟨by (with_reducible repeat (first | apply Kd.R_alloc | apply Kd.R_drewN | apply Kd.R_drew)); exact HO117.out⟩, ⟨by repeat (first | (with_reducible first | exact HB.out | apply below_alloc | apply pw_below_drewN | apply below_drew1) | exact HB.out)⟩⟩
          · rw [if_neg c5] at H
            exact absurd H (by simp)
        · rw [if_neg c4] at H
          have c4b0 : (t114 == 0) = false := beq_eq_false_iff_ne.mpr c4
          have c4b1 : (t114 != 0) = true := bne_iff_ne.mpr c4
          by_cases c7 : 0 ≤ x4_1
          · rw [if_pos c7] at H
            have c7b0 := eq_true c7
            have c7b1 : decide (0 ≤ x4_1) = true := decide_eq_true c7
            clear c7
            by_cases c8 : x4_1 ≤ (wrap64 (x4_1 + t114))
            · rw [if_pos c8] at H
              have c8b0 := eq_true c8
              have c8b1 : decide (x4_1 ≤ (wrap64 (x4_1 + t114))) = true := decide_eq_true c8
              by_cases c9 : (wrap64 (x4_1 + t114)) ≤ (a0.size : Int)
              · rw [if_pos c9] at H
                have c9b0 := eq_true c9
                have c9b1 : decide ((wrap64 (x4_1 + t114)) ≤ (a0.size : Int)) = true := decide_eq_true c9
                by_cases c10 : x3_1.length + (a0.extract (x4_1 : Int).toNat ((wrap64 (x4_1 + t114)) : Int).toNat).size < 140737488355328
                · rw [if_pos c10] at H
                  have LMc10 := Aside0.mk c10
                  clear c10
                  obtain ⟨y118, hy118⟩ : ∃ y_ : List Int, y_ = (x3_1 ++ bytesOf (a0.extract (x4_1 : Int).toNat ((wrap64 (x4_1 + t114)) : Int).toNat)) := ⟨_, rfl⟩
                  replace H : (muslinref04_Valid.l0 k1 a0 y118 (wrap64 (x4_1 + t114))) = some r := by first | (rw [hy118]; with_reducible exact H) | (have H2_ := (Option.bind_some _ _).symm.trans H; rw [hy118]; with_reducible exact H2_) | (have H2_ := (Option.bind_some _ _).symm.trans H; with_reducible exact H2_) | with_reducible exact H | (rw [hy118]; exact H) | exact H
                  have Ny118 := Aside0.mk hy118
                  clear hy118
                  have H' := Aside0.mk H
                  clear H
                  go_wp2_with (first | ((with_reducible refine gate_callee (f := 42) rfl ?_); refine goesL_ (some 12) rfl rfl Tryd.func42 (by kernel_rfl) rfl #[.string a0, .int .i64 x4_1] rfl (by (try simp only [List.map_toArray, List.map_cons, List.map_nil]); first | done | rfl | (simp only [List.length_drop, List.length_take]; rfl)) ?_; (with_reducible refine (muslinref04_Whole.calls k1 a0 x4_1 t114 _ A3.out).mono ?_); rintro e w' ⟨rfl, ⟨nd, rfl⟩⟩; refine ⟨_, rfl, ?_⟩) | (at_builtin; refine print_append_str (w0 := w) w.heap.size rfl (.tmp 19) _ 37 9 5 rfl Tryd.underlying37 Tryd.underlying9 info5 u3 x3_1 (a0.extract (x4_1 : Int).toNat ((wrap64 (x4_1 + t114)) : Int).toNat) rfl rfl ?aO ?aB ?aS ?aL ?_; (case aB => exact (by repeat (first | (with_reducible first | exact HB.out | apply below_alloc | apply pw_below_drewN | apply below_drew1) | exact HB.out))); (case aO => exact (Kd.own_of_R (by (with_reducible repeat (first | apply Kd.R_alloc | apply Kd.R_drewN | apply Kd.R_drew)); exact HO_3.out))); (case aS => exact (below_size (by repeat (first | (with_reducible first | exact HB.out | apply below_alloc | apply pw_below_drewN | apply below_drew1) | exact HB.out)))); (case aL => have := LMc10.out; first | omega | exact Nat.le_of_lt this); intro v119 w11 ho0 hb hg; have ho := Kd.R_of_own (h1 := fun _ => rfl) (ok := fun _ => True) ho0 (fun _ _ => trivial); clear ho0; have hat := True.intro; rw [← Ny118.out] at ho; change Kd.R (Kd.int .u8) 5 w11 w.heap.size (fun _ => True) v119 y118 at ho; have n0_ := Aside0.mk (hb); have n1_ := Aside0.mk (ho); clear HB; clear HO_3; have HB := n0_; have HO120 := n1_; clear n0_ n1_; clear ho hb hg hat))
                  go_roundg k1
                  case measure => have := HK1.out; omega
                  case rel => exact ⟨(y118), (wrap64 (x4_1 + t114)), (by first | rfl | (simp; done) | (simp [*]; done)), H', ⟨by have := HK1.out; omega⟩, ⟨by (with_reducible repeat (first | apply Kd.R_alloc | apply Kd.R_drewN | apply Kd.R_drew)); exact HO120.out⟩, ⟨by repeat (first | (with_reducible first | exact HB.out | apply below_alloc | apply pw_below_drewN | apply below_drew1) | exact HB.out)⟩⟩
                · rw [if_neg c10] at H
                  exact absurd H (by simp)
              · rw [if_neg c9] at H
                exact absurd H (by simp)
            · rw [if_neg c8] at H
              exact absurd H (by simp)
          · rw [if_neg c7] at H
            exact absurd H (by simp)
      · rw [if_neg c2] at H
        have c2b0 : decide (x4_1 < (a0.size : Int)) = false := decide_eq_false c2
        clear c2
        obtain rfl := Option.some.inj H
        have hcv12 := own_string (P := Tryd.prog) Tryd.underlying37 Tryd.underlying5 Tryd.underlying9 (Kd.own_of_R HO_3.out)
        go_wp2
        go_ret
        exact ⟨by first | rfl | (simp [errW_none, errW_some] <;> rfl) | (simp [*, errW_none, errW_some] <;> rfl), by repeat (first | (with_reducible first | exact HB.out | apply below_alloc | apply pw_below_drewN | apply below_drew1) | exact HB.out)⟩
end Go.Proofs.YtokkgjiofhhlkaaDoor.C
