/- Parts of the proof of the law WordDecodes, in one text: P1. -/
import Derived.Test.YtokkgjiofhhlkaaDoorMgWordDecodes9
set_option linter.unusedVariables false
set_option linter.unusedSimpArgs false
namespace Go.Proofs.YtokkgjiofhhlkaaDoor.P
open Go.RowKit Go.Proofs.YtokkgjiofhhlkaaDoorW.PrintWords Go.Proofs.YtokkgjiofhhlkaaDoorW.PrintLast Go.Proofs.YtokkgjiofhhlkaaDoorW.PrintMore
attribute [local go_sem] max2_int min2_int max_two min_two max_three min_three max_four min_four
set_option linter.unusedVariables false
set_option linter.unusedSimpArgs false
def muslinlaw05_short.f (a0 : ByteArray) : Option (Bool) := some (decide ((a0.size : Int) ≤ 2000))
set_option maxHeartbeats 8000000 in
set_option maxRecDepth 100000 in
theorem muslinlaw05_short.calls (a0 : ByteArray) (r : Bool) (w : World) (h : muslinlaw05_short.f a0 = some r) :
    Calls Tryd.prog 9 #[.string a0] w fun e w' => e = .returned (.bool r) ∧ Drawn0 w w' := by
  have H : (some (decide ((a0.size : Int) ≤ 2000))) = some r := h
  clear h
  obtain rfl := Option.some.inj H
  go_enter Tryd.func9, Tryd.ntmps9
  go_wp2
  go_ret
  exact ⟨by first | rfl | (simp; done) | (simp [*]; done), by repeat (first | exact Drawn0.refl _ | apply Drawn0.step)⟩
def muslinlaw05_live.f  : Option (Bool) := (word_One.f (⟨#[61, 63, 108, 97, 116, 105, 110, 49, 42, 101, 110, 63, 81, 63, 99, 97, 102, 61, 69, 57, 95, 120, 63, 61, 121]⟩ : ByteArray)).bind fun bt101 => ((word_One.f (⟨#[61, 63, 120, 63, 81, 63, 97, 63, 61]⟩ : ByteArray)).bind fun bt103 => (if bt101.1.toList = ([99, 97, 102, 195, 169, 32, 120] : List UInt8) then (if bt101.2 = 24 then (if bt103.2 = 0 then ((word_Decode.f (⟨#[97, 32, 61, 63, 117, 116, 102, 45, 56, 63, 66, 63, 83, 71, 107, 61, 63, 61, 32, 10, 32, 61, 63, 97, 115, 99, 105, 105, 63, 113, 63, 33, 63, 61, 32, 98]⟩ : ByteArray)).bind fun t105 => (if t105.toList = ([97, 32, 72, 105, 33, 32, 98] : List UInt8) then ((word_Encode.f (⟨#[195, 169]⟩ : ByteArray)).bind fun t106 => (if t106.toList = ([61, 63, 117, 116, 102, 45, 56, 63, 66, 63, 119, 54, 107, 61, 63, 61] : List UInt8) then ((word_Encode.f (⟨#[97, 32, 98]⟩ : ByteArray)).bind fun t107 => (some (t107.toList == ([97, 32, 98] : List UInt8)))) else (some false))) else (some false))) else (some false)) else (some false)) else (some false)))
set_option maxHeartbeats 8000000 in
set_option maxRecDepth 100000 in
theorem muslinlaw05_live.calls  (r : Bool) (w : World) (hGl : Glob w) (h : muslinlaw05_live.f  = some r) :
    Calls Tryd.prog 10 #[] w fun e w' => e = .returned (.bool r) ∧ Below w.heap.size w w' := by
  have HGl := Aside0.mk hGl
  clear hGl
  have HB := Aside0.mk (Below.refl w.heap.size w)
  have H : ((word_One.f (⟨#[61, 63, 108, 97, 116, 105, 110, 49, 42, 101, 110, 63, 81, 63, 99, 97, 102, 61, 69, 57, 95, 120, 63, 61, 121]⟩ : ByteArray)).bind fun bt101 => ((word_One.f (⟨#[61, 63, 120, 63, 81, 63, 97, 63, 61]⟩ : ByteArray)).bind fun bt103 => (if bt101.1.toList = ([99, 97, 102, 195, 169, 32, 120] : List UInt8) then (if bt101.2 = 24 then (if bt103.2 = 0 then ((word_Decode.f (⟨#[97, 32, 61, 63, 117, 116, 102, 45, 56, 63, 66, 63, 83, 71, 107, 61, 63, 61, 32, 10, 32, 61, 63, 97, 115, 99, 105, 105, 63, 113, 63, 33, 63, 61, 32, 98]⟩ : ByteArray)).bind fun t105 => (if t105.toList = ([97, 32, 72, 105, 33, 32, 98] : List UInt8) then ((word_Encode.f (⟨#[195, 169]⟩ : ByteArray)).bind fun t106 => (if t106.toList = ([61, 63, 117, 116, 102, 45, 56, 63, 66, 63, 119, 54, 107, 61, 63, 61] : List UInt8) then ((word_Encode.f (⟨#[97, 32, 98]⟩ : ByteArray)).bind fun t107 => (some (t107.toList == ([97, 32, 98] : List UInt8)))) else (some false))) else (some false))) else (some false)) else (some false)) else (some false)))) = some r := h
  clear h
  replace H := Option.bind_eq_some_iff.mp H
  obtain ⟨⟨t101, t102⟩, A10, H⟩ := H
  replace H : ((word_One.f (⟨#[61, 63, 120, 63, 81, 63, 97, 63, 61]⟩ : ByteArray)).bind fun bt103 => (if t101.toList = ([99, 97, 102, 195, 169, 32, 120] : List UInt8) then (if t102 = 24 then (if bt103.2 = 0 then ((word_Decode.f (⟨#[97, 32, 61, 63, 117, 116, 102, 45, 56, 63, 66, 63, 83, 71, 107, 61, 63, 61, 32, 10, 32, 61, 63, 97, 115, 99, 105, 105, 63, 113, 63, 33, 63, 61, 32, 98]⟩ : ByteArray)).bind fun t105 => (if t105.toList = ([97, 32, 72, 105, 33, 32, 98] : List UInt8) then ((word_Encode.f (⟨#[195, 169]⟩ : ByteArray)).bind fun t106 => (if t106.toList = ([61, 63, 117, 116, 102, 45, 56, 63, 66, 63, 119, 54, 107, 61, 63, 61] : List UInt8) then ((word_Encode.f (⟨#[97, 32, 98]⟩ : ByteArray)).bind fun t107 => (some (t107.toList == ([97, 32, 98] : List UInt8)))) else (some false))) else (some false))) else (some false)) else (some false)) else (some false))) = some r := H
  have A1 := Aside0.mk A10
  clear A10
  replace H := Option.bind_eq_some_iff.mp H
  obtain ⟨⟨t103, t104⟩, A20, H⟩ := H
  replace H : (if t101.toList = ([99, 97, 102, 195, 169, 32, 120] : List UInt8) then (if t102 = 24 then (if t104 = 0 then ((word_Decode.f (⟨#[97, 32, 61, 63, 117, 116, 102, 45, 56, 63, 66, 63, 83, 71, 107, 61, 63, 61, 32, 10, 32, 61, 63, 97, 115, 99, 105, 105, 63, 113, 63, 33, 63, 61, 32, 98]⟩ : ByteArray)).bind fun t105 => (if t105.toList = ([97, 32, 72, 105, 33, 32, 98] : List UInt8) then ((word_Encode.f (⟨#[195, 169]⟩ : ByteArray)).bind fun t106 => (if t106.toList = ([61, 63, 117, 116, 102, 45, 56, 63, 66, 63, 119, 54, 107, 61, 63, 61] : List UInt8) then ((word_Encode.f (⟨#[97, 32, 98]⟩ : ByteArray)).bind fun t107 => (some (t107.toList == ([97, 32, 98] : List UInt8)))) else (some false))) else (some false))) else (some false)) else (some false)) else (some false)) = some r := H
  have A2 := Aside0.mk A20
  clear A20
  by_cases c3 : t101.toList = ([99, 97, 102, 195, 169, 32, 120] : List UInt8)
  · rw [if_pos c3] at H
    have c3b0 : (t101.toList == ([99, 97, 102, 195, 169, 32, 120] : List UInt8)) = true := beq_iff_eq.mpr c3
    have c3b1 : (t101.toList != ([99, 97, 102, 195, 169, 32, 120] : List UInt8)) = false := bne_eq_false_iff_eq.mpr c3
    clear c3
    by_cases c4 : t102 = 24
    · rw [if_pos c4] at H
      have c4b0 : (t102 == 24) = true := beq_iff_eq.mpr c4
      have c4b1 : (t102 != 24) = false := bne_eq_false_iff_eq.mpr c4
      clear c4
      by_cases c5 : t104 = 0
      · rw [if_pos c5] at H
        have c5b0 : (t104 == 0) = true := beq_iff_eq.mpr c5
        have c5b1 : (t104 != 0) = false := bne_eq_false_iff_eq.mpr c5
        clear c5
        replace H := Option.bind_eq_some_iff.mp H
        obtain ⟨t105, A60, H⟩ := H
        replace H : (if t105.toList = ([97, 32, 72, 105, 33, 32, 98] : List UInt8) then ((word_Encode.f (⟨#[195, 169]⟩ : ByteArray)).bind fun t106 => (if t106.toList = ([61, 63, 117, 116, 102, 45, 56, 63, 66, 63, 119, 54, 107, 61, 63, 61] : List UInt8) then ((word_Encode.f (⟨#[97, 32, 98]⟩ : ByteArray)).bind fun t107 => (some (t107.toList == ([97, 32, 98] : List UInt8)))) else (some false))) else (some false)) = some r := H
        have A6 := Aside0.mk A60
        clear A60
        by_cases c7 : t105.toList = ([97, 32, 72, 105, 33, 32, 98] : List UInt8)
        · rw [if_pos c7] at H
          have c7b0 : (t105.toList == ([97, 32, 72, 105, 33, 32, 98] : List UInt8)) = true := beq_iff_eq.mpr c7
          have c7b1 : (t105.toList != ([97, 32, 72, 105, 33, 32, 98] : List UInt8)) = false := bne_eq_false_iff_eq.mpr c7
          clear c7
          replace H := Option.bind_eq_some_iff.mp H
          obtain ⟨t106, A80, H⟩ := H
          replace H : (if t106.toList = ([61, 63, 117, 116, 102, 45, 56, 63, 66, 63, 119, 54, 107, 61, 63, 61] : List UInt8) then ((word_Encode.f (⟨#[97, 32, 98]⟩ : ByteArray)).bind fun t107 => (some (t107.toList == ([97, 32, 98] : List UInt8)))) else (some false)) = some r := H
          have A8 := Aside0.mk A80
          clear A80
          by_cases c9 : t106.toList = ([61, 63, 117, 116, 102, 45, 56, 63, 66, 63, 119, 54, 107, 61, 63, 61] : List UInt8)
          · rw [if_pos c9] at H
            have c9b0 : (t106.toList == ([61, 63, 117, 116, 102, 45, 56, 63, 66, 63, 119, 54, 107, 61, 63, 61] : List UInt8)) = true := beq_iff_eq.mpr c9
            have c9b1 : (t106.toList != ([61, 63, 117, 116, 102, 45, 56, 63, 66, 63, 119, 54, 107, 61, 63, 61] : List UInt8)) = false := bne_eq_false_iff_eq.mpr c9
            clear c9
            replace H := Option.bind_eq_some_iff.mp H
            obtain ⟨t107, A100, H⟩ := H
            replace H : (some (t107.toList == ([97, 32, 98] : List UInt8))) = some r := H
            have A10 := Aside0.mk A100
            clear A100
            obtain rfl := Option.some.inj H
            go_enter Tryd.func10, Tryd.ntmps10
            go_wp2_with (first | ((with_reducible refine gate_callee (f := 11) rfl ?_); refine goesL_ (some 6) rfl rfl Tryd.func11 (by kernel_rfl) rfl #[.string (⟨#[61, 63, 108, 97, 116, 105, 110, 49, 42, 101, 110, 63, 81, 63, 99, 97, 102, 61, 69, 57, 95, 120, 63, 61, 121]⟩ : ByteArray)] rfl (by (try simp only [List.map_toArray, List.map_cons, List.map_nil]); first | done | rfl | (simp only [List.length_drop, List.length_take]; rfl)) ?_; (with_reducible refine (word_One.calls (⟨#[61, 63, 108, 97, 116, 105, 110, 49, 42, 101, 110, 63, 81, 63, 99, 97, 102, 61, 69, 57, 95, 120, 63, 61, 121]⟩ : ByteArray) t101 t102 _ ?sideGl A1.out).mono ?_); (case sideGl => exact HGl.out.below (by repeat (first | (with_reducible first | exact HB.out | apply below_alloc | apply pw_below_drewN | apply below_drew1) | exact HB.out))); rintro e w11 ⟨rfl, hb⟩; refine ⟨_, rfl, ?_⟩; have n0_ := Aside0.mk (below_step (by repeat (first | (with_reducible first | exact HB.out | apply below_alloc | apply pw_below_drewN | apply below_drew1) | exact HB.out)) hb); clear HB; have HB := n0_; clear n0_; (try clear hb); (try clear hb2); (try clear hk); (try clear hi)) | ((with_reducible refine gate_callee (f := 11) rfl ?_); refine goesL_ (some 10) rfl rfl Tryd.func11 (by kernel_rfl) rfl #[.string (⟨#[61, 63, 120, 63, 81, 63, 97, 63, 61]⟩ : ByteArray)] rfl (by (try simp only [List.map_toArray, List.map_cons, List.map_nil]); first | done | rfl | (simp only [List.length_drop, List.length_take]; rfl)) ?_; (with_reducible refine (word_One.calls (⟨#[61, 63, 120, 63, 81, 63, 97, 63, 61]⟩ : ByteArray) t103 t104 _ ?sideGl A2.out).mono ?_); (case sideGl => exact HGl.out.below (by repeat (first | (with_reducible first | exact HB.out | apply below_alloc | apply pw_below_drewN | apply below_drew1) | exact HB.out))); rintro e w12 ⟨rfl, hb⟩; refine ⟨_, rfl, ?_⟩; have n0_ := Aside0.mk (below_step (by repeat (first | (with_reducible first | exact HB.out | apply below_alloc | apply pw_below_drewN | apply below_drew1) | exact HB.out)) hb); clear HB; have HB := n0_; clear n0_; (try clear hb); (try clear hb2); (try clear hk); (try clear hi)) | (go_at_call 13; (with_reducible refine (word_Decode.calls (⟨#[97, 32, 61, 63, 117, 116, 102, 45, 56, 63, 66, 63, 83, 71, 107, 61, 63, 61, 32, 10, 32, 61, 63, 97, 115, 99, 105, 105, 63, 113, 63, 33, 63, 61, 32, 98]⟩ : ByteArray) t105 _ ?sideGl A6.out).mono ?_); (case sideGl => exact HGl.out.below (by repeat (first | (with_reducible first | exact HB.out | apply below_alloc | apply pw_below_drewN | apply below_drew1) | exact HB.out))); rintro e w13 ⟨rfl, hb⟩; have n0_ := Aside0.mk (below_step (by repeat (first | (with_reducible first | exact HB.out | apply below_alloc | apply pw_below_drewN | apply below_drew1) | exact HB.out)) hb); clear HB; have HB := n0_; clear n0_; (try clear hb); (try clear hb2); (try clear hk); (try clear hi)) | (go_at_call 15; (with_reducible refine (word_Encode.calls (⟨#[195, 169]⟩ : ByteArray) t106 _ ?sideGl A8.out).mono ?_); (case sideGl => exact HGl.out.below (by repeat (first | (with_reducible first | exact HB.out | apply below_alloc | apply pw_below_drewN | apply below_drew1) | exact HB.out))); rintro e w14 ⟨rfl, hb⟩; have n0_ := Aside0.mk (below_step (by repeat (first | (with_reducible first | exact HB.out | apply below_alloc | apply pw_below_drewN | apply below_drew1) | exact HB.out)) hb); clear HB; have HB := n0_; clear n0_; (try clear hb); (try clear hb2); (try clear hk); (try clear hi)) | (go_at_call 15; (with_reducible refine (word_Encode.calls (⟨#[97, 32, 98]⟩ : ByteArray) t107 _ ?sideGl A10.out).mono ?_); (case sideGl => exact HGl.out.below (by repeat (first | (with_reducible first | exact HB.out | apply below_alloc | apply pw_below_drewN | apply below_drew1) | exact HB.out))); rintro e w15 ⟨rfl, hb⟩; have n0_ := Aside0.mk (below_step (by repeat (first | (with_reducible first | exact HB.out | apply below_alloc | apply pw_below_drewN | apply below_drew1) | exact HB.out)) hb); clear HB; have HB := n0_; clear n0_; (try clear hb); (try clear hb2); (try clear hk); (try clear hi)))
            go_ret
            exact ⟨by first | rfl | (simp [errW_none, errW_some] <;> rfl) | (simp [*, errW_none, errW_some] <;> rfl), by repeat (first | (with_reducible first | exact HB.out | apply below_alloc | apply pw_below_drewN | apply below_drew1) | exact HB.out)⟩
          · rw [if_neg c9] at H
            have c9b0 : (t106.toList == ([61, 63, 117, 116, 102, 45, 56, 63, 66, 63, 119, 54, 107, 61, 63, 61] : List UInt8)) = false := beq_eq_false_iff_ne.mpr c9
            have c9b1 : (t106.toList != ([61, 63, 117, 116, 102, 45, 56, 63, 66, 63, 119, 54, 107, 61, 63, 61] : List UInt8)) = true := bne_iff_ne.mpr c9
            obtain rfl := Option.some.inj H
            go_enter Tryd.func10, Tryd.ntmps10
            go_wp2_with (first | ((with_reducible refine gate_callee (f := 11) rfl ?_); refine goesL_ (some 6) rfl rfl Tryd.func11 (by kernel_rfl) rfl #[.string (⟨#[61, 63, 108, 97, 116, 105, 110, 49, 42, 101, 110, 63, 81, 63, 99, 97, 102, 61, 69, 57, 95, 120, 63, 61, 121]⟩ : ByteArray)] rfl (by (try simp only [List.map_toArray, List.map_cons, List.map_nil]); first | done | rfl | (simp only [List.length_drop, List.length_take]; rfl)) ?_; (with_reducible refine (word_One.calls (⟨#[61, 63, 108, 97, 116, 105, 110, 49, 42, 101, 110, 63, 81, 63, 99, 97, 102, 61, 69, 57, 95, 120, 63, 61, 121]⟩ : ByteArray) t101 t102 _ ?sideGl A1.out).mono ?_); (case sideGl => exact HGl.out.below (by repeat (first | (with_reducible first | exact HB.out | apply below_alloc | apply pw_below_drewN | apply below_drew1) | exact HB.out))); rintro e w16 ⟨rfl, hb⟩; refine ⟨_, rfl, ?_⟩; have n0_ := Aside0.mk (below_step (by repeat (first | (with_reducible first | exact HB.out | apply below_alloc | apply pw_below_drewN | apply below_drew1) | exact HB.out)) hb); clear HB; have HB := n0_; clear n0_; (try clear hb); (try clear hb2); (try clear hk); (try clear hi)) | ((with_reducible refine gate_callee (f := 11) rfl ?_); refine goesL_ (some 10) rfl rfl Tryd.func11 (by kernel_rfl) rfl #[.string (⟨#[61, 63, 120, 63, 81, 63, 97, 63, 61]⟩ : ByteArray)] rfl (by (try simp only [List.map_toArray, List.map_cons, List.map_nil]); first | done | rfl | (simp only [List.length_drop, List.length_take]; rfl)) ?_; (with_reducible refine (word_One.calls (⟨#[61, 63, 120, 63, 81, 63, 97, 63, 61]⟩ : ByteArray) t103 t104 _ ?sideGl A2.out).mono ?_); (case sideGl => exact HGl.out.below (by repeat (first | (with_reducible first | exact HB.out | apply below_alloc | apply pw_below_drewN | apply below_drew1) | exact HB.out))); rintro e w17 ⟨rfl, hb⟩; refine ⟨_, rfl, ?_⟩; have n0_ := Aside0.mk (below_step (by repeat (first | (with_reducible first | exact HB.out | apply below_alloc | apply pw_below_drewN | apply below_drew1) | exact HB.out)) hb); clear HB; have HB := n0_; clear n0_; (try clear hb); (try clear hb2); (try clear hk); (try clear hi)) | (go_at_call 13; (with_reducible refine (word_Decode.calls (⟨#[97, 32, 61, 63, 117, 116, 102, 45, 56, 63, 66, 63, 83, 71, 107, 61, 63, 61, 32, 10, 32, 61, 63, 97, 115, 99, 105, 105, 63, 113, 63, 33, 63, 61, 32, 98]⟩ : ByteArray) t105 _ ?sideGl A6.out).mono ?_); (case sideGl => exact HGl.out.below (by repeat (first | (with_reducible first | exact HB.out | apply below_alloc | apply pw_below_drewN | apply below_drew1) | exact HB.out))); rintro e w18 ⟨rfl, hb⟩; have n0_ := Aside0.mk (below_step (by repeat (first | (with_reducible first | exact HB.out | apply below_alloc | apply pw_below_drewN | apply below_drew1) | exact HB.out)) hb); clear HB; have HB := n0_; clear n0_; (try clear hb); (try clear hb2); (try clear hk); (try clear hi)) | (go_at_call 15; (with_reducible refine (word_Encode.calls (⟨#[195, 169]⟩ : ByteArray) t106 _ ?sideGl A8.out).mono ?_); (case sideGl => exact HGl.out.below (by repeat (first | (with_reducible first | exact HB.out | apply below_alloc | apply pw_below_drewN | apply below_drew1) | exact HB.out))); rintro e w19 ⟨rfl, hb⟩; have n0_ := Aside0.mk (below_step (by repeat (first | (with_reducible first | exact HB.out | apply below_alloc | apply pw_below_drewN | apply below_drew1) | exact HB.out)) hb); clear HB; have HB := n0_; clear n0_; (try clear hb); (try clear hb2); (try clear hk); (try clear hi)))
            go_ret
            exact ⟨by first | rfl | (simp [errW_none, errW_some] <;> rfl) | (simp [*, errW_none, errW_some] <;> rfl), by repeat (first | (with_reducible first | exact HB.out | apply below_alloc | apply pw_below_drewN | apply below_drew1) | exact HB.out)⟩
        · rw [if_neg c7] at H
          have c7b0 : (t105.toList == ([97, 32, 72, 105, 33, 32, 98] : List UInt8)) = false := beq_eq_false_iff_ne.mpr c7
          have c7b1 : (t105.toList != ([97, 32, 72, 105, 33, 32, 98] : List UInt8)) = true := bne_iff_ne.mpr c7
          obtain rfl := Option.some.inj H
          go_enter Tryd.func10, Tryd.ntmps10
          go_wp2_with (first | ((with_reducible refine gate_callee (f := 11) rfl ?_); refine goesL_ (some 6) rfl rfl Tryd.func11 (by kernel_rfl) rfl #[.string (⟨#[61, 63, 108, 97, 116, 105, 110, 49, 42, 101, 110, 63, 81, 63, 99, 97, 102, 61, 69, 57, 95, 120, 63, 61, 121]⟩ : ByteArray)] rfl (by (try simp only [List.map_toArray, List.map_cons, List.map_nil]); first | done | rfl | (simp only [List.length_drop, List.length_take]; rfl)) ?_; (with_reducible refine (word_One.calls (⟨#[61, 63, 108, 97, 116, 105, 110, 49, 42, 101, 110, 63, 81, 63, 99, 97, 102, 61, 69, 57, 95, 120, 63, 61, 121]⟩ : ByteArray) t101 t102 _ ?sideGl A1.out).mono ?_); (case sideGl => exact HGl.out.below (by repeat (first | (with_reducible first | exact HB.out | apply below_alloc | apply pw_below_drewN | apply below_drew1) | exact HB.out))); rintro e w20 ⟨rfl, hb⟩; refine ⟨_, rfl, ?_⟩; have n0_ := Aside0.mk (below_step (by repeat (first | (with_reducible first | exact HB.out | apply below_alloc | apply pw_below_drewN | apply below_drew1) | exact HB.out)) hb); clear HB; have HB := n0_; clear n0_; (try clear hb); (try clear hb2); (try clear hk); (try clear hi)) | ((with_reducible refine gate_callee (f := 11) rfl ?_); refine goesL_ (some 10) rfl rfl Tryd.func11 (by kernel_rfl) rfl #[.string (⟨#[61, 63, 120, 63, 81, 63, 97, 63, 61]⟩ : ByteArray)] rfl (by (try simp only [List.map_toArray, List.map_cons, List.map_nil]); first | done | rfl | (simp only [List.length_drop, List.length_take]; rfl)) ?_; (with_reducible refine (word_One.calls (⟨#[61, 63, 120, 63, 81, 63, 97, 63, 61]⟩ : ByteArray) t103 t104 _ ?sideGl A2.out).mono ?_); (case sideGl => exact HGl.out.below (by repeat (first | (with_reducible first | exact HB.out | apply below_alloc | apply pw_below_drewN | apply below_drew1) | exact HB.out))); rintro e w21 ⟨rfl, hb⟩; refine ⟨_, rfl, ?_⟩; have n0_ := Aside0.mk (below_step (by repeat (first | (with_reducible first | exact HB.out | apply below_alloc | apply pw_below_drewN | apply below_drew1) | exact HB.out)) hb); clear HB; have HB := n0_; clear n0_; (try clear hb); (try clear hb2); (try clear hk); (try clear hi)) | (go_at_call 13; (with_reducible refine (word_Decode.calls (⟨#[97, 32, 61, 63, 117, 116, 102, 45, 56, 63, 66, 63, 83, 71, 107, 61, 63, 61, 32, 10, 32, 61, 63, 97, 115, 99, 105, 105, 63, 113, 63, 33, 63, 61, 32, 98]⟩ : ByteArray) t105 _ ?sideGl A6.out).mono ?_); (case sideGl => exact HGl.out.below (by repeat (first | (with_reducible first | exact HB.out | apply below_alloc | apply pw_below_drewN | apply below_drew1) | exact HB.out))); rintro e w22 ⟨rfl, hb⟩; have n0_ := Aside0.mk (below_step (by repeat (first | (with_reducible first | exact HB.out | apply below_alloc | apply pw_below_drewN | apply below_drew1) | exact HB.out)) hb); clear HB; have HB := n0_; clear n0_; (try clear hb); (try clear hb2); (try clear hk); (try clear hi)))
          go_ret
          exact ⟨by first | rfl | (simp [errW_none, errW_some] <;> rfl) | (simp [*, errW_none, errW_some] <;> rfl), by repeat (first | (with_reducible first | exact HB.out | apply below_alloc | apply pw_below_drewN | apply below_drew1) | exact HB.out)⟩
      · rw [if_neg c5] at H
        have c5b0 : (t104 == 0) = false := beq_eq_false_iff_ne.mpr c5
        have c5b1 : (t104 != 0) = true := bne_iff_ne.mpr c5
        obtain rfl := Option.some.inj H
        go_enter Tryd.func10, Tryd.ntmps10
        go_wp2_with (first | ((with_reducible refine gate_callee (f := 11) rfl ?_); refine goesL_ (some 6) rfl rfl Tryd.func11 (by kernel_rfl) rfl #[.string (⟨#[61, 63, 108, 97, 116, 105, 110, 49, 42, 101, 110, 63, 81, 63, 99, 97, 102, 61, 69, 57, 95, 120, 63, 61, 121]⟩ : ByteArray)] rfl (by (try simp only [List.map_toArray, List.map_cons, List.map_nil]); first | done | rfl | (simp only [List.length_drop, List.length_take]; rfl)) ?_; (with_reducible refine (word_One.calls (⟨#[61, 63, 108, 97, 116, 105, 110, 49, 42, 101, 110, 63, 81, 63, 99, 97, 102, 61, 69, 57, 95, 120, 63, 61, 121]⟩ : ByteArray) t101 t102 _ ?sideGl A1.out).mono ?_); (case sideGl => exact HGl.out.below (by repeat (first | (with_reducible first | exact HB.out | apply below_alloc | apply pw_below_drewN | apply below_drew1) | exact HB.out))); rintro e w23 ⟨rfl, hb⟩; refine ⟨_, rfl, ?_⟩; have n0_ := Aside0.mk (below_step (by repeat (first | (with_reducible first | exact HB.out | apply below_alloc | apply pw_below_drewN | apply below_drew1) | exact HB.out)) hb); clear HB; have HB := n0_; clear n0_; (try clear hb); (try clear hb2); (try clear hk); (try clear hi)) | ((with_reducible refine gate_callee (f := 11) rfl ?_); refine goesL_ (some 10) rfl rfl Tryd.func11 (by kernel_rfl) rfl #[.string (⟨#[61, 63, 120, 63, 81, 63, 97, 63, 61]⟩ : ByteArray)] rfl (by (try simp only [List.map_toArray, List.map_cons, List.map_nil]); first | done | rfl | (simp only [List.length_drop, List.length_take]; rfl)) ?_; (with_reducible refine (word_One.calls (⟨#[61, 63, 120, 63, 81, 63, 97, 63, 61]⟩ : ByteArray) t103 t104 _ ?sideGl A2.out).mono ?_); (case sideGl => exact HGl.out.below (by repeat (first | (with_reducible first | exact HB.out | apply below_alloc | apply pw_below_drewN | apply below_drew1) | exact HB.out))); rintro e w24 ⟨rfl, hb⟩; refine ⟨_, rfl, ?_⟩; have n0_ := Aside0.mk (below_step (by repeat (first | (with_reducible first | exact HB.out | apply below_alloc | apply pw_below_drewN | apply below_drew1) | exact HB.out)) hb); clear HB; have HB := n0_; clear n0_; (try clear hb); (try clear hb2); (try clear hk); (try clear hi)))
        go_ret
        exact ⟨by first | rfl | (simp [errW_none, errW_some] <;> rfl) | (simp [*, errW_none, errW_some] <;> rfl), by repeat (first | (with_reducible first | exact HB.out | apply below_alloc | apply pw_below_drewN | apply below_drew1) | exact HB.out)⟩
    · rw [if_neg c4] at H
      have c4b0 : (t102 == 24) = false := beq_eq_false_iff_ne.mpr c4
      have c4b1 : (t102 != 24) = true := bne_iff_ne.mpr c4
      obtain rfl := Option.some.inj H
      go_enter Tryd.func10, Tryd.ntmps10
      go_wp2_with (first | ((with_reducible refine gate_callee (f := 11) rfl ?_); refine goesL_ (some 6) rfl rfl Tryd.func11 (by kernel_rfl) rfl #[.string (⟨#[61, 63, 108, 97, 116, 105, 110, 49, 42, 101, 110, 63, 81, 63, 99, 97, 102, 61, 69, 57, 95, 120, 63, 61, 121]⟩ : ByteArray)] rfl (by (try simp only [List.map_toArray, List.map_cons, List.map_nil]); first | done | rfl | (simp only [List.length_drop, List.length_take]; rfl)) ?_; (with_reducible refine (word_One.calls (⟨#[61, 63, 108, 97, 116, 105, 110, 49, 42, 101, 110, 63, 81, 63, 99, 97, 102, 61, 69, 57, 95, 120, 63, 61, 121]⟩ : ByteArray) t101 t102 _ ?sideGl A1.out).mono ?_); (case sideGl => exact HGl.out.below (by repeat (first | (with_reducible first | exact HB.out | apply below_alloc | apply pw_below_drewN | apply below_drew1) | exact HB.out))); rintro e w25 ⟨rfl, hb⟩; refine ⟨_, rfl, ?_⟩; have n0_ := Aside0.mk (below_step (by repeat (first | (with_reducible first | exact HB.out | apply below_alloc | apply pw_below_drewN | apply below_drew1) | exact HB.out)) hb); clear HB; have HB := n0_; clear n0_; (try clear hb); (try clear hb2); (try clear hk); (try clear hi)) | ((with_reducible refine gate_callee (f := 11) rfl ?_); refine goesL_ (some 10) rfl rfl Tryd.func11 (by kernel_rfl) rfl #[.string (⟨#[61, 63, 120, 63, 81, 63, 97, 63, 61]⟩ : ByteArray)] rfl (by (try simp only [List.map_toArray, List.map_cons, List.map_nil]); first | done | rfl | (simp only [List.length_drop, List.length_take]; rfl)) ?_; (with_reducible refine (word_One.calls (⟨#[61, 63, 120, 63, 81, 63, 97, 63, 61]⟩ : ByteArray) t103 t104 _ ?sideGl A2.out).mono ?_); (case sideGl => exact HGl.out.below (by repeat (first | (with_reducible first | exact HB.out | apply below_alloc | apply pw_below_drewN | apply below_drew1) | exact HB.out))); rintro e w26 ⟨rfl, hb⟩; refine ⟨_, rfl, ?_⟩; have n0_ := Aside0.mk (below_step (by repeat (first | (with_reducible first | exact HB.out | apply below_alloc | apply pw_below_drewN | apply below_drew1) | exact HB.out)) hb); clear HB; have HB := n0_; clear n0_; (try clear hb); (try clear hb2); (try clear hk); (try clear hi)))
      go_ret
      exact ⟨by first | rfl | (simp [errW_none, errW_some] <;> rfl) | (simp [*, errW_none, errW_some] <;> rfl), by repeat (first | (with_reducible first | exact HB.out | apply below_alloc | apply pw_below_drewN | apply below_drew1) | exact HB.out)⟩
  · rw [if_neg c3] at H
    have c3b0 : (t101.toList == ([99, 97, 102, 195, 169, 32, 120] : List UInt8)) = false := beq_eq_false_iff_ne.mpr c3
    have c3b1 : (t101.toList != ([99, 97, 102, 195, 169, 32, 120] : List UInt8)) = true := bne_iff_ne.mpr c3
    obtain rfl := Option.some.inj H
    go_enter Tryd.func10, Tryd.ntmps10
    go_wp2_with (first | ((with_reducible refine gate_callee (f := 11) rfl ?_); refine goesL_ (some 6) rfl rfl Tryd.func11 (by kernel_rfl) rfl #[.string (⟨#[61, 63, 108, 97, 116, 105, 110, 49, 42, 101, 110, 63, 81, 63, 99, 97, 102, 61, 69, 57, 95, 120, 63, 61, 121]⟩ : ByteArray)] rfl (by (try simp only [List.map_toArray, List.map_cons, List.map_nil]); first | done | rfl | (simp only [List.length_drop, List.length_take]; rfl)) ?_; (with_reducible refine (word_One.calls (⟨#[61, 63, 108, 97, 116, 105, 110, 49, 42, 101, 110, 63, 81, 63, 99, 97, 102, 61, 69, 57, 95, 120, 63, 61, 121]⟩ : ByteArray) t101 t102 _ ?sideGl A1.out).mono ?_); (case sideGl => exact HGl.out.below (by repeat (first | (with_reducible first | exact HB.out | apply below_alloc | apply pw_below_drewN | apply below_drew1) | exact HB.out))); rintro e w27 ⟨rfl, hb⟩; refine ⟨_, rfl, ?_⟩; have n0_ := Aside0.mk (below_step (by repeat (first | (with_reducible first | exact HB.out | apply below_alloc | apply pw_below_drewN | apply below_drew1) | exact HB.out)) hb); clear HB; have HB := n0_; clear n0_; (try clear hb); (try clear hb2); (try clear hk); (try clear hi)) | ((with_reducible refine gate_callee (f := 11) rfl ?_); refine goesL_ (some 10) rfl rfl Tryd.func11 (by kernel_rfl) rfl #[.string (⟨#[61, 63, 120, 63, 81, 63, 97, 63, 61]⟩ : ByteArray)] rfl (by (try simp only [List.map_toArray, List.map_cons, List.map_nil]); first | done | rfl | (simp only [List.length_drop, List.length_take]; rfl)) ?_; (with_reducible refine (word_One.calls (⟨#[61, 63, 120, 63, 81, 63, 97, 63, 61]⟩ : ByteArray) t103 t104 _ ?sideGl A2.out).mono ?_); (case sideGl => exact HGl.out.below (by repeat (first | (with_reducible first | exact HB.out | apply below_alloc | apply pw_below_drewN | apply below_drew1) | exact HB.out))); rintro e w28 ⟨rfl, hb⟩; refine ⟨_, rfl, ?_⟩; have n0_ := Aside0.mk (below_step (by repeat (first | (with_reducible first | exact HB.out | apply below_alloc | apply pw_below_drewN | apply below_drew1) | exact HB.out)) hb); clear HB; have HB := n0_; clear n0_; (try clear hb); (try clear hb2); (try clear hk); (try clear hi)))
    go_ret
    exact ⟨by first | rfl | (simp [errW_none, errW_some] <;> rfl) | (simp [*, errW_none, errW_some] <;> rfl), by repeat (first | (with_reducible first | exact HB.out | apply below_alloc | apply pw_below_drewN | apply below_drew1) | exact HB.out)⟩
def muslinref05_White.f (a0 : Int) : Option (Bool) := if a0 = 32 then (some true) else (if a0 = 9 then (some true) else (if a0 = 10 then (some true) else (some (a0 == 13))))
set_option maxHeartbeats 8000000 in
set_option maxRecDepth 100000 in
theorem muslinref05_White.calls (a0 : Int) (r : Bool) (w : World) (h : muslinref05_White.f a0 = some r) :
    Calls Tryd.prog 35 #[.int .u8 a0] w fun e w' => e = .returned (.bool r) ∧ Drawn0 w w' := by
  have H : (if a0 = 32 then (some true) else (if a0 = 9 then (some true) else (if a0 = 10 then (some true) else (some (a0 == 13))))) = some r := h
  clear h
  by_cases c2 : a0 = 32
  · rw [if_pos c2] at H
    have c2b0 : (a0 == 32) = true := beq_iff_eq.mpr c2
    have c2b1 : (a0 != 32) = false := bne_eq_false_iff_eq.mpr c2
    clear c2
    obtain rfl := Option.some.inj H
    go_enter Tryd.func35, Tryd.ntmps35
    go_wp2
    go_ret
    exact ⟨by first | rfl | (simp; done) | (simp [*]; done), by repeat (first | exact Drawn0.refl _ | apply Drawn0.step)⟩
  · rw [if_neg c2] at H
    have c2b0 : (a0 == 32) = false := beq_eq_false_iff_ne.mpr c2
    have c2b1 : (a0 != 32) = true := bne_iff_ne.mpr c2
    by_cases c3 : a0 = 9
    · rw [if_pos c3] at H
      have c3b0 : (a0 == 9) = true := beq_iff_eq.mpr c3
      have c3b1 : (a0 != 9) = false := bne_eq_false_iff_eq.mpr c3
      clear c3
      obtain rfl := Option.some.inj H
      go_enter Tryd.func35, Tryd.ntmps35
      go_wp2
      go_ret
      exact ⟨by first | rfl | (simp; done) | (simp [*]; done), by repeat (first | exact Drawn0.refl _ | apply Drawn0.step)⟩
    · rw [if_neg c3] at H
      have c3b0 : (a0 == 9) = false := beq_eq_false_iff_ne.mpr c3
      have c3b1 : (a0 != 9) = true := bne_iff_ne.mpr c3
      by_cases c4 : a0 = 10
      · rw [if_pos c4] at H
        have c4b0 : (a0 == 10) = true := beq_iff_eq.mpr c4
        have c4b1 : (a0 != 10) = false := bne_eq_false_iff_eq.mpr c4
        clear c4
        obtain rfl := Option.some.inj H
        go_enter Tryd.func35, Tryd.ntmps35
        go_wp2
        go_ret
        exact ⟨by first | rfl | (simp; done) | (simp [*]; done), by repeat (first | exact Drawn0.refl _ | apply Drawn0.step)⟩
      · rw [if_neg c4] at H
        have c4b0 : (a0 == 10) = false := beq_eq_false_iff_ne.mpr c4
        have c4b1 : (a0 != 10) = true := bne_iff_ne.mpr c4
        obtain rfl := Option.some.inj H
        go_enter Tryd.func35, Tryd.ntmps35
        go_wp2
        go_ret
        exact ⟨by first | rfl | (simp; done) | (simp [*]; done), by repeat (first | exact Drawn0.refl _ | apply Drawn0.step)⟩
mutual
def muslinref05_until.l0 : Nat → ByteArray → Int → Option (Int)
  | 0, _, _ => none
  | k + 1, x0, x1 => if x1 < (x0.size : Int) then (if 0 ≤ x1 then ((muslinref05_White.f (bt x0 x1)).bind fun t108 => (muslinref05_until.j1 k x0 x1 (!t108))) else (none)) else (muslinref05_until.j1 k x0 x1 false)
def muslinref05_until.j1 : Nat → ByteArray → Int → Bool → Option (Int)
  | 0, _, _, _ => none
  | k + 1, x0, x1, x15 => if x15 = true then (if 0 ≤ x1 then (if x1 < (x0.size : Int) then (if (bt x0 x1) = 63 then (some x1) else (muslinref05_until.l0 k x0 (wrap64 (x1 + 1)))) else (none)) else (none)) else (some (-1))
end
def muslinref05_until.f (k : Nat) (a0 : ByteArray) (a1 : Int) : Option (Int) := muslinref05_until.l0 k a0 a1
set_option maxHeartbeats 8000000 in
set_option maxRecDepth 100000 in
theorem muslinref05_until.calls (k : Nat) (a0 : ByteArray) (a1 : Int) (r : Int) (w : World) (h : muslinref05_until.f k a0 a1 = some r) :
    Calls Tryd.prog 26 #[.string a0, .int .i64 a1] w fun e w' => e = .returned (.int .i64 r) ∧ Drawn0 w w' := by
  have H : (muslinref05_until.l0 k a0 a1) = some r := h
  clear h
  have H' := Aside0.mk H
  clear H
  go_enter Tryd.func26, Tryd.ntmps26
  go_wp2
  go_loopg [1] k (fun kq v1 w' => ∃ (x1_1 : Int), v1 = .int .i64 x1_1 ∧ Aside0 (muslinref05_until.l0 kq a0 x1_1 = some r) ∧ Aside0 (kq ≤ k) ∧ Drawn0 w w')
  case atStart => exact ⟨(a1), (by first | rfl | (simp; done) | (simp [*]; done)), H', ⟨Nat.le_refl _⟩, by repeat (first | exact Drawn0.refl _ | apply Drawn0.step)⟩
  case round =>
    clear H'
    try clear c2
    try clear p2
    obtain ⟨x1_1, rfl, HA, HK1, ⟨m1, rfl⟩⟩ := hrel
    cases gk with
    | zero => exact absurd HA.out (by simp [muslinref05_until.l0])
    | succ k1 =>
      have H := HA.out
      clear HA
      simp only [muslinref05_until.l0] at H
      have HC3 := Aside0.mk H
      clear H
      go_upto_region 1 with (fail)
      go_cut [15] (fun v15 wc => ∃ (kq : Nat) (x15_2 : Bool), v15 = .bool x15_2 ∧ Aside0 (muslinref05_until.j1 kq a0 x1_1 x15_2 = some r) ∧ Aside0 (kq ≤ k1) ∧ Drawn0 w wc)
      case first =>
        have H := HC3.out
        clear HC3
        by_cases c4 : x1_1 < (a0.size : Int)
        · rw [if_pos c4] at H
          have c4b0 : decide (x1_1 < (a0.size : Int)) = true := decide_eq_true c4
          clear c4
          (first | rw [c4b0] | (simp only [i64_w, i32_w]; rw [c4b0]) | skip)
          by_cases c5 : 0 ≤ x1_1
          · rw [if_pos c5] at H
            have c5b0 : decide (0 ≤ x1_1) = true := decide_eq_true c5
            clear c5
            replace H := Option.bind_eq_some_iff.mp H
            obtain ⟨t108, A70, H⟩ := H
            replace H : (muslinref05_until.j1 k1 a0 x1_1 (!t108)) = some r := H
            have A7 := Aside0.mk A70
            clear A70
            have H' := Aside0.mk H
            clear H
            have p6 : 0 ≤ (x1_1 : Int) := of_decide_eq_true (by first | (with_reducible assumption) | assumption)
            have q6 : x1_1 < (a0.size : Int) := of_decide_eq_true (by first | (with_reducible assumption) | assumption)
            have hx6 := bt_at a0 x1_1
            replace p6 := eq_true p6
            replace q6 := eq_true q6
            go_wp2_with (first | (go_at_call 35; (with_reducible refine (muslinref05_White.calls (bt a0 x1_1) t108 _ A7.out).mono ?_); rintro e w' ⟨rfl, ⟨nd, rfl⟩⟩))
            go_meet
            case rel => exact ⟨_, (!t108), (by first | rfl | (simp; done) | (simp [*]; done)), H', ⟨by have := HK1.out; first | omega | exact Nat.le_refl _⟩, by repeat (first | exact Drawn0.refl _ | apply Drawn0.step)⟩
          · rw [if_neg c5] at H
            exact absurd H (by simp)
        · rw [if_neg c4] at H
          have c4b0 : decide (x1_1 < (a0.size : Int)) = false := decide_eq_false c4
          clear c4
          (first | rw [c4b0] | (simp only [i64_w, i32_w]; rw [c4b0]) | skip)
          have H' := Aside0.mk H
          clear H
          go_wp2
          go_meet
          case rel => exact ⟨_, (false), (by first | rfl | (simp; done) | (simp [*]; done)), H', ⟨by have := HK1.out; first | omega | exact Nat.le_refl _⟩, by repeat (first | exact Drawn0.refl _ | apply Drawn0.step)⟩
      case rest =>
        clear HC3
        try clear c2
        try clear p2
        try clear c4
        try clear c4b0
        try clear c5
        try clear c5b0
        try clear p6
        try clear q6
        try clear hx6
        try clear p2
        try clear p6
        try clear q6
        obtain ⟨kq, x15_2, rfl, HA, HJ2, ⟨mc2, rfl⟩⟩ := hcut
        cases kq with
        | zero => exact absurd HA.out (by simp [muslinref05_until.j1])
        | succ kj2 =>
          have H := HA.out
          clear HA
          simp only [muslinref05_until.j1] at H
          by_cases c8 : x15_2 = true
          · subst c8
            have H1 : (if 0 ≤ x1_1 then (if x1_1 < (a0.size : Int) then (if (bt a0 x1_1) = 63 then (some x1_1) else (muslinref05_until.l0 kj2 a0 (wrap64 (x1_1 + 1)))) else (none)) else (none)) = some r := by rw [if_pos rfl] at H; exact H
            clear H
            have H := H1
            clear H1
            by_cases c9 : 0 ≤ x1_1
            · rw [if_pos c9] at H
              have c9b0 : decide (0 ≤ x1_1) = true := decide_eq_true c9
              clear c9
              by_cases c10 : x1_1 < (a0.size : Int)
              · rw [if_pos c10] at H
                have c10b0 : decide (x1_1 < (a0.size : Int)) = true := decide_eq_true c10
                clear c10
                by_cases c12 : (bt a0 x1_1) = 63
                · rw [if_pos c12] at H
                  have c12b0 : ((bt a0 x1_1) == 63) = true := beq_iff_eq.mpr c12
                  have c12b1 : ((bt a0 x1_1) != 63) = false := bne_eq_false_iff_eq.mpr c12
                  clear c12
                  obtain rfl := Option.some.inj H
                  have p11 : 0 ≤ (x1_1 : Int) := of_decide_eq_true (by first | (with_reducible assumption) | assumption)
                  have q11 : x1_1 < (a0.size : Int) := of_decide_eq_true (by first | (with_reducible assumption) | assumption)
                  have hx11 := bt_at a0 x1_1
                  replace p11 := eq_true p11
                  replace q11 := eq_true q11
                  go_wp2
                  go_ret
                  exact ⟨by first | rfl | (simp; done) | (simp [*]; done), by repeat (first | exact Drawn0.refl _ | apply Drawn0.step)⟩
                · rw [if_neg c12] at H
                  have c12b0 : ((bt a0 x1_1) == 63) = false := beq_eq_false_iff_ne.mpr c12
                  have c12b1 : ((bt a0 x1_1) != 63) = true := bne_iff_ne.mpr c12
                  have H' := Aside0.mk H
                  clear H
                  have p11 : 0 ≤ (x1_1 : Int) := of_decide_eq_true (by first | (with_reducible assumption) | assumption)
                  have q11 : x1_1 < (a0.size : Int) := of_decide_eq_true (by first | (with_reducible assumption) | assumption)
                  have hx11 := bt_at a0 x1_1
                  replace p11 := eq_true p11
                  replace q11 := eq_true q11
                  go_wp2
                  go_roundg kj2
                  case measure => have := HK1.out; have := HJ2.out; omega
                  case rel => exact ⟨(wrap64 (x1_1 + 1)), (by first | rfl | (simp; done) | (simp [*]; done)), H', ⟨by have := HK1.out; have := HJ2.out; omega⟩, by repeat (first | exact Drawn0.refl _ | apply Drawn0.step)⟩
              · rw [if_neg c10] at H
                exact absurd H (by simp)
            · rw [if_neg c9] at H
              exact absurd H (by simp)
          · replace c8 := Bool.eq_false_iff.mpr c8
            subst c8
            have H1 : (some (-1)) = some r := by rw [if_neg (show ¬ (false = true) by decide)] at H; exact H
            clear H
            have H := H1
            clear H1
            obtain rfl := Option.some.inj H
            go_wp2
            go_ret
            exact ⟨by first | rfl | (simp; done) | (simp [*]; done), by repeat (first | exact Drawn0.refl _ | apply Drawn0.step)⟩
def muslinref01_place.l0 : Nat → Int → Int → Option (Int)
  | 0, _, _ => none
  | k + 1, x0, x3 => if x3 < 64 then (if 0 ≤ x3 then (if (bt (⟨#[65, 66, 67, 68, 69, 70, 71, 72, 73, 74, 75, 76, 77, 78, 79, 80, 81, 82, 83, 84, 85, 86, 87, 88, 89, 90, 97, 98, 99, 100, 101, 102, 103, 104, 105, 106, 107, 108, 109, 110, 111, 112, 113, 114, 115, 116, 117, 118, 119, 120, 121, 122, 48, 49, 50, 51, 52, 53, 54, 55, 56, 57, 43, 47]⟩ : ByteArray) x3) = x0 then (some x3) else (muslinref01_place.l0 k x0 (wrap64 (x3 + 1)))) else (none)) else (some (-1))
def muslinref01_place.f (k : Nat) (a0 : Int) : Option (Int) := muslinref01_place.l0 k a0 0
theorem muslinref01_place.mono_l : ∀ k, (∀ y0 y1, LeO (muslinref01_place.l0 k y0 y1) (muslinref01_place.l0 (k + 1) y0 y1))
  | 0 => fun _ _ r h => by simp [muslinref01_place.l0] at h
  | k + 1 => by
    have ih0 := muslinref01_place.mono_l k
    · intro y0 y1
      unfold muslinref01_place.l0
      repeat' first
      | (with_reducible exact ih0 _ _)
      | (with_reducible exact LeO.refl _)
      | (with_reducible exact LeO.none _)
      | (with_reducible refine LeO.ite ?_ ?_)
      | (with_reducible refine LeO.bind ?_ (fun _ => ?_))
      | exact ih0 _ _
      | exact LeO.none _
      | refine LeO.ite ?_ ?_
      | refine LeO.bind ?_ (fun _ => ?_)
theorem muslinref01_place.mono : ∀ a0 k, LeO (muslinref01_place.f k a0) (muslinref01_place.f (k + 1) a0) := by
  intro a0 k
  have ih0 := muslinref01_place.mono_l k
  unfold muslinref01_place.f
  repeat' first
      | (with_reducible exact ih0 _ _)
      | (with_reducible exact LeO.refl _)
      | (with_reducible exact LeO.none _)
      | (with_reducible refine LeO.ite ?_ ?_)
      | (with_reducible refine LeO.bind ?_ (fun _ => ?_))
      | exact ih0 _ _
      | exact LeO.none _
      | refine LeO.ite ?_ ?_
      | refine LeO.bind ?_ (fun _ => ?_)
set_option maxHeartbeats 8000000 in
set_option maxRecDepth 100000 in
theorem muslinref01_place.calls (k : Nat) (a0 : Int) (r : Int) (w : World) (h : muslinref01_place.f k a0 = some r) :
    Calls Tryd.prog 57 #[.int .u8 a0] w fun e w' => e = .returned (.int .i64 r) ∧ Drawn0 w w' := by
  have H : (muslinref01_place.l0 k a0 0) = some r := h
  clear h
  have H' := Aside0.mk H
  clear H
  go_enter Tryd.func57, Tryd.ntmps57
  go_wp2
  go_loopg [3] k (fun kq v3 w' => ∃ (x3_1 : Int), v3 = .int .i64 x3_1 ∧ Aside0 (muslinref01_place.l0 kq a0 x3_1 = some r) ∧ Aside0 (kq ≤ k) ∧ Drawn0 w w')
  case atStart => exact ⟨(0), (by first | rfl | (simp; done) | (simp [*]; done)), H', ⟨Nat.le_refl _⟩, by repeat (first | exact Drawn0.refl _ | apply Drawn0.step)⟩
  case round =>
    clear H'
    obtain ⟨x3_1, rfl, HA, HK1, ⟨m1, rfl⟩⟩ := hrel
    cases gk with
    | zero => exact absurd HA.out (by simp [muslinref01_place.l0])
    | succ k1 =>
      have H := HA.out
      clear HA
      simp only [muslinref01_place.l0] at H
      by_cases c2 : x3_1 < 64
      · rw [if_pos c2] at H
        have c2b0 : decide (x3_1 < 64) = true := decide_eq_true c2
        clear c2
        by_cases c3 : 0 ≤ x3_1
        · rw [if_pos c3] at H
          have c3b0 : decide (0 ≤ x3_1) = true := decide_eq_true c3
          clear c3
          by_cases c5 : (bt (⟨#[65, 66, 67, 68, 69, 70, 71, 72, 73, 74, 75, 76, 77, 78, 79, 80, 81, 82, 83, 84, 85, 86, 87, 88, 89, 90, 97, 98, 99, 100, 101, 102, 103, 104, 105, 106, 107, 108, 109, 110, 111, 112, 113, 114, 115, 116, 117, 118, 119, 120, 121, 122, 48, 49, 50, 51, 52, 53, 54, 55, 56, 57, 43, 47]⟩ : ByteArray) x3_1) = a0
          · rw [if_pos c5] at H
            have c5b0 : ((bt (⟨#[65, 66, 67, 68, 69, 70, 71, 72, 73, 74, 75, 76, 77, 78, 79, 80, 81, 82, 83, 84, 85, 86, 87, 88, 89, 90, 97, 98, 99, 100, 101, 102, 103, 104, 105, 106, 107, 108, 109, 110, 111, 112, 113, 114, 115, 116, 117, 118, 119, 120, 121, 122, 48, 49, 50, 51, 52, 53, 54, 55, 56, 57, 43, 47]⟩ : ByteArray) x3_1) == a0) = true := beq_iff_eq.mpr c5
            have c5b1 : ((bt (⟨#[65, 66, 67, 68, 69, 70, 71, 72, 73, 74, 75, 76, 77, 78, 79, 80, 81, 82, 83, 84, 85, 86, 87, 88, 89, 90, 97, 98, 99, 100, 101, 102, 103, 104, 105, 106, 107, 108, 109, 110, 111, 112, 113, 114, 115, 116, 117, 118, 119, 120, 121, 122, 48, 49, 50, 51, 52, 53, 54, 55, 56, 57, 43, 47]⟩ : ByteArray) x3_1) != a0) = false := bne_eq_false_iff_eq.mpr c5
            clear c5
            obtain rfl := Option.some.inj H
            have p4 : 0 ≤ (x3_1 : Int) := of_decide_eq_true (by first | (with_reducible assumption) | assumption)
            have q4 : x3_1 < (64 : Int) := of_decide_eq_true (by first | (with_reducible assumption) | assumption)
            have hx4 := bt_at (⟨#[65, 66, 67, 68, 69, 70, 71, 72, 73, 74, 75, 76, 77, 78, 79, 80, 81, 82, 83, 84, 85, 86, 87, 88, 89, 90, 97, 98, 99, 100, 101, 102, 103, 104, 105, 106, 107, 108, 109, 110, 111, 112, 113, 114, 115, 116, 117, 118, 119, 120, 121, 122, 48, 49, 50, 51, 52, 53, 54, 55, 56, 57, 43, 47]⟩ : ByteArray) x3_1
            replace p4 := eq_true p4
            replace q4 := eq_true q4
            go_wp2
            go_ret
            exact ⟨by first | rfl | (simp; done) | (simp [*]; done), by repeat (first | exact Drawn0.refl _ | apply Drawn0.step)⟩
          · rw [if_neg c5] at H
            have c5b0 : ((bt (⟨#[65, 66, 67, 68, 69, 70, 71, 72, 73, 74, 75, 76, 77, 78, 79, 80, 81, 82, 83, 84, 85, 86, 87, 88, 89, 90, 97, 98, 99, 100, 101, 102, 103, 104, 105, 106, 107, 108, 109, 110, 111, 112, 113, 114, 115, 116, 117, 118, 119, 120, 121, 122, 48, 49, 50, 51, 52, 53, 54, 55, 56, 57, 43, 47]⟩ : ByteArray) x3_1) == a0) = false := beq_eq_false_iff_ne.mpr c5
            have c5b1 : ((bt (⟨#[65, 66, 67, 68, 69, 70, 71, 72, 73, 74, 75, 76, 77, 78, 79, 80, 81, 82, 83, 84, 85, 86, 87, 88, 89, 90, 97, 98, 99, 100, 101, 102, 103, 104, 105, 106, 107, 108, 109, 110, 111, 112, 113, 114, 115, 116, 117, 118, 119, 120, 121, 122, 48, 49, 50, 51, 52, 53, 54, 55, 56, 57, 43, 47]⟩ : ByteArray) x3_1) != a0) = true := bne_iff_ne.mpr c5
            have H' := Aside0.mk H
            clear H
            have p4 : 0 ≤ (x3_1 : Int) := of_decide_eq_true (by first | (with_reducible assumption) | assumption)
            have q4 : x3_1 < (64 : Int) := of_decide_eq_true (by first | (with_reducible assumption) | assumption)
            have hx4 := bt_at (⟨#[65, 66, 67, 68, 69, 70, 71, 72, 73, 74, 75, 76, 77, 78, 79, 80, 81, 82, 83, 84, 85, 86, 87, 88, 89, 90, 97, 98, 99, 100, 101, 102, 103, 104, 105, 106, 107, 108, 109, 110, 111, 112, 113, 114, 115, 116, 117, 118, 119, 120, 121, 122, 48, 49, 50, 51, 52, 53, 54, 55, 56, 57, 43, 47]⟩ : ByteArray) x3_1
            replace p4 := eq_true p4
            replace q4 := eq_true q4
            go_wp2
            go_roundg k1
            case measure => have := HK1.out; omega
            case rel => exact ⟨(wrap64 (x3_1 + 1)), (by first | rfl | (simp; done) | (simp [*]; done)), H', ⟨by have := HK1.out; omega⟩, by repeat (first | exact Drawn0.refl _ | apply Drawn0.step)⟩
        · rw [if_neg c3] at H
          exact absurd H (by simp)
      · rw [if_neg c2] at H
        have c2b0 : decide (x3_1 < 64) = false := decide_eq_false c2
        clear c2
        obtain rfl := Option.some.inj H
        go_wp2
        go_ret
        exact ⟨by first | rfl | (simp; done) | (simp [*]; done), by repeat (first | exact Drawn0.refl _ | apply Drawn0.step)⟩
mutual
def muslinref01_Decode.l0 : Nat → ByteArray → List Int → Int → Int → Int → Option (ByteArray)
  | 0, _, _, _, _, _ => none
  | k + 1, x0, x3, x4, x5, x6 => if x6 < (x0.size : Int) then (if 0 ≤ x6 then (muslinref01_Decode.j1 k x0 x3 x4 x5 x6 ((bt x0 x6) != 61)) else (none)) else (muslinref01_Decode.j1 k x0 x3 x4 x5 x6 false)
def muslinref01_Decode.j1 : Nat → ByteArray → List Int → Int → Int → Int → Bool → Option (ByteArray)
  | 0, _, _, _, _, _, _ => none
  | k + 1, x0, x3, x4, x5, x6, x17 => if x17 = true then (if 0 ≤ x6 then (if x6 < (x0.size : Int) then ((muslinref01_place.f k (bt x0 x6)).bind fun t109 => (if t109 < 0 then (muslinref01_Decode.l0 k x0 x3 x4 x5 (wrap64 (x6 + 1))) else (if (wrap64 (x5 + 6)) ≥ 8 then (if 0 ≤ (IntKind.u64.wrap (wrap64 ((wrap64 (x5 + 6)) - 8))) then (if x3.length < 140737488355328 then (muslinref01_Decode.l0 k x0 (x3 ++ [(shr .i64 (Int.tmod (wrap64 ((wrap64 (x4 * 64)) + t109)) 65536) (IntKind.u64.wrap (wrap64 ((wrap64 (x5 + 6)) - 8)))) % 256]) (Int.tmod (wrap64 ((wrap64 (x4 * 64)) + t109)) 65536) (wrap64 ((wrap64 (x5 + 6)) - 8)) (wrap64 (x6 + 1))) else (none)) else (none)) else (muslinref01_Decode.l0 k x0 x3 (Int.tmod (wrap64 ((wrap64 (x4 * 64)) + t109)) 65536) (wrap64 (x5 + 6)) (wrap64 (x6 + 1)))))) else (none)) else (none)) else (some (strOfNums x3))
end
def muslinref01_Decode.f (k : Nat) (a0 : ByteArray) : Option (ByteArray) := muslinref01_Decode.l0 k a0 ([] : List Int) 0 0 0
set_option maxHeartbeats 8000000 in
set_option maxRecDepth 100000 in
theorem muslinref01_Decode.calls (k : Nat) (a0 : ByteArray) (r : ByteArray) (w : World) (h : muslinref01_Decode.f k a0 = some r) :
    Calls Tryd.prog 28 #[.string a0] w fun e w' => e = .returned (.string r) ∧ Below w.heap.size w w' := by
  have HB := Aside0.mk (Below.refl w.heap.size w)
  have H : (muslinref01_Decode.l0 k a0 ([] : List Int) 0 0 0) = some r := h
  clear h
  have H' := Aside0.mk H
  clear H
  go_enter Tryd.func28, Tryd.ntmps28
  go_wp2
  go_loopg [3, 4, 5, 6] k (fun kq v3 v4 v5 v6 w' => ∃ (x3_1 : List Int) (x4_1 : Int) (x5_1 : Int) (x6_1 : Int), v4 = .int .i64 x4_1 ∧ v5 = .int .i64 x5_1 ∧ v6 = .int .i64 x6_1 ∧ Aside0 (muslinref01_Decode.l0 kq a0 x3_1 x4_1 x5_1 x6_1 = some r) ∧ Aside0 (kq ≤ k) ∧ Aside0 (Kd.R (Kd.int .u8) 5 w' w.heap.size (fun _ => True) v3 x3_1) ∧ Aside0 (Below w.heap.size w w'))
  case atStart => exact ⟨(([] : List Int)), (0), (0), (0), (by first | rfl | (simp; done) | (simp [*]; done)), (by first | rfl | (simp; done) | (simp [*]; done)), (by first | rfl | (simp; done) | (simp [*]; done)), H', ⟨Nat.le_refl _⟩, ⟨by first | exact Kd.R_nil _ _ _ _ _ | exact Kd.N_nil _ _ _ _ _ | exact Kd.V_nil _ _ _ _ _ | exact Kd.Q_nil _ _ _ _ _ | exact Kd.S_nil _ _ _ _ _⟩, ⟨by repeat (first | (with_reducible first | exact HB.out | apply below_alloc | apply pw_below_drewN | apply below_drew1) | exact HB.out)⟩⟩
  case round =>
    clear H'
    obtain ⟨x3_1, x4_1, x5_1, x6_1, rfl, rfl, rfl, HA, HK1, HO_3, HB⟩ := hrel
    cases gk with
    | zero => exact absurd HA.out (by simp [muslinref01_Decode.l0])
    | succ k1 =>
      have H := HA.out
      clear HA
      simp only [muslinref01_Decode.l0] at H
      have HC2 := Aside0.mk H
      clear H
      go_upto_region 5 with (fail)
      go_cut [17] (fun v17 wc => ∃ (kq : Nat) (x17_1 : Bool), v17 = .bool x17_1 ∧ Aside0 (muslinref01_Decode.j1 kq a0 x3_1 x4_1 x5_1 x6_1 x17_1 = some r) ∧ Aside0 (kq ≤ k1) ∧ Aside0 (Kd.R (Kd.int .u8) 5 wc w.heap.size (fun _ => True) u3 x3_1) ∧ Aside0 (Below w.heap.size w wc))
      case first =>
        have H := HC2.out
        clear HC2
        by_cases c3 : x6_1 < (a0.size : Int)
        · rw [if_pos c3] at H
          have c3b0 : decide (x6_1 < (a0.size : Int)) = true := decide_eq_true c3
          clear c3
          (first | rw [c3b0] | (simp only [i64_w, i32_w]; rw [c3b0]) | skip)
          by_cases c4 : 0 ≤ x6_1
          · rw [if_pos c4] at H
            have c4b0 : decide (0 ≤ x6_1) = true := decide_eq_true c4
            clear c4
            have H' := Aside0.mk H
            clear H
            have p5 : 0 ≤ (x6_1 : Int) := of_decide_eq_true (by first | (with_reducible assumption) | assumption)
            have q5 : x6_1 < (a0.size : Int) := of_decide_eq_true (by first | (with_reducible assumption) | assumption)
            have hx5 := bt_at a0 x6_1
            replace p5 := eq_true p5
            replace q5 := eq_true q5
            go_wp2
            go_meet
            case rel => exact ⟨_, (((bt a0 x6_1) != 61)), (by first | rfl | (simp; done) | (simp [*]; done)), H', ⟨by have := HK1.out; first | omega | exact Nat.le_refl _⟩, ⟨by (with_reducible repeat (first | apply Kd.R_alloc | apply Kd.R_drewN | apply Kd.R_drew)); exact HO_3.out⟩, ⟨by repeat (first | (with_reducible first | exact HB.out | apply below_alloc | apply pw_below_drewN | apply below_drew1) | exact HB.out)⟩⟩
          · rw [if_neg c4] at H
            exact absurd H (by simp)
        · rw [if_neg c3] at H
          have c3b0 : decide (x6_1 < (a0.size : Int)) = false := decide_eq_false c3
          clear c3
          (first | rw [c3b0] | (simp only [i64_w, i32_w]; rw [c3b0]) | skip)
          have H' := Aside0.mk H
          clear H
          go_wp2
          go_meet
          case rel => exact ⟨_, (false), (by first | rfl | (simp; done) | (simp [*]; done)), H', ⟨by have := HK1.out; first | omega | exact Nat.le_refl _⟩, ⟨by (with_reducible repeat (first | apply Kd.R_alloc | apply Kd.R_drewN | apply Kd.R_drew)); exact HO_3.out⟩, ⟨by repeat (first | (with_reducible first | exact HB.out | apply below_alloc | apply pw_below_drewN | apply below_drew1) | exact HB.out)⟩⟩
      case rest =>
        clear HC2
        try clear c2
        try clear p2
        try clear c3
        try clear c3b0
        try clear c4
        try clear c4b0
        try clear p5
        try clear q5
        try clear hx5
        try clear p5
        try clear q5
        obtain ⟨kq, x17_1, rfl, HA, HJ1, HO_3, HB⟩ := hcut
        cases kq with
        | zero => exact absurd HA.out (by simp [muslinref01_Decode.j1])
        | succ kj1 =>
          have H := HA.out
          clear HA
          simp only [muslinref01_Decode.j1] at H
          by_cases c6 : x17_1 = true
          · subst c6
            have H1 : (if 0 ≤ x6_1 then (if x6_1 < (a0.size : Int) then ((muslinref01_place.f kj1 (bt a0 x6_1)).bind fun t109 => (if t109 < 0 then (muslinref01_Decode.l0 kj1 a0 x3_1 x4_1 x5_1 (wrap64 (x6_1 + 1))) else (if (wrap64 (x5_1 + 6)) ≥ 8 then (if 0 ≤ (IntKind.u64.wrap (wrap64 ((wrap64 (x5_1 + 6)) - 8))) then (if x3_1.length < 140737488355328 then (muslinref01_Decode.l0 kj1 a0 (x3_1 ++ [(shr .i64 (Int.tmod (wrap64 ((wrap64 (x4_1 * 64)) + t109)) 65536) (IntKind.u64.wrap (wrap64 ((wrap64 (x5_1 + 6)) - 8)))) % 256]) (Int.tmod (wrap64 ((wrap64 (x4_1 * 64)) + t109)) 65536) (wrap64 ((wrap64 (x5_1 + 6)) - 8)) (wrap64 (x6_1 + 1))) else (none)) else (none)) else (muslinref01_Decode.l0 kj1 a0 x3_1 (Int.tmod (wrap64 ((wrap64 (x4_1 * 64)) + t109)) 65536) (wrap64 (x5_1 + 6)) (wrap64 (x6_1 + 1)))))) else (none)) else (none)) = some r := by rw [if_pos rfl] at H; exact H
            clear H
            have H := H1
            clear H1
            by_cases c7 : 0 ≤ x6_1
            · rw [if_pos c7] at H
              have c7b0 : decide (0 ≤ x6_1) = true := decide_eq_true c7
              clear c7
              by_cases c8 : x6_1 < (a0.size : Int)
              · rw [if_pos c8] at H
                have c8b0 : decide (x6_1 < (a0.size : Int)) = true := decide_eq_true c8
                clear c8
                replace H := Option.bind_eq_some_iff.mp H
                obtain ⟨t109, A100, H⟩ := H
                replace H : (if t109 < 0 then (muslinref01_Decode.l0 kj1 a0 x3_1 x4_1 x5_1 (wrap64 (x6_1 + 1))) else (if (wrap64 (x5_1 + 6)) ≥ 8 then (if 0 ≤ (IntKind.u64.wrap (wrap64 ((wrap64 (x5_1 + 6)) - 8))) then (if x3_1.length < 140737488355328 then (muslinref01_Decode.l0 kj1 a0 (x3_1 ++ [(shr .i64 (Int.tmod (wrap64 ((wrap64 (x4_1 * 64)) + t109)) 65536) (IntKind.u64.wrap (wrap64 ((wrap64 (x5_1 + 6)) - 8)))) % 256]) (Int.tmod (wrap64 ((wrap64 (x4_1 * 64)) + t109)) 65536) (wrap64 ((wrap64 (x5_1 + 6)) - 8)) (wrap64 (x6_1 + 1))) else (none)) else (none)) else (muslinref01_Decode.l0 kj1 a0 x3_1 (Int.tmod (wrap64 ((wrap64 (x4_1 * 64)) + t109)) 65536) (wrap64 (x5_1 + 6)) (wrap64 (x6_1 + 1))))) = some r := H
                have A10 := Aside0.mk A100
                clear A100
                by_cases c11 : t109 < 0
                · rw [if_pos c11] at H
                  have c11b0 : decide (t109 < 0) = true := decide_eq_true c11
                  clear c11
                  have H' := Aside0.mk H
                  clear H
                  have p9 : 0 ≤ (x6_1 : Int) := of_decide_eq_true (by first | (with_reducible assumption) | assumption)
                  have q9 : x6_1 < (a0.size : Int) := of_decide_eq_true (by first | (with_reducible assumption) | assumption)
                  have hx9 := bt_at a0 x6_1
                  replace p9 := eq_true p9
                  replace q9 := eq_true q9
                  go_wp2_with (first | ((with_reducible refine gate_callee (f := 57) rfl ?_); refine goesL_ (some 23) rfl rfl Tryd.func57 (by kernel_rfl) rfl #[.int .u8 (bt a0 x6_1)] rfl (by (try simp only [List.map_toArray, List.map_cons, List.map_nil]); first | done | rfl | (simp only [List.length_drop, List.length_take]; rfl)) ?_; (with_reducible refine (muslinref01_place.calls kj1 (bt a0 x6_1) t109 _ A10.out).mono ?_); rintro e w' ⟨rfl, ⟨nd, rfl⟩⟩; refine ⟨_, rfl, ?_⟩))
                  go_roundg kj1
                  case measure => have := HK1.out; have := HJ1.out; omega
                  case rel => exact ⟨(x3_1), (x4_1), (x5_1), (wrap64 (x6_1 + 1)), (by first | rfl | (simp; done) | (simp [*]; done)), (by first | rfl | (simp; done) | (simp [*]; done)), (by first | rfl | (simp; done) | (simp [*]; done)), H', ⟨by have := HK1.out; have := HJ1.out; omega⟩, ⟨by (with_reducible repeat (first | apply Kd.R_alloc | apply Kd.R_drewN | apply Kd.R_drew)); exact HO_3.out⟩, ⟨by repeat (first | (with_reducible first | exact HB.out | apply below_alloc | apply pw_below_drewN | apply below_drew1) | exact HB.out)⟩⟩
                · rw [if_neg c11] at H
                  have c11b0 : decide (t109 < 0) = false := decide_eq_false c11
                  clear c11
                  by_cases c12 : (wrap64 (x5_1 + 6)) ≥ 8
                  · rw [if_pos c12] at H
                    have c12b0 : decide (8 ≤ (wrap64 (x5_1 + 6))) = true := decide_eq_true c12
                    clear c12
                    obtain ⟨ji13, hji13⟩ : ∃ j_ : Int, (IntKind.u64.wrap (wrap64 ((wrap64 (x5_1 + 6)) - 8))) = j_ := ⟨_, rfl⟩
                    replace H : (if 0 ≤ (ji13) then (if x3_1.length < 140737488355328 then (muslinref01_Decode.l0 kj1 a0 (x3_1 ++ [(shr .i64 (Int.tmod (wrap64 ((wrap64 (x4_1 * 64)) + t109)) 65536) (ji13)) % 256]) (Int.tmod (wrap64 ((wrap64 (x4_1 * 64)) + t109)) 65536) (wrap64 ((wrap64 (x5_1 + 6)) - 8)) (wrap64 (x6_1 + 1))) else (none)) else (none)) = some r := by first | (rw [hji13] at H; exact H) | (simp only [hji13] at H ⊢; exact H)
                    (try rw [hji13] at A10)
                    by_cases c14 : 0 ≤ (ji13)
                    · rw [if_pos c14] at H
                      have c14b0 := eq_true c14
                      have c14b1 : decide (0 ≤ (ji13)) = true := decide_eq_true c14
                      clear c14
                      obtain ⟨ji15, hji15⟩ : ∃ j_ : Int, (shr .i64 (Int.tmod (wrap64 ((wrap64 (x4_1 * 64)) + t109)) 65536) (ji13)) = j_ := ⟨_, rfl⟩
                      replace H : (if x3_1.length < 140737488355328 then (muslinref01_Decode.l0 kj1 a0 (x3_1 ++ [(ji15) % 256]) (Int.tmod (wrap64 ((wrap64 (x4_1 * 64)) + t109)) 65536) (wrap64 ((wrap64 (x5_1 + 6)) - 8)) (wrap64 (x6_1 + 1))) else (none)) = some r := by first | (rw [hji15] at H; exact H) | (simp only [hji15] at H ⊢; exact H)
                      (try rw [hji15] at A10)
                      have hji15_ : ((Int.tmod (wrap64 ((wrap64 (x4_1 * 64)) + t109)) 65536) / 2 ^ min (ji13).toNat 64) = ji15 := hji15
                      have hji15z : (ji13) ≤ 64 → ((Int.tmod (wrap64 ((wrap64 (x4_1 * 64)) + t109)) 65536) / 2 ^ (ji13).toNat) = ji15 := shr_small hji15
                      by_cases c16 : x3_1.length < 140737488355328
                      · rw [if_pos c16] at H
                        have LMc16 := Aside0.mk c16
                        clear c16
                        obtain ⟨y110, hy110⟩ : ∃ y_ : List Int, y_ = (x3_1 ++ [(ji15) % 256]) := ⟨_, rfl⟩
                        replace H : (muslinref01_Decode.l0 kj1 a0 y110 (Int.tmod (wrap64 ((wrap64 (x4_1 * 64)) + t109)) 65536) (wrap64 ((wrap64 (x5_1 + 6)) - 8)) (wrap64 (x6_1 + 1))) = some r := by first | (rw [hy110]; with_reducible exact H) | (have H2_ := (Option.bind_some _ _).symm.trans H; rw [hy110]; with_reducible exact H2_) | (have H2_ := (Option.bind_some _ _).symm.trans H; with_reducible exact H2_) | with_reducible exact H | (rw [hy110]; exact H) | exact H
                        have Ny110 := Aside0.mk hy110
                        clear hy110
                        have H' := Aside0.mk H
                        clear H
                        have p9 : 0 ≤ (x6_1 : Int) := of_decide_eq_true (by first | (with_reducible assumption) | assumption)
                        have q9 : x6_1 < (a0.size : Int) := of_decide_eq_true (by first | (with_reducible assumption) | assumption)
                        have hx9 := bt_at a0 x6_1
                        replace p9 := eq_true p9
                        replace q9 := eq_true q9
                        go_wp2_with (first | ((with_reducible refine gate_callee (f := 57) rfl ?_); refine goesL_ (some 23) rfl rfl Tryd.func57 (by kernel_rfl) rfl #[.int .u8 (bt a0 x6_1)] rfl (by (try simp only [List.map_toArray, List.map_cons, List.map_nil]); first | done | rfl | (simp only [List.length_drop, List.length_take]; rfl)) ?_; (with_reducible refine (muslinref01_place.calls kj1 (bt a0 x6_1) t109 _ A10.out).mono ?_); rintro e w' ⟨rfl, ⟨nd, rfl⟩⟩; refine ⟨_, rfl, ?_⟩) | ((with_reducible refine gate_builtin (b := .append) (xs := #[.tmp 37, .tmp 43]) rfl ?_); at_builtin; refine Kd.R_append (Kd.int .u8) (w0 := w) w.heap.size rfl (.tmp 37) (.tmp 43) 37 5 (.int .u8 0) 1 rfl Tryd.underlying37 info5 rfl (by decide) (by omega) u3 x3_1 ((ji15) % 256) [.int .u8 ((ji15) % 256)] (fun _ => True) (fun _ => False) rfl rfl ?aP (fun _ hk => hk.elim) ?aF ?aO ?aB ?aS ?aL ?_; (case aP => exact rfl); (case aB => exact (by repeat (first | (with_reducible first | exact HB.out | apply below_alloc | apply pw_below_drewN | apply below_drew1) | exact HB.out))); (case aF => exact (fun _ _ => trivial)); (case aO => exact (by (with_reducible repeat (first | apply Kd.R_alloc | apply Kd.R_drewN | apply Kd.R_drew)); exact HO_3.out)); (case aS => exact (below_size (by repeat (first | (with_reducible first | exact HB.out | apply below_alloc | apply pw_below_drewN | apply below_drew1) | exact HB.out)))); (case aL => have := LMc16.out; first | omega | exact Nat.le_of_lt this); intro v111 w17 ho hb hg hat; rw [← Ny110.out] at ho; have n0_ := Aside0.mk (hb); have n1_ := Aside0.mk (ho); clear HB; clear HO_3; have HB := n0_; have HO112 := n1_; clear n0_ n1_; clear ho hb hg hat))
                        go_roundg kj1
                        case measure => have := HK1.out; have := HJ1.out; omega
                        case rel => exact ⟨(y110), (Int.tmod (wrap64 ((wrap64 (x4_1 * 64)) + t109)) 65536), (wrap64 ((wrap64 (x5_1 + 6)) - 8)), (wrap64 (x6_1 + 1)), (by first | rfl | (simp; done) | (simp [*]; done)), (by first | rfl | (simp; done) | (simp [*]; done)), (by first | rfl | (simp; done) | (simp [*]; done)), H', ⟨by have := HK1.out; have := HJ1.out; omega⟩, ⟨by (with_reducible repeat (first | apply Kd.R_alloc | apply Kd.R_drewN | apply Kd.R_drew)); exact HO112.out⟩, ⟨by repeat (first | (with_reducible first | exact HB.out | apply below_alloc | apply pw_below_drewN | apply below_drew1) | exact HB.out)⟩⟩
                      · rw [if_neg c16] at H
                        exact absurd H (by simp)
                    · rw [if_neg c14] at H
                      exact absurd H (by simp)
                  · rw [if_neg c12] at H
                    have c12b0 : decide (8 ≤ (wrap64 (x5_1 + 6))) = false := decide_eq_false c12
                    clear c12
                    have H' := Aside0.mk H
                    clear H
                    have p9 : 0 ≤ (x6_1 : Int) := of_decide_eq_true (by first | (with_reducible assumption) | assumption)
                    have q9 : x6_1 < (a0.size : Int) := of_decide_eq_true (by first | (with_reducible assumption) | assumption)
                    have hx9 := bt_at a0 x6_1
                    replace p9 := eq_true p9
                    replace q9 := eq_true q9
                    go_wp2_with (first | ((with_reducible refine gate_callee (f := 57) rfl ?_); refine goesL_ (some 23) rfl rfl Tryd.func57 (by kernel_rfl) rfl #[.int .u8 (bt a0 x6_1)] rfl (by (try simp only [List.map_toArray, List.map_cons, List.map_nil]); first | done | rfl | (simp only [List.length_drop, List.length_take]; rfl)) ?_; (with_reducible refine (muslinref01_place.calls kj1 (bt a0 x6_1) t109 _ A10.out).mono ?_); rintro e w' ⟨rfl, ⟨nd, rfl⟩⟩; refine ⟨_, rfl, ?_⟩))
                    go_roundg kj1
                    case measure => have := HK1.out; have := HJ1.out; omega
                    case rel => exact ⟨(x3_1), (Int.tmod (wrap64 ((wrap64 (x4_1 * 64)) + t109)) 65536), (wrap64 (x5_1 + 6)), (wrap64 (x6_1 + 1)), (by first | rfl | (simp; done) | (simp [*]; done)), (by first | rfl | (simp; done) | (simp [*]; done)), (by first | rfl | (simp; done) | (simp [*]; done)), H', ⟨by have := HK1.out; have := HJ1.out; omega⟩, ⟨by (with_reducible repeat (first | apply Kd.R_alloc | apply Kd.R_drewN | apply Kd.R_drew)); exact HO_3.out⟩, ⟨by repeat (first | (with_reducible first | exact HB.out | apply below_alloc | apply pw_below_drewN | apply below_drew1) | exact HB.out)⟩⟩
              · rw [if_neg c8] at H
                exact absurd H (by simp)
            · rw [if_neg c7] at H
              exact absurd H (by simp)
          · replace c6 := Bool.eq_false_iff.mpr c6
            subst c6
            have H1 : (some (strOfNums x3_1)) = some r := by rw [if_neg (show ¬ (false = true) by decide)] at H; exact H
            clear H
            have H := H1
            clear H1
            obtain rfl := Option.some.inj H
            have hcv18 := own_string (P := Tryd.prog) Tryd.underlying37 Tryd.underlying5 Tryd.underlying9 (Kd.own_of_R HO_3.out)
            go_wp2
            go_ret
            exact ⟨by first | rfl | (simp [errW_none, errW_some] <;> rfl) | (simp [*, errW_none, errW_some] <;> rfl), by repeat (first | (with_reducible first | exact HB.out | apply below_alloc | apply pw_below_drewN | apply below_drew1) | exact HB.out)⟩
end Go.Proofs.YtokkgjiofhhlkaaDoor.P
