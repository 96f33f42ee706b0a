/- Parts of the proof of the law WordJoined, in one text: P1, P5, Pure05, Pure05h, Laid05, LaidU. -/
import Derived.Test.YtokkgjiofhhlkaaDoorMgWordJoined4
import Derived.Test.YtokkgjiofhhlkaaDoorRows
import Derived.Lay
import Derived.PinnedBridge
import Derived.Lib.LaidU8
import Derived.Stop.LaidErr
import Derived.LaidMore
import Derived.ProofKit
import Derived.HandedShaped
import Derived.Handed
import Derived.LaidLaws
import Derived.JoinedCond
import Derived.Deep.CondSized
import Derived.SliceStrings
set_option linter.unusedVariables false
set_option linter.unusedSimpArgs false
namespace Go.Proofs.YtokkgjiofhhlkaaDoor.P
open Go.RowKit Go.Proofs.YtokkgjiofhhlkaaDoorW.PrintWords Go.Proofs.YtokkgjiofhhlkaaDoorW.PrintLast Go.Proofs.YtokkgjiofhhlkaaDoorW.PrintMore
attribute [local go_sem] max2_int min2_int max_two min_two max_three min_three max_four min_four
set_option linter.unusedVariables false
set_option linter.unusedSimpArgs false
def muslinlaw05_live.f  : Option (Bool) := (word_One.f (⟨#[61, 63, 108, 97, 116, 105, 110, 49, 42, 101, 110, 63, 81, 63, 99, 97, 102, 61, 69, 57, 95, 120, 63, 61, 121]⟩ : ByteArray)).bind fun bt101 => ((word_One.f (⟨#[61, 63, 120, 63, 81, 63, 97, 63, 61]⟩ : ByteArray)).bind fun bt103 => (if bt101.1.toList = ([99, 97, 102, 195, 169, 32, 120] : List UInt8) then (if bt101.2 = 24 then (if bt103.2 = 0 then ((word_Decode.f (⟨#[97, 32, 61, 63, 117, 116, 102, 45, 56, 63, 66, 63, 83, 71, 107, 61, 63, 61, 32, 10, 32, 61, 63, 97, 115, 99, 105, 105, 63, 113, 63, 33, 63, 61, 32, 98]⟩ : ByteArray)).bind fun t105 => (if t105.toList = ([97, 32, 72, 105, 33, 32, 98] : List UInt8) then ((word_Encode.f (⟨#[195, 169]⟩ : ByteArray)).bind fun t106 => (if t106.toList = ([61, 63, 117, 116, 102, 45, 56, 63, 66, 63, 119, 54, 107, 61, 63, 61] : List UInt8) then ((word_Encode.f (⟨#[97, 32, 98]⟩ : ByteArray)).bind fun t107 => (some (t107.toList == ([97, 32, 98] : List UInt8)))) else (some false))) else (some false))) else (some false)) else (some false)) else (some false)))
set_option maxHeartbeats 8000000 in
set_option maxRecDepth 100000 in
theorem muslinlaw05_live.calls  (r : Bool) (w : World) (hGl : Glob w) (h : muslinlaw05_live.f  = some r) :
    Calls Tryd.prog 10 #[] w fun e w' => e = .returned (.bool r) ∧ Below w.heap.size w w' := by
  have HGl := Aside0.mk hGl
  clear hGl
  have HB := Aside0.mk (Below.refl w.heap.size w)
  have H : ((word_One.f (⟨#[61, 63, 108, 97, 116, 105, 110, 49, 42, 101, 110, 63, 81, 63, 99, 97, 102, 61, 69, 57, 95, 120, 63, 61, 121]⟩ : ByteArray)).bind fun bt101 => ((word_One.f (⟨#[61, 63, 120, 63, 81, 63, 97, 63, 61]⟩ : ByteArray)).bind fun bt103 => (if bt101.1.toList = ([99, 97, 102, 195, 169, 32, 120] : List UInt8) then (if bt101.2 = 24 then (if bt103.2 = 0 then ((word_Decode.f (⟨#[97, 32, 61, 63, 117, 116, 102, 45, 56, 63, 66, 63, 83, 71, 107, 61, 63, 61, 32, 10, 32, 61, 63, 97, 115, 99, 105, 105, 63, 113, 63, 33, 63, 61, 32, 98]⟩ : ByteArray)).bind fun t105 => (if t105.toList = ([97, 32, 72, 105, 33, 32, 98] : List UInt8) then ((word_Encode.f (⟨#[195, 169]⟩ : ByteArray)).bind fun t106 => (if t106.toList = ([61, 63, 117, 116, 102, 45, 56, 63, 66, 63, 119, 54, 107, 61, 63, 61] : List UInt8) then ((word_Encode.f (⟨#[97, 32, 98]⟩ : ByteArray)).bind fun t107 => (some (t107.toList == ([97, 32, 98] : List UInt8)))) else (some false))) else (some false))) else (some false)) else (some false)) else (some false)))) = some r := h
  clear h
  replace H := Option.bind_eq_some_iff.mp H
  obtain ⟨⟨t101, t102⟩, A10, H⟩ := H
  replace H : ((word_One.f (⟨#[61, 63, 120, 63, 81, 63, 97, 63, 61]⟩ : ByteArray)).bind fun bt103 => (if t101.toList = ([99, 97, 102, 195, 169, 32, 120] : List UInt8) then (if t102 = 24 then (if bt103.2 = 0 then ((word_Decode.f (⟨#[97, 32, 61, 63, 117, 116, 102, 45, 56, 63, 66, 63, 83, 71, 107, 61, 63, 61, 32, 10, 32, 61, 63, 97, 115, 99, 105, 105, 63, 113, 63, 33, 63, 61, 32, 98]⟩ : ByteArray)).bind fun t105 => (if t105.toList = ([97, 32, 72, 105, 33, 32, 98] : List UInt8) then ((word_Encode.f (⟨#[195, 169]⟩ : ByteArray)).bind fun t106 => (if t106.toList = ([61, 63, 117, 116, 102, 45, 56, 63, 66, 63, 119, 54, 107, 61, 63, 61] : List UInt8) then ((word_Encode.f (⟨#[97, 32, 98]⟩ : ByteArray)).bind fun t107 => (some (t107.toList == ([97, 32, 98] : List UInt8)))) else (some false))) else (some false))) else (some false)) else (some false)) else (some false))) = some r := H
  have A1 := Aside0.mk A10
  clear A10
  replace H := Option.bind_eq_some_iff.mp H
  obtain ⟨⟨t103, t104⟩, A20, H⟩ := H
  replace H : (if t101.toList = ([99, 97, 102, 195, 169, 32, 120] : List UInt8) then (if t102 = 24 then (if t104 = 0 then ((word_Decode.f (⟨#[97, 32, 61, 63, 117, 116, 102, 45, 56, 63, 66, 63, 83, 71, 107, 61, 63, 61, 32, 10, 32, 61, 63, 97, 115, 99, 105, 105, 63, 113, 63, 33, 63, 61, 32, 98]⟩ : ByteArray)).bind fun t105 => (if t105.toList = ([97, 32, 72, 105, 33, 32, 98] : List UInt8) then ((word_Encode.f (⟨#[195, 169]⟩ : ByteArray)).bind fun t106 => (if t106.toList = ([61, 63, 117, 116, 102, 45, 56, 63, 66, 63, 119, 54, 107, 61, 63, 61] : List UInt8) then ((word_Encode.f (⟨#[97, 32, 98]⟩ : ByteArray)).bind fun t107 => (some (t107.toList == ([97, 32, 98] : List UInt8)))) else (some false))) else (some false))) else (some false)) else (some false)) else (some false)) = some r := H
  have A2 := Aside0.mk A20
  clear A20
  by_cases c3 : t101.toList = ([99, 97, 102, 195, 169, 32, 120] : List UInt8)
  · rw [if_pos c3] at H
    have c3b0 : (t101.toList == ([99, 97, 102, 195, 169, 32, 120] : List UInt8)) = true := beq_iff_eq.mpr c3
    have c3b1 : (t101.toList != ([99, 97, 102, 195, 169, 32, 120] : List UInt8)) = false := bne_eq_false_iff_eq.mpr c3
    clear c3
    by_cases c4 : t102 = 24
    · rw [if_pos c4] at H
      have c4b0 : (t102 == 24) = true := beq_iff_eq.mpr c4
      have c4b1 : (t102 != 24) = false := bne_eq_false_iff_eq.mpr c4
      clear c4
      by_cases c5 : t104 = 0
      · rw [if_pos c5] at H
        have c5b0 : (t104 == 0) = true := beq_iff_eq.mpr c5
        have c5b1 : (t104 != 0) = false := bne_eq_false_iff_eq.mpr c5
        clear c5
        replace H := Option.bind_eq_some_iff.mp H
        obtain ⟨t105, A60, H⟩ := H
        replace H : (if t105.toList = ([97, 32, 72, 105, 33, 32, 98] : List UInt8) then ((word_Encode.f (⟨#[195, 169]⟩ : ByteArray)).bind fun t106 => (if t106.toList = ([61, 63, 117, 116, 102, 45, 56, 63, 66, 63, 119, 54, 107, 61, 63, 61] : List UInt8) then ((word_Encode.f (⟨#[97, 32, 98]⟩ : ByteArray)).bind fun t107 => (some (t107.toList == ([97, 32, 98] : List UInt8)))) else (some false))) else (some false)) = some r := H
        have A6 := Aside0.mk A60
        clear A60
        by_cases c7 : t105.toList = ([97, 32, 72, 105, 33, 32, 98] : List UInt8)
        · rw [if_pos c7] at H
          have c7b0 : (t105.toList == ([97, 32, 72, 105, 33, 32, 98] : List UInt8)) = true := beq_iff_eq.mpr c7
          have c7b1 : (t105.toList != ([97, 32, 72, 105, 33, 32, 98] : List UInt8)) = false := bne_eq_false_iff_eq.mpr c7
          clear c7
          replace H := Option.bind_eq_some_iff.mp H
          obtain ⟨t106, A80, H⟩ := H
          replace H : (if t106.toList = ([61, 63, 117, 116, 102, 45, 56, 63, 66, 63, 119, 54, 107, 61, 63, 61] : List UInt8) then ((word_Encode.f (⟨#[97, 32, 98]⟩ : ByteArray)).bind fun t107 => (some (t107.toList == ([97, 32, 98] : List UInt8)))) else (some false)) = some r := H
          have A8 := Aside0.mk A80
          clear A80
          by_cases c9 : t106.toList = ([61, 63, 117, 116, 102, 45, 56, 63, 66, 63, 119, 54, 107, 61, 63, 61] : List UInt8)
          · rw [if_pos c9] at H
            have c9b0 : (t106.toList == ([61, 63, 117, 116, 102, 45, 56, 63, 66, 63, 119, 54, 107, 61, 63, 61] : List UInt8)) = true := beq_iff_eq.mpr c9
            have c9b1 : (t106.toList != ([61, 63, 117, 116, 102, 45, 56, 63, 66, 63, 119, 54, 107, 61, 63, 61] : List UInt8)) = false := bne_eq_false_iff_eq.mpr c9
            clear c9
            replace H := Option.bind_eq_some_iff.mp H
            obtain ⟨t107, A100, H⟩ := H
            replace H : (some (t107.toList == ([97, 32, 98] : List UInt8))) = some r := H
            have A10 := Aside0.mk A100
            clear A100
            obtain rfl := Option.some.inj H
            go_enter Tryd.func10, Tryd.ntmps10
            go_wp2_with (first | ((with_reducible refine gate_callee (f := 11) rfl ?_); refine goesL_ (some 6) rfl rfl Tryd.func11 (by kernel_rfl) rfl #[.string (⟨#[61, 63, 108, 97, 116, 105, 110, 49, 42, 101, 110, 63, 81, 63, 99, 97, 102, 61, 69, 57, 95, 120, 63, 61, 121]⟩ : ByteArray)] rfl (by (try simp only [List.map_toArray, List.map_cons, List.map_nil]); first | done | rfl | (simp only [List.length_drop, List.length_take]; rfl)) ?_; (with_reducible refine (word_One.calls (⟨#[61, 63, 108, 97, 116, 105, 110, 49, 42, 101, 110, 63, 81, 63, 99, 97, 102, 61, 69, 57, 95, 120, 63, 61, 121]⟩ : ByteArray) t101 t102 _ ?sideGl A1.out).mono ?_); (case sideGl => exact HGl.out.below (by repeat (first | (with_reducible first | exact HB.out | apply below_alloc | apply pw_below_drewN | apply below_drew1) | exact HB.out))); rintro e w11 ⟨rfl, hb⟩; refine ⟨_, rfl, ?_⟩; have n0_ := Aside0.mk (below_step (by repeat (first | (with_reducible first | exact HB.out | apply below_alloc | apply pw_below_drewN | apply below_drew1) | exact HB.out)) hb); clear HB; have HB := n0_; clear n0_; (try clear hb); (try clear hb2); (try clear hk); (try clear hi)) | ((with_reducible refine gate_callee (f := 11) rfl ?_); refine goesL_ (some 10) rfl rfl Tryd.func11 (by kernel_rfl) rfl #[.string (⟨#[61, 63, 120, 63, 81, 63, 97, 63, 61]⟩ : ByteArray)] rfl (by (try simp only [List.map_toArray, List.map_cons, List.map_nil]); first | done | rfl | (simp only [List.length_drop, List.length_take]; rfl)) ?_; (with_reducible refine (word_One.calls (⟨#[61, 63, 120, 63, 81, 63, 97, 63, 61]⟩ : ByteArray) t103 t104 _ ?sideGl A2.out).mono ?_); (case sideGl => exact HGl.out.below (by repeat (first | (with_reducible first | exact HB.out | apply below_alloc | apply pw_below_drewN | apply below_drew1) | exact HB.out))); rintro e w12 ⟨rfl, hb⟩; refine ⟨_, rfl, ?_⟩; have n0_ := Aside0.mk (below_step (by repeat (first | (with_reducible first | exact HB.out | apply below_alloc | apply pw_below_drewN | apply below_drew1) | exact HB.out)) hb); clear HB; have HB := n0_; clear n0_; (try clear hb); (try clear hb2); (try clear hk); (try clear hi)) | (go_at_call 13; (with_reducible refine (word_Decode.calls (⟨#[97, 32, 61, 63, 117, 116, 102, 45, 56, 63, 66, 63, 83, 71, 107, 61, 63, 61, 32, 10, 32, 61, 63, 97, 115, 99, 105, 105, 63, 113, 63, 33, 63, 61, 32, 98]⟩ : ByteArray) t105 _ ?sideGl A6.out).mono ?_); (case sideGl => exact HGl.out.below (by repeat (first | (with_reducible first | exact HB.out | apply below_alloc | apply pw_below_drewN | apply below_drew1) | exact HB.out))); rintro e w13 ⟨rfl, hb⟩; have n0_ := Aside0.mk (below_step (by repeat (first | (with_reducible first | exact HB.out | apply below_alloc | apply pw_below_drewN | apply below_drew1) | exact HB.out)) hb); clear HB; have HB := n0_; clear n0_; (try clear hb); (try clear hb2); (try clear hk); (try clear hi)) | (go_at_call 15; (with_reducible refine (word_Encode.calls (⟨#[195, 169]⟩ : ByteArray) t106 _ ?sideGl A8.out).mono ?_); (case sideGl => exact HGl.out.below (by repeat (first | (with_reducible first | exact HB.out | apply below_alloc | apply pw_below_drewN | apply below_drew1) | exact HB.out))); rintro e w14 ⟨rfl, hb⟩; have n0_ := Aside0.mk (below_step (by repeat (first | (with_reducible first | exact HB.out | apply below_alloc | apply pw_below_drewN | apply below_drew1) | exact HB.out)) hb); clear HB; have HB := n0_; clear n0_; (try clear hb); (try clear hb2); (try clear hk); (try clear hi)) | (go_at_call 15; (with_reducible refine (word_Encode.calls (⟨#[97, 32, 98]⟩ : ByteArray) t107 _ ?sideGl A10.out).mono ?_); (case sideGl => exact HGl.out.below (by repeat (first | (with_reducible first | exact HB.out | apply below_alloc | apply pw_below_drewN | apply below_drew1) | exact HB.out))); rintro e w15 ⟨rfl, hb⟩; have n0_ := Aside0.mk (below_step (by repeat (first | (with_reducible first | exact HB.out | apply below_alloc | apply pw_below_drewN | apply below_drew1) | exact HB.out)) hb); clear HB; have HB := n0_; clear n0_; (try clear hb); (try clear hb2); (try clear hk); (try clear hi)))
            go_ret
            exact ⟨by first | rfl | (simp [errW_none, errW_some] <;> rfl) | (simp [*, errW_none, errW_some] <;> rfl), by repeat (first | (with_reducible first | exact HB.out | apply below_alloc | apply pw_below_drewN | apply below_drew1) | exact HB.out)⟩
          · rw [if_neg c9] at H
            have c9b0 : (t106.toList == ([61, 63, 117, 116, 102, 45, 56, 63, 66, 63, 119, 54, 107, 61, 63, 61] : List UInt8)) = false := beq_eq_false_iff_ne.mpr c9
            have c9b1 : (t106.toList != ([61, 63, 117, 116, 102, 45, 56, 63, 66, 63, 119, 54, 107, 61, 63, 61] : List UInt8)) = true := bne_iff_ne.mpr c9
            obtain rfl := Option.some.inj H
            go_enter Tryd.func10, Tryd.ntmps10
            go_wp2_with (first | ((with_reducible refine gate_callee (f := 11) rfl ?_); refine goesL_ (some 6) rfl rfl Tryd.func11 (by kernel_rfl) rfl #[.string (⟨#[61, 63, 108, 97, 116, 105, 110, 49, 42, 101, 110, 63, 81, 63, 99, 97, 102, 61, 69, 57, 95, 120, 63, 61, 121]⟩ : ByteArray)] rfl (by (try simp only [List.map_toArray, List.map_cons, List.map_nil]); first | done | rfl | (simp only [List.length_drop, List.length_take]; rfl)) ?_; (with_reducible refine (word_One.calls (⟨#[61, 63, 108, 97, 116, 105, 110, 49, 42, 101, 110, 63, 81, 63, 99, 97, 102, 61, 69, 57, 95, 120, 63, 61, 121]⟩ : ByteArray) t101 t102 _ ?sideGl A1.out).mono ?_); (case sideGl => exact HGl.out.below (by repeat (first | (with_reducible first | exact HB.out | apply below_alloc | apply pw_below_drewN | apply below_drew1) | exact HB.out))); rintro e w16 ⟨rfl, hb⟩; refine ⟨_, rfl, ?_⟩; have n0_ := Aside0.mk (below_step (by repeat (first | (with_reducible first | exact HB.out | apply below_alloc | apply pw_below_drewN | apply below_drew1) | exact HB.out)) hb); clear HB; have HB := n0_; clear n0_; (try clear hb); (try clear hb2); (try clear hk); (try clear hi)) | ((with_reducible refine gate_callee (f := 11) rfl ?_); refine goesL_ (some 10) rfl rfl Tryd.func11 (by kernel_rfl) rfl #[.string (⟨#[61, 63, 120, 63, 81, 63, 97, 63, 61]⟩ : ByteArray)] rfl (by (try simp only [List.map_toArray, List.map_cons, List.map_nil]); first | done | rfl | (simp only [List.length_drop, List.length_take]; rfl)) ?_; (with_reducible refine (word_One.calls (⟨#[61, 63, 120, 63, 81, 63, 97, 63, 61]⟩ : ByteArray) t103 t104 _ ?sideGl A2.out).mono ?_); (case sideGl => exact HGl.out.below (by repeat (first | (with_reducible first | exact HB.out | apply below_alloc | apply pw_below_drewN | apply below_drew1) | exact HB.out))); rintro e w17 ⟨rfl, hb⟩; refine ⟨_, rfl, ?_⟩; have n0_ := Aside0.mk (below_step (by repeat (first | (with_reducible first | exact HB.out | apply below_alloc | apply pw_below_drewN | apply below_drew1) | exact HB.out)) hb); clear HB; have HB := n0_; clear n0_; (try clear hb); (try clear hb2); (try clear hk); (try clear hi)) | (go_at_call 13; (with_reducible refine (word_Decode.calls (⟨#[97, 32, 61, 63, 117, 116, 102, 45, 56, 63, 66, 63, 83, 71, 107, 61, 63, 61, 32, 10, 32, 61, 63, 97, 115, 99, 105, 105, 63, 113, 63, 33, 63, 61, 32, 98]⟩ : ByteArray) t105 _ ?sideGl A6.out).mono ?_); (case sideGl => exact HGl.out.below (by repeat (first | (with_reducible first | exact HB.out | apply below_alloc | apply pw_below_drewN | apply below_drew1) | exact HB.out))); rintro e w18 ⟨rfl, hb⟩; have n0_ := Aside0.mk (below_step (by repeat (first | (with_reducible first | exact HB.out | apply below_alloc | apply pw_below_drewN | apply below_drew1) | exact HB.out)) hb); clear HB; have HB := n0_; clear n0_; (try clear hb); (try clear hb2); (try clear hk); (try clear hi)) | (go_at_call 15; (with_reducible refine (word_Encode.calls (⟨#[195, 169]⟩ : ByteArray) t106 _ ?sideGl A8.out).mono ?_); (case sideGl => exact HGl.out.below (by repeat (first | (with_reducible first | exact HB.out | apply below_alloc | apply pw_below_drewN | apply below_drew1) | exact HB.out))); rintro e w19 ⟨rfl, hb⟩; have n0_ := Aside0.mk (below_step (by repeat (first | (with_reducible first | exact HB.out | apply below_alloc | apply pw_below_drewN | apply below_drew1) | exact HB.out)) hb); clear HB; have HB := n0_; clear n0_; (try clear hb); (try clear hb2); (try clear hk); (try clear hi)))
            go_ret
            exact ⟨by first | rfl | (simp [errW_none, errW_some] <;> rfl) | (simp [*, errW_none, errW_some] <;> rfl), by repeat (first | (with_reducible first | exact HB.out | apply below_alloc | apply pw_below_drewN | apply below_drew1) | exact HB.out)⟩
        · rw [if_neg c7] at H
          have c7b0 : (t105.toList == ([97, 32, 72, 105, 33, 32, 98] : List UInt8)) = false := beq_eq_false_iff_ne.mpr c7
          have c7b1 : (t105.toList != ([97, 32, 72, 105, 33, 32, 98] : List UInt8)) = true := bne_iff_ne.mpr c7
          obtain rfl := Option.some.inj H
          go_enter Tryd.func10, Tryd.ntmps10
          go_wp2_with (first | ((with_reducible refine gate_callee (f := 11) rfl ?_); refine goesL_ (some 6) rfl rfl Tryd.func11 (by kernel_rfl) rfl #[.string (⟨#[61, 63, 108, 97, 116, 105, 110, 49, 42, 101, 110, 63, 81, 63, 99, 97, 102, 61, 69, 57, 95, 120, 63, 61, 121]⟩ : ByteArray)] rfl (by (try simp only [List.map_toArray, List.map_cons, List.map_nil]); first | done | rfl | (simp only [List.length_drop, List.length_take]; rfl)) ?_; (with_reducible refine (word_One.calls (⟨#[61, 63, 108, 97, 116, 105, 110, 49, 42, 101, 110, 63, 81, 63, 99, 97, 102, 61, 69, 57, 95, 120, 63, 61, 121]⟩ : ByteArray) t101 t102 _ ?sideGl A1.out).mono ?_); (case sideGl => exact HGl.out.below (by repeat (first | (with_reducible first | exact HB.out | apply below_alloc | apply pw_below_drewN | apply below_drew1) | exact HB.out))); rintro e w20 ⟨rfl, hb⟩; refine ⟨_, rfl, ?_⟩; have n0_ := Aside0.mk (below_step (by repeat (first | (with_reducible first | exact HB.out | apply below_alloc | apply pw_below_drewN | apply below_drew1) | exact HB.out)) hb); clear HB; have HB := n0_; clear n0_; (try clear hb); (try clear hb2); (try clear hk); (try clear hi)) | ((with_reducible refine gate_callee (f := 11) rfl ?_); refine goesL_ (some 10) rfl rfl Tryd.func11 (by kernel_rfl) rfl #[.string (⟨#[61, 63, 120, 63, 81, 63, 97, 63, 61]⟩ : ByteArray)] rfl (by (try simp only [List.map_toArray, List.map_cons, List.map_nil]); first | done | rfl | (simp only [List.length_drop, List.length_take]; rfl)) ?_; (with_reducible refine (word_One.calls (⟨#[61, 63, 120, 63, 81, 63, 97, 63, 61]⟩ : ByteArray) t103 t104 _ ?sideGl A2.out).mono ?_); (case sideGl => exact HGl.out.below (by repeat (first | (with_reducible first | exact HB.out | apply below_alloc | apply pw_below_drewN | apply below_drew1) | exact HB.out))); rintro e w21 ⟨rfl, hb⟩; refine ⟨_, rfl, ?_⟩; have n0_ := Aside0.mk (below_step (by repeat (first | (with_reducible first | exact HB.out | apply below_alloc | apply pw_below_drewN | apply below_drew1) | exact HB.out)) hb); clear HB; have HB := n0_; clear n0_; (try clear hb); (try clear hb2); (try clear hk); (try clear hi)) | (go_at_call 13; (with_reducible refine (word_Decode.calls (⟨#[97, 32, 61, 63, 117, 116, 102, 45, 56, 63, 66, 63, 83, 71, 107, 61, 63, 61, 32, 10, 32, 61, 63, 97, 115, 99, 105, 105, 63, 113, 63, 33, 63, 61, 32, 98]⟩ : ByteArray) t105 _ ?sideGl A6.out).mono ?_); (case sideGl => exact HGl.out.below (by repeat (first | (with_reducible first | exact HB.out | apply below_alloc | apply pw_below_drewN | apply below_drew1) | exact HB.out))); rintro e w22 ⟨rfl, hb⟩; have n0_ := Aside0.mk (below_step (by repeat (first | (with_reducible first | exact HB.out | apply below_alloc | apply pw_below_drewN | apply below_drew1) | exact HB.out)) hb); clear HB; have HB := n0_; clear n0_; (try clear hb); (try clear hb2); (try clear hk); (try clear hi)))
          go_ret
          exact ⟨by first | rfl | (simp [errW_none, errW_some] <;> rfl) | (simp [*, errW_none, errW_some] <;> rfl), by repeat (first | (with_reducible first | exact HB.out | apply below_alloc | apply pw_below_drewN | apply below_drew1) | exact HB.out)⟩
      · rw [if_neg c5] at H
        have c5b0 : (t104 == 0) = false := beq_eq_false_iff_ne.mpr c5
        have c5b1 : (t104 != 0) = true := bne_iff_ne.mpr c5
        obtain rfl := Option.some.inj H
        go_enter Tryd.func10, Tryd.ntmps10
        go_wp2_with (first | ((with_reducible refine gate_callee (f := 11) rfl ?_); refine goesL_ (some 6) rfl rfl Tryd.func11 (by kernel_rfl) rfl #[.string (⟨#[61, 63, 108, 97, 116, 105, 110, 49, 42, 101, 110, 63, 81, 63, 99, 97, 102, 61, 69, 57, 95, 120, 63, 61, 121]⟩ : ByteArray)] rfl (by (try simp only [List.map_toArray, List.map_cons, List.map_nil]); first | done | rfl | (simp only [List.length_drop, List.length_take]; rfl)) ?_; (with_reducible refine (word_One.calls (⟨#[61, 63, 108, 97, 116, 105, 110, 49, 42, 101, 110, 63, 81, 63, 99, 97, 102, 61, 69, 57, 95, 120, 63, 61, 121]⟩ : ByteArray) t101 t102 _ ?sideGl A1.out).mono ?_); (case sideGl => exact HGl.out.below (by repeat (first | (with_reducible first | exact HB.out | apply below_alloc | apply pw_below_drewN | apply below_drew1) | exact HB.out))); rintro e w23 ⟨rfl, hb⟩; refine ⟨_, rfl, ?_⟩; have n0_ := Aside0.mk (below_step (by repeat (first | (with_reducible first | exact HB.out | apply below_alloc | apply pw_below_drewN | apply below_drew1) | exact HB.out)) hb); clear HB; have HB := n0_; clear n0_; (try clear hb); (try clear hb2); (try clear hk); (try clear hi)) | ((with_reducible refine gate_callee (f := 11) rfl ?_); refine goesL_ (some 10) rfl rfl Tryd.func11 (by kernel_rfl) rfl #[.string (⟨#[61, 63, 120, 63, 81, 63, 97, 63, 61]⟩ : ByteArray)] rfl (by (try simp only [List.map_toArray, List.map_cons, List.map_nil]); first | done | rfl | (simp only [List.length_drop, List.length_take]; rfl)) ?_; (with_reducible refine (word_One.calls (⟨#[61, 63, 120, 63, 81, 63, 97, 63, 61]⟩ : ByteArray) t103 t104 _ ?sideGl A2.out).mono ?_); (case sideGl => exact HGl.out.below (by repeat (first | (with_reducible first | exact HB.out | apply below_alloc | apply pw_below_drewN | apply below_drew1) | exact HB.out))); rintro e w24 ⟨rfl, hb⟩; refine ⟨_, rfl, ?_⟩; have n0_ := Aside0.mk (below_step (by repeat (first | (with_reducible first | exact HB.out | apply below_alloc | apply pw_below_drewN | apply below_drew1) | exact HB.out)) hb); clear HB; have HB := n0_; clear n0_; (try clear hb); (try clear hb2); (try clear hk); (try clear hi)))
        go_ret
        exact ⟨by first | rfl | (simp [errW_none, errW_some] <;> rfl) | (simp [*, errW_none, errW_some] <;> rfl), by repeat (first | (with_reducible first | exact HB.out | apply below_alloc | apply pw_below_drewN | apply below_drew1) | exact HB.out)⟩
    · rw [if_neg c4] at H
      have c4b0 : (t102 == 24) = false := beq_eq_false_iff_ne.mpr c4
      have c4b1 : (t102 != 24) = true := bne_iff_ne.mpr c4
      obtain rfl := Option.some.inj H
      go_enter Tryd.func10, Tryd.ntmps10
      go_wp2_with (first | ((with_reducible refine gate_callee (f := 11) rfl ?_); refine goesL_ (some 6) rfl rfl Tryd.func11 (by kernel_rfl) rfl #[.string (⟨#[61, 63, 108, 97, 116, 105, 110, 49, 42, 101, 110, 63, 81, 63, 99, 97, 102, 61, 69, 57, 95, 120, 63, 61, 121]⟩ : ByteArray)] rfl (by (try simp only [List.map_toArray, List.map_cons, List.map_nil]); first | done | rfl | (simp only [List.length_drop, List.length_take]; rfl)) ?_; (with_reducible refine (word_One.calls (⟨#[61, 63, 108, 97, 116, 105, 110, 49, 42, 101, 110, 63, 81, 63, 99, 97, 102, 61, 69, 57, 95, 120, 63, 61, 121]⟩ : ByteArray) t101 t102 _ ?sideGl A1.out).mono ?_); (case sideGl => exact HGl.out.below (by repeat (first | (with_reducible first | exact HB.out | apply below_alloc | apply pw_below_drewN | apply below_drew1) | exact HB.out))); rintro e w25 ⟨rfl, hb⟩; refine ⟨_, rfl, ?_⟩; have n0_ := Aside0.mk (below_step (by repeat (first | (with_reducible first | exact HB.out | apply below_alloc | apply pw_below_drewN | apply below_drew1) | exact HB.out)) hb); clear HB; have HB := n0_; clear n0_; (try clear hb); (try clear hb2); (try clear hk); (try clear hi)) | ((with_reducible refine gate_callee (f := 11) rfl ?_); refine goesL_ (some 10) rfl rfl Tryd.func11 (by kernel_rfl) rfl #[.string (⟨#[61, 63, 120, 63, 81, 63, 97, 63, 61]⟩ : ByteArray)] rfl (by (try simp only [List.map_toArray, List.map_cons, List.map_nil]); first | done | rfl | (simp only [List.length_drop, List.length_take]; rfl)) ?_; (with_reducible refine (word_One.calls (⟨#[61, 63, 120, 63, 81, 63, 97, 63, 61]⟩ : ByteArray) t103 t104 _ ?sideGl A2.out).mono ?_); (case sideGl => exact HGl.out.below (by repeat (first | (with_reducible first | exact HB.out | apply below_alloc | apply pw_below_drewN | apply below_drew1) | exact HB.out))); rintro e w26 ⟨rfl, hb⟩; refine ⟨_, rfl, ?_⟩; have n0_ := Aside0.mk (below_step (by repeat (first | (with_reducible first | exact HB.out | apply below_alloc | apply pw_below_drewN | apply below_drew1) | exact HB.out)) hb); clear HB; have HB := n0_; clear n0_; (try clear hb); (try clear hb2); (try clear hk); (try clear hi)))
      go_ret
      exact ⟨by first | rfl | (simp [errW_none, errW_some] <;> rfl) | (simp [*, errW_none, errW_some] <;> rfl), by repeat (first | (with_reducible first | exact HB.out | apply below_alloc | apply pw_below_drewN | apply below_drew1) | exact HB.out)⟩
  · rw [if_neg c3] at H
    have c3b0 : (t101.toList == ([99, 97, 102, 195, 169, 32, 120] : List UInt8)) = false := beq_eq_false_iff_ne.mpr c3
    have c3b1 : (t101.toList != ([99, 97, 102, 195, 169, 32, 120] : List UInt8)) = true := bne_iff_ne.mpr c3
    obtain rfl := Option.some.inj H
    go_enter Tryd.func10, Tryd.ntmps10
    go_wp2_with (first | ((with_reducible refine gate_callee (f := 11) rfl ?_); refine goesL_ (some 6) rfl rfl Tryd.func11 (by kernel_rfl) rfl #[.string (⟨#[61, 63, 108, 97, 116, 105, 110, 49, 42, 101, 110, 63, 81, 63, 99, 97, 102, 61, 69, 57, 95, 120, 63, 61, 121]⟩ : ByteArray)] rfl (by (try simp only [List.map_toArray, List.map_cons, List.map_nil]); first | done | rfl | (simp only [List.length_drop, List.length_take]; rfl)) ?_; (with_reducible refine (word_One.calls (⟨#[61, 63, 108, 97, 116, 105, 110, 49, 42, 101, 110, 63, 81, 63, 99, 97, 102, 61, 69, 57, 95, 120, 63, 61, 121]⟩ : ByteArray) t101 t102 _ ?sideGl A1.out).mono ?_); (case sideGl => exact HGl.out.below (by repeat (first | (with_reducible first | exact HB.out | apply below_alloc | apply pw_below_drewN | apply below_drew1) | exact HB.out))); rintro e w27 ⟨rfl, hb⟩; refine ⟨_, rfl, ?_⟩; have n0_ := Aside0.mk (below_step (by repeat (first | (with_reducible first | exact HB.out | apply below_alloc | apply pw_below_drewN | apply below_drew1) | exact HB.out)) hb); clear HB; have HB := n0_; clear n0_; (try clear hb); (try clear hb2); (try clear hk); (try clear hi)) | ((with_reducible refine gate_callee (f := 11) rfl ?_); refine goesL_ (some 10) rfl rfl Tryd.func11 (by kernel_rfl) rfl #[.string (⟨#[61, 63, 120, 63, 81, 63, 97, 63, 61]⟩ : ByteArray)] rfl (by (try simp only [List.map_toArray, List.map_cons, List.map_nil]); first | done | rfl | (simp only [List.length_drop, List.length_take]; rfl)) ?_; (with_reducible refine (word_One.calls (⟨#[61, 63, 120, 63, 81, 63, 97, 63, 61]⟩ : ByteArray) t103 t104 _ ?sideGl A2.out).mono ?_); (case sideGl => exact HGl.out.below (by repeat (first | (with_reducible first | exact HB.out | apply below_alloc | apply pw_below_drewN | apply below_drew1) | exact HB.out))); rintro e w28 ⟨rfl, hb⟩; refine ⟨_, rfl, ?_⟩; have n0_ := Aside0.mk (below_step (by repeat (first | (with_reducible first | exact HB.out | apply below_alloc | apply pw_below_drewN | apply below_drew1) | exact HB.out)) hb); clear HB; have HB := n0_; clear n0_; (try clear hb); (try clear hb2); (try clear hk); (try clear hi)))
    go_ret
    exact ⟨by first | rfl | (simp [errW_none, errW_some] <;> rfl) | (simp [*, errW_none, errW_some] <;> rfl), by repeat (first | (with_reducible first | exact HB.out | apply below_alloc | apply pw_below_drewN | apply below_drew1) | exact HB.out)⟩
end Go.Proofs.YtokkgjiofhhlkaaDoor.P
namespace Go.Proofs.YtokkgjiofhhlkaaDoor.P
open Go.RowKit Go.Proofs.YtokkgjiofhhlkaaDoorW.PrintWords Go.Proofs.YtokkgjiofhhlkaaDoorW.PrintLast Go.Proofs.YtokkgjiofhhlkaaDoorW.PrintMore
attribute [local go_sem] max2_int min2_int max_two min_two max_three min_three max_four min_four
set_option linter.unusedVariables false
set_option linter.unusedSimpArgs false
mutual
def muslinlaw05_WordJoined.j0 : Nat → List ByteArray → ByteArray → Option (Bool)
  | 0, _, _ => none
  | k + 1, x0, x5 => muslinlaw05_WordJoined.l0 k x0 x5 (⟨#[]⟩ : ByteArray) (⟨#[]⟩ : ByteArray) 0
def muslinlaw05_WordJoined.l0 : Nat → List ByteArray → ByteArray → ByteArray → ByteArray → Int → Option (Bool)
  | 0, _, _, _, _, _ => none
  | k + 1, x0, x5, x6, x7, x8 => if x8 < (x0.length : Int) then (if 0 ≤ x8 then ((word_One.f (rdOf ByteArray.empty x0 x8)).bind fun bt173 => (if bt173.2 = 0 then (muslinlaw05_WordJoined.j2 k x0 x5 x6 x7 x8 bt173.1 true) else (if bt173.2 = ((rdOf ByteArray.empty x0 x8).size : Int) then (muslinlaw05_WordJoined.j2 k x0 x5 x6 x7 x8 bt173.1 (decide (bt173.2 > 200))) else (muslinlaw05_WordJoined.j2 k x0 x5 x6 x7 x8 bt173.1 true)))) else (none)) else ((word_Decode.f x6).bind fun t170 => (if t170.toList = x7.toList then ((muslinlaw05_live.f).bind fun t171 => (some t171)) else (some false)))
def muslinlaw05_WordJoined.j2 : Nat → List ByteArray → ByteArray → ByteArray → ByteArray → Int → ByteArray → Bool → Option (Bool)
  | 0, _, _, _, _, _, _, _ => none
  | k + 1, x0, x5, x6, x7, x8, x9, x44 => if x44 = true then ((muslinlaw05_live.f).bind fun t176 => (some t176)) else (if x8 > 0 then (if x6.size + x5.size ≤ 9223372036854775807 then (if 0 ≤ x8 then (if x8 < (x0.length : Int) then (if (x6 ++ x5).size + (rdOf ByteArray.empty x0 x8).size ≤ 9223372036854775807 then (if x7.size + x9.size ≤ 9223372036854775807 then (muslinlaw05_WordJoined.l0 k x0 x5 ((x6 ++ x5) ++ (rdOf ByteArray.empty x0 x8)) (x7 ++ x9) (wrap64 (x8 + 1))) else (none)) else (none)) else (none)) else (none)) else (none)) else (if 0 ≤ x8 then (if x8 < (x0.length : Int) then (if x6.size + (rdOf ByteArray.empty x0 x8).size ≤ 9223372036854775807 then (if x7.size + x9.size ≤ 9223372036854775807 then (muslinlaw05_WordJoined.l0 k x0 x5 (x6 ++ (rdOf ByteArray.empty x0 x8)) (x7 ++ x9) (wrap64 (x8 + 1))) else (none)) else (none)) else (none)) else (none)))
end
def muslinlaw05_WordJoined.f (k : Nat) (l0 : List ByteArray) (a1 : Bool) : Option (Bool) := if (l0.length : Int) > 40 then ((muslinlaw05_live.f).bind fun t169 => (some t169)) else (if a1 = true then (muslinlaw05_WordJoined.j0 k l0 (⟨#[9]⟩ : ByteArray)) else (muslinlaw05_WordJoined.j0 k l0 (⟨#[32, 10]⟩ : ByteArray)))
set_option maxHeartbeats 8000000 in
set_option maxRecDepth 100000 in
theorem muslinlaw05_WordJoined.calls (k : Nat) (A0 : Option Addr) (c0 : Nat) (l0 : List ByteArray) (a1 : Bool) (r : Bool) (w : World) (hGl : Glob w) (hr0 : Kd.C Kd.string w A0 l0.length l0) (hc0 : l0.length ≤ c0) (h : muslinlaw05_WordJoined.f k l0 a1 = some r) :
    Calls Tryd.prog 7 #[.slice A0 l0.length c0, .bool a1] w fun e w' => e = .returned (.bool r) ∧ Below w.heap.size w w' := by
  have HGl := Aside0.mk hGl
  clear hGl
  have HR0 := Aside0.mk hr0
  have HC0 := Aside0.mk hc0
  clear hr0 hc0
  have HB := Aside0.mk (Below.refl w.heap.size w)
  have H : (if (l0.length : Int) > 40 then ((muslinlaw05_live.f).bind fun t169 => (some t169)) else (if a1 = true then (muslinlaw05_WordJoined.j0 k l0 (⟨#[9]⟩ : ByteArray)) else (muslinlaw05_WordJoined.j0 k l0 (⟨#[32, 10]⟩ : ByteArray)))) = some r := h
  clear h
  by_cases c3 : (l0.length : Int) > 40
  · rw [if_pos c3] at H
    have c3b0 : decide (40 < (l0.length : Int)) = true := decide_eq_true c3
    have c3b1 : decide (40 < l0.length) = true := decide_eq_true (by omega)
    clear c3
    replace H := Option.bind_eq_some_iff.mp H
    obtain ⟨t169, A40, H⟩ := H
    replace H : (some t169) = some r := H
    have A4 := Aside0.mk A40
    clear A40
    obtain rfl := Option.some.inj H
    go_enter Tryd.func7, Tryd.ntmps7
    go_wp2_with (first | ((with_reducible refine gate_callee (f := 10) rfl ?_); refine goesL_ (some 14) rfl rfl Tryd.func10 (by kernel_rfl) rfl #[] rfl (by (try simp only [List.map_toArray, List.map_cons, List.map_nil]); first | done | rfl | (simp only [List.length_drop, List.length_take]; rfl)) ?_; (with_reducible refine (muslinlaw05_live.calls  t169 _ ?sideGl A4.out).mono ?_); (case sideGl => exact HGl.out.below (by repeat (first | (with_reducible first | exact HB.out | apply below_alloc | apply pw_below_drewN | apply below_drew1) | exact HB.out))); rintro e w5 ⟨rfl, hb⟩; refine ⟨_, rfl, ?_⟩; have n0_ := Aside0.mk (below_step (by repeat (first | (with_reducible first | exact HB.out | apply below_alloc | apply pw_below_drewN | apply below_drew1) | exact HB.out)) hb); clear HB; have HB := n0_; clear n0_; (try clear hb); (try clear hb2); (try clear hk); (try clear hi)))
    go_ret
    exact ⟨by first | rfl | (simp [errW_none, errW_some] <;> rfl) | (simp [*, errW_none, errW_some] <;> rfl), by repeat (first | (with_reducible first | exact HB.out | apply below_alloc | apply pw_below_drewN | apply below_drew1) | exact HB.out)⟩
  · rw [if_neg c3] at H
    have c3b0 : decide (40 < (l0.length : Int)) = false := decide_eq_false c3
    have c3b1 : decide (40 < l0.length) = false := decide_eq_false (by omega)
    clear c3
    have HC6 := Aside0.mk H
    clear H
    go_enter Tryd.func7, Tryd.ntmps7
    go_upto_if 15 with (fail)
    go_cut [5] (fun v5 wc => ∃ (kq : Nat) (x5_5 : ByteArray), v5 = .string x5_5 ∧ Aside0 (muslinlaw05_WordJoined.j0 kq l0 x5_5 = some r) ∧ Aside0 (kq ≤ k) ∧ Aside0 (Below w.heap.size w wc))
    case first =>
      have H := HC6.out
      clear HC6
      by_cases c7 : a1 = true
      · subst c7
        have H1 : (muslinlaw05_WordJoined.j0 k l0 (⟨#[9]⟩ : ByteArray)) = some r := by rw [if_pos rfl] at H; exact H
        clear H
        have H := H1
        clear H1
        have H' := Aside0.mk H
        clear H
        go_wp2
        go_meet
        case rel => exact ⟨_, ((⟨#[9]⟩ : ByteArray)), (by first | rfl | (simp; done) | (simp [*]; done)), H', ⟨by first | omega | exact Nat.le_refl _⟩, ⟨by repeat (first | (with_reducible first | exact HB.out | apply below_alloc | apply pw_below_drewN | apply below_drew1) | exact HB.out)⟩⟩
      · replace c7 := Bool.eq_false_iff.mpr c7
        subst c7
        have H1 : (muslinlaw05_WordJoined.j0 k l0 (⟨#[32, 10]⟩ : ByteArray)) = some r := by rw [if_neg (show ¬ (false = true) by decide)] at H; exact H
        clear H
        have H := H1
        clear H1
        have H' := Aside0.mk H
        clear H
        go_wp2
        go_meet
        case rel => exact ⟨_, ((⟨#[32, 10]⟩ : ByteArray)), (by first | rfl | (simp; done) | (simp [*]; done)), H', ⟨by first | omega | exact Nat.le_refl _⟩, ⟨by repeat (first | (with_reducible first | exact HB.out | apply below_alloc | apply pw_below_drewN | apply below_drew1) | exact HB.out)⟩⟩
    case rest =>
      clear HC6
      try clear c1
      try clear p2
      try clear c3
      try clear c3b0
      try clear c3b1
      try clear c7
      obtain ⟨kq, x5_5, rfl, HA, HJ5, HB⟩ := hcut
      cases kq with
      | zero => exact absurd HA.out (by simp [muslinlaw05_WordJoined.j0])
      | succ kj5 =>
        have H := HA.out
        clear HA
        simp only [muslinlaw05_WordJoined.j0] at H
        have H' := Aside0.mk H
        clear H
        go_wp2
        go_loopg [6, 7, 8] kj5 (fun kq v6 v7 v8 w' => ∃ (x6_2 : ByteArray) (x7_2 : ByteArray) (x8_2 : Int), v6 = .string x6_2 ∧ v7 = .string x7_2 ∧ v8 = .int .i64 x8_2 ∧ Aside0 (muslinlaw05_WordJoined.l0 kq l0 x5_5 x6_2 x7_2 x8_2 = some r) ∧ Aside0 (kq ≤ kj5) ∧ Aside0 (Below w.heap.size w w'))
        case atStart => exact ⟨((⟨#[]⟩ : ByteArray)), ((⟨#[]⟩ : ByteArray)), (0), (by first | rfl | (simp; done) | (simp [*]; done)), (by first | rfl | (simp; done) | (simp [*]; done)), (by first | rfl | (simp; done) | (simp [*]; done)), H', ⟨Nat.le_refl _⟩, ⟨by repeat (first | (with_reducible first | exact HB.out | apply below_alloc | apply pw_below_drewN | apply below_drew1) | exact HB.out)⟩⟩
        case round =>
          clear H'
          try clear c1
          try clear p2
          try clear c3
          try clear c3b0
          try clear c3b1
          try clear c7
          try clear p2
          obtain ⟨x6_2, x7_2, x8_2, rfl, rfl, rfl, HA, HK2, HB⟩ := hrel
          cases gk with
          | zero => exact absurd HA.out (by simp [muslinlaw05_WordJoined.l0])
          | succ k2 =>
            have H := HA.out
            clear HA
            simp only [muslinlaw05_WordJoined.l0] at H
            by_cases c8 : x8_2 < (l0.length : Int)
            · rw [if_pos c8] at H
              have c8b0 : decide (x8_2 < (l0.length : Int)) = true := decide_eq_true c8
              clear c8
              by_cases c9 : 0 ≤ x8_2
              · rw [if_pos c9] at H
                have c9b0 : decide (0 ≤ x8_2) = true := decide_eq_true c9
                clear c9
                replace H := Option.bind_eq_some_iff.mp H
                obtain ⟨⟨t173, t174⟩, A100, H⟩ := H
                replace H : (if t174 = 0 then (muslinlaw05_WordJoined.j2 k2 l0 x5_5 x6_2 x7_2 x8_2 t173 true) else (if t174 = ((rdOf ByteArray.empty l0 x8_2).size : Int) then (muslinlaw05_WordJoined.j2 k2 l0 x5_5 x6_2 x7_2 x8_2 t173 (decide (t174 > 200))) else (muslinlaw05_WordJoined.j2 k2 l0 x5_5 x6_2 x7_2 x8_2 t173 true))) = some r := H
                have A10 := Aside0.mk A100
                clear A100
                have HC11 := Aside0.mk H
                clear H
                have p172 : 0 ≤ (x8_2 : Int) := of_decide_eq_true (by first | (with_reducible assumption) | assumption)
                have q172 : x8_2 < (l0.length : Int) := of_decide_eq_true (by first | (with_reducible assumption) | assumption)
                obtain ⟨ad172, e172, hx172_0⟩ := Kd.at_string HR0.out x8_2 p172 q172
                cases e172
                replace hx172_0 := (HB.out.cell (World.block_lt_of_cell? w _ hx172_0)).trans hx172_0
                replace p172 := eq_true p172
                replace q172 := eq_true q172
                go_upto_region 12 with (first | ((with_reducible refine gate_callee (f := 11) rfl ?_); refine goesL_ (some 27) rfl rfl Tryd.func11 (by kernel_rfl) rfl #[.string (rdOf ByteArray.empty l0 x8_2)] rfl (by (try simp only [List.map_toArray, List.map_cons, List.map_nil]); first | done | rfl | (simp only [List.length_drop, List.length_take]; rfl)) ?_; (with_reducible refine (word_One.calls (rdOf ByteArray.empty l0 x8_2) t173 t174 _ ?sideGl A10.out).mono ?_); (case sideGl => exact HGl.out.below (by repeat (first | (with_reducible first | exact HB.out | apply below_alloc | apply pw_below_drewN | apply below_drew1) | exact HB.out))); rintro e w12 ⟨rfl, hb⟩; refine ⟨_, rfl, ?_⟩; have n0_ := Aside0.mk (below_step (by repeat (first | (with_reducible first | exact HB.out | apply below_alloc | apply pw_below_drewN | apply below_drew1) | exact HB.out)) hb); clear HB; have HB := n0_; clear n0_; (try clear hb); (try clear hb2); (try clear hk); (try clear hi)))
                (try simp only [Act.put, List.setIfInBounds_toArray, List.set_cons_zero, List.set_cons_succ])
                go_cut [44] (fun v44 wc => ∃ (kq : Nat) (x44_10 : Bool), v44 = .bool x44_10 ∧ Aside0 (muslinlaw05_WordJoined.j2 kq l0 x5_5 x6_2 x7_2 x8_2 t173 x44_10 = some r) ∧ Aside0 (kq ≤ k2) ∧ Aside0 (Below w.heap.size w wc))
                case first =>
                  have H := HC11.out
                  clear HC11
                  by_cases c13 : t174 = 0
                  · rw [if_pos c13] at H
                    have c13b0 : (t174 == 0) = true := beq_iff_eq.mpr c13
                    have c13b1 : (t174 != 0) = false := bne_eq_false_iff_eq.mpr c13
                    clear c13
                    (first | rw [c13b0] | (simp only [i64_w, i32_w]; rw [c13b0]) | skip)
                    have H' := Aside0.mk H
                    clear H
                    go_wp2
                    go_meet
                    case rel => exact ⟨_, (true), (by first | rfl | (simp; done) | (simp [*]; done)), H', ⟨by have := HJ5.out; have := HK2.out; first | omega | exact Nat.le_refl _⟩, ⟨by repeat (first | (with_reducible first | exact HB.out | apply below_alloc | apply pw_below_drewN | apply below_drew1) | exact HB.out)⟩⟩
                  · rw [if_neg c13] at H
                    have c13b0 : (t174 == 0) = false := beq_eq_false_iff_ne.mpr c13
                    have c13b1 : (t174 != 0) = true := bne_iff_ne.mpr c13
                    (first | rw [c13b0] | (simp only [i64_w, i32_w]; rw [c13b0]) | skip)
                    by_cases c14 : t174 = ((rdOf ByteArray.empty l0 x8_2).size : Int)
                    · rw [if_pos c14] at H
                      have c14b0 : (t174 == ((rdOf ByteArray.empty l0 x8_2).size : Int)) = true := beq_iff_eq.mpr c14
                      have c14b1 : (t174 != ((rdOf ByteArray.empty l0 x8_2).size : Int)) = false := bne_eq_false_iff_eq.mpr c14
                      clear c14
                      have H' := Aside0.mk H
                      clear H
                      have p175 : 0 ≤ (x8_2 : Int) := of_decide_eq_true (by first | (with_reducible assumption) | assumption)
                      have q175 : x8_2 < (l0.length : Int) := of_decide_eq_true (by first | (with_reducible assumption) | assumption)
                      obtain ⟨ad175, e175, hx175_0⟩ := Kd.at_string HR0.out x8_2 p175 q175
                      obtain rfl : ad172 = ad175 := (by injection e175)
                      replace hx175_0 := (HB.out.cell (World.block_lt_of_cell? w _ hx175_0)).trans hx175_0
                      replace p175 := eq_true p175
                      replace q175 := eq_true q175
                      go_wp2
                      go_meet
                      case rel => exact ⟨_, (decide (t174 > 200)), (by first | rfl | (simp; done) | (simp [*]; done)), H', ⟨by have := HJ5.out; have := HK2.out; first | omega | exact Nat.le_refl _⟩, ⟨by repeat (first | (with_reducible first | exact HB.out | apply below_alloc | apply pw_below_drewN | apply below_drew1) | exact HB.out)⟩⟩
                    · rw [if_neg c14] at H
                      have c14b0 : (t174 == ((rdOf ByteArray.empty l0 x8_2).size : Int)) = false := beq_eq_false_iff_ne.mpr c14
                      have c14b1 : (t174 != ((rdOf ByteArray.empty l0 x8_2).size : Int)) = true := bne_iff_ne.mpr c14
                      have H' := Aside0.mk H
                      clear H
                      have p175 : 0 ≤ (x8_2 : Int) := of_decide_eq_true (by first | (with_reducible assumption) | assumption)
                      have q175 : x8_2 < (l0.length : Int) := of_decide_eq_true (by first | (with_reducible assumption) | assumption)
                      obtain ⟨ad175, e175, hx175_0⟩ := Kd.at_string HR0.out x8_2 p175 q175
                      obtain rfl : ad172 = ad175 := (by injection e175)
                      replace hx175_0 := (HB.out.cell (World.block_lt_of_cell? w _ hx175_0)).trans hx175_0
                      replace p175 := eq_true p175
                      replace q175 := eq_true q175
                      go_wp2
                      go_meet
                      case rel => exact ⟨_, (true), (by first | rfl | (simp; done) | (simp [*]; done)), H', ⟨by have := HJ5.out; have := HK2.out; first | omega | exact Nat.le_refl _⟩, ⟨by repeat (first | (with_reducible first | exact HB.out | apply below_alloc | apply pw_below_drewN | apply below_drew1) | exact HB.out)⟩⟩
                case rest =>
                  clear HC11
                  try clear c1
                  try clear p1
                  try clear q1
                  try clear hx1
                  try clear p2
                  try clear c3
                  try clear c3b0
                  try clear c3b1
                  try clear c7
                  try clear c8
                  try clear c8b0
                  try clear c9
                  try clear c9b0
                  try clear c10
                  try clear c11
                  try clear c13
                  try clear c13b0
                  try clear c13b1
                  try clear c14
                  try clear c14b0
                  try clear c14b1
                  try clear hx172_0
                  try clear hx175_0
                  try clear p172
                  try clear p175
                  try clear p2
                  try clear q172
                  try clear q175
                  obtain ⟨kq, x44_10, rfl, HA, HJ10, HB⟩ := hcut
                  cases kq with
                  | zero => exact absurd HA.out (by simp [muslinlaw05_WordJoined.j2])
                  | succ kj10 =>
                    have H := HA.out
                    clear HA
                    simp only [muslinlaw05_WordJoined.j2] at H
                    by_cases c15 : x44_10 = true
                    · subst c15
                      have H1 : ((muslinlaw05_live.f).bind fun t176 => (some t176)) = some r := by rw [if_pos rfl] at H; exact H
                      clear H
                      have H := H1
                      clear H1
                      replace H := Option.bind_eq_some_iff.mp H
                      obtain ⟨t176, A160, H⟩ := H
                      replace H : (some t176) = some r := H
                      have A16 := Aside0.mk A160
                      clear A160
                      obtain rfl := Option.some.inj H
                      go_wp2_with (first | ((with_reducible refine gate_callee (f := 10) rfl ?_); refine goesL_ (some 45) rfl rfl Tryd.func10 (by kernel_rfl) rfl #[] rfl (by (try simp only [List.map_toArray, List.map_cons, List.map_nil]); first | done | rfl | (simp only [List.length_drop, List.length_take]; rfl)) ?_; (with_reducible refine (muslinlaw05_live.calls  t176 _ ?sideGl A16.out).mono ?_); (case sideGl => exact HGl.out.below (by repeat (first | (with_reducible first | exact HB.out | apply below_alloc | apply pw_below_drewN | apply below_drew1) | exact HB.out))); rintro e w17 ⟨rfl, hb⟩; refine ⟨_, rfl, ?_⟩; have n0_ := Aside0.mk (below_step (by repeat (first | (with_reducible first | exact HB.out | apply below_alloc | apply pw_below_drewN | apply below_drew1) | exact HB.out)) hb); clear HB; have HB := n0_; clear n0_; (try clear hb); (try clear hb2); (try clear hk); (try clear hi)))
                      go_ret
                      exact ⟨by first | rfl | (simp [errW_none, errW_some] <;> rfl) | (simp [*, errW_none, errW_some] <;> rfl), by repeat (first | (with_reducible first | exact HB.out | apply below_alloc | apply pw_below_drewN | apply below_drew1) | exact HB.out)⟩
                    · replace c15 := Bool.eq_false_iff.mpr c15
                      subst c15
                      have H1 : (if x8_2 > 0 then (if x6_2.size + x5_5.size ≤ 9223372036854775807 then (if 0 ≤ x8_2 then (if x8_2 < (l0.length : Int) then (if (x6_2 ++ x5_5).size + (rdOf ByteArray.empty l0 x8_2).size ≤ 9223372036854775807 then (if x7_2.size + t173.size ≤ 9223372036854775807 then (muslinlaw05_WordJoined.l0 kj10 l0 x5_5 ((x6_2 ++ x5_5) ++ (rdOf ByteArray.empty l0 x8_2)) (x7_2 ++ t173) (wrap64 (x8_2 + 1))) else (none)) else (none)) else (none)) else (none)) else (none)) else (if 0 ≤ x8_2 then (if x8_2 < (l0.length : Int) then (if x6_2.size + (rdOf ByteArray.empty l0 x8_2).size ≤ 9223372036854775807 then (if x7_2.size + t173.size ≤ 9223372036854775807 then (muslinlaw05_WordJoined.l0 kj10 l0 x5_5 (x6_2 ++ (rdOf ByteArray.empty l0 x8_2)) (x7_2 ++ t173) (wrap64 (x8_2 + 1))) else (none)) else (none)) else (none)) else (none))) = some r := by rw [if_neg (show ¬ (false = true) by decide)] at H; exact H
                      clear H
                      have H := H1
                      clear H1
                      by_cases c18 : x8_2 > 0
                      · rw [if_pos c18] at H
                        have c18b0 : decide (0 < x8_2) = true := decide_eq_true c18
                        clear c18
                        by_cases c19 : x6_2.size + x5_5.size ≤ 9223372036854775807
                        · rw [if_pos c19] at H
                          have c19b0 := eq_true c19
                          have c19b1 : decide (x6_2.size + x5_5.size ≤ 9223372036854775807) = true := decide_eq_true c19
                          try have c19b2 : (9223372036854775807 < x6_2.size + x5_5.size) = False := eq_false (Nat.not_lt.2 c19)
                          try (have c19b3 := c19; simp only [ByteArray.size_append] at c19b3)
                          by_cases c20 : 0 ≤ x8_2
                          · rw [if_pos c20] at H
                            have c20b0 : decide (0 ≤ x8_2) = true := decide_eq_true c20
                            clear c20
                            by_cases c21 : x8_2 < (l0.length : Int)
                            · rw [if_pos c21] at H
                              have c21b0 : decide (x8_2 < (l0.length : Int)) = true := decide_eq_true c21
                              clear c21
                              by_cases c22 : (x6_2 ++ x5_5).size + (rdOf ByteArray.empty l0 x8_2).size ≤ 9223372036854775807
                              · rw [if_pos c22] at H
                                have c22b0 := eq_true c22
                                have c22b1 : decide ((x6_2 ++ x5_5).size + (rdOf ByteArray.empty l0 x8_2).size ≤ 9223372036854775807) = true := decide_eq_true c22
                                try have c22b2 : (9223372036854775807 < (x6_2 ++ x5_5).size + (rdOf ByteArray.empty l0 x8_2).size) = False := eq_false (Nat.not_lt.2 c22)
                                try (have c22b3 := c22; simp only [ByteArray.size_append] at c22b3)
                                by_cases c23 : x7_2.size + t173.size ≤ 9223372036854775807
                                · rw [if_pos c23] at H
                                  have c23b0 := eq_true c23
                                  have c23b1 : decide (x7_2.size + t173.size ≤ 9223372036854775807) = true := decide_eq_true c23
                                  try have c23b2 : (9223372036854775807 < x7_2.size + t173.size) = False := eq_false (Nat.not_lt.2 c23)
                                  try (have c23b3 := c23; simp only [ByteArray.size_append] at c23b3)
                                  have H' := Aside0.mk H
                                  clear H
                                  have p177 : 0 ≤ (x8_2 : Int) := of_decide_eq_true (by first | (with_reducible assumption) | assumption)
                                  have q177 : x8_2 < (l0.length : Int) := of_decide_eq_true (by first | (with_reducible assumption) | assumption)
                                  obtain ⟨ad177, e177, hx177_0⟩ := Kd.at_string HR0.out x8_2 p177 q177
                                  obtain rfl : ad172 = ad177 := (by injection e177)
                                  replace hx177_0 := (HB.out.cell (World.block_lt_of_cell? w _ hx177_0)).trans hx177_0
                                  replace p177 := eq_true p177
                                  replace q177 := eq_true q177
                                  go_wp2
                                  go_roundg kj10
                                  case measure => have := HJ5.out; have := HK2.out; have := HJ10.out; omega
                                  case rel => exact ⟨((x6_2 ++ x5_5) ++ (rdOf ByteArray.empty l0 x8_2)), (x7_2 ++ t173), (wrap64 (x8_2 + 1)), (by first | rfl | (simp; done) | (simp [*]; done)), (by first | rfl | (simp; done) | (simp [*]; done)), (by first | rfl | (simp; done) | (simp [*]; done)), H', ⟨by have := HJ5.out; have := HK2.out; have := HJ10.out; omega⟩, ⟨by repeat (first | (with_reducible first | exact HB.out | apply below_alloc | apply pw_below_drewN | apply below_drew1) | exact HB.out)⟩⟩
                                · rw [if_neg c23] at H
                                  exact absurd H (by simp)
                              · rw [if_neg c22] at H
                                exact absurd H (by simp)
                            · rw [if_neg c21] at H
                              exact absurd H (by simp)
                          · rw [if_neg c20] at H
                            exact absurd H (by simp)
                        · rw [if_neg c19] at H
                          exact absurd H (by simp)
                      · rw [if_neg c18] at H
                        have c18b0 : decide (0 < x8_2) = false := decide_eq_false c18
                        clear c18
                        by_cases c24 : 0 ≤ x8_2
                        · rw [if_pos c24] at H
                          have c24b0 : decide (0 ≤ x8_2) = true := decide_eq_true c24
                          clear c24
                          by_cases c25 : x8_2 < (l0.length : Int)
                          · rw [if_pos c25] at H
                            have c25b0 : decide (x8_2 < (l0.length : Int)) = true := decide_eq_true c25
                            clear c25
                            by_cases c26 : x6_2.size + (rdOf ByteArray.empty l0 x8_2).size ≤ 9223372036854775807
                            · rw [if_pos c26] at H
                              have c26b0 := eq_true c26
                              have c26b1 : decide (x6_2.size + (rdOf ByteArray.empty l0 x8_2).size ≤ 9223372036854775807) = true := decide_eq_true c26
                              try have c26b2 : (9223372036854775807 < x6_2.size + (rdOf ByteArray.empty l0 x8_2).size) = False := eq_false (Nat.not_lt.2 c26)
                              try (have c26b3 := c26; simp only [ByteArray.size_append] at c26b3)
                              by_cases c27 : x7_2.size + t173.size ≤ 9223372036854775807
                              · rw [if_pos c27] at H
                                have c27b0 := eq_true c27
                                have c27b1 : decide (x7_2.size + t173.size ≤ 9223372036854775807) = true := decide_eq_true c27
                                try have c27b2 : (9223372036854775807 < x7_2.size + t173.size) = False := eq_false (Nat.not_lt.2 c27)
                                try (have c27b3 := c27; simp only [ByteArray.size_append] at c27b3)
                                have H' := Aside0.mk H
                                clear H
                                have p178 : 0 ≤ (x8_2 : Int) := of_decide_eq_true (by first | (with_reducible assumption) | assumption)
                                have q178 : x8_2 < (l0.length : Int) := of_decide_eq_true (by first | (with_reducible assumption) | assumption)
                                obtain ⟨ad178, e178, hx178_0⟩ := Kd.at_string HR0.out x8_2 p178 q178
                                obtain rfl : ad172 = ad178 := (by injection e178)
                                replace hx178_0 := (HB.out.cell (World.block_lt_of_cell? w _ hx178_0)).trans hx178_0
                                replace p178 := eq_true p178
                                replace q178 := eq_true q178
                                go_wp2
                                go_roundg kj10
                                case measure => have := HJ5.out; have := HK2.out; have := HJ10.out; omega
                                case rel => exact ⟨(x6_2 ++ (rdOf ByteArray.empty l0 x8_2)), (x7_2 ++ t173), (wrap64 (x8_2 + 1)), (by first | rfl | (simp; done) | (simp [*]; done)), (by first | rfl | (simp; done) | (simp [*]; done)), (by first | rfl | (simp; done) | (simp [*]; done)), H', ⟨by have := HJ5.out; have := HK2.out; have := HJ10.out; omega⟩, ⟨by repeat (first | (with_reducible first | exact HB.out | apply below_alloc | apply pw_below_drewN | apply below_drew1) | exact HB.out)⟩⟩
                              · rw [if_neg c27] at H
                                exact absurd H (by simp)
                            · rw [if_neg c26] at H
                              exact absurd H (by simp)
                          · rw [if_neg c25] at H
                            exact absurd H (by simp)
                        · rw [if_neg c24] at H
                          exact absurd H (by simp)
              · rw [if_neg c9] at H
                exact absurd H (by simp)
            · rw [if_neg c8] at H
              have c8b0 : decide (x8_2 < (l0.length : Int)) = false := decide_eq_false c8
              clear c8
              replace H := Option.bind_eq_some_iff.mp H
              obtain ⟨t170, A280, H⟩ := H
              replace H : (if t170.toList = x7_2.toList then ((muslinlaw05_live.f).bind fun t171 => (some t171)) else (some false)) = some r := H
              have A28 := Aside0.mk A280
              clear A280
              by_cases c29 : t170.toList = x7_2.toList
              · rw [if_pos c29] at H
                have c29b0 : (t170.toList == x7_2.toList) = true := beq_iff_eq.mpr c29
                have c29b1 : (t170.toList != x7_2.toList) = false := bne_eq_false_iff_eq.mpr c29
                clear c29
                replace H := Option.bind_eq_some_iff.mp H
                obtain ⟨t171, A300, H⟩ := H
                replace H : (some t171) = some r := H
                have A30 := Aside0.mk A300
                clear A300
                obtain rfl := Option.some.inj H
                go_wp2_with (first | ((with_reducible refine gate_callee (f := 13) rfl ?_); refine goesL_ (some 61) rfl rfl Tryd.func13 (by kernel_rfl) rfl #[.string x6_2] rfl (by (try simp only [List.map_toArray, List.map_cons, List.map_nil]); first | done | rfl | (simp only [List.length_drop, List.length_take]; rfl)) ?_; (with_reducible refine (word_Decode.calls x6_2 t170 _ ?sideGl A28.out).mono ?_); (case sideGl => exact HGl.out.below (by repeat (first | (with_reducible first | exact HB.out | apply below_alloc | apply pw_below_drewN | apply below_drew1) | exact HB.out))); rintro e w31 ⟨rfl, hb⟩; refine ⟨_, rfl, ?_⟩; have n0_ := Aside0.mk (below_step (by repeat (first | (with_reducible first | exact HB.out | apply below_alloc | apply pw_below_drewN | apply below_drew1) | exact HB.out)) hb); clear HB; have HB := n0_; clear n0_; (try clear hb); (try clear hb2); (try clear hk); (try clear hi)) | (go_at_call 10; (with_reducible refine (muslinlaw05_live.calls  t171 _ ?sideGl A30.out).mono ?_); (case sideGl => exact HGl.out.below (by repeat (first | (with_reducible first | exact HB.out | apply below_alloc | apply pw_below_drewN | apply below_drew1) | exact HB.out))); rintro e w32 ⟨rfl, hb⟩; have n0_ := Aside0.mk (below_step (by repeat (first | (with_reducible first | exact HB.out | apply below_alloc | apply pw_below_drewN | apply below_drew1) | exact HB.out)) hb); clear HB; have HB := n0_; clear n0_; (try clear hb); (try clear hb2); (try clear hk); (try clear hi)))
                go_ret
                exact ⟨by first | rfl | (simp [errW_none, errW_some] <;> rfl) | (simp [*, errW_none, errW_some] <;> rfl), by repeat (first | (with_reducible first | exact HB.out | apply below_alloc | apply pw_below_drewN | apply below_drew1) | exact HB.out)⟩
              · rw [if_neg c29] at H
                have c29b0 : (t170.toList == x7_2.toList) = false := beq_eq_false_iff_ne.mpr c29
                have c29b1 : (t170.toList != x7_2.toList) = true := bne_iff_ne.mpr c29
                obtain rfl := Option.some.inj H
                go_wp2_with (first | ((with_reducible refine gate_callee (f := 13) rfl ?_); refine goesL_ (some 61) rfl rfl Tryd.func13 (by kernel_rfl) rfl #[.string x6_2] rfl (by (try simp only [List.map_toArray, List.map_cons, List.map_nil]); first | done | rfl | (simp only [List.length_drop, List.length_take]; rfl)) ?_; (with_reducible refine (word_Decode.calls x6_2 t170 _ ?sideGl A28.out).mono ?_); (case sideGl => exact HGl.out.below (by repeat (first | (with_reducible first | exact HB.out | apply below_alloc | apply pw_below_drewN | apply below_drew1) | exact HB.out))); rintro e w33 ⟨rfl, hb⟩; refine ⟨_, rfl, ?_⟩; have n0_ := Aside0.mk (below_step (by repeat (first | (with_reducible first | exact HB.out | apply below_alloc | apply pw_below_drewN | apply below_drew1) | exact HB.out)) hb); clear HB; have HB := n0_; clear n0_; (try clear hb); (try clear hb2); (try clear hk); (try clear hi)))
                go_ret
                exact ⟨by first | rfl | (simp [errW_none, errW_some] <;> rfl) | (simp [*, errW_none, errW_some] <;> rfl), by repeat (first | (with_reducible first | exact HB.out | apply below_alloc | apply pw_below_drewN | apply below_drew1) | exact HB.out)⟩
end Go.Proofs.YtokkgjiofhhlkaaDoor.P
namespace Go.Proofs.YtokkgjiofhhlkaaDoor.Pure
open Go.RowKit Go.Lib Go.Proofs.YtokkgjiofhhlkaaDoor Go.Proofs.YtokkgjiofhhlkaaDoor.P Go.Proofs.YtokkgjiofhhlkaaDoor.WordL Go.Proofs.YtokkgjiofhhlkaaDoorW.PrintWords Go.Proofs.YtokkgjiofhhlkaaDoorW.PrintLast
set_option linter.unusedVariables false
set_option linter.unusedSimpArgs false
theorem live_is : muslinlaw05_live.f = some true := by kernel_rfl
theorem live_end : Ev (fun k => (muslinlaw05_live.f).bind fun t => some t) true := by rw [live_is]; exact Ev.now _
end Go.Proofs.YtokkgjiofhhlkaaDoor.Pure
namespace Go.Proofs.YtokkgjiofhhlkaaDoor.Pure
open Go.RowKit Go.Lib Go.Proofs.YtokkgjiofhhlkaaDoor Go.Proofs.YtokkgjiofhhlkaaDoor.P Go.Proofs.YtokkgjiofhhlkaaDoor.WordL Go.Proofs.YtokkgjiofhhlkaaDoorW.PrintWords Go.Proofs.YtokkgjiofhhlkaaDoorW.PrintLast
set_option linter.unusedVariables false
set_option linter.unusedSimpArgs false
theorem rdOf_get (l : List ByteArray) (i : Nat) (h : i < l.length) : rdOf ByteArray.empty l (i : Int) = l[i] := by
  unfold rdOf
  simp [h]
theorem joined_loop (l : List ByteArray) (hll : l.length ≤ 40) (hl : ∀ s ∈ l, s.size ≤ 1048576) (x5 : ByteArray) (h5 : x5.data.toList.all white = true) (h5z : x5.size ≤ 2) : ∀ (n i : Nat) (x6 x7 : ByteArray), l.length - i ≤ n → i ≤ l.length →
    (∀ r, wordF [] false (x6.data.toList ++ r) = x7.data.toList ++ wordF [] (decide (0 < i)) r) → x6.size ≤ 210 * i → x7.size ≤ 1300 * i →
    Ev (fun k => muslinlaw05_WordJoined.l0 k l x5 x6 x7 (i : Int)) true := by
  have fin : ∀ (i : Nat) (x6 x7 : ByteArray), l.length ≤ i → i ≤ l.length → (∀ r, wordF [] false (x6.data.toList ++ r) = x7.data.toList ++ wordF [] (decide (0 < i)) r) → x6.size ≤ 210 * i →
      Ev (fun k => muslinlaw05_WordJoined.l0 k l x5 x6 x7 (i : Int)) true := by
    intro i x6 x7 h1 h2 h3 h4
    have e := h3 []
    rw [List.append_nil, wordF_nil, vl_nil, List.append_nil] at e
    refine Ev.round (fun k => by rw [muslinlaw05_WordJoined.l0]) ?_
    refine Ev.neg (by omega) ?_
    refine Ev.got (x := word_Decode.f x6) (guard_of (by omega)) ?_
    refine Ev.pos (by rw [toList_eq, toList_eq, mk_toList]; exact e) ?_
    exact live_end
  intro n
  induction n with
  | zero => intro i x6 x7 h1 h2 h3 h4 h7; exact fin i x6 x7 (by omega) h2 h3 h4
  | succ n ih =>
    intro i x6 x7 h1 h2 h3 h4 h7
    by_cases hlt : i < l.length
    · have hget := rdOf_get l i hlt
      have hm := hl l[i] (List.getElem_mem hlt)
      have hon := one_len1 l[i].data.toList
      generalize hL : l[i] = L at *
      have jt : Ev (fun k => muslinlaw05_WordJoined.j2 k l x5 x6 x7 (i : Int) (⟨(oneL L.data.toList).1.toArray⟩ : ByteArray) true) true := by
        refine Ev.round (fun k => by rw [muslinlaw05_WordJoined.j2]) ?_
        refine Ev.pos rfl ?_
        exact live_end
      refine Ev.round (fun k => by rw [muslinlaw05_WordJoined.l0]) ?_
      refine Ev.pos (by omega) ?_
      refine Ev.pos (by omega) ?_
      rw [hget]
      refine Ev.got (x := word_One.f L) (guard_of (by omega)) ?_
      by_cases h0 : (oneL L.data.toList).2 = 0
      · refine Ev.pos (by show ((oneL L.data.toList).2 : Int) = 0; omega) ?_
        exact jt
      · refine Ev.neg (by show ¬ ((oneL L.data.toList).2 : Int) = 0; omega) ?_
        by_cases hz : (oneL L.data.toList).2 = L.size
        · refine Ev.pos (by show ((oneL L.data.toList).2 : Int) = (L.size : Int); omega) ?_
          by_cases h200 : 200 < L.size
          · rw [show decide (((oneL L.data.toList).2 : Int) > 200) = true from decide_eq_true (by omega)]
            exact jt
          · rw [show decide (((oneL L.data.toList).2 : Int) > 200) = false from decide_eq_false (by omega)]
            rw [sizeL] at hon
            have hne : L.data.toList ≠ [] := by intro e; have : L.size = 0 := (by rw [← sizeL, e]; rfl); omega
            have hst : ∀ (p r : List UInt8) (b : Bool), (p = [] ∨ (b = true ∧ p.all white = true)) → wordF p b (L.data.toList ++ r) = (oneL L.data.toList).1 ++ wordF [] true r := fun p r b hp => joined_step p _ r b hp (by rw [hz, sizeL]) hne
            have htz : (⟨(oneL L.data.toList).1.toArray⟩ : ByteArray).size = (oneL L.data.toList).1.length := mk_size _
            have hw : wrap64 ((i : Int) + 1) = ((i + 1 : Nat) : Int) := (w64 (by omega) (by omega)).trans (by omega)
            have HW := Lib.hid hw
            clear hw
            have cat : ∀ x y : ByteArray, (x ++ y).data.toList = x.data.toList ++ y.data.toList := fun x y => by simp
            have bs : ∀ x y : ByteArray, (x ++ y).size = x.size + y.size := fun x y => ByteArray.size_append
            have htd : (⟨(oneL L.data.toList).1.toArray⟩ : ByteArray).data.toList = (oneL L.data.toList).1 := rfl
            refine Ev.round (fun k => by rw [muslinlaw05_WordJoined.j2]) ?_
            refine Ev.neg Bool.false_ne_true ?_
            rw [hget, HW.out]
            by_cases hi : 0 < i
            · refine Ev.pos (by omega) ?_
              refine Ev.pos (by omega) ?_
              refine Ev.pos (by omega) ?_
              refine Ev.pos (by omega) ?_
              refine Ev.pos (by rw [bs]; omega) ?_
              refine Ev.pos (by show x7.size + (⟨(oneL L.data.toList).1.toArray⟩ : ByteArray).size ≤ 9223372036854775807; omega) ?_
              refine ih (i + 1) _ _ (by omega) (by omega) (fun r => ?_) (by rw [bs, bs]; omega) (by rw [bs, htz]; omega)
              rw [cat, cat, cat, htd, decide_eq_true (by omega : 0 < i + 1), List.append_assoc, List.append_assoc, h3, decide_eq_true hi, white_skip _ _ _ h5]
              rw [hst _ _ true (.inr ⟨rfl, by simpa using h5⟩)]; simp
            · refine Ev.neg (by omega) ?_
              refine Ev.pos (by omega) ?_
              refine Ev.pos (by omega) ?_
              refine Ev.pos (by omega) ?_
              refine Ev.pos (by show x7.size + (⟨(oneL L.data.toList).1.toArray⟩ : ByteArray).size ≤ 9223372036854775807; omega) ?_
              refine ih (i + 1) _ _ (by omega) (by omega) (fun r => ?_) (by rw [bs]; omega) (by rw [bs, htz]; omega)
              rw [cat, cat, htd, decide_eq_true (by omega : 0 < i + 1), List.append_assoc, h3, decide_eq_false hi]
              rw [hst _ _ false (.inl rfl)]; simp
        · refine Ev.neg (by show ¬ ((oneL L.data.toList).2 : Int) = (L.size : Int); omega) ?_
          exact jt
    · exact fin i x6 x7 (by omega) h2 h3 h4
theorem WordJoined (l : List ByteArray) (tab : Bool) (hl : ∀ s ∈ l, s.size ≤ 1048576) : ∃ k, muslinlaw05_WordJoined.f k l tab = some true := by
  refine Ev.rounds (r := true) (g := fun k => muslinlaw05_WordJoined.f k l tab) ?_
  unfold muslinlaw05_WordJoined.f
  by_cases h : l.length ≤ 40
  · refine Ev.neg (by omega) ?_
    have go : ∀ x5 : ByteArray, x5.data.toList.all white = true → x5.size ≤ 2 → Ev (fun k => muslinlaw05_WordJoined.j0 k l x5) true := by
      intro x5 a b
      refine Ev.round (fun k => by rw [muslinlaw05_WordJoined.j0]) ?_
      exact joined_loop l h hl x5 a b l.length 0 _ _ (by omega) (by omega) (fun r => by simp) (by decide) (by decide)
    cases tab with
    | true =>
      refine Ev.pos rfl ?_
      exact go _ (by decide) (by decide)
    | false =>
      refine Ev.neg Bool.false_ne_true ?_
      exact go _ (by decide) (by decide)
  · refine Ev.pos (by omega) ?_
    exact live_end
end Go.Proofs.YtokkgjiofhhlkaaDoor.Pure
namespace Go.Proofs.YtokkgjiofhhlkaaDoor
open Go.RowKit Go.ChangeShapes Go.WideShapes Go.ChangeAt Go.Lib
theorem glob_of {W : World} {a : DataW Unit} (ha : a = acceptData) (h : laidMet Tryd.prog [("unicode/utf8.acceptRanges", a), ("muslin/chars.high", Lib.tabData .i32 highTab), ("unicode/utf8.first", Go.Pinned.utf8First)] W) (hsh : W.ShapedOpen Tryd.prog) : Glob W := by
  refine ⟨Lib.tabIs_of_head (show Tryd.prog.globalNamed "muslin/chars.high" = some 0 from by kernel_rfl) (show (Tryd.prog.globals[0]?).map (·.type) = some 80 from by kernel_rfl) Tryd.underlying80 Tryd.underlying21 (by kernel_rfl) (by kernel_rfl) h.tail, ?_, ?_⟩
  · obtain ⟨ps, hl, _⟩ := h
    have rd := LaidVars_reads hl
    have r1 := rd "unicode/utf8.acceptRanges" a (by simp)
    have r3 := rd "unicode/utf8.first" Go.Pinned.utf8First (by simp)
    rw [ha] at r1
    rw [Go.Pinned.utf8First_eq] at r3
    exact utf8Tabs_of_reads Tryd.lays260 ⟨by kernel_rfl, by kernel_rfl, by kernel_rfl, by kernel_rfl, by kernel_rfl, by kernel_rfl, by kernel_rfl⟩ r3 r1
  · exact Go.Proofs.cell_of_shapedOpen_int (zero := #[.int .i64 0]) (t := 3) hsh (of_decide_eq_true (by kernel_rfl)) (by kernel_rfl) rfl (by kernel_rfl) (by kernel_rfl) Tryd.underlying3
theorem glob_wordJoined {W : World} (h : laidMetH Tryd.prog Rows.wordJoinedUptoRow.laid W) (hsh : W.ShapedOpen Tryd.prog) : Glob W := glob_of (by kernel_rfl) h hsh
end Go.Proofs.YtokkgjiofhhlkaaDoor
namespace Go.Proofs.YtokkgjiofhhlkaaDoor
open Go.RowKit Go.ChangeShapes Go.WideShapes Go.ChangeAt Go.Lib
abbrev withCond (s : ChangeSpec) (k : (H : Type) → List (DataW H) → Bool) : OpenSpec := { OpenSpec.ofChange s with cond := some k }
theorem wrap_upto {H : Type} {enc : TypeId × Value → H} {a : Assume} {C : Checked} {os : Os} {f : FuncId} {fn : Func} {s : ChangeSpec} {k : (H : Type) → List (DataW H) → Bool} {conds : List PathCond} {apart fresh handsOn again : Bool} {X : World → Array Value → Prop} (F : Stop.Interp)
    (hX : ∀ (w w' : World) (args : Array Value), w.heap = w'.heap → X w args → X w' args)
    (own : ownKnob C.prog.godebug = none) (started : os.Started) (noInit : C.prog.inits.idxOf? f = none) (hfn : C.prog.funcs[f]? = some fn)
    (witness : ∃ (w : World) (tape : Tape) (i : Input), w.os = os ∧ (w.forCall tape i).Shaped C.prog ∧ i.vars = [] ∧ Input.okWide C.prog (w.forCall tape i) .any w.heap.size f i ∧
      (((withCond s k).pre enc C.prog fn conds apart (w.forCall tape i).memory i.args ∧ X (w.forCall tape i).memory i.args) ∧ sizedMet enc C.prog fn (withCond s k) apart (w.forCall tape i).memory i.args) ∧ a.holds C.prog (lone (Frame.enter C.prog f i.args .normal) [] (w.forCall tape i)))
    (contract : ∀ (W : World) (base : Nat) (args : Array Value) (ds gs : List (DataW H)) (before : List MemPlace),
      (∀ (j : Nat) t v, fn.params[j]? = some t → args[j]? = some v → Value.okWide C.prog W .any base t v) →
      DataW.Whole enc C.prog fn.params.toList s.vars apart W args.toList ds gs before →
      conds.all (PathCond.test C.prog ⟨fn.params.toList, ds, (withCond s k).bare.plain.varTypes C.prog, gs⟩) = true → k H (ds ++ gs) = true →
      (DataW.weightsEach C.prog (fn.params.toList ++ (withCond s k).bare.plain.varTypes C.prog) (ds ++ gs)).all (· ≤ reachBytes) = true → X W args → W.ShapedOpen C.prog →
      a.holds C.prog (lone (Frame.enter C.prog f args .normal) [] W) →
      Calls C.prog f args W fun e W' => ∃ v, e = .returned v ∧ ((withCond s k).at F).post enc C.prog fn apart fresh handsOn again W args v W') :
    ReturnsInHanded a C os f .any (fun w args => ((withCond s k).pre enc C.prog fn conds apart w args ∧ X w args) ∧ sizedMet enc C.prog fn (withCond s k) apart w args) (((withCond s k).at F).post enc C.prog fn apart fresh handsOn again) := by
  refine returnsInHanded_of_calls own started noInit witness ?_
  intro w tape i _ hsh _ hok hpre hholds
  obtain ⟨_, _, _, fn', hfn', _, _, _, _, hval⟩ := hok
  obtain rfl : fn' = fn := Option.some.inj (hfn'.symm.trans hfn)
  obtain ⟨ds, gs, before, hw, hc, hkk⟩ := (OpenSpec.pre_some (s := withCond s k) rfl conds apart _ _).1 hpre.1.1
  refine (contract (w.forCall tape i) w.heap.size i.args ds gs before hval (DataW.Whole.of_heap (w' := w.forCall tape i) (by rfl) hw) hc hkk (hpre.2.weights hw) (hX _ _ _ (by rfl) hpre.1.2) hsh hholds).mono fun e W' ⟨v, he, hp⟩ => ?_
  subst he
  exact ChangeSpec.post_blind hp
theorem witness_upto {H : Type} {enc : TypeId × Value → H} {C : Checked} {os : Os} {f : FuncId} {fn : Func} {s : ChangeSpec} {k : (H : Type) → List (DataW H) → Bool} {conds : List PathCond} {apart : Bool} {X : World → Array Value → Prop} (modest : Bool) (w0 : World) (args : Array Value) (fuel : Nat) (hos : w0.os = os)
    (hsh : (w0.forCall (fun _ _ => 0) ⟨#[], args, []⟩).Shaped C.prog)
    (hok : Input.okWideB C.prog (w0.forCall (fun _ _ => 0) ⟨#[], args, []⟩) f ⟨#[], args, []⟩ = true)
    {x : List (DataW H) × List (DataW H) × List MemPlace} (hxx : DataW.whole enc C.prog (w0.forCall (fun _ _ => 0) ⟨#[], args, []⟩).memory fn.params.toList s.vars apart args.toList fuel = some x)
    (hconds : conds.all (PathCond.test C.prog ⟨fn.params.toList, x.1, (withCond s k).bare.plain.varTypes C.prog, x.2.1⟩) = true) (hkk : k H (x.1 ++ x.2.1) = true)
    (hsz : s.sizedB enc C.prog fn apart (w0.forCall (fun _ _ => 0) ⟨#[], args, []⟩).memory args fuel = true)
    (hx : X (w0.forCall (fun _ _ => 0) ⟨#[], args, []⟩).memory args) :
    ∃ (w : World) (tape : Tape) (i : Input), w.os = os ∧ (w.forCall tape i).Shaped C.prog ∧ i.vars = [] ∧ Input.okWide C.prog (w.forCall tape i) .any w.heap.size f i ∧
      (((withCond s k).pre enc C.prog fn conds apart (w.forCall tape i).memory i.args ∧ X (w.forCall tape i).memory i.args) ∧ sizedMet enc C.prog fn (withCond s k) apart (w.forCall tape i).memory i.args) ∧ ({ modest := modest } : Assume).holds C.prog (lone (Frame.enter C.prog f i.args .normal) [] (w.forCall tape i)) :=
  ⟨w0, fun _ _ => 0, ⟨#[], args, []⟩, hos, hsh, (Input.okWide_of_okWideB (base := 0) hok).1, (Input.okWide_of_okWideB hok).2,
    ⟨⟨(OpenSpec.pre_some (s := withCond s k) rfl conds apart _ _).2 ⟨x.1, x.2.1, x.2.2, DataW.Whole_of_whole hxx, hconds, hkk⟩, hx⟩, sizedMet_of_sizedB hsz⟩, by
    simp only [Assume.holds]
    exact ⟨by simp, by simp, fun _ => Modest.zero, by simp, by simp⟩⟩
theorem bulk_mem {H : Type} : ∀ (l : List (DataW H)) (d : DataW H), d ∈ l → Rows.uptoBulk d ≤ Rows.uptoBulkAll l
  | [], d, h => by simp at h
  | e :: r, d, h => by
    simp only [Rows.uptoBulkAll]
    rcases List.mem_cons.1 h with rfl | h
    · omega
    · have := bulk_mem r d h; omega
theorem bulk_strs {H : Type} (l : List ByteArray) (s : ByteArray) (h : s ∈ l) : s.size ≤ Rows.uptoBulkAll (strs (H := H) l) := by
  have h1 : (DataW.lit (.string s.data.toList) : DataW H) ∈ strs (H := H) l := by
    unfold strs
    exact List.mem_map.2 ⟨s, h, rfl⟩
  have h2 := bulk_mem _ _ h1
  have h3 : Rows.uptoBulk (DataW.lit (.string s.data.toList) : DataW H) = s.data.toList.length + 1 := by simp only [Rows.uptoBulk]
  have h4 : s.data.toList.length = s.size := by simp
  omega
theorem strs_upto {H : Type} {enc : TypeId × Value → H} {P : Program} {W : World} {base : Nat} {spare : Nat → Bool} {held : Bool} {t e : TypeId} {b : Option Addr} {len cap : Nat} {d : DataW H} {ps : List MemPlace}
    (hu : P.underlying t = some (.slice e)) (he : P.underlying e = some .string) (hc : P.cellsOf e = 1) (h : DataW.Trod enc P W base spare held t (.slice b len cap) d ps) :
    ∃ l : List ByteArray, len = l.length ∧ l.length ≤ cap ∧ l.length ≤ maxLen ∧ Go.Proofs.YtokkgjiofhhlkaaDoorW.PrintWords.Kd.C Go.Proofs.YtokkgjiofhhlkaaDoorW.PrintWords.Kd.string W b l.length l ∧ ∀ s ∈ l, s.size ≤ Rows.uptoBulk d := by
  obtain ⟨fuel, hf⟩ := h
  rcases open_strings hu he hc hf with ⟨hcs, _⟩ | ⟨x, l, c, ss, hcs, _, hl, hm, hz, hd, hcell, hsz⟩
  · simp [Value.cells] at hcs
    obtain ⟨rfl, rfl, rfl⟩ := hcs
    exact ⟨[], rfl, Nat.le_refl _, by simp [maxLen], Go.Proofs.YtokkgjiofhhlkaaDoorW.PrintWords.Kd.C_nil _ _, by simp⟩
  · simp [Value.cells] at hcs
    obtain ⟨rfl, rfl, rfl⟩ := hcs
    have hll : len ≤ ss.length := by rw [hz]; split; exact hl; exact Nat.le_refl _
    have htl : (ss.take len).length = len := by rw [List.length_take]; omega
    refine ⟨ss.take len, htl.symm, by omega, by omega, ⟨rfl, by unfold maxLen at hm; omega, fun _ => ⟨x, rfl, ?_⟩⟩, fun s hs => ?_⟩
    · intro j q hj
      obtain ⟨hjl, rfl⟩ := List.getElem?_eq_some_iff.1 hj
      refine ⟨[.string (ss.take len)[j]], rfl, rfl, fun i u hu => ?_⟩
      obtain ⟨rfl, rfl⟩ : i = 0 ∧ u = .string (ss.take len)[j] := by
        cases i with
        | zero => exact ⟨rfl, (Option.some.inj hu).symm⟩
        | succ i => simp at hu
      have h2 := hcell j (by omega)
      have e3 : ss.getD j ByteArray.empty = (ss.take len)[j] := by rw [List.getD_eq_getElem?_getD, List.getElem?_eq_getElem (by omega)]; simp
      rw [e3] at h2
      show W.cell? (x.add (j * 1 + 0)) = _
      rw [Nat.mul_one]
      exact h2
    · injection hd with hd1 hd2
      rw [hd1]
      simp only [Rows.uptoBulk]
      have := bulk_strs (H := H) (ss.take len) s hs
      omega
end Go.Proofs.YtokkgjiofhhlkaaDoor
