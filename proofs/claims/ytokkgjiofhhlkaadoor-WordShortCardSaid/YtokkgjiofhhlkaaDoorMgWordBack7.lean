/- Parts of the proof of the law WordBack, in one text: P4, P5, Pure05, Laid05. -/
import Derived.Test.YtokkgjiofhhlkaaDoorMgWordBack6
import Derived.Test.YtokkgjiofhhlkaaDoorRows
import Derived.Test.YtokkgjiofhhlkaaDoorMgWordBack1
import Derived.Test.YtokkgjiofhhlkaaDoorMgWordBack0
import Derived.Lay
import Derived.PinnedBridge
import Derived.Lib.LaidU8
import Derived.Lib.LaidTab
import Derived.Stop.LaidErr
import Derived.LaidMore
import Derived.ProofKit
import Derived.HandedShaped
import Derived.Handed
namespace Go.Proofs.YtokkgjiofhhlkaaDoor.P
open Go.RowKit Go.Proofs.YtokkgjiofhhlkaaDoorW.PrintWords Go.Proofs.YtokkgjiofhhlkaaDoorW.PrintLast Go.Proofs.YtokkgjiofhhlkaaDoorW.PrintMore
attribute [local go_sem] max2_int min2_int max_two min_two max_three min_three max_four min_four
set_option linter.unusedVariables false
set_option linter.unusedSimpArgs false
def muslinlaw05_WordEncodes.f (a0 : ByteArray) : Option (Bool) := (muslinlaw05_short.f a0).bind fun t151 => (if t151 = true then ((word_Encode.f a0).bind fun t152 => ((muslinref05_Encode.f a0).bind fun t153 => (if t152.toList = t153.toList then ((muslinlaw05_live.f).bind fun t154 => (some t154)) else (some false)))) else ((muslinlaw05_live.f).bind fun t155 => (some t155)))
set_option maxHeartbeats 8000000 in
set_option maxRecDepth 100000 in
theorem muslinlaw05_WordEncodes.calls (a0 : ByteArray) (r : Bool) (w : World) (hGl : Glob w) (h : muslinlaw05_WordEncodes.f a0 = some r) :
    Calls Tryd.prog 4 #[.string a0] w fun e w' => e = .returned (.bool r) ∧ Below w.heap.size w w' := by
  have HGl := Aside0.mk hGl
  clear hGl
  have HB := Aside0.mk (Below.refl w.heap.size w)
  have H : ((muslinlaw05_short.f a0).bind fun t151 => (if t151 = true then ((word_Encode.f a0).bind fun t152 => ((muslinref05_Encode.f a0).bind fun t153 => (if t152.toList = t153.toList then ((muslinlaw05_live.f).bind fun t154 => (some t154)) else (some false)))) else ((muslinlaw05_live.f).bind fun t155 => (some t155)))) = some r := h
  clear h
  replace H := Option.bind_eq_some_iff.mp H
  obtain ⟨t151, A20, H⟩ := H
  replace H : (if t151 = true then ((word_Encode.f a0).bind fun t152 => ((muslinref05_Encode.f a0).bind fun t153 => (if t152.toList = t153.toList then ((muslinlaw05_live.f).bind fun t154 => (some t154)) else (some false)))) else ((muslinlaw05_live.f).bind fun t155 => (some t155))) = some r := H
  have A2 := Aside0.mk A20
  clear A20
  by_cases c3 : t151 = true
  · subst c3
    have H1 : ((word_Encode.f a0).bind fun t152 => ((muslinref05_Encode.f a0).bind fun t153 => (if t152.toList = t153.toList then ((muslinlaw05_live.f).bind fun t154 => (some t154)) else (some false)))) = some r := by rw [if_pos rfl] at H; exact H
    clear H
    have H := H1
    clear H1
    replace H := Option.bind_eq_some_iff.mp H
    obtain ⟨t152, A40, H⟩ := H
    replace H : ((muslinref05_Encode.f a0).bind fun t153 => (if t152.toList = t153.toList then ((muslinlaw05_live.f).bind fun t154 => (some t154)) else (some false))) = some r := H
    have A4 := Aside0.mk A40
    clear A40
    replace H := Option.bind_eq_some_iff.mp H
    obtain ⟨t153, A50, H⟩ := H
    replace H : (if t152.toList = t153.toList then ((muslinlaw05_live.f).bind fun t154 => (some t154)) else (some false)) = some r := H
    have A5 := Aside0.mk A50
    clear A50
    by_cases c6 : t152.toList = t153.toList
    · rw [if_pos c6] at H
      have c6b0 : (t152.toList == t153.toList) = true := beq_iff_eq.mpr c6
      have c6b1 : (t152.toList != t153.toList) = false := bne_eq_false_iff_eq.mpr c6
      clear c6
      replace H := Option.bind_eq_some_iff.mp H
      obtain ⟨t154, A70, H⟩ := H
      replace H : (some t154) = some r := H
      have A7 := Aside0.mk A70
      clear A70
      obtain rfl := Option.some.inj H
      go_enter Tryd.func4, Tryd.ntmps4
      go_wp2_with (first | ((with_reducible refine gate_callee (f := 9) rfl ?_); refine goesL_ (some 4) rfl rfl Tryd.func9 (by kernel_rfl) rfl #[.string a0] rfl (by (try simp only [List.map_toArray, List.map_cons, List.map_nil]); first | done | rfl | (simp only [List.length_drop, List.length_take]; rfl)) ?_; (with_reducible refine (muslinlaw05_short.calls a0 true _ A2.out).mono ?_); rintro e w' ⟨rfl, ⟨nd, rfl⟩⟩; refine ⟨_, rfl, ?_⟩) | ((with_reducible refine gate_callee (f := 15) rfl ?_); refine goesL_ (some 8) rfl rfl Tryd.func15 (by kernel_rfl) rfl #[.string a0] rfl (by (try simp only [List.map_toArray, List.map_cons, List.map_nil]); first | done | rfl | (simp only [List.length_drop, List.length_take]; rfl)) ?_; (with_reducible refine (word_Encode.calls a0 t152 _ ?sideGl A4.out).mono ?_); (case sideGl => exact HGl.out.below (by repeat (first | (with_reducible first | exact HB.out | apply below_alloc | apply pw_below_drewN | apply below_drew1) | exact HB.out))); rintro e w8 ⟨rfl, hb⟩; refine ⟨_, rfl, ?_⟩; have n0_ := Aside0.mk (below_step (by repeat (first | (with_reducible first | exact HB.out | apply below_alloc | apply pw_below_drewN | apply below_drew1) | exact HB.out)) hb); clear HB; have HB := n0_; clear n0_; (try clear hb); (try clear hb2); (try clear hk); (try clear hi)) | ((with_reducible refine gate_callee (f := 16) rfl ?_); refine goesL_ (some 10) rfl rfl Tryd.func16 (by kernel_rfl) rfl #[.string a0] rfl (by (try simp only [List.map_toArray, List.map_cons, List.map_nil]); first | done | rfl | (simp only [List.length_drop, List.length_take]; rfl)) ?_; (with_reducible refine (muslinref05_Encode.calls a0 t153 _ A5.out).mono ?_); rintro e w9 ⟨rfl, hb⟩; refine ⟨_, rfl, ?_⟩; have n0_ := Aside0.mk (below_step (by repeat (first | (with_reducible first | exact HB.out | apply below_alloc | apply pw_below_drewN | apply below_drew1) | exact HB.out)) hb); clear HB; have HB := n0_; clear n0_; (try clear hb); (try clear hb2); (try clear hk); (try clear hi)) | (go_at_call 10; (with_reducible refine (muslinlaw05_live.calls  t154 _ ?sideGl A7.out).mono ?_); (case sideGl => exact HGl.out.below (by repeat (first | (with_reducible first | exact HB.out | apply below_alloc | apply pw_below_drewN | apply below_drew1) | exact HB.out))); rintro e w10 ⟨rfl, hb⟩; have n0_ := Aside0.mk (below_step (by repeat (first | (with_reducible first | exact HB.out | apply below_alloc | apply pw_below_drewN | apply below_drew1) | exact HB.out)) hb); clear HB; have HB := n0_; clear n0_; (try clear hb); (try clear hb2); (try clear hk); (try clear hi)))
      go_ret
      exact ⟨by first | rfl | (simp [errW_none, errW_some] <;> rfl) | (simp [*, errW_none, errW_some] <;> rfl), by repeat (first | (with_reducible first | exact HB.out | apply below_alloc | apply pw_below_drewN | apply below_drew1) | exact HB.out)⟩
    · rw [if_neg c6] at H
      have c6b0 : (t152.toList == t153.toList) = false := beq_eq_false_iff_ne.mpr c6
      have c6b1 : (t152.toList != t153.toList) = true := bne_iff_ne.mpr c6
      obtain rfl := Option.some.inj H
      go_enter Tryd.func4, Tryd.ntmps4
      go_wp2_with (first | ((with_reducible refine gate_callee (f := 9) rfl ?_); refine goesL_ (some 4) rfl rfl Tryd.func9 (by kernel_rfl) rfl #[.string a0] rfl (by (try simp only [List.map_toArray, List.map_cons, List.map_nil]); first | done | rfl | (simp only [List.length_drop, List.length_take]; rfl)) ?_; (with_reducible refine (muslinlaw05_short.calls a0 true _ A2.out).mono ?_); rintro e w' ⟨rfl, ⟨nd, rfl⟩⟩; refine ⟨_, rfl, ?_⟩) | ((with_reducible refine gate_callee (f := 15) rfl ?_); refine goesL_ (some 8) rfl rfl Tryd.func15 (by kernel_rfl) rfl #[.string a0] rfl (by (try simp only [List.map_toArray, List.map_cons, List.map_nil]); first | done | rfl | (simp only [List.length_drop, List.length_take]; rfl)) ?_; (with_reducible refine (word_Encode.calls a0 t152 _ ?sideGl A4.out).mono ?_); (case sideGl => exact HGl.out.below (by repeat (first | (with_reducible first | exact HB.out | apply below_alloc | apply pw_below_drewN | apply below_drew1) | exact HB.out))); rintro e w11 ⟨rfl, hb⟩; refine ⟨_, rfl, ?_⟩; have n0_ := Aside0.mk (below_step (by repeat (first | (with_reducible first | exact HB.out | apply below_alloc | apply pw_below_drewN | apply below_drew1) | exact HB.out)) hb); clear HB; have HB := n0_; clear n0_; (try clear hb); (try clear hb2); (try clear hk); (try clear hi)) | ((with_reducible refine gate_callee (f := 16) rfl ?_); refine goesL_ (some 10) rfl rfl Tryd.func16 (by kernel_rfl) rfl #[.string a0] rfl (by (try simp only [List.map_toArray, List.map_cons, List.map_nil]); first | done | rfl | (simp only [List.length_drop, List.length_take]; rfl)) ?_; (with_reducible refine (muslinref05_Encode.calls a0 t153 _ A5.out).mono ?_); rintro e w12 ⟨rfl, hb⟩; refine ⟨_, rfl, ?_⟩; have n0_ := Aside0.mk (below_step (by repeat (first | (with_reducible first | exact HB.out | apply below_alloc | apply pw_below_drewN | apply below_drew1) | exact HB.out)) hb); clear HB; have HB := n0_; clear n0_; (try clear hb); (try clear hb2); (try clear hk); (try clear hi)))
      go_ret
      exact ⟨by first | rfl | (simp [errW_none, errW_some] <;> rfl) | (simp [*, errW_none, errW_some] <;> rfl), by repeat (first | (with_reducible first | exact HB.out | apply below_alloc | apply pw_below_drewN | apply below_drew1) | exact HB.out)⟩
  · replace c3 := Bool.eq_false_iff.mpr c3
    subst c3
    have H1 : ((muslinlaw05_live.f).bind fun t155 => (some t155)) = some r := by rw [if_neg (show ¬ (false = true) by decide)] at H; exact H
    clear H
    have H := H1
    clear H1
    replace H := Option.bind_eq_some_iff.mp H
    obtain ⟨t155, A130, H⟩ := H
    replace H : (some t155) = some r := H
    have A13 := Aside0.mk A130
    clear A130
    obtain rfl := Option.some.inj H
    go_enter Tryd.func4, Tryd.ntmps4
    go_wp2_with (first | ((with_reducible refine gate_callee (f := 9) rfl ?_); refine goesL_ (some 4) rfl rfl Tryd.func9 (by kernel_rfl) rfl #[.string a0] rfl (by (try simp only [List.map_toArray, List.map_cons, List.map_nil]); first | done | rfl | (simp only [List.length_drop, List.length_take]; rfl)) ?_; (with_reducible refine (muslinlaw05_short.calls a0 false _ A2.out).mono ?_); rintro e w' ⟨rfl, ⟨nd, rfl⟩⟩; refine ⟨_, rfl, ?_⟩) | ((with_reducible refine gate_callee (f := 10) rfl ?_); refine goesL_ (some 6) rfl rfl Tryd.func10 (by kernel_rfl) rfl #[] rfl (by (try simp only [List.map_toArray, List.map_cons, List.map_nil]); first | done | rfl | (simp only [List.length_drop, List.length_take]; rfl)) ?_; (with_reducible refine (muslinlaw05_live.calls  t155 _ ?sideGl A13.out).mono ?_); (case sideGl => exact HGl.out.below (by repeat (first | (with_reducible first | exact HB.out | apply below_alloc | apply pw_below_drewN | apply below_drew1) | exact HB.out))); rintro e w14 ⟨rfl, hb⟩; refine ⟨_, rfl, ?_⟩; have n0_ := Aside0.mk (below_step (by repeat (first | (with_reducible first | exact HB.out | apply below_alloc | apply pw_below_drewN | apply below_drew1) | exact HB.out)) hb); clear HB; have HB := n0_; clear n0_; (try clear hb); (try clear hb2); (try clear hk); (try clear hi)))
    go_ret
    exact ⟨by first | rfl | (simp [errW_none, errW_some] <;> rfl) | (simp [*, errW_none, errW_some] <;> rfl), by repeat (first | (with_reducible first | exact HB.out | apply below_alloc | apply pw_below_drewN | apply below_drew1) | exact HB.out)⟩
def muslinlaw05_WordEncodes.Pure : Prop := ∀ (a0 : ByteArray), a0.size ≤ 140737488351232 → muslinlaw05_WordEncodes.f a0 = some true
theorem muslinlaw05_WordEncodes.walk (P : muslinlaw05_WordEncodes.Pure) (a0 : ByteArray) (w : World) (hGl : Glob w) (w0 : a0.size ≤ 140737488351232) :
    Calls Tryd.prog 4 #[.string a0] w fun e w' => e = .returned (.bool true) ∧ Below w.heap.size w w' := by
  have h := P a0 w0
  refine (muslinlaw05_WordEncodes.calls a0 true w hGl h).mono ?_
  rintro e w' ⟨rfl, hd⟩
  exact ⟨rfl, hd⟩
def muslinlaw05_WordBack.l0 : Nat → ByteArray → ByteArray → Int → Option (Bool)
  | 0, _, _, _ => none
  | k + 1, x0, x3, x4 => if x4 < (x3.size : Int) then (if 0 ≤ x4 then (if (bt x3 x4) < 32 then (some false) else (if (bt x3 x4) > 126 then (some false) else (muslinlaw05_WordBack.l0 k x0 x3 (wrap64 (x4 + 1))))) else (none)) else ((word_Decode.f x3).bind fun t159 => ((chars_Valid.f x0).bind fun t160 => (if t159.toList = t160.toList then ((muslinlaw05_live.f).bind fun t161 => (some t161)) else (some false))))
def muslinlaw05_WordBack.f (k : Nat) (a0 : ByteArray) : Option (Bool) := (muslinlaw05_short.f a0).bind fun t156 => (if t156 = true then ((word_Encode.f a0).bind fun t158 => (muslinlaw05_WordBack.l0 k a0 t158 0)) else ((muslinlaw05_live.f).bind fun t157 => (some t157)))
set_option maxHeartbeats 8000000 in
set_option maxRecDepth 100000 in
theorem muslinlaw05_WordBack.calls (k : Nat) (a0 : ByteArray) (r : Bool) (w : World) (hGl : Glob w) (h : muslinlaw05_WordBack.f k a0 = some r) :
    Calls Tryd.prog 5 #[.string a0] w fun e w' => e = .returned (.bool r) ∧ Below w.heap.size w w' := by
  have HGl := Aside0.mk hGl
  clear hGl
  have HB := Aside0.mk (Below.refl w.heap.size w)
  have H : ((muslinlaw05_short.f a0).bind fun t156 => (if t156 = true then ((word_Encode.f a0).bind fun t158 => (muslinlaw05_WordBack.l0 k a0 t158 0)) else ((muslinlaw05_live.f).bind fun t157 => (some t157)))) = some r := h
  clear h
  replace H := Option.bind_eq_some_iff.mp H
  obtain ⟨t156, A20, H⟩ := H
  replace H : (if t156 = true then ((word_Encode.f a0).bind fun t158 => (muslinlaw05_WordBack.l0 k a0 t158 0)) else ((muslinlaw05_live.f).bind fun t157 => (some t157))) = some r := H
  have A2 := Aside0.mk A20
  clear A20
  by_cases c3 : t156 = true
  · subst c3
    have H1 : ((word_Encode.f a0).bind fun t158 => (muslinlaw05_WordBack.l0 k a0 t158 0)) = some r := by rw [if_pos rfl] at H; exact H
    clear H
    have H := H1
    clear H1
    replace H := Option.bind_eq_some_iff.mp H
    obtain ⟨t158, A40, H⟩ := H
    replace H : (muslinlaw05_WordBack.l0 k a0 t158 0) = some r := H
    have A4 := Aside0.mk A40
    clear A40
    have H' := Aside0.mk H
    clear H
    go_enter Tryd.func5, Tryd.ntmps5
    go_wp2_with (first | ((with_reducible refine gate_callee (f := 9) rfl ?_); refine goesL_ (some 6) rfl rfl Tryd.func9 (by kernel_rfl) rfl #[.string a0] rfl (by (try simp only [List.map_toArray, List.map_cons, List.map_nil]); first | done | rfl | (simp only [List.length_drop, List.length_take]; rfl)) ?_; (with_reducible refine (muslinlaw05_short.calls a0 true _ A2.out).mono ?_); rintro e w' ⟨rfl, ⟨nd, rfl⟩⟩; refine ⟨_, rfl, ?_⟩) | ((with_reducible refine gate_callee (f := 15) rfl ?_); refine goesL_ (some 10) rfl rfl Tryd.func15 (by kernel_rfl) rfl #[.string a0] rfl (by (try simp only [List.map_toArray, List.map_cons, List.map_nil]); first | done | rfl | (simp only [List.length_drop, List.length_take]; rfl)) ?_; (with_reducible refine (word_Encode.calls a0 t158 _ ?sideGl A4.out).mono ?_); (case sideGl => exact HGl.out.below (by repeat (first | (with_reducible first | exact HB.out | apply below_alloc | apply pw_below_drewN | apply below_drew1) | exact HB.out))); rintro e w5 ⟨rfl, hb⟩; refine ⟨_, rfl, ?_⟩; have n0_ := Aside0.mk (below_step (by repeat (first | (with_reducible first | exact HB.out | apply below_alloc | apply pw_below_drewN | apply below_drew1) | exact HB.out)) hb); clear HB; have HB := n0_; clear n0_; (try clear hb); (try clear hb2); (try clear hk); (try clear hi)))
    go_loopg [4] k (fun kq v4 w' => ∃ (x4_1 : Int), v4 = .int .i64 x4_1 ∧ Aside0 (muslinlaw05_WordBack.l0 kq a0 t158 x4_1 = some r) ∧ Aside0 (kq ≤ k) ∧ Aside0 (Below w.heap.size w w'))
    case atStart => exact ⟨(0), (by first | rfl | (simp; done) | (simp [*]; done)), H', ⟨Nat.le_refl _⟩, ⟨by repeat (first | (with_reducible first | exact HB.out | apply below_alloc | apply pw_below_drewN | apply below_drew1) | exact HB.out)⟩⟩
    case round =>
      clear H'
      try clear c1
      try clear p2
      try clear c3
      try clear c5
      obtain ⟨x4_1, rfl, HA, HK1, HB⟩ := hrel
      cases gk with
      | zero => exact absurd HA.out (by simp [muslinlaw05_WordBack.l0])
      | succ k1 =>
        have H := HA.out
        clear HA
        simp only [muslinlaw05_WordBack.l0] at H
        by_cases c6 : x4_1 < (t158.size : Int)
        · rw [if_pos c6] at H
          have c6b0 : decide (x4_1 < (t158.size : Int)) = true := decide_eq_true c6
          clear c6
          by_cases c7 : 0 ≤ x4_1
          · rw [if_pos c7] at H
            have c7b0 : decide (0 ≤ x4_1) = true := decide_eq_true c7
            clear c7
            by_cases c9 : (bt t158 x4_1) < 32
            · rw [if_pos c9] at H
              have c9b0 : decide ((bt t158 x4_1) < 32) = true := decide_eq_true c9
              clear c9
              obtain rfl := Option.some.inj H
              have p8 : 0 ≤ (x4_1 : Int) := of_decide_eq_true (by first | (with_reducible assumption) | assumption)
              have q8 : x4_1 < (t158.size : Int) := of_decide_eq_true (by first | (with_reducible assumption) | assumption)
              have hx8 := bt_at t158 x4_1
              replace p8 := eq_true p8
              replace q8 := eq_true q8
              go_wp2
              go_ret
              exact ⟨by first | rfl | (simp [errW_none, errW_some] <;> rfl) | (simp [*, errW_none, errW_some] <;> rfl), by repeat (first | (with_reducible first | exact HB.out | apply below_alloc | apply pw_below_drewN | apply below_drew1) | exact HB.out)⟩
            · rw [if_neg c9] at H
              have c9b0 : decide ((bt t158 x4_1) < 32) = false := decide_eq_false c9
              clear c9
              by_cases c11 : (bt t158 x4_1) > 126
              · rw [if_pos c11] at H
                have c11b0 : decide (126 < (bt t158 x4_1)) = true := decide_eq_true c11
                clear c11
                obtain rfl := Option.some.inj H
                have p8 : 0 ≤ (x4_1 : Int) := of_decide_eq_true (by first | (with_reducible assumption) | assumption)
                have q8 : x4_1 < (t158.size : Int) := of_decide_eq_true (by first | (with_reducible assumption) | assumption)
                have hx8 := bt_at t158 x4_1
                replace p8 := eq_true p8
                replace q8 := eq_true q8
                have p10 : 0 ≤ (x4_1 : Int) := of_decide_eq_true (by first | (with_reducible assumption) | assumption)
                have q10 : x4_1 < (t158.size : Int) := of_decide_eq_true (by first | (with_reducible assumption) | assumption)
                have hx10 := bt_at t158 x4_1
                replace p10 := eq_true p10
                replace q10 := eq_true q10
                go_wp2
                go_ret
                exact ⟨by first | rfl | (simp [errW_none, errW_some] <;> rfl) | (simp [*, errW_none, errW_some] <;> rfl), by repeat (first | (with_reducible first | exact HB.out | apply below_alloc | apply pw_below_drewN | apply below_drew1) | exact HB.out)⟩
              · rw [if_neg c11] at H
                have c11b0 : decide (126 < (bt t158 x4_1)) = false := decide_eq_false c11
                clear c11
                have H' := Aside0.mk H
                clear H
                have p8 : 0 ≤ (x4_1 : Int) := of_decide_eq_true (by first | (with_reducible assumption) | assumption)
                have q8 : x4_1 < (t158.size : Int) := of_decide_eq_true (by first | (with_reducible assumption) | assumption)
                have hx8 := bt_at t158 x4_1
                replace p8 := eq_true p8
                replace q8 := eq_true q8
                have p10 : 0 ≤ (x4_1 : Int) := of_decide_eq_true (by first | (with_reducible assumption) | assumption)
                have q10 : x4_1 < (t158.size : Int) := of_decide_eq_true (by first | (with_reducible assumption) | assumption)
                have hx10 := bt_at t158 x4_1
                replace p10 := eq_true p10
                replace q10 := eq_true q10
                go_wp2
                go_roundg k1
                case measure => have := HK1.out; omega
                case rel => exact ⟨(wrap64 (x4_1 + 1)), (by first | rfl | (simp; done) | (simp [*]; done)), H', ⟨by have := HK1.out; omega⟩, ⟨by repeat (first | (with_reducible first | exact HB.out | apply below_alloc | apply pw_below_drewN | apply below_drew1) | exact HB.out)⟩⟩
          · rw [if_neg c7] at H
            exact absurd H (by simp)
        · rw [if_neg c6] at H
          have c6b0 : decide (x4_1 < (t158.size : Int)) = false := decide_eq_false c6
          clear c6
          replace H := Option.bind_eq_some_iff.mp H
          obtain ⟨t159, A120, H⟩ := H
          replace H : ((chars_Valid.f a0).bind fun t160 => (if t159.toList = t160.toList then ((muslinlaw05_live.f).bind fun t161 => (some t161)) else (some false))) = some r := H
          have A12 := Aside0.mk A120
          clear A120
          replace H := Option.bind_eq_some_iff.mp H
          obtain ⟨t160, A130, H⟩ := H
          replace H : (if t159.toList = t160.toList then ((muslinlaw05_live.f).bind fun t161 => (some t161)) else (some false)) = some r := H
          have A13 := Aside0.mk A130
          clear A130
          by_cases c14 : t159.toList = t160.toList
          · rw [if_pos c14] at H
            have c14b0 : (t159.toList == t160.toList) = true := beq_iff_eq.mpr c14
            have c14b1 : (t159.toList != t160.toList) = false := bne_eq_false_iff_eq.mpr c14
            clear c14
            replace H := Option.bind_eq_some_iff.mp H
            obtain ⟨t161, A150, H⟩ := H
            replace H : (some t161) = some r := H
            have A15 := Aside0.mk A150
            clear A150
            obtain rfl := Option.some.inj H
            go_wp2_with (first | ((with_reducible refine gate_callee (f := 13) rfl ?_); refine goesL_ (some 28) rfl rfl Tryd.func13 (by kernel_rfl) rfl #[.string t158] rfl (by (try simp only [List.map_toArray, List.map_cons, List.map_nil]); first | done | rfl | (simp only [List.length_drop, List.length_take]; rfl)) ?_; (with_reducible refine (word_Decode.calls t158 t159 _ ?sideGl A12.out).mono ?_); (case sideGl => exact HGl.out.below (by repeat (first | (with_reducible first | exact HB.out | apply below_alloc | apply pw_below_drewN | apply below_drew1) | exact HB.out))); rintro e w16 ⟨rfl, hb⟩; refine ⟨_, rfl, ?_⟩; have n0_ := Aside0.mk (below_step (by repeat (first | (with_reducible first | exact HB.out | apply below_alloc | apply pw_below_drewN | apply below_drew1) | exact HB.out)) hb); clear HB; have HB := n0_; clear n0_; (try clear hb); (try clear hb2); (try clear hk); (try clear hi)) | ((with_reducible refine gate_callee (f := 17) rfl ?_); refine goesL_ (some 30) rfl rfl Tryd.func17 (by kernel_rfl) rfl #[.string a0] rfl (by (try simp only [List.map_toArray, List.map_cons, List.map_nil]); first | done | rfl | (simp only [List.length_drop, List.length_take]; rfl)) ?_; (with_reducible refine (chars_Valid.calls a0 t160 _ A13.out).mono ?_); rintro e w17 ⟨rfl, hb⟩; refine ⟨_, rfl, ?_⟩; have n0_ := Aside0.mk (below_step (by repeat (first | (with_reducible first | exact HB.out | apply below_alloc | apply pw_below_drewN | apply below_drew1) | exact HB.out)) hb); clear HB; have HB := n0_; clear n0_; (try clear hb); (try clear hb2); (try clear hk); (try clear hi)) | (go_at_call 10; (with_reducible refine (muslinlaw05_live.calls  t161 _ ?sideGl A15.out).mono ?_); (case sideGl => exact HGl.out.below (by repeat (first | (with_reducible first | exact HB.out | apply below_alloc | apply pw_below_drewN | apply below_drew1) | exact HB.out))); rintro e w18 ⟨rfl, hb⟩; have n0_ := Aside0.mk (below_step (by repeat (first | (with_reducible first | exact HB.out | apply below_alloc | apply pw_below_drewN | apply below_drew1) | exact HB.out)) hb); clear HB; have HB := n0_; clear n0_; (try clear hb); (try clear hb2); (try clear hk); (try clear hi)))
            go_ret
            exact ⟨by first | rfl | (simp [errW_none, errW_some] <;> rfl) | (simp [*, errW_none, errW_some] <;> rfl), by repeat (first | (with_reducible first | exact HB.out | apply below_alloc | apply pw_below_drewN | apply below_drew1) | exact HB.out)⟩
          · rw [if_neg c14] at H
            have c14b0 : (t159.toList == t160.toList) = false := beq_eq_false_iff_ne.mpr c14
            have c14b1 : (t159.toList != t160.toList) = true := bne_iff_ne.mpr c14
            obtain rfl := Option.some.inj H
            go_wp2_with (first | ((with_reducible refine gate_callee (f := 13) rfl ?_); refine goesL_ (some 28) rfl rfl Tryd.func13 (by kernel_rfl) rfl #[.string t158] rfl (by (try simp only [List.map_toArray, List.map_cons, List.map_nil]); first | done | rfl | (simp only [List.length_drop, List.length_take]; rfl)) ?_; (with_reducible refine (word_Decode.calls t158 t159 _ ?sideGl A12.out).mono ?_); (case sideGl => exact HGl.out.below (by repeat (first | (with_reducible first | exact HB.out | apply below_alloc | apply pw_below_drewN | apply below_drew1) | exact HB.out))); rintro e w19 ⟨rfl, hb⟩; refine ⟨_, rfl, ?_⟩; have n0_ := Aside0.mk (below_step (by repeat (first | (with_reducible first | exact HB.out | apply below_alloc | apply pw_below_drewN | apply below_drew1) | exact HB.out)) hb); clear HB; have HB := n0_; clear n0_; (try clear hb); (try clear hb2); (try clear hk); (try clear hi)) | ((with_reducible refine gate_callee (f := 17) rfl ?_); refine goesL_ (some 30) rfl rfl Tryd.func17 (by kernel_rfl) rfl #[.string a0] rfl (by (try simp only [List.map_toArray, List.map_cons, List.map_nil]); first | done | rfl | (simp only [List.length_drop, List.length_take]; rfl)) ?_; (with_reducible refine (chars_Valid.calls a0 t160 _ A13.out).mono ?_); rintro e w20 ⟨rfl, hb⟩; refine ⟨_, rfl, ?_⟩; have n0_ := Aside0.mk (below_step (by repeat (first | (with_reducible first | exact HB.out | apply below_alloc | apply pw_below_drewN | apply below_drew1) | exact HB.out)) hb); clear HB; have HB := n0_; clear n0_; (try clear hb); (try clear hb2); (try clear hk); (try clear hi)))
            go_ret
            exact ⟨by first | rfl | (simp [errW_none, errW_some] <;> rfl) | (simp [*, errW_none, errW_some] <;> rfl), by repeat (first | (with_reducible first | exact HB.out | apply below_alloc | apply pw_below_drewN | apply below_drew1) | exact HB.out)⟩
  · replace c3 := Bool.eq_false_iff.mpr c3
    subst c3
    have H1 : ((muslinlaw05_live.f).bind fun t157 => (some t157)) = some r := by rw [if_neg (show ¬ (false = true) by decide)] at H; exact H
    clear H
    have H := H1
    clear H1
    replace H := Option.bind_eq_some_iff.mp H
    obtain ⟨t157, A210, H⟩ := H
    replace H : (some t157) = some r := H
    have A21 := Aside0.mk A210
    clear A210
    obtain rfl := Option.some.inj H
    go_enter Tryd.func5, Tryd.ntmps5
    go_wp2_with (first | ((with_reducible refine gate_callee (f := 9) rfl ?_); refine goesL_ (some 6) rfl rfl Tryd.func9 (by kernel_rfl) rfl #[.string a0] rfl (by (try simp only [List.map_toArray, List.map_cons, List.map_nil]); first | done | rfl | (simp only [List.length_drop, List.length_take]; rfl)) ?_; (with_reducible refine (muslinlaw05_short.calls a0 false _ A2.out).mono ?_); rintro e w' ⟨rfl, ⟨nd, rfl⟩⟩; refine ⟨_, rfl, ?_⟩) | ((with_reducible refine gate_callee (f := 10) rfl ?_); refine goesL_ (some 8) rfl rfl Tryd.func10 (by kernel_rfl) rfl #[] rfl (by (try simp only [List.map_toArray, List.map_cons, List.map_nil]); first | done | rfl | (simp only [List.length_drop, List.length_take]; rfl)) ?_; (with_reducible refine (muslinlaw05_live.calls  t157 _ ?sideGl A21.out).mono ?_); (case sideGl => exact HGl.out.below (by repeat (first | (with_reducible first | exact HB.out | apply below_alloc | apply pw_below_drewN | apply below_drew1) | exact HB.out))); rintro e w22 ⟨rfl, hb⟩; refine ⟨_, rfl, ?_⟩; have n0_ := Aside0.mk (below_step (by repeat (first | (with_reducible first | exact HB.out | apply below_alloc | apply pw_below_drewN | apply below_drew1) | exact HB.out)) hb); clear HB; have HB := n0_; clear n0_; (try clear hb); (try clear hb2); (try clear hk); (try clear hi)))
    go_ret
    exact ⟨by first | rfl | (simp [errW_none, errW_some] <;> rfl) | (simp [*, errW_none, errW_some] <;> rfl), by repeat (first | (with_reducible first | exact HB.out | apply below_alloc | apply pw_below_drewN | apply below_drew1) | exact HB.out)⟩
def muslinlaw05_WordBack.Pure : Prop := ∀ (a0 : ByteArray), a0.size ≤ 140737488351232 → ∃ k, muslinlaw05_WordBack.f k a0 = some true
theorem muslinlaw05_WordBack.walk (P : muslinlaw05_WordBack.Pure) (a0 : ByteArray) (w : World) (hGl : Glob w) (w0 : a0.size ≤ 140737488351232) :
    Calls Tryd.prog 5 #[.string a0] w fun e w' => e = .returned (.bool true) ∧ Below w.heap.size w w' := by
  obtain ⟨k, h⟩ := P a0 w0
  refine (muslinlaw05_WordBack.calls k a0 true w hGl h).mono ?_
  rintro e w' ⟨rfl, hd⟩
  exact ⟨rfl, hd⟩
end Go.Proofs.YtokkgjiofhhlkaaDoor.P
namespace Go.Proofs.YtokkgjiofhhlkaaDoor.P
open Go.RowKit Go.Proofs.YtokkgjiofhhlkaaDoorW.PrintWords Go.Proofs.YtokkgjiofhhlkaaDoorW.PrintLast Go.Proofs.YtokkgjiofhhlkaaDoorW.PrintMore
attribute [local go_sem] max2_int min2_int max_two min_two max_three min_three max_four min_four
set_option linter.unusedVariables false
set_option linter.unusedSimpArgs false
def muslinlaw05_WordValid.l0 : Nat → ByteArray → ByteArray → Int → Option (Bool)
  | 0, _, _, _ => none
  | k + 1, x0, x3, x4 => if (wrap64 (x4 + 1)) < (x0.size : Int) then (if 0 ≤ x4 then (if x4 < (x0.size : Int) then (if (bt x0 x4) = 61 then (if 0 ≤ (wrap64 (x4 + 1)) then (if (bt x0 (wrap64 (x4 + 1))) = 63 then ((muslinlaw05_live.f).bind fun t166 => (some t166)) else (muslinlaw05_WordValid.l0 k x0 x3 (wrap64 (x4 + 1)))) else (none)) else (muslinlaw05_WordValid.l0 k x0 x3 (wrap64 (x4 + 1)))) else (none)) else (none)) else ((chars_Valid.f x0).bind fun t167 => (if x3.toList = t167.toList then ((muslinlaw05_live.f).bind fun t168 => (some t168)) else (some false)))
def muslinlaw05_WordValid.f (k : Nat) (a0 : ByteArray) : Option (Bool) := (muslinlaw05_short.f a0).bind fun t162 => (if t162 = true then ((word_Decode.f a0).bind fun t164 => ((muslinref04_Valid.f t164).bind fun t165 => (if t165.toList = t164.toList then (muslinlaw05_WordValid.l0 k a0 t164 0) else (some false)))) else ((muslinlaw05_live.f).bind fun t163 => (some t163)))
set_option maxHeartbeats 8000000 in
set_option maxRecDepth 100000 in
theorem muslinlaw05_WordValid.calls (k : Nat) (a0 : ByteArray) (r : Bool) (w : World) (hGl : Glob w) (h : muslinlaw05_WordValid.f k a0 = some r) :
    Calls Tryd.prog 6 #[.string a0] w fun e w' => e = .returned (.bool r) ∧ Below w.heap.size w w' := by
  have HGl := Aside0.mk hGl
  clear hGl
  have HB := Aside0.mk (Below.refl w.heap.size w)
  have H : ((muslinlaw05_short.f a0).bind fun t162 => (if t162 = true then ((word_Decode.f a0).bind fun t164 => ((muslinref04_Valid.f t164).bind fun t165 => (if t165.toList = t164.toList then (muslinlaw05_WordValid.l0 k a0 t164 0) else (some false)))) else ((muslinlaw05_live.f).bind fun t163 => (some t163)))) = some r := h
  clear h
  replace H := Option.bind_eq_some_iff.mp H
  obtain ⟨t162, A20, H⟩ := H
  replace H : (if t162 = true then ((word_Decode.f a0).bind fun t164 => ((muslinref04_Valid.f t164).bind fun t165 => (if t165.toList = t164.toList then (muslinlaw05_WordValid.l0 k a0 t164 0) else (some false)))) else ((muslinlaw05_live.f).bind fun t163 => (some t163))) = some r := H
  have A2 := Aside0.mk A20
  clear A20
  by_cases c3 : t162 = true
  · subst c3
    have H1 : ((word_Decode.f a0).bind fun t164 => ((muslinref04_Valid.f t164).bind fun t165 => (if t165.toList = t164.toList then (muslinlaw05_WordValid.l0 k a0 t164 0) else (some false)))) = some r := by rw [if_pos rfl] at H; exact H
    clear H
    have H := H1
    clear H1
    replace H := Option.bind_eq_some_iff.mp H
    obtain ⟨t164, A40, H⟩ := H
    replace H : ((muslinref04_Valid.f t164).bind fun t165 => (if t165.toList = t164.toList then (muslinlaw05_WordValid.l0 k a0 t164 0) else (some false))) = some r := H
    have A4 := Aside0.mk A40
    clear A40
    replace H := Option.bind_eq_some_iff.mp H
    obtain ⟨t165, A50, H⟩ := H
    replace H : (if t165.toList = t164.toList then (muslinlaw05_WordValid.l0 k a0 t164 0) else (some false)) = some r := H
    have A5 := Aside0.mk A50
    clear A50
    by_cases c6 : t165.toList = t164.toList
    · rw [if_pos c6] at H
      have c6b0 : (t165.toList == t164.toList) = true := beq_iff_eq.mpr c6
      have c6b1 : (t165.toList != t164.toList) = false := bne_eq_false_iff_eq.mpr c6
      clear c6
      have H' := Aside0.mk H
      clear H
      go_enter Tryd.func6, Tryd.ntmps6
      go_wp2_with (first | ((with_reducible refine gate_callee (f := 9) rfl ?_); refine goesL_ (some 6) rfl rfl Tryd.func9 (by kernel_rfl) rfl #[.string a0] rfl (by (try simp only [List.map_toArray, List.map_cons, List.map_nil]); first | done | rfl | (simp only [List.length_drop, List.length_take]; rfl)) ?_; (with_reducible refine (muslinlaw05_short.calls a0 true _ A2.out).mono ?_); rintro e w' ⟨rfl, ⟨nd, rfl⟩⟩; refine ⟨_, rfl, ?_⟩) | ((with_reducible refine gate_callee (f := 13) rfl ?_); refine goesL_ (some 10) rfl rfl Tryd.func13 (by kernel_rfl) rfl #[.string a0] rfl (by (try simp only [List.map_toArray, List.map_cons, List.map_nil]); first | done | rfl | (simp only [List.length_drop, List.length_take]; rfl)) ?_; (with_reducible refine (word_Decode.calls a0 t164 _ ?sideGl A4.out).mono ?_); (case sideGl => exact HGl.out.below (by repeat (first | (with_reducible first | exact HB.out | apply below_alloc | apply pw_below_drewN | apply below_drew1) | exact HB.out))); rintro e w7 ⟨rfl, hb⟩; refine ⟨_, rfl, ?_⟩; have n0_ := Aside0.mk (below_step (by repeat (first | (with_reducible first | exact HB.out | apply below_alloc | apply pw_below_drewN | apply below_drew1) | exact HB.out)) hb); clear HB; have HB := n0_; clear n0_; (try clear hb); (try clear hb2); (try clear hk); (try clear hi)) | ((with_reducible refine gate_callee (f := 18) rfl ?_); refine goesL_ (some 12) rfl rfl Tryd.func18 (by kernel_rfl) rfl #[.string t164] rfl (by (try simp only [List.map_toArray, List.map_cons, List.map_nil]); first | done | rfl | (simp only [List.length_drop, List.length_take]; rfl)) ?_; (with_reducible refine (muslinref04_Valid.calls t164 t165 _ A5.out).mono ?_); rintro e w8 ⟨rfl, hb⟩; refine ⟨_, rfl, ?_⟩; have n0_ := Aside0.mk (below_step (by repeat (first | (with_reducible first | exact HB.out | apply below_alloc | apply pw_below_drewN | apply below_drew1) | exact HB.out)) hb); clear HB; have HB := n0_; clear n0_; (try clear hb); (try clear hb2); (try clear hk); (try clear hi)))
      go_loopg [4] k (fun kq v4 w' => ∃ (x4_1 : Int), v4 = .int .i64 x4_1 ∧ Aside0 (muslinlaw05_WordValid.l0 kq a0 t164 x4_1 = some r) ∧ Aside0 (kq ≤ k) ∧ Aside0 (Below w.heap.size w w'))
      case atStart => exact ⟨(0), (by first | rfl | (simp; done) | (simp [*]; done)), H', ⟨Nat.le_refl _⟩, ⟨by repeat (first | (with_reducible first | exact HB.out | apply below_alloc | apply pw_below_drewN | apply below_drew1) | exact HB.out)⟩⟩
      case round =>
        clear H'
        try clear c1
        try clear p2
        try clear c3
        try clear c6
        try clear c6b0
        try clear c6b1
        obtain ⟨x4_1, rfl, HA, HK1, HB⟩ := hrel
        cases gk with
        | zero => exact absurd HA.out (by simp [muslinlaw05_WordValid.l0])
        | succ k1 =>
          have H := HA.out
          clear HA
          simp only [muslinlaw05_WordValid.l0] at H
          by_cases c9 : (wrap64 (x4_1 + 1)) < (a0.size : Int)
          · rw [if_pos c9] at H
            have c9b0 : decide ((wrap64 (x4_1 + 1)) < (a0.size : Int)) = true := decide_eq_true c9
            clear c9
            by_cases c10 : 0 ≤ x4_1
            · rw [if_pos c10] at H
              have c10b0 : decide (0 ≤ x4_1) = true := decide_eq_true c10
              clear c10
              by_cases c11 : x4_1 < (a0.size : Int)
              · rw [if_pos c11] at H
                have c11b0 : decide (x4_1 < (a0.size : Int)) = true := decide_eq_true c11
                clear c11
                by_cases c13 : (bt a0 x4_1) = 61
                · rw [if_pos c13] at H
                  have c13b0 : ((bt a0 x4_1) == 61) = true := beq_iff_eq.mpr c13
                  have c13b1 : ((bt a0 x4_1) != 61) = false := bne_eq_false_iff_eq.mpr c13
                  clear c13
                  obtain ⟨ji14, hji14⟩ : ∃ j_ : Int, (wrap64 (x4_1 + 1)) = j_ := ⟨_, rfl⟩
                  replace H : (if 0 ≤ (ji14) then (if (bt a0 (ji14)) = 63 then ((muslinlaw05_live.f).bind fun t166 => (some t166)) else (muslinlaw05_WordValid.l0 k1 a0 t164 ji14)) else (none)) = some r := by first | (rw [hji14] at H; exact H) | (simp only [hji14] at H ⊢; exact H)
                  (try rw [hji14] at c9b0)
                  have hji14w : (IntKind.i64.wrap (x4_1 + 1)) = ji14 := (i64_w _).trans hji14
                  by_cases c15 : 0 ≤ (ji14)
                  · rw [if_pos c15] at H
                    have c15b0 : decide (0 ≤ (ji14)) = true := decide_eq_true c15
                    clear c15
                    by_cases c17 : (bt a0 (ji14)) = 63
                    · rw [if_pos c17] at H
                      have c17b0 : ((bt a0 (ji14)) == 63) = true := beq_iff_eq.mpr c17
                      have c17b1 : ((bt a0 (ji14)) != 63) = false := bne_eq_false_iff_eq.mpr c17
                      clear c17
                      replace H := Option.bind_eq_some_iff.mp H
                      obtain ⟨t166, A180, H⟩ := H
                      replace H : (some t166) = some r := H
                      have A18 := Aside0.mk A180
                      clear A180
                      obtain rfl := Option.some.inj H
                      have p12 : 0 ≤ (x4_1 : Int) := of_decide_eq_true (by first | (with_reducible assumption) | assumption)
                      have q12 : x4_1 < (a0.size : Int) := of_decide_eq_true (by first | (with_reducible assumption) | assumption)
                      have hx12 := bt_at a0 x4_1
                      replace p12 := eq_true p12
                      replace q12 := eq_true q12
                      have p16 : 0 ≤ ((ji14) : Int) := of_decide_eq_true (by first | (with_reducible assumption) | assumption)
                      have q16 : (ji14) < (a0.size : Int) := of_decide_eq_true (by first | (with_reducible assumption) | assumption)
                      have hx16 := bt_at a0 (ji14)
                      replace p16 := eq_true p16
                      replace q16 := eq_true q16
                      go_wp2_with (first | ((with_reducible refine gate_callee (f := 10) rfl ?_); refine goesL_ (some 33) rfl rfl Tryd.func10 (by kernel_rfl) rfl #[] rfl (by (try simp only [List.map_toArray, List.map_cons, List.map_nil]); first | done | rfl | (simp only [List.length_drop, List.length_take]; rfl)) ?_; (with_reducible refine (muslinlaw05_live.calls  t166 _ ?sideGl A18.out).mono ?_); (case sideGl => exact HGl.out.below (by repeat (first | (with_reducible first | exact HB.out | apply below_alloc | apply pw_below_drewN | apply below_drew1) | exact HB.out))); rintro e w19 ⟨rfl, hb⟩; refine ⟨_, rfl, ?_⟩; have n0_ := Aside0.mk (below_step (by repeat (first | (with_reducible first | exact HB.out | apply below_alloc | apply pw_below_drewN | apply below_drew1) | exact HB.out)) hb); clear HB; have HB := n0_; clear n0_; (try clear hb); (try clear hb2); (try clear hk); (try clear hi)))
                      go_ret
                      exact ⟨by first | rfl | (simp [errW_none, errW_some] <;> rfl) | (simp only [← hji14]; first | rfl | (simp [errW_none, errW_some] <;> rfl)) | (simp [*, errW_none, errW_some] <;> rfl), by repeat (first | (with_reducible first | exact HB.out | apply below_alloc | apply pw_below_drewN | apply below_drew1) | exact HB.out)⟩
                    · rw [if_neg c17] at H
                      have c17b0 : ((bt a0 (ji14)) == 63) = false := beq_eq_false_iff_ne.mpr c17
                      have c17b1 : ((bt a0 (ji14)) != 63) = true := bne_iff_ne.mpr c17
                      have H' := Aside0.mk H
                      clear H
                      have p12 : 0 ≤ (x4_1 : Int) := of_decide_eq_true (by first | (with_reducible assumption) | assumption)
                      have q12 : x4_1 < (a0.size : Int) := of_decide_eq_true (by first | (with_reducible assumption) | assumption)
                      have hx12 := bt_at a0 x4_1
                      replace p12 := eq_true p12
                      replace q12 := eq_true q12
                      have p16 : 0 ≤ ((ji14) : Int) := of_decide_eq_true (by first | (with_reducible assumption) | assumption)
                      have q16 : (ji14) < (a0.size : Int) := of_decide_eq_true (by first | (with_reducible assumption) | assumption)
                      have hx16 := bt_at a0 (ji14)
                      replace p16 := eq_true p16
                      replace q16 := eq_true q16
                      go_wp2
                      go_roundg k1
                      case measure => have := HK1.out; omega
                      case rel => exact ⟨(ji14), (by first | rfl | (simp; done) | (simp only [← hji14] <;> (first | rfl | (simp; done) | (simp; simp only [hji14]; exact beq_iff_eq.1 (by assumption)))) | (simp [*]; done)), H', ⟨by have := HK1.out; omega⟩, ⟨by repeat (first | (with_reducible first | exact HB.out | apply below_alloc | apply pw_below_drewN | apply below_drew1) | exact HB.out)⟩⟩
                  · rw [if_neg c15] at H
                    exact absurd H (by simp)
                · rw [if_neg c13] at H
                  have c13b0 : ((bt a0 x4_1) == 61) = false := beq_eq_false_iff_ne.mpr c13
                  have c13b1 : ((bt a0 x4_1) != 61) = true := bne_iff_ne.mpr c13
                  have H' := Aside0.mk H
                  clear H
                  have p12 : 0 ≤ (x4_1 : Int) := of_decide_eq_true (by first | (with_reducible assumption) | assumption)
                  have q12 : x4_1 < (a0.size : Int) := of_decide_eq_true (by first | (with_reducible assumption) | assumption)
                  have hx12 := bt_at a0 x4_1
                  replace p12 := eq_true p12
                  replace q12 := eq_true q12
                  go_wp2
                  go_roundg k1
                  case measure => have := HK1.out; omega
                  case rel => exact ⟨(wrap64 (x4_1 + 1)), (by first | rfl | (simp; done) | (simp [*]; done)), H', ⟨by have := HK1.out; omega⟩, ⟨by repeat (first | (with_reducible first | exact HB.out | apply below_alloc | apply pw_below_drewN | apply below_drew1) | exact HB.out)⟩⟩
              · rw [if_neg c11] at H
                exact absurd H (by simp)
            · rw [if_neg c10] at H
              exact absurd H (by simp)
          · rw [if_neg c9] at H
            have c9b0 : decide ((wrap64 (x4_1 + 1)) < (a0.size : Int)) = false := decide_eq_false c9
            clear c9
            replace H := Option.bind_eq_some_iff.mp H
            obtain ⟨t167, A200, H⟩ := H
            replace H : (if t164.toList = t167.toList then ((muslinlaw05_live.f).bind fun t168 => (some t168)) else (some false)) = some r := H
            have A20 := Aside0.mk A200
            clear A200
            by_cases c21 : t164.toList = t167.toList
            · rw [if_pos c21] at H
              have c21b0 : (t164.toList == t167.toList) = true := beq_iff_eq.mpr c21
              have c21b1 : (t164.toList != t167.toList) = false := bne_eq_false_iff_eq.mpr c21
              clear c21
              replace H := Option.bind_eq_some_iff.mp H
              obtain ⟨t168, A220, H⟩ := H
              replace H : (some t168) = some r := H
              have A22 := Aside0.mk A220
              clear A220
              obtain rfl := Option.some.inj H
              go_wp2_with (first | ((with_reducible refine gate_callee (f := 17) rfl ?_); refine goesL_ (some 36) rfl rfl Tryd.func17 (by kernel_rfl) rfl #[.string a0] rfl (by (try simp only [List.map_toArray, List.map_cons, List.map_nil]); first | done | rfl | (simp only [List.length_drop, List.length_take]; rfl)) ?_; (with_reducible refine (chars_Valid.calls a0 t167 _ A20.out).mono ?_); rintro e w23 ⟨rfl, hb⟩; refine ⟨_, rfl, ?_⟩; have n0_ := Aside0.mk (below_step (by repeat (first | (with_reducible first | exact HB.out | apply below_alloc | apply pw_below_drewN | apply below_drew1) | exact HB.out)) hb); clear HB; have HB := n0_; clear n0_; (try clear hb); (try clear hb2); (try clear hk); (try clear hi)) | (go_at_call 10; (with_reducible refine (muslinlaw05_live.calls  t168 _ ?sideGl A22.out).mono ?_); (case sideGl => exact HGl.out.below (by repeat (first | (with_reducible first | exact HB.out | apply below_alloc | apply pw_below_drewN | apply below_drew1) | exact HB.out))); rintro e w24 ⟨rfl, hb⟩; have n0_ := Aside0.mk (below_step (by repeat (first | (with_reducible first | exact HB.out | apply below_alloc | apply pw_below_drewN | apply below_drew1) | exact HB.out)) hb); clear HB; have HB := n0_; clear n0_; (try clear hb); (try clear hb2); (try clear hk); (try clear hi)))
              go_ret
              exact ⟨by first | rfl | (simp [errW_none, errW_some] <;> rfl) | (simp [*, errW_none, errW_some] <;> rfl), by repeat (first | (with_reducible first | exact HB.out | apply below_alloc | apply pw_below_drewN | apply below_drew1) | exact HB.out)⟩
            · rw [if_neg c21] at H
              have c21b0 : (t164.toList == t167.toList) = false := beq_eq_false_iff_ne.mpr c21
              have c21b1 : (t164.toList != t167.toList) = true := bne_iff_ne.mpr c21
              obtain rfl := Option.some.inj H
              go_wp2_with (first | ((with_reducible refine gate_callee (f := 17) rfl ?_); refine goesL_ (some 36) rfl rfl Tryd.func17 (by kernel_rfl) rfl #[.string a0] rfl (by (try simp only [List.map_toArray, List.map_cons, List.map_nil]); first | done | rfl | (simp only [List.length_drop, List.length_take]; rfl)) ?_; (with_reducible refine (chars_Valid.calls a0 t167 _ A20.out).mono ?_); rintro e w25 ⟨rfl, hb⟩; refine ⟨_, rfl, ?_⟩; have n0_ := Aside0.mk (below_step (by repeat (first | (with_reducible first | exact HB.out | apply below_alloc | apply pw_below_drewN | apply below_drew1) | exact HB.out)) hb); clear HB; have HB := n0_; clear n0_; (try clear hb); (try clear hb2); (try clear hk); (try clear hi)))
              go_ret
              exact ⟨by first | rfl | (simp [errW_none, errW_some] <;> rfl) | (simp [*, errW_none, errW_some] <;> rfl), by repeat (first | (with_reducible first | exact HB.out | apply below_alloc | apply pw_below_drewN | apply below_drew1) | exact HB.out)⟩
    · rw [if_neg c6] at H
      have c6b0 : (t165.toList == t164.toList) = false := beq_eq_false_iff_ne.mpr c6
      have c6b1 : (t165.toList != t164.toList) = true := bne_iff_ne.mpr c6
      obtain rfl := Option.some.inj H
      go_enter Tryd.func6, Tryd.ntmps6
      go_wp2_with (first | ((with_reducible refine gate_callee (f := 9) rfl ?_); refine goesL_ (some 6) rfl rfl Tryd.func9 (by kernel_rfl) rfl #[.string a0] rfl (by (try simp only [List.map_toArray, List.map_cons, List.map_nil]); first | done | rfl | (simp only [List.length_drop, List.length_take]; rfl)) ?_; (with_reducible refine (muslinlaw05_short.calls a0 true _ A2.out).mono ?_); rintro e w' ⟨rfl, ⟨nd, rfl⟩⟩; refine ⟨_, rfl, ?_⟩) | ((with_reducible refine gate_callee (f := 13) rfl ?_); refine goesL_ (some 10) rfl rfl Tryd.func13 (by kernel_rfl) rfl #[.string a0] rfl (by (try simp only [List.map_toArray, List.map_cons, List.map_nil]); first | done | rfl | (simp only [List.length_drop, List.length_take]; rfl)) ?_; (with_reducible refine (word_Decode.calls a0 t164 _ ?sideGl A4.out).mono ?_); (case sideGl => exact HGl.out.below (by repeat (first | (with_reducible first | exact HB.out | apply below_alloc | apply pw_below_drewN | apply below_drew1) | exact HB.out))); rintro e w26 ⟨rfl, hb⟩; refine ⟨_, rfl, ?_⟩; have n0_ := Aside0.mk (below_step (by repeat (first | (with_reducible first | exact HB.out | apply below_alloc | apply pw_below_drewN | apply below_drew1) | exact HB.out)) hb); clear HB; have HB := n0_; clear n0_; (try clear hb); (try clear hb2); (try clear hk); (try clear hi)) | ((with_reducible refine gate_callee (f := 18) rfl ?_); refine goesL_ (some 12) rfl rfl Tryd.func18 (by kernel_rfl) rfl #[.string t164] rfl (by (try simp only [List.map_toArray, List.map_cons, List.map_nil]); first | done | rfl | (simp only [List.length_drop, List.length_take]; rfl)) ?_; (with_reducible refine (muslinref04_Valid.calls t164 t165 _ A5.out).mono ?_); rintro e w27 ⟨rfl, hb⟩; refine ⟨_, rfl, ?_⟩; have n0_ := Aside0.mk (below_step (by repeat (first | (with_reducible first | exact HB.out | apply below_alloc | apply pw_below_drewN | apply below_drew1) | exact HB.out)) hb); clear HB; have HB := n0_; clear n0_; (try clear hb); (try clear hb2); (try clear hk); (try clear hi)))
      go_ret
      exact ⟨by first | rfl | (simp [errW_none, errW_some] <;> rfl) | (simp [*, errW_none, errW_some] <;> rfl), by repeat (first | (with_reducible first | exact HB.out | apply below_alloc | apply pw_below_drewN | apply below_drew1) | exact HB.out)⟩
  · replace c3 := Bool.eq_false_iff.mpr c3
    subst c3
    have H1 : ((muslinlaw05_live.f).bind fun t163 => (some t163)) = some r := by rw [if_neg (show ¬ (false = true) by decide)] at H; exact H
    clear H
    have H := H1
    clear H1
    replace H := Option.bind_eq_some_iff.mp H
    obtain ⟨t163, A280, H⟩ := H
    replace H : (some t163) = some r := H
    have A28 := Aside0.mk A280
    clear A280
    obtain rfl := Option.some.inj H
    go_enter Tryd.func6, Tryd.ntmps6
    go_wp2_with (first | ((with_reducible refine gate_callee (f := 9) rfl ?_); refine goesL_ (some 6) rfl rfl Tryd.func9 (by kernel_rfl) rfl #[.string a0] rfl (by (try simp only [List.map_toArray, List.map_cons, List.map_nil]); first | done | rfl | (simp only [List.length_drop, List.length_take]; rfl)) ?_; (with_reducible refine (muslinlaw05_short.calls a0 false _ A2.out).mono ?_); rintro e w' ⟨rfl, ⟨nd, rfl⟩⟩; refine ⟨_, rfl, ?_⟩) | ((with_reducible refine gate_callee (f := 10) rfl ?_); refine goesL_ (some 8) rfl rfl Tryd.func10 (by kernel_rfl) rfl #[] rfl (by (try simp only [List.map_toArray, List.map_cons, List.map_nil]); first | done | rfl | (simp only [List.length_drop, List.length_take]; rfl)) ?_; (with_reducible refine (muslinlaw05_live.calls  t163 _ ?sideGl A28.out).mono ?_); (case sideGl => exact HGl.out.below (by repeat (first | (with_reducible first | exact HB.out | apply below_alloc | apply pw_below_drewN | apply below_drew1) | exact HB.out))); rintro e w29 ⟨rfl, hb⟩; refine ⟨_, rfl, ?_⟩; have n0_ := Aside0.mk (below_step (by repeat (first | (with_reducible first | exact HB.out | apply below_alloc | apply pw_below_drewN | apply below_drew1) | exact HB.out)) hb); clear HB; have HB := n0_; clear n0_; (try clear hb); (try clear hb2); (try clear hk); (try clear hi)))
    go_ret
    exact ⟨by first | rfl | (simp [errW_none, errW_some] <;> rfl) | (simp [*, errW_none, errW_some] <;> rfl), by repeat (first | (with_reducible first | exact HB.out | apply below_alloc | apply pw_below_drewN | apply below_drew1) | exact HB.out)⟩
def muslinlaw05_WordValid.Pure : Prop := ∀ (a0 : ByteArray), a0.size ≤ 140737488351232 → ∃ k, muslinlaw05_WordValid.f k a0 = some true
theorem muslinlaw05_WordValid.walk (P : muslinlaw05_WordValid.Pure) (a0 : ByteArray) (w : World) (hGl : Glob w) (w0 : a0.size ≤ 140737488351232) :
    Calls Tryd.prog 6 #[.string a0] w fun e w' => e = .returned (.bool true) ∧ Below w.heap.size w w' := by
  obtain ⟨k, h⟩ := P a0 w0
  refine (muslinlaw05_WordValid.calls k a0 true w hGl h).mono ?_
  rintro e w' ⟨rfl, hd⟩
  exact ⟨rfl, hd⟩
def muslinlaw05_WordShort.l0 : Nat → ByteArray → Int → Int → Option (Bool)
  | 0, _, _, _ => none
  | k + 1, x3, x4, x5 => if x5 < (x3.size : Int) then (if 0 ≤ x5 then (if (bt x3 x5) = 32 then (muslinlaw05_WordShort.l0 k x3 0 (wrap64 (x5 + 1))) else (if (wrap64 (x4 + 1)) > 52 then (some false) else (muslinlaw05_WordShort.l0 k x3 (wrap64 (x4 + 1)) (wrap64 (x5 + 1))))) else (none)) else ((muslinlaw05_live.f).bind fun t183 => (some t183))
def muslinlaw05_WordShort.f (k : Nat) (a0 : ByteArray) : Option (Bool) := (muslinlaw05_short.f a0).bind fun t179 => (if t179 = true then ((word_Encode.f a0).bind fun t181 => (if t181.toList = a0.toList then ((muslinlaw05_live.f).bind fun t182 => (some t182)) else (muslinlaw05_WordShort.l0 k t181 0 0))) else ((muslinlaw05_live.f).bind fun t180 => (some t180)))
set_option maxHeartbeats 8000000 in
set_option maxRecDepth 100000 in
theorem muslinlaw05_WordShort.calls (k : Nat) (a0 : ByteArray) (r : Bool) (w : World) (hGl : Glob w) (h : muslinlaw05_WordShort.f k a0 = some r) :
    Calls Tryd.prog 8 #[.string a0] w fun e w' => e = .returned (.bool r) ∧ Below w.heap.size w w' := by
  have HGl := Aside0.mk hGl
  clear hGl
  have HB := Aside0.mk (Below.refl w.heap.size w)
  have H : ((muslinlaw05_short.f a0).bind fun t179 => (if t179 = true then ((word_Encode.f a0).bind fun t181 => (if t181.toList = a0.toList then ((muslinlaw05_live.f).bind fun t182 => (some t182)) else (muslinlaw05_WordShort.l0 k t181 0 0))) else ((muslinlaw05_live.f).bind fun t180 => (some t180)))) = some r := h
  clear h
  replace H := Option.bind_eq_some_iff.mp H
  obtain ⟨t179, A20, H⟩ := H
  replace H : (if t179 = true then ((word_Encode.f a0).bind fun t181 => (if t181.toList = a0.toList then ((muslinlaw05_live.f).bind fun t182 => (some t182)) else (muslinlaw05_WordShort.l0 k t181 0 0))) else ((muslinlaw05_live.f).bind fun t180 => (some t180))) = some r := H
  have A2 := Aside0.mk A20
  clear A20
  by_cases c3 : t179 = true
  · subst c3
    have H1 : ((word_Encode.f a0).bind fun t181 => (if t181.toList = a0.toList then ((muslinlaw05_live.f).bind fun t182 => (some t182)) else (muslinlaw05_WordShort.l0 k t181 0 0))) = some r := by rw [if_pos rfl] at H; exact H
    clear H
    have H := H1
    clear H1
    replace H := Option.bind_eq_some_iff.mp H
    obtain ⟨t181, A40, H⟩ := H
    replace H : (if t181.toList = a0.toList then ((muslinlaw05_live.f).bind fun t182 => (some t182)) else (muslinlaw05_WordShort.l0 k t181 0 0)) = some r := H
    have A4 := Aside0.mk A40
    clear A40
    by_cases c5 : t181.toList = a0.toList
    · rw [if_pos c5] at H
      have c5b0 : (t181.toList == a0.toList) = true := beq_iff_eq.mpr c5
      have c5b1 : (t181.toList != a0.toList) = false := bne_eq_false_iff_eq.mpr c5
      clear c5
      replace H := Option.bind_eq_some_iff.mp H
      obtain ⟨t182, A60, H⟩ := H
      replace H : (some t182) = some r := H
      have A6 := Aside0.mk A60
      clear A60
      obtain rfl := Option.some.inj H
      go_enter Tryd.func8, Tryd.ntmps8
      go_wp2_with (first | ((with_reducible refine gate_callee (f := 9) rfl ?_); refine goesL_ (some 7) rfl rfl Tryd.func9 (by kernel_rfl) rfl #[.string a0] rfl (by (try simp only [List.map_toArray, List.map_cons, List.map_nil]); first | done | rfl | (simp only [List.length_drop, List.length_take]; rfl)) ?_; (with_reducible refine (muslinlaw05_short.calls a0 true _ A2.out).mono ?_); rintro e w' ⟨rfl, ⟨nd, rfl⟩⟩; refine ⟨_, rfl, ?_⟩) | ((with_reducible refine gate_callee (f := 15) rfl ?_); refine goesL_ (some 11) rfl rfl Tryd.func15 (by kernel_rfl) rfl #[.string a0] rfl (by (try simp only [List.map_toArray, List.map_cons, List.map_nil]); first | done | rfl | (simp only [List.length_drop, List.length_take]; rfl)) ?_; (with_reducible refine (word_Encode.calls a0 t181 _ ?sideGl A4.out).mono ?_); (case sideGl => exact HGl.out.below (by repeat (first | (with_reducible first | exact HB.out | apply below_alloc | apply pw_below_drewN | apply below_drew1) | exact HB.out))); rintro e w7 ⟨rfl, hb⟩; refine ⟨_, rfl, ?_⟩; have n0_ := Aside0.mk (below_step (by repeat (first | (with_reducible first | exact HB.out | apply below_alloc | apply pw_below_drewN | apply below_drew1) | exact HB.out)) hb); clear HB; have HB := n0_; clear n0_; (try clear hb); (try clear hb2); (try clear hk); (try clear hi)) | ((with_reducible refine gate_callee (f := 10) rfl ?_); refine goesL_ (some 15) rfl rfl Tryd.func10 (by kernel_rfl) rfl #[] rfl (by (try simp only [List.map_toArray, List.map_cons, List.map_nil]); first | done | rfl | (simp only [List.length_drop, List.length_take]; rfl)) ?_; (with_reducible refine (muslinlaw05_live.calls  t182 _ ?sideGl A6.out).mono ?_); (case sideGl => exact HGl.out.below (by repeat (first | (with_reducible first | exact HB.out | apply below_alloc | apply pw_below_drewN | apply below_drew1) | exact HB.out))); rintro e w8 ⟨rfl, hb⟩; refine ⟨_, rfl, ?_⟩; have n0_ := Aside0.mk (below_step (by repeat (first | (with_reducible first | exact HB.out | apply below_alloc | apply pw_below_drewN | apply below_drew1) | exact HB.out)) hb); clear HB; have HB := n0_; clear n0_; (try clear hb); (try clear hb2); (try clear hk); (try clear hi)))
      go_ret
      exact ⟨by first | rfl | (simp [errW_none, errW_some] <;> rfl) | (simp [*, errW_none, errW_some] <;> rfl), by repeat (first | (with_reducible first | exact HB.out | apply below_alloc | apply pw_below_drewN | apply below_drew1) | exact HB.out)⟩
    · rw [if_neg c5] at H
      have c5b0 : (t181.toList == a0.toList) = false := beq_eq_false_iff_ne.mpr c5
      have c5b1 : (t181.toList != a0.toList) = true := bne_iff_ne.mpr c5
      have H' := Aside0.mk H
      clear H
      go_enter Tryd.func8, Tryd.ntmps8
      go_wp2_with (first | ((with_reducible refine gate_callee (f := 9) rfl ?_); refine goesL_ (some 7) rfl rfl Tryd.func9 (by kernel_rfl) rfl #[.string a0] rfl (by (try simp only [List.map_toArray, List.map_cons, List.map_nil]); first | done | rfl | (simp only [List.length_drop, List.length_take]; rfl)) ?_; (with_reducible refine (muslinlaw05_short.calls a0 true _ A2.out).mono ?_); rintro e w' ⟨rfl, ⟨nd, rfl⟩⟩; refine ⟨_, rfl, ?_⟩) | ((with_reducible refine gate_callee (f := 15) rfl ?_); refine goesL_ (some 11) rfl rfl Tryd.func15 (by kernel_rfl) rfl #[.string a0] rfl (by (try simp only [List.map_toArray, List.map_cons, List.map_nil]); first | done | rfl | (simp only [List.length_drop, List.length_take]; rfl)) ?_; (with_reducible refine (word_Encode.calls a0 t181 _ ?sideGl A4.out).mono ?_); (case sideGl => exact HGl.out.below (by repeat (first | (with_reducible first | exact HB.out | apply below_alloc | apply pw_below_drewN | apply below_drew1) | exact HB.out))); rintro e w9 ⟨rfl, hb⟩; refine ⟨_, rfl, ?_⟩; have n0_ := Aside0.mk (below_step (by repeat (first | (with_reducible first | exact HB.out | apply below_alloc | apply pw_below_drewN | apply below_drew1) | exact HB.out)) hb); clear HB; have HB := n0_; clear n0_; (try clear hb); (try clear hb2); (try clear hk); (try clear hi)))
      go_loopg [4, 5] k (fun kq v4 v5 w' => ∃ (x4_1 : Int) (x5_1 : Int), v4 = .int .i64 x4_1 ∧ v5 = .int .i64 x5_1 ∧ Aside0 (muslinlaw05_WordShort.l0 kq t181 x4_1 x5_1 = some r) ∧ Aside0 (kq ≤ k) ∧ Aside0 (Below w.heap.size w w'))
      case atStart => exact ⟨(0), (0), (by first | rfl | (simp; done) | (simp [*]; done)), (by first | rfl | (simp; done) | (simp [*]; done)), H', ⟨Nat.le_refl _⟩, ⟨by repeat (first | (with_reducible first | exact HB.out | apply below_alloc | apply pw_below_drewN | apply below_drew1) | exact HB.out)⟩⟩
      case round =>
        clear H'
        try clear c1
        try clear p2
        try clear c3
        try clear c5
        try clear c5b0
        try clear c5b1
        try clear c8
        try clear c9
        obtain ⟨x4_1, x5_1, rfl, rfl, HA, HK1, HB⟩ := hrel
        cases gk with
        | zero => exact absurd HA.out (by simp [muslinlaw05_WordShort.l0])
        | succ k1 =>
          have H := HA.out
          clear HA
          simp only [muslinlaw05_WordShort.l0] at H
          by_cases c10 : x5_1 < (t181.size : Int)
          · rw [if_pos c10] at H
            have c10b0 : decide (x5_1 < (t181.size : Int)) = true := decide_eq_true c10
            clear c10
            by_cases c11 : 0 ≤ x5_1
            · rw [if_pos c11] at H
              have c11b0 : decide (0 ≤ x5_1) = true := decide_eq_true c11
              clear c11
              by_cases c13 : (bt t181 x5_1) = 32
              · rw [if_pos c13] at H
                have c13b0 : ((bt t181 x5_1) == 32) = true := beq_iff_eq.mpr c13
                have c13b1 : ((bt t181 x5_1) != 32) = false := bne_eq_false_iff_eq.mpr c13
                clear c13
                have H' := Aside0.mk H
                clear H
                have p12 : 0 ≤ (x5_1 : Int) := of_decide_eq_true (by first | (with_reducible assumption) | assumption)
                have q12 : x5_1 < (t181.size : Int) := of_decide_eq_true (by first | (with_reducible assumption) | assumption)
                have hx12 := bt_at t181 x5_1
                replace p12 := eq_true p12
                replace q12 := eq_true q12
                go_wp2
                go_roundg k1
                case measure => have := HK1.out; omega
                case rel => exact ⟨(0), (wrap64 (x5_1 + 1)), (by first | rfl | (simp; done) | (simp [*]; done)), (by first | rfl | (simp; done) | (simp [*]; done)), H', ⟨by have := HK1.out; omega⟩, ⟨by repeat (first | (with_reducible first | exact HB.out | apply below_alloc | apply pw_below_drewN | apply below_drew1) | exact HB.out)⟩⟩
              · rw [if_neg c13] at H
                have c13b0 : ((bt t181 x5_1) == 32) = false := beq_eq_false_iff_ne.mpr c13
                have c13b1 : ((bt t181 x5_1) != 32) = true := bne_iff_ne.mpr c13
                by_cases c14 : (wrap64 (x4_1 + 1)) > 52
                · rw [if_pos c14] at H
                  have c14b0 : decide (52 < (wrap64 (x4_1 + 1))) = true := decide_eq_true c14
                  clear c14
                  obtain rfl := Option.some.inj H
                  have p12 : 0 ≤ (x5_1 : Int) := of_decide_eq_true (by first | (with_reducible assumption) | assumption)
                  have q12 : x5_1 < (t181.size : Int) := of_decide_eq_true (by first | (with_reducible assumption) | assumption)
                  have hx12 := bt_at t181 x5_1
                  replace p12 := eq_true p12
                  replace q12 := eq_true q12
                  go_wp2
                  go_ret
                  exact ⟨by first | rfl | (simp [errW_none, errW_some] <;> rfl) | (simp [*, errW_none, errW_some] <;> rfl), by repeat (first | (with_reducible first | exact HB.out | apply below_alloc | apply pw_below_drewN | apply below_drew1) | exact HB.out)⟩
                · rw [if_neg c14] at H
                  have c14b0 : decide (52 < (wrap64 (x4_1 + 1))) = false := decide_eq_false c14
                  clear c14
                  have H' := Aside0.mk H
                  clear H
                  have p12 : 0 ≤ (x5_1 : Int) := of_decide_eq_true (by first | (with_reducible assumption) | assumption)
                  have q12 : x5_1 < (t181.size : Int) := of_decide_eq_true (by first | (with_reducible assumption) | assumption)
                  have hx12 := bt_at t181 x5_1
                  replace p12 := eq_true p12
                  replace q12 := eq_true q12
                  go_wp2
                  go_roundg k1
                  case measure => have := HK1.out; omega
                  case rel => exact ⟨(wrap64 (x4_1 + 1)), (wrap64 (x5_1 + 1)), (by first | rfl | (simp; done) | (simp [*]; done)), (by first | rfl | (simp; done) | (simp [*]; done)), H', ⟨by have := HK1.out; omega⟩, ⟨by repeat (first | (with_reducible first | exact HB.out | apply below_alloc | apply pw_below_drewN | apply below_drew1) | exact HB.out)⟩⟩
            · rw [if_neg c11] at H
              exact absurd H (by simp)
          · rw [if_neg c10] at H
            have c10b0 : decide (x5_1 < (t181.size : Int)) = false := decide_eq_false c10
            clear c10
            replace H := Option.bind_eq_some_iff.mp H
            obtain ⟨t183, A150, H⟩ := H
            replace H : (some t183) = some r := H
            have A15 := Aside0.mk A150
            clear A150
            obtain rfl := Option.some.inj H
            go_wp2_with (first | ((with_reducible refine gate_callee (f := 10) rfl ?_); refine goesL_ (some 30) rfl rfl Tryd.func10 (by kernel_rfl) rfl #[] rfl (by (try simp only [List.map_toArray, List.map_cons, List.map_nil]); first | done | rfl | (simp only [List.length_drop, List.length_take]; rfl)) ?_; (with_reducible refine (muslinlaw05_live.calls  t183 _ ?sideGl A15.out).mono ?_); (case sideGl => exact HGl.out.below (by repeat (first | (with_reducible first | exact HB.out | apply below_alloc | apply pw_below_drewN | apply below_drew1) | exact HB.out))); rintro e w16 ⟨rfl, hb⟩; refine ⟨_, rfl, ?_⟩; have n0_ := Aside0.mk (below_step (by repeat (first | (with_reducible first | exact HB.out | apply below_alloc | apply pw_below_drewN | apply below_drew1) | exact HB.out)) hb); clear HB; have HB := n0_; clear n0_; (try clear hb); (try clear hb2); (try clear hk); (try clear hi)))
            go_ret
            exact ⟨by first | rfl | (simp [errW_none, errW_some] <;> rfl) | (simp [*, errW_none, errW_some] <;> rfl), by repeat (first | (with_reducible first | exact HB.out | apply below_alloc | apply pw_below_drewN | apply below_drew1) | exact HB.out)⟩
  · replace c3 := Bool.eq_false_iff.mpr c3
    subst c3
    have H1 : ((muslinlaw05_live.f).bind fun t180 => (some t180)) = some r := by rw [if_neg (show ¬ (false = true) by decide)] at H; exact H
    clear H
    have H := H1
    clear H1
    replace H := Option.bind_eq_some_iff.mp H
    obtain ⟨t180, A170, H⟩ := H
    replace H : (some t180) = some r := H
    have A17 := Aside0.mk A170
    clear A170
    obtain rfl := Option.some.inj H
    go_enter Tryd.func8, Tryd.ntmps8
    go_wp2_with (first | ((with_reducible refine gate_callee (f := 9) rfl ?_); refine goesL_ (some 7) rfl rfl Tryd.func9 (by kernel_rfl) rfl #[.string a0] rfl (by (try simp only [List.map_toArray, List.map_cons, List.map_nil]); first | done | rfl | (simp only [List.length_drop, List.length_take]; rfl)) ?_; (with_reducible refine (muslinlaw05_short.calls a0 false _ A2.out).mono ?_); rintro e w' ⟨rfl, ⟨nd, rfl⟩⟩; refine ⟨_, rfl, ?_⟩) | ((with_reducible refine gate_callee (f := 10) rfl ?_); refine goesL_ (some 9) rfl rfl Tryd.func10 (by kernel_rfl) rfl #[] rfl (by (try simp only [List.map_toArray, List.map_cons, List.map_nil]); first | done | rfl | (simp only [List.length_drop, List.length_take]; rfl)) ?_; (with_reducible refine (muslinlaw05_live.calls  t180 _ ?sideGl A17.out).mono ?_); (case sideGl => exact HGl.out.below (by repeat (first | (with_reducible first | exact HB.out | apply below_alloc | apply pw_below_drewN | apply below_drew1) | exact HB.out))); rintro e w18 ⟨rfl, hb⟩; refine ⟨_, rfl, ?_⟩; have n0_ := Aside0.mk (below_step (by repeat (first | (with_reducible first | exact HB.out | apply below_alloc | apply pw_below_drewN | apply below_drew1) | exact HB.out)) hb); clear HB; have HB := n0_; clear n0_; (try clear hb); (try clear hb2); (try clear hk); (try clear hi)))
    go_ret
    exact ⟨by first | rfl | (simp [errW_none, errW_some] <;> rfl) | (simp [*, errW_none, errW_some] <;> rfl), by repeat (first | (with_reducible first | exact HB.out | apply below_alloc | apply pw_below_drewN | apply below_drew1) | exact HB.out)⟩
def muslinlaw05_WordShort.Pure : Prop := ∀ (a0 : ByteArray), a0.size ≤ 140737488351232 → ∃ k, muslinlaw05_WordShort.f k a0 = some true
theorem muslinlaw05_WordShort.walk (P : muslinlaw05_WordShort.Pure) (a0 : ByteArray) (w : World) (hGl : Glob w) (w0 : a0.size ≤ 140737488351232) :
    Calls Tryd.prog 8 #[.string a0] w fun e w' => e = .returned (.bool true) ∧ Below w.heap.size w w' := by
  obtain ⟨k, h⟩ := P a0 w0
  refine (muslinlaw05_WordShort.calls k a0 true w hGl h).mono ?_
  rintro e w' ⟨rfl, hd⟩
  exact ⟨rfl, hd⟩
end Go.Proofs.YtokkgjiofhhlkaaDoor.P
namespace Go.Proofs.YtokkgjiofhhlkaaDoor.Pure
open Go.RowKit Go.Lib Go.Proofs.YtokkgjiofhhlkaaDoor Go.Proofs.YtokkgjiofhhlkaaDoor.P Go.Proofs.YtokkgjiofhhlkaaDoor.WordL Go.Proofs.YtokkgjiofhhlkaaDoorW.PrintWords Go.Proofs.YtokkgjiofhhlkaaDoorW.PrintLast
set_option linter.unusedVariables false
set_option linter.unusedSimpArgs false
theorem live_is : muslinlaw05_live.f = some true := by kernel_rfl
theorem live_end : Ev (fun k => (muslinlaw05_live.f).bind fun t => some t) true := by rw [live_is]; exact Ev.now _
theorem short_yes (a : ByteArray) (h : a.size ≤ 2000) : muslinlaw05_short.f a = some true := by
  unfold muslinlaw05_short.f
  have : ((a.size : Int) ≤ 2000) := by omega
  simp [this]
theorem short_no (a : ByteArray) (h : ¬ a.size ≤ 2000) : muslinlaw05_short.f a = some false := by
  unfold muslinlaw05_short.f
  have : ¬ ((a.size : Int) ≤ 2000) := by omega
  simp [this]
theorem WordEncodes : muslinlaw05_WordEncodes.Pure := by
  intro a _
  by_cases h : a.size ≤ 2000
  · have h1 := short_yes a h
    have e1 : word_Encode.f a = some ⟨(encL a.data.toList).toArray⟩ := guard_of (by omega)
    have e2 : muslinref05_Encode.f a = some ⟨(encL a.data.toList).toArray⟩ := guard_of (by omega)
    unfold muslinlaw05_WordEncodes.f
    rw [h1]
    simp only [Option.bind_some, if_true]
    rw [e1, e2]
    simp only [Option.bind_some, if_true]
    rw [live_is]; rfl
  · unfold muslinlaw05_WordEncodes.f
    rw [short_no a h]
    simp only [Option.bind_some, Bool.false_eq_true, if_false]
    rw [live_is]; rfl
theorem chunks_len : ∀ (f : Nat) (l : List UInt8), (chunks f l).length ≤ l.length
  | 0, l => by simp [chunks]
  | f + 1, l => by
    simp only [chunks]
    split
    · simp
    · rename_i h
      have hp := chunk_pos l.length l h (Nat.le_refl _)
      have hl := List.length_pos_iff.2 h
      have ih := chunks_len f (l.drop (chunk l.length l 0))
      rw [List.length_drop] at ih
      simp only [List.length_cons]; omega
theorem encL_size (l : List UInt8) : (encL l).length ≤ 159 * l.length := by
  unfold encL
  split
  · omega
  · obtain ⟨h1, h2⟩ := chunks_Val (vl l).length (vl l) (vl_Val l) (Nat.le_refl _)
    have h3 := inter_len (wordsL (vl l)) (fun w hw => by
      obtain ⟨x, hx, rfl⟩ := List.mem_map.1 hw
      exact wordOf_52 x (h2 x hx).2)
    have h4 : (wordsL (vl l)).length ≤ (vl l).length := by unfold wordsL; rw [List.length_map]; exact chunks_len _ _
    have h5 := vl_len l
    omega
theorem at_end {s : ByteArray} {i : Nat} (h : s.data.toList.drop i = []) : s.size ≤ i := by
  have := congrArg List.length h
  rw [List.length_drop, sizeL, List.length_nil] at this; omega
theorem at_drop {s : ByteArray} {i : Nat} {c : UInt8} {r : List UInt8} (h : s.data.toList.drop i = c :: r) : bt s (i : Int) = (c.toNat : Int) ∧ i < s.size ∧ s.data.toList.drop (i + 1) = r := by
  have hz : i < s.size := by
    rcases Nat.lt_or_ge i s.size with h1 | h1
    · exact h1
    · rw [List.drop_eq_nil_of_le (by rw [sizeL]; exact h1)] at h; cases h
  have hl : i < s.data.toList.length := by rw [sizeL]; exact hz
  have e := List.drop_eq_getElem_cons hl
  rw [h] at e
  injection e with e1 e2
  exact ⟨by rw [bt_get s i hl, ← e1], hz, e2.symm⟩
theorem back_loop (a T : ByteArray) (ha : a.size ≤ 2000) (hT : T.data.toList = encL a.data.toList) : ∀ (n i : Nat), T.size - i ≤ n → i ≤ T.size → Ev (fun k => muslinlaw05_WordBack.l0 k a T (i : Int)) true := by
  have hz : T.size ≤ 318000 := by
    have := encL_size a.data.toList
    rw [← hT, sizeL, sizeL] at this; omega
  have fin : ∀ i, T.size ≤ i → i ≤ T.size → Ev (fun k => muslinlaw05_WordBack.l0 k a T (i : Int)) true := by
    intro i hi hi2
    refine Ev.round (fun k => by rw [muslinlaw05_WordBack.l0]) ?_
    refine Ev.neg (by omega) ?_
    refine Ev.got (x := word_Decode.f T) (guard_of (by omega)) ?_
    refine Ev.got (x := chars_Valid.f a) (guard_of (by omega)) ?_
    refine Ev.pos (by rw [toList_eq, toList_eq, mk_toList, hT, enc_back, validS_eq, mk_toList]) ?_
    exact live_end
  intro n
  induction n with
  | zero => intro i h1 h2; exact fin i (by omega) h2
  | succ n ih =>
    intro i h1 h2
    cases hd : T.data.toList.drop i with
    | nil => exact fin i (at_end hd) h2
    | cons c r =>
      obtain ⟨hb, hlt, hr⟩ := at_drop hd
      have hok := enc_ok a.data.toList c (by rw [← hT]; exact List.mem_of_mem_drop (i := i) (by rw [hd]; simp))
      unfold okC at hok
      have hok := of_decide_eq_true hok
      refine Ev.round (fun k => by rw [muslinlaw05_WordBack.l0]) ?_
      refine Ev.pos (by omega) ?_
      refine Ev.pos (by omega) ?_
      rw [hb]
      refine Ev.neg (by omega) ?_
      refine Ev.neg (by omega) ?_
      rw [w64 (by omega) (by omega), show ((i : Int) + 1) = ((i + 1 : Nat) : Int) from by omega]
      exact ih (i + 1) (by omega) (by omega)
theorem WordBack : muslinlaw05_WordBack.Pure := by
  intro a _
  refine Ev.rounds (r := true) (g := fun k => muslinlaw05_WordBack.f k a) ?_
  unfold muslinlaw05_WordBack.f
  by_cases h : a.size ≤ 2000
  · refine Ev.got (short_yes a h) ?_
    refine Ev.pos rfl ?_
    refine Ev.got (x := word_Encode.f a) (guard_of (by omega)) ?_
    exact back_loop a _ h rfl _ 0 (Nat.le_refl _) (by omega)
  · refine Ev.got (short_no a h) ?_
    refine Ev.neg Bool.false_ne_true ?_
    exact live_end
theorem short_loop (T : ByteArray) (hz : T.size ≤ 318000) : ∀ (d i n : Nat), T.size - i ≤ d → i ≤ T.size → n ≤ 52 → runs n (T.data.toList.drop i) = true → Ev (fun k => muslinlaw05_WordShort.l0 k T (n : Int) (i : Int)) true := by
  have fin : ∀ i n : Nat, T.size ≤ i → Ev (fun k => muslinlaw05_WordShort.l0 k T (n : Int) (i : Int)) true := by
    intro i n hi
    refine Ev.round (fun k => by rw [muslinlaw05_WordShort.l0]) ?_
    refine Ev.neg (by omega) ?_
    exact live_end
  intro d
  induction d with
  | zero => intro i n h1 h2 h3 h4; exact fin i n (by omega)
  | succ d ih =>
    intro i n h1 h2 h3 h4
    cases hd : T.data.toList.drop i with
    | nil => exact fin i n (at_end hd)
    | cons c r =>
      obtain ⟨hb, hlt, hr⟩ := at_drop hd
      rw [hd] at h4
      simp only [runs] at h4
      refine Ev.round (fun k => by rw [muslinlaw05_WordShort.l0]) ?_
      refine Ev.pos (by omega) ?_
      refine Ev.pos (by omega) ?_
      rw [hb, w64 (x := (i : Int) + 1) (by omega) (by omega), show ((i : Int) + 1) = ((i + 1 : Nat) : Int) from by omega]
      by_cases hc : c = 32
      · subst hc
        rw [if_pos rfl] at h4
        refine Ev.pos rfl ?_
        exact ih (i + 1) 0 (by omega) (by omega) (by omega) (by rw [hr]; exact h4)
      · have hcn : ¬ (c.toNat : Int) = 32 := by
          intro h; exact hc (UInt8.toNat_inj.1 (by show c.toNat = 32; omega))
        rw [if_neg hc] at h4
        refine Ev.neg hcn ?_
        by_cases h52 : 52 < n + 1
        · rw [if_pos h52] at h4; cases h4
        · rw [if_neg h52] at h4
          rw [w64 (x := (n : Int) + 1) (by omega) (by omega)]
          refine Ev.neg (by omega) ?_
          rw [show ((n : Int) + 1) = ((n + 1 : Nat) : Int) from by omega]
          exact ih (i + 1) (n + 1) (by omega) (by omega) (by omega) (by rw [hr]; exact h4)
theorem WordShort : muslinlaw05_WordShort.Pure := by
  intro a _
  refine Ev.rounds (r := true) (g := fun k => muslinlaw05_WordShort.f k a) ?_
  unfold muslinlaw05_WordShort.f
  by_cases h : a.size ≤ 2000
  · refine Ev.got (short_yes a h) ?_
    refine Ev.pos rfl ?_
    refine Ev.got (x := word_Encode.f a) (guard_of (by omega)) ?_
    by_cases he : encL a.data.toList = a.data.toList
    · refine Ev.pos (by rw [toList_eq, toList_eq, mk_toList, he]) ?_
      exact live_end
    · refine Ev.neg (by rw [toList_eq, toList_eq, mk_toList]; exact he) ?_
      have hz := encL_size a.data.toList
      rw [sizeL] at hz
      exact short_loop _ (by rw [mk_size]; omega) _ 0 0 (Nat.le_refl _) (by omega) (by omega) (by rw [mk_toList, List.drop_zero]; exact enc_runs _ he)
  · refine Ev.got (short_no a h) ?_
    refine Ev.neg Bool.false_ne_true ?_
    exact live_end
theorem wordGo_len (N : Nat) : ∀ (n : Nat) (p : List UInt8) (b : Bool) (l : List UInt8), l.length ≤ N → (wordGo n p b l).length ≤ 3 * p.length + l.length * (6 * N + 3)
  | 0, p, b, l, h => by
    have := vl_len p
    simp only [wordGo]; omega
  | n + 1, p, b, [], h => by
    have := vl_len p
    simp only [wordGo]; omega
  | n + 1, p, b, c :: r, h => by
    simp only [List.length_cons] at h
    have hv := vl_len p
    have h1 := one_len1 (c :: r)
    have h2 := one_le (c :: r)
    have hm : (r.length + 1) * (6 * N + 3) = r.length * (6 * N + 3) + (6 * N + 3) := Nat.succ_mul _ _
    simp only [wordGo, List.length_cons]
    simp only [List.length_cons] at h1 h2
    split
    · have ih := wordGo_len N n (p ++ [c]) b r (by omega)
      rw [List.length_append] at ih
      simp only [List.length_cons, List.length_nil] at ih
      omega
    · rename_i h0
      have hdl : ((c :: r).drop (oneL (c :: r)).2).length ≤ r.length := by rw [List.length_drop, List.length_cons]; omega
      have ih := wordGo_len N n [] true ((c :: r).drop (oneL (c :: r)).2) (by omega)
      have hmm := Nat.mul_le_mul_right (6 * N + 3) hdl
      rw [List.length_append, List.length_append]
      simp only [List.length_nil] at ih
      have hif : (if (b && p.all white) = true then ([] : List UInt8) else vl p).length ≤ 3 * p.length := by
        split
        · simp
        · exact hv
      omega
theorem word_size (l : List UInt8) (h : l.length ≤ 2000) : (wordL l).length ≤ 100000000 := by
  have := wordGo_len 2000 l.length [] false l h
  have h2 : l.length * (6 * 2000 + 3) ≤ 2000 * (6 * 2000 + 3) := Nat.mul_le_mul_right _ h
  simp only [List.length_nil] at this
  unfold wordL wordF
  omega
theorem valid_loop5 (a T : ByteArray) (ha : a.size ≤ 2000) (hT : T.data.toList = wordL a.data.toList) : ∀ (n i : Nat), a.size - i ≤ n → i ≤ a.size → (∀ j, j < i → begins (a.data.toList.drop j) = false) → Ev (fun k => muslinlaw05_WordValid.l0 k a T (i : Int)) true := by
  have fin : ∀ i : Nat, a.size ≤ i + 1 → i ≤ a.size → (∀ j, j < i → begins (a.data.toList.drop j) = false) → Ev (fun k => muslinlaw05_WordValid.l0 k a T (i : Int)) true := by
    intro i hi hi2 hj
    have hall : ∀ j, j < a.data.toList.length → begins (a.data.toList.drop j) = false := by
      intro j hjl
      rw [sizeL] at hjl
      by_cases hji : j < i
      · exact hj j hji
      · have hlen : (a.data.toList.drop j).length = 1 := by rw [List.length_drop, sizeL]; omega
        match hdd : a.data.toList.drop j, hlen with
        | [x], _ => exact begins_one x
    have hw : wordL a.data.toList = vl a.data.toList := by
      have := wordF_plain [] false a.data.toList hall
      simpa [wordL] using this
    refine Ev.round (fun k => by rw [muslinlaw05_WordValid.l0]) ?_
    rw [w64 (by omega) (by omega)]
    refine Ev.neg (by omega) ?_
    refine Ev.got (x := chars_Valid.f a) (guard_of (by omega)) ?_
    refine Ev.pos (by rw [toList_eq, toList_eq, hT, hw, validS_eq, mk_toList]) ?_
    exact live_end
  intro n
  induction n with
  | zero => intro i h1 h2 h3; exact fin i (by omega) h2 h3
  | succ n ih =>
    intro i h1 h2 h3
    by_cases hlt : a.size ≤ i + 1
    · exact fin i hlt h2 h3
    · cases hd : a.data.toList.drop i with
      | nil => exact fin i (by have := at_end hd; omega) h2 h3
      | cons c r =>
        obtain ⟨hb, hlt2, hr⟩ := at_drop hd
        cases r with
        | nil => exact fin i (by have := at_end hr; omega) h2 h3
        | cons c2 r2 =>
          obtain ⟨hb2, hlt3, hr2⟩ := at_drop hr
          refine Ev.round (fun k => by rw [muslinlaw05_WordValid.l0]) ?_
          rw [w64 (by omega) (by omega), show ((i : Int) + 1) = ((i + 1 : Nat) : Int) from by omega]
          refine Ev.pos (by omega) ?_
          refine Ev.pos (by omega) ?_
          refine Ev.pos (by omega) ?_
          rw [hb]
          have next : begins (c :: c2 :: r2) = false → Ev (fun k => muslinlaw05_WordValid.l0 k a T ((i + 1 : Nat) : Int)) true := by
            intro hbf
            refine ih (i + 1) (by omega) (by omega) (fun j hj => ?_)
            by_cases hji : j < i
            · exact h3 j hji
            · obtain rfl : j = i := by omega
              rw [hd]; exact hbf
          by_cases h61 : (c.toNat : Int) = 61
          · refine Ev.pos h61 ?_
            refine Ev.pos (by omega) ?_
            rw [hb2]
            by_cases h63 : (c2.toNat : Int) = 63
            · refine Ev.pos h63 ?_
              exact live_end
            · refine Ev.neg h63 ?_
              refine next ?_
              rw [begins_cons]
              have : c2 ≠ 63 := by rintro rfl; exact h63 rfl
              simp [this]
          · refine Ev.neg h61 ?_
            refine next ?_
            rw [begins_cons]
            have : c ≠ 61 := by rintro rfl; exact h61 rfl
            simp [this]
theorem WordValid : muslinlaw05_WordValid.Pure := by
  intro a _
  refine Ev.rounds (r := true) (g := fun k => muslinlaw05_WordValid.f k a) ?_
  unfold muslinlaw05_WordValid.f
  by_cases h : a.size ≤ 2000
  · refine Ev.got (short_yes a h) ?_
    refine Ev.pos rfl ?_
    have hz := word_size a.data.toList (by rw [sizeL]; exact h)
    refine Ev.got (x := word_Decode.f a) (guard_of (by omega)) ?_
    refine Ev.got (x := muslinref04_Valid.f ⟨(wordL a.data.toList).toArray⟩) (guard_of (by rw [mk_size]; omega)) ?_
    refine Ev.pos (by rw [toList_eq, toList_eq, mk_toList, mk_toList, show vl (wordL a.data.toList) = wordL a.data.toList from valL_stays _ _ (wordL_Val _) (Nat.le_refl _)]) ?_
    exact valid_loop5 a _ h rfl _ 0 (Nat.le_refl _) (by omega) (by intro j hj; omega)
  · refine Ev.got (short_no a h) ?_
    refine Ev.neg Bool.false_ne_true ?_
    exact live_end
end Go.Proofs.YtokkgjiofhhlkaaDoor.Pure
namespace Go.Proofs.YtokkgjiofhhlkaaDoor
open Go.RowKit Go.ChangeShapes Go.WideShapes Go.ChangeAt Go.Lib
theorem glob_of {W : World} {a : DataW Unit} (ha : a = acceptData) (h : laidMet Tryd.prog [("unicode/utf8.acceptRanges", a), ("muslin/chars.high", Lib.tabData .i32 highTab), ("unicode/utf8.first", Go.Pinned.utf8First)] W) (hsh : W.ShapedOpen Tryd.prog) : Glob W := by
  refine ⟨Lib.tabIs_of_head (show Tryd.prog.globalNamed "muslin/chars.high" = some 0 from by kernel_rfl) (show (Tryd.prog.globals[0]?).map (·.type) = some 80 from by kernel_rfl) Tryd.underlying80 Tryd.underlying21 (by kernel_rfl) (by kernel_rfl) h.tail, ?_, ?_⟩
  · obtain ⟨ps, hl, _⟩ := h
    have rd := LaidVars_reads hl
    have r1 := rd "unicode/utf8.acceptRanges" a (by simp)
    have r3 := rd "unicode/utf8.first" Go.Pinned.utf8First (by simp)
    rw [ha] at r1
    rw [Go.Pinned.utf8First_eq] at r3
    exact utf8Tabs_of_reads Tryd.lays260 ⟨by kernel_rfl, by kernel_rfl, by kernel_rfl, by kernel_rfl, by kernel_rfl, by kernel_rfl, by kernel_rfl⟩ r3 r1
  · exact Go.Proofs.cell_of_shapedOpen_int (zero := #[.int .i64 0]) (t := 3) hsh (of_decide_eq_true (by kernel_rfl)) (by kernel_rfl) rfl (by kernel_rfl) (by kernel_rfl) Tryd.underlying3
theorem glob_wordEncodes {W : World} (h : laidMetH Tryd.prog Rows.wordEncodesRow.laid W) (hsh : W.ShapedOpen Tryd.prog) : Glob W := glob_of (by kernel_rfl) h hsh
theorem glob_wordBack {W : World} (h : laidMetH Tryd.prog Rows.wordBackRow.laid W) (hsh : W.ShapedOpen Tryd.prog) : Glob W := glob_of (by kernel_rfl) h hsh
theorem glob_wordValid {W : World} (h : laidMetH Tryd.prog Rows.wordValidRow.laid W) (hsh : W.ShapedOpen Tryd.prog) : Glob W := glob_of (by kernel_rfl) h hsh
theorem glob_wordShort {W : World} (h : laidMetH Tryd.prog Rows.wordShortRow.laid W) (hsh : W.ShapedOpen Tryd.prog) : Glob W := glob_of (by kernel_rfl) h hsh
theorem wrap_shaped {H : Type} {enc : TypeId × Value → H} {a : Assume} {C : Checked} {os : Os} {f : FuncId} {fn : Func} {s : ChangeSpec} {conds : List PathCond} {apart fresh handsOn again : Bool} {X : World → Array Value → Prop}
    (hX : ∀ (w w' : World) (args : Array Value), w.heap = w'.heap → X w args → X w' args)
    (own : ownKnob C.prog.godebug = none) (started : os.Started) (noInit : C.prog.inits.idxOf? f = none) (hfn : C.prog.funcs[f]? = some fn)
    (witness : ∃ (w : World) (tape : Tape) (i : Input), w.os = os ∧ (w.forCall tape i).Shaped C.prog ∧ i.vars = [] ∧ Input.okWide C.prog (w.forCall tape i) .any w.heap.size f i ∧
      ((s.pre enc C.prog fn conds apart (w.forCall tape i).memory i.args ∧ X (w.forCall tape i).memory i.args) ∧ sizedMet enc C.prog fn (OpenSpec.ofChange s) apart (w.forCall tape i).memory i.args) ∧ a.holds C.prog (lone (Frame.enter C.prog f i.args .normal) [] (w.forCall tape i)))
    (contract : ∀ (W : World) (base : Nat) (args : Array Value) (ds gs : List (DataW H)) (before : List MemPlace),
      (∀ (j : Nat) t v, fn.params[j]? = some t → args[j]? = some v → Value.okWide C.prog W .any base t v) →
      DataW.Whole enc C.prog fn.params.toList s.vars apart W args.toList ds gs before →
      conds.all (PathCond.test C.prog ⟨fn.params.toList, ds, s.plain.varTypes C.prog, gs⟩) = true →
      (DataW.weightsEach C.prog (fn.params.toList ++ s.plain.varTypes C.prog) (ds ++ gs)).all (· ≤ reachBytes) = true → X W args → W.ShapedOpen C.prog →
      a.holds C.prog (lone (Frame.enter C.prog f args .normal) [] W) →
      Calls C.prog f args W fun e W' => ∃ v, e = .returned v ∧ s.post enc C.prog fn apart fresh handsOn again W args v W') :
    ReturnsInHanded a C os f .any (fun w args => (s.pre enc C.prog fn conds apart w args ∧ X w args) ∧ sizedMet enc C.prog fn (OpenSpec.ofChange s) apart w args) (s.post enc C.prog fn apart fresh handsOn again) := by
  refine returnsInHanded_of_calls own started noInit witness ?_
  intro w tape i _ hsh _ hok hpre hholds
  obtain ⟨_, _, _, fn', hfn', _, _, _, _, hval⟩ := hok
  obtain rfl : fn' = fn := Option.some.inj (hfn'.symm.trans hfn)
  obtain ⟨⟨⟨ds, gs, before, hw, hc⟩, hx⟩, hz⟩ := hpre
  refine (contract (w.forCall tape i) w.heap.size i.args ds gs before hval (DataW.Whole.of_heap (w' := w.forCall tape i) (by rfl) hw) hc (hz.weights hw) (hX _ _ _ (by rfl) hx) hsh hholds).mono fun e W' ⟨v, he, hp⟩ => ?_
  subst he
  exact ChangeSpec.post_blind hp
end Go.Proofs.YtokkgjiofhhlkaaDoor
