/- Printed by a program of this session: functions that the law reaches, and that the calls come to them. -/
import Derived.Test.YtkhloimbaepmeaaDoorP0
import Derived.Test.YtkhloimbaepmeaaDoorP1
namespace Go.Proofs.YtkhloimbaepmeaaDoor.P
open Go.RowKit Go.Proofs.YtkhloimbaepmeaaDoorW.PrintWords Go.Proofs.YtkhloimbaepmeaaDoorW.PrintLast Go.Proofs.YtkhloimbaepmeaaDoorW.PrintMore
attribute [local go_sem] max2_int min2_int max_two min_two max_three min_three max_four min_four   -- for this text's walks alone
set_option linter.unusedVariables false
set_option linter.unusedSimpArgs false

/-! ### muslinlaw04_CharsPlain: function 7 -/
mutual
def muslinlaw04_CharsPlain.j0 : Nat → ByteArray → ByteArray → Bool → Option (Bool)
  | 0, _, _, _ => none
  | k + 1, x0, x1, x17 => if x17 = true then ((muslinlaw04_live.f k).bind fun t218 => (some t218)) else (muslinlaw04_CharsPlain.l0 k x0 x1 0)
def muslinlaw04_CharsPlain.l0 : Nat → ByteArray → ByteArray → Int → Option (Bool)
  | 0, _, _, _ => none
  | k + 1, x0, x1, x5 => if x5 < (x1.size : Int) then (if 0 ≤ x5 then (if (bt x1 x5) > 127 then ((muslinlaw04_live.f k).bind fun t219 => (some t219)) else (muslinlaw04_CharsPlain.l0 k x0 x1 (wrap64 (x5 + 1)))) else (none)) else ((chars_Known.f k x0).bind fun bt220 => ((chars_Decode.f k x0 x1).bind fun bt222 => (if (bt220.2 == bt222.2) = true then (if bt222.1.toList = x1.toList then ((muslinlaw04_live.f k).bind fun t224 => (some t224)) else (if bt220.1.toList = ([117, 116, 102, 45, 49, 54, 108, 101] : List UInt8) then ((muslinlaw04_live.f k).bind fun t225 => (some t225)) else (if bt220.1.toList = ([117, 116, 102, 45, 49, 54, 98, 101] : List UInt8) then ((muslinlaw04_live.f k).bind fun t226 => (some t226)) else (some false)))) else (some false))))
end
def muslinlaw04_CharsPlain.f (k : Nat) (a0 : ByteArray) (a1 : ByteArray) : Option (Bool) := (muslinlaw04_short.f a1).bind fun t216 => (if t216 = true then ((muslinlaw04_short.f a0).bind fun t217 => (muslinlaw04_CharsPlain.j0 k a0 a1 (!t217))) else (muslinlaw04_CharsPlain.j0 k a0 a1 true))
theorem muslinlaw04_CharsPlain.mono_l : ∀ k, (∀ y0 y1 y2, LeO (muslinlaw04_CharsPlain.j0 k y0 y1 y2) (muslinlaw04_CharsPlain.j0 (k + 1) y0 y1 y2)) ∧ (∀ y0 y1 y2, LeO (muslinlaw04_CharsPlain.l0 k y0 y1 y2) (muslinlaw04_CharsPlain.l0 (k + 1) y0 y1 y2))
  | 0 => ⟨fun _ _ _ r h => by simp [muslinlaw04_CharsPlain.j0] at h, fun _ _ _ r h => by simp [muslinlaw04_CharsPlain.l0] at h⟩
  | k + 1 => by
    obtain ⟨ih0, ih1⟩ := muslinlaw04_CharsPlain.mono_l k
    refine ⟨?_, ?_⟩
    · intro y0 y1 y2
      unfold muslinlaw04_CharsPlain.j0
      repeat' first
      | (with_reducible exact ih0 _ _ _)
      | (with_reducible exact ih1 _ _ _)
      | (with_reducible exact chars_Decode.mono _ _ _)
      | (with_reducible exact chars_Known.mono _ _)
      | (with_reducible exact muslinlaw04_live.mono _)
      | (with_reducible exact LeO.refl _)
      | (with_reducible exact LeO.none _)
      | (with_reducible refine LeO.ite ?_ ?_)
      | (with_reducible refine LeO.bind ?_ (fun _ => ?_))
      | exact ih0 _ _ _
      | exact ih1 _ _ _
      | exact chars_Decode.mono _ _ _
      | exact chars_Known.mono _ _
      | exact muslinlaw04_live.mono _
      | exact LeO.none _
      | refine LeO.ite ?_ ?_
      | refine LeO.bind ?_ (fun _ => ?_)
    · intro y0 y1 y2
      unfold muslinlaw04_CharsPlain.l0
      repeat' first
      | (with_reducible exact ih0 _ _ _)
      | (with_reducible exact ih1 _ _ _)
      | (with_reducible exact chars_Decode.mono _ _ _)
      | (with_reducible exact chars_Known.mono _ _)
      | (with_reducible exact muslinlaw04_live.mono _)
      | (with_reducible exact LeO.refl _)
      | (with_reducible exact LeO.none _)
      | (with_reducible refine LeO.ite ?_ ?_)
      | (with_reducible refine LeO.bind ?_ (fun _ => ?_))
      | exact ih0 _ _ _
      | exact ih1 _ _ _
      | exact chars_Decode.mono _ _ _
      | exact chars_Known.mono _ _
      | exact muslinlaw04_live.mono _
      | exact LeO.none _
      | refine LeO.ite ?_ ?_
      | refine LeO.bind ?_ (fun _ => ?_)
theorem muslinlaw04_CharsPlain.mono : ∀ a0 a1 k, LeO (muslinlaw04_CharsPlain.f k a0 a1) (muslinlaw04_CharsPlain.f (k + 1) a0 a1) := by
  intro a0 a1 k
  obtain ⟨ih0, ih1⟩ := muslinlaw04_CharsPlain.mono_l k
  unfold muslinlaw04_CharsPlain.f
  repeat' first
      | (with_reducible exact ih0 _ _ _)
      | (with_reducible exact ih1 _ _ _)
      | (with_reducible exact chars_Decode.mono _ _ _)
      | (with_reducible exact chars_Known.mono _ _)
      | (with_reducible exact muslinlaw04_live.mono _)
      | (with_reducible exact LeO.refl _)
      | (with_reducible exact LeO.none _)
      | (with_reducible refine LeO.ite ?_ ?_)
      | (with_reducible refine LeO.bind ?_ (fun _ => ?_))
      | exact ih0 _ _ _
      | exact ih1 _ _ _
      | exact chars_Decode.mono _ _ _
      | exact chars_Known.mono _ _
      | exact muslinlaw04_live.mono _
      | exact LeO.none _
      | refine LeO.ite ?_ ?_
      | refine LeO.bind ?_ (fun _ => ?_)
set_option maxHeartbeats 8000000 in
set_option maxRecDepth 100000 in
theorem muslinlaw04_CharsPlain.calls (k : Nat) (a0 : ByteArray) (a1 : ByteArray) (r : Bool) (w : World) (hGl : Glob w) (h : muslinlaw04_CharsPlain.f k a0 a1 = some r) :
    Calls Tryd.prog 7 #[.string a0, .string a1] w fun e w' => e = .returned (.bool r) ∧ Below w.heap.size w w' := by
  have HGl := Aside0.mk hGl
  clear hGl
  have HB := Aside0.mk (Below.refl w.heap.size w)
  have H : ((muslinlaw04_short.f a1).bind fun t216 => (if t216 = true then ((muslinlaw04_short.f a0).bind fun t217 => (muslinlaw04_CharsPlain.j0 k a0 a1 (!t217))) else (muslinlaw04_CharsPlain.j0 k a0 a1 true))) = some r := h
  clear h
  have HC3 := Aside0.mk H
  clear H
  go_enter Tryd.func7, Tryd.ntmps7
  go_upto_region 1 with (fail)
  go_cut [17] (fun v17 wc => ∃ (kq : Nat) (x17_2 : Bool), v17 = .bool x17_2 ∧ Aside0 (muslinlaw04_CharsPlain.j0 kq a0 a1 x17_2 = some r) ∧ Aside0 (kq ≤ k) ∧ Aside0 (Below w.heap.size w wc))
  case first =>
    have H := HC3.out
    clear HC3
    replace H := Option.bind_eq_some_iff.mp H
    obtain ⟨t216, A40, H⟩ := H
    replace H : (if t216 = true then ((muslinlaw04_short.f a0).bind fun t217 => (muslinlaw04_CharsPlain.j0 k a0 a1 (!t217))) else (muslinlaw04_CharsPlain.j0 k a0 a1 true)) = some r := H
    have A4 := Aside0.mk A40
    clear A40
    by_cases c5 : t216 = true
    · subst c5
      have H1 : ((muslinlaw04_short.f a0).bind fun t217 => (muslinlaw04_CharsPlain.j0 k a0 a1 (!t217))) = some r := by rw [if_pos rfl] at H; exact H
      clear H
      have H := H1
      clear H1
      replace H := Option.bind_eq_some_iff.mp H
      obtain ⟨t217, A60, H⟩ := H
      replace H : (muslinlaw04_CharsPlain.j0 k a0 a1 (!t217)) = some r := H
      have A6 := Aside0.mk A60
      clear A60
      have H' := Aside0.mk H
      clear H
      go_wp2_with (first | ((with_reducible refine gate_callee (f := 10) rfl ?_); refine goesL_ (some 11) rfl rfl Tryd.func10 (by kernel_rfl) rfl #[.string a1] rfl (by (try simp only [List.map_toArray, List.map_cons, List.map_nil]); first | done | rfl | (simp only [List.length_drop, List.length_take]; rfl)) ?_; (with_reducible refine (muslinlaw04_short.calls a1 true _ A4.out).mono ?_); rintro e w' ⟨rfl, ⟨nd, rfl⟩⟩; refine ⟨_, rfl, ?_⟩) | (go_at_call 10; (with_reducible refine (muslinlaw04_short.calls a0 t217 _ A6.out).mono ?_); rintro e w' ⟨rfl, ⟨nd, rfl⟩⟩))
      go_meet
      case rel => exact ⟨_, (!t217), (by first | rfl | (simp; done) | (simp [*]; done)), H', ⟨by first | omega | exact Nat.le_refl _⟩, ⟨by repeat (first | (with_reducible first | exact HB.out | apply below_alloc | apply pw_below_drewN | apply below_drew1) | exact HB.out)⟩⟩
    · replace c5 := Bool.eq_false_iff.mpr c5
      subst c5
      have H1 : (muslinlaw04_CharsPlain.j0 k a0 a1 true) = some r := by rw [if_neg (show ¬ (false = true) by decide)] at H; exact H
      clear H
      have H := H1
      clear H1
      have H' := Aside0.mk H
      clear H
      go_wp2_with (first | ((with_reducible refine gate_callee (f := 10) rfl ?_); refine goesL_ (some 11) rfl rfl Tryd.func10 (by kernel_rfl) rfl #[.string a1] rfl (by (try simp only [List.map_toArray, List.map_cons, List.map_nil]); first | done | rfl | (simp only [List.length_drop, List.length_take]; rfl)) ?_; (with_reducible refine (muslinlaw04_short.calls a1 false _ A4.out).mono ?_); rintro e w' ⟨rfl, ⟨nd, rfl⟩⟩; refine ⟨_, rfl, ?_⟩))
      go_meet
      case rel => exact ⟨_, (true), (by first | rfl | (simp; done) | (simp [*]; done)), H', ⟨by first | omega | exact Nat.le_refl _⟩, ⟨by repeat (first | (with_reducible first | exact HB.out | apply below_alloc | apply pw_below_drewN | apply below_drew1) | exact HB.out)⟩⟩
  case rest =>
    clear HC3
    try clear c1
    try clear p2
    try clear c5
    obtain ⟨kq, x17_2, rfl, HA, HJ2, HB⟩ := hcut
    cases kq with
    | zero => exact absurd HA.out (by simp [muslinlaw04_CharsPlain.j0])
    | succ kj2 =>
      have H := HA.out
      clear HA
      simp only [muslinlaw04_CharsPlain.j0] at H
      by_cases c7 : x17_2 = true
      · subst c7
        have H1 : ((muslinlaw04_live.f kj2).bind fun t218 => (some t218)) = some r := by rw [if_pos rfl] at H; exact H
        clear H
        have H := H1
        clear H1
        replace H := Option.bind_eq_some_iff.mp H
        obtain ⟨t218, A80, H⟩ := H
        replace H : (some t218) = some r := H
        have A8 := Aside0.mk A80
        clear A80
        obtain rfl := Option.some.inj H
        go_wp2_with (first | ((with_reducible refine gate_callee (f := 11) rfl ?_); refine goesL_ (some 18) rfl rfl Tryd.func11 (by kernel_rfl) rfl #[] rfl (by (try simp only [List.map_toArray, List.map_cons, List.map_nil]); first | done | rfl | (simp only [List.length_drop, List.length_take]; rfl)) ?_; (with_reducible refine (muslinlaw04_live.calls kj2  t218 _ ?sideGl A8.out).mono ?_); (case sideGl => exact HGl.out.below (by repeat (first | (with_reducible first | exact HB.out | apply below_alloc | apply pw_below_drewN | apply below_drew1) | exact HB.out))); rintro e w9 ⟨rfl, hb⟩; refine ⟨_, rfl, ?_⟩; have n0_ := Aside0.mk (below_step (by repeat (first | (with_reducible first | exact HB.out | apply below_alloc | apply pw_below_drewN | apply below_drew1) | exact HB.out)) hb); clear HB; have HB := n0_; clear n0_; (try clear hb); (try clear hb2); (try clear hk); (try clear hi)))
        go_ret
        exact ⟨by first | rfl | (simp [errW_none, errW_some] <;> rfl) | (simp [*, errW_none, errW_some] <;> rfl), by repeat (first | (with_reducible first | exact HB.out | apply below_alloc | apply pw_below_drewN | apply below_drew1) | exact HB.out)⟩
      · replace c7 := Bool.eq_false_iff.mpr c7
        subst c7
        have H1 : (muslinlaw04_CharsPlain.l0 kj2 a0 a1 0) = some r := by rw [if_neg (show ¬ (false = true) by decide)] at H; exact H
        clear H
        have H := H1
        clear H1
        have H' := Aside0.mk H
        clear H
        go_wp2
        go_loopg [5] kj2 (fun kq v5 w' => ∃ (x5_2 : Int), v5 = .int .i64 x5_2 ∧ Aside0 (muslinlaw04_CharsPlain.l0 kq a0 a1 x5_2 = some r) ∧ Aside0 (kq ≤ kj2) ∧ Aside0 (Below w.heap.size w w'))
        case atStart => exact ⟨(0), (by first | rfl | (simp; done) | (simp [*]; done)), H', ⟨Nat.le_refl _⟩, ⟨by repeat (first | (with_reducible first | exact HB.out | apply below_alloc | apply pw_below_drewN | apply below_drew1) | exact HB.out)⟩⟩
        case round =>
          clear H'
          try clear c1
          try clear p2
          try clear c5
          try clear c7
          try clear p2
          obtain ⟨x5_2, rfl, HA, HK2, HB⟩ := hrel
          cases gk with
          | zero => exact absurd HA.out (by simp [muslinlaw04_CharsPlain.l0])
          | succ k2 =>
            have H := HA.out
            clear HA
            simp only [muslinlaw04_CharsPlain.l0] at H
            by_cases c10 : x5_2 < (a1.size : Int)
            · rw [if_pos c10] at H
              have c10b0 : decide (x5_2 < (a1.size : Int)) = true := decide_eq_true c10
              clear c10
              by_cases c11 : 0 ≤ x5_2
              · rw [if_pos c11] at H
                have c11b0 : decide (0 ≤ x5_2) = true := decide_eq_true c11
                clear c11
                by_cases c13 : (bt a1 x5_2) > 127
                · rw [if_pos c13] at H
                  have c13b0 : decide (127 < (bt a1 x5_2)) = true := decide_eq_true c13
                  clear c13
                  replace H := Option.bind_eq_some_iff.mp H
                  obtain ⟨t219, A140, H⟩ := H
                  replace H : (some t219) = some r := H
                  have A14 := Aside0.mk A140
                  clear A140
                  obtain rfl := Option.some.inj H
                  have p12 : 0 ≤ (x5_2 : Int) := of_decide_eq_true (by first | (with_reducible assumption) | assumption)
                  have q12 : x5_2 < (a1.size : Int) := of_decide_eq_true (by first | (with_reducible assumption) | assumption)
                  have hx12 := bt_at a1 x5_2
                  replace p12 := eq_true p12
                  replace q12 := eq_true q12
                  go_wp2_with (first | ((with_reducible refine gate_callee (f := 11) rfl ?_); refine goesL_ (some 29) rfl rfl Tryd.func11 (by kernel_rfl) rfl #[] rfl (by (try simp only [List.map_toArray, List.map_cons, List.map_nil]); first | done | rfl | (simp only [List.length_drop, List.length_take]; rfl)) ?_; (with_reducible refine (muslinlaw04_live.calls k2  t219 _ ?sideGl A14.out).mono ?_); (case sideGl => exact HGl.out.below (by repeat (first | (with_reducible first | exact HB.out | apply below_alloc | apply pw_below_drewN | apply below_drew1) | exact HB.out))); rintro e w15 ⟨rfl, hb⟩; refine ⟨_, rfl, ?_⟩; have n0_ := Aside0.mk (below_step (by repeat (first | (with_reducible first | exact HB.out | apply below_alloc | apply pw_below_drewN | apply below_drew1) | exact HB.out)) hb); clear HB; have HB := n0_; clear n0_; (try clear hb); (try clear hb2); (try clear hk); (try clear hi)))
                  go_ret
                  exact ⟨by first | rfl | (simp [errW_none, errW_some] <;> rfl) | (simp [*, errW_none, errW_some] <;> rfl), by repeat (first | (with_reducible first | exact HB.out | apply below_alloc | apply pw_below_drewN | apply below_drew1) | exact HB.out)⟩
                · rw [if_neg c13] at H
                  have c13b0 : decide (127 < (bt a1 x5_2)) = false := decide_eq_false c13
                  clear c13
                  have H' := Aside0.mk H
                  clear H
                  have p12 : 0 ≤ (x5_2 : Int) := of_decide_eq_true (by first | (with_reducible assumption) | assumption)
                  have q12 : x5_2 < (a1.size : Int) := of_decide_eq_true (by first | (with_reducible assumption) | assumption)
                  have hx12 := bt_at a1 x5_2
                  replace p12 := eq_true p12
                  replace q12 := eq_true q12
                  go_wp2
                  go_roundg k2
                  case measure => have := HJ2.out; have := HK2.out; omega
                  case rel => exact ⟨(wrap64 (x5_2 + 1)), (by first | rfl | (simp; done) | (simp [*]; done)), H', ⟨by have := HJ2.out; have := HK2.out; omega⟩, ⟨by repeat (first | (with_reducible first | exact HB.out | apply below_alloc | apply pw_below_drewN | apply below_drew1) | exact HB.out)⟩⟩
              · rw [if_neg c11] at H
                exact absurd H (by simp)
            · rw [if_neg c10] at H
              have c10b0 : decide (x5_2 < (a1.size : Int)) = false := decide_eq_false c10
              clear c10
              replace H := Option.bind_eq_some_iff.mp H
              obtain ⟨⟨t220, t221⟩, A160, H⟩ := H
              replace H : ((chars_Decode.f k2 a0 a1).bind fun bt222 => (if (t221 == bt222.2) = true then (if bt222.1.toList = a1.toList then ((muslinlaw04_live.f k2).bind fun t224 => (some t224)) else (if t220.toList = ([117, 116, 102, 45, 49, 54, 108, 101] : List UInt8) then ((muslinlaw04_live.f k2).bind fun t225 => (some t225)) else (if t220.toList = ([117, 116, 102, 45, 49, 54, 98, 101] : List UInt8) then ((muslinlaw04_live.f k2).bind fun t226 => (some t226)) else (some false)))) else (some false))) = some r := H
              have A16 := Aside0.mk A160
              clear A160
              replace H := Option.bind_eq_some_iff.mp H
              obtain ⟨⟨t222, t223⟩, A170, H⟩ := H
              replace H : (if (t221 == t223) = true then (if t222.toList = a1.toList then ((muslinlaw04_live.f k2).bind fun t224 => (some t224)) else (if t220.toList = ([117, 116, 102, 45, 49, 54, 108, 101] : List UInt8) then ((muslinlaw04_live.f k2).bind fun t225 => (some t225)) else (if t220.toList = ([117, 116, 102, 45, 49, 54, 98, 101] : List UInt8) then ((muslinlaw04_live.f k2).bind fun t226 => (some t226)) else (some false)))) else (some false)) = some r := H
              have A17 := Aside0.mk A170
              clear A170
              by_cases c18 : (t221 == t223) = true
              · rw [if_pos c18] at H
                have c18b0 : (t221 == t223) = true := c18
                (try (have c18b1 : decide (t221 = t223) = true := by simpa using c18))
                (try (have c18b2 : (t221 == t223) = true := by simpa using c18))
                clear c18
                by_cases c19 : t222.toList = a1.toList
                · rw [if_pos c19] at H
                  have c19b0 : (t222.toList == a1.toList) = true := beq_iff_eq.mpr c19
                  have c19b1 : (t222.toList != a1.toList) = false := bne_eq_false_iff_eq.mpr c19
                  clear c19
                  replace H := Option.bind_eq_some_iff.mp H
                  obtain ⟨t224, A200, H⟩ := H
                  replace H : (some t224) = some r := H
                  have A20 := Aside0.mk A200
                  clear A200
                  obtain rfl := Option.some.inj H
                  go_wp2_with (first | ((with_reducible refine gate_callee (f := 14) rfl ?_); refine goesL_ (some 32) rfl rfl Tryd.func14 (by kernel_rfl) rfl #[.string a0] rfl (by (try simp only [List.map_toArray, List.map_cons, List.map_nil]); first | done | rfl | (simp only [List.length_drop, List.length_take]; rfl)) ?_; (with_reducible refine (chars_Known.calls k2 a0 t220 t221 _ A16.out).mono ?_); rintro e w21 ⟨rfl, hb⟩; refine ⟨_, rfl, ?_⟩; have n0_ := Aside0.mk (below_step (by repeat (first | (with_reducible first | exact HB.out | apply below_alloc | apply pw_below_drewN | apply below_drew1) | exact HB.out)) hb); clear HB; have HB := n0_; clear n0_; (try clear hb); (try clear hb2); (try clear hk); (try clear hi)) | ((with_reducible refine gate_callee (f := 12) rfl ?_); refine goesL_ (some 38) rfl rfl Tryd.func12 (by kernel_rfl) rfl #[.string a0, .string a1] rfl (by (try simp only [List.map_toArray, List.map_cons, List.map_nil]); first | done | rfl | (simp only [List.length_drop, List.length_take]; rfl)) ?_; (with_reducible refine (chars_Decode.calls k2 a0 a1 t222 t223 _ ?sideGl A17.out).mono ?_); (case sideGl => exact HGl.out.below (by repeat (first | (with_reducible first | exact HB.out | apply below_alloc | apply pw_below_drewN | apply below_drew1) | exact HB.out))); rintro e w22 ⟨rfl, hb⟩; refine ⟨_, rfl, ?_⟩; have n0_ := Aside0.mk (below_step (by repeat (first | (with_reducible first | exact HB.out | apply below_alloc | apply pw_below_drewN | apply below_drew1) | exact HB.out)) hb); clear HB; have HB := n0_; clear n0_; (try clear hb); (try clear hb2); (try clear hk); (try clear hi)) | (go_at_call 11; (with_reducible refine (muslinlaw04_live.calls k2  t224 _ ?sideGl A20.out).mono ?_); (case sideGl => exact HGl.out.below (by repeat (first | (with_reducible first | exact HB.out | apply below_alloc | apply pw_below_drewN | apply below_drew1) | exact HB.out))); rintro e w23 ⟨rfl, hb⟩; have n0_ := Aside0.mk (below_step (by repeat (first | (with_reducible first | exact HB.out | apply below_alloc | apply pw_below_drewN | apply below_drew1) | exact HB.out)) hb); clear HB; have HB := n0_; clear n0_; (try clear hb); (try clear hb2); (try clear hk); (try clear hi)))
                  go_ret
                  exact ⟨by first | rfl | (simp [errW_none, errW_some] <;> rfl) | (simp [*, errW_none, errW_some] <;> rfl), by repeat (first | (with_reducible first | exact HB.out | apply below_alloc | apply pw_below_drewN | apply below_drew1) | exact HB.out)⟩
                · rw [if_neg c19] at H
                  have c19b0 : (t222.toList == a1.toList) = false := beq_eq_false_iff_ne.mpr c19
                  have c19b1 : (t222.toList != a1.toList) = true := bne_iff_ne.mpr c19
                  by_cases c24 : t220.toList = ([117, 116, 102, 45, 49, 54, 108, 101] : List UInt8)
                  · rw [if_pos c24] at H
                    have c24b0 : (t220.toList == ([117, 116, 102, 45, 49, 54, 108, 101] : List UInt8)) = true := beq_iff_eq.mpr c24
                    have c24b1 : (t220.toList != ([117, 116, 102, 45, 49, 54, 108, 101] : List UInt8)) = false := bne_eq_false_iff_eq.mpr c24
                    clear c24
                    replace H := Option.bind_eq_some_iff.mp H
                    obtain ⟨t225, A250, H⟩ := H
                    replace H : (some t225) = some r := H
                    have A25 := Aside0.mk A250
                    clear A250
                    obtain rfl := Option.some.inj H
                    go_wp2_with (first | ((with_reducible refine gate_callee (f := 14) rfl ?_); refine goesL_ (some 32) rfl rfl Tryd.func14 (by kernel_rfl) rfl #[.string a0] rfl (by (try simp only [List.map_toArray, List.map_cons, List.map_nil]); first | done | rfl | (simp only [List.length_drop, List.length_take]; rfl)) ?_; (with_reducible refine (chars_Known.calls k2 a0 t220 t221 _ A16.out).mono ?_); rintro e w26 ⟨rfl, hb⟩; refine ⟨_, rfl, ?_⟩; have n0_ := Aside0.mk (below_step (by repeat (first | (with_reducible first | exact HB.out | apply below_alloc | apply pw_below_drewN | apply below_drew1) | exact HB.out)) hb); clear HB; have HB := n0_; clear n0_; (try clear hb); (try clear hb2); (try clear hk); (try clear hi)) | ((with_reducible refine gate_callee (f := 12) rfl ?_); refine goesL_ (some 38) rfl rfl Tryd.func12 (by kernel_rfl) rfl #[.string a0, .string a1] rfl (by (try simp only [List.map_toArray, List.map_cons, List.map_nil]); first | done | rfl | (simp only [List.length_drop, List.length_take]; rfl)) ?_; (with_reducible refine (chars_Decode.calls k2 a0 a1 t222 t223 _ ?sideGl A17.out).mono ?_); (case sideGl => exact HGl.out.below (by repeat (first | (with_reducible first | exact HB.out | apply below_alloc | apply pw_below_drewN | apply below_drew1) | exact HB.out))); rintro e w27 ⟨rfl, hb⟩; refine ⟨_, rfl, ?_⟩; have n0_ := Aside0.mk (below_step (by repeat (first | (with_reducible first | exact HB.out | apply below_alloc | apply pw_below_drewN | apply below_drew1) | exact HB.out)) hb); clear HB; have HB := n0_; clear n0_; (try clear hb); (try clear hb2); (try clear hk); (try clear hi)) | (go_at_call 11; (with_reducible refine (muslinlaw04_live.calls k2  t225 _ ?sideGl A25.out).mono ?_); (case sideGl => exact HGl.out.below (by repeat (first | (with_reducible first | exact HB.out | apply below_alloc | apply pw_below_drewN | apply below_drew1) | exact HB.out))); rintro e w28 ⟨rfl, hb⟩; have n0_ := Aside0.mk (below_step (by repeat (first | (with_reducible first | exact HB.out | apply below_alloc | apply pw_below_drewN | apply below_drew1) | exact HB.out)) hb); clear HB; have HB := n0_; clear n0_; (try clear hb); (try clear hb2); (try clear hk); (try clear hi)))
                    go_ret
                    exact ⟨by first | rfl | (simp [errW_none, errW_some] <;> rfl) | (simp [*, errW_none, errW_some] <;> rfl), by repeat (first | (with_reducible first | exact HB.out | apply below_alloc | apply pw_below_drewN | apply below_drew1) | exact HB.out)⟩
                  · rw [if_neg c24] at H
                    have c24b0 : (t220.toList == ([117, 116, 102, 45, 49, 54, 108, 101] : List UInt8)) = false := beq_eq_false_iff_ne.mpr c24
                    have c24b1 : (t220.toList != ([117, 116, 102, 45, 49, 54, 108, 101] : List UInt8)) = true := bne_iff_ne.mpr c24
                    by_cases c29 : t220.toList = ([117, 116, 102, 45, 49, 54, 98, 101] : List UInt8)
                    · rw [if_pos c29] at H
                      have c29b0 : (t220.toList == ([117, 116, 102, 45, 49, 54, 98, 101] : List UInt8)) = true := beq_iff_eq.mpr c29
                      have c29b1 : (t220.toList != ([117, 116, 102, 45, 49, 54, 98, 101] : List UInt8)) = false := bne_eq_false_iff_eq.mpr c29
                      clear c29
                      replace H := Option.bind_eq_some_iff.mp H
                      obtain ⟨t226, A300, H⟩ := H
                      replace H : (some t226) = some r := H
                      have A30 := Aside0.mk A300
                      clear A300
                      obtain rfl := Option.some.inj H
                      go_wp2_with (first | ((with_reducible refine gate_callee (f := 14) rfl ?_); refine goesL_ (some 32) rfl rfl Tryd.func14 (by kernel_rfl) rfl #[.string a0] rfl (by (try simp only [List.map_toArray, List.map_cons, List.map_nil]); first | done | rfl | (simp only [List.length_drop, List.length_take]; rfl)) ?_; (with_reducible refine (chars_Known.calls k2 a0 t220 t221 _ A16.out).mono ?_); rintro e w31 ⟨rfl, hb⟩; refine ⟨_, rfl, ?_⟩; have n0_ := Aside0.mk (below_step (by repeat (first | (with_reducible first | exact HB.out | apply below_alloc | apply pw_below_drewN | apply below_drew1) | exact HB.out)) hb); clear HB; have HB := n0_; clear n0_; (try clear hb); (try clear hb2); (try clear hk); (try clear hi)) | ((with_reducible refine gate_callee (f := 12) rfl ?_); refine goesL_ (some 38) rfl rfl Tryd.func12 (by kernel_rfl) rfl #[.string a0, .string a1] rfl (by (try simp only [List.map_toArray, List.map_cons, List.map_nil]); first | done | rfl | (simp only [List.length_drop, List.length_take]; rfl)) ?_; (with_reducible refine (chars_Decode.calls k2 a0 a1 t222 t223 _ ?sideGl A17.out).mono ?_); (case sideGl => exact HGl.out.below (by repeat (first | (with_reducible first | exact HB.out | apply below_alloc | apply pw_below_drewN | apply below_drew1) | exact HB.out))); rintro e w32 ⟨rfl, hb⟩; refine ⟨_, rfl, ?_⟩; have n0_ := Aside0.mk (below_step (by repeat (first | (with_reducible first | exact HB.out | apply below_alloc | apply pw_below_drewN | apply below_drew1) | exact HB.out)) hb); clear HB; have HB := n0_; clear n0_; (try clear hb); (try clear hb2); (try clear hk); (try clear hi)) | (go_at_call 11; (with_reducible refine (muslinlaw04_live.calls k2  t226 _ ?sideGl A30.out).mono ?_); (case sideGl => exact HGl.out.below (by repeat (first | (with_reducible first | exact HB.out | apply below_alloc | apply pw_below_drewN | apply below_drew1) | exact HB.out))); rintro e w33 ⟨rfl, hb⟩; have n0_ := Aside0.mk (below_step (by repeat (first | (with_reducible first | exact HB.out | apply below_alloc | apply pw_below_drewN | apply below_drew1) | exact HB.out)) hb); clear HB; have HB := n0_; clear n0_; (try clear hb); (try clear hb2); (try clear hk); (try clear hi)))
                      go_ret
                      exact ⟨by first | rfl | (simp [errW_none, errW_some] <;> rfl) | (simp [*, errW_none, errW_some] <;> rfl), by repeat (first | (with_reducible first | exact HB.out | apply below_alloc | apply pw_below_drewN | apply below_drew1) | exact HB.out)⟩
                    · rw [if_neg c29] at H
                      have c29b0 : (t220.toList == ([117, 116, 102, 45, 49, 54, 98, 101] : List UInt8)) = false := beq_eq_false_iff_ne.mpr c29
                      have c29b1 : (t220.toList != ([117, 116, 102, 45, 49, 54, 98, 101] : List UInt8)) = true := bne_iff_ne.mpr c29
                      obtain rfl := Option.some.inj H
                      go_wp2_with (first | ((with_reducible refine gate_callee (f := 14) rfl ?_); refine goesL_ (some 32) rfl rfl Tryd.func14 (by kernel_rfl) rfl #[.string a0] rfl (by (try simp only [List.map_toArray, List.map_cons, List.map_nil]); first | done | rfl | (simp only [List.length_drop, List.length_take]; rfl)) ?_; (with_reducible refine (chars_Known.calls k2 a0 t220 t221 _ A16.out).mono ?_); rintro e w34 ⟨rfl, hb⟩; refine ⟨_, rfl, ?_⟩; have n0_ := Aside0.mk (below_step (by repeat (first | (with_reducible first | exact HB.out | apply below_alloc | apply pw_below_drewN | apply below_drew1) | exact HB.out)) hb); clear HB; have HB := n0_; clear n0_; (try clear hb); (try clear hb2); (try clear hk); (try clear hi)) | ((with_reducible refine gate_callee (f := 12) rfl ?_); refine goesL_ (some 38) rfl rfl Tryd.func12 (by kernel_rfl) rfl #[.string a0, .string a1] rfl (by (try simp only [List.map_toArray, List.map_cons, List.map_nil]); first | done | rfl | (simp only [List.length_drop, List.length_take]; rfl)) ?_; (with_reducible refine (chars_Decode.calls k2 a0 a1 t222 t223 _ ?sideGl A17.out).mono ?_); (case sideGl => exact HGl.out.below (by repeat (first | (with_reducible first | exact HB.out | apply below_alloc | apply pw_below_drewN | apply below_drew1) | exact HB.out))); rintro e w35 ⟨rfl, hb⟩; refine ⟨_, rfl, ?_⟩; have n0_ := Aside0.mk (below_step (by repeat (first | (with_reducible first | exact HB.out | apply below_alloc | apply pw_below_drewN | apply below_drew1) | exact HB.out)) hb); clear HB; have HB := n0_; clear n0_; (try clear hb); (try clear hb2); (try clear hk); (try clear hi)))
                      go_ret
                      exact ⟨by first | rfl | (simp [errW_none, errW_some] <;> rfl) | (simp [*, errW_none, errW_some] <;> rfl), by repeat (first | (with_reducible first | exact HB.out | apply below_alloc | apply pw_below_drewN | apply below_drew1) | exact HB.out)⟩
              · rw [if_neg c18] at H
                have c18b0 : (t221 == t223) = false := by simpa using c18
                (try (have c18b1 : decide (t221 = t223) = false := by simpa using c18))
                (try (have c18b2 : (t221 == t223) = false := by simpa using c18))
                (try (have c18b3 : ¬ (t221 = t223) := by simpa using c18))
                clear c18
                obtain rfl := Option.some.inj H
                go_wp2_with (first | ((with_reducible refine gate_callee (f := 14) rfl ?_); refine goesL_ (some 32) rfl rfl Tryd.func14 (by kernel_rfl) rfl #[.string a0] rfl (by (try simp only [List.map_toArray, List.map_cons, List.map_nil]); first | done | rfl | (simp only [List.length_drop, List.length_take]; rfl)) ?_; (with_reducible refine (chars_Known.calls k2 a0 t220 t221 _ A16.out).mono ?_); rintro e w36 ⟨rfl, hb⟩; refine ⟨_, rfl, ?_⟩; have n0_ := Aside0.mk (below_step (by repeat (first | (with_reducible first | exact HB.out | apply below_alloc | apply pw_below_drewN | apply below_drew1) | exact HB.out)) hb); clear HB; have HB := n0_; clear n0_; (try clear hb); (try clear hb2); (try clear hk); (try clear hi)) | ((with_reducible refine gate_callee (f := 12) rfl ?_); refine goesL_ (some 38) rfl rfl Tryd.func12 (by kernel_rfl) rfl #[.string a0, .string a1] rfl (by (try simp only [List.map_toArray, List.map_cons, List.map_nil]); first | done | rfl | (simp only [List.length_drop, List.length_take]; rfl)) ?_; (with_reducible refine (chars_Decode.calls k2 a0 a1 t222 t223 _ ?sideGl A17.out).mono ?_); (case sideGl => exact HGl.out.below (by repeat (first | (with_reducible first | exact HB.out | apply below_alloc | apply pw_below_drewN | apply below_drew1) | exact HB.out))); rintro e w37 ⟨rfl, hb⟩; refine ⟨_, rfl, ?_⟩; have n0_ := Aside0.mk (below_step (by repeat (first | (with_reducible first | exact HB.out | apply below_alloc | apply pw_below_drewN | apply below_drew1) | exact HB.out)) hb); clear HB; have HB := n0_; clear n0_; (try clear hb); (try clear hb2); (try clear hk); (try clear hi)))
                go_ret
                exact ⟨by first | rfl | (simp [errW_none, errW_some] <;> rfl) | (simp [*, errW_none, errW_some] <;> rfl), by repeat (first | (with_reducible first | exact HB.out | apply below_alloc | apply pw_below_drewN | apply below_drew1) | exact HB.out)⟩

/-- THE ONE PURE STATEMENT of muslinlaw04_CharsPlain: yours. -/
def muslinlaw04_CharsPlain.Pure : Prop := ∀ (a0 : ByteArray) (a1 : ByteArray), a0.size ≤ 140737488351232 → a1.size ≤ 140737488351232 → ∃ k, muslinlaw04_CharsPlain.f k a0 a1 = some true
theorem muslinlaw04_CharsPlain.walk (P : muslinlaw04_CharsPlain.Pure) (a0 : ByteArray) (a1 : ByteArray) (w : World) (hGl : Glob w) (w0 : a0.size ≤ 140737488351232) (w1 : a1.size ≤ 140737488351232) :
    Calls Tryd.prog 7 #[.string a0, .string a1] w fun e w' => e = .returned (.bool true) ∧ Below w.heap.size w w' := by
  obtain ⟨k, h⟩ := P a0 a1 w0 w1
  refine (muslinlaw04_CharsPlain.calls k a0 a1 true w hGl h).mono ?_
  rintro e w' ⟨rfl, hd⟩
  exact ⟨rfl, hd⟩

/-! ### muslinlaw04_CharsSizes: function 9 -/
def muslinlaw04_CharsSizes.j0 : Nat → ByteArray → ByteArray → Bool → Option (Bool)
  | 0, _, _, _ => none
  | k + 1, x0, x1, x14 => if x14 = true then ((muslinlaw04_live.f k).bind fun t229 => (some t229)) else ((chars_Decode.f k x0 x1).bind fun bt230 => (if (bt230.1.size : Int) ≤ (wrap64 (3 * (x1.size : Int))) then ((chars_Valid.f x1).bind fun t232 => (if (t232.size : Int) ≤ (wrap64 (3 * (x1.size : Int))) then ((muslinlaw04_live.f k).bind fun t233 => (some t233)) else (some false))) else (some false)))
def muslinlaw04_CharsSizes.f (k : Nat) (a0 : ByteArray) (a1 : ByteArray) : Option (Bool) := (muslinlaw04_short.f a0).bind fun t227 => (if t227 = true then ((muslinlaw04_short.f a1).bind fun t228 => (muslinlaw04_CharsSizes.j0 k a0 a1 (!t228))) else (muslinlaw04_CharsSizes.j0 k a0 a1 true))
theorem muslinlaw04_CharsSizes.mono_l : ∀ k, (∀ y0 y1 y2, LeO (muslinlaw04_CharsSizes.j0 k y0 y1 y2) (muslinlaw04_CharsSizes.j0 (k + 1) y0 y1 y2))
  | 0 => fun _ _ _ r h => by simp [muslinlaw04_CharsSizes.j0] at h
  | k + 1 => by
    have ih0 := muslinlaw04_CharsSizes.mono_l k
    · intro y0 y1 y2
      unfold muslinlaw04_CharsSizes.j0
      repeat' first
      | (with_reducible exact ih0 _ _ _)
      | (with_reducible exact chars_Decode.mono _ _ _)
      | (with_reducible exact muslinlaw04_live.mono _)
      | (with_reducible exact LeO.refl _)
      | (with_reducible exact LeO.none _)
      | (with_reducible refine LeO.ite ?_ ?_)
      | (with_reducible refine LeO.bind ?_ (fun _ => ?_))
      | exact ih0 _ _ _
      | exact chars_Decode.mono _ _ _
      | exact muslinlaw04_live.mono _
      | exact LeO.none _
      | refine LeO.ite ?_ ?_
      | refine LeO.bind ?_ (fun _ => ?_)
theorem muslinlaw04_CharsSizes.mono : ∀ a0 a1 k, LeO (muslinlaw04_CharsSizes.f k a0 a1) (muslinlaw04_CharsSizes.f (k + 1) a0 a1) := by
  intro a0 a1 k
  have ih0 := muslinlaw04_CharsSizes.mono_l k
  unfold muslinlaw04_CharsSizes.f
  repeat' first
      | (with_reducible exact ih0 _ _ _)
      | (with_reducible exact chars_Decode.mono _ _ _)
      | (with_reducible exact muslinlaw04_live.mono _)
      | (with_reducible exact LeO.refl _)
      | (with_reducible exact LeO.none _)
      | (with_reducible refine LeO.ite ?_ ?_)
      | (with_reducible refine LeO.bind ?_ (fun _ => ?_))
      | exact ih0 _ _ _
      | exact chars_Decode.mono _ _ _
      | exact muslinlaw04_live.mono _
      | exact LeO.none _
      | refine LeO.ite ?_ ?_
      | refine LeO.bind ?_ (fun _ => ?_)
set_option maxHeartbeats 8000000 in
set_option maxRecDepth 100000 in
theorem muslinlaw04_CharsSizes.calls (k : Nat) (a0 : ByteArray) (a1 : ByteArray) (r : Bool) (w : World) (hGl : Glob w) (h : muslinlaw04_CharsSizes.f k a0 a1 = some r) :
    Calls Tryd.prog 9 #[.string a0, .string a1] w fun e w' => e = .returned (.bool r) ∧ Below w.heap.size w w' := by
  have HGl := Aside0.mk hGl
  clear hGl
  have HB := Aside0.mk (Below.refl w.heap.size w)
  have H : ((muslinlaw04_short.f a0).bind fun t227 => (if t227 = true then ((muslinlaw04_short.f a1).bind fun t228 => (muslinlaw04_CharsSizes.j0 k a0 a1 (!t228))) else (muslinlaw04_CharsSizes.j0 k a0 a1 true))) = some r := h
  clear h
  have HC3 := Aside0.mk H
  clear H
  go_enter Tryd.func9, Tryd.ntmps9
  go_upto_region 1 with (fail)
  go_cut [14] (fun v14 wc => ∃ (kq : Nat) (x14_2 : Bool), v14 = .bool x14_2 ∧ Aside0 (muslinlaw04_CharsSizes.j0 kq a0 a1 x14_2 = some r) ∧ Aside0 (kq ≤ k) ∧ Aside0 (Below w.heap.size w wc))
  case first =>
    have H := HC3.out
    clear HC3
    replace H := Option.bind_eq_some_iff.mp H
    obtain ⟨t227, A40, H⟩ := H
    replace H : (if t227 = true then ((muslinlaw04_short.f a1).bind fun t228 => (muslinlaw04_CharsSizes.j0 k a0 a1 (!t228))) else (muslinlaw04_CharsSizes.j0 k a0 a1 true)) = some r := H
    have A4 := Aside0.mk A40
    clear A40
    by_cases c5 : t227 = true
    · subst c5
      have H1 : ((muslinlaw04_short.f a1).bind fun t228 => (muslinlaw04_CharsSizes.j0 k a0 a1 (!t228))) = some r := by rw [if_pos rfl] at H; exact H
      clear H
      have H := H1
      clear H1
      replace H := Option.bind_eq_some_iff.mp H
      obtain ⟨t228, A60, H⟩ := H
      replace H : (muslinlaw04_CharsSizes.j0 k a0 a1 (!t228)) = some r := H
      have A6 := Aside0.mk A60
      clear A60
      have H' := Aside0.mk H
      clear H
      go_wp2_with (first | ((with_reducible refine gate_callee (f := 10) rfl ?_); refine goesL_ (some 8) rfl rfl Tryd.func10 (by kernel_rfl) rfl #[.string a0] rfl (by (try simp only [List.map_toArray, List.map_cons, List.map_nil]); first | done | rfl | (simp only [List.length_drop, List.length_take]; rfl)) ?_; (with_reducible refine (muslinlaw04_short.calls a0 true _ A4.out).mono ?_); rintro e w' ⟨rfl, ⟨nd, rfl⟩⟩; refine ⟨_, rfl, ?_⟩) | (go_at_call 10; (with_reducible refine (muslinlaw04_short.calls a1 t228 _ A6.out).mono ?_); rintro e w' ⟨rfl, ⟨nd, rfl⟩⟩))
      go_meet
      case rel => exact ⟨_, (!t228), (by first | rfl | (simp; done) | (simp [*]; done)), H', ⟨by first | omega | exact Nat.le_refl _⟩, ⟨by repeat (first | (with_reducible first | exact HB.out | apply below_alloc | apply pw_below_drewN | apply below_drew1) | exact HB.out)⟩⟩
    · replace c5 := Bool.eq_false_iff.mpr c5
      subst c5
      have H1 : (muslinlaw04_CharsSizes.j0 k a0 a1 true) = some r := by rw [if_neg (show ¬ (false = true) by decide)] at H; exact H
      clear H
      have H := H1
      clear H1
      have H' := Aside0.mk H
      clear H
      go_wp2_with (first | ((with_reducible refine gate_callee (f := 10) rfl ?_); refine goesL_ (some 8) rfl rfl Tryd.func10 (by kernel_rfl) rfl #[.string a0] rfl (by (try simp only [List.map_toArray, List.map_cons, List.map_nil]); first | done | rfl | (simp only [List.length_drop, List.length_take]; rfl)) ?_; (with_reducible refine (muslinlaw04_short.calls a0 false _ A4.out).mono ?_); rintro e w' ⟨rfl, ⟨nd, rfl⟩⟩; refine ⟨_, rfl, ?_⟩))
      go_meet
      case rel => exact ⟨_, (true), (by first | rfl | (simp; done) | (simp [*]; done)), H', ⟨by first | omega | exact Nat.le_refl _⟩, ⟨by repeat (first | (with_reducible first | exact HB.out | apply below_alloc | apply pw_below_drewN | apply below_drew1) | exact HB.out)⟩⟩
  case rest =>
    clear HC3
    try clear c1
    try clear p2
    try clear c5
    obtain ⟨kq, x14_2, rfl, HA, HJ2, HB⟩ := hcut
    cases kq with
    | zero => exact absurd HA.out (by simp [muslinlaw04_CharsSizes.j0])
    | succ kj2 =>
      have H := HA.out
      clear HA
      simp only [muslinlaw04_CharsSizes.j0] at H
      by_cases c7 : x14_2 = true
      · subst c7
        have H1 : ((muslinlaw04_live.f kj2).bind fun t229 => (some t229)) = some r := by rw [if_pos rfl] at H; exact H
        clear H
        have H := H1
        clear H1
        replace H := Option.bind_eq_some_iff.mp H
        obtain ⟨t229, A80, H⟩ := H
        replace H : (some t229) = some r := H
        have A8 := Aside0.mk A80
        clear A80
        obtain rfl := Option.some.inj H
        go_wp2_with (first | ((with_reducible refine gate_callee (f := 11) rfl ?_); refine goesL_ (some 15) rfl rfl Tryd.func11 (by kernel_rfl) rfl #[] rfl (by (try simp only [List.map_toArray, List.map_cons, List.map_nil]); first | done | rfl | (simp only [List.length_drop, List.length_take]; rfl)) ?_; (with_reducible refine (muslinlaw04_live.calls kj2  t229 _ ?sideGl A8.out).mono ?_); (case sideGl => exact HGl.out.below (by repeat (first | (with_reducible first | exact HB.out | apply below_alloc | apply pw_below_drewN | apply below_drew1) | exact HB.out))); rintro e w9 ⟨rfl, hb⟩; refine ⟨_, rfl, ?_⟩; have n0_ := Aside0.mk (below_step (by repeat (first | (with_reducible first | exact HB.out | apply below_alloc | apply pw_below_drewN | apply below_drew1) | exact HB.out)) hb); clear HB; have HB := n0_; clear n0_; (try clear hb); (try clear hb2); (try clear hk); (try clear hi)))
        go_ret
        exact ⟨by first | rfl | (simp [errW_none, errW_some] <;> rfl) | (simp [*, errW_none, errW_some] <;> rfl), by repeat (first | (with_reducible first | exact HB.out | apply below_alloc | apply pw_below_drewN | apply below_drew1) | exact HB.out)⟩
      · replace c7 := Bool.eq_false_iff.mpr c7
        subst c7
        have H1 : ((chars_Decode.f kj2 a0 a1).bind fun bt230 => (if (bt230.1.size : Int) ≤ (wrap64 (3 * (a1.size : Int))) then ((chars_Valid.f a1).bind fun t232 => (if (t232.size : Int) ≤ (wrap64 (3 * (a1.size : Int))) then ((muslinlaw04_live.f kj2).bind fun t233 => (some t233)) else (some false))) else (some false))) = some r := by rw [if_neg (show ¬ (false = true) by decide)] at H; exact H
        clear H
        have H := H1
        clear H1
        replace H := Option.bind_eq_some_iff.mp H
        obtain ⟨⟨t230, t231⟩, A100, H⟩ := H
        replace H : (if (t230.size : Int) ≤ (wrap64 (3 * (a1.size : Int))) then ((chars_Valid.f a1).bind fun t232 => (if (t232.size : Int) ≤ (wrap64 (3 * (a1.size : Int))) then ((muslinlaw04_live.f kj2).bind fun t233 => (some t233)) else (some false))) else (some false)) = some r := H
        have A10 := Aside0.mk A100
        clear A100
        by_cases c11 : (t230.size : Int) ≤ (wrap64 (3 * (a1.size : Int)))
        · rw [if_pos c11] at H
          have c11b0 : decide ((t230.size : Int) ≤ (wrap64 (3 * (a1.size : Int)))) = true := decide_eq_true c11
          clear c11
          replace H := Option.bind_eq_some_iff.mp H
          obtain ⟨t232, A120, H⟩ := H
          replace H : (if (t232.size : Int) ≤ (wrap64 (3 * (a1.size : Int))) then ((muslinlaw04_live.f kj2).bind fun t233 => (some t233)) else (some false)) = some r := H
          have A12 := Aside0.mk A120
          clear A120
          by_cases c13 : (t232.size : Int) ≤ (wrap64 (3 * (a1.size : Int)))
          · rw [if_pos c13] at H
            have c13b0 : decide ((t232.size : Int) ≤ (wrap64 (3 * (a1.size : Int)))) = true := decide_eq_true c13
            clear c13
            replace H := Option.bind_eq_some_iff.mp H
            obtain ⟨t233, A140, H⟩ := H
            replace H : (some t233) = some r := H
            have A14 := Aside0.mk A140
            clear A140
            obtain rfl := Option.some.inj H
            go_wp2_with (first | ((with_reducible refine gate_callee (f := 12) rfl ?_); refine goesL_ (some 19) rfl rfl Tryd.func12 (by kernel_rfl) rfl #[.string a0, .string a1] rfl (by (try simp only [List.map_toArray, List.map_cons, List.map_nil]); first | done | rfl | (simp only [List.length_drop, List.length_take]; rfl)) ?_; (with_reducible refine (chars_Decode.calls kj2 a0 a1 t230 t231 _ ?sideGl A10.out).mono ?_); (case sideGl => exact HGl.out.below (by repeat (first | (with_reducible first | exact HB.out | apply below_alloc | apply pw_below_drewN | apply below_drew1) | exact HB.out))); rintro e w15 ⟨rfl, hb⟩; refine ⟨_, rfl, ?_⟩; have n0_ := Aside0.mk (below_step (by repeat (first | (with_reducible first | exact HB.out | apply below_alloc | apply pw_below_drewN | apply below_drew1) | exact HB.out)) hb); clear HB; have HB := n0_; clear n0_; (try clear hb); (try clear hb2); (try clear hk); (try clear hi)) | (go_at_call 16; (with_reducible refine (chars_Valid.calls a1 t232 _ A12.out).mono ?_); rintro e w16 ⟨rfl, hb⟩; have n0_ := Aside0.mk (below_step (by repeat (first | (with_reducible first | exact HB.out | apply below_alloc | apply pw_below_drewN | apply below_drew1) | exact HB.out)) hb); clear HB; have HB := n0_; clear n0_; (try clear hb); (try clear hb2); (try clear hk); (try clear hi)) | (go_at_call 11; (with_reducible refine (muslinlaw04_live.calls kj2  t233 _ ?sideGl A14.out).mono ?_); (case sideGl => exact HGl.out.below (by repeat (first | (with_reducible first | exact HB.out | apply below_alloc | apply pw_below_drewN | apply below_drew1) | exact HB.out))); rintro e w17 ⟨rfl, hb⟩; have n0_ := Aside0.mk (below_step (by repeat (first | (with_reducible first | exact HB.out | apply below_alloc | apply pw_below_drewN | apply below_drew1) | exact HB.out)) hb); clear HB; have HB := n0_; clear n0_; (try clear hb); (try clear hb2); (try clear hk); (try clear hi)))
            go_ret
            exact ⟨by first | rfl | (simp [errW_none, errW_some] <;> rfl) | (simp [*, errW_none, errW_some] <;> rfl), by repeat (first | (with_reducible first | exact HB.out | apply below_alloc | apply pw_below_drewN | apply below_drew1) | exact HB.out)⟩
          · rw [if_neg c13] at H
            have c13b0 : decide ((t232.size : Int) ≤ (wrap64 (3 * (a1.size : Int)))) = false := decide_eq_false c13
            clear c13
            obtain rfl := Option.some.inj H
            go_wp2_with (first | ((with_reducible refine gate_callee (f := 12) rfl ?_); refine goesL_ (some 19) rfl rfl Tryd.func12 (by kernel_rfl) rfl #[.string a0, .string a1] rfl (by (try simp only [List.map_toArray, List.map_cons, List.map_nil]); first | done | rfl | (simp only [List.length_drop, List.length_take]; rfl)) ?_; (with_reducible refine (chars_Decode.calls kj2 a0 a1 t230 t231 _ ?sideGl A10.out).mono ?_); (case sideGl => exact HGl.out.below (by repeat (first | (with_reducible first | exact HB.out | apply below_alloc | apply pw_below_drewN | apply below_drew1) | exact HB.out))); rintro e w18 ⟨rfl, hb⟩; refine ⟨_, rfl, ?_⟩; have n0_ := Aside0.mk (below_step (by repeat (first | (with_reducible first | exact HB.out | apply below_alloc | apply pw_below_drewN | apply below_drew1) | exact HB.out)) hb); clear HB; have HB := n0_; clear n0_; (try clear hb); (try clear hb2); (try clear hk); (try clear hi)) | (go_at_call 16; (with_reducible refine (chars_Valid.calls a1 t232 _ A12.out).mono ?_); rintro e w19 ⟨rfl, hb⟩; have n0_ := Aside0.mk (below_step (by repeat (first | (with_reducible first | exact HB.out | apply below_alloc | apply pw_below_drewN | apply below_drew1) | exact HB.out)) hb); clear HB; have HB := n0_; clear n0_; (try clear hb); (try clear hb2); (try clear hk); (try clear hi)))
            go_ret
            exact ⟨by first | rfl | (simp [errW_none, errW_some] <;> rfl) | (simp [*, errW_none, errW_some] <;> rfl), by repeat (first | (with_reducible first | exact HB.out | apply below_alloc | apply pw_below_drewN | apply below_drew1) | exact HB.out)⟩
        · rw [if_neg c11] at H
          have c11b0 : decide ((t230.size : Int) ≤ (wrap64 (3 * (a1.size : Int)))) = false := decide_eq_false c11
          clear c11
          obtain rfl := Option.some.inj H
          go_wp2_with (first | ((with_reducible refine gate_callee (f := 12) rfl ?_); refine goesL_ (some 19) rfl rfl Tryd.func12 (by kernel_rfl) rfl #[.string a0, .string a1] rfl (by (try simp only [List.map_toArray, List.map_cons, List.map_nil]); first | done | rfl | (simp only [List.length_drop, List.length_take]; rfl)) ?_; (with_reducible refine (chars_Decode.calls kj2 a0 a1 t230 t231 _ ?sideGl A10.out).mono ?_); (case sideGl => exact HGl.out.below (by repeat (first | (with_reducible first | exact HB.out | apply below_alloc | apply pw_below_drewN | apply below_drew1) | exact HB.out))); rintro e w20 ⟨rfl, hb⟩; refine ⟨_, rfl, ?_⟩; have n0_ := Aside0.mk (below_step (by repeat (first | (with_reducible first | exact HB.out | apply below_alloc | apply pw_below_drewN | apply below_drew1) | exact HB.out)) hb); clear HB; have HB := n0_; clear n0_; (try clear hb); (try clear hb2); (try clear hk); (try clear hi)))
          go_ret
          exact ⟨by first | rfl | (simp [errW_none, errW_some] <;> rfl) | (simp [*, errW_none, errW_some] <;> rfl), by repeat (first | (with_reducible first | exact HB.out | apply below_alloc | apply pw_below_drewN | apply below_drew1) | exact HB.out)⟩

/-- THE ONE PURE STATEMENT of muslinlaw04_CharsSizes: yours. -/
def muslinlaw04_CharsSizes.Pure : Prop := ∀ (a0 : ByteArray) (a1 : ByteArray), a0.size ≤ 140737488351232 → a1.size ≤ 140737488351232 → ∃ k, muslinlaw04_CharsSizes.f k a0 a1 = some true
theorem muslinlaw04_CharsSizes.walk (P : muslinlaw04_CharsSizes.Pure) (a0 : ByteArray) (a1 : ByteArray) (w : World) (hGl : Glob w) (w0 : a0.size ≤ 140737488351232) (w1 : a1.size ≤ 140737488351232) :
    Calls Tryd.prog 9 #[.string a0, .string a1] w fun e w' => e = .returned (.bool true) ∧ Below w.heap.size w w' := by
  obtain ⟨k, h⟩ := P a0 a1 w0 w1
  refine (muslinlaw04_CharsSizes.calls k a0 a1 true w hGl h).mono ?_
  rintro e w' ⟨rfl, hd⟩
  exact ⟨rfl, hd⟩

end Go.Proofs.YtkhloimbaepmeaaDoor.P
