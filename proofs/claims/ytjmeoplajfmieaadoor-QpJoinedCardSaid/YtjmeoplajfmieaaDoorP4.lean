/- Printed by a program of this session: functions that the law reaches, and that the calls come to them. -/
import Derived.Test.YtjmeoplajfmieaaDoorP0
import Derived.Test.YtjmeoplajfmieaaDoorP1
namespace Go.Proofs.YtjmeoplajfmieaaDoor.P
open Go.RowKit Go.Proofs.YtjmeoplajfmieaaDoorW.PrintWords Go.Proofs.YtjmeoplajfmieaaDoorW.PrintLast Go.Proofs.YtjmeoplajfmieaaDoorW.PrintMore
attribute [local go_sem] max2_int min2_int max_two min_two max_three min_three max_four min_four   -- for this text's walks alone
set_option linter.unusedVariables false
set_option linter.unusedSimpArgs false

/-! ### muslinlaw02_QpJoined: function 8 -/
mutual
def muslinlaw02_QpJoined.l0 : Nat → List ByteArray → ByteArray → ByteArray → Int → Option (Bool)
  | 0, _, _, _, _ => none
  | k + 1, x0, x3, x4, x5 => if x5 < (x0.length : Int) then (if 0 ≤ x5 then (if ((rdOf ByteArray.empty x0 x5).size : Int) > 100 then ((muslinlaw02_live.f).bind fun t155 => (some t155)) else (muslinlaw02_QpJoined.l1 k x0 x3 x4 x5 (rdOf ByteArray.empty x0 x5) 0)) else (none)) else ((qp_Decode.f x3).bind fun t152 => (if t152.toList = x4.toList then ((muslinlaw02_live.f).bind fun t153 => (some t153)) else (some false)))
def muslinlaw02_QpJoined.l1 : Nat → List ByteArray → ByteArray → ByteArray → Int → ByteArray → Int → Option (Bool)
  | 0, _, _, _, _, _, _ => none
  | k + 1, x0, x3, x4, x5, x6, x7 => if x7 < (x6.size : Int) then (if 0 ≤ x7 then (if (bt x6 x7) = 10 then ((muslinlaw02_live.f).bind fun t156 => (some t156)) else (if (bt x6 x7) = 13 then ((muslinlaw02_live.f).bind fun t157 => (some t157)) else (muslinlaw02_QpJoined.l1 k x0 x3 x4 x5 x6 (wrap64 (x7 + 1))))) else (none)) else (if x6.size + 1 ≤ 9223372036854775807 then ((qp_Decode.f (x6 ++ (⟨#[10]⟩ : ByteArray))).bind fun t158 => (if t158.toList = ([] : List UInt8) then ((muslinlaw02_live.f).bind fun t159 => (some t159)) else (if 0 ≤ (wrap64 ((t158.size : Int) - 1)) then (if (wrap64 ((t158.size : Int) - 1)) < (t158.size : Int) then (if (bt t158 (wrap64 ((t158.size : Int) - 1))) = 10 then (if x3.size + x6.size ≤ 9223372036854775807 then (if (x3 ++ x6).size + 1 ≤ 9223372036854775807 then (if x4.size + t158.size ≤ 9223372036854775807 then (muslinlaw02_QpJoined.l0 k x0 ((x3 ++ x6) ++ (⟨#[10]⟩ : ByteArray)) (x4 ++ t158) (wrap64 (x5 + 1))) else (none)) else (none)) else (none)) else ((muslinlaw02_live.f).bind fun t160 => (some t160))) else (none)) else (none)))) else (none))
end
def muslinlaw02_QpJoined.f (k : Nat) (l0 : List ByteArray) : Option (Bool) := if (l0.length : Int) > 30 then ((muslinlaw02_live.f).bind fun t151 => (some t151)) else (muslinlaw02_QpJoined.l0 k l0 (⟨#[]⟩ : ByteArray) (⟨#[]⟩ : ByteArray) 0)
theorem muslinlaw02_QpJoined.mono_l : ∀ k, (∀ y0 y1 y2 y3, LeO (muslinlaw02_QpJoined.l0 k y0 y1 y2 y3) (muslinlaw02_QpJoined.l0 (k + 1) y0 y1 y2 y3)) ∧ (∀ y0 y1 y2 y3 y4 y5, LeO (muslinlaw02_QpJoined.l1 k y0 y1 y2 y3 y4 y5) (muslinlaw02_QpJoined.l1 (k + 1) y0 y1 y2 y3 y4 y5))
  | 0 => ⟨fun _ _ _ _ r h => by simp [muslinlaw02_QpJoined.l0] at h, fun _ _ _ _ _ _ r h => by simp [muslinlaw02_QpJoined.l1] at h⟩
  | k + 1 => by
    obtain ⟨ih0, ih1⟩ := muslinlaw02_QpJoined.mono_l k
    refine ⟨?_, ?_⟩
    · intro y0 y1 y2 y3
      unfold muslinlaw02_QpJoined.l0
      repeat' first
      | (with_reducible exact ih0 _ _ _ _)
      | (with_reducible exact ih1 _ _ _ _ _ _)
      | (with_reducible exact LeO.refl _)
      | (with_reducible exact LeO.none _)
      | (with_reducible refine LeO.ite ?_ ?_)
      | (with_reducible refine LeO.bind ?_ (fun _ => ?_))
      | exact ih0 _ _ _ _
      | exact ih1 _ _ _ _ _ _
      | exact LeO.none _
      | refine LeO.ite ?_ ?_
      | refine LeO.bind ?_ (fun _ => ?_)
    · intro y0 y1 y2 y3 y4 y5
      unfold muslinlaw02_QpJoined.l1
      repeat' first
      | (with_reducible exact ih0 _ _ _ _)
      | (with_reducible exact ih1 _ _ _ _ _ _)
      | (with_reducible exact LeO.refl _)
      | (with_reducible exact LeO.none _)
      | (with_reducible refine LeO.ite ?_ ?_)
      | (with_reducible refine LeO.bind ?_ (fun _ => ?_))
      | exact ih0 _ _ _ _
      | exact ih1 _ _ _ _ _ _
      | exact LeO.none _
      | refine LeO.ite ?_ ?_
      | refine LeO.bind ?_ (fun _ => ?_)
theorem muslinlaw02_QpJoined.mono : ∀ a0 k, LeO (muslinlaw02_QpJoined.f k a0) (muslinlaw02_QpJoined.f (k + 1) a0) := by
  intro a0 k
  obtain ⟨ih0, ih1⟩ := muslinlaw02_QpJoined.mono_l k
  unfold muslinlaw02_QpJoined.f
  repeat' first
      | (with_reducible exact ih0 _ _ _ _)
      | (with_reducible exact ih1 _ _ _ _ _ _)
      | (with_reducible exact LeO.refl _)
      | (with_reducible exact LeO.none _)
      | (with_reducible refine LeO.ite ?_ ?_)
      | (with_reducible refine LeO.bind ?_ (fun _ => ?_))
      | exact ih0 _ _ _ _
      | exact ih1 _ _ _ _ _ _
      | exact LeO.none _
      | refine LeO.ite ?_ ?_
      | refine LeO.bind ?_ (fun _ => ?_)
set_option maxHeartbeats 8000000 in
set_option maxRecDepth 100000 in
theorem muslinlaw02_QpJoined.calls (k : Nat) (A0 : Option Addr) (c0 : Nat) (l0 : List ByteArray) (r : Bool) (w : World) (hGl : Glob w) (hr0 : Kd.C Kd.string w A0 l0.length l0) (hc0 : l0.length ≤ c0) (h : muslinlaw02_QpJoined.f k l0 = some r) :
    Calls Tryd.prog 8 #[.slice A0 l0.length c0] w fun e w' => e = .returned (.bool r) ∧ Below w.heap.size w w' := by
  have HGl := Aside0.mk hGl
  clear hGl
  have HR0 := Aside0.mk hr0
  have HC0 := Aside0.mk hc0
  clear hr0 hc0
  have HB := Aside0.mk (Below.refl w.heap.size w)
  have H : (if (l0.length : Int) > 30 then ((muslinlaw02_live.f).bind fun t151 => (some t151)) else (muslinlaw02_QpJoined.l0 k l0 (⟨#[]⟩ : ByteArray) (⟨#[]⟩ : ByteArray) 0)) = some r := h
  clear h
  by_cases c2 : (l0.length : Int) > 30
  · rw [if_pos c2] at H
    have c2b0 : decide (30 < (l0.length : Int)) = true := decide_eq_true c2
    have c2b1 : decide (30 < l0.length) = true := decide_eq_true (by omega)
    clear c2
    replace H := Option.bind_eq_some_iff.mp H
    obtain ⟨t151, A30, H⟩ := H
    replace H : (some t151) = some r := H
    have A3 := Aside0.mk A30
    clear A30
    obtain rfl := Option.some.inj H
    go_enter Tryd.func8, Tryd.ntmps8
    go_wp2_with (first | ((with_reducible refine gate_callee (f := 10) rfl ?_); refine goesL_ (some 12) rfl rfl Tryd.func10 (by kernel_rfl) rfl #[] rfl (by (try simp only [List.map_toArray, List.map_cons, List.map_nil]); first | done | rfl | (simp only [List.length_drop, List.length_take]; rfl)) ?_; (with_reducible refine (muslinlaw02_live.calls  t151 _ ?sideGl A3.out).mono ?_); (case sideGl => exact HGl.out.below (by repeat (first | (with_reducible first | exact HB.out | apply below_alloc | apply pw_below_drewN | apply below_drew1) | exact HB.out))); rintro e w4 ⟨rfl, hb⟩; refine ⟨_, rfl, ?_⟩; have n0_ := Aside0.mk (below_step (by repeat (first | (with_reducible first | exact HB.out | apply below_alloc | apply pw_below_drewN | apply below_drew1) | exact HB.out)) hb); clear HB; have HB := n0_; clear n0_; (try clear hb); (try clear hb2); (try clear hk); (try clear hi)))
    go_ret
    exact ⟨by first | rfl | (simp [errW_none, errW_some] <;> rfl) | (simp [*, errW_none, errW_some] <;> rfl), by repeat (first | (with_reducible first | exact HB.out | apply below_alloc | apply pw_below_drewN | apply below_drew1) | exact HB.out)⟩
  · rw [if_neg c2] at H
    have c2b0 : decide (30 < (l0.length : Int)) = false := decide_eq_false c2
    have c2b1 : decide (30 < l0.length) = false := decide_eq_false (by omega)
    clear c2
    have H' := Aside0.mk H
    clear H
    go_enter Tryd.func8, Tryd.ntmps8
    go_wp2
    go_loopg [3, 4, 5] k (fun kq v3 v4 v5 w' => ∃ (x3_1 : ByteArray) (x4_1 : ByteArray) (x5_1 : Int), v3 = .string x3_1 ∧ v4 = .string x4_1 ∧ v5 = .int .i64 x5_1 ∧ Aside0 (muslinlaw02_QpJoined.l0 kq l0 x3_1 x4_1 x5_1 = some r) ∧ Aside0 (kq ≤ k) ∧ Aside0 (Below w.heap.size w w'))
    case atStart => exact ⟨((⟨#[]⟩ : ByteArray)), ((⟨#[]⟩ : ByteArray)), (0), (by first | rfl | (simp; done) | (simp [*]; done)), (by first | rfl | (simp; done) | (simp [*]; done)), (by first | rfl | (simp; done) | (simp [*]; done)), H', ⟨Nat.le_refl _⟩, ⟨by repeat (first | (with_reducible first | exact HB.out | apply below_alloc | apply pw_below_drewN | apply below_drew1) | exact HB.out)⟩⟩
    case round =>
      clear H'
      try clear c1
      try clear c2
      try clear c2b0
      try clear c2b1
      try clear p2
      obtain ⟨x3_1, x4_1, x5_1, rfl, rfl, rfl, HA, HK1, HB⟩ := hrel
      cases gk with
      | zero => exact absurd HA.out (by simp [muslinlaw02_QpJoined.l0])
      | succ k1 =>
        have H := HA.out
        clear HA
        simp only [muslinlaw02_QpJoined.l0] at H
        by_cases c5 : x5_1 < (l0.length : Int)
        · rw [if_pos c5] at H
          have c5b0 : decide (x5_1 < (l0.length : Int)) = true := decide_eq_true c5
          clear c5
          by_cases c6 : 0 ≤ x5_1
          · rw [if_pos c6] at H
            have c6b0 : decide (0 ≤ x5_1) = true := decide_eq_true c6
            clear c6
            by_cases c7 : ((rdOf ByteArray.empty l0 x5_1).size : Int) > 100
            · rw [if_pos c7] at H
              have c7b0 : decide (100 < ((rdOf ByteArray.empty l0 x5_1).size : Int)) = true := decide_eq_true c7
              have c7b1 : decide (100 < (rdOf ByteArray.empty l0 x5_1).size) = true := decide_eq_true (by omega)
              clear c7
              replace H := Option.bind_eq_some_iff.mp H
              obtain ⟨t155, A80, H⟩ := H
              replace H : (some t155) = some r := H
              have A8 := Aside0.mk A80
              clear A80
              obtain rfl := Option.some.inj H
              have p154 : 0 ≤ (x5_1 : Int) := of_decide_eq_true (by first | (with_reducible assumption) | assumption)
              have q154 : x5_1 < (l0.length : Int) := of_decide_eq_true (by first | (with_reducible assumption) | assumption)
              obtain ⟨ad154, e154, hx154_0⟩ := Kd.at_string HR0.out x5_1 p154 q154
              cases e154
              replace hx154_0 := (HB.out.cell (World.block_lt_of_cell? w _ hx154_0)).trans hx154_0
              replace p154 := eq_true p154
              replace q154 := eq_true q154
              go_wp2_with (first | ((with_reducible refine gate_callee (f := 10) rfl ?_); refine goesL_ (some 26) rfl rfl Tryd.func10 (by kernel_rfl) rfl #[] rfl (by (try simp only [List.map_toArray, List.map_cons, List.map_nil]); first | done | rfl | (simp only [List.length_drop, List.length_take]; rfl)) ?_; (with_reducible refine (muslinlaw02_live.calls  t155 _ ?sideGl A8.out).mono ?_); (case sideGl => exact HGl.out.below (by repeat (first | (with_reducible first | exact HB.out | apply below_alloc | apply pw_below_drewN | apply below_drew1) | exact HB.out))); rintro e w9 ⟨rfl, hb⟩; refine ⟨_, rfl, ?_⟩; have n0_ := Aside0.mk (below_step (by repeat (first | (with_reducible first | exact HB.out | apply below_alloc | apply pw_below_drewN | apply below_drew1) | exact HB.out)) hb); clear HB; have HB := n0_; clear n0_; (try clear hb); (try clear hb2); (try clear hk); (try clear hi)))
              go_ret
              exact ⟨by first | rfl | (simp [errW_none, errW_some] <;> rfl) | (simp [*, errW_none, errW_some] <;> rfl), by repeat (first | (with_reducible first | exact HB.out | apply below_alloc | apply pw_below_drewN | apply below_drew1) | exact HB.out)⟩
            · rw [if_neg c7] at H
              have c7b0 : decide (100 < ((rdOf ByteArray.empty l0 x5_1).size : Int)) = false := decide_eq_false c7
              have c7b1 : decide (100 < (rdOf ByteArray.empty l0 x5_1).size) = false := decide_eq_false (by omega)
              clear c7
              have H' := Aside0.mk H
              clear H
              have p154 : 0 ≤ (x5_1 : Int) := of_decide_eq_true (by first | (with_reducible assumption) | assumption)
              have q154 : x5_1 < (l0.length : Int) := of_decide_eq_true (by first | (with_reducible assumption) | assumption)
              obtain ⟨ad154, e154, hx154_0⟩ := Kd.at_string HR0.out x5_1 p154 q154
              cases e154
              replace hx154_0 := (HB.out.cell (World.block_lt_of_cell? w _ hx154_0)).trans hx154_0
              replace p154 := eq_true p154
              replace q154 := eq_true q154
              go_wp2
              go_loopg [7] k1 (fun kq v7 w' => ∃ (x7_2 : Int), v7 = .int .i64 x7_2 ∧ Aside0 (muslinlaw02_QpJoined.l1 kq l0 x3_1 x4_1 x5_1 (rdOf ByteArray.empty l0 x5_1) x7_2 = some r) ∧ Aside0 (kq ≤ k1) ∧ Aside0 (Below w.heap.size w w'))
              case atStart => exact ⟨(0), (by first | rfl | (simp; done) | (simp [*]; done)), H', ⟨Nat.le_refl _⟩, ⟨by repeat (first | (with_reducible first | exact HB.out | apply below_alloc | apply pw_below_drewN | apply below_drew1) | exact HB.out)⟩⟩
              case round =>
                clear H'
                try clear c1
                try clear p1
                try clear q1
                try clear hx1
                try clear c2
                try clear c2b0
                try clear c2b1
                try clear p2
                try clear c5
                try clear c5b0
                try clear c6
                try clear c6b0
                try clear c7
                try clear c7b0
                try clear c7b1
                try clear c8
                try clear hx154_0
                try clear p154
                try clear p2
                try clear q154
                obtain ⟨x7_2, rfl, HA, HK2, HB⟩ := hrel
                cases gk with
                | zero => exact absurd HA.out (by simp [muslinlaw02_QpJoined.l1])
                | succ k2 =>
                  have H := HA.out
                  clear HA
                  simp only [muslinlaw02_QpJoined.l1] at H
                  by_cases c10 : x7_2 < ((rdOf ByteArray.empty l0 x5_1).size : Int)
                  · rw [if_pos c10] at H
                    have c10b0 : decide (x7_2 < ((rdOf ByteArray.empty l0 x5_1).size : Int)) = true := decide_eq_true c10
                    clear c10
                    by_cases c11 : 0 ≤ x7_2
                    · rw [if_pos c11] at H
                      have c11b0 : decide (0 ≤ x7_2) = true := decide_eq_true c11
                      clear c11
                      by_cases c13 : (bt (rdOf ByteArray.empty l0 x5_1) x7_2) = 10
                      · rw [if_pos c13] at H
                        have c13b0 : ((bt (rdOf ByteArray.empty l0 x5_1) x7_2) == 10) = true := beq_iff_eq.mpr c13
                        have c13b1 : ((bt (rdOf ByteArray.empty l0 x5_1) x7_2) != 10) = false := bne_eq_false_iff_eq.mpr c13
                        clear c13
                        replace H := Option.bind_eq_some_iff.mp H
                        obtain ⟨t156, A140, H⟩ := H
                        replace H : (some t156) = some r := H
                        have A14 := Aside0.mk A140
                        clear A140
                        obtain rfl := Option.some.inj H
                        have p12 : 0 ≤ (x7_2 : Int) := of_decide_eq_true (by first | (with_reducible assumption) | assumption)
                        have q12 : x7_2 < ((rdOf ByteArray.empty l0 x5_1).size : Int) := of_decide_eq_true (by first | (with_reducible assumption) | assumption)
                        have hx12 := bt_at (rdOf ByteArray.empty l0 x5_1) x7_2
                        replace p12 := eq_true p12
                        replace q12 := eq_true q12
                        go_wp2_with (first | ((with_reducible refine gate_callee (f := 10) rfl ?_); refine goesL_ (some 43) rfl rfl Tryd.func10 (by kernel_rfl) rfl #[] rfl (by (try simp only [List.map_toArray, List.map_cons, List.map_nil]); first | done | rfl | (simp only [List.length_drop, List.length_take]; rfl)) ?_; (with_reducible refine (muslinlaw02_live.calls  t156 _ ?sideGl A14.out).mono ?_); (case sideGl => exact HGl.out.below (by repeat (first | (with_reducible first | exact HB.out | apply below_alloc | apply pw_below_drewN | apply below_drew1) | exact HB.out))); rintro e w15 ⟨rfl, hb⟩; refine ⟨_, rfl, ?_⟩; have n0_ := Aside0.mk (below_step (by repeat (first | (with_reducible first | exact HB.out | apply below_alloc | apply pw_below_drewN | apply below_drew1) | exact HB.out)) hb); clear HB; have HB := n0_; clear n0_; (try clear hb); (try clear hb2); (try clear hk); (try clear hi)))
                        go_ret
                        exact ⟨by first | rfl | (simp [errW_none, errW_some] <;> rfl) | (simp [*, errW_none, errW_some] <;> rfl), by repeat (first | (with_reducible first | exact HB.out | apply below_alloc | apply pw_below_drewN | apply below_drew1) | exact HB.out)⟩
                      · rw [if_neg c13] at H
                        have c13b0 : ((bt (rdOf ByteArray.empty l0 x5_1) x7_2) == 10) = false := beq_eq_false_iff_ne.mpr c13
                        have c13b1 : ((bt (rdOf ByteArray.empty l0 x5_1) x7_2) != 10) = true := bne_iff_ne.mpr c13
                        by_cases c17 : (bt (rdOf ByteArray.empty l0 x5_1) x7_2) = 13
                        · rw [if_pos c17] at H
                          have c17b0 : ((bt (rdOf ByteArray.empty l0 x5_1) x7_2) == 13) = true := beq_iff_eq.mpr c17
                          have c17b1 : ((bt (rdOf ByteArray.empty l0 x5_1) x7_2) != 13) = false := bne_eq_false_iff_eq.mpr c17
                          clear c17
                          replace H := Option.bind_eq_some_iff.mp H
                          obtain ⟨t157, A180, H⟩ := H
                          replace H : (some t157) = some r := H
                          have A18 := Aside0.mk A180
                          clear A180
                          obtain rfl := Option.some.inj H
                          have p12 : 0 ≤ (x7_2 : Int) := of_decide_eq_true (by first | (with_reducible assumption) | assumption)
                          have q12 : x7_2 < ((rdOf ByteArray.empty l0 x5_1).size : Int) := of_decide_eq_true (by first | (with_reducible assumption) | assumption)
                          have hx12 := bt_at (rdOf ByteArray.empty l0 x5_1) x7_2
                          replace p12 := eq_true p12
                          replace q12 := eq_true q12
                          have p16 : 0 ≤ (x7_2 : Int) := of_decide_eq_true (by first | (with_reducible assumption) | assumption)
                          have q16 : x7_2 < ((rdOf ByteArray.empty l0 x5_1).size : Int) := of_decide_eq_true (by first | (with_reducible assumption) | assumption)
                          have hx16 := bt_at (rdOf ByteArray.empty l0 x5_1) x7_2
                          replace p16 := eq_true p16
                          replace q16 := eq_true q16
                          go_wp2_with (first | ((with_reducible refine gate_callee (f := 10) rfl ?_); refine goesL_ (some 43) rfl rfl Tryd.func10 (by kernel_rfl) rfl #[] rfl (by (try simp only [List.map_toArray, List.map_cons, List.map_nil]); first | done | rfl | (simp only [List.length_drop, List.length_take]; rfl)) ?_; (with_reducible refine (muslinlaw02_live.calls  t157 _ ?sideGl A18.out).mono ?_); (case sideGl => exact HGl.out.below (by repeat (first | (with_reducible first | exact HB.out | apply below_alloc | apply pw_below_drewN | apply below_drew1) | exact HB.out))); rintro e w19 ⟨rfl, hb⟩; refine ⟨_, rfl, ?_⟩; have n0_ := Aside0.mk (below_step (by repeat (first | (with_reducible first | exact HB.out | apply below_alloc | apply pw_below_drewN | apply below_drew1) | exact HB.out)) hb); clear HB; have HB := n0_; clear n0_; (try clear hb); (try clear hb2); (try clear hk); (try clear hi)))
                          go_ret
                          exact ⟨by first | rfl | (simp [errW_none, errW_some] <;> rfl) | (simp [*, errW_none, errW_some] <;> rfl), by repeat (first | (with_reducible first | exact HB.out | apply below_alloc | apply pw_below_drewN | apply below_drew1) | exact HB.out)⟩
                        · rw [if_neg c17] at H
                          have c17b0 : ((bt (rdOf ByteArray.empty l0 x5_1) x7_2) == 13) = false := beq_eq_false_iff_ne.mpr c17
                          have c17b1 : ((bt (rdOf ByteArray.empty l0 x5_1) x7_2) != 13) = true := bne_iff_ne.mpr c17
                          have H' := Aside0.mk H
                          clear H
                          have p12 : 0 ≤ (x7_2 : Int) := of_decide_eq_true (by first | (with_reducible assumption) | assumption)
                          have q12 : x7_2 < ((rdOf ByteArray.empty l0 x5_1).size : Int) := of_decide_eq_true (by first | (with_reducible assumption) | assumption)
                          have hx12 := bt_at (rdOf ByteArray.empty l0 x5_1) x7_2
                          replace p12 := eq_true p12
                          replace q12 := eq_true q12
                          have p16 : 0 ≤ (x7_2 : Int) := of_decide_eq_true (by first | (with_reducible assumption) | assumption)
                          have q16 : x7_2 < ((rdOf ByteArray.empty l0 x5_1).size : Int) := of_decide_eq_true (by first | (with_reducible assumption) | assumption)
                          have hx16 := bt_at (rdOf ByteArray.empty l0 x5_1) x7_2
                          replace p16 := eq_true p16
                          replace q16 := eq_true q16
                          go_wp2
                          go_roundg k2
                          case measure => have := HK1.out; have := HK2.out; omega
                          case rel => exact ⟨(wrap64 (x7_2 + 1)), (by first | rfl | (simp; done) | (simp [*]; done)), H', ⟨by have := HK1.out; have := HK2.out; omega⟩, ⟨by repeat (first | (with_reducible first | exact HB.out | apply below_alloc | apply pw_below_drewN | apply below_drew1) | exact HB.out)⟩⟩
                    · rw [if_neg c11] at H
                      exact absurd H (by simp)
                  · rw [if_neg c10] at H
                    have c10b0 : decide (x7_2 < ((rdOf ByteArray.empty l0 x5_1).size : Int)) = false := decide_eq_false c10
                    clear c10
                    by_cases c20 : (rdOf ByteArray.empty l0 x5_1).size + 1 ≤ 9223372036854775807
                    · rw [if_pos c20] at H
                      have c20b0 := eq_true c20
                      have c20b1 : decide ((rdOf ByteArray.empty l0 x5_1).size + 1 ≤ 9223372036854775807) = true := decide_eq_true c20
                      try have c20b2 : (9223372036854775807 < (rdOf ByteArray.empty l0 x5_1).size + 1) = False := eq_false (Nat.not_lt.2 c20)
                      try (have c20b3 := c20; simp only [ByteArray.size_append] at c20b3)
                      replace H := Option.bind_eq_some_iff.mp H
                      obtain ⟨t158, A210, H⟩ := H
                      replace H : (if t158.toList = ([] : List UInt8) then ((muslinlaw02_live.f).bind fun t159 => (some t159)) else (if 0 ≤ (wrap64 ((t158.size : Int) - 1)) then (if (wrap64 ((t158.size : Int) - 1)) < (t158.size : Int) then (if (bt t158 (wrap64 ((t158.size : Int) - 1))) = 10 then (if x3_1.size + (rdOf ByteArray.empty l0 x5_1).size ≤ 9223372036854775807 then (if (x3_1 ++ (rdOf ByteArray.empty l0 x5_1)).size + 1 ≤ 9223372036854775807 then (if x4_1.size + t158.size ≤ 9223372036854775807 then (muslinlaw02_QpJoined.l0 k2 l0 ((x3_1 ++ (rdOf ByteArray.empty l0 x5_1)) ++ (⟨#[10]⟩ : ByteArray)) (x4_1 ++ t158) (wrap64 (x5_1 + 1))) else (none)) else (none)) else (none)) else ((muslinlaw02_live.f).bind fun t160 => (some t160))) else (none)) else (none))) = some r := H
                      have A21 := Aside0.mk A210
                      clear A210
                      by_cases c22 : t158.toList = ([] : List UInt8)
                      · rw [if_pos c22] at H
                        have c22b0 : (t158.toList == ([] : List UInt8)) = true := beq_iff_eq.mpr c22
                        have c22b1 : (t158.toList != ([] : List UInt8)) = false := bne_eq_false_iff_eq.mpr c22
                        clear c22
                        replace H := Option.bind_eq_some_iff.mp H
                        obtain ⟨t159, A230, H⟩ := H
                        replace H : (some t159) = some r := H
                        have A23 := Aside0.mk A230
                        clear A230
                        obtain rfl := Option.some.inj H
                        go_wp2_with (first | ((with_reducible refine gate_callee (f := 11) rfl ?_); refine goesL_ (some 46) rfl rfl Tryd.func11 (by kernel_rfl) rfl #[.string ((rdOf ByteArray.empty l0 x5_1) ++ (⟨#[10]⟩ : ByteArray))] rfl (by (try simp only [List.map_toArray, List.map_cons, List.map_nil]); first | done | rfl | (simp only [List.length_drop, List.length_take]; rfl)) ?_; (with_reducible refine (qp_Decode.calls ((rdOf ByteArray.empty l0 x5_1) ++ (⟨#[10]⟩ : ByteArray)) t158 _ ?sideGl A21.out).mono ?_); (case sideGl => exact HGl.out.below (by repeat (first | (with_reducible first | exact HB.out | apply below_alloc | apply pw_below_drewN | apply below_drew1) | exact HB.out))); rintro e w24 ⟨rfl, hb⟩; refine ⟨_, rfl, ?_⟩; have n0_ := Aside0.mk (below_step (by repeat (first | (with_reducible first | exact HB.out | apply below_alloc | apply pw_below_drewN | apply below_drew1) | exact HB.out)) hb); clear HB; have HB := n0_; clear n0_; (try clear hb); (try clear hb2); (try clear hk); (try clear hi)) | ((with_reducible refine gate_callee (f := 10) rfl ?_); refine goesL_ (some 57) rfl rfl Tryd.func10 (by kernel_rfl) rfl #[] rfl (by (try simp only [List.map_toArray, List.map_cons, List.map_nil]); first | done | rfl | (simp only [List.length_drop, List.length_take]; rfl)) ?_; (with_reducible refine (muslinlaw02_live.calls  t159 _ ?sideGl A23.out).mono ?_); (case sideGl => exact HGl.out.below (by repeat (first | (with_reducible first | exact HB.out | apply below_alloc | apply pw_below_drewN | apply below_drew1) | exact HB.out))); rintro e w25 ⟨rfl, hb⟩; refine ⟨_, rfl, ?_⟩; have n0_ := Aside0.mk (below_step (by repeat (first | (with_reducible first | exact HB.out | apply below_alloc | apply pw_below_drewN | apply below_drew1) | exact HB.out)) hb); clear HB; have HB := n0_; clear n0_; (try clear hb); (try clear hb2); (try clear hk); (try clear hi)))
                        go_ret
                        exact ⟨by first | rfl | (simp [errW_none, errW_some] <;> rfl) | (simp [*, errW_none, errW_some] <;> rfl), by repeat (first | (with_reducible first | exact HB.out | apply below_alloc | apply pw_below_drewN | apply below_drew1) | exact HB.out)⟩
                      · rw [if_neg c22] at H
                        have c22b0 : (t158.toList == ([] : List UInt8)) = false := beq_eq_false_iff_ne.mpr c22
                        have c22b1 : (t158.toList != ([] : List UInt8)) = true := bne_iff_ne.mpr c22
                        obtain ⟨ji26, hji26⟩ : ∃ j_ : Int, (wrap64 ((t158.size : Int) - 1)) = j_ := ⟨_, rfl⟩
                        replace H : (if 0 ≤ (ji26) then (if (ji26) < (t158.size : Int) then (if (bt t158 (ji26)) = 10 then (if x3_1.size + (rdOf ByteArray.empty l0 x5_1).size ≤ 9223372036854775807 then (if (x3_1 ++ (rdOf ByteArray.empty l0 x5_1)).size + 1 ≤ 9223372036854775807 then (if x4_1.size + t158.size ≤ 9223372036854775807 then (muslinlaw02_QpJoined.l0 k2 l0 ((x3_1 ++ (rdOf ByteArray.empty l0 x5_1)) ++ (⟨#[10]⟩ : ByteArray)) (x4_1 ++ t158) (wrap64 (x5_1 + 1))) else (none)) else (none)) else (none)) else ((muslinlaw02_live.f).bind fun t160 => (some t160))) else (none)) else (none)) = some r := by first | (rw [hji26] at H; exact H) | (simp only [hji26] at H ⊢; exact H)
                        (try rw [hji26] at A21)
                        have hji26w : (IntKind.i64.wrap ((t158.size : Int) - 1)) = ji26 := (i64_w _).trans hji26
                        by_cases c27 : 0 ≤ (ji26)
                        · rw [if_pos c27] at H
                          have c27b0 : decide (0 ≤ (ji26)) = true := decide_eq_true c27
                          clear c27
                          by_cases c28 : (ji26) < (t158.size : Int)
                          · rw [if_pos c28] at H
                            have c28b0 : decide ((ji26) < (t158.size : Int)) = true := decide_eq_true c28
                            clear c28
                            by_cases c30 : (bt t158 (ji26)) = 10
                            · rw [if_pos c30] at H
                              have c30b0 : ((bt t158 (ji26)) == 10) = true := beq_iff_eq.mpr c30
                              have c30b1 : ((bt t158 (ji26)) != 10) = false := bne_eq_false_iff_eq.mpr c30
                              clear c30
                              by_cases c31 : x3_1.size + (rdOf ByteArray.empty l0 x5_1).size ≤ 9223372036854775807
                              · rw [if_pos c31] at H
                                have c31b0 := eq_true c31
                                have c31b1 : decide (x3_1.size + (rdOf ByteArray.empty l0 x5_1).size ≤ 9223372036854775807) = true := decide_eq_true c31
                                try have c31b2 : (9223372036854775807 < x3_1.size + (rdOf ByteArray.empty l0 x5_1).size) = False := eq_false (Nat.not_lt.2 c31)
                                try (have c31b3 := c31; simp only [ByteArray.size_append] at c31b3)
                                by_cases c32 : (x3_1 ++ (rdOf ByteArray.empty l0 x5_1)).size + 1 ≤ 9223372036854775807
                                · rw [if_pos c32] at H
                                  have c32b0 := eq_true c32
                                  have c32b1 : decide ((x3_1 ++ (rdOf ByteArray.empty l0 x5_1)).size + 1 ≤ 9223372036854775807) = true := decide_eq_true c32
                                  try have c32b2 : (9223372036854775807 < (x3_1 ++ (rdOf ByteArray.empty l0 x5_1)).size + 1) = False := eq_false (Nat.not_lt.2 c32)
                                  try (have c32b3 := c32; simp only [ByteArray.size_append] at c32b3)
                                  by_cases c33 : x4_1.size + t158.size ≤ 9223372036854775807
                                  · rw [if_pos c33] at H
                                    have c33b0 := eq_true c33
                                    have c33b1 : decide (x4_1.size + t158.size ≤ 9223372036854775807) = true := decide_eq_true c33
                                    try have c33b2 : (9223372036854775807 < x4_1.size + t158.size) = False := eq_false (Nat.not_lt.2 c33)
                                    try (have c33b3 := c33; simp only [ByteArray.size_append] at c33b3)
                                    have H' := Aside0.mk H
                                    clear H
                                    go_wp2_with (first | ((with_reducible refine gate_callee (f := 11) rfl ?_); refine goesL_ (some 46) rfl rfl Tryd.func11 (by kernel_rfl) rfl #[.string ((rdOf ByteArray.empty l0 x5_1) ++ (⟨#[10]⟩ : ByteArray))] rfl (by (try simp only [List.map_toArray, List.map_cons, List.map_nil]); first | done | rfl | (simp only [List.length_drop, List.length_take]; rfl)) ?_; (with_reducible refine (qp_Decode.calls ((rdOf ByteArray.empty l0 x5_1) ++ (⟨#[10]⟩ : ByteArray)) t158 _ ?sideGl A21.out).mono ?_); (case sideGl => exact HGl.out.below (by repeat (first | (with_reducible first | exact HB.out | apply below_alloc | apply pw_below_drewN | apply below_drew1) | exact HB.out))); rintro e w34 ⟨rfl, hb⟩; refine ⟨_, rfl, ?_⟩; have n0_ := Aside0.mk (below_step (by repeat (first | (with_reducible first | exact HB.out | apply below_alloc | apply pw_below_drewN | apply below_drew1) | exact HB.out)) hb); clear HB; have HB := n0_; clear n0_; (try clear hb); (try clear hb2); (try clear hk); (try clear hi); have p29 : 0 ≤ ((ji26) : Int) := of_decide_eq_true (by first | (with_reducible assumption) | assumption); have q29 : (ji26) < (t158.size : Int) := of_decide_eq_true (by first | (with_reducible assumption) | assumption); have hx29 := bt_at t158 (ji26); replace p29 := eq_true p29; replace q29 := eq_true q29))
                                    go_roundg k2
                                    case measure => have := HK1.out; have := HK2.out; omega
                                    case rel => exact ⟨((x3_1 ++ (rdOf ByteArray.empty l0 x5_1)) ++ (⟨#[10]⟩ : ByteArray)), (x4_1 ++ t158), (wrap64 (x5_1 + 1)), (by first | rfl | (simp; done) | (simp [*]; done)), (by first | rfl | (simp; done) | (simp [*]; done)), (by first | rfl | (simp; done) | (simp [*]; done)), H', ⟨by have := HK1.out; have := HK2.out; omega⟩, ⟨by repeat (first | (with_reducible first | exact HB.out | apply below_alloc | apply pw_below_drewN | apply below_drew1) | exact HB.out)⟩⟩
                                  · rw [if_neg c33] at H
                                    exact absurd H (by simp)
                                · rw [if_neg c32] at H
                                  exact absurd H (by simp)
                              · rw [if_neg c31] at H
                                exact absurd H (by simp)
                            · rw [if_neg c30] at H
                              have c30b0 : ((bt t158 (ji26)) == 10) = false := beq_eq_false_iff_ne.mpr c30
                              have c30b1 : ((bt t158 (ji26)) != 10) = true := bne_iff_ne.mpr c30
                              replace H := Option.bind_eq_some_iff.mp H
                              obtain ⟨t160, A350, H⟩ := H
                              replace H : (some t160) = some r := H
                              have A35 := Aside0.mk A350
                              clear A350
                              obtain rfl := Option.some.inj H
                              go_wp2_with (first | ((with_reducible refine gate_callee (f := 11) rfl ?_); refine goesL_ (some 46) rfl rfl Tryd.func11 (by kernel_rfl) rfl #[.string ((rdOf ByteArray.empty l0 x5_1) ++ (⟨#[10]⟩ : ByteArray))] rfl (by (try simp only [List.map_toArray, List.map_cons, List.map_nil]); first | done | rfl | (simp only [List.length_drop, List.length_take]; rfl)) ?_; (with_reducible refine (qp_Decode.calls ((rdOf ByteArray.empty l0 x5_1) ++ (⟨#[10]⟩ : ByteArray)) t158 _ ?sideGl A21.out).mono ?_); (case sideGl => exact HGl.out.below (by repeat (first | (with_reducible first | exact HB.out | apply below_alloc | apply pw_below_drewN | apply below_drew1) | exact HB.out))); rintro e w36 ⟨rfl, hb⟩; refine ⟨_, rfl, ?_⟩; have n0_ := Aside0.mk (below_step (by repeat (first | (with_reducible first | exact HB.out | apply below_alloc | apply pw_below_drewN | apply below_drew1) | exact HB.out)) hb); clear HB; have HB := n0_; clear n0_; (try clear hb); (try clear hb2); (try clear hk); (try clear hi); have p29 : 0 ≤ ((ji26) : Int) := of_decide_eq_true (by first | (with_reducible assumption) | assumption); have q29 : (ji26) < (t158.size : Int) := of_decide_eq_true (by first | (with_reducible assumption) | assumption); have hx29 := bt_at t158 (ji26); replace p29 := eq_true p29; replace q29 := eq_true q29) | ((with_reducible refine gate_callee (f := 10) rfl ?_); refine goesL_ (some 57) rfl rfl Tryd.func10 (by kernel_rfl) rfl #[] rfl (by (try simp only [List.map_toArray, List.map_cons, List.map_nil]); first | done | rfl | (simp only [List.length_drop, List.length_take]; rfl)) ?_; (with_reducible refine (muslinlaw02_live.calls  t160 _ ?sideGl A35.out).mono ?_); (case sideGl => exact HGl.out.below (by repeat (first | (with_reducible first | exact HB.out | apply below_alloc | apply pw_below_drewN | apply below_drew1) | exact HB.out))); rintro e w37 ⟨rfl, hb⟩; refine ⟨_, rfl, ?_⟩; have n0_ := Aside0.mk (below_step (by repeat (first | (with_reducible first | exact HB.out | apply below_alloc | apply pw_below_drewN | apply below_drew1) | exact HB.out)) hb); clear HB; have HB := n0_; clear n0_; (try clear hb); (try clear hb2); (try clear hk); (try clear hi)))
                              go_ret
                              exact ⟨by first | rfl | (simp [errW_none, errW_some] <;> rfl) | (simp only [← hji26]; first | rfl | (simp [errW_none, errW_some] <;> rfl)) | (simp [*, errW_none, errW_some] <;> rfl), by repeat (first | (with_reducible first | exact HB.out | apply below_alloc | apply pw_below_drewN | apply below_drew1) | exact HB.out)⟩
                          · rw [if_neg c28] at H
                            exact absurd H (by simp)
                        · rw [if_neg c27] at H
                          exact absurd H (by simp)
                    · rw [if_neg c20] at H
                      exact absurd H (by simp)
          · rw [if_neg c6] at H
            exact absurd H (by simp)
        · rw [if_neg c5] at H
          have c5b0 : decide (x5_1 < (l0.length : Int)) = false := decide_eq_false c5
          clear c5
          replace H := Option.bind_eq_some_iff.mp H
          obtain ⟨t152, A380, H⟩ := H
          replace H : (if t152.toList = x4_1.toList then ((muslinlaw02_live.f).bind fun t153 => (some t153)) else (some false)) = some r := H
          have A38 := Aside0.mk A380
          clear A380
          by_cases c39 : t152.toList = x4_1.toList
          · rw [if_pos c39] at H
            have c39b0 : (t152.toList == x4_1.toList) = true := beq_iff_eq.mpr c39
            have c39b1 : (t152.toList != x4_1.toList) = false := bne_eq_false_iff_eq.mpr c39
            clear c39
            replace H := Option.bind_eq_some_iff.mp H
            obtain ⟨t153, A400, H⟩ := H
            replace H : (some t153) = some r := H
            have A40 := Aside0.mk A400
            clear A400
            obtain rfl := Option.some.inj H
            go_wp2_with (first | ((with_reducible refine gate_callee (f := 11) rfl ?_); refine goesL_ (some 66) rfl rfl Tryd.func11 (by kernel_rfl) rfl #[.string x3_1] rfl (by (try simp only [List.map_toArray, List.map_cons, List.map_nil]); first | done | rfl | (simp only [List.length_drop, List.length_take]; rfl)) ?_; (with_reducible refine (qp_Decode.calls x3_1 t152 _ ?sideGl A38.out).mono ?_); (case sideGl => exact HGl.out.below (by repeat (first | (with_reducible first | exact HB.out | apply below_alloc | apply pw_below_drewN | apply below_drew1) | exact HB.out))); rintro e w41 ⟨rfl, hb⟩; refine ⟨_, rfl, ?_⟩; have n0_ := Aside0.mk (below_step (by repeat (first | (with_reducible first | exact HB.out | apply below_alloc | apply pw_below_drewN | apply below_drew1) | exact HB.out)) hb); clear HB; have HB := n0_; clear n0_; (try clear hb); (try clear hb2); (try clear hk); (try clear hi)) | (go_at_call 10; (with_reducible refine (muslinlaw02_live.calls  t153 _ ?sideGl A40.out).mono ?_); (case sideGl => exact HGl.out.below (by repeat (first | (with_reducible first | exact HB.out | apply below_alloc | apply pw_below_drewN | apply below_drew1) | exact HB.out))); rintro e w42 ⟨rfl, hb⟩; have n0_ := Aside0.mk (below_step (by repeat (first | (with_reducible first | exact HB.out | apply below_alloc | apply pw_below_drewN | apply below_drew1) | exact HB.out)) hb); clear HB; have HB := n0_; clear n0_; (try clear hb); (try clear hb2); (try clear hk); (try clear hi)))
            go_ret
            exact ⟨by first | rfl | (simp [errW_none, errW_some] <;> rfl) | (simp [*, errW_none, errW_some] <;> rfl), by repeat (first | (with_reducible first | exact HB.out | apply below_alloc | apply pw_below_drewN | apply below_drew1) | exact HB.out)⟩
          · rw [if_neg c39] at H
            have c39b0 : (t152.toList == x4_1.toList) = false := beq_eq_false_iff_ne.mpr c39
            have c39b1 : (t152.toList != x4_1.toList) = true := bne_iff_ne.mpr c39
            obtain rfl := Option.some.inj H
            go_wp2_with (first | ((with_reducible refine gate_callee (f := 11) rfl ?_); refine goesL_ (some 66) rfl rfl Tryd.func11 (by kernel_rfl) rfl #[.string x3_1] rfl (by (try simp only [List.map_toArray, List.map_cons, List.map_nil]); first | done | rfl | (simp only [List.length_drop, List.length_take]; rfl)) ?_; (with_reducible refine (qp_Decode.calls x3_1 t152 _ ?sideGl A38.out).mono ?_); (case sideGl => exact HGl.out.below (by repeat (first | (with_reducible first | exact HB.out | apply below_alloc | apply pw_below_drewN | apply below_drew1) | exact HB.out))); rintro e w43 ⟨rfl, hb⟩; refine ⟨_, rfl, ?_⟩; have n0_ := Aside0.mk (below_step (by repeat (first | (with_reducible first | exact HB.out | apply below_alloc | apply pw_below_drewN | apply below_drew1) | exact HB.out)) hb); clear HB; have HB := n0_; clear n0_; (try clear hb); (try clear hb2); (try clear hk); (try clear hi)))
            go_ret
            exact ⟨by first | rfl | (simp [errW_none, errW_some] <;> rfl) | (simp [*, errW_none, errW_some] <;> rfl), by repeat (first | (with_reducible first | exact HB.out | apply below_alloc | apply pw_below_drewN | apply below_drew1) | exact HB.out)⟩

end Go.Proofs.YtjmeoplajfmieaaDoor.P
