/- Parts of the proof of the law AddrGood, in one text: P12, P7, Pure08b, Pure08e, Laid08. -/
import Derived.Test.YtpcncpegbboljaaGreatDoorMgAddrGood2
import Derived.Test.YtpcncpegbboljaaGreatDoorRows
import Derived.Lay
import Derived.PinnedBridge
import Derived.Lib.LaidU8
import Derived.Stop.LaidErr
import Derived.LaidMore
import Derived.ProofKit
import Derived.HandedShaped
import Derived.Handed
set_option linter.unusedVariables false
set_option linter.unusedSimpArgs false
namespace Go.Proofs.YtpcncpegbboljaaGreatDoor.P
open Go.RowKit Go.Proofs.YtpcncpegbboljaaGreatDoorW.PrintWords Go.Proofs.YtpcncpegbboljaaGreatDoorW.PrintLast Go.Proofs.YtpcncpegbboljaaGreatDoorW.PrintMore
attribute [local go_sem] max2_int min2_int max_two min_two max_three min_three max_four min_four
set_option linter.unusedVariables false
set_option linter.unusedSimpArgs false
mutual
def muslinlaw08_AddrGood.l0 : Nat → List (S32) → Int → Option (Bool)
  | 0, _, _ => none
  | k + 1, x3, x4 => if x4 < (x3.length : Int) then (if 0 ≤ x4 then ((addr_Good.f ((rd_T32 x3 x4).f1)).bind fun t306 => (if t306 = true then (muslinlaw08_AddrGood.j1 k x3 x4 false) else (if ((rd_T32 x3 x4).f1).toList = ([] : List UInt8) then (muslinlaw08_AddrGood.j1 k x3 x4 (((rd_T32 x3 x4).f0).toList == ([] : List UInt8))) else (muslinlaw08_AddrGood.j1 k x3 x4 true)))) else (none)) else ((muslinlaw08_live.f k).bind fun t304 => (some t304))
def muslinlaw08_AddrGood.j1 : Nat → List (S32) → Int → Bool → Option (Bool)
  | 0, _, _, _ => none
  | k + 1, x3, x4, x39 => if x39 = true then (some false) else (if 0 ≤ x4 then (if x4 < (x3.length : Int) then ((chars_Valid.f ((rd_T32 x3 x4).f0)).bind fun t310 => (if t310.toList = ((rd_T32 x3 x4).f0).toList then (muslinlaw08_AddrGood.l0 k x3 (wrap64 (x4 + 1))) else (some false))) else (none)) else (none))
end
def muslinlaw08_AddrGood.f (k : Nat) (a0 : ByteArray) : Option (Bool) := (muslinlaw08_short.f a0).bind fun t299 => (if t299 = true then ((addr_Parse.f a0).bind fun t301 => (muslinlaw08_AddrGood.l0 k t301 0)) else ((muslinlaw08_live.f k).bind fun t300 => (some t300)))
def muslinlaw08_AddrGood.T9 : Bool × List (List Nat × List Nat) := (true, [([], []), ([], []), ([0, 1], [0, 1]), ([2], [2]), ([3], [3]), ([4], [4]), ([], []), ([], []), ([6, 7], [6, 7]), ([8], [8]), ([9], [9]), ([5, 10], [5, 10])])
def muslinlaw08_AddrGood.B9 : List Nat := [0, 0, 3, 7, 15, 31, 0, 0, 192, 448, 960, 2047]
theorem muslinlaw08_AddrGood.tab9 : rtab .any (opsOf Tryz.f6 9) = muslinlaw08_AddrGood.T9 := by kernel_rfl
theorem muslinlaw08_AddrGood.bits9 : waitsOk muslinlaw08_AddrGood.T9.2 muslinlaw08_AddrGood.B9 = true := by kernel_rfl
set_option maxHeartbeats 8000000 in
set_option maxRecDepth 100000 in
theorem muslinlaw08_AddrGood.calls (k : Nat) (a0 : ByteArray) (r : Bool) (w : World) (hGl : Glob w) (h : muslinlaw08_AddrGood.f k a0 = some r) :
    Calls Tryz.prog 6 #[.string a0] w fun e w' => e = .returned (.bool r) ∧ Below w.heap.size w w' := by
  have HGl := Aside0.mk hGl; clear hGl; have HB := Aside0.mk (Below.refl w.heap.size w); have H : ((muslinlaw08_short.f a0).bind fun t299 => (if t299 = true then ((addr_Parse.f a0).bind fun t301 => (muslinlaw08_AddrGood.l0 k t301 0)) else ((muslinlaw08_live.f k).bind fun t300 => (some t300)))) = some r := h; clear h; replace H := Option.bind_eq_some_iff.mp H; obtain ⟨t299, A20, H⟩ := H; replace H : (if t299 = true then ((addr_Parse.f a0).bind fun t301 => (muslinlaw08_AddrGood.l0 k t301 0)) else ((muslinlaw08_live.f k).bind fun t300 => (some t300))) = some r := H; have A2 := Aside0.mk A20; clear A20
  by_cases c3 : t299 = true
  case neg =>
    replace c3 := Bool.eq_false_iff.mpr c3; subst c3
    have H1 : ((muslinlaw08_live.f k).bind fun t300 => (some t300)) = some r := by rw [if_neg (show ¬ (false = true) by decide)] at H; exact H
    clear H; have H := H1; clear H1; replace H := Option.bind_eq_some_iff.mp H; obtain ⟨t300, A280, H⟩ := H; replace H : (some t300) = some r := H; have A28 := Aside0.mk A280; clear A280; obtain rfl := Option.some.inj H
    go_enter Tryz.func6, Tryz.ntmps6
    go_wp2_with (first | ((with_reducible refine gate_callee (f := 8) rfl ?_); refine goesL_ (some 6) rfl rfl Tryz.func8 (by kernel_rfl) rfl #[.string a0] rfl (by (try simp only [List.map_toArray, List.map_cons, List.map_nil]); first | done | rfl | (simp only [List.length_drop, List.length_take]; rfl)) ?_; (with_reducible refine (muslinlaw08_short.calls a0 false _ A2.out).mono ?_); rintro e w' ⟨rfl, ⟨nd, rfl⟩⟩; refine ⟨_, rfl, ?_⟩) | ((with_reducible refine gate_callee (f := 9) rfl ?_); refine goesL_ (some 8) rfl rfl Tryz.func9 (by kernel_rfl) rfl #[] rfl (by (try simp only [List.map_toArray, List.map_cons, List.map_nil]); first | done | rfl | (simp only [List.length_drop, List.length_take]; rfl)) ?_; (with_reducible refine (muslinlaw08_live.calls k  t300 _ ?sideGl A28.out).mono ?_); (case sideGl => exact HGl.out.below (by repeat (first | (with_reducible first | exact HB.out | apply below_alloc | apply pw_below_drewN | apply below_drew1) | exact HB.out))); rintro e w29 ⟨rfl, hb⟩; refine ⟨_, rfl, ?_⟩; have n0_ := Aside0.mk (below_step (by repeat (first | (with_reducible first | exact HB.out | apply below_alloc | apply pw_below_drewN | apply below_drew1) | exact HB.out)) hb); clear HB; have HB := n0_; clear n0_; (try clear hb); (try clear hb2); (try clear hk); (try clear hi)))
    go_ret
    exact ⟨by first | rfl | (simp [errW_none, errW_some] <;> rfl) | (simp [*, errW_none, errW_some] <;> rfl), by repeat (first | (with_reducible first | exact HB.out | apply below_alloc | apply pw_below_drewN | apply below_drew1) | exact HB.out)⟩
  subst c3
  have H1 : ((addr_Parse.f a0).bind fun t301 => (muslinlaw08_AddrGood.l0 k t301 0)) = some r := by rw [if_pos rfl] at H; exact H
  clear H; have H := H1; clear H1; replace H := Option.bind_eq_some_iff.mp H; obtain ⟨t301, A40, H⟩ := H; replace H : (muslinlaw08_AddrGood.l0 k t301 0) = some r := H; have A4 := Aside0.mk A40; clear A40; have H' := Aside0.mk H; clear H
  go_enter Tryz.func6, Tryz.ntmps6
  go_wp2_with (first | ((with_reducible refine gate_callee (f := 8) rfl ?_); refine goesL_ (some 6) rfl rfl Tryz.func8 (by kernel_rfl) rfl #[.string a0] rfl (by (try simp only [List.map_toArray, List.map_cons, List.map_nil]); first | done | rfl | (simp only [List.length_drop, List.length_take]; rfl)) ?_; (with_reducible refine (muslinlaw08_short.calls a0 true _ A2.out).mono ?_); rintro e w' ⟨rfl, ⟨nd, rfl⟩⟩; refine ⟨_, rfl, ?_⟩) | ((with_reducible refine gate_callee (f := 11) rfl ?_); refine goesL_ (some 10) rfl rfl Tryz.func11 (by kernel_rfl) rfl #[.string a0] rfl (by (try simp only [List.map_toArray, List.map_cons, List.map_nil]); first | done | rfl | (simp only [List.length_drop, List.length_take]; rfl)) ?_; (with_reducible refine (addr_Parse.calls a0 t301 _ ?sideGl A4.out).mono ?_); (case sideGl => exact HGl.out.below (by repeat (first | (with_reducible first | exact HB.out | apply below_alloc | apply pw_below_drewN | apply below_drew1) | exact HB.out))); rintro e w5 ⟨v302, rfl, ho0, hb⟩; refine ⟨_, rfl, ?_⟩; have n0_ := Aside0.mk (Kd.R_lower ho0 (below_size (by repeat (first | (with_reducible first | exact HB.out | apply below_alloc | apply pw_below_drewN | apply below_drew1) | exact HB.out)))); have n1_ := Aside0.mk (below_step (by repeat (first | (with_reducible first | exact HB.out | apply below_alloc | apply pw_below_drewN | apply below_drew1) | exact HB.out)) hb); clear HB; have HO303 := n0_; have HB := n1_; clear n0_ n1_; (try clear hb); (try clear hb2); (try clear hk); (try clear hi); (try clear ho0)))
  go_loopg [4] k (fun kq v4 w' => ∃ (x4_1 : Int), v4 = .int .i64 x4_1 ∧ Aside0 (muslinlaw08_AddrGood.l0 kq t301 x4_1 = some r) ∧ Aside0 (kq ≤ k) ∧ Aside0 (Kd.R k32 32 w' w.heap.size (fun _ => True) v302 t301) ∧ Aside0 (Below w.heap.size w w'))
  case atStart => exact ⟨(0), (by first | rfl | (simp; done) | (simp [*]; done)), H', ⟨Nat.le_refl _⟩, ⟨by (with_reducible repeat (first | apply Kd.R_alloc | apply Kd.R_drewN | apply Kd.R_drew)); exact HO303.out⟩, ⟨by repeat (first | (with_reducible first | exact HB.out | apply below_alloc | apply pw_below_drewN | apply below_drew1) | exact HB.out)⟩⟩
  case round =>
    clear H'; (try clear c1); (try clear p2); (try clear c3); obtain ⟨x4_1, rfl, HA, HK1, HO_3, HB⟩ := hrel
    cases gk with
    | zero => exact absurd HA.out (by simp [muslinlaw08_AddrGood.l0])
    | succ k1 =>
      have H := HA.out; clear HA; simp only [muslinlaw08_AddrGood.l0] at H
      by_cases c6 : x4_1 < (t301.length : Int)
      case neg =>
        rw [if_neg c6] at H; have c6b0 : decide (x4_1 < (t301.length : Int)) = false := decide_eq_false c6; clear c6; replace H := Option.bind_eq_some_iff.mp H; obtain ⟨t304, A250, H⟩ := H; replace H : (some t304) = some r := H; have A25 := Aside0.mk A250; clear A250; obtain rfl := Option.some.inj H; obtain ⟨Ao26, co26, eo26⟩ := Kd.R_slice HO_3.out; subst eo26; go_wp2_with (first | ((with_reducible refine gate_callee (f := 9) rfl ?_); refine goesL_ (some 52) rfl rfl Tryz.func9 (by kernel_rfl) rfl #[] rfl (by (try simp only [List.map_toArray, List.map_cons, List.map_nil]); first | done | rfl | (simp only [List.length_drop, List.length_take]; rfl)) ?_; (with_reducible refine (muslinlaw08_live.calls k1  t304 _ ?sideGl A25.out).mono ?_); (case sideGl => exact HGl.out.below (by repeat (first | (with_reducible first | exact HB.out | apply below_alloc | apply pw_below_drewN | apply below_drew1) | exact HB.out))); rintro e w27 ⟨rfl, hb⟩; refine ⟨_, rfl, ?_⟩; have n0_ := Aside0.mk (Kd.R_below (by (with_reducible repeat (first | apply Kd.R_alloc | apply Kd.R_drewN | apply Kd.R_drew)); exact HO_3.out) hb); have n1_ := Aside0.mk (below_step (by repeat (first | (with_reducible first | exact HB.out | apply below_alloc | apply pw_below_drewN | apply below_drew1) | exact HB.out)) hb); clear HO_3; clear HB; have HO_3 := n0_; have HB := n1_; clear n0_ n1_; (try clear hb); (try clear hb2); (try clear hk); (try clear hi)))
        go_ret
        exact ⟨by first | rfl | (simp [errW_none, errW_some] <;> rfl) | (simp [*, errW_none, errW_some] <;> rfl), by repeat (first | (with_reducible first | exact HB.out | apply below_alloc | apply pw_below_drewN | apply below_drew1) | exact HB.out)⟩
      rw [if_pos c6] at H; have c6b0 : decide (x4_1 < (t301.length : Int)) = true := decide_eq_true c6; clear c6; have HC7 := Aside0.mk H; clear H; obtain ⟨Ao8, co8, eo8⟩ := Kd.R_slice HO_3.out; subst eo8
      go_upto_region 7 with (fail)
      go_cut [39] (fun v39 wc => ∃ (kq : Nat) (x39_6 : Bool), v39 = .bool x39_6 ∧ Aside0 (muslinlaw08_AddrGood.j1 kq t301 x4_1 x39_6 = some r) ∧ Aside0 (kq ≤ k1) ∧ Aside0 (Kd.R k32 32 wc w.heap.size (fun _ => True) (.slice Ao8 t301.length co8) t301) ∧ Aside0 (Below w.heap.size w wc))
      case first =>
        have H := HC7.out; clear HC7
        by_cases c9 : 0 ≤ x4_1
        case neg =>
          rw [if_neg c9] at H
          exact absurd H (by simp)
        rw [if_pos c9] at H; have c9b0 : decide (0 ≤ x4_1) = true := decide_eq_true c9; clear c9
        (first | rw [c9b0] | (simp only [i64_w, i32_w]; rw [c9b0]) | skip)
        replace H := Option.bind_eq_some_iff.mp H; obtain ⟨t306, A100, H⟩ := H; replace H : (if t306 = true then (muslinlaw08_AddrGood.j1 k1 t301 x4_1 false) else (if ((rd_T32 t301 x4_1).f1).toList = ([] : List UInt8) then (muslinlaw08_AddrGood.j1 k1 t301 x4_1 (((rd_T32 t301 x4_1).f0).toList == ([] : List UInt8))) else (muslinlaw08_AddrGood.j1 k1 t301 x4_1 true))) = some r := H; have A10 := Aside0.mk A100; clear A100
        by_cases c11 : t306 = true
        case pos =>
          subst c11
          have H1 : (muslinlaw08_AddrGood.j1 k1 t301 x4_1 false) = some r := by rw [if_pos rfl] at H; exact H
          clear H; have H := H1; clear H1; have H' := Aside0.mk H; clear H; have p305 : 0 ≤ (x4_1 : Int) := of_decide_eq_true (by first | (with_reducible assumption) | assumption); have q305 : x4_1 < (t301.length : Int) := of_decide_eq_true (by first | (with_reducible assumption) | assumption); obtain ⟨ad305, e305, hx305_0, hx305_1⟩ := at_T32 (Kd.R_reads' HO_3.out).2.2 x4_1 p305 q305; cases e305; replace p305 := eq_true p305; replace q305 := eq_true q305; go_wp2_with (first | ((with_reducible refine gate_callee (f := 13) rfl ?_); refine goesL_ (some 22) rfl rfl Tryz.func13 (by kernel_rfl) rfl #[.string ((rd_T32 t301 x4_1).f1)] rfl (by (try simp only [List.map_toArray, List.map_cons, List.map_nil]); first | done | rfl | (simp only [List.length_drop, List.length_take]; rfl)) ?_; (with_reducible refine (addr_Good.calls ((rd_T32 t301 x4_1).f1) true _ A10.out).mono ?_); rintro e w12 ⟨rfl, hb⟩; refine ⟨_, rfl, ?_⟩; have n0_ := Aside0.mk (Kd.R_below (by (with_reducible repeat (first | apply Kd.R_alloc | apply Kd.R_drewN | apply Kd.R_drew)); exact HO_3.out) hb); have n1_ := Aside0.mk (below_step (by repeat (first | (with_reducible first | exact HB.out | apply below_alloc | apply pw_below_drewN | apply below_drew1) | exact HB.out)) hb); clear HO_3; clear HB; have HO_3 := n0_; have HB := n1_; clear n0_ n1_; (try clear hb); (try clear hb2); (try clear hk); (try clear hi)))
          go_meet
          case rel => exact ⟨_, (false), (by first | rfl | (simp; done) | (simp [*]; done)), H', ⟨by have := HK1.out; first | omega | exact Nat.le_refl _⟩, ⟨by (with_reducible repeat (first | apply Kd.R_alloc | apply Kd.R_drewN | apply Kd.R_drew)); exact HO_3.out⟩, ⟨by repeat (first | (with_reducible first | exact HB.out | apply below_alloc | apply pw_below_drewN | apply below_drew1) | exact HB.out)⟩⟩
        replace c11 := Bool.eq_false_iff.mpr c11; subst c11
        have H1 : (if ((rd_T32 t301 x4_1).f1).toList = ([] : List UInt8) then (muslinlaw08_AddrGood.j1 k1 t301 x4_1 (((rd_T32 t301 x4_1).f0).toList == ([] : List UInt8))) else (muslinlaw08_AddrGood.j1 k1 t301 x4_1 true)) = some r := by rw [if_neg (show ¬ (false = true) by decide)] at H; exact H
        clear H; have H := H1; clear H1
        by_cases c13 : ((rd_T32 t301 x4_1).f1).toList = ([] : List UInt8)
        case neg =>
          rw [if_neg c13] at H; have c13b0 : (((rd_T32 t301 x4_1).f1).toList == ([] : List UInt8)) = false := beq_eq_false_iff_ne.mpr c13; have c13b1 : (((rd_T32 t301 x4_1).f1).toList != ([] : List UInt8)) = true := bne_iff_ne.mpr c13; have H' := Aside0.mk H; clear H; have p305 : 0 ≤ (x4_1 : Int) := of_decide_eq_true (by first | (with_reducible assumption) | assumption); have q305 : x4_1 < (t301.length : Int) := of_decide_eq_true (by first | (with_reducible assumption) | assumption); obtain ⟨ad305, e305, hx305_0, hx305_1⟩ := at_T32 (Kd.R_reads' HO_3.out).2.2 x4_1 p305 q305; cases e305; replace p305 := eq_true p305; replace q305 := eq_true q305; go_wp2_with (first | ((with_reducible refine gate_callee (f := 13) rfl ?_); refine goesL_ (some 22) rfl rfl Tryz.func13 (by kernel_rfl) rfl #[.string ((rd_T32 t301 x4_1).f1)] rfl (by (try simp only [List.map_toArray, List.map_cons, List.map_nil]); first | done | rfl | (simp only [List.length_drop, List.length_take]; rfl)) ?_; (with_reducible refine (addr_Good.calls ((rd_T32 t301 x4_1).f1) false _ A10.out).mono ?_); rintro e w15 ⟨rfl, hb⟩; refine ⟨_, rfl, ?_⟩; have n0_ := Aside0.mk (Kd.R_below (by (with_reducible repeat (first | apply Kd.R_alloc | apply Kd.R_drewN | apply Kd.R_drew)); exact HO_3.out) hb); have n1_ := Aside0.mk (below_step (by repeat (first | (with_reducible first | exact HB.out | apply below_alloc | apply pw_below_drewN | apply below_drew1) | exact HB.out)) hb); clear HO_3; clear HB; have HO_3 := n0_; have HB := n1_; clear n0_ n1_; (try clear hb); (try clear hb2); (try clear hk); (try clear hi); have p307 : 0 ≤ (x4_1 : Int) := of_decide_eq_true (by first | (with_reducible assumption) | assumption); have q307 : x4_1 < (t301.length : Int) := of_decide_eq_true (by first | (with_reducible assumption) | assumption); obtain ⟨ad307, e307, hx307_0, hx307_1⟩ := at_T32 (Kd.R_reads' HO_3.out).2.2 x4_1 p307 q307; obtain rfl : ad305 = ad307 := (by injection e307); replace p307 := eq_true p307; replace q307 := eq_true q307))
          go_meet
          case rel => exact ⟨_, (true), (by first | rfl | (simp; done) | (simp [*]; done)), H', ⟨by have := HK1.out; first | omega | exact Nat.le_refl _⟩, ⟨by (with_reducible repeat (first | apply Kd.R_alloc | apply Kd.R_drewN | apply Kd.R_drew)); exact HO_3.out⟩, ⟨by repeat (first | (with_reducible first | exact HB.out | apply below_alloc | apply pw_below_drewN | apply below_drew1) | exact HB.out)⟩⟩
        rw [if_pos c13] at H; have c13b0 : (((rd_T32 t301 x4_1).f1).toList == ([] : List UInt8)) = true := beq_iff_eq.mpr c13; have c13b1 : (((rd_T32 t301 x4_1).f1).toList != ([] : List UInt8)) = false := bne_eq_false_iff_eq.mpr c13; clear c13; have H' := Aside0.mk H; clear H; have p305 : 0 ≤ (x4_1 : Int) := of_decide_eq_true (by first | (with_reducible assumption) | assumption); have q305 : x4_1 < (t301.length : Int) := of_decide_eq_true (by first | (with_reducible assumption) | assumption); obtain ⟨ad305, e305, hx305_0, hx305_1⟩ := at_T32 (Kd.R_reads' HO_3.out).2.2 x4_1 p305 q305; cases e305; replace p305 := eq_true p305; replace q305 := eq_true q305; go_wp2_with (first | ((with_reducible refine gate_callee (f := 13) rfl ?_); refine goesL_ (some 22) rfl rfl Tryz.func13 (by kernel_rfl) rfl #[.string ((rd_T32 t301 x4_1).f1)] rfl (by (try simp only [List.map_toArray, List.map_cons, List.map_nil]); first | done | rfl | (simp only [List.length_drop, List.length_take]; rfl)) ?_; (with_reducible refine (addr_Good.calls ((rd_T32 t301 x4_1).f1) false _ A10.out).mono ?_); rintro e w14 ⟨rfl, hb⟩; refine ⟨_, rfl, ?_⟩; have n0_ := Aside0.mk (Kd.R_below (by (with_reducible repeat (first | apply Kd.R_alloc | apply Kd.R_drewN | apply Kd.R_drew)); exact HO_3.out) hb); have n1_ := Aside0.mk (below_step (by repeat (first | (with_reducible first | exact HB.out | apply below_alloc | apply pw_below_drewN | apply below_drew1) | exact HB.out)) hb); clear HO_3; clear HB; have HO_3 := n0_; have HB := n1_; clear n0_ n1_; (try clear hb); (try clear hb2); (try clear hk); (try clear hi); have p307 : 0 ≤ (x4_1 : Int) := of_decide_eq_true (by first | (with_reducible assumption) | assumption); have q307 : x4_1 < (t301.length : Int) := of_decide_eq_true (by first | (with_reducible assumption) | assumption); obtain ⟨ad307, e307, hx307_0, hx307_1⟩ := at_T32 (Kd.R_reads' HO_3.out).2.2 x4_1 p307 q307; obtain rfl : ad305 = ad307 := (by injection e307); replace p307 := eq_true p307; replace q307 := eq_true q307; have p308 : 0 ≤ (x4_1 : Int) := of_decide_eq_true (by first | (with_reducible assumption) | assumption); have q308 : x4_1 < (t301.length : Int) := of_decide_eq_true (by first | (with_reducible assumption) | assumption); obtain ⟨ad308, e308, hx308_0, hx308_1⟩ := at_T32 (Kd.R_reads' HO_3.out).2.2 x4_1 p308 q308; obtain rfl : ad305 = ad308 := (by injection e308); replace p308 := eq_true p308; replace q308 := eq_true q308))
        go_meet
        case rel => exact ⟨_, ((((rd_T32 t301 x4_1).f0).toList == ([] : List UInt8))), (by first | rfl | (simp; done) | (simp [*]; done)), H', ⟨by have := HK1.out; first | omega | exact Nat.le_refl _⟩, ⟨by (with_reducible repeat (first | apply Kd.R_alloc | apply Kd.R_drewN | apply Kd.R_drew)); exact HO_3.out⟩, ⟨by repeat (first | (with_reducible first | exact HB.out | apply below_alloc | apply pw_below_drewN | apply below_drew1) | exact HB.out)⟩⟩
      case rest =>
        clear HC7; (try clear c1); (try clear p2); (try clear c3); (try clear p3); (try clear q3); (try clear hx3); (try clear c6); (try clear c6b0); (try clear c8); (try clear c9); (try clear c9b0); (try clear c11); (try clear c13); (try clear c13b0); (try clear c13b1); (try clear hx305_0); (try clear hx305_1); (try clear hx307_0); (try clear hx307_1); (try clear hx308_0); (try clear hx308_1); (try clear p2); (try clear p305); (try clear p307); (try clear p308); (try clear q305); (try clear q307); (try clear q308); obtain ⟨kq, x39_6, rfl, HA, HJ6, HO_3, HB⟩ := hcut
        cases kq with
        | zero => exact absurd HA.out (by simp [muslinlaw08_AddrGood.j1])
        | succ kj6 =>
          have H := HA.out; clear HA; simp only [muslinlaw08_AddrGood.j1] at H
          by_cases c16 : x39_6 = true
          case pos =>
            subst c16
            have H1 : (some false) = some r := by rw [if_pos rfl] at H; exact H
            clear H; have H := H1; clear H1; obtain rfl := Option.some.inj H
            go_wp2
            go_ret
            exact ⟨by first | rfl | (simp [errW_none, errW_some] <;> rfl) | (simp [*, errW_none, errW_some] <;> rfl), by repeat (first | (with_reducible first | exact HB.out | apply below_alloc | apply pw_below_drewN | apply below_drew1) | exact HB.out)⟩
          replace c16 := Bool.eq_false_iff.mpr c16; subst c16
          have H1 : (if 0 ≤ x4_1 then (if x4_1 < (t301.length : Int) then ((chars_Valid.f ((rd_T32 t301 x4_1).f0)).bind fun t310 => (if t310.toList = ((rd_T32 t301 x4_1).f0).toList then (muslinlaw08_AddrGood.l0 kj6 t301 (wrap64 (x4_1 + 1))) else (some false))) else (none)) else (none)) = some r := by rw [if_neg (show ¬ (false = true) by decide)] at H; exact H
          clear H; have H := H1; clear H1
          by_cases c17 : 0 ≤ x4_1
          case neg =>
            rw [if_neg c17] at H
            exact absurd H (by simp)
          rw [if_pos c17] at H; have c17b0 : decide (0 ≤ x4_1) = true := decide_eq_true c17; clear c17
          by_cases c18 : x4_1 < (t301.length : Int)
          case neg =>
            rw [if_neg c18] at H
            exact absurd H (by simp)
          rw [if_pos c18] at H; have c18b0 : decide (x4_1 < (t301.length : Int)) = true := decide_eq_true c18; clear c18; replace H := Option.bind_eq_some_iff.mp H; obtain ⟨t310, A190, H⟩ := H; replace H : (if t310.toList = ((rd_T32 t301 x4_1).f0).toList then (muslinlaw08_AddrGood.l0 kj6 t301 (wrap64 (x4_1 + 1))) else (some false)) = some r := H; have A19 := Aside0.mk A190; clear A190
          by_cases c20 : t310.toList = ((rd_T32 t301 x4_1).f0).toList
          case neg =>
            rw [if_neg c20] at H; have c20b0 : (t310.toList == ((rd_T32 t301 x4_1).f0).toList) = false := beq_eq_false_iff_ne.mpr c20; have c20b1 : (t310.toList != ((rd_T32 t301 x4_1).f0).toList) = true := bne_iff_ne.mpr c20; obtain rfl := Option.some.inj H
            try go_wp2
            have n0_ := Aside0.mk (Kd.R_drew HO_3.out); have n1_ := Aside0.mk (below_drew1 HB.out); clear HO_3; clear HB; have HO_3 := n0_; have HB := n1_; clear n0_ n1_; have p309 : 0 ≤ (x4_1 : Int) := of_decide_eq_true (by first | (with_reducible assumption) | assumption); have q309 : x4_1 < (t301.length : Int) := of_decide_eq_true (by first | (with_reducible assumption) | assumption); obtain ⟨ad309, e309, hx309_0, hx309_1⟩ := at_T32 (Kd.R_reads' HO_3.out).2.2 x4_1 p309 q309; cases e309; replace p309 := eq_true p309; replace q309 := eq_true q309; have p311 : 0 ≤ (x4_1 : Int) := of_decide_eq_true (by first | (with_reducible assumption) | assumption); have q311 : x4_1 < (t301.length : Int) := of_decide_eq_true (by first | (with_reducible assumption) | assumption); obtain ⟨ad311, e311, hx311_0, hx311_1⟩ := at_T32 (Kd.R_reads' HO_3.out).2.2 x4_1 p311 q311; obtain rfl : ad309 = ad311 := (by injection e311); replace p311 := eq_true p311; replace q311 := eq_true q311
            refine start_ (n := 12) (S := fun w' => w'.cell? (ad309.add ((x4_1).toNat * 2)) = some (.string ((rd_T32 t301 x4_1).f0)) ∧ w'.cell? ⟨(ad309.add ((x4_1).toNat * 2)).block, (ad309.add ((x4_1).toNat * 2)).off + 1, none⟩ = some (.string ((rd_T32 t301 x4_1).f1)) ∧ w'.cell? (ad309.add ((x4_1).toNat * 2)) = some (.string ((rd_T32 t301 x4_1).f0)) ∧ w'.cell? ⟨(ad309.add ((x4_1).toNat * 2)).block, (ad309.add ((x4_1).toNat * 2)).off + 1, none⟩ = some (.string ((rd_T32 t301 x4_1).f1))) (ds := []) #[false, false, false, false, false, false, false, false, false, false, false, false] (by kernel_rfl) rfl rfl ⟨hx309_0, hx309_1, hx311_0, hx311_1⟩ (fun hHeld => ?_); refine with_tabW muslinlaw08_AddrGood.tab9 muslinlaw08_AddrGood.bits9 (fun HT_ HW_ => ?_)
            generalize wc.drew = w23 at HO_3 HB hx309_0 hx309_1 hx311_0 hx311_1 hHeld ⊢
            refine pure_ (i := 0) (N := some 40) (v := ?_) (a' := ?_) #[true, false, false, false, false, false, false, false, false, false, false, false] rfl rfl (any_of HT_.out (by kernel_rfl)) (fun _ _ _ h => h) (Or.inl ⟨by rfl, ?_⟩) ?_ ?_
            rotate_left
            · intro w'
              go_simp
              with_reducible rfl
            rotate_left
            · simp only [Act.put, List.setIfInBounds_toArray, List.set_cons_zero, List.set_cons_succ, i64_w, i32_w]
              rfl
            refine pure_ (i := 1) (N := some 41) (v := ?_) (a' := ?_) #[true, true, false, false, false, false, false, false, false, false, false, false] rfl rfl (any_of HT_.out (by kernel_rfl)) (fun _ _ _ h => h) (Or.inl ⟨by rfl, ?_⟩) ?_ ?_
            rotate_left
            · intro w'
              go_simp
              with_reducible rfl
            rotate_left
            · simp only [Act.put, List.setIfInBounds_toArray, List.set_cons_zero, List.set_cons_succ, i64_w, i32_w]
              rfl
            refine pure_ (i := 2) (N := some 42) (v := ?_) (a' := ?_) #[true, true, true, false, false, false, false, false, false, false, false, false] rfl rfl (any_of HT_.out (by kernel_rfl)) (fun _ _ _ h => h) (Or.inl ⟨by rfl, ?_⟩) ?_ ?_
            rotate_left
            · intro w'
              go_simp
              with_reducible rfl
            rotate_left
            · simp only [Act.put, List.setIfInBounds_toArray, List.set_cons_zero, List.set_cons_succ, i64_w, i32_w]
              rfl
            refine pure_ (i := 3) (N := some 43) (v := ?_) (a' := ?_) #[true, true, true, true, false, false, false, false, false, false, false, false] rfl rfl (any_of HT_.out (by kernel_rfl)) (fun _ _ _ h => h) (Or.inl ⟨by rfl, ?_⟩) ?_ ?_
            rotate_left
            · intro w'
              go_simp
              with_reducible rfl
            rotate_left
            · simp only [Act.put, List.setIfInBounds_toArray, List.set_cons_zero, List.set_cons_succ, i64_w, i32_w]
              rfl
            refine pure_ (i := 6) (N := some 46) (v := ?_) (a' := ?_) #[true, true, true, true, false, false, true, false, false, false, false, false] rfl rfl (any_of HT_.out (by kernel_rfl)) (fun _ _ _ h => h) (Or.inl ⟨by rfl, ?_⟩) ?_ ?_
            rotate_left
            · intro w'
              go_simp
              with_reducible rfl
            rotate_left
            · simp only [Act.put, List.setIfInBounds_toArray, List.set_cons_zero, List.set_cons_succ, i64_w, i32_w]
              rfl
            refine pure_ (i := 7) (N := some 47) (v := ?_) (a' := ?_) #[true, true, true, true, false, false, true, true, false, false, false, false] rfl rfl (any_of HT_.out (by kernel_rfl)) (fun _ _ _ h => h) (Or.inl ⟨by rfl, ?_⟩) ?_ ?_
            rotate_left
            · intro w'
              go_simp
              with_reducible rfl
            rotate_left
            · simp only [Act.put, List.setIfInBounds_toArray, List.set_cons_zero, List.set_cons_succ, i64_w, i32_w]
              rfl
            refine pure_ (i := 8) (N := some 48) (v := ?_) (a' := ?_) #[true, true, true, true, false, false, true, true, true, false, false, false] rfl rfl (any_of HT_.out (by kernel_rfl)) (fun _ _ _ h => h) (Or.inl ⟨by rfl, ?_⟩) ?_ ?_
            rotate_left
            · intro w'
              go_simp
              with_reducible rfl
            rotate_left
            · simp only [Act.put, List.setIfInBounds_toArray, List.set_cons_zero, List.set_cons_succ, i64_w, i32_w]
              rfl
            refine pure_ (i := 9) (N := some 49) (v := ?_) (a' := ?_) #[true, true, true, true, false, false, true, true, true, true, false, false] rfl rfl (any_of HT_.out (by kernel_rfl)) (fun _ _ _ h => h) (Or.inl ⟨by rfl, ?_⟩) ?_ ?_
            rotate_left
            · intro w'
              go_simp
              with_reducible rfl
            rotate_left
            · simp only [Act.put, List.setIfInBounds_toArray, List.set_cons_zero, List.set_cons_succ, i64_w, i32_w]
              rfl
            refine take_ (i := 4) (N := some 44) (v := ?_) (a' := ?_) #[true, true, true, true, true, false, true, true, true, true, false, false] rfl rfl (take_ofW HT_.out HW_.out (by kernel_rfl)) (fun _ _ _ h => h) (Or.inl ⟨by rfl, ?_⟩) hHeld ?_ ?_
            rotate_left
            · rintro w' ⟨s0, s1, s2, s3⟩
              go_simp
              with_reducible rfl
            rotate_left
            · simp only [Act.put, List.setIfInBounds_toArray, List.set_cons_zero, List.set_cons_succ, i64_w, i32_w]
              rfl
            refine take_ (i := 10) (N := some 50) (v := ?_) (a' := ?_) #[true, true, true, true, true, false, true, true, true, true, true, false] rfl rfl (take_ofW HT_.out HW_.out (by kernel_rfl)) (fun _ _ _ h => h) (Or.inl ⟨by rfl, ?_⟩) hHeld ?_ ?_
            rotate_left
            · rintro w' ⟨s0, s1, s2, s3⟩
              go_simp
              with_reducible rfl
            rotate_left
            · simp only [Act.put, List.setIfInBounds_toArray, List.set_cons_zero, List.set_cons_succ, i64_w, i32_w]
              rfl
            refine one_ (i := 5) (N := some 45) #[true, true, true, true, true, true, true, true, true, true, true, false] rfl rfl (one_of HT_.out (by kernel_rfl)) (by decide) (fun K hK => ?_)
            refine goes_ Tryz.func18 (by kernel_rfl) rfl #[.string ((rd_T32 t301 x4_1).f0)] (by rfl) rfl rfl (by (try simp only [List.map_toArray, List.map_cons, List.map_nil]); first | done | rfl | (simp only [List.length_drop, List.length_take]; rfl)) ?_
            with_reducible refine (chars_Valid.calls ((rd_T32 t301 x4_1).f0) t310 _ A19.out).mono ?_
            rintro e w24 ⟨rfl, hb⟩; have HS0_ := (hb.cell (World.block_lt_of_cell? _ _ (hHeld.1))).trans (hHeld.1); have HS1_ := (hb.cell (World.block_lt_of_cell? _ _ (hHeld.2.1))).trans (hHeld.2.1); have HS2_ := (hb.cell (World.block_lt_of_cell? _ _ (hHeld.2.2.1))).trans (hHeld.2.2.1); have HS3_ := (hb.cell (World.block_lt_of_cell? _ _ (hHeld.2.2.2))).trans (hHeld.2.2.2)
            refine ⟨_, rfl, ?_⟩
            have n0_ := Aside0.mk (Kd.R_below (by (with_reducible repeat (first | apply Kd.R_alloc | apply Kd.R_drewN | apply Kd.R_drew)); exact HO_3.out) hb); have n1_ := Aside0.mk (below_step (by repeat (first | (with_reducible first | exact HB.out | apply below_alloc | apply pw_below_drewN | apply below_drew1) | exact HB.out)) hb); clear HO_3; clear HB; have HO_3 := n0_; have HB := n1_; clear n0_ n1_; (try clear hb); (try clear hb2); (try clear hk); (try clear hi)
            refine hK.out _ _ ⟨HS0_, HS1_, HS2_, HS3_⟩ (fun hHeld => ?_)
            clear hK K
            refine norm_ (a' := ?_) ?_ ?_
            rotate_left
            · show Act.put _ (some 45) _ = _
              simp only [Act.put, List.setIfInBounds_toArray, List.set_cons_zero, List.set_cons_succ, i64_w, i32_w]
              rfl
            refine pure_ (i := 11) (N := some 51) (v := ?_) (a' := ?_) #[true, true, true, true, true, true, true, true, true, true, true, true] rfl rfl (any_of HT_.out (by kernel_rfl)) (fun _ _ _ h => h) (Or.inl ⟨by rfl, ?_⟩) ?_ ?_
            rotate_left
            · intro w'
              go_simp
              with_reducible rfl
            rotate_left
            · simp only [Act.put, List.setIfInBounds_toArray, List.set_cons_zero, List.set_cons_succ, i64_w, i32_w]
              rfl
            refine done_ (done_of HT_.out (by kernel_rfl)) ?_
            try go_wp2
            go_ret
            exact ⟨by first | rfl | (simp [errW_none, errW_some] <;> rfl) | (simp [*, errW_none, errW_some] <;> rfl), by repeat (first | (with_reducible first | exact HB.out | apply below_alloc | apply pw_below_drewN | apply below_drew1) | exact HB.out)⟩
          rw [if_pos c20] at H; have c20b0 : (t310.toList == ((rd_T32 t301 x4_1).f0).toList) = true := beq_iff_eq.mpr c20; have c20b1 : (t310.toList != ((rd_T32 t301 x4_1).f0).toList) = false := bne_eq_false_iff_eq.mpr c20; clear c20; have H' := Aside0.mk H; clear H
          try go_wp2
          have n0_ := Aside0.mk (Kd.R_drew HO_3.out); have n1_ := Aside0.mk (below_drew1 HB.out); clear HO_3; clear HB; have HO_3 := n0_; have HB := n1_; clear n0_ n1_; have p309 : 0 ≤ (x4_1 : Int) := of_decide_eq_true (by first | (with_reducible assumption) | assumption); have q309 : x4_1 < (t301.length : Int) := of_decide_eq_true (by first | (with_reducible assumption) | assumption); obtain ⟨ad309, e309, hx309_0, hx309_1⟩ := at_T32 (Kd.R_reads' HO_3.out).2.2 x4_1 p309 q309; cases e309; replace p309 := eq_true p309; replace q309 := eq_true q309; have p311 : 0 ≤ (x4_1 : Int) := of_decide_eq_true (by first | (with_reducible assumption) | assumption); have q311 : x4_1 < (t301.length : Int) := of_decide_eq_true (by first | (with_reducible assumption) | assumption); obtain ⟨ad311, e311, hx311_0, hx311_1⟩ := at_T32 (Kd.R_reads' HO_3.out).2.2 x4_1 p311 q311; obtain rfl : ad309 = ad311 := (by injection e311); replace p311 := eq_true p311; replace q311 := eq_true q311
          refine start_ (n := 12) (S := fun w' => w'.cell? (ad309.add ((x4_1).toNat * 2)) = some (.string ((rd_T32 t301 x4_1).f0)) ∧ w'.cell? ⟨(ad309.add ((x4_1).toNat * 2)).block, (ad309.add ((x4_1).toNat * 2)).off + 1, none⟩ = some (.string ((rd_T32 t301 x4_1).f1)) ∧ w'.cell? (ad309.add ((x4_1).toNat * 2)) = some (.string ((rd_T32 t301 x4_1).f0)) ∧ w'.cell? ⟨(ad309.add ((x4_1).toNat * 2)).block, (ad309.add ((x4_1).toNat * 2)).off + 1, none⟩ = some (.string ((rd_T32 t301 x4_1).f1))) (ds := []) #[false, false, false, false, false, false, false, false, false, false, false, false] (by kernel_rfl) rfl rfl ⟨hx309_0, hx309_1, hx311_0, hx311_1⟩ (fun hHeld => ?_); refine with_tabW muslinlaw08_AddrGood.tab9 muslinlaw08_AddrGood.bits9 (fun HT_ HW_ => ?_)
          generalize wc.drew = w21 at HO_3 HB hx309_0 hx309_1 hx311_0 hx311_1 hHeld ⊢
          refine pure_ (i := 0) (N := some 40) (v := ?_) (a' := ?_) #[true, false, false, false, false, false, false, false, false, false, false, false] rfl rfl (any_of HT_.out (by kernel_rfl)) (fun _ _ _ h => h) (Or.inl ⟨by rfl, ?_⟩) ?_ ?_
          rotate_left
          · intro w'
            go_simp
            with_reducible rfl
          rotate_left
          · simp only [Act.put, List.setIfInBounds_toArray, List.set_cons_zero, List.set_cons_succ, i64_w, i32_w]
            rfl
          refine pure_ (i := 1) (N := some 41) (v := ?_) (a' := ?_) #[true, true, false, false, false, false, false, false, false, false, false, false] rfl rfl (any_of HT_.out (by kernel_rfl)) (fun _ _ _ h => h) (Or.inl ⟨by rfl, ?_⟩) ?_ ?_
          rotate_left
          · intro w'
            go_simp
            with_reducible rfl
          rotate_left
          · simp only [Act.put, List.setIfInBounds_toArray, List.set_cons_zero, List.set_cons_succ, i64_w, i32_w]
            rfl
          refine pure_ (i := 2) (N := some 42) (v := ?_) (a' := ?_) #[true, true, true, false, false, false, false, false, false, false, false, false] rfl rfl (any_of HT_.out (by kernel_rfl)) (fun _ _ _ h => h) (Or.inl ⟨by rfl, ?_⟩) ?_ ?_
          rotate_left
          · intro w'
            go_simp
            with_reducible rfl
          rotate_left
          · simp only [Act.put, List.setIfInBounds_toArray, List.set_cons_zero, List.set_cons_succ, i64_w, i32_w]
            rfl
          refine pure_ (i := 3) (N := some 43) (v := ?_) (a' := ?_) #[true, true, true, true, false, false, false, false, false, false, false, false] rfl rfl (any_of HT_.out (by kernel_rfl)) (fun _ _ _ h => h) (Or.inl ⟨by rfl, ?_⟩) ?_ ?_
          rotate_left
          · intro w'
            go_simp
            with_reducible rfl
          rotate_left
          · simp only [Act.put, List.setIfInBounds_toArray, List.set_cons_zero, List.set_cons_succ, i64_w, i32_w]
            rfl
          refine pure_ (i := 6) (N := some 46) (v := ?_) (a' := ?_) #[true, true, true, true, false, false, true, false, false, false, false, false] rfl rfl (any_of HT_.out (by kernel_rfl)) (fun _ _ _ h => h) (Or.inl ⟨by rfl, ?_⟩) ?_ ?_
          rotate_left
          · intro w'
            go_simp
            with_reducible rfl
          rotate_left
          · simp only [Act.put, List.setIfInBounds_toArray, List.set_cons_zero, List.set_cons_succ, i64_w, i32_w]
            rfl
          refine pure_ (i := 7) (N := some 47) (v := ?_) (a' := ?_) #[true, true, true, true, false, false, true, true, false, false, false, false] rfl rfl (any_of HT_.out (by kernel_rfl)) (fun _ _ _ h => h) (Or.inl ⟨by rfl, ?_⟩) ?_ ?_
          rotate_left
          · intro w'
            go_simp
            with_reducible rfl
          rotate_left
          · simp only [Act.put, List.setIfInBounds_toArray, List.set_cons_zero, List.set_cons_succ, i64_w, i32_w]
            rfl
          refine pure_ (i := 8) (N := some 48) (v := ?_) (a' := ?_) #[true, true, true, true, false, false, true, true, true, false, false, false] rfl rfl (any_of HT_.out (by kernel_rfl)) (fun _ _ _ h => h) (Or.inl ⟨by rfl, ?_⟩) ?_ ?_
          rotate_left
          · intro w'
            go_simp
            with_reducible rfl
          rotate_left
          · simp only [Act.put, List.setIfInBounds_toArray, List.set_cons_zero, List.set_cons_succ, i64_w, i32_w]
            rfl
          refine pure_ (i := 9) (N := some 49) (v := ?_) (a' := ?_) #[true, true, true, true, false, false, true, true, true, true, false, false] rfl rfl (any_of HT_.out (by kernel_rfl)) (fun _ _ _ h => h) (Or.inl ⟨by rfl, ?_⟩) ?_ ?_
          rotate_left
          · intro w'
            go_simp
            with_reducible rfl
          rotate_left
          · simp only [Act.put, List.setIfInBounds_toArray, List.set_cons_zero, List.set_cons_succ, i64_w, i32_w]
            rfl
          refine take_ (i := 4) (N := some 44) (v := ?_) (a' := ?_) #[true, true, true, true, true, false, true, true, true, true, false, false] rfl rfl (take_ofW HT_.out HW_.out (by kernel_rfl)) (fun _ _ _ h => h) (Or.inl ⟨by rfl, ?_⟩) hHeld ?_ ?_
          rotate_left
          · rintro w' ⟨s0, s1, s2, s3⟩
            go_simp
            with_reducible rfl
          rotate_left
          · simp only [Act.put, List.setIfInBounds_toArray, List.set_cons_zero, List.set_cons_succ, i64_w, i32_w]
            rfl
          refine take_ (i := 10) (N := some 50) (v := ?_) (a' := ?_) #[true, true, true, true, true, false, true, true, true, true, true, false] rfl rfl (take_ofW HT_.out HW_.out (by kernel_rfl)) (fun _ _ _ h => h) (Or.inl ⟨by rfl, ?_⟩) hHeld ?_ ?_
          rotate_left
          · rintro w' ⟨s0, s1, s2, s3⟩
            go_simp
            with_reducible rfl
          rotate_left
          · simp only [Act.put, List.setIfInBounds_toArray, List.set_cons_zero, List.set_cons_succ, i64_w, i32_w]
            rfl
          refine one_ (i := 5) (N := some 45) #[true, true, true, true, true, true, true, true, true, true, true, false] rfl rfl (one_of HT_.out (by kernel_rfl)) (by decide) (fun K hK => ?_)
          refine goes_ Tryz.func18 (by kernel_rfl) rfl #[.string ((rd_T32 t301 x4_1).f0)] (by rfl) rfl rfl (by (try simp only [List.map_toArray, List.map_cons, List.map_nil]); first | done | rfl | (simp only [List.length_drop, List.length_take]; rfl)) ?_
          with_reducible refine (chars_Valid.calls ((rd_T32 t301 x4_1).f0) t310 _ A19.out).mono ?_
          rintro e w22 ⟨rfl, hb⟩; have HS0_ := (hb.cell (World.block_lt_of_cell? _ _ (hHeld.1))).trans (hHeld.1); have HS1_ := (hb.cell (World.block_lt_of_cell? _ _ (hHeld.2.1))).trans (hHeld.2.1); have HS2_ := (hb.cell (World.block_lt_of_cell? _ _ (hHeld.2.2.1))).trans (hHeld.2.2.1); have HS3_ := (hb.cell (World.block_lt_of_cell? _ _ (hHeld.2.2.2))).trans (hHeld.2.2.2)
          refine ⟨_, rfl, ?_⟩
          have n0_ := Aside0.mk (Kd.R_below (by (with_reducible repeat (first | apply Kd.R_alloc | apply Kd.R_drewN | apply Kd.R_drew)); exact HO_3.out) hb); have n1_ := Aside0.mk (below_step (by repeat (first | (with_reducible first | exact HB.out | apply below_alloc | apply pw_below_drewN | apply below_drew1) | exact HB.out)) hb); clear HO_3; clear HB; have HO_3 := n0_; have HB := n1_; clear n0_ n1_; (try clear hb); (try clear hb2); (try clear hk); (try clear hi)
          refine hK.out _ _ ⟨HS0_, HS1_, HS2_, HS3_⟩ (fun hHeld => ?_)
          clear hK K
          refine norm_ (a' := ?_) ?_ ?_
          rotate_left
          · show Act.put _ (some 45) _ = _
            simp only [Act.put, List.setIfInBounds_toArray, List.set_cons_zero, List.set_cons_succ, i64_w, i32_w]
            rfl
          refine pure_ (i := 11) (N := some 51) (v := ?_) (a' := ?_) #[true, true, true, true, true, true, true, true, true, true, true, true] rfl rfl (any_of HT_.out (by kernel_rfl)) (fun _ _ _ h => h) (Or.inl ⟨by rfl, ?_⟩) ?_ ?_
          rotate_left
          · intro w'
            go_simp
            with_reducible rfl
          rotate_left
          · simp only [Act.put, List.setIfInBounds_toArray, List.set_cons_zero, List.set_cons_succ, i64_w, i32_w]
            rfl
          refine done_ (done_of HT_.out (by kernel_rfl)) ?_
          try go_wp2
          go_roundg kj6
          case measure => have := HK1.out; have := HJ6.out; omega
          case rel => exact ⟨(wrap64 (x4_1 + 1)), (by first | rfl | (simp; done) | (simp [*]; done)), H', ⟨by have := HK1.out; have := HJ6.out; omega⟩, ⟨by (with_reducible repeat (first | apply Kd.R_alloc | apply Kd.R_drewN | apply Kd.R_drew)); exact HO_3.out⟩, ⟨by repeat (first | (with_reducible first | exact HB.out | apply below_alloc | apply pw_below_drewN | apply below_drew1) | exact HB.out)⟩⟩
def muslinlaw08_AddrGood.Pure : Prop := ∀ (a0 : ByteArray), a0.size ≤ 140737488351232 → ∃ k, muslinlaw08_AddrGood.f k a0 = some true
theorem muslinlaw08_AddrGood.walk (P : muslinlaw08_AddrGood.Pure) (a0 : ByteArray) (w : World) (hGl : Glob w) (w0 : a0.size ≤ 140737488351232) :
    Calls Tryz.prog 6 #[.string a0] w fun e w' => e = .returned (.bool true) ∧ Below w.heap.size w w' := by
  obtain ⟨k, h⟩ := P a0 w0
  refine (muslinlaw08_AddrGood.calls k a0 true w hGl h).mono ?_
  rintro e w' ⟨rfl, hd⟩
  exact ⟨rfl, hd⟩
end Go.Proofs.YtpcncpegbboljaaGreatDoor.P
namespace Go.Proofs.YtpcncpegbboljaaGreatDoor.P
open Go.RowKit Go.Proofs.YtpcncpegbboljaaGreatDoorW.PrintWords Go.Proofs.YtpcncpegbboljaaGreatDoorW.PrintLast Go.Proofs.YtpcncpegbboljaaGreatDoorW.PrintMore
attribute [local go_sem] max2_int min2_int max_two min_two max_three min_three max_four min_four
set_option linter.unusedVariables false
set_option linter.unusedSimpArgs false
def muslinref08_box.T9 : Bool × List (List Nat × List Nat) := (true, [([], []), ([], []), ([0, 1], [0, 1]), ([2], [2]), ([], []), ([], []), ([5], [5]), ([], []), ([4, 6, 7], [4, 6, 7]), ([8, 3], [8]), ([3, 9], [3, 9]), ([10, 9, 0, 1, 2, 3, 4, 5, 6, 7, 8, 9, 10], [10])])
def muslinref08_box.B9 : List Nat := [0, 0, 3, 7, 0, 0, 32, 0, 240, 511, 1023, 2047]
theorem muslinref08_box.tab9 : rtab .any (opsOf Tryz.f22 9) = muslinref08_box.T9 := by kernel_rfl
theorem muslinref08_box.bits9 : waitsOk muslinref08_box.T9.2 muslinref08_box.B9 = true := by kernel_rfl
end Go.Proofs.YtpcncpegbboljaaGreatDoor.P
namespace Go.Proofs.YtpcncpegbboljaaGreatDoor.Pure
open Go.RowKit Go.Lib Go.Proofs.YtpcncpegbboljaaGreatDoor Go.Proofs.YtpcncpegbboljaaGreatDoor.P Go.Proofs.YtpcncpegbboljaaGreatDoor.Addr Go.Proofs.YtpcncpegbboljaaGreatDoorW.PrintWords Go.Proofs.YtpcncpegbboljaaGreatDoorW.PrintLast Go.Proofs.YtpcncpegbboljaaGreatDoorW.PrintMore
set_option linter.unusedVariables false
set_option linter.unusedSimpArgs false
def mkB (l : List UInt8) : ByteArray := ⟨l.toArray⟩
theorem mkB_data (l : List UInt8) : (mkB l).data.toList = l := rfl
theorem mkB_size (l : List UInt8) : (mkB l).size = l.length := mk_size l
end Go.Proofs.YtpcncpegbboljaaGreatDoor.Pure
namespace Go.Proofs.YtpcncpegbboljaaGreatDoor.Pure
open Go.RowKit Go.Lib Go.Proofs.YtpcncpegbboljaaGreatDoor Go.Proofs.YtpcncpegbboljaaGreatDoor.P Go.Proofs.YtpcncpegbboljaaGreatDoor.Addr Go.Proofs.YtpcncpegbboljaaGreatDoorW.PrintWords Go.Proofs.YtpcncpegbboljaaGreatDoorW.PrintLast Go.Proofs.YtpcncpegbboljaaGreatDoorW.PrintMore
set_option linter.unusedVariables false
set_option linter.unusedSimpArgs false
theorem boxP_len (l : List UInt8) : (boxP l).2.length ≤ l.length := by
  have h := boxM_len (mkB l)
  rw [(boxNM_is (mkB l)).2, mkB_data, mkB_size] at h
  exact h
theorem textsF_len : ∀ (n : Nat) (l cur : List UInt8) (ang : Bool), l.length ≤ n → (textsF cur ang l).length ≤ l.length + 1 ∧ ∀ t ∈ textsF cur ang l, t.length ≤ cur.length + l.length
  | _, [], cur, ang, _ => by rw [textsF_nil]; simp
  | 0, c :: r, _, _, h => by simp at h
  | n + 1, c :: r, cur, ang, h => by
    simp only [List.length_cons] at h
    have hi := itemL_len c r
    rw [textsF_cons]
    have one : ∀ a2, (textsF (cur ++ [c]) a2 r).length ≤ (c :: r).length + 1 ∧ ∀ t ∈ textsF (cur ++ [c]) a2 r, t.length ≤ cur.length + (c :: r).length := by
      intro a2
      obtain ⟨i1, i2⟩ := textsF_len n r (cur ++ [c]) a2 (by omega)
      refine ⟨by simp only [List.length_cons]; omega, fun t ht => ?_⟩
      have := i2 t ht
      simp only [List.length_append, List.length_cons, List.length_nil] at this ⊢; omega
    split
    · exact one true
    · split
      · exact one false
      · split
        · obtain ⟨i1, i2⟩ := textsF_len n r [] ang (by omega)
          refine ⟨by simp only [List.length_cons]; omega, fun t ht => ?_⟩
          rcases List.mem_cons.1 ht with rfl | ht
          · omega
          · have := i2 t ht
            simp only [List.length_nil, List.length_cons] at this ⊢; omega
        · have hdl : ((c :: r).drop (itemL (c :: r)).1).length = r.length + 1 - (itemL (c :: r)).1 := by rw [List.length_drop, List.length_cons]
          have htl : ((c :: r).take (itemL (c :: r)).1).length = (itemL (c :: r)).1 := by rw [List.length_take, List.length_cons]; omega
          obtain ⟨i1, i2⟩ := textsF_len n ((c :: r).drop (itemL (c :: r)).1) (cur ++ (c :: r).take (itemL (c :: r)).1) ang (by omega)
          refine ⟨by simp only [List.length_cons]; omega, fun t ht => ?_⟩
          have := i2 t ht
          simp only [List.length_append, List.length_cons] at this ⊢; omega
theorem live_100 : muslinlaw08_live.f 100 = some true := by kernel_rfl
theorem live_is : Ev (fun k => muslinlaw08_live.f k) true := Ev.of (fun k => muslinlaw08_live.mono k) live_100
theorem live_end : Ev (fun k => (muslinlaw08_live.f k).bind fun t => some t) true := Ev.bind live_is (Ev.now _)
theorem short_got (a : ByteArray) : muslinlaw08_short.f a = some (decide (a.size ≤ 1500)) := by
  unfold muslinlaw08_short.f
  congr 1
  exact decide_eq_decide.2 (by omega)
theorem parseP_len (l : List UInt8) : (parseP l).length ≤ l.length + 1 := by
  have h := (textsF_len _ l [] false (Nat.le_refl _)).1
  unfold parseP
  have key : ∀ xs : List (List UInt8), (xs.flatMap fun t => keepP (boxP t)).length ≤ xs.length := by
    intro xs
    induction xs with
    | nil => simp
    | cons x xs ih =>
      rw [List.flatMap_cons, List.length_append, List.length_cons]
      have one : ∀ (c : Prop) [Decidable c] (v : List UInt8 × List UInt8), (if c then ([] : List (List UInt8 × List UInt8)) else [v]).length ≤ 1 := by
        intro c _ v
        by_cases h : c
        · rw [if_pos h]; simp
        · rw [if_neg h]; simp
      have : (keepP (boxP x)).length ≤ 1 := one _ _
      omega
  have := key (textsF [] false l)
  omega
theorem rd_box (l : List (List UInt8 × List UInt8)) (i : Nat) (h : i < l.length) : rd_T32 (l.map toBox) (i : Int) = toBox l[i] := by
  unfold rd_T32
  simp [h]
theorem toBox0 (x : List UInt8 × List UInt8) : (toBox x).f0.data.toList = x.1 := rfl
theorem toBox1 (x : List UInt8 × List UInt8) : (toBox x).f1.data.toList = x.2 := rfl
theorem toBox0z (x : List UInt8 × List UInt8) : (toBox x).f0.size = x.1.length := mk_size _
theorem toBox1z (x : List UInt8 × List UInt8) : (toBox x).f1.size = x.2.length := mk_size _
theorem valid_got (s : ByteArray) (h : s.size ≤ 100000000) : chars_Valid.f s = some (mkB (vl s.data.toList)) := by
  unfold chars_Valid.f
  rw [if_pos (by omega), validS_eq]; rfl
theorem wordGo_len8 (N : Nat) : ∀ (n : Nat) (p : List UInt8) (b : Bool) (l : List UInt8), l.length ≤ N → (WordL.wordGo n p b l).length ≤ 3 * p.length + l.length * (6 * N + 3)
  | 0, p, b, l, h => by
    have := WordL.vl_len p
    simp only [WordL.wordGo]; omega
  | n + 1, p, b, [], h => by
    have := WordL.vl_len p
    simp only [WordL.wordGo]; omega
  | n + 1, p, b, c :: r, h => by
    simp only [List.length_cons] at h
    have hv := WordL.vl_len p
    have h1 := WordL.one_len1 (c :: r)
    have h2 := WordL.one_le (c :: r)
    have hm : (r.length + 1) * (6 * N + 3) = r.length * (6 * N + 3) + (6 * N + 3) := Nat.succ_mul _ _
    simp only [WordL.wordGo, List.length_cons]
    simp only [List.length_cons] at h1 h2
    split
    · have ih := wordGo_len8 N n (p ++ [c]) b r (by omega)
      rw [List.length_append] at ih
      simp only [List.length_cons, List.length_nil] at ih
      omega
    · rename_i h0
      have hdl : ((c :: r).drop (WordL.oneL (c :: r)).2).length ≤ r.length := by rw [List.length_drop, List.length_cons]; omega
      have ih := wordGo_len8 N n [] true ((c :: r).drop (WordL.oneL (c :: r)).2) (by omega)
      have hmm := Nat.mul_le_mul_right (6 * N + 3) hdl
      rw [List.length_append, List.length_append]
      simp only [List.length_nil] at ih
      have hif : (if (b && p.all WordL.white) = true then ([] : List UInt8) else vl p).length ≤ 3 * p.length := by
        split
        · simp
        · exact hv
      omega
theorem word_size8 (l : List UInt8) (h : l.length ≤ 2000) : (WordL.wordL l).length ≤ 100000000 := by
  have := wordGo_len8 2000 l.length [] false l h
  have h2 : l.length * (6 * 2000 + 3) ≤ 2000 * (6 * 2000 + 3) := Nat.mul_le_mul_right _ h
  simp only [List.length_nil] at this
  unfold WordL.wordL WordL.wordF
  omega
theorem called_size8 (l : List UInt8) (h : l.length ≤ 2000) : (calledL l).length ≤ 100000000 := by
  have ht := trimW_le l
  unfold calledL
  split
  · exact word_size8 [] (by decide)
  · rename_i c r he
    rw [he] at ht
    split
    · refine word_size8 _ (Nat.le_trans (innerL_len _ _) ?_)
      rw [List.length_take]; omega
    · exact word_size8 _ (by omega)
theorem box_size8 : ∀ (f : Nat) (pre rest rm : List UInt8) (fd : Bool) (l : List UInt8), pre.length + l.length ≤ 2000 → rm.length ≤ 2000 → (boxG f pre rest rm fd l).1.length ≤ 100000000
  | 0, pre, rest, rm, fd, l, h, h2 => word_size8 _ (Nat.le_trans (trimW_le _) h2)
  | f + 1, pre, rest, rm, fd, [], h, h2 => word_size8 _ (Nat.le_trans (trimW_le _) h2)
  | f + 1, pre, rest, rm, fd, c :: r, h, h2 => by
    have hi := itemL_len c r
    simp only [List.length_cons] at h
    have htl : ((c :: r).take (itemL (c :: r)).1).length = (itemL (c :: r)).1 := by rw [List.length_take, List.length_cons]; omega
    have hdl : ((c :: r).drop (itemL (c :: r)).1).length = r.length + 1 - (itemL (c :: r)).1 := by rw [List.length_drop, List.length_cons]
    have hin := innerL_len ((c :: r).take (itemL (c :: r)).1) (itemL (c :: r)).2
    simp only [boxG]
    split
    · exact called_size8 pre (by omega)
    · split
      · exact box_size8 f _ _ _ _ _ (by rw [List.length_append]; omega) (by split <;> omega)
      · exact box_size8 f _ _ _ _ _ (by rw [List.length_append]; omega) h2
theorem boxP_len1 (l : List UInt8) (h : l.length ≤ 2000) : (boxP l).1.length ≤ 100000000 :=
  box_size8 _ [] [] [] false l (by simpa using h) (by simp)
theorem good_all (l : List (List UInt8 × List UInt8)) (hl : l.length ≤ 10000) (h : ∀ x ∈ l, Val x.1 ∧ (goodL x.2 = true ∨ (x.2 = [] ∧ x.1 ≠ []))) (hz : ∀ x ∈ l, x.1.length ≤ 100000000 ∧ x.2.length ≤ 10000) :
    ∀ (n i : Nat), l.length - i ≤ n → Ev (fun k => muslinlaw08_AddrGood.l0 k (l.map toBox) (i : Int)) true := by
  intro n
  induction n with
  | zero =>
    intro i h1
    refine Ev.round (fun k => by rw [muslinlaw08_AddrGood.l0]) ?_
    refine Ev.neg (by rw [List.length_map]; omega) ?_
    exact live_end
  | succ n ih =>
    intro i h1
    refine Ev.round (fun k => by rw [muslinlaw08_AddrGood.l0]) ?_
    by_cases hlt : i < l.length
    · obtain ⟨x, hx⟩ : ∃ x, l[i] = x := ⟨_, rfl⟩
      have hm : x ∈ l := hx ▸ List.getElem_mem hlt
      obtain ⟨hv, hg⟩ := h x hm
      obtain ⟨z1, z2⟩ := hz x hm
      have jt : Ev (fun k => muslinlaw08_AddrGood.j1 k (l.map toBox) (i : Int) false) true := by
        refine Ev.round (fun k => by rw [muslinlaw08_AddrGood.j1]) ?_
        refine Ev.neg Bool.false_ne_true ?_
        refine Ev.pos (by omega) ?_
        refine Ev.pos (by rw [List.length_map]; omega) ?_
        rw [rd_box l i hlt, hx]
        refine Ev.got (valid_got _ (by rw [toBox0z]; omega)) ?_
        refine Ev.pos (by rw [toList_eq, toList_eq, mkB_data, toBox0, show vl x.1 = x.1 from valL_stays _ _ hv (Nat.le_refl _)]) ?_
        rw [w64 (x := (i : Int) + 1) (by omega) (by omega), show ((i : Int) + 1) = ((i + 1 : Nat) : Int) from by omega]
        exact ih (i + 1) (by omega)
      refine Ev.pos (by rw [List.length_map]; omega) ?_
      refine Ev.pos (by omega) ?_
      rw [rd_box l i hlt, hx]
      refine Ev.got (x := addr_Good.f (toBox x).f1) (guard_of (by rw [toBox1z]; omega)) ?_
      rw [toBox1]
      rcases hg with hg | ⟨h2, h1⟩
      · refine Ev.pos hg ?_
        exact jt
      · by_cases hg : goodL x.2 = true
        · refine Ev.pos hg ?_
          exact jt
        · refine Ev.neg hg ?_
          refine Ev.pos (by rw [toList_eq, toBox1]; exact h2) ?_
          rw [show ((toBox x).f0.toList == ([] : List UInt8)) = false from by rw [toList_eq, toBox0]; simpa using h1]
          exact jt
    · refine Ev.neg (by rw [List.length_map]; omega) ?_
      exact live_end
theorem AddrGood : muslinlaw08_AddrGood.Pure := by
  intro a _
  refine Ev.rounds (r := true) (g := fun k => muslinlaw08_AddrGood.f k a) ?_
  unfold muslinlaw08_AddrGood.f
  refine Ev.got (short_got a) ?_
  by_cases h : a.size ≤ 1500
  · refine Ev.pos (decide_eq_true h) ?_
    refine Ev.got (x := addr_Parse.f a) (guard_of (by omega)) ?_
    have hpl := parseP_len a.data.toList
    have hts := textsF_len _ a.data.toList [] false (Nat.le_refl _)
    rw [sizeL] at hpl
    refine good_all (parseP a.data.toList) (by omega) (parse_good _) (fun x hx => ?_) _ 0 (Nat.le_refl _)
    obtain ⟨t, ht, hk⟩ := List.mem_flatMap.1 hx
    have htl := hts.2 t ht
    rw [sizeL, List.length_nil] at htl
    have b1 := boxP_len1 t (by omega)
    have b2 := boxP_len t
    unfold keepP at hk
    by_cases hn : (boxP t).1 = [] ∧ (if goodL (boxP t).2 = true then (boxP t).2 else []) = []
    · rw [if_pos hn] at hk; cases hk
    · rw [if_neg hn] at hk
      obtain rfl := List.mem_singleton.1 hk
      refine ⟨b1, ?_⟩
      show (if goodL (boxP t).2 = true then (boxP t).2 else []).length ≤ 10000
      split
      · omega
      · simp
  · refine Ev.neg (by rw [decide_eq_false h]; exact Bool.false_ne_true) ?_
    exact live_end
end Go.Proofs.YtpcncpegbboljaaGreatDoor.Pure
namespace Go.Proofs.YtpcncpegbboljaaGreatDoor
open Go.RowKit Go.ChangeShapes Go.WideShapes Go.ChangeAt Go.Lib
theorem glob_of {W : World} {a : DataW Unit} (ha : a = acceptData) (h : laidMet Tryz.prog [("unicode/utf8.acceptRanges", a), ("muslin/chars.high", Lib.tabData .i32 highTab), ("unicode/utf8.first", Go.Pinned.utf8First)] W) (hsh : W.ShapedOpen Tryz.prog) : Glob W := by
  refine ⟨Lib.tabIs_of_head (show Tryz.prog.globalNamed "muslin/chars.high" = some 3 from by kernel_rfl) (show (Tryz.prog.globals[3]?).map (·.type) = some 160 from by kernel_rfl) Tryz.underlying160 Tryz.underlying21 (by kernel_rfl) (by kernel_rfl) h.tail, ?_, ?_⟩
  · obtain ⟨ps, hl, _⟩ := h
    have rd := LaidVars_reads hl
    have r1 := rd "unicode/utf8.acceptRanges" a (by simp)
    have r3 := rd "unicode/utf8.first" Go.Pinned.utf8First (by simp)
    rw [ha] at r1
    rw [Go.Pinned.utf8First_eq] at r3
    exact utf8Tabs_of_reads Tryz.lays260 ⟨by kernel_rfl, by kernel_rfl, by kernel_rfl, by kernel_rfl, by kernel_rfl, by kernel_rfl, by kernel_rfl⟩ r3 r1
  · exact Go.Proofs.cell_of_shapedOpen_int (zero := #[.int .i64 0]) (t := 3) hsh (of_decide_eq_true (by kernel_rfl)) (by kernel_rfl) rfl (by kernel_rfl) (by kernel_rfl) Tryz.underlying3
theorem glob_addrGood {W : World} (h : laidMetH Tryz.prog Rows.addrGoodRow.laid W) (hsh : W.ShapedOpen Tryz.prog) : Glob W := glob_of (by kernel_rfl) h hsh
theorem wrap_shaped {H : Type} {enc : TypeId × Value → H} {a : Assume} {C : Checked} {os : Os} {f : FuncId} {fn : Func} {s : ChangeSpec} {conds : List PathCond} {apart fresh handsOn again : Bool} {X : World → Array Value → Prop}
    (hX : ∀ (w w' : World) (args : Array Value), w.heap = w'.heap → X w args → X w' args)
    (own : ownKnob C.prog.godebug = none) (started : os.Started) (noInit : C.prog.inits.idxOf? f = none) (hfn : C.prog.funcs[f]? = some fn)
    (witness : ∃ (w : World) (tape : Tape) (i : Input), w.os = os ∧ (w.forCall tape i).Shaped C.prog ∧ i.vars = [] ∧ Input.okWide C.prog (w.forCall tape i) .any w.heap.size f i ∧
      ((s.pre enc C.prog fn conds apart (w.forCall tape i).memory i.args ∧ X (w.forCall tape i).memory i.args) ∧ sizedMet enc C.prog fn (OpenSpec.ofChange s) apart (w.forCall tape i).memory i.args) ∧ a.holds C.prog (lone (Frame.enter C.prog f i.args .normal) [] (w.forCall tape i)))
    (contract : ∀ (W : World) (base : Nat) (args : Array Value) (ds gs : List (DataW H)) (before : List MemPlace),
      (∀ (j : Nat) t v, fn.params[j]? = some t → args[j]? = some v → Value.okWide C.prog W .any base t v) →
      DataW.Whole enc C.prog fn.params.toList s.vars apart W args.toList ds gs before →
      conds.all (PathCond.test C.prog ⟨fn.params.toList, ds, s.plain.varTypes C.prog, gs⟩) = true →
      (DataW.weightsEach C.prog (fn.params.toList ++ s.plain.varTypes C.prog) (ds ++ gs)).all (· ≤ reachBytes) = true → X W args → W.ShapedOpen C.prog →
      a.holds C.prog (lone (Frame.enter C.prog f args .normal) [] W) →
      Calls C.prog f args W fun e W' => ∃ v, e = .returned v ∧ s.post enc C.prog fn apart fresh handsOn again W args v W') :
    ReturnsInHanded a C os f .any (fun w args => (s.pre enc C.prog fn conds apart w args ∧ X w args) ∧ sizedMet enc C.prog fn (OpenSpec.ofChange s) apart w args) (s.post enc C.prog fn apart fresh handsOn again) := by
  refine returnsInHanded_of_calls own started noInit witness ?_
  intro w tape i _ hsh _ hok hpre hholds
  obtain ⟨_, _, _, fn', hfn', _, _, _, _, hval⟩ := hok
  obtain rfl : fn' = fn := Option.some.inj (hfn'.symm.trans hfn)
  obtain ⟨⟨⟨ds, gs, before, hw, hc⟩, hx⟩, hz⟩ := hpre
  refine (contract (w.forCall tape i) w.heap.size i.args ds gs before hval (DataW.Whole.of_heap (w' := w.forCall tape i) (by rfl) hw) hc (hz.weights hw) (hX _ _ _ (by rfl) hx) hsh hholds).mono fun e W' ⟨v, he, hp⟩ => ?_
  subst he
  exact ChangeSpec.post_blind hp
end Go.Proofs.YtpcncpegbboljaaGreatDoor
