/- Parts of the proof of the law EntDecodes, in one text: P2, Pure12, Laid12. -/
import Derived.Test.YtkfcbafjcjmfnaaGreatDoorMgEntDecodes2
import Derived.Test.YtkfcbafjcjmfnaaGreatDoorRows
import Derived.Lay
import Derived.PinnedBridge
import Derived.Lib.LaidU8
import Derived.Stop.LaidErr
import Derived.LaidMore
import Derived.ProofKit
import Derived.HandedShaped
import Derived.Handed
set_option linter.unusedVariables false
set_option linter.unusedSimpArgs false
namespace Go.Proofs.YtkfcbafjcjmfnaaGreatDoor.P
open Go.RowKit Go.Proofs.YtkfcbafjcjmfnaaGreatDoorW.PrintWords Go.Proofs.YtkfcbafjcjmfnaaGreatDoorW.PrintLast Go.Proofs.YtkfcbafjcjmfnaaGreatDoorW.PrintMore
attribute [local go_sem] max2_int min2_int max_two min_two max_three min_three max_four min_four
set_option linter.unusedVariables false
set_option linter.unusedSimpArgs false
mutual
def muslinlaw12_EntSafe.l0 : Nat → ByteArray → ByteArray → Int → Option (Bool)
  | 0, _, _, _ => none
  | k + 1, x3, x4, x5 => if x5 < (x3.size : Int) then (if 0 ≤ x5 then (if (bt x3 x5) = 60 then (muslinlaw12_EntSafe.j1 k x3 x4 x5 true) else (muslinlaw12_EntSafe.j1 k x3 x4 x5 ((bt x3 x5) == 62))) else (none)) else (muslinlaw12_EntSafe.l1 k x4 0)
def muslinlaw12_EntSafe.j1 : Nat → ByteArray → ByteArray → Int → Bool → Option (Bool)
  | 0, _, _, _, _ => none
  | k + 1, x3, x4, x5, x32 => if x32 = true then (some false) else (if 0 ≤ x5 then (if x5 < (x3.size : Int) then (if (bt x3 x5) = 38 then (if x5 ≤ (x3.size : Int) then ((muslinref12_One.f (x3.extract (x5 : Int).toNat x3.size)).bind fun bt161 => (if bt161.2 = 0 then (some false) else (muslinlaw12_EntSafe.l0 k x3 x4 (wrap64 (x5 + 1))))) else (none)) else (muslinlaw12_EntSafe.l0 k x3 x4 (wrap64 (x5 + 1)))) else (none)) else (none))
def muslinlaw12_EntSafe.l1 : Nat → ByteArray → Int → Option (Bool)
  | 0, _, _ => none
  | k + 1, x4, x8 => if x8 < (x4.size : Int) then (if 0 ≤ x8 then (if (bt x4 x8) = 60 then (some false) else (if (bt x4 x8) = 62 then (some false) else (if (bt x4 x8) = 34 then (some false) else (muslinlaw12_EntSafe.l1 k x4 (wrap64 (x8 + 1)))))) else (none)) else ((muslinlaw12_live.f).bind fun t163 => (some t163))
end
def muslinlaw12_EntSafe.f (k : Nat) (a0 : ByteArray) : Option (Bool) := (muslinlaw12_short.f a0).bind fun t157 => (if t157 = true then ((ent_Text.f a0).bind fun t159 => ((ent_Value.f a0).bind fun t160 => (muslinlaw12_EntSafe.l0 k t159 t160 0))) else ((muslinlaw12_live.f).bind fun t158 => (some t158)))
set_option maxHeartbeats 8000000 in
set_option maxRecDepth 100000 in
theorem muslinlaw12_EntSafe.calls (k : Nat) (a0 : ByteArray) (r : Bool) (w : World) (hGl : Ent.GlobE w) (h : muslinlaw12_EntSafe.f k a0 = some r) :
    Calls Tryz.prog 6 #[.string a0] w fun e w' => e = .returned (.bool r) ∧ Below w.heap.size w w' := by
  have HGl := Aside0.mk hGl; clear hGl; have HB := Aside0.mk (Below.refl w.heap.size w); have H : ((muslinlaw12_short.f a0).bind fun t157 => (if t157 = true then ((ent_Text.f a0).bind fun t159 => ((ent_Value.f a0).bind fun t160 => (muslinlaw12_EntSafe.l0 k t159 t160 0))) else ((muslinlaw12_live.f).bind fun t158 => (some t158)))) = some r := h; clear h; replace H := Option.bind_eq_some_iff.mp H; obtain ⟨t157, A20, H⟩ := H; replace H : (if t157 = true then ((ent_Text.f a0).bind fun t159 => ((ent_Value.f a0).bind fun t160 => (muslinlaw12_EntSafe.l0 k t159 t160 0))) else ((muslinlaw12_live.f).bind fun t158 => (some t158))) = some r := H; have A2 := Aside0.mk A20; clear A20
  by_cases c3 : t157 = true
  case neg =>
    replace c3 := Bool.eq_false_iff.mpr c3; subst c3
    have H1 : ((muslinlaw12_live.f).bind fun t158 => (some t158)) = some r := by rw [if_neg (show ¬ (false = true) by decide)] at H; exact H
    clear H; have H := H1; clear H1; replace H := Option.bind_eq_some_iff.mp H; obtain ⟨t158, A350, H⟩ := H; replace H : (some t158) = some r := H; have A35 := Aside0.mk A350; clear A350; obtain rfl := Option.some.inj H
    go_enter Tryz.func6, Tryz.ntmps6
    go_wp2_with (first | ((with_reducible refine gate_callee (f := 10) rfl ?_); refine goesL_ (some 10) rfl rfl Tryz.func10 (by kernel_rfl) rfl #[.string a0] rfl (by (try simp only [List.map_toArray, List.map_cons, List.map_nil]); first | done | rfl | (simp only [List.length_drop, List.length_take]; rfl)) ?_; (with_reducible refine (muslinlaw12_short.calls a0 false _ A2.out).mono ?_); rintro e w' ⟨rfl, ⟨nd, rfl⟩⟩; refine ⟨_, rfl, ?_⟩) | ((with_reducible refine gate_callee (f := 11) rfl ?_); refine goesL_ (some 12) rfl rfl Tryz.func11 (by kernel_rfl) rfl #[] rfl (by (try simp only [List.map_toArray, List.map_cons, List.map_nil]); first | done | rfl | (simp only [List.length_drop, List.length_take]; rfl)) ?_; (with_reducible refine (muslinlaw12_live.calls  t158 _ ?sideGl A35.out).mono ?_); (case sideGl => exact HGl.out.below (by repeat (first | (with_reducible first | exact HB.out | apply below_alloc | apply pw_below_drewN | apply below_drew1) | exact HB.out))); rintro e w36 ⟨rfl, hb⟩; refine ⟨_, rfl, ?_⟩; have n0_ := Aside0.mk (below_step (by repeat (first | (with_reducible first | exact HB.out | apply below_alloc | apply pw_below_drewN | apply below_drew1) | exact HB.out)) hb); clear HB; have HB := n0_; clear n0_; (try clear hb); (try clear hb2); (try clear hk); (try clear hi)))
    go_ret
    exact ⟨by first | rfl | (simp [errW_none, errW_some] <;> rfl) | (simp [*, errW_none, errW_some] <;> rfl), by repeat (first | (with_reducible first | exact HB.out | apply below_alloc | apply pw_below_drewN | apply below_drew1) | exact HB.out)⟩
  subst c3
  have H1 : ((ent_Text.f a0).bind fun t159 => ((ent_Value.f a0).bind fun t160 => (muslinlaw12_EntSafe.l0 k t159 t160 0))) = some r := by rw [if_pos rfl] at H; exact H
  clear H; have H := H1; clear H1; replace H := Option.bind_eq_some_iff.mp H; obtain ⟨t159, A40, H⟩ := H; replace H : ((ent_Value.f a0).bind fun t160 => (muslinlaw12_EntSafe.l0 k t159 t160 0)) = some r := H; have A4 := Aside0.mk A40; clear A40; replace H := Option.bind_eq_some_iff.mp H; obtain ⟨t160, A50, H⟩ := H; replace H : (muslinlaw12_EntSafe.l0 k t159 t160 0) = some r := H; have A5 := Aside0.mk A50; clear A50; have H' := Aside0.mk H; clear H
  go_enter Tryz.func6, Tryz.ntmps6
  go_wp2_with (first | ((with_reducible refine gate_callee (f := 10) rfl ?_); refine goesL_ (some 10) rfl rfl Tryz.func10 (by kernel_rfl) rfl #[.string a0] rfl (by (try simp only [List.map_toArray, List.map_cons, List.map_nil]); first | done | rfl | (simp only [List.length_drop, List.length_take]; rfl)) ?_; (with_reducible refine (muslinlaw12_short.calls a0 true _ A2.out).mono ?_); rintro e w' ⟨rfl, ⟨nd, rfl⟩⟩; refine ⟨_, rfl, ?_⟩) | ((with_reducible refine gate_callee (f := 14) rfl ?_); refine goesL_ (some 14) rfl rfl Tryz.func14 (by kernel_rfl) rfl #[.string a0] rfl (by (try simp only [List.map_toArray, List.map_cons, List.map_nil]); first | done | rfl | (simp only [List.length_drop, List.length_take]; rfl)) ?_; (with_reducible refine (ent_Text.calls a0 t159 _ A4.out).mono ?_); rintro e w6 ⟨rfl, hb⟩; refine ⟨_, rfl, ?_⟩; have n0_ := Aside0.mk (below_step (by repeat (first | (with_reducible first | exact HB.out | apply below_alloc | apply pw_below_drewN | apply below_drew1) | exact HB.out)) hb); clear HB; have HB := n0_; clear n0_; (try clear hb); (try clear hb2); (try clear hk); (try clear hi)) | ((with_reducible refine gate_callee (f := 16) rfl ?_); refine goesL_ (some 16) rfl rfl Tryz.func16 (by kernel_rfl) rfl #[.string a0] rfl (by (try simp only [List.map_toArray, List.map_cons, List.map_nil]); first | done | rfl | (simp only [List.length_drop, List.length_take]; rfl)) ?_; (with_reducible refine (ent_Value.calls a0 t160 _ ?sideGl A5.out).mono ?_); (case sideGl => exact HGl.out.below (by repeat (first | (with_reducible first | exact HB.out | apply below_alloc | apply pw_below_drewN | apply below_drew1) | exact HB.out))); rintro e w7 ⟨rfl, hb⟩; refine ⟨_, rfl, ?_⟩; have n0_ := Aside0.mk (below_step (by repeat (first | (with_reducible first | exact HB.out | apply below_alloc | apply pw_below_drewN | apply below_drew1) | exact HB.out)) hb); clear HB; have HB := n0_; clear n0_; (try clear hb); (try clear hb2); (try clear hk); (try clear hi)))
  go_loopg [5] k (fun kq v5 w' => ∃ (x5_1 : Int), v5 = .int .i64 x5_1 ∧ Aside0 (muslinlaw12_EntSafe.l0 kq t159 t160 x5_1 = some r) ∧ Aside0 (kq ≤ k) ∧ Aside0 (Below w.heap.size w w'))
  case atStart => exact ⟨(0), (by first | rfl | (simp; done) | (simp [*]; done)), H', ⟨Nat.le_refl _⟩, ⟨by repeat (first | (with_reducible first | exact HB.out | apply below_alloc | apply pw_below_drewN | apply below_drew1) | exact HB.out)⟩⟩
  case round =>
    clear H'; (try clear c1); (try clear p2); (try clear c3); (try clear c6); obtain ⟨x5_1, rfl, HA, HK1, HB⟩ := hrel
    cases gk with
    | zero => exact absurd HA.out (by simp [muslinlaw12_EntSafe.l0])
    | succ k1 =>
      have H := HA.out; clear HA; simp only [muslinlaw12_EntSafe.l0] at H
      by_cases c8 : x5_1 < (t159.size : Int)
      case neg =>
        rw [if_neg c8] at H; have c8b0 : decide (x5_1 < (t159.size : Int)) = false := decide_eq_false c8; clear c8; have H' := Aside0.mk H; clear H
        go_wp2
        go_loopg [8] k1 (fun kq v8 w' => ∃ (x8_2 : Int), v8 = .int .i64 x8_2 ∧ Aside0 (muslinlaw12_EntSafe.l1 kq t160 x8_2 = some r) ∧ Aside0 (kq ≤ k1) ∧ Aside0 (Below w.heap.size w w'))
        case atStart => exact ⟨(0), (by first | rfl | (simp; done) | (simp [*]; done)), H', ⟨Nat.le_refl _⟩, ⟨by repeat (first | (with_reducible first | exact HB.out | apply below_alloc | apply pw_below_drewN | apply below_drew1) | exact HB.out)⟩⟩
        case round =>
          clear H'; (try clear c1); (try clear p1); (try clear q1); (try clear hx1); (try clear c2); (try clear p2); (try clear c3); (try clear c6); (try clear p6); (try clear c8); (try clear c8b0); (try clear c10); (try clear c10b0); (try clear p11); (try clear q11); (try clear hx11); (try clear c12); (try clear c12b0); (try clear c12b1); (try clear p13); (try clear q13); (try clear hx13); (try clear c14); (try clear c15); (try clear c15b0); (try clear c16); (try clear c16b0); (try clear p17); (try clear q17); (try clear hx17); (try clear c18); (try clear c18b0); (try clear c18b1); (try clear c19); (try clear c19b0); (try clear c20); (try clear c20b0); (try clear c20b1); (try clear c22); (try clear c22b0); (try clear c22b1); (try clear p1); (try clear p11); (try clear p13); (try clear p17); (try clear p2); (try clear q1); (try clear q11); (try clear q13); (try clear q17); obtain ⟨x8_2, rfl, HA, HK2, HB⟩ := hrel
          cases gk with
          | zero => exact absurd HA.out (by simp [muslinlaw12_EntSafe.l1])
          | succ k2 =>
            have H := HA.out; clear HA; simp only [muslinlaw12_EntSafe.l1] at H
            by_cases c25 : x8_2 < (t160.size : Int)
            case neg =>
              rw [if_neg c25] at H; have c25b0 : decide (x8_2 < (t160.size : Int)) = false := decide_eq_false c25; clear c25; replace H := Option.bind_eq_some_iff.mp H; obtain ⟨t163, A330, H⟩ := H; replace H : (some t163) = some r := H; have A33 := Aside0.mk A330; clear A330; obtain rfl := Option.some.inj H; go_wp2_with (first | ((with_reducible refine gate_callee (f := 11) rfl ?_); refine goesL_ (some 68) rfl rfl Tryz.func11 (by kernel_rfl) rfl #[] rfl (by (try simp only [List.map_toArray, List.map_cons, List.map_nil]); first | done | rfl | (simp only [List.length_drop, List.length_take]; rfl)) ?_; (with_reducible refine (muslinlaw12_live.calls  t163 _ ?sideGl A33.out).mono ?_); (case sideGl => exact HGl.out.below (by repeat (first | (with_reducible first | exact HB.out | apply below_alloc | apply pw_below_drewN | apply below_drew1) | exact HB.out))); rintro e w34 ⟨rfl, hb⟩; refine ⟨_, rfl, ?_⟩; have n0_ := Aside0.mk (below_step (by repeat (first | (with_reducible first | exact HB.out | apply below_alloc | apply pw_below_drewN | apply below_drew1) | exact HB.out)) hb); clear HB; have HB := n0_; clear n0_; (try clear hb); (try clear hb2); (try clear hk); (try clear hi)))
              go_ret
              exact ⟨by first | rfl | (simp [errW_none, errW_some] <;> rfl) | (simp [*, errW_none, errW_some] <;> rfl), by repeat (first | (with_reducible first | exact HB.out | apply below_alloc | apply pw_below_drewN | apply below_drew1) | exact HB.out)⟩
            rw [if_pos c25] at H; have c25b0 : decide (x8_2 < (t160.size : Int)) = true := decide_eq_true c25; clear c25
            by_cases c26 : 0 ≤ x8_2
            case neg =>
              rw [if_neg c26] at H
              exact absurd H (by simp)
            rw [if_pos c26] at H; have c26b0 : decide (0 ≤ x8_2) = true := decide_eq_true c26; clear c26
            by_cases c28 : (bt t160 x8_2) = 60
            case pos =>
              rw [if_pos c28] at H; have c28b0 : ((bt t160 x8_2) == 60) = true := beq_iff_eq.mpr c28; have c28b1 : ((bt t160 x8_2) != 60) = false := bne_eq_false_iff_eq.mpr c28; clear c28; obtain rfl := Option.some.inj H; have p27 : 0 ≤ (x8_2 : Int) := of_decide_eq_true (by first | (with_reducible assumption) | assumption); have q27 : x8_2 < (t160.size : Int) := of_decide_eq_true (by first | (with_reducible assumption) | assumption); have hx27 := bt_at t160 x8_2; replace p27 := eq_true p27; replace q27 := eq_true q27
              go_wp2
              go_ret
              exact ⟨by first | rfl | (simp [errW_none, errW_some] <;> rfl) | (simp [*, errW_none, errW_some] <;> rfl), by repeat (first | (with_reducible first | exact HB.out | apply below_alloc | apply pw_below_drewN | apply below_drew1) | exact HB.out)⟩
            rw [if_neg c28] at H; have c28b0 : ((bt t160 x8_2) == 60) = false := beq_eq_false_iff_ne.mpr c28; have c28b1 : ((bt t160 x8_2) != 60) = true := bne_iff_ne.mpr c28
            by_cases c30 : (bt t160 x8_2) = 62
            case pos =>
              rw [if_pos c30] at H; have c30b0 : ((bt t160 x8_2) == 62) = true := beq_iff_eq.mpr c30; have c30b1 : ((bt t160 x8_2) != 62) = false := bne_eq_false_iff_eq.mpr c30; clear c30; obtain rfl := Option.some.inj H; have p27 : 0 ≤ (x8_2 : Int) := of_decide_eq_true (by first | (with_reducible assumption) | assumption); have q27 : x8_2 < (t160.size : Int) := of_decide_eq_true (by first | (with_reducible assumption) | assumption); have hx27 := bt_at t160 x8_2; replace p27 := eq_true p27; replace q27 := eq_true q27; have p29 : 0 ≤ (x8_2 : Int) := of_decide_eq_true (by first | (with_reducible assumption) | assumption); have q29 : x8_2 < (t160.size : Int) := of_decide_eq_true (by first | (with_reducible assumption) | assumption); have hx29 := bt_at t160 x8_2; replace p29 := eq_true p29; replace q29 := eq_true q29
              go_wp2
              go_ret
              exact ⟨by first | rfl | (simp [errW_none, errW_some] <;> rfl) | (simp [*, errW_none, errW_some] <;> rfl), by repeat (first | (with_reducible first | exact HB.out | apply below_alloc | apply pw_below_drewN | apply below_drew1) | exact HB.out)⟩
            rw [if_neg c30] at H; have c30b0 : ((bt t160 x8_2) == 62) = false := beq_eq_false_iff_ne.mpr c30; have c30b1 : ((bt t160 x8_2) != 62) = true := bne_iff_ne.mpr c30
            by_cases c32 : (bt t160 x8_2) = 34
            case pos =>
              rw [if_pos c32] at H; have c32b0 : ((bt t160 x8_2) == 34) = true := beq_iff_eq.mpr c32; have c32b1 : ((bt t160 x8_2) != 34) = false := bne_eq_false_iff_eq.mpr c32; clear c32; obtain rfl := Option.some.inj H; have p27 : 0 ≤ (x8_2 : Int) := of_decide_eq_true (by first | (with_reducible assumption) | assumption); have q27 : x8_2 < (t160.size : Int) := of_decide_eq_true (by first | (with_reducible assumption) | assumption); have hx27 := bt_at t160 x8_2; replace p27 := eq_true p27; replace q27 := eq_true q27; have p29 : 0 ≤ (x8_2 : Int) := of_decide_eq_true (by first | (with_reducible assumption) | assumption); have q29 : x8_2 < (t160.size : Int) := of_decide_eq_true (by first | (with_reducible assumption) | assumption); have hx29 := bt_at t160 x8_2; replace p29 := eq_true p29; replace q29 := eq_true q29; have p31 : 0 ≤ (x8_2 : Int) := of_decide_eq_true (by first | (with_reducible assumption) | assumption); have q31 : x8_2 < (t160.size : Int) := of_decide_eq_true (by first | (with_reducible assumption) | assumption); have hx31 := bt_at t160 x8_2; replace p31 := eq_true p31; replace q31 := eq_true q31
              go_wp2
              go_ret
              exact ⟨by first | rfl | (simp [errW_none, errW_some] <;> rfl) | (simp [*, errW_none, errW_some] <;> rfl), by repeat (first | (with_reducible first | exact HB.out | apply below_alloc | apply pw_below_drewN | apply below_drew1) | exact HB.out)⟩
            rw [if_neg c32] at H; have c32b0 : ((bt t160 x8_2) == 34) = false := beq_eq_false_iff_ne.mpr c32; have c32b1 : ((bt t160 x8_2) != 34) = true := bne_iff_ne.mpr c32; have H' := Aside0.mk H; clear H; have p27 : 0 ≤ (x8_2 : Int) := of_decide_eq_true (by first | (with_reducible assumption) | assumption); have q27 : x8_2 < (t160.size : Int) := of_decide_eq_true (by first | (with_reducible assumption) | assumption); have hx27 := bt_at t160 x8_2; replace p27 := eq_true p27; replace q27 := eq_true q27; have p29 : 0 ≤ (x8_2 : Int) := of_decide_eq_true (by first | (with_reducible assumption) | assumption); have q29 : x8_2 < (t160.size : Int) := of_decide_eq_true (by first | (with_reducible assumption) | assumption); have hx29 := bt_at t160 x8_2; replace p29 := eq_true p29; replace q29 := eq_true q29; have p31 : 0 ≤ (x8_2 : Int) := of_decide_eq_true (by first | (with_reducible assumption) | assumption); have q31 : x8_2 < (t160.size : Int) := of_decide_eq_true (by first | (with_reducible assumption) | assumption); have hx31 := bt_at t160 x8_2; replace p31 := eq_true p31; replace q31 := eq_true q31
            go_wp2
            go_roundg k2
            case measure => have := HK1.out; have := HK2.out; omega
            case rel => exact ⟨(wrap64 (x8_2 + 1)), (by first | rfl | (simp; done) | (simp [*]; done)), H', ⟨by have := HK1.out; have := HK2.out; omega⟩, ⟨by repeat (first | (with_reducible first | exact HB.out | apply below_alloc | apply pw_below_drewN | apply below_drew1) | exact HB.out)⟩⟩
      rw [if_pos c8] at H; have c8b0 : decide (x5_1 < (t159.size : Int)) = true := decide_eq_true c8; clear c8; have HC9 := Aside0.mk H; clear H
      go_upto_region 8 with (fail)
      go_cut [32] (fun v32 wc => ∃ (kq : Nat) (x32_8 : Bool), v32 = .bool x32_8 ∧ Aside0 (muslinlaw12_EntSafe.j1 kq t159 t160 x5_1 x32_8 = some r) ∧ Aside0 (kq ≤ k1) ∧ Aside0 (Below w.heap.size w wc))
      case first =>
        have H := HC9.out; clear HC9
        by_cases c10 : 0 ≤ x5_1
        case neg =>
          rw [if_neg c10] at H
          exact absurd H (by simp)
        rw [if_pos c10] at H; have c10b0 : decide (0 ≤ x5_1) = true := decide_eq_true c10; clear c10
        (first | rw [c10b0] | (simp only [i64_w, i32_w]; rw [c10b0]) | skip)
        by_cases c12 : (bt t159 x5_1) = 60
        case pos =>
          rw [if_pos c12] at H; have c12b0 : ((bt t159 x5_1) == 60) = true := beq_iff_eq.mpr c12; have c12b1 : ((bt t159 x5_1) != 60) = false := bne_eq_false_iff_eq.mpr c12; clear c12; have H' := Aside0.mk H; clear H; have p11 : 0 ≤ (x5_1 : Int) := of_decide_eq_true (by first | (with_reducible assumption) | assumption); have q11 : x5_1 < (t159.size : Int) := of_decide_eq_true (by first | (with_reducible assumption) | assumption); have hx11 := bt_at t159 x5_1; replace p11 := eq_true p11; replace q11 := eq_true q11
          go_wp2
          go_meet
          case rel => exact ⟨_, (true), (by first | rfl | (simp; done) | (simp [*]; done)), H', ⟨by have := HK1.out; first | omega | exact Nat.le_refl _⟩, ⟨by repeat (first | (with_reducible first | exact HB.out | apply below_alloc | apply pw_below_drewN | apply below_drew1) | exact HB.out)⟩⟩
        rw [if_neg c12] at H; have c12b0 : ((bt t159 x5_1) == 60) = false := beq_eq_false_iff_ne.mpr c12; have c12b1 : ((bt t159 x5_1) != 60) = true := bne_iff_ne.mpr c12; have H' := Aside0.mk H; clear H; have p11 : 0 ≤ (x5_1 : Int) := of_decide_eq_true (by first | (with_reducible assumption) | assumption); have q11 : x5_1 < (t159.size : Int) := of_decide_eq_true (by first | (with_reducible assumption) | assumption); have hx11 := bt_at t159 x5_1; replace p11 := eq_true p11; replace q11 := eq_true q11; have p13 : 0 ≤ (x5_1 : Int) := of_decide_eq_true (by first | (with_reducible assumption) | assumption); have q13 : x5_1 < (t159.size : Int) := of_decide_eq_true (by first | (with_reducible assumption) | assumption); have hx13 := bt_at t159 x5_1; replace p13 := eq_true p13; replace q13 := eq_true q13
        go_wp2
        go_meet
        case rel => exact ⟨_, (((bt t159 x5_1) == 62)), (by first | rfl | (simp; done) | (simp [*]; done)), H', ⟨by have := HK1.out; first | omega | exact Nat.le_refl _⟩, ⟨by repeat (first | (with_reducible first | exact HB.out | apply below_alloc | apply pw_below_drewN | apply below_drew1) | exact HB.out)⟩⟩
      case rest =>
        clear HC9; (try clear c1); (try clear p1); (try clear q1); (try clear hx1); (try clear p2); (try clear c3); (try clear c6); (try clear c8); (try clear c8b0); (try clear c10); (try clear c10b0); (try clear p11); (try clear q11); (try clear hx11); (try clear c12); (try clear c12b0); (try clear c12b1); (try clear p13); (try clear q13); (try clear hx13); (try clear p11); (try clear p13); (try clear p2); (try clear q11); (try clear q13); obtain ⟨kq, x32_8, rfl, HA, HJ8, HB⟩ := hcut
        cases kq with
        | zero => exact absurd HA.out (by simp [muslinlaw12_EntSafe.j1])
        | succ kj8 =>
          have H := HA.out; clear HA; simp only [muslinlaw12_EntSafe.j1] at H
          by_cases c14 : x32_8 = true
          case pos =>
            subst c14
            have H1 : (some false) = some r := by rw [if_pos rfl] at H; exact H
            clear H; have H := H1; clear H1; obtain rfl := Option.some.inj H
            go_wp2
            go_ret
            exact ⟨by first | rfl | (simp [errW_none, errW_some] <;> rfl) | (simp [*, errW_none, errW_some] <;> rfl), by repeat (first | (with_reducible first | exact HB.out | apply below_alloc | apply pw_below_drewN | apply below_drew1) | exact HB.out)⟩
          replace c14 := Bool.eq_false_iff.mpr c14; subst c14
          have H1 : (if 0 ≤ x5_1 then (if x5_1 < (t159.size : Int) then (if (bt t159 x5_1) = 38 then (if x5_1 ≤ (t159.size : Int) then ((muslinref12_One.f (t159.extract (x5_1 : Int).toNat t159.size)).bind fun bt161 => (if bt161.2 = 0 then (some false) else (muslinlaw12_EntSafe.l0 kj8 t159 t160 (wrap64 (x5_1 + 1))))) else (none)) else (muslinlaw12_EntSafe.l0 kj8 t159 t160 (wrap64 (x5_1 + 1)))) else (none)) else (none)) = some r := by rw [if_neg (show ¬ (false = true) by decide)] at H; exact H
          clear H; have H := H1; clear H1
          by_cases c15 : 0 ≤ x5_1
          case neg =>
            rw [if_neg c15] at H
            exact absurd H (by simp)
          rw [if_pos c15] at H; have c15b0 : decide (0 ≤ x5_1) = true := decide_eq_true c15; clear c15
          by_cases c16 : x5_1 < (t159.size : Int)
          case neg =>
            rw [if_neg c16] at H
            exact absurd H (by simp)
          rw [if_pos c16] at H; have c16b0 : decide (x5_1 < (t159.size : Int)) = true := decide_eq_true c16; clear c16
          by_cases c18 : (bt t159 x5_1) = 38
          case neg =>
            rw [if_neg c18] at H; have c18b0 : ((bt t159 x5_1) == 38) = false := beq_eq_false_iff_ne.mpr c18; have c18b1 : ((bt t159 x5_1) != 38) = true := bne_iff_ne.mpr c18; have H' := Aside0.mk H; clear H; have p17 : 0 ≤ (x5_1 : Int) := of_decide_eq_true (by first | (with_reducible assumption) | assumption); have q17 : x5_1 < (t159.size : Int) := of_decide_eq_true (by first | (with_reducible assumption) | assumption); have hx17 := bt_at t159 x5_1; replace p17 := eq_true p17; replace q17 := eq_true q17
            go_wp2
            go_roundg kj8
            case measure => have := HK1.out; have := HJ8.out; omega
            case rel => exact ⟨(wrap64 (x5_1 + 1)), (by first | rfl | (simp; done) | (simp [*]; done)), H', ⟨by have := HK1.out; have := HJ8.out; omega⟩, ⟨by repeat (first | (with_reducible first | exact HB.out | apply below_alloc | apply pw_below_drewN | apply below_drew1) | exact HB.out)⟩⟩
          rw [if_pos c18] at H; have c18b0 : ((bt t159 x5_1) == 38) = true := beq_iff_eq.mpr c18; have c18b1 : ((bt t159 x5_1) != 38) = false := bne_eq_false_iff_eq.mpr c18; clear c18; have c19b0 := eq_true (of_decide_eq_true (by first | (with_reducible assumption) | assumption) : 0 ≤ x5_1)
          by_cases c20 : x5_1 ≤ (t159.size : Int)
          case neg =>
            rw [if_neg c20] at H
            exact absurd H (by simp)
          rw [if_pos c20] at H; have c20b0 := eq_true c20; have c20b1 : decide (x5_1 ≤ (t159.size : Int)) = true := decide_eq_true c20; clear c20; replace H := Option.bind_eq_some_iff.mp H; obtain ⟨⟨t161, t162⟩, A210, H⟩ := H; replace H : (if t162 = 0 then (some false) else (muslinlaw12_EntSafe.l0 kj8 t159 t160 (wrap64 (x5_1 + 1)))) = some r := H; have A21 := Aside0.mk A210; clear A210
          by_cases c22 : t162 = 0
          case pos =>
            rw [if_pos c22] at H; have c22b0 : (t162 == 0) = true := beq_iff_eq.mpr c22; have c22b1 : (t162 != 0) = false := bne_eq_false_iff_eq.mpr c22; clear c22; obtain rfl := Option.some.inj H; have p17 : 0 ≤ (x5_1 : Int) := of_decide_eq_true (by first | (with_reducible assumption) | assumption); have q17 : x5_1 < (t159.size : Int) := of_decide_eq_true (by first | (with_reducible assumption) | assumption); have hx17 := bt_at t159 x5_1; replace p17 := eq_true p17; replace q17 := eq_true q17; go_wp2_with (first | ((with_reducible refine gate_callee (f := 18) rfl ?_); refine goesL_ (some 41) rfl rfl Tryz.func18 (by kernel_rfl) rfl #[.string (t159.extract (x5_1 : Int).toNat t159.size)] rfl (by (try simp only [List.map_toArray, List.map_cons, List.map_nil]); first | done | rfl | (simp only [List.length_drop, List.length_take]; rfl)) ?_; (with_reducible refine (muslinref12_One.calls (t159.extract (x5_1 : Int).toNat t159.size) t161 t162 _ A21.out).mono ?_); rintro e w23 ⟨rfl, hb⟩; refine ⟨_, rfl, ?_⟩; have n0_ := Aside0.mk (below_step (by repeat (first | (with_reducible first | exact HB.out | apply below_alloc | apply pw_below_drewN | apply below_drew1) | exact HB.out)) hb); clear HB; have HB := n0_; clear n0_; (try clear hb); (try clear hb2); (try clear hk); (try clear hi)))
            go_ret
            exact ⟨by first | rfl | (simp [errW_none, errW_some] <;> rfl) | (simp [*, errW_none, errW_some] <;> rfl), by repeat (first | (with_reducible first | exact HB.out | apply below_alloc | apply pw_below_drewN | apply below_drew1) | exact HB.out)⟩
          rw [if_neg c22] at H; have c22b0 : (t162 == 0) = false := beq_eq_false_iff_ne.mpr c22; have c22b1 : (t162 != 0) = true := bne_iff_ne.mpr c22; have H' := Aside0.mk H; clear H; have p17 : 0 ≤ (x5_1 : Int) := of_decide_eq_true (by first | (with_reducible assumption) | assumption); have q17 : x5_1 < (t159.size : Int) := of_decide_eq_true (by first | (with_reducible assumption) | assumption); have hx17 := bt_at t159 x5_1; replace p17 := eq_true p17; replace q17 := eq_true q17; go_wp2_with (first | ((with_reducible refine gate_callee (f := 18) rfl ?_); refine goesL_ (some 41) rfl rfl Tryz.func18 (by kernel_rfl) rfl #[.string (t159.extract (x5_1 : Int).toNat t159.size)] rfl (by (try simp only [List.map_toArray, List.map_cons, List.map_nil]); first | done | rfl | (simp only [List.length_drop, List.length_take]; rfl)) ?_; (with_reducible refine (muslinref12_One.calls (t159.extract (x5_1 : Int).toNat t159.size) t161 t162 _ A21.out).mono ?_); rintro e w24 ⟨rfl, hb⟩; refine ⟨_, rfl, ?_⟩; have n0_ := Aside0.mk (below_step (by repeat (first | (with_reducible first | exact HB.out | apply below_alloc | apply pw_below_drewN | apply below_drew1) | exact HB.out)) hb); clear HB; have HB := n0_; clear n0_; (try clear hb); (try clear hb2); (try clear hk); (try clear hi)))
          go_roundg kj8
          case measure => have := HK1.out; have := HJ8.out; omega
          case rel => exact ⟨(wrap64 (x5_1 + 1)), (by first | rfl | (simp; done) | (simp [*]; done)), H', ⟨by have := HK1.out; have := HJ8.out; omega⟩, ⟨by repeat (first | (with_reducible first | exact HB.out | apply below_alloc | apply pw_below_drewN | apply below_drew1) | exact HB.out)⟩⟩
def muslinlaw12_EntSafe.Pure : Prop := ∀ (a0 : ByteArray), a0.size ≤ 140737488351232 → ∃ k, muslinlaw12_EntSafe.f k a0 = some true
theorem muslinlaw12_EntSafe.walk (P : muslinlaw12_EntSafe.Pure) (a0 : ByteArray) (w : World) (hGl : Ent.GlobE w) (w0 : a0.size ≤ 140737488351232) :
    Calls Tryz.prog 6 #[.string a0] w fun e w' => e = .returned (.bool true) ∧ Below w.heap.size w w' := by
  obtain ⟨k, h⟩ := P a0 w0
  refine (muslinlaw12_EntSafe.calls k a0 true w hGl h).mono ?_
  rintro e w' ⟨rfl, hd⟩
  exact ⟨rfl, hd⟩
end Go.Proofs.YtkfcbafjcjmfnaaGreatDoor.P
namespace Go.Proofs.YtkfcbafjcjmfnaaGreatDoor.Pure
open Go.RowKit Go.Lib Go.Proofs.YtkfcbafjcjmfnaaGreatDoor Go.Proofs.YtkfcbafjcjmfnaaGreatDoor.P Go.Proofs.YtkfcbafjcjmfnaaGreatDoor.Ent Go.Proofs.YtkfcbafjcjmfnaaGreatDoor.Gen Go.Proofs.YtkfcbafjcjmfnaaGreatDoorW.PrintWords Go.Proofs.YtkfcbafjcjmfnaaGreatDoorW.PrintLast
set_option linter.unusedVariables false
set_option linter.unusedSimpArgs false
theorem live_got : muslinlaw12_live.f = some true := by decide +kernel
theorem oneF_not (c : UInt8) (r : List UInt8) (h : c ≠ 38) : oneF (c :: r) = ([], 0) := by unfold oneF; exact if_neg h
theorem one_got (s : ByteArray) (hs : s.size ≤ 1000000) : muslinref12_One.f s = some (⟨(oneF s.data.toList).1.toArray⟩, ((oneF s.data.toList).2 : Int)) := guard_of hs
theorem dec_loop (s : ByteArray) (hs : s.size ≤ 5000) : ∀ (n i : Nat) (acc : List UInt8), s.size - i ≤ n → i ≤ s.size → acc.length ≤ i →
    Ev (fun k => muslinref12_Decode.l0 k s (intsOf acc) (i : Int)) (⟨(acc ++ dec 0 (s.data.toList.drop i)).toArray⟩ : ByteArray)
  | n, i, acc, hn, hi, ha => by
    refine Ev.round (fun k => by rw [muslinref12_Decode.l0]) ?_
    by_cases hlt : i < s.size
    · refine Ev.pos (by omega) ?_
      refine Ev.pos (by omega) ?_
      refine Ev.pos (by omega) ?_
      rw [Int.toNat_natCast]
      have hl : i < s.data.toList.length := by rw [sizeL]; exact hlt
      have hX : (s.extract i s.size).data.toList = s.data.toList.drop i := by rw [extract_list, List.take_of_length_le (by rw [sizeL]; exact Nat.le_refl _)]
      have hXz : (s.extract i s.size).size ≤ 1000000 := by simp; omega
      refine Ev.got (one_got _ hXz) ?_
      rw [hX, List.drop_eq_getElem_cons hl, bt_get s i hl]
      have hlr : (s.data.toList.drop (i + 1)).length = s.size - (i + 1) := by rw [List.length_drop, sizeL]
      have hw1 : wrap64 ((i : Int) + 1) = ((i + 1 : Nat) : Int) := by rw [w64 (by omega) (by omega)]; rfl
      match n, hn with
      | 0, hn => omega
      | n + 1, hn =>
        have push : ∀ c : UInt8, Ev (fun k => muslinref12_Decode.l0 k s (intsOf acc ++ [(c.toNat : Int)]) (wrap64 ((i : Int) + 1))) (⟨((acc ++ [c]) ++ dec 0 (s.data.toList.drop (i + 1))).toArray⟩ : ByteArray) := fun c => by
          have := dec_loop s hs n (i + 1) (acc ++ [c]) (by omega) (by omega) (by simp; omega)
          rw [intsOf_append] at this
          rw [hw1]; exact this
        generalize hc : s.data.toList[i] = c at *
        by_cases h38 : c = 38
        · subst h38
          cases ho : oneL (s.data.toList.drop (i + 1)) with
          | none =>
            rw [oneF_none _ ho, dec_none _ ho]
            refine Ev.pos rfl ?_
            refine Ev.pos (by rw [intsOf_length]; omega) ?_
            have := push 38
            rw [List.append_assoc] at this
            exact this
          | some p =>
            obtain ⟨t, m⟩ := p
            obtain ⟨h1, h2, h3⟩ := oneL_len _ t m ho
            rw [oneF_some _ t m ho, dec_some _ t m ho]
            refine Ev.neg (show ¬ ((m + 1 : Nat) : Int) = 0 by omega) ?_
            refine Ev.pos (by rw [intsOf_length, mk_size]; show acc.length + t.length < _; omega) ?_
            rw [show wrap64 ((i : Int) + ((m + 1 : Nat) : Int)) = ((i + 1 + m : Nat) : Int) from by rw [w64 (by omega) (by omega)]; omega]
            rw [bytesOf_ints, ← intsOf_append, List.drop_drop]
            have := dec_loop s hs n (i + 1 + m) (acc ++ t) (by omega) (by omega) (by rw [List.length_append]; omega)
            rw [List.append_assoc] at this
            exact this
        · rw [oneF_not c _ h38, dec_plain c _ h38]
          refine Ev.pos rfl ?_
          refine Ev.pos (by rw [intsOf_length]; omega) ?_
          have := push c
          rw [List.append_assoc] at this
          exact this
    · refine Ev.neg (by omega) ?_
      rw [strOf_ints, List.drop_eq_nil_of_le (by rw [sizeL]; omega), dec_nil, List.append_nil]
      exact Ev.now _
theorem refDecode12_is (s : ByteArray) (hs : s.size ≤ 5000) : Ev (fun k => muslinref12_Decode.f k s) (⟨(dec 0 s.data.toList).toArray⟩ : ByteArray) :=
  dec_loop s hs s.size 0 [] (by omega) (by omega) (by simp)
def wr (q : Bool) (l : List UInt8) : List UInt8 := if q = true then quo (esc 0 l) else esc 0 l
theorem text_got (s : ByteArray) (hs : s.size ≤ 1000000) : ent_Text.f s = some ⟨(esc 0 s.data.toList).toArray⟩ := guard_of hs
theorem value_got (s : ByteArray) (hs : s.size ≤ 1000000) : ent_Value.f s = some ⟨(quo (esc 0 s.data.toList)).toArray⟩ := guard_of hs
theorem decode_got (s : ByteArray) (hs : s.size ≤ 1000000) : ent_Decode.f s = some ⟨(dec 0 s.data.toList).toArray⟩ := guard_of hs
theorem live_ev : Ev (fun _ => (muslinlaw12_live.f).bind fun t => some t) true := Ev.got live_got (Ev.now _)
theorem short_got (s : ByteArray) : muslinlaw12_short.f s = some (decide ((s.size : Int) ≤ 5000)) := rfl
theorem quo_len (l : List UInt8) : (quo l).length ≤ 6 * l.length := by
  induction l with
  | nil => simp [quo]
  | cons c r ih =>
    rw [quo_cons, List.length_append, List.length_cons]
    have : (qq c).length ≤ 6 := by unfold qq; split <;> simp
    omega
theorem of_ev {f : Nat → Option Bool} (h : Ev f true) : ∃ k, f k = some true := by
  obtain ⟨k, h⟩ := h
  exact ⟨k, h k (Nat.le_refl _)⟩
theorem EntDecodes : muslinlaw12_EntDecodes.Pure := fun s _ => of_ev (by
  unfold muslinlaw12_EntDecodes.f
  refine Ev.got (short_got s) ?_
  by_cases h : (s.size : Int) ≤ 5000
  · refine Ev.pos (decide_eq_true h) ?_
    refine Ev.got (decode_got s (by omega)) ?_
    refine Ev.bind (refDecode12_is s (by omega)) ?_
    refine Ev.pos rfl ?_
    exact live_ev
  · refine Ev.neg (by simp; omega) ?_
    exact live_ev)
theorem safe_loop1 (v : ByteArray) (hv : v.size ≤ 1000000) (hall : ∀ c ∈ v.data.toList, c ≠ 60 ∧ c ≠ 62 ∧ c ≠ 34) : ∀ (n i : Nat), v.size - i ≤ n → i ≤ v.size → Ev (fun k => muslinlaw12_EntSafe.l1 k v (i : Int)) true
  | n, i, hn, hi => by
    refine Ev.round (fun k => by rw [muslinlaw12_EntSafe.l1]) ?_
    by_cases hlt : i < v.size
    · refine Ev.pos (by omega) ?_
      refine Ev.pos (by omega) ?_
      have hl : i < v.data.toList.length := by rw [sizeL]; exact hlt
      rw [bt_get v i hl]
      obtain ⟨h1, h2, h3⟩ := hall _ (List.getElem_mem hl)
      generalize v.data.toList[i] = c at *
      refine Ev.neg (fun e => h1 (UInt8.toNat_inj.1 (by show c.toNat = 60; omega))) ?_
      refine Ev.neg (fun e => h2 (UInt8.toNat_inj.1 (by show c.toNat = 62; omega))) ?_
      refine Ev.neg (fun e => h3 (UInt8.toNat_inj.1 (by show c.toNat = 34; omega))) ?_
      rw [w64 (by omega) (by omega), show (i : Int) + 1 = ((i + 1 : Nat) : Int) from rfl]
      match n, hn with
      | 0, hn => omega
      | n + 1, hn => exact safe_loop1 v hv hall n (i + 1) (by omega) (by omega)
    · refine Ev.neg (by omega) ?_
      exact live_ev
theorem safe_loop0 (t v : ByteArray) (ht : t.size ≤ 1000000) (hv : v.size ≤ 1000000) (hall : ∀ c ∈ v.data.toList, c ≠ 60 ∧ c ≠ 62 ∧ c ≠ 34) : ∀ (n i : Nat), t.size - i ≤ n → i ≤ t.size → safeL (t.data.toList.drop i) = true → Ev (fun k => muslinlaw12_EntSafe.l0 k t v (i : Int)) true
  | n, i, hn, hi, hs => by
    refine Ev.round (fun k => by rw [muslinlaw12_EntSafe.l0]) ?_
    by_cases hlt : i < t.size
    · refine Ev.pos (by omega) ?_
      refine Ev.pos (by omega) ?_
      have hl : i < t.data.toList.length := by rw [sizeL]; exact hlt
      have hX : (t.extract i t.size).data.toList = t.data.toList.drop i := by rw [extract_list, List.take_of_length_le (by rw [sizeL]; exact Nat.le_refl _)]
      have hXz : (t.extract i t.size).size ≤ 1000000 := by simp; omega
      have hb := bt_get t i hl
      rw [List.drop_eq_getElem_cons hl] at hs hX
      have hgo : safeL (t.data.toList.drop (i + 1)) = true → Ev (fun k => muslinlaw12_EntSafe.l0 k t v (wrap64 ((i : Int) + 1))) true := fun h => by
        rw [w64 (by omega) (by omega), show (i : Int) + 1 = ((i + 1 : Nat) : Int) from rfl]
        match n, hn with
        | 0, hn => omega
        | n + 1, hn => exact safe_loop0 t v ht hv hall n (i + 1) (by omega) (by omega) h
      generalize t.data.toList[i] = c at *
      simp only [safeL, Bool.and_eq_true] at hs
      obtain ⟨h1, h2⟩ := hs
      have ne : ∀ k : UInt8, c ≠ k → ¬ (c.toNat : Int) = (k.toNat : Int) := fun k h e => h (UInt8.toNat_inj.1 (by omega))
      have h60 : c ≠ 60 := by rintro rfl; simp at h1
      have h62 : c ≠ 62 := by rintro rfl; simp at h1
      rw [hb]
      refine Ev.neg (ne 60 h60) ?_
      rw [show ((c.toNat : Int) == 62) = false from beq_eq_false_iff_ne.2 (ne 62 h62)]
      refine Ev.round (fun k => by rw [muslinlaw12_EntSafe.j1]) ?_
      refine Ev.neg Bool.false_ne_true ?_
      refine Ev.pos (by omega) ?_
      refine Ev.pos (by omega) ?_
      rw [hb]
      by_cases h38 : c = 38
      · subst h38
        refine Ev.pos rfl ?_
        refine Ev.pos (by omega) ?_
        rw [Int.toNat_natCast]
        refine Ev.got (one_got _ hXz) ?_
        rw [hX]
        rw [if_pos rfl] at h1
        obtain ⟨p, hp⟩ := Option.isSome_iff_exists.1 h1
        obtain ⟨u, m⟩ := p
        rw [oneF_some _ u m hp]
        refine Ev.neg (show ¬ ((m + 1 : Nat) : Int) = 0 by omega) ?_
        exact hgo h2
      · refine Ev.neg (ne 38 h38) ?_
        exact hgo h2
    · refine Ev.neg (by omega) ?_
      exact safe_loop1 v hv hall v.size 0 (by omega) (by omega)
theorem EntSafe : muslinlaw12_EntSafe.Pure := fun s _ => of_ev (by
  unfold muslinlaw12_EntSafe.f
  refine Ev.got (short_got s) ?_
  by_cases h : (s.size : Int) ≤ 5000
  · have hl := esc_le s
    have hq := quo_len (esc 0 s.data.toList)
    have hsafe := safe_esc _ s.data.toList (Nat.le_refl _)
    refine Ev.pos (decide_eq_true h) ?_
    refine Ev.got (text_got s (by omega)) ?_
    refine Ev.got (value_got s (by omega)) ?_
    exact safe_loop0 _ _ (by rw [mk_size]; omega) (by rw [mk_size]; omega) (quo_safe _ hsafe) _ 0 (Nat.le_refl _) (by omega) hsafe
  · refine Ev.neg (by simp; omega) ?_
    exact live_ev)
end Go.Proofs.YtkfcbafjcjmfnaaGreatDoor.Pure
namespace Go.Proofs.YtkfcbafjcjmfnaaGreatDoor
open Go.RowKit Go.ChangeShapes Go.WideShapes Go.ChangeAt Go.Lib Go.Proofs.YtkfcbafjcjmfnaaGreatDoor.Ent
noncomputable def laidWorld (os : Os) : World :=
  { World.doorLaid Tryz.prog 162 os with heap := (World.doorLaid Tryz.prog 162 os).heap.modify 3 fun
      | .cells _ t frozen => .cells (Go.Pinned.utf8FirstZ.map fun (z : Nat) => Value.int .u8 (z : Int)).toArray t frozen
      | o => o }
def namesD : DataW Unit := Rows.laid_muslin_ent_names
theorem names_at (l : List UInt8) : namesD.atKey (.string l) .nil = match nameL l with | some c => .lit (.int .i32 c) | none => .nil := by
  by_cases h : ∃ p ∈ namesT, p.1 = l
  · obtain ⟨p, hp, rfl⟩ := h
    simp only [namesT, List.mem_cons, List.not_mem_nil, or_false] at hp
    rcases hp with rfl | rfl | rfl | rfl | rfl | rfl | rfl | rfl | rfl | rfl | rfl | rfl | rfl | rfl | rfl | rfl <;> rfl
  · have hn : nameL l = none := by
      unfold nameL
      rw [Option.map_eq_none_iff, List.find?_eq_none]
      intro p hp he
      exact h ⟨p, hp, by simpa using he⟩
    rw [hn]
    have hne : ∀ x, x ∈ namesT.map (·.1) → ¬ x = l := fun x hx e => by
      obtain ⟨p, hp, rfl⟩ := List.mem_map.1 hx
      exact h ⟨p, hp, e⟩
    have hf : ∀ es : List (Lit × DataW Unit), (∀ q ∈ es, q.1.sameKey (.string l) = false) → (DataW.map es).atKey (.string l) .nil = .nil := fun es he => by
      unfold DataW.atKey
      have : es.find? (fun p => p.1.sameKey (.string l)) = none := by
        rw [List.find?_eq_none]
        intro q hq
        rw [he q hq]; simp
      simp only [this]
    refine hf _ (fun q hq => ?_)
    have hk : ∀ q ∈ (match namesD with | .map es => es | _ => []), ∃ x ∈ namesT.map (·.1), q.1 = .string x := by
      intro q hq
      simp only [namesD, Rows.laid_muslin_ent_names, List.mem_cons, List.not_mem_nil, or_false] at hq
      rcases hq with rfl | rfl | rfl | rfl | rfl | rfl | rfl | rfl | rfl | rfl | rfl | rfl | rfl | rfl | rfl | rfl <;> exact ⟨_, by decide, rfl⟩
    obtain ⟨x, hx, he⟩ := hk q hq
    rw [he]
    have := hne x hx
    simp [Lit.sameKey, this]
theorem names_of {W : World} (h : VarReads Tryz.prog W "muslin/ent.names" namesD) : Ent.TabNames W := by
  obtain ⟨g, t, cs, fuel, p, hg, ht, hv, hd⟩ := h
  obtain rfl := Option.some.inj (hg.symm.trans (show Tryz.prog.globalNamed "muslin/ent.names" = some 0 from by kernel_rfl))
  obtain rfl := Option.some.inj (ht.symm.trans (show (Tryz.prog.globals[0]?).map (·.type) = some 52 from by kernel_rfl))
  have law : WideMaps.KeyLaw Tryz.prog 9 := WideMaps.string_law Tryz.underlying9
  rcases WideElems.open_map Tryz.underlying52 hd with ⟨_, hx⟩ | ⟨bm, es, clock, m, rfl, hcs, hb, _, F, hx⟩
  · simp [namesD, Rows.laid_muslin_ent_names] at hx
  simp only [Prod.mk.injEq] at hx
  have hcell : W.cell? ⟨0, 0, none⟩ = some (.map (some bm)) := by
    have := World.var?_cell hg hv 0
    rw [Array.eq_one_of_toList hcs] at this
    simpa using this
  refine ⟨bm, (Array.getElem?_eq_some_iff.1 hb).1, hcell, fun w' hh s hs => ?_⟩
  have zero : (zeroValue 21).run Tryz.prog w' = .ok (.int .i32 0) w' := by kernel_rfl
  have hkey : keyOf Tryz.prog 9 (.string s) = some (.string s.data.toList) := WideMaps.keyOf_string_mk Tryz.underlying9 (by unfold maxLen; omega)
  have hat0 := names_at s.data.toList
  rcases WideElems.fit_lookup_ok (w := w') law Tryz.underlying52 zero (hh.trans hb) F hkey with ⟨hrun, hat⟩ | ⟨v, y, hrun, hRv, hat, _⟩
  · have := hat .nil
    rw [← hx.1] at this
    rw [this] at hat0
    refine ⟨fun c hc => ?_, fun _ => hrun⟩
    rw [hc] at hat0
    cases hat0
  · obtain ⟨r, rfl, rfl, _⟩ := WideElems.elemAt_int Tryz.underlying21 hRv
    have := hat .nil
    rw [← hx.1] at this
    rw [this] at hat0
    refine ⟨fun c hc => ?_, fun hn => ?_⟩
    · rw [hc] at hat0
      cases hat0
      exact hrun
    · rw [hn] at hat0
      cases hat0
theorem star_err : "*" ++ "errors.errorString" = "*errors.errorString" := by decide
theorem row_err (u : TypeId) (h : Tryz.prog.typeName? 3 u = some "*errors.errorString") : u = 159 :=
  typeName_ptr_named (nm := "errors.errorString") (by rw [star_err]; kernel_rfl) (by kernel_rfl) (by decide) u (by rw [star_err]; exact h)
theorem err_of {W : World} {text : List UInt8} {r : List (String × DataW Unit)} (h : laidMet Tryz.prog (("strconv.ErrSyntax", .iface "*errors.errorString" (.ptr (.agg [.lit (.string text)]))) :: r) W) :
    ∃ ev, W.cell? ⟨5, 0, none⟩ = some ev ∧ (ev = .nilIface ∨ ∃ te pe, ev = .iface te pe) := by
  have hg : Tryz.prog.globalNamed "strconv.ErrSyntax" = some 5 := by kernel_rfl
  obtain ⟨a, s, hv, _, _, _⟩ := laid_sentinel h hg (show (Tryz.prog.globals[5]?).map (·.type) = some 35 from by kernel_rfl) Tryz.underlying35 row_err Tryz.underlying159 Tryz.underlying161 rfl rfl Tryz.underlying9 (by kernel_rfl) (by kernel_rfl)
  exact ⟨_, by simpa using World.var?_cell hg hv 0, .inr ⟨_, _, rfl⟩⟩
theorem glob_of {W : World} {d1 d2 d3 a d5 d6 : DataW Unit} (ha : a = acceptData) (he : d6 = Rows.laid_strconv_ErrSyntax) (h : laidMet Tryz.prog [("math/bits.deBruijn32tab", d1), ("math/bits.deBruijn64tab", d2), ("internal/strconv.uint64pow10", d3), ("unicode/utf8.acceptRanges", a), ("strconv.ErrRange", d5), ("strconv.ErrSyntax", d6), ("muslin/chars.high", Lib.tabData .i32 highTab), ("muslin/ent.names", namesD), ("unicode/utf8.first", Go.Pinned.utf8First)] W) (hsh : W.ShapedOpen Tryz.prog) : Ent.GlobE W := by
  refine ⟨⟨Lib.tabIs_of_head (show Tryz.prog.globalNamed "muslin/chars.high" = some 2 from by kernel_rfl) (show (Tryz.prog.globals[2]?).map (·.type) = some 119 from by kernel_rfl) Tryz.underlying119 Tryz.underlying21 (by kernel_rfl) (by kernel_rfl) h.tail.tail.tail.tail.tail.tail, ?_, ?_⟩, ?_, ?_⟩
  · obtain ⟨ps, hl, _⟩ := h
    have rd := LaidVars_reads hl
    have r1 := rd "unicode/utf8.acceptRanges" a (by simp)
    have r3 := rd "unicode/utf8.first" Go.Pinned.utf8First (by simp)
    rw [ha] at r1
    rw [Go.Pinned.utf8First_eq] at r3
    exact utf8Tabs_of_reads Tryz.lays260 ⟨by kernel_rfl, by kernel_rfl, by kernel_rfl, by kernel_rfl, by kernel_rfl, by kernel_rfl, by kernel_rfl⟩ r3 r1
  · exact Go.Proofs.cell_of_shapedOpen_int (zero := #[.int .i64 0]) (t := 3) hsh (of_decide_eq_true (by kernel_rfl)) (by kernel_rfl) rfl (by kernel_rfl) (by kernel_rfl) Tryz.underlying3
  · obtain ⟨ps, hl, _⟩ := h
    exact names_of (LaidVars_reads hl "muslin/ent.names" namesD (by simp))
  · subst he
    exact err_of h.tail.tail.tail.tail.tail
theorem glob_entDecodes {W : World} (h : laidMetH Tryz.prog Rows.entDecodesRow.laid W) (hsh : W.ShapedOpen Tryz.prog) : Ent.GlobE W := by
  rw [MakeChecks.laidMetH_plain _ _ _ (by kernel_rfl)] at h
  exact glob_of (by kernel_rfl) rfl h hsh
theorem glob_entSafe {W : World} (h : laidMetH Tryz.prog Rows.entSafeRow.laid W) (hsh : W.ShapedOpen Tryz.prog) : Ent.GlobE W := by
  rw [MakeChecks.laidMetH_plain _ _ _ (by kernel_rfl)] at h
  exact glob_of (by kernel_rfl) rfl h hsh
theorem wrap_shaped {H : Type} {enc : TypeId × Value → H} {a : Assume} {C : Checked} {os : Os} {f : FuncId} {fn : Func} {s : ChangeSpec} {conds : List PathCond} {apart fresh handsOn again : Bool} {X : World → Array Value → Prop}
    (hX : ∀ (w w' : World) (args : Array Value), w.heap = w'.heap → X w args → X w' args)
    (own : ownKnob C.prog.godebug = none) (started : os.Started) (noInit : C.prog.inits.idxOf? f = none) (hfn : C.prog.funcs[f]? = some fn)
    (witness : ∃ (w : World) (tape : Tape) (i : Input), w.os = os ∧ (w.forCall tape i).Shaped C.prog ∧ i.vars = [] ∧ Input.okWide C.prog (w.forCall tape i) .any w.heap.size f i ∧
      ((s.pre enc C.prog fn conds apart (w.forCall tape i).memory i.args ∧ X (w.forCall tape i).memory i.args) ∧ sizedMet enc C.prog fn (OpenSpec.ofChange s) apart (w.forCall tape i).memory i.args) ∧ a.holds C.prog (lone (Frame.enter C.prog f i.args .normal) [] (w.forCall tape i)))
    (contract : ∀ (W : World) (base : Nat) (args : Array Value) (ds gs : List (DataW H)) (before : List MemPlace),
      (∀ (j : Nat) t v, fn.params[j]? = some t → args[j]? = some v → Value.okWide C.prog W .any base t v) →
      DataW.Whole enc C.prog fn.params.toList s.vars apart W args.toList ds gs before →
      conds.all (PathCond.test C.prog ⟨fn.params.toList, ds, s.plain.varTypes C.prog, gs⟩) = true →
      (DataW.weightsEach C.prog (fn.params.toList ++ s.plain.varTypes C.prog) (ds ++ gs)).all (· ≤ reachBytes) = true → X W args → W.ShapedOpen C.prog →
      a.holds C.prog (lone (Frame.enter C.prog f args .normal) [] W) →
      Calls C.prog f args W fun e W' => ∃ v, e = .returned v ∧ s.post enc C.prog fn apart fresh handsOn again W args v W') :
    ReturnsInHanded a C os f .any (fun w args => (s.pre enc C.prog fn conds apart w args ∧ X w args) ∧ sizedMet enc C.prog fn (OpenSpec.ofChange s) apart w args) (s.post enc C.prog fn apart fresh handsOn again) := by
  refine returnsInHanded_of_calls own started noInit witness ?_
  intro w tape i _ hsh _ hok hpre hholds
  obtain ⟨_, _, _, fn', hfn', _, _, _, _, hval⟩ := hok
  obtain rfl : fn' = fn := Option.some.inj (hfn'.symm.trans hfn)
  obtain ⟨⟨⟨ds, gs, before, hw, hc⟩, hx⟩, hz⟩ := hpre
  refine (contract (w.forCall tape i) w.heap.size i.args ds gs before hval (DataW.Whole.of_heap (w' := w.forCall tape i) (by rfl) hw) hc (hz.weights hw) (hX _ _ _ (by rfl) hx) hsh hholds).mono fun e W' ⟨v, he, hp⟩ => ?_
  subst he
  exact ChangeSpec.post_blind hp
end Go.Proofs.YtkfcbafjcjmfnaaGreatDoor
