/- Parts of the proof of the law WordDecodes, in one text: C5. -/
import Derived.Test.YtokkgjiofhhlkaaDoorMgWordDecodes5
set_option linter.unusedVariables false
set_option linter.unusedSimpArgs false
namespace Go.Proofs.YtokkgjiofhhlkaaDoor.C
open Go.RowKit Go.Proofs.YtokkgjiofhhlkaaDoorW.PrintWords Go.Proofs.YtokkgjiofhhlkaaDoorW.PrintLast Go.Proofs.YtokkgjiofhhlkaaDoorW.PrintMore
attribute [local go_sem] max2_int min2_int max_two min_two max_three min_three max_four min_four
set_option linter.unusedVariables false
set_option linter.unusedSimpArgs false
mutual
def muslinref04_Decode.l0 : Nat → ByteArray → List Int → Int → Option (ByteArray × Bool)
  | 0, _, _, _ => none
  | k + 1, x1, x8, x9 => if x9 < (x1.size : Int) then (if 0 ≤ x9 then (if (wrap64 (bt x1 x9)) ≥ 128 then (muslinref04_Decode.j1 k x1 x8 x9 (wrap64 (bt x1 x9)) (decide ((wrap64 (bt x1 x9)) < 160))) else (muslinref04_Decode.j1 k x1 x8 x9 (wrap64 (bt x1 x9)) false)) else (none)) else (some (strOfNums x8, true))
def muslinref04_Decode.j1 : Nat → ByteArray → List Int → Int → Int → Bool → Option (ByteArray × Bool)
  | 0, _, _, _, _, _ => none
  | k + 1, x1, x8, x9, x10, x37 => if x37 = true then (if 0 ≤ x9 then (if x9 < (x1.size : Int) then ((muslinref04_high.f (bt x1 x9)).bind fun t145 => ((muslinref04_Sign.f k t145).bind fun t146 => (if x8.length + t146.size < 140737488355328 then (muslinref04_Decode.l0 k x1 (x8 ++ bytesOf t146) (wrap64 (x9 + 1))) else (none)))) else (none)) else (none)) else ((muslinref04_Sign.f k x10).bind fun t150 => (if x8.length + t150.size < 140737488355328 then (muslinref04_Decode.l0 k x1 (x8 ++ bytesOf t150) (wrap64 (x9 + 1))) else (none)))
def muslinref04_Decode.j2 : Nat → ByteArray → ByteArray → Bool → List Int → Bool → Option (ByteArray × Bool)
  | 0, _, _, _, _, _ => none
  | k + 1, x1, x6, x7, x8, x48 => if x48 = true then ((muslinref04_units.f k x1 (x6.toList == ([117, 116, 102, 45, 49, 54, 98, 101] : List UInt8))).bind fun bt154 => (muslinref04_Decode.l1 k x8 bt154.1 bt154.2 0)) else ((muslinref04_Valid.f k x1).bind fun t176 => (some (t176, x7)))
def muslinref04_Decode.l1 : Nat → List Int → List Int → Bool → Int → Option (ByteArray × Bool)
  | 0, _, _, _, _ => none
  | k + 1, x8, x11, x12, x13 => if x13 < (x11.length : Int) then (if 0 ≤ x13 then (if (rd x11 x13) ≥ 55296 then (if (rd x11 x13) ≤ 56319 then (if (wrap64 (x13 + 1)) < (x11.length : Int) then (if 0 ≤ (wrap64 (x13 + 1)) then (if (rd x11 (wrap64 (x13 + 1))) ≥ 56320 then (muslinref04_Decode.j4 k x8 x11 x12 x13 (decide ((rd x11 (wrap64 (x13 + 1))) ≤ 57343))) else (muslinref04_Decode.j4 k x8 x11 x12 x13 false)) else (none)) else (muslinref04_Decode.j4 k x8 x11 x12 x13 false)) else (muslinref04_Decode.j4 k x8 x11 x12 x13 false)) else (muslinref04_Decode.j4 k x8 x11 x12 x13 false)) else (none)) else (if x12 = true then (if x8.length + 3 < 140737488355328 then (some (strOfNums (x8 ++ bytesOf (⟨#[239, 191, 189]⟩ : ByteArray)), true)) else (none)) else (some (strOfNums x8, true)))
def muslinref04_Decode.j4 : Nat → List Int → List Int → Bool → Int → Bool → Option (ByteArray × Bool)
  | 0, _, _, _, _, _ => none
  | k + 1, x8, x11, x12, x13, x98 => if x98 = true then (if 0 ≤ x13 then (if x13 < (x11.length : Int) then (if 0 ≤ (wrap64 (x13 + 1)) then (if (wrap64 (x13 + 1)) < (x11.length : Int) then ((muslinref04_Sign.f k (wrap64 ((wrap64 ((wrap64 (65536 + (wrap64 (1024 * (wrap64 ((rd x11 x13) - 55296)))))) + (rd x11 (wrap64 (x13 + 1))))) - 56320))).bind fun t167 => (if x8.length + t167.size < 140737488355328 then (muslinref04_Decode.l1 k (x8 ++ bytesOf t167) x11 x12 (wrap64 ((wrap64 (x13 + 1)) + 1))) else (none))) else (none)) else (none)) else (none)) else (none)) else (if 0 ≤ x13 then (if x13 < (x11.length : Int) then ((muslinref04_Sign.f k (rd x11 x13)).bind fun t172 => (if x8.length + t172.size < 140737488355328 then (muslinref04_Decode.l1 k (x8 ++ bytesOf t172) x11 x12 (wrap64 (x13 + 1))) else (none))) else (none)) else (none))
end
def muslinref04_Decode.f (k : Nat) (a0 : ByteArray) (a1 : ByteArray) : Option (ByteArray × Bool) := (muslinref04_Known.f k a0).bind fun bt143 => (if bt143.1.toList = ([119, 105, 110, 100, 111, 119, 115, 45, 49, 50, 53, 50] : List UInt8) then (muslinref04_Decode.l0 k a1 ([] : List Int) 0) else (if bt143.1.toList = ([117, 116, 102, 45, 49, 54, 108, 101] : List UInt8) then (muslinref04_Decode.j2 k a1 bt143.1 bt143.2 ([] : List Int) (bt143.1.toList == ([117, 116, 102, 45, 49, 54, 108, 101] : List UInt8))) else (muslinref04_Decode.j2 k a1 bt143.1 bt143.2 ([] : List Int) (bt143.1.toList == ([117, 116, 102, 45, 49, 54, 98, 101] : List UInt8)))))
def muslinref04_Decode.T20 : Bool × List (List Nat × List Nat) := (true, [([], []), ([], []), ([], []), ([1, 2], [1, 2]), ([3], [3]), ([4], [4]), ([5], [5]), ([6], [6]), ([], []), ([], []), ([9], [9]), ([8, 10], [8, 10]), ([11], [11]), ([7, 12], [7, 12]), ([13], [13]), ([14], [14]), ([0, 15, 15], [0, 15]), ([16, 16, 0, 1, 2, 3, 4, 5, 6, 7, 8, 9, 10, 11, 12, 13, 14, 15, 16], [0, 16])])
def muslinref04_Decode.B20 : List Nat := [0, 0, 0, 6, 14, 30, 62, 126, 0, 0, 512, 1792, 3840, 8190, 16382, 32766, 65535, 131071]
theorem muslinref04_Decode.tab20 : rtab .any (opsOf Tryd.f30 20) = muslinref04_Decode.T20 := by kernel_rfl
theorem muslinref04_Decode.bits20 : waitsOk muslinref04_Decode.T20.2 muslinref04_Decode.B20 = true := by kernel_rfl
set_option maxHeartbeats 8000000 in
set_option maxRecDepth 100000 in
theorem muslinref04_Decode.calls (k : Nat) (a0 : ByteArray) (a1 : ByteArray) (r1 : ByteArray) (r2 : Bool) (w : World) (h : muslinref04_Decode.f k a0 a1 = some (r1, r2)) :
    Calls Tryd.prog 30 #[.string a0, .string a1] w fun e w' => e = .returned (.tuple #[.string r1, .bool r2]) ∧ Below w.heap.size w w' := by
  have HB := Aside0.mk (Below.refl w.heap.size w)
  have H : ((muslinref04_Known.f k a0).bind fun bt143 => (if bt143.1.toList = ([119, 105, 110, 100, 111, 119, 115, 45, 49, 50, 53, 50] : List UInt8) then (muslinref04_Decode.l0 k a1 ([] : List Int) 0) else (if bt143.1.toList = ([117, 116, 102, 45, 49, 54, 108, 101] : List UInt8) then (muslinref04_Decode.j2 k a1 bt143.1 bt143.2 ([] : List Int) (bt143.1.toList == ([117, 116, 102, 45, 49, 54, 108, 101] : List UInt8))) else (muslinref04_Decode.j2 k a1 bt143.1 bt143.2 ([] : List Int) (bt143.1.toList == ([117, 116, 102, 45, 49, 54, 98, 101] : List UInt8)))))) = some (r1, r2) := h
  clear h
  replace H := Option.bind_eq_some_iff.mp H
  obtain ⟨⟨t143, t144⟩, A30, H⟩ := H
  replace H : (if t143.toList = ([119, 105, 110, 100, 111, 119, 115, 45, 49, 50, 53, 50] : List UInt8) then (muslinref04_Decode.l0 k a1 ([] : List Int) 0) else (if t143.toList = ([117, 116, 102, 45, 49, 54, 108, 101] : List UInt8) then (muslinref04_Decode.j2 k a1 t143 t144 ([] : List Int) (t143.toList == ([117, 116, 102, 45, 49, 54, 108, 101] : List UInt8))) else (muslinref04_Decode.j2 k a1 t143 t144 ([] : List Int) (t143.toList == ([117, 116, 102, 45, 49, 54, 98, 101] : List UInt8))))) = some (r1, r2) := H
  have A3 := Aside0.mk A30
  clear A30
  by_cases c4 : t143.toList = ([119, 105, 110, 100, 111, 119, 115, 45, 49, 50, 53, 50] : List UInt8)
  · rw [if_pos c4] at H
    have c4b0 : (t143.toList == ([119, 105, 110, 100, 111, 119, 115, 45, 49, 50, 53, 50] : List UInt8)) = true := beq_iff_eq.mpr c4
    have c4b1 : (t143.toList != ([119, 105, 110, 100, 111, 119, 115, 45, 49, 50, 53, 50] : List UInt8)) = false := bne_eq_false_iff_eq.mpr c4
    clear c4
    have H' := Aside0.mk H
    clear H
    go_enter Tryd.func30, Tryd.ntmps30
    go_wp2_with (first | ((with_reducible refine gate_callee (f := 27) rfl ?_); refine goesL_ (some 16) rfl rfl Tryd.func27 (by kernel_rfl) rfl #[.string a0] rfl (by (try simp only [List.map_toArray, List.map_cons, List.map_nil]); first | done | rfl | (simp only [List.length_drop, List.length_take]; rfl)) ?_; (with_reducible refine (muslinref04_Known.calls k a0 t143 t144 _ A3.out).mono ?_); rintro e w5 ⟨rfl, hb⟩; refine ⟨_, rfl, ?_⟩; have n0_ := Aside0.mk (below_step (by repeat (first | (with_reducible first | exact HB.out | apply below_alloc | apply pw_below_drewN | apply below_drew1) | exact HB.out)) hb); clear HB; have HB := n0_; clear n0_; (try clear hb); (try clear hb2); (try clear hk); (try clear hi)))
    go_loopg [8, 9] k (fun kq v8 v9 w' => ∃ (x8_1 : List Int) (x9_1 : Int), v9 = .int .i64 x9_1 ∧ Aside0 (muslinref04_Decode.l0 kq a1 x8_1 x9_1 = some (r1, r2)) ∧ Aside0 (kq ≤ k) ∧ Aside0 (Kd.R (Kd.int .u8) 5 w' w.heap.size (fun _ => True) v8 x8_1) ∧ Aside0 (Below w.heap.size w w'))
    case atStart => exact ⟨(([] : List Int)), (0), (by first | rfl | (simp; done) | (simp [*]; done)), H', ⟨Nat.le_refl _⟩, ⟨by first | exact Kd.R_nil _ _ _ _ _ | exact Kd.N_nil _ _ _ _ _ | exact Kd.V_nil _ _ _ _ _ | exact Kd.Q_nil _ _ _ _ _ | exact Kd.S_nil _ _ _ _ _⟩, ⟨by repeat (first | (with_reducible first | exact HB.out | apply below_alloc | apply pw_below_drewN | apply below_drew1) | exact HB.out)⟩⟩
    case round =>
      clear H'
      try clear c2
      try clear p2
      try clear c3
      try clear c4
      try clear c4b0
      try clear c4b1
      obtain ⟨x8_1, x9_1, rfl, HA, HK1, HO_8, HB⟩ := hrel
      cases gk with
      | zero => exact absurd HA.out (by simp [muslinref04_Decode.l0])
      | succ k1 =>
        have H := HA.out
        clear HA
        simp only [muslinref04_Decode.l0] at H
        by_cases c6 : x9_1 < (a1.size : Int)
        · rw [if_pos c6] at H
          have c6b0 : decide (x9_1 < (a1.size : Int)) = true := decide_eq_true c6
          clear c6
          by_cases c7 : 0 ≤ x9_1
          · rw [if_pos c7] at H
            have c7b0 : decide (0 ≤ x9_1) = true := decide_eq_true c7
            clear c7
            have HC9 := Aside0.mk H
            clear H
            have p8 : 0 ≤ (x9_1 : Int) := of_decide_eq_true (by first | (with_reducible assumption) | assumption)
            have q8 : x9_1 < (a1.size : Int) := of_decide_eq_true (by first | (with_reducible assumption) | assumption)
            have hx8 := bt_at a1 x9_1
            replace p8 := eq_true p8
            replace q8 := eq_true q8
            go_upto_region 9 with (fail)
            go_cut [37] (fun v37 wc => ∃ (kq : Nat) (x37_8 : Bool), v37 = .bool x37_8 ∧ Aside0 (muslinref04_Decode.j1 kq a1 x8_1 x9_1 (wrap64 (bt a1 x9_1)) x37_8 = some (r1, r2)) ∧ Aside0 (kq ≤ k1) ∧ Aside0 (Kd.R (Kd.int .u8) 5 wc w.heap.size (fun _ => True) u8 x8_1) ∧ Aside0 (Below w.heap.size w wc))
            case first =>
              have H := HC9.out
              clear HC9
              by_cases c10 : (wrap64 (bt a1 x9_1)) ≥ 128
              · rw [if_pos c10] at H
                have c10b0 : decide (128 ≤ (wrap64 (bt a1 x9_1))) = true := decide_eq_true c10
                clear c10
                (first | rw [c10b0] | (simp only [i64_w, i32_w]; rw [c10b0]) | skip)
                have H' := Aside0.mk H
                clear H
                go_wp2
                go_meet
                case rel => exact ⟨_, (decide ((wrap64 (bt a1 x9_1)) < 160)), (by first | rfl | (simp; done) | (simp [*]; done)), H', ⟨by have := HK1.out; first | omega | exact Nat.le_refl _⟩, ⟨by (with_reducible repeat (first | apply Kd.R_alloc | apply Kd.R_drewN | apply Kd.R_drew)); exact HO_8.out⟩, ⟨by repeat (first | (with_reducible first | exact HB.out | apply below_alloc | apply pw_below_drewN | apply below_drew1) | exact HB.out)⟩⟩
              · rw [if_neg c10] at H
                have c10b0 : decide (128 ≤ (wrap64 (bt a1 x9_1))) = false := decide_eq_false c10
                clear c10
                (first | rw [c10b0] | (simp only [i64_w, i32_w]; rw [c10b0]) | skip)
                have H' := Aside0.mk H
                clear H
                go_wp2
                go_meet
                case rel => exact ⟨_, (false), (by first | rfl | (simp; done) | (simp [*]; done)), H', ⟨by have := HK1.out; first | omega | exact Nat.le_refl _⟩, ⟨by (with_reducible repeat (first | apply Kd.R_alloc | apply Kd.R_drewN | apply Kd.R_drew)); exact HO_8.out⟩, ⟨by repeat (first | (with_reducible first | exact HB.out | apply below_alloc | apply pw_below_drewN | apply below_drew1) | exact HB.out)⟩⟩
            case rest =>
              clear HC9
              try clear c1
              try clear c2
              try clear p2
              try clear c3
              try clear c4
              try clear c4b0
              try clear c4b1
              try clear c6
              try clear c6b0
              try clear p6
              try clear c7
              try clear c7b0
              try clear p8
              try clear q8
              try clear hx8
              try clear c10
              try clear c10b0
              try clear p2
              try clear p8
              try clear q8
              obtain ⟨kq, x37_8, rfl, HA, HJ8, HO_8, HB⟩ := hcut
              cases kq with
              | zero => exact absurd HA.out (by simp [muslinref04_Decode.j1])
              | succ kj8 =>
                have H := HA.out
                clear HA
                simp only [muslinref04_Decode.j1] at H
                by_cases c11 : x37_8 = true
                · subst c11
                  have H1 : (if 0 ≤ x9_1 then (if x9_1 < (a1.size : Int) then ((muslinref04_high.f (bt a1 x9_1)).bind fun t145 => ((muslinref04_Sign.f kj8 t145).bind fun t146 => (if x8_1.length + t146.size < 140737488355328 then (muslinref04_Decode.l0 kj8 a1 (x8_1 ++ bytesOf t146) (wrap64 (x9_1 + 1))) else (none)))) else (none)) else (none)) = some (r1, r2) := by rw [if_pos rfl] at H; exact H
                  clear H
                  have H := H1
                  clear H1
                  by_cases c12 : 0 ≤ x9_1
                  · rw [if_pos c12] at H
                    have c12b0 : decide (0 ≤ x9_1) = true := decide_eq_true c12
                    clear c12
                    by_cases c13 : x9_1 < (a1.size : Int)
                    · rw [if_pos c13] at H
                      have c13b0 : decide (x9_1 < (a1.size : Int)) = true := decide_eq_true c13
                      clear c13
                      replace H := Option.bind_eq_some_iff.mp H
                      obtain ⟨t145, A150, H⟩ := H
                      replace H : ((muslinref04_Sign.f kj8 t145).bind fun t146 => (if x8_1.length + t146.size < 140737488355328 then (muslinref04_Decode.l0 kj8 a1 (x8_1 ++ bytesOf t146) (wrap64 (x9_1 + 1))) else (none))) = some (r1, r2) := H
                      have A15 := Aside0.mk A150
                      clear A150
                      replace H := Option.bind_eq_some_iff.mp H
                      obtain ⟨t146, A160, H⟩ := H
                      replace H : (if x8_1.length + t146.size < 140737488355328 then (muslinref04_Decode.l0 kj8 a1 (x8_1 ++ bytesOf t146) (wrap64 (x9_1 + 1))) else (none)) = some (r1, r2) := H
                      have A16 := Aside0.mk A160
                      clear A160
                      by_cases c17 : x8_1.length + t146.size < 140737488355328
                      · rw [if_pos c17] at H
                        have LMc17 := Aside0.mk c17
                        clear c17
                        obtain ⟨y147, hy147⟩ : ∃ y_ : List Int, y_ = (x8_1 ++ bytesOf t146) := ⟨_, rfl⟩
                        replace H : (muslinref04_Decode.l0 kj8 a1 y147 (wrap64 (x9_1 + 1))) = some (r1, r2) := by first | (rw [hy147]; with_reducible exact H) | (have H2_ := (Option.bind_some _ _).symm.trans H; rw [hy147]; with_reducible exact H2_) | (have H2_ := (Option.bind_some _ _).symm.trans H; with_reducible exact H2_) | with_reducible exact H | (rw [hy147]; exact H) | exact H
                        have Ny147 := Aside0.mk hy147
                        clear hy147
                        have H' := Aside0.mk H
                        clear H
                        have p14 : 0 ≤ (x9_1 : Int) := of_decide_eq_true (by first | (with_reducible assumption) | assumption)
                        have q14 : x9_1 < (a1.size : Int) := of_decide_eq_true (by first | (with_reducible assumption) | assumption)
                        have hx14 := bt_at a1 x9_1
                        replace p14 := eq_true p14
                        replace q14 := eq_true q14
                        go_wp2_with (first | ((with_reducible refine gate_callee (f := 59) rfl ?_); refine goesL_ (some 41) rfl rfl Tryd.func59 (by kernel_rfl) rfl #[.int .u8 (bt a1 x9_1)] rfl (by (try simp only [List.map_toArray, List.map_cons, List.map_nil]); first | done | rfl | (simp only [List.length_drop, List.length_take]; rfl)) ?_; (with_reducible refine (muslinref04_high.calls (bt a1 x9_1) t145 _ A15.out).mono ?_); rintro e w18 ⟨rfl, hb⟩; refine ⟨_, rfl, ?_⟩; have n0_ := Aside0.mk (Kd.R_below (by (with_reducible repeat (first | apply Kd.R_alloc | apply Kd.R_drewN | apply Kd.R_drew)); exact HO_8.out) hb); have n1_ := Aside0.mk (below_step (by repeat (first | (with_reducible first | exact HB.out | apply below_alloc | apply pw_below_drewN | apply below_drew1) | exact HB.out)) hb); clear HO_8; clear HB; have HO_8 := n0_; have HB := n1_; clear n0_ n1_; (try clear hb); (try clear hb2); (try clear hk); (try clear hi)) | ((with_reducible refine gate_callee (f := 60) rfl ?_); refine goesL_ (some 44) rfl rfl Tryd.func60 (by kernel_rfl) rfl #[.int .i64 t145] rfl (by (try simp only [List.map_toArray, List.map_cons, List.map_nil]); first | done | rfl | (simp only [List.length_drop, List.length_take]; rfl)) ?_; (with_reducible refine (muslinref04_Sign.calls kj8 t145 t146 _ A16.out).mono ?_); rintro e w19 ⟨rfl, hb⟩; refine ⟨_, rfl, ?_⟩; have n0_ := Aside0.mk (Kd.R_below (by (with_reducible repeat (first | apply Kd.R_alloc | apply Kd.R_drewN | apply Kd.R_drew)); exact HO_8.out) hb); have n1_ := Aside0.mk (below_step (by repeat (first | (with_reducible first | exact HB.out | apply below_alloc | apply pw_below_drewN | apply below_drew1) | exact HB.out)) hb); clear HO_8; clear HB; have HO_8 := n0_; have HB := n1_; clear n0_ n1_; (try clear hb); (try clear hb2); (try clear hk); (try clear hi)) | (at_builtin; refine print_append_str (w0 := w) w.heap.size rfl (.tmp 42) _ 37 9 5 rfl Tryd.underlying37 Tryd.underlying9 info5 u8 x8_1 t146 rfl rfl ?aO ?aB ?aS ?aL ?_; (case aB => exact (by repeat (first | (with_reducible first | exact HB.out | apply below_alloc | apply pw_below_drewN | apply below_drew1) | exact HB.out))); (case aO => exact (Kd.own_of_R (by (with_reducible repeat (first | apply Kd.R_alloc | apply Kd.R_drewN | apply Kd.R_drew)); exact HO_8.out))); (case aS => exact (below_size (by repeat (first | (with_reducible first | exact HB.out | apply below_alloc | apply pw_below_drewN | apply below_drew1) | exact HB.out)))); (case aL => have := LMc17.out; first | omega | exact Nat.le_of_lt this); intro v148 w20 ho0 hb hg; have ho := Kd.R_of_own (h1 := fun _ => rfl) (ok := fun _ => True) ho0 (fun _ _ => trivial); clear ho0; have hat := True.intro; rw [← Ny147.out] at ho; change Kd.R (Kd.int .u8) 5 w20 w.heap.size (fun _ => True) v148 y147 at ho; have n0_ := Aside0.mk (hb); have n1_ := Aside0.mk (ho); clear HB; clear HO_8; have HB := n0_; have HO149 := n1_; clear n0_ n1_; clear ho hb hg hat))
                        go_roundg kj8
                        case measure => have := HK1.out; have := HJ8.out; omega
                        case rel => exact ⟨(y147), (wrap64 (x9_1 + 1)), (by first | rfl | (simp; done) | (simp [*]; done)), H', ⟨by have := HK1.out; have := HJ8.out; omega⟩, ⟨by (with_reducible repeat (first | apply Kd.R_alloc | apply Kd.R_drewN | apply Kd.R_drew)); exact HO149.out⟩, ⟨by repeat (first | (with_reducible first | exact HB.out | apply below_alloc | apply pw_below_drewN | apply below_drew1) | exact HB.out)⟩⟩
                      · rw [if_neg c17] at H
                        exact absurd H (by simp)
                    · rw [if_neg c13] at H
                      exact absurd H (by simp)
                  · rw [if_neg c12] at H
                    exact absurd H (by simp)
                · replace c11 := Bool.eq_false_iff.mpr c11
                  subst c11
                  have H1 : ((muslinref04_Sign.f kj8 (wrap64 (bt a1 x9_1))).bind fun t150 => (if x8_1.length + t150.size < 140737488355328 then (muslinref04_Decode.l0 kj8 a1 (x8_1 ++ bytesOf t150) (wrap64 (x9_1 + 1))) else (none))) = some (r1, r2) := by rw [if_neg (show ¬ (false = true) by decide)] at H; exact H
                  clear H
                  have H := H1
                  clear H1
                  replace H := Option.bind_eq_some_iff.mp H
                  obtain ⟨t150, A210, H⟩ := H
                  replace H : (if x8_1.length + t150.size < 140737488355328 then (muslinref04_Decode.l0 kj8 a1 (x8_1 ++ bytesOf t150) (wrap64 (x9_1 + 1))) else (none)) = some (r1, r2) := H
                  have A21 := Aside0.mk A210
                  clear A210
                  by_cases c22 : x8_1.length + t150.size < 140737488355328
                  · rw [if_pos c22] at H
                    have LMc22 := Aside0.mk c22
                    clear c22
                    obtain ⟨y151, hy151⟩ : ∃ y_ : List Int, y_ = (x8_1 ++ bytesOf t150) := ⟨_, rfl⟩
                    replace H : (muslinref04_Decode.l0 kj8 a1 y151 (wrap64 (x9_1 + 1))) = some (r1, r2) := by first | (rw [hy151]; with_reducible exact H) | (have H2_ := (Option.bind_some _ _).symm.trans H; rw [hy151]; with_reducible exact H2_) | (have H2_ := (Option.bind_some _ _).symm.trans H; with_reducible exact H2_) | with_reducible exact H | (rw [hy151]; exact H) | exact H
                    have Ny151 := Aside0.mk hy151
                    clear hy151
                    have H' := Aside0.mk H
                    clear H
                    go_wp2_with (first | ((with_reducible refine gate_callee (f := 60) rfl ?_); refine goesL_ (some 44) rfl rfl Tryd.func60 (by kernel_rfl) rfl #[.int .i64 (wrap64 (bt a1 x9_1))] rfl (by (try simp only [List.map_toArray, List.map_cons, List.map_nil]); first | done | rfl | (simp only [List.length_drop, List.length_take]; rfl)) ?_; (with_reducible refine (muslinref04_Sign.calls kj8 (wrap64 (bt a1 x9_1)) t150 _ A21.out).mono ?_); rintro e w23 ⟨rfl, hb⟩; refine ⟨_, rfl, ?_⟩; have n0_ := Aside0.mk (Kd.R_below (by (with_reducible repeat (first | apply Kd.R_alloc | apply Kd.R_drewN | apply Kd.R_drew)); exact HO_8.out) hb); have n1_ := Aside0.mk (below_step (by repeat (first | (with_reducible first | exact HB.out | apply below_alloc | apply pw_below_drewN | apply below_drew1) | exact HB.out)) hb); clear HO_8; clear HB; have HO_8 := n0_; have HB := n1_; clear n0_ n1_; (try clear hb); (try clear hb2); (try clear hk); (try clear hi)) | (at_builtin; refine print_append_str (w0 := w) w.heap.size rfl (.tmp 42) _ 37 9 5 rfl Tryd.underlying37 Tryd.underlying9 info5 u8 x8_1 t150 rfl rfl ?aO ?aB ?aS ?aL ?_; (case aB => exact (by repeat (first | (with_reducible first | exact HB.out | apply below_alloc | apply pw_below_drewN | apply below_drew1) | exact HB.out))); (case aO => exact (Kd.own_of_R (by (with_reducible repeat (first | apply Kd.R_alloc | apply Kd.R_drewN | apply Kd.R_drew)); exact HO_8.out))); (case aS => exact (below_size (by repeat (first | (with_reducible first | exact HB.out | apply below_alloc | apply pw_below_drewN | apply below_drew1) | exact HB.out)))); (case aL => have := LMc22.out; first | omega | exact Nat.le_of_lt this); intro v152 w24 ho0 hb hg; have ho := Kd.R_of_own (h1 := fun _ => rfl) (ok := fun _ => True) ho0 (fun _ _ => trivial); clear ho0; have hat := True.intro; rw [← Ny151.out] at ho; change Kd.R (Kd.int .u8) 5 w24 w.heap.size (fun _ => True) v152 y151 at ho; have n0_ := Aside0.mk (hb); have n1_ := Aside0.mk (ho); clear HB; clear HO_8; have HB := n0_; have HO153 := n1_; clear n0_ n1_; clear ho hb hg hat))
                    go_roundg kj8
                    case measure => have := HK1.out; have := HJ8.out; omega
                    case rel => exact ⟨(y151), (wrap64 (x9_1 + 1)), (by first | rfl | (simp; done) | (simp [*]; done)), H', ⟨by have := HK1.out; have := HJ8.out; omega⟩, ⟨by (with_reducible repeat (first | apply Kd.R_alloc | apply Kd.R_drewN | apply Kd.R_drew)); exact HO153.out⟩, ⟨by repeat (first | (with_reducible first | exact HB.out | apply below_alloc | apply pw_below_drewN | apply below_drew1) | exact HB.out)⟩⟩
                  · rw [if_neg c22] at H
                    exact absurd H (by simp)
          · rw [if_neg c7] at H
            exact absurd H (by simp)
        · rw [if_neg c6] at H
          have c6b0 : decide (x9_1 < (a1.size : Int)) = false := decide_eq_false c6
          clear c6
          simp only [Option.some.injEq, Prod.mk.injEq] at H
          obtain ⟨rfl, rfl⟩ := H
          have hcv25 := own_string (P := Tryd.prog) Tryd.underlying37 Tryd.underlying5 Tryd.underlying9 (Kd.own_of_R HO_8.out)
          go_wp2
          go_ret2
          exact ⟨by first | rfl | (simp [errW_none, errW_some] <;> rfl) | (simp [*, errW_none, errW_some] <;> rfl), by repeat (first | (with_reducible first | exact HB.out | apply below_alloc | apply pw_below_drewN | apply below_drew1) | exact HB.out)⟩
  · rw [if_neg c4] at H
    have c4b0 : (t143.toList == ([119, 105, 110, 100, 111, 119, 115, 45, 49, 50, 53, 50] : List UInt8)) = false := beq_eq_false_iff_ne.mpr c4
    have c4b1 : (t143.toList != ([119, 105, 110, 100, 111, 119, 115, 45, 49, 50, 53, 50] : List UInt8)) = true := bne_iff_ne.mpr c4
    have HC26 := Aside0.mk H
    clear H
    go_enter Tryd.func30, Tryd.ntmps30
    go_upto_if 48 with (first | ((with_reducible refine gate_callee (f := 27) rfl ?_); refine goesL_ (some 16) rfl rfl Tryd.func27 (by kernel_rfl) rfl #[.string a0] rfl (by (try simp only [List.map_toArray, List.map_cons, List.map_nil]); first | done | rfl | (simp only [List.length_drop, List.length_take]; rfl)) ?_; (with_reducible refine (muslinref04_Known.calls k a0 t143 t144 _ A3.out).mono ?_); rintro e w27 ⟨rfl, hb⟩; refine ⟨_, rfl, ?_⟩; have n0_ := Aside0.mk (below_step (by repeat (first | (with_reducible first | exact HB.out | apply below_alloc | apply pw_below_drewN | apply below_drew1) | exact HB.out)) hb); clear HB; have HB := n0_; clear n0_; (try clear hb); (try clear hb2); (try clear hk); (try clear hi)))
    (try simp only [Act.put, List.setIfInBounds_toArray, List.set_cons_zero, List.set_cons_succ])
    go_cut [48] (fun v48 wc => ∃ (kq : Nat) (x48_25 : Bool), v48 = .bool x48_25 ∧ Aside0 (muslinref04_Decode.j2 kq a1 t143 t144 ([] : List Int) x48_25 = some (r1, r2)) ∧ Aside0 (kq ≤ k) ∧ Aside0 (Kd.R (Kd.int .u8) 5 wc w.heap.size (fun _ => True) (.slice none 0 0) ([] : List Int)) ∧ Aside0 (Below w.heap.size w wc))
    case first =>
      have H := HC26.out
      clear HC26
      by_cases c28 : t143.toList = ([117, 116, 102, 45, 49, 54, 108, 101] : List UInt8)
      · rw [if_pos c28] at H
        have c28b0 : (t143.toList == ([117, 116, 102, 45, 49, 54, 108, 101] : List UInt8)) = true := beq_iff_eq.mpr c28
        have c28b1 : (t143.toList != ([117, 116, 102, 45, 49, 54, 108, 101] : List UInt8)) = false := bne_eq_false_iff_eq.mpr c28
        clear c28
        (first | rw [c28b0] | (simp only [i64_w, i32_w]; rw [c28b0]) | skip)
        have H' := Aside0.mk H
        clear H
        go_wp2
        go_meet
        case rel => exact ⟨_, ((t143.toList == ([117, 116, 102, 45, 49, 54, 108, 101] : List UInt8))), (by first | rfl | (simp; done) | (simp [*]; done)), H', ⟨by first | omega | exact Nat.le_refl _⟩, ⟨by first | exact Kd.R_nil _ _ _ _ _ | exact Kd.N_nil _ _ _ _ _ | exact Kd.V_nil _ _ _ _ _ | exact Kd.Q_nil _ _ _ _ _ | exact Kd.S_nil _ _ _ _ _⟩, ⟨by repeat (first | (with_reducible first | exact HB.out | apply below_alloc | apply pw_below_drewN | apply below_drew1) | exact HB.out)⟩⟩
      · rw [if_neg c28] at H
        have c28b0 : (t143.toList == ([117, 116, 102, 45, 49, 54, 108, 101] : List UInt8)) = false := beq_eq_false_iff_ne.mpr c28
        have c28b1 : (t143.toList != ([117, 116, 102, 45, 49, 54, 108, 101] : List UInt8)) = true := bne_iff_ne.mpr c28
        (first | rw [c28b0] | (simp only [i64_w, i32_w]; rw [c28b0]) | skip)
        have H' := Aside0.mk H
        clear H
        go_wp2
        go_meet
        case rel => exact ⟨_, ((t143.toList == ([117, 116, 102, 45, 49, 54, 98, 101] : List UInt8))), (by first | rfl | (simp; done) | (simp [*]; done)), H', ⟨by first | omega | exact Nat.le_refl _⟩, ⟨by first | exact Kd.R_nil _ _ _ _ _ | exact Kd.N_nil _ _ _ _ _ | exact Kd.V_nil _ _ _ _ _ | exact Kd.Q_nil _ _ _ _ _ | exact Kd.S_nil _ _ _ _ _⟩, ⟨by repeat (first | (with_reducible first | exact HB.out | apply below_alloc | apply pw_below_drewN | apply below_drew1) | exact HB.out)⟩⟩
    case rest =>
      clear HC26
      try clear c1
      try clear p1
      try clear q1
      try clear hx1
      try clear c2
      try clear p2
      try clear hcv2
      try clear c3
      try clear c4
      try clear c4b0
      try clear c4b1
      try clear c5
      try clear c6
      try clear c6b0
      try clear p6
      try clear c7
      try clear c7b0
      try clear p8
      try clear q8
      try clear hx8
      try clear c10
      try clear c10b0
      try clear c11
      try clear c12
      try clear c12b0
      try clear c13
      try clear c13b0
      try clear p14
      try clear q14
      try clear hx14
      try clear c17
      try clear c22
      try clear hcv25
      try clear c27
      try clear c28
      try clear c28b0
      try clear c28b1
      try clear p14
      try clear p2
      try clear p6
      try clear p8
      try clear q14
      try clear q8
      obtain ⟨kq, x48_25, rfl, HA, HJ25, HO_8, HB⟩ := hcut
      cases kq with
      | zero => exact absurd HA.out (by simp [muslinref04_Decode.j2])
      | succ kj25 =>
        have H := HA.out
        clear HA
        simp only [muslinref04_Decode.j2] at H
        by_cases c29 : x48_25 = true
        · subst c29
          have H1 : ((muslinref04_units.f kj25 a1 (t143.toList == ([117, 116, 102, 45, 49, 54, 98, 101] : List UInt8))).bind fun bt154 => (muslinref04_Decode.l1 kj25 ([] : List Int) bt154.1 bt154.2 0)) = some (r1, r2) := by rw [if_pos rfl] at H; exact H
          clear H
          have H := H1
          clear H1
          replace H := Option.bind_eq_some_iff.mp H
          obtain ⟨⟨t154, t155⟩, A300, H⟩ := H
          replace H : (muslinref04_Decode.l1 kj25 ([] : List Int) t154 t155 0) = some (r1, r2) := H
          have A30 := Aside0.mk A300
          clear A300
          have H' := Aside0.mk H
          clear H
          go_wp2_with (first | ((with_reducible refine gate_callee (f := 61) rfl ?_); refine goesL_ (some 55) rfl rfl Tryd.func61 (by kernel_rfl) rfl #[.string a1, .bool (t143.toList == ([117, 116, 102, 45, 49, 54, 98, 101] : List UInt8))] rfl (by (try simp only [List.map_toArray, List.map_cons, List.map_nil]); first | done | rfl | (simp only [List.length_drop, List.length_take]; rfl)) ?_; (with_reducible refine (muslinref04_units.calls kj25 a1 (t143.toList == ([117, 116, 102, 45, 49, 54, 98, 101] : List UInt8)) t154 t155 _ A30.out).mono ?_); rintro e w31 ⟨v156, rfl, ho0, hb⟩; refine ⟨_, rfl, ?_⟩; have n0_ := Aside0.mk (Kd.R_below (by (with_reducible repeat (first | apply Kd.R_alloc | apply Kd.R_drewN | apply Kd.R_drew)); exact HO_8.out) hb); have n1_ := Aside0.mk (Kd.R_lower ho0 (below_size (by repeat (first | (with_reducible first | exact HB.out | apply below_alloc | apply pw_below_drewN | apply below_drew1) | exact HB.out)))); have n2_ := Aside0.mk (below_step (by repeat (first | (with_reducible first | exact HB.out | apply below_alloc | apply pw_below_drewN | apply below_drew1) | exact HB.out)) hb); clear HO_8; clear HB; have HO_8 := n0_; have HO157 := n1_; have HB := n2_; clear n0_ n1_ n2_; (try clear hb); (try clear hb2); (try clear hk); (try clear hi); (try clear ho0)))
          go_loopg [8, 13] kj25 (fun kq v8 v13 w' => ∃ (x8_2 : List Int) (x13_2 : Int), v13 = .int .i64 x13_2 ∧ Aside0 (muslinref04_Decode.l1 kq x8_2 t154 t155 x13_2 = some (r1, r2)) ∧ Aside0 (kq ≤ kj25) ∧ Aside0 (Kd.R (Kd.int .u8) 5 w' w.heap.size (fun _ => True) v8 x8_2) ∧ Aside0 (Kd.R (Kd.int .i64) 3 w' w.heap.size (fun _ => True) v156 t154) ∧ Aside0 (Below w.heap.size w w'))
          case atStart => exact ⟨(([] : List Int)), (0), (by first | rfl | (simp; done) | (simp [*]; done)), H', ⟨Nat.le_refl _⟩, ⟨by (with_reducible repeat (first | apply Kd.R_alloc | apply Kd.R_drewN | apply Kd.R_drew)); exact HO_8.out⟩, ⟨by (with_reducible repeat (first | apply Kd.R_alloc | apply Kd.R_drewN | apply Kd.R_drew)); exact HO157.out⟩, ⟨by repeat (first | (with_reducible first | exact HB.out | apply below_alloc | apply pw_below_drewN | apply below_drew1) | exact HB.out)⟩⟩
          case round =>
            clear H'
            try clear c1
            try clear p1
            try clear q1
            try clear hx1
            try clear c2
            try clear p2
            try clear hcv2
            try clear c3
            try clear c4
            try clear c4b0
            try clear c4b1
            try clear c5
            try clear c6
            try clear c6b0
            try clear p6
            try clear c7
            try clear c7b0
            try clear p8
            try clear q8
            try clear hx8
            try clear c10
            try clear c10b0
            try clear c11
            try clear c12
            try clear c12b0
            try clear c13
            try clear c13b0
            try clear p14
            try clear q14
            try clear hx14
            try clear c17
            try clear c22
            try clear hcv25
            try clear c27
            try clear c28
            try clear c28b0
            try clear c28b1
            try clear c29
            try clear c30
            try clear p1
            try clear p14
            try clear p2
            try clear p6
            try clear p8
            try clear q1
            try clear q14
            try clear q8
            obtain ⟨x8_2, x13_2, rfl, HA, HK2, HO_8, HO_11, HB⟩ := hrel
            cases gk with
            | zero => exact absurd HA.out (by simp [muslinref04_Decode.l1])
            | succ k2 =>
              have H := HA.out
              clear HA
              simp only [muslinref04_Decode.l1] at H
              by_cases c32 : x13_2 < (t154.length : Int)
              · rw [if_pos c32] at H
                have c32b0 : decide (x13_2 < (t154.length : Int)) = true := decide_eq_true c32
                clear c32
                have HC33 := Aside0.mk H
                clear H
                obtain ⟨Ao34, co34, eo34⟩ := Kd.R_slice HO_11.out
                subst eo34
                go_upto_region 19 with (fail)
                go_cut [98] (fun v98 wc => ∃ (kq : Nat) (x98_32 : Bool), v98 = .bool x98_32 ∧ Aside0 (muslinref04_Decode.j4 kq x8_2 t154 t155 x13_2 x98_32 = some (r1, r2)) ∧ Aside0 (kq ≤ k2) ∧ Aside0 (Kd.R (Kd.int .u8) 5 wc w.heap.size (fun _ => True) u8 x8_2) ∧ Aside0 (Kd.R (Kd.int .i64) 3 wc w.heap.size (fun _ => True) (.slice Ao34 t154.length co34) t154) ∧ Aside0 (Below w.heap.size w wc))
                case first =>
                  have H := HC33.out
                  clear HC33
                  by_cases c35 : 0 ≤ x13_2
                  · rw [if_pos c35] at H
                    have c35b0 : decide (0 ≤ x13_2) = true := decide_eq_true c35
                    clear c35
                    (first | rw [c35b0] | (simp only [i64_w, i32_w]; rw [c35b0]) | skip)
                    by_cases c36 : (rd t154 x13_2) ≥ 55296
                    · rw [if_pos c36] at H
                      have c36b0 : decide (55296 ≤ (rd t154 x13_2)) = true := decide_eq_true c36
                      clear c36
                      by_cases c37 : (rd t154 x13_2) ≤ 56319
                      · rw [if_pos c37] at H
                        have c37b0 : decide ((rd t154 x13_2) ≤ 56319) = true := decide_eq_true c37
                        clear c37
                        by_cases c38 : (wrap64 (x13_2 + 1)) < (t154.length : Int)
                        · rw [if_pos c38] at H
                          have c38b0 : decide ((wrap64 (x13_2 + 1)) < (t154.length : Int)) = true := decide_eq_true c38
                          clear c38
                          obtain ⟨ji39, hji39⟩ : ∃ j_ : Int, (wrap64 (x13_2 + 1)) = j_ := ⟨_, rfl⟩
                          replace H : (if 0 ≤ (ji39) then (if (rd t154 (ji39)) ≥ 56320 then (muslinref04_Decode.j4 k2 x8_2 t154 t155 x13_2 (decide ((rd t154 (ji39)) ≤ 57343))) else (muslinref04_Decode.j4 k2 x8_2 t154 t155 x13_2 false)) else (none)) = some (r1, r2) := by first | (rw [hji39] at H; exact H) | (simp only [hji39] at H ⊢; exact H)
                          (try rw [hji39] at c38b0)
                          have hji39w : (IntKind.i64.wrap (x13_2 + 1)) = ji39 := (i64_w _).trans hji39
                          by_cases c40 : 0 ≤ (ji39)
                          · rw [if_pos c40] at H
                            have c40b0 : decide (0 ≤ (ji39)) = true := decide_eq_true c40
                            clear c40
                            by_cases c41 : (rd t154 (ji39)) ≥ 56320
                            · rw [if_pos c41] at H
                              have c41b0 : decide (56320 ≤ (rd t154 (ji39))) = true := decide_eq_true c41
                              clear c41
                              have H' := Aside0.mk H
                              clear H
                              have p161 : 0 ≤ (x13_2 : Int) := of_decide_eq_true (by first | (with_reducible assumption) | assumption)
                              have q161 : x13_2 < (t154.length : Int) := of_decide_eq_true (by first | (with_reducible assumption) | assumption)
                              obtain ⟨ad161, e161, hx161_0⟩ := Kd.at_int (Kd.R_reads' HO_11.out).2.2 x13_2 p161 q161
                              cases e161
                              replace p161 := eq_true p161
                              replace q161 := eq_true q161
                              have p162 : 0 ≤ (x13_2 : Int) := of_decide_eq_true (by first | (with_reducible assumption) | assumption)
                              have q162 : x13_2 < (t154.length : Int) := of_decide_eq_true (by first | (with_reducible assumption) | assumption)
                              obtain ⟨ad162, e162, hx162_0⟩ := Kd.at_int (Kd.R_reads' HO_11.out).2.2 x13_2 p162 q162
                              obtain rfl : ad161 = ad162 := (by injection e162)
                              replace p162 := eq_true p162
                              replace q162 := eq_true q162
                              have p163 : 0 ≤ ((ji39) : Int) := of_decide_eq_true (by first | (with_reducible assumption) | assumption)
                              have q163 : (ji39) < (t154.length : Int) := of_decide_eq_true (by first | (with_reducible assumption) | assumption)
                              obtain ⟨ad163, e163, hx163_0⟩ := Kd.at_int (Kd.R_reads' HO_11.out).2.2 (ji39) p163 q163
                              obtain rfl : ad161 = ad163 := (by injection e163)
                              replace p163 := eq_true p163
                              replace q163 := eq_true q163
                              have p164 : 0 ≤ ((ji39) : Int) := of_decide_eq_true (by first | (with_reducible assumption) | assumption)
                              have q164 : (ji39) < (t154.length : Int) := of_decide_eq_true (by first | (with_reducible assumption) | assumption)
                              obtain ⟨ad164, e164, hx164_0⟩ := Kd.at_int (Kd.R_reads' HO_11.out).2.2 (ji39) p164 q164
                              obtain rfl : ad161 = ad164 := (by injection e164)
                              replace p164 := eq_true p164
                              replace q164 := eq_true q164
                              go_wp2
                              go_meet
                              case rel => exact ⟨_, (decide ((rd t154 (ji39)) ≤ 57343)), (by first | rfl | (simp; done) | (simp only [← hji39] <;> (first | rfl | simp)) | (simp [*]; done)), H', ⟨by have := HJ25.out; have := HK2.out; first | omega | exact Nat.le_refl _⟩, ⟨by (with_reducible repeat (first | apply Kd.R_alloc | apply Kd.R_drewN | apply Kd.R_drew)); exact HO_8.out⟩, ⟨by (with_reducible repeat (first | apply Kd.R_alloc | apply Kd.R_drewN | apply Kd.R_drew)); exact HO_11.out⟩, ⟨by repeat (first | (with_reducible first | exact HB.out | apply below_alloc | apply pw_below_drewN | apply below_drew1) | exact HB.out)⟩⟩
                            · rw [if_neg c41] at H
                              have c41b0 : decide (56320 ≤ (rd t154 (ji39))) = false := decide_eq_false c41
                              clear c41
                              have H' := Aside0.mk H
                              clear H
                              have p161 : 0 ≤ (x13_2 : Int) := of_decide_eq_true (by first | (with_reducible assumption) | assumption)
                              have q161 : x13_2 < (t154.length : Int) := of_decide_eq_true (by first | (with_reducible assumption) | assumption)
                              obtain ⟨ad161, e161, hx161_0⟩ := Kd.at_int (Kd.R_reads' HO_11.out).2.2 x13_2 p161 q161
                              cases e161
                              replace p161 := eq_true p161
                              replace q161 := eq_true q161
                              have p162 : 0 ≤ (x13_2 : Int) := of_decide_eq_true (by first | (with_reducible assumption) | assumption)
                              have q162 : x13_2 < (t154.length : Int) := of_decide_eq_true (by first | (with_reducible assumption) | assumption)
                              obtain ⟨ad162, e162, hx162_0⟩ := Kd.at_int (Kd.R_reads' HO_11.out).2.2 x13_2 p162 q162
                              obtain rfl : ad161 = ad162 := (by injection e162)
                              replace p162 := eq_true p162
                              replace q162 := eq_true q162
                              have p163 : 0 ≤ ((ji39) : Int) := of_decide_eq_true (by first | (with_reducible assumption) | assumption)
                              have q163 : (ji39) < (t154.length : Int) := of_decide_eq_true (by first | (with_reducible assumption) | assumption)
                              obtain ⟨ad163, e163, hx163_0⟩ := Kd.at_int (Kd.R_reads' HO_11.out).2.2 (ji39) p163 q163
                              obtain rfl : ad161 = ad163 := (by injection e163)
                              replace p163 := eq_true p163
                              replace q163 := eq_true q163
                              go_wp2
                              go_meet
                              case rel => exact ⟨_, (false), (by first | rfl | (simp; done) | (simp [*]; done)), H', ⟨by have := HJ25.out; have := HK2.out; first | omega | exact Nat.le_refl _⟩, ⟨by (with_reducible repeat (first | apply Kd.R_alloc | apply Kd.R_drewN | apply Kd.R_drew)); exact HO_8.out⟩, ⟨by (with_reducible repeat (first | apply Kd.R_alloc | apply Kd.R_drewN | apply Kd.R_drew)); exact HO_11.out⟩, ⟨by repeat (first | (with_reducible first | exact HB.out | apply below_alloc | apply pw_below_drewN | apply below_drew1) | exact HB.out)⟩⟩
                          · rw [if_neg c40] at H
                            exact absurd H (by simp)
                        · rw [if_neg c38] at H
                          have c38b0 : decide ((wrap64 (x13_2 + 1)) < (t154.length : Int)) = false := decide_eq_false c38
                          clear c38
                          have H' := Aside0.mk H
                          clear H
                          have p161 : 0 ≤ (x13_2 : Int) := of_decide_eq_true (by first | (with_reducible assumption) | assumption)
                          have q161 : x13_2 < (t154.length : Int) := of_decide_eq_true (by first | (with_reducible assumption) | assumption)
                          obtain ⟨ad161, e161, hx161_0⟩ := Kd.at_int (Kd.R_reads' HO_11.out).2.2 x13_2 p161 q161
                          cases e161
                          replace p161 := eq_true p161
                          replace q161 := eq_true q161
                          have p162 : 0 ≤ (x13_2 : Int) := of_decide_eq_true (by first | (with_reducible assumption) | assumption)
                          have q162 : x13_2 < (t154.length : Int) := of_decide_eq_true (by first | (with_reducible assumption) | assumption)
                          obtain ⟨ad162, e162, hx162_0⟩ := Kd.at_int (Kd.R_reads' HO_11.out).2.2 x13_2 p162 q162
                          obtain rfl : ad161 = ad162 := (by injection e162)
                          replace p162 := eq_true p162
                          replace q162 := eq_true q162
                          go_wp2
                          go_meet
                          case rel => exact ⟨_, (false), (by first | rfl | (simp; done) | (simp [*]; done)), H', ⟨by have := HJ25.out; have := HK2.out; first | omega | exact Nat.le_refl _⟩, ⟨by (with_reducible repeat (first | apply Kd.R_alloc | apply Kd.R_drewN | apply Kd.R_drew)); exact HO_8.out⟩, ⟨by (with_reducible repeat (first | apply Kd.R_alloc | apply Kd.R_drewN | apply Kd.R_drew)); exact HO_11.out⟩, ⟨by repeat (first | (with_reducible first | exact HB.out | apply below_alloc | apply pw_below_drewN | apply below_drew1) | exact HB.out)⟩⟩
                      · rw [if_neg c37] at H
                        have c37b0 : decide ((rd t154 x13_2) ≤ 56319) = false := decide_eq_false c37
                        clear c37
                        have H' := Aside0.mk H
                        clear H
                        have p161 : 0 ≤ (x13_2 : Int) := of_decide_eq_true (by first | (with_reducible assumption) | assumption)
                        have q161 : x13_2 < (t154.length : Int) := of_decide_eq_true (by first | (with_reducible assumption) | assumption)
                        obtain ⟨ad161, e161, hx161_0⟩ := Kd.at_int (Kd.R_reads' HO_11.out).2.2 x13_2 p161 q161
                        cases e161
                        replace p161 := eq_true p161
                        replace q161 := eq_true q161
                        have p162 : 0 ≤ (x13_2 : Int) := of_decide_eq_true (by first | (with_reducible assumption) | assumption)
                        have q162 : x13_2 < (t154.length : Int) := of_decide_eq_true (by first | (with_reducible assumption) | assumption)
                        obtain ⟨ad162, e162, hx162_0⟩ := Kd.at_int (Kd.R_reads' HO_11.out).2.2 x13_2 p162 q162
                        obtain rfl : ad161 = ad162 := (by injection e162)
                        replace p162 := eq_true p162
                        replace q162 := eq_true q162
                        go_wp2
                        go_meet
                        case rel => exact ⟨_, (false), (by first | rfl | (simp; done) | (simp [*]; done)), H', ⟨by have := HJ25.out; have := HK2.out; first | omega | exact Nat.le_refl _⟩, ⟨by (with_reducible repeat (first | apply Kd.R_alloc | apply Kd.R_drewN | apply Kd.R_drew)); exact HO_8.out⟩, ⟨by (with_reducible repeat (first | apply Kd.R_alloc | apply Kd.R_drewN | apply Kd.R_drew)); exact HO_11.out⟩, ⟨by repeat (first | (with_reducible first | exact HB.out | apply below_alloc | apply pw_below_drewN | apply below_drew1) | exact HB.out)⟩⟩
                    · rw [if_neg c36] at H
                      have c36b0 : decide (55296 ≤ (rd t154 x13_2)) = false := decide_eq_false c36
                      clear c36
                      have H' := Aside0.mk H
                      clear H
                      have p161 : 0 ≤ (x13_2 : Int) := of_decide_eq_true (by first | (with_reducible assumption) | assumption)
                      have q161 : x13_2 < (t154.length : Int) := of_decide_eq_true (by first | (with_reducible assumption) | assumption)
                      obtain ⟨ad161, e161, hx161_0⟩ := Kd.at_int (Kd.R_reads' HO_11.out).2.2 x13_2 p161 q161
                      cases e161
                      replace p161 := eq_true p161
                      replace q161 := eq_true q161
                      go_wp2
                      go_meet
                      case rel => exact ⟨_, (false), (by first | rfl | (simp; done) | (simp [*]; done)), H', ⟨by have := HJ25.out; have := HK2.out; first | omega | exact Nat.le_refl _⟩, ⟨by (with_reducible repeat (first | apply Kd.R_alloc | apply Kd.R_drewN | apply Kd.R_drew)); exact HO_8.out⟩, ⟨by (with_reducible repeat (first | apply Kd.R_alloc | apply Kd.R_drewN | apply Kd.R_drew)); exact HO_11.out⟩, ⟨by repeat (first | (with_reducible first | exact HB.out | apply below_alloc | apply pw_below_drewN | apply below_drew1) | exact HB.out)⟩⟩
                  · rw [if_neg c35] at H
                    exact absurd H (by simp)
                case rest =>
                  clear HC33
                  try clear c1
                  try clear p1
                  try clear q1
                  try clear hx1
                  try clear c2
                  try clear p2
                  try clear hcv2
                  try clear c3
                  try clear c4
                  try clear c4b0
                  try clear c4b1
                  try clear c5
                  try clear c6
                  try clear c6b0
                  try clear p6
                  try clear c7
                  try clear c7b0
                  try clear p8
                  try clear q8
                  try clear hx8
                  try clear c10
                  try clear c10b0
                  try clear c11
                  try clear c12
                  try clear c12b0
                  try clear c13
                  try clear c13b0
                  try clear p14
                  try clear q14
                  try clear hx14
                  try clear p16
                  try clear q16
                  try clear hx16
                  try clear c17
                  try clear c22
                  try clear hcv25
                  try clear c27
                  try clear c28
                  try clear c28b0
                  try clear c28b1
                  try clear c29
                  try clear c30
                  try clear c32
                  try clear c32b0
                  try clear c35
                  try clear c35b0
                  try clear c36
                  try clear c36b0
                  try clear c37
                  try clear c37b0
                  try clear c38
                  try clear c38b0
                  try clear c40
                  try clear c40b0
                  try clear c41
                  try clear c41b0
                  try clear hx161_0
                  try clear hx162_0
                  try clear hx163_0
                  try clear hx164_0
                  try clear p1
                  try clear p14
                  try clear p161
                  try clear p162
                  try clear p163
                  try clear p164
                  try clear p2
                  try clear p6
                  try clear p8
                  try clear q1
                  try clear q14
                  try clear q161
                  try clear q162
                  try clear q163
                  try clear q164
                  try clear q8
                  obtain ⟨kq, x98_32, rfl, HA, HJ32, HO_8, HO_11, HB⟩ := hcut
                  cases kq with
                  | zero => exact absurd HA.out (by simp [muslinref04_Decode.j4])
                  | succ kj32 =>
                    have H := HA.out
                    clear HA
                    simp only [muslinref04_Decode.j4] at H
                    by_cases c42 : x98_32 = true
                    · subst c42
                      have H1 : (if 0 ≤ x13_2 then (if x13_2 < (t154.length : Int) then (if 0 ≤ (wrap64 (x13_2 + 1)) then (if (wrap64 (x13_2 + 1)) < (t154.length : Int) then ((muslinref04_Sign.f kj32 (wrap64 ((wrap64 ((wrap64 (65536 + (wrap64 (1024 * (wrap64 ((rd t154 x13_2) - 55296)))))) + (rd t154 (wrap64 (x13_2 + 1))))) - 56320))).bind fun t167 => (if x8_2.length + t167.size < 140737488355328 then (muslinref04_Decode.l1 kj32 (x8_2 ++ bytesOf t167) t154 t155 (wrap64 ((wrap64 (x13_2 + 1)) + 1))) else (none))) else (none)) else (none)) else (none)) else (none)) = some (r1, r2) := by rw [if_pos rfl] at H; exact H
                      clear H
                      have H := H1
                      clear H1
                      by_cases c43 : 0 ≤ x13_2
                      · rw [if_pos c43] at H
                        have c43b0 : decide (0 ≤ x13_2) = true := decide_eq_true c43
                        clear c43
                        by_cases c44 : x13_2 < (t154.length : Int)
                        · rw [if_pos c44] at H
                          have c44b0 : decide (x13_2 < (t154.length : Int)) = true := decide_eq_true c44
                          clear c44
                          obtain ⟨ji45, hji45⟩ : ∃ j_ : Int, (wrap64 (x13_2 + 1)) = j_ := ⟨_, rfl⟩
                          replace H : (if 0 ≤ (ji45) then (if (ji45) < (t154.length : Int) then ((muslinref04_Sign.f kj32 (wrap64 ((wrap64 ((wrap64 (65536 + (wrap64 (1024 * (wrap64 ((rd t154 x13_2) - 55296)))))) + (rd t154 (ji45)))) - 56320))).bind fun t167 => (if x8_2.length + t167.size < 140737488355328 then (muslinref04_Decode.l1 kj32 (x8_2 ++ bytesOf t167) t154 t155 (wrap64 ((ji45) + 1))) else (none))) else (none)) else (none)) = some (r1, r2) := by first | (rw [hji45] at H; exact H) | (simp only [hji45] at H ⊢; exact H)
                          have hji45w : (IntKind.i64.wrap (x13_2 + 1)) = ji45 := (i64_w _).trans hji45
                          by_cases c46 : 0 ≤ (ji45)
                          · rw [if_pos c46] at H
                            have c46b0 : decide (0 ≤ (ji45)) = true := decide_eq_true c46
                            clear c46
                            by_cases c47 : (ji45) < (t154.length : Int)
                            · rw [if_pos c47] at H
                              have c47b0 : decide ((ji45) < (t154.length : Int)) = true := decide_eq_true c47
                              clear c47
                              replace H := Option.bind_eq_some_iff.mp H
                              obtain ⟨t167, A480, H⟩ := H
                              replace H : (if x8_2.length + t167.size < 140737488355328 then (muslinref04_Decode.l1 kj32 (x8_2 ++ bytesOf t167) t154 t155 (wrap64 ((ji45) + 1))) else (none)) = some (r1, r2) := H
                              have A48 := Aside0.mk A480
                              clear A480
                              by_cases c49 : x8_2.length + t167.size < 140737488355328
                              · rw [if_pos c49] at H
                                have LMc49 := Aside0.mk c49
                                clear c49
                                obtain ⟨y168, hy168⟩ : ∃ y_ : List Int, y_ = (x8_2 ++ bytesOf t167) := ⟨_, rfl⟩
                                replace H : (muslinref04_Decode.l1 kj32 y168 t154 t155 (wrap64 ((ji45) + 1))) = some (r1, r2) := by first | (rw [hy168]; with_reducible exact H) | (have H2_ := (Option.bind_some _ _).symm.trans H; rw [hy168]; with_reducible exact H2_) | (have H2_ := (Option.bind_some _ _).symm.trans H; with_reducible exact H2_) | with_reducible exact H | (rw [hy168]; exact H) | exact H
                                have Ny168 := Aside0.mk hy168
                                clear hy168
                                have H' := Aside0.mk H
                                clear H
                                try go_wp2
                                have n0_ := Aside0.mk (Kd.R_drew HO_8.out)
                                have n1_ := Aside0.mk (Kd.R_drew HO_11.out)
                                have n2_ := Aside0.mk (below_drew1 HB.out)
                                clear HO_8
                                clear HO_11
                                clear HB
                                have HO_8 := n0_
                                have HO_11 := n1_
                                have HB := n2_
                                clear n0_ n1_ n2_
                                have p165 : 0 ≤ (x13_2 : Int) := of_decide_eq_true (by first | (with_reducible assumption) | assumption)
                                have q165 : x13_2 < (t154.length : Int) := of_decide_eq_true (by first | (with_reducible assumption) | assumption)
                                obtain ⟨ad165, e165, hx165_0⟩ := Kd.at_int (Kd.R_reads' HO_11.out).2.2 x13_2 p165 q165
                                cases e165
                                replace p165 := eq_true p165
                                replace q165 := eq_true q165
                                have p166 : 0 ≤ ((ji45) : Int) := of_decide_eq_true (by first | (with_reducible assumption) | assumption)
                                have q166 : (ji45) < (t154.length : Int) := of_decide_eq_true (by first | (with_reducible assumption) | assumption)
                                obtain ⟨ad166, e166, hx166_0⟩ := Kd.at_int (Kd.R_reads' HO_11.out).2.2 (ji45) p166 q166
                                obtain rfl : ad165 = ad166 := (by injection e166)
                                replace p166 := eq_true p166
                                replace q166 := eq_true q166
                                refine start_ (n := 18) (S := fun w' => w'.cell? (ad165.add (x13_2).toNat) = some (.int .i64 (rd t154 x13_2)) ∧ w'.cell? (ad165.add ((ji45)).toNat) = some (.int .i64 (rd t154 (ji45)))) (ds := [16]) #[false, false, false, false, false, false, false, false, false, false, false, false, false, false, false, false, false, false] (by kernel_rfl) rfl rfl ⟨hx165_0, hx166_0⟩ (fun hHeld => ?_); refine with_tabW muslinref04_Decode.tab20 muslinref04_Decode.bits20 (fun HT_ HW_ => ?_)
                                generalize wc.drew = w50 at HO_8 HO_11 HB hx165_0 hx166_0 hHeld ⊢
                                refine pure_ (i := 0) (N := some 99) (v := ?_) (a' := ?_) #[true, false, false, false, false, false, false, false, false, false, false, false, false, false, false, false, false, false] rfl rfl (any_of HT_.out (by kernel_rfl)) (fun _ _ _ h => h) (Or.inl ⟨by rfl, ?_⟩) ?_ ?_
                                rotate_left
                                · intro w'
                                  go_simp
                                  with_reducible rfl
                                rotate_left
                                · simp only [Act.put, List.setIfInBounds_toArray, List.set_cons_zero, List.set_cons_succ, i64_w, i32_w]
                                  rfl
                                refine pure_ (i := 1) (N := some 100) (v := ?_) (a' := ?_) #[true, true, false, false, false, false, false, false, false, false, false, false, false, false, false, false, false, false] rfl rfl (any_of HT_.out (by kernel_rfl)) (fun _ _ _ h => h) (Or.inl ⟨by rfl, ?_⟩) ?_ ?_
                                rotate_left
                                · intro w'
                                  go_simp
                                  with_reducible rfl
                                rotate_left
                                · simp only [Act.put, List.setIfInBounds_toArray, List.set_cons_zero, List.set_cons_succ, i64_w, i32_w]
                                  rfl
                                refine pure_ (i := 2) (N := some 101) (v := ?_) (a' := ?_) #[true, true, true, false, false, false, false, false, false, false, false, false, false, false, false, false, false, false] rfl rfl (any_of HT_.out (by kernel_rfl)) (fun _ _ _ h => h) (Or.inl ⟨by rfl, ?_⟩) ?_ ?_
                                rotate_left
                                · intro w'
                                  go_simp
                                  with_reducible rfl
                                rotate_left
                                · simp only [Act.put, List.setIfInBounds_toArray, List.set_cons_zero, List.set_cons_succ, i64_w, i32_w]
                                  rfl
                                refine pure_ (i := 3) (N := some 102) (v := ?_) (a' := ?_) #[true, true, true, true, false, false, false, false, false, false, false, false, false, false, false, false, false, false] rfl rfl (any_of HT_.out (by kernel_rfl)) (fun _ _ _ h => h) (Or.inl ⟨by rfl, ?_⟩) ?_ ?_
                                rotate_left
                                · intro w'
                                  go_simp
                                  with_reducible rfl
                                rotate_left
                                · simp only [Act.put, List.setIfInBounds_toArray, List.set_cons_zero, List.set_cons_succ, i64_w, i32_w]
                                  rfl
                                refine pure_ (i := 8) (N := some 107) (v := ?_) (a' := ?_) #[true, true, true, true, false, false, false, false, true, false, false, false, false, false, false, false, false, false] rfl rfl (any_of HT_.out (by kernel_rfl)) (fun _ _ _ h => h) (Or.inl ⟨by rfl, ?_⟩) ?_ ?_
                                rotate_left
                                · intro w'
                                  go_simp
                                  with_reducible rfl
                                rotate_left
                                · simp only [Act.put, List.setIfInBounds_toArray, List.set_cons_zero, List.set_cons_succ, i64_w, i32_w]
                                  rfl
                                refine pure_ (i := 9) (N := some 108) (v := ?_) (a' := ?_) #[true, true, true, true, false, false, false, false, true, true, false, false, false, false, false, false, false, false] rfl rfl (any_of HT_.out (by kernel_rfl)) (fun _ _ _ h => h) (Or.inl ⟨by rfl, ?_⟩) ?_ ?_
                                rotate_left
                                · intro w'
                                  go_simp
                                  with_reducible rfl
                                rotate_left
                                · simp only [Act.put, List.setIfInBounds_toArray, List.set_cons_zero, List.set_cons_succ, i64_w, i32_w]
                                  rfl
                                refine pure_ (i := 10) (N := some 109) (v := ?_) (a' := ?_) #[true, true, true, true, false, false, false, false, true, true, true, false, false, false, false, false, false, false] rfl rfl (any_of HT_.out (by kernel_rfl)) (fun _ _ _ h => h) (Or.inl ⟨by rfl, ?_⟩) ?_ ?_
                                rotate_left
                                · intro w'
                                  go_simp
                                  with_reducible rfl
                                rotate_left
                                · simp only [Act.put, List.setIfInBounds_toArray, List.set_cons_zero, List.set_cons_succ, i64_w, i32_w]
                                  rfl
                                refine pure_ (i := 11) (N := some 110) (v := ?_) (a' := ?_) #[true, true, true, true, false, false, false, false, true, true, true, true, false, false, false, false, false, false] rfl rfl (any_of HT_.out (by kernel_rfl)) (fun _ _ _ h => h) (Or.inl ⟨by rfl, ?_⟩) ?_ ?_
                                rotate_left
                                · intro w'
                                  go_simp
                                  with_reducible rfl
                                rotate_left
                                · simp only [Act.put, List.setIfInBounds_toArray, List.set_cons_zero, List.set_cons_succ, i64_w, i32_w]
                                  rfl
                                refine take_ (i := 4) (N := some 103) (v := ?_) (a' := ?_) #[true, true, true, true, true, false, false, false, true, true, true, true, false, false, false, false, false, false] rfl rfl (take_ofW HT_.out HW_.out (by kernel_rfl)) (fun _ _ _ h => h) (Or.inl ⟨by rfl, ?_⟩) hHeld ?_ ?_
                                rotate_left
                                · rintro w' ⟨s0, s1⟩
                                  go_simp
                                  with_reducible rfl
                                rotate_left
                                · simp only [Act.put, List.setIfInBounds_toArray, List.set_cons_zero, List.set_cons_succ, i64_w, i32_w]
                                  rfl
                                refine pure_ (i := 5) (N := some 104) (v := ?_) (a' := ?_) #[true, true, true, true, true, true, false, false, true, true, true, true, false, false, false, false, false, false] rfl rfl (any_of HT_.out (by kernel_rfl)) (fun _ _ _ h => h) (Or.inl ⟨by rfl, ?_⟩) ?_ ?_
                                rotate_left
                                · intro w'
                                  go_simp
                                  with_reducible rfl
                                rotate_left
                                · simp only [Act.put, List.setIfInBounds_toArray, List.set_cons_zero, List.set_cons_succ, i64_w, i32_w]
                                  rfl
                                refine pure_ (i := 6) (N := some 105) (v := ?_) (a' := ?_) #[true, true, true, true, true, true, true, false, true, true, true, true, false, false, false, false, false, false] rfl rfl (any_of HT_.out (by kernel_rfl)) (fun _ _ _ h => h) (Or.inl ⟨by rfl, ?_⟩) ?_ ?_
                                rotate_left
                                · intro w'
                                  go_simp
                                  with_reducible rfl
                                rotate_left
                                · simp only [Act.put, List.setIfInBounds_toArray, List.set_cons_zero, List.set_cons_succ, i64_w, i32_w]
                                  rfl
                                refine pure_ (i := 7) (N := some 106) (v := ?_) (a' := ?_) #[true, true, true, true, true, true, true, true, true, true, true, true, false, false, false, false, false, false] rfl rfl (any_of HT_.out (by kernel_rfl)) (fun _ _ _ h => h) (Or.inl ⟨by rfl, ?_⟩) ?_ ?_
                                rotate_left
                                · intro w'
                                  go_simp
                                  with_reducible rfl
                                rotate_left
                                · simp only [Act.put, List.setIfInBounds_toArray, List.set_cons_zero, List.set_cons_succ, i64_w, i32_w]
                                  rfl
                                refine take_ (i := 12) (N := some 111) (v := ?_) (a' := ?_) #[true, true, true, true, true, true, true, true, true, true, true, true, true, false, false, false, false, false] rfl rfl (take_ofW HT_.out HW_.out (by kernel_rfl)) (fun _ _ _ h => h) (Or.inl ⟨by rfl, ?_⟩) hHeld ?_ ?_
                                rotate_left
                                · rintro w' ⟨s0, s1⟩
                                  go_simp
                                  with_reducible rfl
                                rotate_left
                                · simp only [Act.put, List.setIfInBounds_toArray, List.set_cons_zero, List.set_cons_succ, i64_w, i32_w]
                                  rfl
                                refine pure_ (i := 13) (N := some 112) (v := ?_) (a' := ?_) #[true, true, true, true, true, true, true, true, true, true, true, true, true, true, false, false, false, false] rfl rfl (any_of HT_.out (by kernel_rfl)) (fun _ _ _ h => h) (Or.inl ⟨by rfl, ?_⟩) ?_ ?_
                                rotate_left
                                · intro w'
                                  go_simp
                                  with_reducible rfl
                                rotate_left
                                · simp only [Act.put, List.setIfInBounds_toArray, List.set_cons_zero, List.set_cons_succ, i64_w, i32_w]
                                  rfl
                                refine pure_ (i := 14) (N := some 113) (v := ?_) (a' := ?_) #[true, true, true, true, true, true, true, true, true, true, true, true, true, true, true, false, false, false] rfl rfl (any_of HT_.out (by kernel_rfl)) (fun _ _ _ h => h) (Or.inl ⟨by rfl, ?_⟩) ?_ ?_
                                rotate_left
                                · intro w'
                                  go_simp
                                  with_reducible rfl
                                rotate_left
                                · simp only [Act.put, List.setIfInBounds_toArray, List.set_cons_zero, List.set_cons_succ, i64_w, i32_w]
                                  rfl
                                refine one_ (i := 15) (N := some 114) #[true, true, true, true, true, true, true, true, true, true, true, true, true, true, true, true, false, false] rfl rfl (one_of HT_.out (by kernel_rfl)) (by decide) (fun K hK => ?_)
                                refine goes_ Tryd.func60 (by kernel_rfl) rfl #[.int .i64 (wrap64 ((wrap64 ((wrap64 (65536 + (wrap64 (1024 * (wrap64 ((rd t154 x13_2) - 55296)))))) + (rd t154 (ji45)))) - 56320))] (by rfl) rfl rfl (by (try simp only [List.map_toArray, List.map_cons, List.map_nil]); first | done | (simp only [hji45]; rfl) | rfl | (simp only [List.length_drop, List.length_take]; rfl)) ?_
                                with_reducible refine (muslinref04_Sign.calls kj32 (wrap64 ((wrap64 ((wrap64 (65536 + (wrap64 (1024 * (wrap64 ((rd t154 x13_2) - 55296)))))) + (rd t154 (ji45)))) - 56320)) t167 _ A48.out).mono ?_
                                rintro e w51 ⟨rfl, hb⟩
                                have HS0_ := (hb.cell (World.block_lt_of_cell? _ _ (hHeld.1))).trans (hHeld.1)
                                have HS1_ := (hb.cell (World.block_lt_of_cell? _ _ (hHeld.2))).trans (hHeld.2)
                                refine ⟨_, rfl, ?_⟩
                                have n0_ := Aside0.mk (Kd.R_below (by (with_reducible repeat (first | apply Kd.R_alloc | apply Kd.R_drewN | apply Kd.R_drew)); exact HO_8.out) hb)
                                have n1_ := Aside0.mk (Kd.R_below (by (with_reducible repeat (first | apply Kd.R_alloc | apply Kd.R_drewN | apply Kd.R_drew)); exact HO_11.out) hb)
                                have n2_ := Aside0.mk (below_step (by repeat (first | (with_reducible first | exact HB.out | apply below_alloc | apply pw_below_drewN | apply below_drew1) | exact HB.out)) hb)
                                clear HO_8
                                clear HO_11
                                clear HB
                                have HO_8 := n0_
                                have HO_11 := n1_
                                have HB := n2_
                                clear n0_ n1_ n2_
                                (try clear hb)
                                (try clear hb2)
                                (try clear hk)
                                (try clear hi)
                                refine hK.out _ _ ⟨HS0_, HS1_⟩ (fun hHeld => ?_)
                                clear hK K
                                refine norm_ (a' := ?_) ?_ ?_
                                rotate_left
                                · show Act.put _ (some 114) _ = _
                                  simp only [Act.put, List.setIfInBounds_toArray, List.set_cons_zero, List.set_cons_succ, i64_w, i32_w]
                                  rfl
                                refine last_ (i := 16) (N := some 115) #[true, true, true, true, true, true, true, true, true, true, true, true, true, true, true, true, true, false] rfl rfl (one_of HT_.out (by kernel_rfl)) (by decide) (fun K hK => ?_)
                                refine print_append_str_step (w0 := w) w.heap.size (by rfl) (.tmp 99) _ 37 9 5 rfl Tryd.underlying37 Tryd.underlying9 info5 u8 x8_2 t167 rfl rfl ?aO ?aB ?aS ?aL ?_
                                (case aB => exact (by repeat (first | (with_reducible first | exact HB.out | apply below_alloc | apply pw_below_drewN | apply below_drew1) | exact HB.out)))
                                (case aO => exact (Kd.own_of_R (by (with_reducible repeat (first | apply Kd.R_alloc | apply Kd.R_drewN | apply Kd.R_drew)); exact HO_8.out)))
                                (case aS => exact (below_size (by repeat (first | (with_reducible first | exact HB.out | apply below_alloc | apply pw_below_drewN | apply below_drew1) | exact HB.out))))
                                (case aL => have := LMc49.out; first | omega | exact Nat.le_of_lt this)
                                intro v169 w52 ho0 hb hg
                                have ho := Kd.R_of_own (h1 := fun _ => rfl) (ok := fun _ => True) ho0 (fun _ _ => trivial)
                                clear ho0
                                have hat := True.intro
                                rw [← Ny168.out] at ho
                                change Kd.R (Kd.int .u8) 5 w52 w.heap.size (fun _ => True) v169 y168 at ho
                                have n0_ := Aside0.mk (Kd.R_over' (by (with_reducible repeat (first | apply Kd.R_alloc | apply Kd.R_drewN | apply Kd.R_drew)); exact HO_11.out) (Kd.R_typed (by (with_reducible repeat (first | apply Kd.R_alloc | apply Kd.R_drewN | apply Kd.R_drew)); exact HO_8.out)) (by decide) hg)
                                have n1_ := Aside0.mk (hb)
                                have n2_ := Aside0.mk (ho)
                                clear HO_11
                                clear HB
                                clear HO_8
                                have HO_11 := n0_
                                have HB := n1_
                                have HO170 := n2_
                                clear n0_ n1_ n2_
                                clear ho hb hg hat
                                refine hK.out _ _ ?_
                                clear hK K
                                refine norm_ (a' := ?_) ?_ ?_
                                rotate_left
                                · show Act.put _ (some 115) _ = _
                                  simp only [Act.put, List.setIfInBounds_toArray, List.set_cons_zero, List.set_cons_succ, i64_w, i32_w]
                                  rfl
                                refine pure_ (i := 17) (N := some 8) (v := ?_) (a' := ?_) #[true, true, true, true, true, true, true, true, true, true, true, true, true, true, true, true, true, true] rfl rfl (any_of HT_.out (by kernel_rfl)) (fun _ _ _ h => h) (Or.inl ⟨by rfl, ?_⟩) ?_ ?_
                                rotate_left
                                · intro w'
                                  go_simp
                                  with_reducible rfl
                                rotate_left
                                · simp only [Act.put, List.setIfInBounds_toArray, List.set_cons_zero, List.set_cons_succ, i64_w, i32_w]
                                  rfl
                                refine done_ (done_of HT_.out (by kernel_rfl)) ?_
                                try go_wp2
                                go_roundg kj32
                                case measure => have := HJ25.out; have := HK2.out; have := HJ32.out; omega
                                case rel => exact ⟨(y168), (wrap64 ((ji45) + 1)), (by first | rfl | (simp; done) | (simp only [← hji45] <;> (first | rfl | simp)) | (simp [*]; done)), H', ⟨by have := HJ25.out; have := HK2.out; have := HJ32.out; omega⟩, ⟨by (with_reducible repeat (first | apply Kd.R_alloc | apply Kd.R_drewN | apply Kd.R_drew)); exact HO170.out⟩, ⟨by (with_reducible repeat (first | apply Kd.R_alloc | apply Kd.R_drewN | apply Kd.R_drew)); exact HO_11.out⟩, ⟨by repeat (first | (with_reducible first | exact HB.out | apply below_alloc | apply pw_below_drewN | apply below_drew1) | exact HB.out)⟩⟩
                              · rw [if_neg c49] at H
                                exact absurd H (by simp)
                            · rw [if_neg c47] at H
                              exact absurd H (by simp)
                          · rw [if_neg c46] at H
                            exact absurd H (by simp)
                        · rw [if_neg c44] at H
                          exact absurd H (by simp)
                      · rw [if_neg c43] at H
                        exact absurd H (by simp)
                    · replace c42 := Bool.eq_false_iff.mpr c42
                      subst c42
                      have H1 : (if 0 ≤ x13_2 then (if x13_2 < (t154.length : Int) then ((muslinref04_Sign.f kj32 (rd t154 x13_2)).bind fun t172 => (if x8_2.length + t172.size < 140737488355328 then (muslinref04_Decode.l1 kj32 (x8_2 ++ bytesOf t172) t154 t155 (wrap64 (x13_2 + 1))) else (none))) else (none)) else (none)) = some (r1, r2) := by rw [if_neg (show ¬ (false = true) by decide)] at H; exact H
                      clear H
                      have H := H1
                      clear H1
                      by_cases c53 : 0 ≤ x13_2
                      · rw [if_pos c53] at H
                        have c53b0 : decide (0 ≤ x13_2) = true := decide_eq_true c53
                        clear c53
                        by_cases c54 : x13_2 < (t154.length : Int)
                        · rw [if_pos c54] at H
                          have c54b0 : decide (x13_2 < (t154.length : Int)) = true := decide_eq_true c54
                          clear c54
                          replace H := Option.bind_eq_some_iff.mp H
                          obtain ⟨t172, A550, H⟩ := H
                          replace H : (if x8_2.length + t172.size < 140737488355328 then (muslinref04_Decode.l1 kj32 (x8_2 ++ bytesOf t172) t154 t155 (wrap64 (x13_2 + 1))) else (none)) = some (r1, r2) := H
                          have A55 := Aside0.mk A550
                          clear A550
                          by_cases c56 : x8_2.length + t172.size < 140737488355328
                          · rw [if_pos c56] at H
                            have LMc56 := Aside0.mk c56
                            clear c56
                            obtain ⟨y173, hy173⟩ : ∃ y_ : List Int, y_ = (x8_2 ++ bytesOf t172) := ⟨_, rfl⟩
                            replace H : (muslinref04_Decode.l1 kj32 y173 t154 t155 (wrap64 (x13_2 + 1))) = some (r1, r2) := by first | (rw [hy173]; with_reducible exact H) | (have H2_ := (Option.bind_some _ _).symm.trans H; rw [hy173]; with_reducible exact H2_) | (have H2_ := (Option.bind_some _ _).symm.trans H; with_reducible exact H2_) | with_reducible exact H | (rw [hy173]; exact H) | exact H
                            have Ny173 := Aside0.mk hy173
                            clear hy173
                            have H' := Aside0.mk H
                            clear H
                            have p171 : 0 ≤ (x13_2 : Int) := of_decide_eq_true (by first | (with_reducible assumption) | assumption)
                            have q171 : x13_2 < (t154.length : Int) := of_decide_eq_true (by first | (with_reducible assumption) | assumption)
                            obtain ⟨ad171, e171, hx171_0⟩ := Kd.at_int (Kd.R_reads' HO_11.out).2.2 x13_2 p171 q171
                            cases e171
                            replace p171 := eq_true p171
                            replace q171 := eq_true q171
                            go_wp2_with (first | ((with_reducible refine gate_callee (f := 60) rfl ?_); refine goesL_ (some 123) rfl rfl Tryd.func60 (by kernel_rfl) rfl #[.int .i64 (rd t154 x13_2)] rfl (by (try simp only [List.map_toArray, List.map_cons, List.map_nil]); first | done | rfl | (simp only [List.length_drop, List.length_take]; rfl)) ?_; (with_reducible refine (muslinref04_Sign.calls kj32 (rd t154 x13_2) t172 _ A55.out).mono ?_); rintro e w57 ⟨rfl, hb⟩; refine ⟨_, rfl, ?_⟩; have n0_ := Aside0.mk (Kd.R_below (by (with_reducible repeat (first | apply Kd.R_alloc | apply Kd.R_drewN | apply Kd.R_drew)); exact HO_8.out) hb); have n1_ := Aside0.mk (Kd.R_below (by (with_reducible repeat (first | apply Kd.R_alloc | apply Kd.R_drewN | apply Kd.R_drew)); exact HO_11.out) hb); have n2_ := Aside0.mk (below_step (by repeat (first | (with_reducible first | exact HB.out | apply below_alloc | apply pw_below_drewN | apply below_drew1) | exact HB.out)) hb); clear HO_8; clear HO_11; clear HB; have HO_8 := n0_; have HO_11 := n1_; have HB := n2_; clear n0_ n1_ n2_; (try clear hb); (try clear hb2); (try clear hk); (try clear hi)) | (at_builtin; refine print_append_str (w0 := w) w.heap.size rfl (.tmp 118) _ 37 9 5 rfl Tryd.underlying37 Tryd.underlying9 info5 u8 x8_2 t172 rfl rfl ?aO ?aB ?aS ?aL ?_; (case aB => exact (by repeat (first | (with_reducible first | exact HB.out | apply below_alloc | apply pw_below_drewN | apply below_drew1) | exact HB.out))); (case aO => exact (Kd.own_of_R (by (with_reducible repeat (first | apply Kd.R_alloc | apply Kd.R_drewN | apply Kd.R_drew)); exact HO_8.out))); (case aS => exact (below_size (by repeat (first | (with_reducible first | exact HB.out | apply below_alloc | apply pw_below_drewN | apply below_drew1) | exact HB.out)))); (case aL => have := LMc56.out; first | omega | exact Nat.le_of_lt this); intro v174 w58 ho0 hb hg; have ho := Kd.R_of_own (h1 := fun _ => rfl) (ok := fun _ => True) ho0 (fun _ _ => trivial); clear ho0; have hat := True.intro; rw [← Ny173.out] at ho; change Kd.R (Kd.int .u8) 5 w58 w.heap.size (fun _ => True) v174 y173 at ho; have n0_ := Aside0.mk (Kd.R_over' (by (with_reducible repeat (first | apply Kd.R_alloc | apply Kd.R_drewN | apply Kd.R_drew)); exact HO_11.out) (Kd.R_typed (by (with_reducible repeat (first | apply Kd.R_alloc | apply Kd.R_drewN | apply Kd.R_drew)); exact HO_8.out)) (by decide) hg); have n1_ := Aside0.mk (hb); have n2_ := Aside0.mk (ho); clear HO_11; clear HB; clear HO_8; have HO_11 := n0_; have HB := n1_; have HO175 := n2_; clear n0_ n1_ n2_; clear ho hb hg hat))
                            go_roundg kj32
                            case measure => have := HJ25.out; have := HK2.out; have := HJ32.out; omega
                            case rel => exact ⟨(y173), (wrap64 (x13_2 + 1)), (by first | rfl | (simp; done) | (simp [*]; done)), H', ⟨by have := HJ25.out; have := HK2.out; have := HJ32.out; omega⟩, ⟨by (with_reducible repeat (first | apply Kd.R_alloc | apply Kd.R_drewN | apply Kd.R_drew)); exact HO175.out⟩, ⟨by (with_reducible repeat (first | apply Kd.R_alloc | apply Kd.R_drewN | apply Kd.R_drew)); exact HO_11.out⟩, ⟨by repeat (first | (with_reducible first | exact HB.out | apply below_alloc | apply pw_below_drewN | apply below_drew1) | exact HB.out)⟩⟩
                          · rw [if_neg c56] at H
                            exact absurd H (by simp)
                        · rw [if_neg c54] at H
                          exact absurd H (by simp)
                      · rw [if_neg c53] at H
                        exact absurd H (by simp)
              · rw [if_neg c32] at H
                have c32b0 : decide (x13_2 < (t154.length : Int)) = false := decide_eq_false c32
                clear c32
                by_cases c59 : t155 = true
                · subst c59
                  have H1 : (if x8_2.length + 3 < 140737488355328 then (some (strOfNums (x8_2 ++ bytesOf (⟨#[239, 191, 189]⟩ : ByteArray)), true)) else (none)) = some (r1, r2) := by rw [if_pos rfl] at H; exact H
                  clear H
                  have H := H1
                  clear H1
                  by_cases c60 : x8_2.length + 3 < 140737488355328
                  · rw [if_pos c60] at H
                    have LMc60 := Aside0.mk c60
                    clear c60
                    obtain ⟨y158, hy158⟩ : ∃ y_ : List Int, y_ = (x8_2 ++ bytesOf (⟨#[239, 191, 189]⟩ : ByteArray)) := ⟨_, rfl⟩
                    replace H : (some (strOfNums y158, true)) = some (r1, r2) := by first | (rw [hy158]; with_reducible exact H) | (have H2_ := (Option.bind_some _ _).symm.trans H; rw [hy158]; with_reducible exact H2_) | (have H2_ := (Option.bind_some _ _).symm.trans H; with_reducible exact H2_) | with_reducible exact H | (rw [hy158]; exact H) | exact H
                    have Ny158 := Aside0.mk hy158
                    clear hy158
                    simp only [Option.some.injEq, Prod.mk.injEq] at H
                    obtain ⟨rfl, rfl⟩ := H
                    obtain ⟨Ao61, co61, eo61⟩ := Kd.R_slice HO_11.out
                    subst eo61
                    go_wp2_with (first | (at_builtin; refine print_append_str (w0 := w) w.heap.size rfl (.tmp 126) _ 37 9 5 rfl Tryd.underlying37 Tryd.underlying9 info5 u8 x8_2 (⟨#[239, 191, 189]⟩ : ByteArray) rfl rfl ?aO ?aB ?aS ?aL ?_; (case aB => exact (by repeat (first | (with_reducible first | exact HB.out | apply below_alloc | apply pw_below_drewN | apply below_drew1) | exact HB.out))); (case aO => exact (Kd.own_of_R (by (with_reducible repeat (first | apply Kd.R_alloc | apply Kd.R_drewN | apply Kd.R_drew)); exact HO_8.out))); (case aS => exact (below_size (by repeat (first | (with_reducible first | exact HB.out | apply below_alloc | apply pw_below_drewN | apply below_drew1) | exact HB.out)))); (case aL => have := LMc60.out; first | omega | exact Nat.le_of_lt this); intro v159 w62 ho0 hb hg; have ho := Kd.R_of_own (h1 := fun _ => rfl) (ok := fun _ => True) ho0 (fun _ _ => trivial); clear ho0; have hat := True.intro; rw [← Ny158.out] at ho; change Kd.R (Kd.int .u8) 5 w62 w.heap.size (fun _ => True) v159 y158 at ho; have n0_ := Aside0.mk (Kd.R_over' (by (with_reducible repeat (first | apply Kd.R_alloc | apply Kd.R_drewN | apply Kd.R_drew)); exact HO_11.out) (Kd.R_typed (by (with_reducible repeat (first | apply Kd.R_alloc | apply Kd.R_drewN | apply Kd.R_drew)); exact HO_8.out)) (by decide) hg); have n1_ := Aside0.mk (hb); have n2_ := Aside0.mk (ho); clear HO_11; clear HB; clear HO_8; have HO_11 := n0_; have HB := n1_; have HO160 := n2_; clear n0_ n1_ n2_; clear ho hb hg hat; have hcv63 := own_string (P := Tryd.prog) Tryd.underlying37 Tryd.underlying5 Tryd.underlying9 (Kd.own_of_R HO160.out)))
                    go_ret2
                    exact ⟨by first | rfl | (simp [errW_none, errW_some] <;> rfl) | (simp [*, errW_none, errW_some] <;> rfl), by repeat (first | (with_reducible first | exact HB.out | apply below_alloc | apply pw_below_drewN | apply below_drew1) | exact HB.out)⟩
                  · rw [if_neg c60] at H
                    exact absurd H (by simp)
                · replace c59 := Bool.eq_false_iff.mpr c59
                  subst c59
                  have H1 : (some (strOfNums x8_2, true)) = some (r1, r2) := by rw [if_neg (show ¬ (false = true) by decide)] at H; exact H
                  clear H
                  have H := H1
                  clear H1
                  simp only [Option.some.injEq, Prod.mk.injEq] at H
                  obtain ⟨rfl, rfl⟩ := H
                  obtain ⟨Ao64, co64, eo64⟩ := Kd.R_slice HO_11.out
                  subst eo64
                  have hcv65 := own_string (P := Tryd.prog) Tryd.underlying37 Tryd.underlying5 Tryd.underlying9 (Kd.own_of_R HO_8.out)
                  go_wp2
                  go_ret2
                  exact ⟨by first | rfl | (simp [errW_none, errW_some] <;> rfl) | (simp [*, errW_none, errW_some] <;> rfl), by repeat (first | (with_reducible first | exact HB.out | apply below_alloc | apply pw_below_drewN | apply below_drew1) | exact HB.out)⟩
        · replace c29 := Bool.eq_false_iff.mpr c29
          subst c29
          have H1 : ((muslinref04_Valid.f kj25 a1).bind fun t176 => (some (t176, t144))) = some (r1, r2) := by rw [if_neg (show ¬ (false = true) by decide)] at H; exact H
          clear H
          have H := H1
          clear H1
          replace H := Option.bind_eq_some_iff.mp H
          obtain ⟨t176, A660, H⟩ := H
          replace H : (some (t176, t144)) = some (r1, r2) := H
          have A66 := Aside0.mk A660
          clear A660
          simp only [Option.some.injEq, Prod.mk.injEq] at H
          obtain ⟨rfl, rfl⟩ := H
          go_wp2_with (first | ((with_reducible refine gate_callee (f := 18) rfl ?_); refine goesL_ (some 131) rfl rfl Tryd.func18 (by kernel_rfl) rfl #[.string a1] rfl (by (try simp only [List.map_toArray, List.map_cons, List.map_nil]); first | done | rfl | (simp only [List.length_drop, List.length_take]; rfl)) ?_; (with_reducible refine (muslinref04_Valid.calls kj25 a1 t176 _ A66.out).mono ?_); rintro e w67 ⟨rfl, hb⟩; refine ⟨_, rfl, ?_⟩; have n0_ := Aside0.mk (Kd.R_below (by (with_reducible repeat (first | apply Kd.R_alloc | apply Kd.R_drewN | apply Kd.R_drew)); exact HO_8.out) hb); have n1_ := Aside0.mk (below_step (by repeat (first | (with_reducible first | exact HB.out | apply below_alloc | apply pw_below_drewN | apply below_drew1) | exact HB.out)) hb); clear HO_8; clear HB; have HO_8 := n0_; have HB := n1_; clear n0_ n1_; (try clear hb); (try clear hb2); (try clear hk); (try clear hi)))
          go_ret2
          exact ⟨by first | rfl | (simp [errW_none, errW_some] <;> rfl) | (simp [*, errW_none, errW_some] <;> rfl), by repeat (first | (with_reducible first | exact HB.out | apply below_alloc | apply pw_below_drewN | apply below_drew1) | exact HB.out)⟩
end Go.Proofs.YtokkgjiofhhlkaaDoor.C
