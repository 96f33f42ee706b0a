/- Printed by a program of this session: functions that the law reaches, and that the calls come to them. -/
import Derived.Test.YtjmeoplajfmieaaDoorP0
import Derived.Test.YtjmeoplajfmieaaDoorP1
namespace Go.Proofs.YtjmeoplajfmieaaDoor.P
open Go.RowKit Go.Proofs.YtjmeoplajfmieaaDoorW.PrintWords Go.Proofs.YtjmeoplajfmieaaDoorW.PrintLast Go.Proofs.YtjmeoplajfmieaaDoorW.PrintMore
attribute [local go_sem] max2_int min2_int max_two min_two max_three min_three max_four min_four   -- for this text's walks alone
set_option linter.unusedVariables false
set_option linter.unusedSimpArgs false

/-! ### muslinref02_Decode: function 12 -/
mutual
def muslinref02_Decode.l0 : Nat → ByteArray → List Int → Int → Option (ByteArray)
  | 0, _, _, _ => none
  | k + 1, x0, x3, x4 => if x4 < (x0.size : Int) then (if 0 ≤ x4 then (if (bt x0 x4) = 32 then (muslinref02_Decode.j1 k x0 x3 x4 true) else (muslinref02_Decode.j1 k x0 x3 x4 ((bt x0 x4) == 9))) else (none)) else (some (strOfNums x3))
def muslinref02_Decode.j1 : Nat → ByteArray → List Int → Int → Bool → Option (ByteArray)
  | 0, _, _, _, _ => none
  | k + 1, x0, x3, x4, x20 => if x20 = true then ((muslinref02_blanks.f k x0 x4).bind fun t104 => (if t104 < (x0.size : Int) then ((muslinref02_eol.f k x0 t104).bind fun t105 => (if t105 = 0 then (if 0 ≤ x4 then (if x4 ≤ t104 then (if t104 ≤ (x0.size : Int) then (if x3.length + (x0.extract (x4 : Int).toNat (t104 : Int).toNat).size < 140737488355328 then (muslinref02_Decode.l0 k x0 (x3 ++ bytesOf (x0.extract (x4 : Int).toNat (t104 : Int).toNat)) t104) else (none)) else (none)) else (none)) else (none)) else (muslinref02_Decode.l0 k x0 x3 t104))) else (muslinref02_Decode.l0 k x0 x3 t104))) else (if 0 ≤ x4 then (if x4 < (x0.size : Int) then (if (bt x0 x4) = 61 then (if (wrap64 (x4 + 2)) < (x0.size : Int) then (if 0 ≤ (wrap64 (x4 + 1)) then (if (wrap64 (x4 + 1)) < (x0.size : Int) then ((muslinref02_Hex.f k (bt x0 (wrap64 (x4 + 1)))).bind fun t109 => (if t109 ≥ 0 then (if 0 ≤ (wrap64 (x4 + 2)) then ((muslinref02_Hex.f k (bt x0 (wrap64 (x4 + 2)))).bind fun t110 => (muslinref02_Decode.j2 k x0 x3 x4 (decide (t110 ≥ 0)))) else (none)) else (muslinref02_Decode.j2 k x0 x3 x4 false))) else (none)) else (none)) else (muslinref02_Decode.j2 k x0 x3 x4 false)) else (muslinref02_Decode.j2 k x0 x3 x4 false)) else (none)) else (none))
def muslinref02_Decode.j2 : Nat → ByteArray → List Int → Int → Bool → Option (ByteArray)
  | 0, _, _, _, _ => none
  | k + 1, x0, x3, x4, x67 => if x67 = true then (if 0 ≤ (wrap64 (x4 + 1)) then (if (wrap64 (x4 + 1)) < (x0.size : Int) then ((muslinref02_Hex.f k (bt x0 (wrap64 (x4 + 1)))).bind fun t111 => (if 0 ≤ (wrap64 (x4 + 2)) then (if (wrap64 (x4 + 2)) < (x0.size : Int) then ((muslinref02_Hex.f k (bt x0 (wrap64 (x4 + 2)))).bind fun t112 => (if x3.length < 140737488355328 then (muslinref02_Decode.l0 k x0 (x3 ++ [(wrap64 ((wrap64 (16 * t111)) + t112)) % 256]) (wrap64 (x4 + 3))) else (none))) else (none)) else (none))) else (none)) else (none)) else (if 0 ≤ x4 then (if x4 < (x0.size : Int) then (if (bt x0 x4) = 61 then ((muslinref02_blanks.f k x0 (wrap64 (x4 + 1))).bind fun t116 => ((muslinref02_eol.f k x0 t116).bind fun t117 => (if t117 > 0 then ((muslinref02_eol.f k x0 t116).bind fun t118 => (muslinref02_Decode.l0 k x0 x3 (wrap64 (t116 + t118)))) else (if x3.length < 140737488355328 then (muslinref02_Decode.l0 k x0 (x3 ++ [bt x0 x4]) (wrap64 (x4 + 1))) else (none))))) else (if x3.length < 140737488355328 then (muslinref02_Decode.l0 k x0 (x3 ++ [bt x0 x4]) (wrap64 (x4 + 1))) else (none))) else (none)) else (none))
end
def muslinref02_Decode.f (k : Nat) (a0 : ByteArray) : Option (ByteArray) := muslinref02_Decode.l0 k a0 ([] : List Int) 0
theorem muslinref02_Decode.mono_l : ∀ k, (∀ y0 y1 y2, LeO (muslinref02_Decode.l0 k y0 y1 y2) (muslinref02_Decode.l0 (k + 1) y0 y1 y2)) ∧ (∀ y0 y1 y2 y3, LeO (muslinref02_Decode.j1 k y0 y1 y2 y3) (muslinref02_Decode.j1 (k + 1) y0 y1 y2 y3)) ∧ (∀ y0 y1 y2 y3, LeO (muslinref02_Decode.j2 k y0 y1 y2 y3) (muslinref02_Decode.j2 (k + 1) y0 y1 y2 y3))
  | 0 => ⟨fun _ _ _ r h => by simp [muslinref02_Decode.l0] at h, fun _ _ _ _ r h => by simp [muslinref02_Decode.j1] at h, fun _ _ _ _ r h => by simp [muslinref02_Decode.j2] at h⟩
  | k + 1 => by
    obtain ⟨ih0, ih1, ih2⟩ := muslinref02_Decode.mono_l k
    refine ⟨?_, ?_, ?_⟩
    · intro y0 y1 y2
      unfold muslinref02_Decode.l0
      repeat' first
      | (with_reducible exact ih0 _ _ _)
      | (with_reducible exact ih1 _ _ _ _)
      | (with_reducible exact ih2 _ _ _ _)
      | (with_reducible exact muslinref02_Hex.mono _ _)
      | (with_reducible exact muslinref02_blanks.mono _ _ _)
      | (with_reducible exact muslinref02_eol.mono _ _ _)
      | (with_reducible exact LeO.refl _)
      | (with_reducible exact LeO.none _)
      | (with_reducible refine LeO.ite ?_ ?_)
      | (with_reducible refine LeO.bind ?_ (fun _ => ?_))
      | exact ih0 _ _ _
      | exact ih1 _ _ _ _
      | exact ih2 _ _ _ _
      | exact muslinref02_Hex.mono _ _
      | exact muslinref02_blanks.mono _ _ _
      | exact muslinref02_eol.mono _ _ _
      | exact LeO.none _
      | refine LeO.ite ?_ ?_
      | refine LeO.bind ?_ (fun _ => ?_)
    · intro y0 y1 y2 y3
      unfold muslinref02_Decode.j1
      repeat' first
      | (with_reducible exact ih0 _ _ _)
      | (with_reducible exact ih1 _ _ _ _)
      | (with_reducible exact ih2 _ _ _ _)
      | (with_reducible exact muslinref02_Hex.mono _ _)
      | (with_reducible exact muslinref02_blanks.mono _ _ _)
      | (with_reducible exact muslinref02_eol.mono _ _ _)
      | (with_reducible exact LeO.refl _)
      | (with_reducible exact LeO.none _)
      | (with_reducible refine LeO.ite ?_ ?_)
      | (with_reducible refine LeO.bind ?_ (fun _ => ?_))
      | exact ih0 _ _ _
      | exact ih1 _ _ _ _
      | exact ih2 _ _ _ _
      | exact muslinref02_Hex.mono _ _
      | exact muslinref02_blanks.mono _ _ _
      | exact muslinref02_eol.mono _ _ _
      | exact LeO.none _
      | refine LeO.ite ?_ ?_
      | refine LeO.bind ?_ (fun _ => ?_)
    · intro y0 y1 y2 y3
      unfold muslinref02_Decode.j2
      repeat' first
      | (with_reducible exact ih0 _ _ _)
      | (with_reducible exact ih1 _ _ _ _)
      | (with_reducible exact ih2 _ _ _ _)
      | (with_reducible exact muslinref02_Hex.mono _ _)
      | (with_reducible exact muslinref02_blanks.mono _ _ _)
      | (with_reducible exact muslinref02_eol.mono _ _ _)
      | (with_reducible exact LeO.refl _)
      | (with_reducible exact LeO.none _)
      | (with_reducible refine LeO.ite ?_ ?_)
      | (with_reducible refine LeO.bind ?_ (fun _ => ?_))
      | exact ih0 _ _ _
      | exact ih1 _ _ _ _
      | exact ih2 _ _ _ _
      | exact muslinref02_Hex.mono _ _
      | exact muslinref02_blanks.mono _ _ _
      | exact muslinref02_eol.mono _ _ _
      | exact LeO.none _
      | refine LeO.ite ?_ ?_
      | refine LeO.bind ?_ (fun _ => ?_)
theorem muslinref02_Decode.mono : ∀ a0 k, LeO (muslinref02_Decode.f k a0) (muslinref02_Decode.f (k + 1) a0) := by
  intro a0 k
  obtain ⟨ih0, ih1, ih2⟩ := muslinref02_Decode.mono_l k
  unfold muslinref02_Decode.f
  repeat' first
      | (with_reducible exact ih0 _ _ _)
      | (with_reducible exact ih1 _ _ _ _)
      | (with_reducible exact ih2 _ _ _ _)
      | (with_reducible exact muslinref02_Hex.mono _ _)
      | (with_reducible exact muslinref02_blanks.mono _ _ _)
      | (with_reducible exact muslinref02_eol.mono _ _ _)
      | (with_reducible exact LeO.refl _)
      | (with_reducible exact LeO.none _)
      | (with_reducible refine LeO.ite ?_ ?_)
      | (with_reducible refine LeO.bind ?_ (fun _ => ?_))
      | exact ih0 _ _ _
      | exact ih1 _ _ _ _
      | exact ih2 _ _ _ _
      | exact muslinref02_Hex.mono _ _
      | exact muslinref02_blanks.mono _ _ _
      | exact muslinref02_eol.mono _ _ _
      | exact LeO.none _
      | refine LeO.ite ?_ ?_
      | refine LeO.bind ?_ (fun _ => ?_)
def muslinref02_Decode.T10 : Bool × List (List Nat × List Nat) := (true, [([], []), ([], []), ([], []), ([2], [2]), ([1, 3], [1, 3]), ([4], [4]), ([5], [5]), ([], []), ([], []), ([8], [8]), ([7, 9], [7, 9]), ([10, 5], [10]), ([6, 11], [6, 11]), ([12], [12]), ([13], [13]), ([0, 14, 11], [0, 14]), ([15, 15, 0, 1, 2, 3, 4, 5, 6, 7, 8, 9, 10, 11, 12, 13, 14, 15], [0, 15])])
def muslinref02_Decode.B10 : List Nat := [0, 0, 0, 4, 14, 30, 62, 0, 0, 256, 896, 1982, 4094, 8190, 16382, 32767, 65535]
theorem muslinref02_Decode.tab10 : rtab .any (opsOf Tryd.f12 10) = muslinref02_Decode.T10 := by kernel_rfl
theorem muslinref02_Decode.bits10 : waitsOk muslinref02_Decode.T10.2 muslinref02_Decode.B10 = true := by kernel_rfl
set_option maxHeartbeats 8000000 in
set_option maxRecDepth 100000 in
theorem muslinref02_Decode.calls (k : Nat) (a0 : ByteArray) (r : ByteArray) (w : World) (h : muslinref02_Decode.f k a0 = some r) :
    Calls Tryd.prog 12 #[.string a0] w fun e w' => e = .returned (.string r) ∧ Below w.heap.size w w' := by
  have HB := Aside0.mk (Below.refl w.heap.size w)
  have H : (muslinref02_Decode.l0 k a0 ([] : List Int) 0) = some r := h
  clear h
  have H' := Aside0.mk H
  clear H
  go_enter Tryd.func12, Tryd.ntmps12
  go_wp2
  go_loopg [3, 4] k (fun kq v3 v4 w' => ∃ (x3_1 : List Int) (x4_1 : Int), v4 = .int .i64 x4_1 ∧ Aside0 (muslinref02_Decode.l0 kq a0 x3_1 x4_1 = some r) ∧ Aside0 (kq ≤ k) ∧ Aside0 (Kd.R (Kd.int .u8) 5 w' w.heap.size (fun _ => True) v3 x3_1) ∧ Aside0 (Below w.heap.size w w'))
  case atStart => exact ⟨(([] : List Int)), (0), (by first | rfl | (simp; done) | (simp [*]; done)), H', ⟨Nat.le_refl _⟩, ⟨by first | exact Kd.R_nil _ _ _ _ _ | exact Kd.N_nil _ _ _ _ _ | exact Kd.V_nil _ _ _ _ _ | exact Kd.Q_nil _ _ _ _ _ | exact Kd.S_nil _ _ _ _ _⟩, ⟨by repeat (first | (with_reducible first | exact HB.out | apply below_alloc | apply pw_below_drewN | apply below_drew1) | exact HB.out)⟩⟩
  case round =>
    clear H'
    try clear c1
    obtain ⟨x3_1, x4_1, rfl, HA, HK1, HO_3, HB⟩ := hrel
    cases gk with
    | zero => exact absurd HA.out (by simp [muslinref02_Decode.l0])
    | succ k1 =>
      have H := HA.out
      clear HA
      simp only [muslinref02_Decode.l0] at H
      by_cases c2 : x4_1 < (a0.size : Int)
      · rw [if_pos c2] at H
        have c2b0 : decide (x4_1 < (a0.size : Int)) = true := decide_eq_true c2
        clear c2
        have HC3 := Aside0.mk H
        clear H
        go_upto_region 4 with (fail)
        go_cut [20] (fun v20 wc => ∃ (kq : Nat) (x20_2 : Bool), v20 = .bool x20_2 ∧ Aside0 (muslinref02_Decode.j1 kq a0 x3_1 x4_1 x20_2 = some r) ∧ Aside0 (kq ≤ k1) ∧ Aside0 (Kd.R (Kd.int .u8) 5 wc w.heap.size (fun _ => True) u3 x3_1) ∧ Aside0 (Below w.heap.size w wc))
        case first =>
          have H := HC3.out
          clear HC3
          by_cases c4 : 0 ≤ x4_1
          · rw [if_pos c4] at H
            have c4b0 : decide (0 ≤ x4_1) = true := decide_eq_true c4
            clear c4
            (first | rw [c4b0] | (simp only [i64_w, i32_w]; rw [c4b0]) | skip)
            by_cases c6 : (bt a0 x4_1) = 32
            · rw [if_pos c6] at H
              have c6b0 : ((bt a0 x4_1) == 32) = true := beq_iff_eq.mpr c6
              have c6b1 : ((bt a0 x4_1) != 32) = false := bne_eq_false_iff_eq.mpr c6
              clear c6
              have H' := Aside0.mk H
              clear H
              have p5 : 0 ≤ (x4_1 : Int) := of_decide_eq_true (by first | (with_reducible assumption) | assumption)
              have q5 : x4_1 < (a0.size : Int) := of_decide_eq_true (by first | (with_reducible assumption) | assumption)
              have hx5 := bt_at a0 x4_1
              replace p5 := eq_true p5
              replace q5 := eq_true q5
              go_wp2
              go_meet
              case rel => exact ⟨_, (true), (by first | rfl | (simp; done) | (simp [*]; done)), H', ⟨by have := HK1.out; first | omega | exact Nat.le_refl _⟩, ⟨by (with_reducible repeat (first | apply Kd.R_alloc | apply Kd.R_drewN | apply Kd.R_drew)); exact HO_3.out⟩, ⟨by repeat (first | (with_reducible first | exact HB.out | apply below_alloc | apply pw_below_drewN | apply below_drew1) | exact HB.out)⟩⟩
            · rw [if_neg c6] at H
              have c6b0 : ((bt a0 x4_1) == 32) = false := beq_eq_false_iff_ne.mpr c6
              have c6b1 : ((bt a0 x4_1) != 32) = true := bne_iff_ne.mpr c6
              have H' := Aside0.mk H
              clear H
              have p5 : 0 ≤ (x4_1 : Int) := of_decide_eq_true (by first | (with_reducible assumption) | assumption)
              have q5 : x4_1 < (a0.size : Int) := of_decide_eq_true (by first | (with_reducible assumption) | assumption)
              have hx5 := bt_at a0 x4_1
              replace p5 := eq_true p5
              replace q5 := eq_true q5
              have p7 : 0 ≤ (x4_1 : Int) := of_decide_eq_true (by first | (with_reducible assumption) | assumption)
              have q7 : x4_1 < (a0.size : Int) := of_decide_eq_true (by first | (with_reducible assumption) | assumption)
              have hx7 := bt_at a0 x4_1
              replace p7 := eq_true p7
              replace q7 := eq_true q7
              go_wp2
              go_meet
              case rel => exact ⟨_, (((bt a0 x4_1) == 9)), (by first | rfl | (simp; done) | (simp [*]; done)), H', ⟨by have := HK1.out; first | omega | exact Nat.le_refl _⟩, ⟨by (with_reducible repeat (first | apply Kd.R_alloc | apply Kd.R_drewN | apply Kd.R_drew)); exact HO_3.out⟩, ⟨by repeat (first | (with_reducible first | exact HB.out | apply below_alloc | apply pw_below_drewN | apply below_drew1) | exact HB.out)⟩⟩
          · rw [if_neg c4] at H
            exact absurd H (by simp)
        case rest =>
          clear HC3
          try clear c1
          try clear c2
          try clear c2b0
          try clear p2
          try clear c4
          try clear c4b0
          try clear p5
          try clear q5
          try clear hx5
          try clear c6
          try clear c6b0
          try clear c6b1
          try clear p7
          try clear q7
          try clear hx7
          try clear p5
          try clear p7
          try clear q5
          try clear q7
          obtain ⟨kq, x20_2, rfl, HA, HJ2, HO_3, HB⟩ := hcut
          cases kq with
          | zero => exact absurd HA.out (by simp [muslinref02_Decode.j1])
          | succ kj2 =>
            have H := HA.out
            clear HA
            simp only [muslinref02_Decode.j1] at H
            by_cases c8 : x20_2 = true
            · subst c8
              have H1 : ((muslinref02_blanks.f kj2 a0 x4_1).bind fun t104 => (if t104 < (a0.size : Int) then ((muslinref02_eol.f kj2 a0 t104).bind fun t105 => (if t105 = 0 then (if 0 ≤ x4_1 then (if x4_1 ≤ t104 then (if t104 ≤ (a0.size : Int) then (if x3_1.length + (a0.extract (x4_1 : Int).toNat (t104 : Int).toNat).size < 140737488355328 then (muslinref02_Decode.l0 kj2 a0 (x3_1 ++ bytesOf (a0.extract (x4_1 : Int).toNat (t104 : Int).toNat)) t104) else (none)) else (none)) else (none)) else (none)) else (muslinref02_Decode.l0 kj2 a0 x3_1 t104))) else (muslinref02_Decode.l0 kj2 a0 x3_1 t104))) = some r := by rw [if_pos rfl] at H; exact H
              clear H
              have H := H1
              clear H1
              replace H := Option.bind_eq_some_iff.mp H
              obtain ⟨t104, A90, H⟩ := H
              replace H : (if t104 < (a0.size : Int) then ((muslinref02_eol.f kj2 a0 t104).bind fun t105 => (if t105 = 0 then (if 0 ≤ x4_1 then (if x4_1 ≤ t104 then (if t104 ≤ (a0.size : Int) then (if x3_1.length + (a0.extract (x4_1 : Int).toNat (t104 : Int).toNat).size < 140737488355328 then (muslinref02_Decode.l0 kj2 a0 (x3_1 ++ bytesOf (a0.extract (x4_1 : Int).toNat (t104 : Int).toNat)) t104) else (none)) else (none)) else (none)) else (none)) else (muslinref02_Decode.l0 kj2 a0 x3_1 t104))) else (muslinref02_Decode.l0 kj2 a0 x3_1 t104)) = some r := H
              have A9 := Aside0.mk A90
              clear A90
              by_cases c10 : t104 < (a0.size : Int)
              · rw [if_pos c10] at H
                have c10b0 : decide (t104 < (a0.size : Int)) = true := decide_eq_true c10
                clear c10
                replace H := Option.bind_eq_some_iff.mp H
                obtain ⟨t105, A110, H⟩ := H
                replace H : (if t105 = 0 then (if 0 ≤ x4_1 then (if x4_1 ≤ t104 then (if t104 ≤ (a0.size : Int) then (if x3_1.length + (a0.extract (x4_1 : Int).toNat (t104 : Int).toNat).size < 140737488355328 then (muslinref02_Decode.l0 kj2 a0 (x3_1 ++ bytesOf (a0.extract (x4_1 : Int).toNat (t104 : Int).toNat)) t104) else (none)) else (none)) else (none)) else (none)) else (muslinref02_Decode.l0 kj2 a0 x3_1 t104)) = some r := H
                have A11 := Aside0.mk A110
                clear A110
                by_cases c12 : t105 = 0
                · rw [if_pos c12] at H
                  have c12b0 : (t105 == 0) = true := beq_iff_eq.mpr c12
                  have c12b1 : (t105 != 0) = false := bne_eq_false_iff_eq.mpr c12
                  clear c12
                  by_cases c13 : 0 ≤ x4_1
                  · rw [if_pos c13] at H
                    have c13b0 := eq_true c13
                    have c13b1 : decide (0 ≤ x4_1) = true := decide_eq_true c13
                    clear c13
                    by_cases c14 : x4_1 ≤ t104
                    · rw [if_pos c14] at H
                      have c14b0 := eq_true c14
                      have c14b1 : decide (x4_1 ≤ t104) = true := decide_eq_true c14
                      clear c14
                      by_cases c15 : t104 ≤ (a0.size : Int)
                      · rw [if_pos c15] at H
                        have c15b0 := eq_true c15
                        have c15b1 : decide (t104 ≤ (a0.size : Int)) = true := decide_eq_true c15
                        clear c15
                        by_cases c16 : x3_1.length + (a0.extract (x4_1 : Int).toNat (t104 : Int).toNat).size < 140737488355328
                        · rw [if_pos c16] at H
                          have LMc16 := Aside0.mk c16
                          clear c16
                          obtain ⟨y106, hy106⟩ : ∃ y_ : List Int, y_ = (x3_1 ++ bytesOf (a0.extract (x4_1 : Int).toNat (t104 : Int).toNat)) := ⟨_, rfl⟩
                          replace H : (muslinref02_Decode.l0 kj2 a0 y106 t104) = some r := by first | (rw [hy106]; with_reducible exact H) | (have H2_ := (Option.bind_some _ _).symm.trans H; rw [hy106]; with_reducible exact H2_) | (have H2_ := (Option.bind_some _ _).symm.trans H; with_reducible exact H2_) | with_reducible exact H | (rw [hy106]; exact H) | exact H
                          have Ny106 := Aside0.mk hy106
                          clear hy106
                          have H' := Aside0.mk H
                          clear H
                          go_wp2_with (first | ((with_reducible refine gate_callee (f := 18) rfl ?_); refine goesL_ (some 23) rfl rfl Tryd.func18 (by kernel_rfl) rfl #[.string a0, .int .i64 x4_1] rfl (by (try simp only [List.map_toArray, List.map_cons, List.map_nil]); first | done | rfl | (simp only [List.length_drop, List.length_take]; rfl)) ?_; (with_reducible refine (muslinref02_blanks.calls kj2 a0 x4_1 t104 _ A9.out).mono ?_); rintro e w' ⟨rfl, ⟨nd, rfl⟩⟩; refine ⟨_, rfl, ?_⟩) | (go_at_call 19; (with_reducible refine (muslinref02_eol.calls kj2 a0 t104 t105 _ A11.out).mono ?_); rintro e w' ⟨rfl, ⟨nd, rfl⟩⟩) | (at_builtin; refine print_append_str (w0 := w) w.heap.size rfl (.tmp 34) _ 28 9 5 rfl Tryd.underlying28 Tryd.underlying9 info5 u3 x3_1 (a0.extract (x4_1 : Int).toNat (t104 : Int).toNat) rfl rfl ?aO ?aB ?aS ?aL ?_; (case aB => exact (by repeat (first | (with_reducible first | exact HB.out | apply below_alloc | apply pw_below_drewN | apply below_drew1) | exact HB.out))); (case aO => exact (Kd.own_of_R (by (with_reducible repeat (first | apply Kd.R_alloc | apply Kd.R_drewN | apply Kd.R_drew)); exact HO_3.out))); (case aS => exact (below_size (by repeat (first | (with_reducible first | exact HB.out | apply below_alloc | apply pw_below_drewN | apply below_drew1) | exact HB.out)))); (case aL => have := LMc16.out; first | omega | exact Nat.le_of_lt this); intro v107 w17 ho0 hb hg; have ho := Kd.R_of_own (h1 := fun _ => rfl) (ok := fun _ => True) ho0 (fun _ _ => trivial); clear ho0; have hat := True.intro; rw [← Ny106.out] at ho; change Kd.R (Kd.int .u8) 5 w17 w.heap.size (fun _ => True) v107 y106 at ho; have n0_ := Aside0.mk (hb); have n1_ := Aside0.mk (ho); clear HB; clear HO_3; have HB := n0_; have HO108 := n1_; clear n0_ n1_; clear ho hb hg hat))
                          go_roundg kj2
                          case measure => have := HK1.out; have := HJ2.out; omega
                          case rel => exact ⟨(y106), (t104), (by first | rfl | (simp; done) | (simp [*]; done)), H', ⟨by have := HK1.out; have := HJ2.out; omega⟩, ⟨by (with_reducible repeat (first | apply Kd.R_alloc | apply Kd.R_drewN | apply Kd.R_drew)); exact HO108.out⟩, ⟨by repeat (first | (with_reducible first | exact HB.out | apply below_alloc | apply pw_below_drewN | apply below_drew1) | exact HB.out)⟩⟩
                        · rw [if_neg c16] at H
                          exact absurd H (by simp)
                      · rw [if_neg c15] at H
                        exact absurd H (by simp)
                    · rw [if_neg c14] at H
                      exact absurd H (by simp)
                  · rw [if_neg c13] at H
                    exact absurd H (by simp)
                · rw [if_neg c12] at H
                  have c12b0 : (t105 == 0) = false := beq_eq_false_iff_ne.mpr c12
                  have c12b1 : (t105 != 0) = true := bne_iff_ne.mpr c12
                  have H' := Aside0.mk H
                  clear H
                  go_wp2_with (first | ((with_reducible refine gate_callee (f := 18) rfl ?_); refine goesL_ (some 23) rfl rfl Tryd.func18 (by kernel_rfl) rfl #[.string a0, .int .i64 x4_1] rfl (by (try simp only [List.map_toArray, List.map_cons, List.map_nil]); first | done | rfl | (simp only [List.length_drop, List.length_take]; rfl)) ?_; (with_reducible refine (muslinref02_blanks.calls kj2 a0 x4_1 t104 _ A9.out).mono ?_); rintro e w' ⟨rfl, ⟨nd, rfl⟩⟩; refine ⟨_, rfl, ?_⟩) | (go_at_call 19; (with_reducible refine (muslinref02_eol.calls kj2 a0 t104 t105 _ A11.out).mono ?_); rintro e w' ⟨rfl, ⟨nd, rfl⟩⟩))
                  go_roundg kj2
                  case measure => have := HK1.out; have := HJ2.out; omega
                  case rel => exact ⟨(x3_1), (t104), (by first | rfl | (simp; done) | (simp [*]; done)), H', ⟨by have := HK1.out; have := HJ2.out; omega⟩, ⟨by (with_reducible repeat (first | apply Kd.R_alloc | apply Kd.R_drewN | apply Kd.R_drew)); exact HO_3.out⟩, ⟨by repeat (first | (with_reducible first | exact HB.out | apply below_alloc | apply pw_below_drewN | apply below_drew1) | exact HB.out)⟩⟩
              · rw [if_neg c10] at H
                have c10b0 : decide (t104 < (a0.size : Int)) = false := decide_eq_false c10
                clear c10
                have H' := Aside0.mk H
                clear H
                go_wp2_with (first | ((with_reducible refine gate_callee (f := 18) rfl ?_); refine goesL_ (some 23) rfl rfl Tryd.func18 (by kernel_rfl) rfl #[.string a0, .int .i64 x4_1] rfl (by (try simp only [List.map_toArray, List.map_cons, List.map_nil]); first | done | rfl | (simp only [List.length_drop, List.length_take]; rfl)) ?_; (with_reducible refine (muslinref02_blanks.calls kj2 a0 x4_1 t104 _ A9.out).mono ?_); rintro e w' ⟨rfl, ⟨nd, rfl⟩⟩; refine ⟨_, rfl, ?_⟩))
                go_roundg kj2
                case measure => have := HK1.out; have := HJ2.out; omega
                case rel => exact ⟨(x3_1), (t104), (by first | rfl | (simp; done) | (simp [*]; done)), H', ⟨by have := HK1.out; have := HJ2.out; omega⟩, ⟨by (with_reducible repeat (first | apply Kd.R_alloc | apply Kd.R_drewN | apply Kd.R_drew)); exact HO_3.out⟩, ⟨by repeat (first | (with_reducible first | exact HB.out | apply below_alloc | apply pw_below_drewN | apply below_drew1) | exact HB.out)⟩⟩
            · replace c8 := Bool.eq_false_iff.mpr c8
              subst c8
              have H1 : (if 0 ≤ x4_1 then (if x4_1 < (a0.size : Int) then (if (bt a0 x4_1) = 61 then (if (wrap64 (x4_1 + 2)) < (a0.size : Int) then (if 0 ≤ (wrap64 (x4_1 + 1)) then (if (wrap64 (x4_1 + 1)) < (a0.size : Int) then ((muslinref02_Hex.f kj2 (bt a0 (wrap64 (x4_1 + 1)))).bind fun t109 => (if t109 ≥ 0 then (if 0 ≤ (wrap64 (x4_1 + 2)) then ((muslinref02_Hex.f kj2 (bt a0 (wrap64 (x4_1 + 2)))).bind fun t110 => (muslinref02_Decode.j2 kj2 a0 x3_1 x4_1 (decide (t110 ≥ 0)))) else (none)) else (muslinref02_Decode.j2 kj2 a0 x3_1 x4_1 false))) else (none)) else (none)) else (muslinref02_Decode.j2 kj2 a0 x3_1 x4_1 false)) else (muslinref02_Decode.j2 kj2 a0 x3_1 x4_1 false)) else (none)) else (none)) = some r := by rw [if_neg (show ¬ (false = true) by decide)] at H; exact H
              clear H
              have H := H1
              clear H1
              have HC18 := Aside0.mk H
              clear H
              go_upto_region 9 with (fail)
              go_cut [67] (fun v67 wc => ∃ (kq : Nat) (x67_17 : Bool), v67 = .bool x67_17 ∧ Aside0 (muslinref02_Decode.j2 kq a0 x3_1 x4_1 x67_17 = some r) ∧ Aside0 (kq ≤ kj2) ∧ Aside0 (Kd.R (Kd.int .u8) 5 wc w.heap.size (fun _ => True) u3 x3_1) ∧ Aside0 (Below w.heap.size w wc))
              case first =>
                have H := HC18.out
                clear HC18
                by_cases c19 : 0 ≤ x4_1
                · rw [if_pos c19] at H
                  have c19b0 : decide (0 ≤ x4_1) = true := decide_eq_true c19
                  clear c19
                  (first | rw [c19b0] | (simp only [i64_w, i32_w]; rw [c19b0]) | skip)
                  by_cases c20 : x4_1 < (a0.size : Int)
                  · rw [if_pos c20] at H
                    have c20b0 : decide (x4_1 < (a0.size : Int)) = true := decide_eq_true c20
                    clear c20
                    by_cases c22 : (bt a0 x4_1) = 61
                    · rw [if_pos c22] at H
                      have c22b0 : ((bt a0 x4_1) == 61) = true := beq_iff_eq.mpr c22
                      have c22b1 : ((bt a0 x4_1) != 61) = false := bne_eq_false_iff_eq.mpr c22
                      clear c22
                      by_cases c23 : (wrap64 (x4_1 + 2)) < (a0.size : Int)
                      · rw [if_pos c23] at H
                        have c23b0 : decide ((wrap64 (x4_1 + 2)) < (a0.size : Int)) = true := decide_eq_true c23
                        clear c23
                        obtain ⟨ji24, hji24⟩ : ∃ j_ : Int, (wrap64 (x4_1 + 1)) = j_ := ⟨_, rfl⟩
                        replace H : (if 0 ≤ (ji24) then (if (ji24) < (a0.size : Int) then ((muslinref02_Hex.f kj2 (bt a0 (ji24))).bind fun t109 => (if t109 ≥ 0 then (if 0 ≤ (wrap64 (x4_1 + 2)) then ((muslinref02_Hex.f kj2 (bt a0 (wrap64 (x4_1 + 2)))).bind fun t110 => (muslinref02_Decode.j2 kj2 a0 x3_1 x4_1 (decide (t110 ≥ 0)))) else (none)) else (muslinref02_Decode.j2 kj2 a0 x3_1 x4_1 false))) else (none)) else (none)) = some r := by first | (rw [hji24] at H; exact H) | (simp only [hji24] at H ⊢; exact H)
                        have hji24w : (IntKind.i64.wrap (x4_1 + 1)) = ji24 := (i64_w _).trans hji24
                        by_cases c25 : 0 ≤ (ji24)
                        · rw [if_pos c25] at H
                          have c25b0 : decide (0 ≤ (ji24)) = true := decide_eq_true c25
                          clear c25
                          by_cases c26 : (ji24) < (a0.size : Int)
                          · rw [if_pos c26] at H
                            have c26b0 : decide ((ji24) < (a0.size : Int)) = true := decide_eq_true c26
                            clear c26
                            replace H := Option.bind_eq_some_iff.mp H
                            obtain ⟨t109, A280, H⟩ := H
                            replace H : (if t109 ≥ 0 then (if 0 ≤ (wrap64 (x4_1 + 2)) then ((muslinref02_Hex.f kj2 (bt a0 (wrap64 (x4_1 + 2)))).bind fun t110 => (muslinref02_Decode.j2 kj2 a0 x3_1 x4_1 (decide (t110 ≥ 0)))) else (none)) else (muslinref02_Decode.j2 kj2 a0 x3_1 x4_1 false)) = some r := H
                            have A28 := Aside0.mk A280
                            clear A280
                            by_cases c29 : t109 ≥ 0
                            · rw [if_pos c29] at H
                              have c29b0 : decide (0 ≤ t109) = true := decide_eq_true c29
                              clear c29
                              obtain ⟨ji30, hji30⟩ : ∃ j_ : Int, (wrap64 (x4_1 + 2)) = j_ := ⟨_, rfl⟩
                              replace H : (if 0 ≤ (ji30) then ((muslinref02_Hex.f kj2 (bt a0 (ji30))).bind fun t110 => (muslinref02_Decode.j2 kj2 a0 x3_1 x4_1 (decide (t110 ≥ 0)))) else (none)) = some r := by first | (rw [hji30] at H; exact H) | (simp only [hji30] at H ⊢; exact H)
                              (try rw [hji30] at c23b0)
                              (try rw [hji30] at A28)
                              have hji30w : (IntKind.i64.wrap (x4_1 + 2)) = ji30 := (i64_w _).trans hji30
                              by_cases c31 : 0 ≤ (ji30)
                              · rw [if_pos c31] at H
                                have c31b0 : decide (0 ≤ (ji30)) = true := decide_eq_true c31
                                clear c31
                                replace H := Option.bind_eq_some_iff.mp H
                                obtain ⟨t110, A330, H⟩ := H
                                replace H : (muslinref02_Decode.j2 kj2 a0 x3_1 x4_1 (decide (t110 ≥ 0))) = some r := H
                                have A33 := Aside0.mk A330
                                clear A330
                                have H' := Aside0.mk H
                                clear H
                                have p21 : 0 ≤ (x4_1 : Int) := of_decide_eq_true (by first | (with_reducible assumption) | assumption)
                                have q21 : x4_1 < (a0.size : Int) := of_decide_eq_true (by first | (with_reducible assumption) | assumption)
                                have hx21 := bt_at a0 x4_1
                                replace p21 := eq_true p21
                                replace q21 := eq_true q21
                                have p27 : 0 ≤ ((ji24) : Int) := of_decide_eq_true (by first | (with_reducible assumption) | assumption)
                                have q27 : (ji24) < (a0.size : Int) := of_decide_eq_true (by first | (with_reducible assumption) | assumption)
                                have hx27 := bt_at a0 (ji24)
                                replace p27 := eq_true p27
                                replace q27 := eq_true q27
                                go_wp2_with (first | (go_at_call 20; (with_reducible refine (muslinref02_Hex.calls kj2 (bt a0 (ji24)) t109 _ A28.out).mono ?_); rintro e w' ⟨rfl, ⟨nd, rfl⟩⟩; have p32 : 0 ≤ ((ji30) : Int) := of_decide_eq_true (by first | (with_reducible assumption) | assumption); have q32 : (ji30) < (a0.size : Int) := of_decide_eq_true (by first | (with_reducible assumption) | assumption); have hx32 := bt_at a0 (ji30); replace p32 := eq_true p32; replace q32 := eq_true q32) | (go_at_call 20; (with_reducible refine (muslinref02_Hex.calls kj2 (bt a0 (ji30)) t110 _ A33.out).mono ?_); rintro e w' ⟨rfl, ⟨nd, rfl⟩⟩))
                                go_meet
                                case rel => exact ⟨_, (decide (t110 ≥ 0)), (by first | rfl | (simp; done) | (simp [*]; done)), H', ⟨by have := HK1.out; have := HJ2.out; first | omega | exact Nat.le_refl _⟩, ⟨by (with_reducible repeat (first | apply Kd.R_alloc | apply Kd.R_drewN | apply Kd.R_drew)); exact HO_3.out⟩, ⟨by repeat (first | (with_reducible first | exact HB.out | apply below_alloc | apply pw_below_drewN | apply below_drew1) | exact HB.out)⟩⟩
                              · rw [if_neg c31] at H
                                exact absurd H (by simp)
                            · rw [if_neg c29] at H
                              have c29b0 : decide (0 ≤ t109) = false := decide_eq_false c29
                              clear c29
                              have H' := Aside0.mk H
                              clear H
                              have p21 : 0 ≤ (x4_1 : Int) := of_decide_eq_true (by first | (with_reducible assumption) | assumption)
                              have q21 : x4_1 < (a0.size : Int) := of_decide_eq_true (by first | (with_reducible assumption) | assumption)
                              have hx21 := bt_at a0 x4_1
                              replace p21 := eq_true p21
                              replace q21 := eq_true q21
                              have p27 : 0 ≤ ((ji24) : Int) := of_decide_eq_true (by first | (with_reducible assumption) | assumption)
                              have q27 : (ji24) < (a0.size : Int) := of_decide_eq_true (by first | (with_reducible assumption) | assumption)
                              have hx27 := bt_at a0 (ji24)
                              replace p27 := eq_true p27
                              replace q27 := eq_true q27
                              go_wp2_with (first | (go_at_call 20; (with_reducible refine (muslinref02_Hex.calls kj2 (bt a0 (ji24)) t109 _ A28.out).mono ?_); rintro e w' ⟨rfl, ⟨nd, rfl⟩⟩))
                              go_meet
                              case rel => exact ⟨_, (false), (by first | rfl | (simp; done) | (simp [*]; done)), H', ⟨by have := HK1.out; have := HJ2.out; first | omega | exact Nat.le_refl _⟩, ⟨by (with_reducible repeat (first | apply Kd.R_alloc | apply Kd.R_drewN | apply Kd.R_drew)); exact HO_3.out⟩, ⟨by repeat (first | (with_reducible first | exact HB.out | apply below_alloc | apply pw_below_drewN | apply below_drew1) | exact HB.out)⟩⟩
                          · rw [if_neg c26] at H
                            exact absurd H (by simp)
                        · rw [if_neg c25] at H
                          exact absurd H (by simp)
                      · rw [if_neg c23] at H
                        have c23b0 : decide ((wrap64 (x4_1 + 2)) < (a0.size : Int)) = false := decide_eq_false c23
                        clear c23
                        have H' := Aside0.mk H
                        clear H
                        have p21 : 0 ≤ (x4_1 : Int) := of_decide_eq_true (by first | (with_reducible assumption) | assumption)
                        have q21 : x4_1 < (a0.size : Int) := of_decide_eq_true (by first | (with_reducible assumption) | assumption)
                        have hx21 := bt_at a0 x4_1
                        replace p21 := eq_true p21
                        replace q21 := eq_true q21
                        go_wp2
                        go_meet
                        case rel => exact ⟨_, (false), (by first | rfl | (simp; done) | (simp [*]; done)), H', ⟨by have := HK1.out; have := HJ2.out; first | omega | exact Nat.le_refl _⟩, ⟨by (with_reducible repeat (first | apply Kd.R_alloc | apply Kd.R_drewN | apply Kd.R_drew)); exact HO_3.out⟩, ⟨by repeat (first | (with_reducible first | exact HB.out | apply below_alloc | apply pw_below_drewN | apply below_drew1) | exact HB.out)⟩⟩
                    · rw [if_neg c22] at H
                      have c22b0 : ((bt a0 x4_1) == 61) = false := beq_eq_false_iff_ne.mpr c22
                      have c22b1 : ((bt a0 x4_1) != 61) = true := bne_iff_ne.mpr c22
                      have H' := Aside0.mk H
                      clear H
                      have p21 : 0 ≤ (x4_1 : Int) := of_decide_eq_true (by first | (with_reducible assumption) | assumption)
                      have q21 : x4_1 < (a0.size : Int) := of_decide_eq_true (by first | (with_reducible assumption) | assumption)
                      have hx21 := bt_at a0 x4_1
                      replace p21 := eq_true p21
                      replace q21 := eq_true q21
                      go_wp2
                      go_meet
                      case rel => exact ⟨_, (false), (by first | rfl | (simp; done) | (simp [*]; done)), H', ⟨by have := HK1.out; have := HJ2.out; first | omega | exact Nat.le_refl _⟩, ⟨by (with_reducible repeat (first | apply Kd.R_alloc | apply Kd.R_drewN | apply Kd.R_drew)); exact HO_3.out⟩, ⟨by repeat (first | (with_reducible first | exact HB.out | apply below_alloc | apply pw_below_drewN | apply below_drew1) | exact HB.out)⟩⟩
                  · rw [if_neg c20] at H
                    exact absurd H (by simp)
                · rw [if_neg c19] at H
                  exact absurd H (by simp)
              case rest =>
                clear HC18
                try clear c1
                try clear c2
                try clear c2b0
                try clear p2
                try clear q2
                try clear hx2
                try clear c3
                try clear p3
                try clear q3
                try clear hx3
                try clear c4
                try clear c4b0
                try clear p5
                try clear q5
                try clear hx5
                try clear c6
                try clear c6b0
                try clear c6b1
                try clear p6
                try clear p7
                try clear q7
                try clear hx7
                try clear c8
                try clear c10
                try clear c10b0
                try clear c12
                try clear c12b0
                try clear c12b1
                try clear c13
                try clear c13b0
                try clear c13b1
                try clear c14
                try clear c14b0
                try clear c14b1
                try clear c15
                try clear c15b0
                try clear c15b1
                try clear c16
                try clear c18
                try clear c19
                try clear c19b0
                try clear c20
                try clear c20b0
                try clear p21
                try clear q21
                try clear hx21
                try clear c22
                try clear c22b0
                try clear c22b1
                try clear c23
                try clear c23b0
                try clear c25
                try clear c25b0
                try clear c26
                try clear c26b0
                try clear p27
                try clear q27
                try clear hx27
                try clear c29
                try clear c29b0
                try clear c31
                try clear c31b0
                try clear p32
                try clear q32
                try clear hx32
                try clear p2
                try clear p21
                try clear p27
                try clear p32
                try clear p5
                try clear p7
                try clear q21
                try clear q27
                try clear q32
                try clear q5
                try clear q7
                obtain ⟨kq, x67_17, rfl, HA, HJ17, HO_3, HB⟩ := hcut
                cases kq with
                | zero => exact absurd HA.out (by simp [muslinref02_Decode.j2])
                | succ kj17 =>
                  have H := HA.out
                  clear HA
                  simp only [muslinref02_Decode.j2] at H
                  by_cases c34 : x67_17 = true
                  · subst c34
                    have H1 : (if 0 ≤ (wrap64 (x4_1 + 1)) then (if (wrap64 (x4_1 + 1)) < (a0.size : Int) then ((muslinref02_Hex.f kj17 (bt a0 (wrap64 (x4_1 + 1)))).bind fun t111 => (if 0 ≤ (wrap64 (x4_1 + 2)) then (if (wrap64 (x4_1 + 2)) < (a0.size : Int) then ((muslinref02_Hex.f kj17 (bt a0 (wrap64 (x4_1 + 2)))).bind fun t112 => (if x3_1.length < 140737488355328 then (muslinref02_Decode.l0 kj17 a0 (x3_1 ++ [(wrap64 ((wrap64 (16 * t111)) + t112)) % 256]) (wrap64 (x4_1 + 3))) else (none))) else (none)) else (none))) else (none)) else (none)) = some r := by rw [if_pos rfl] at H; exact H
                    clear H
                    have H := H1
                    clear H1
                    obtain ⟨ji35, hji35⟩ : ∃ j_ : Int, (wrap64 (x4_1 + 1)) = j_ := ⟨_, rfl⟩
                    replace H : (if 0 ≤ (ji35) then (if (ji35) < (a0.size : Int) then ((muslinref02_Hex.f kj17 (bt a0 (ji35))).bind fun t111 => (if 0 ≤ (wrap64 (x4_1 + 2)) then (if (wrap64 (x4_1 + 2)) < (a0.size : Int) then ((muslinref02_Hex.f kj17 (bt a0 (wrap64 (x4_1 + 2)))).bind fun t112 => (if x3_1.length < 140737488355328 then (muslinref02_Decode.l0 kj17 a0 (x3_1 ++ [(wrap64 ((wrap64 (16 * t111)) + t112)) % 256]) (wrap64 (x4_1 + 3))) else (none))) else (none)) else (none))) else (none)) else (none)) = some r := by first | (rw [hji35] at H; exact H) | (simp only [hji35] at H ⊢; exact H)
                    have hji35w : (IntKind.i64.wrap (x4_1 + 1)) = ji35 := (i64_w _).trans hji35
                    by_cases c36 : 0 ≤ (ji35)
                    · rw [if_pos c36] at H
                      have c36b0 : decide (0 ≤ (ji35)) = true := decide_eq_true c36
                      clear c36
                      by_cases c37 : (ji35) < (a0.size : Int)
                      · rw [if_pos c37] at H
                        have c37b0 : decide ((ji35) < (a0.size : Int)) = true := decide_eq_true c37
                        clear c37
                        replace H := Option.bind_eq_some_iff.mp H
                        obtain ⟨t111, A390, H⟩ := H
                        replace H : (if 0 ≤ (wrap64 (x4_1 + 2)) then (if (wrap64 (x4_1 + 2)) < (a0.size : Int) then ((muslinref02_Hex.f kj17 (bt a0 (wrap64 (x4_1 + 2)))).bind fun t112 => (if x3_1.length < 140737488355328 then (muslinref02_Decode.l0 kj17 a0 (x3_1 ++ [(wrap64 ((wrap64 (16 * t111)) + t112)) % 256]) (wrap64 (x4_1 + 3))) else (none))) else (none)) else (none)) = some r := H
                        have A39 := Aside0.mk A390
                        clear A390
                        obtain ⟨ji40, hji40⟩ : ∃ j_ : Int, (wrap64 (x4_1 + 2)) = j_ := ⟨_, rfl⟩
                        replace H : (if 0 ≤ (ji40) then (if (ji40) < (a0.size : Int) then ((muslinref02_Hex.f kj17 (bt a0 (ji40))).bind fun t112 => (if x3_1.length < 140737488355328 then (muslinref02_Decode.l0 kj17 a0 (x3_1 ++ [(wrap64 ((wrap64 (16 * t111)) + t112)) % 256]) (wrap64 (x4_1 + 3))) else (none))) else (none)) else (none)) = some r := by first | (rw [hji40] at H; exact H) | (simp only [hji40] at H ⊢; exact H)
                        (try rw [hji40] at A39)
                        have hji40w : (IntKind.i64.wrap (x4_1 + 2)) = ji40 := (i64_w _).trans hji40
                        by_cases c41 : 0 ≤ (ji40)
                        · rw [if_pos c41] at H
                          have c41b0 : decide (0 ≤ (ji40)) = true := decide_eq_true c41
                          clear c41
                          by_cases c42 : (ji40) < (a0.size : Int)
                          · rw [if_pos c42] at H
                            have c42b0 : decide ((ji40) < (a0.size : Int)) = true := decide_eq_true c42
                            clear c42
                            replace H := Option.bind_eq_some_iff.mp H
                            obtain ⟨t112, A440, H⟩ := H
                            replace H : (if x3_1.length < 140737488355328 then (muslinref02_Decode.l0 kj17 a0 (x3_1 ++ [(wrap64 ((wrap64 (16 * t111)) + t112)) % 256]) (wrap64 (x4_1 + 3))) else (none)) = some r := H
                            have A44 := Aside0.mk A440
                            clear A440
                            by_cases c45 : x3_1.length < 140737488355328
                            · rw [if_pos c45] at H
                              have LMc45 := Aside0.mk c45
                              clear c45
                              obtain ⟨y113, hy113⟩ : ∃ y_ : List Int, y_ = (x3_1 ++ [(wrap64 ((wrap64 (16 * t111)) + t112)) % 256]) := ⟨_, rfl⟩
                              replace H : (muslinref02_Decode.l0 kj17 a0 y113 (wrap64 (x4_1 + 3))) = some r := by first | (rw [hy113]; with_reducible exact H) | (have H2_ := (Option.bind_some _ _).symm.trans H; rw [hy113]; with_reducible exact H2_) | (have H2_ := (Option.bind_some _ _).symm.trans H; with_reducible exact H2_) | with_reducible exact H | (rw [hy113]; exact H) | exact H
                              have Ny113 := Aside0.mk hy113
                              clear hy113
                              have H' := Aside0.mk H
                              clear H
                              try go_wp2
                              have n0_ := Aside0.mk (Kd.R_drew HO_3.out)
                              have n1_ := Aside0.mk (below_drew1 HB.out)
                              clear HO_3
                              clear HB
                              have HO_3 := n0_
                              have HB := n1_
                              clear n0_ n1_
                              have p38 : 0 ≤ ((ji35) : Int) := of_decide_eq_true (by first | (with_reducible assumption) | assumption)
                              have q38 : (ji35) < (a0.size : Int) := of_decide_eq_true (by first | (with_reducible assumption) | assumption)
                              have hx38 := bt_at a0 (ji35)
                              replace p38 := eq_true p38
                              replace q38 := eq_true q38
                              have p43 : 0 ≤ ((ji40) : Int) := of_decide_eq_true (by first | (with_reducible assumption) | assumption)
                              have q43 : (ji40) < (a0.size : Int) := of_decide_eq_true (by first | (with_reducible assumption) | assumption)
                              have hx43 := bt_at a0 (ji40)
                              replace p43 := eq_true p43
                              replace q43 := eq_true q43
                              refine start_ (n := 17) (S := fun w' => True) (ds := []) #[false, false, false, false, false, false, false, false, false, false, false, false, false, false, false, false, false] (by kernel_rfl) rfl rfl trivial (fun hHeld => ?_); refine with_tabW muslinref02_Decode.tab10 muslinref02_Decode.bits10 (fun HT_ HW_ => ?_)
                              generalize wc.drew = w46 at HO_3 HB hHeld ⊢
                              refine pure_ (i := 0) (N := some 68) (v := ?_) (a' := ?_) #[true, false, false, false, false, false, false, false, false, false, false, false, false, false, false, false, false] rfl rfl (any_of HT_.out (by kernel_rfl)) (fun _ _ _ h => h) (Or.inl ⟨by rfl, ?_⟩) ?_ ?_
                              rotate_left
                              · intro w'
                                go_simp
                                with_reducible rfl
                              rotate_left
                              · simp only [Act.put, List.setIfInBounds_toArray, List.set_cons_zero, List.set_cons_succ, i64_w, i32_w]
                                rfl
                              refine pure_ (i := 1) (N := some 69) (v := ?_) (a' := ?_) #[true, true, false, false, false, false, false, false, false, false, false, false, false, false, false, false, false] rfl rfl (any_of HT_.out (by kernel_rfl)) (fun _ _ _ h => h) (Or.inl ⟨by rfl, ?_⟩) ?_ ?_
                              rotate_left
                              · intro w'
                                go_simp
                                with_reducible rfl
                              rotate_left
                              · simp only [Act.put, List.setIfInBounds_toArray, List.set_cons_zero, List.set_cons_succ, i64_w, i32_w]
                                rfl
                              refine pure_ (i := 2) (N := some 70) (v := ?_) (a' := ?_) #[true, true, true, false, false, false, false, false, false, false, false, false, false, false, false, false, false] rfl rfl (any_of HT_.out (by kernel_rfl)) (fun _ _ _ h => h) (Or.inl ⟨by rfl, ?_⟩) ?_ ?_
                              rotate_left
                              · intro w'
                                go_simp
                                with_reducible rfl
                              rotate_left
                              · simp only [Act.put, List.setIfInBounds_toArray, List.set_cons_zero, List.set_cons_succ, i64_w, i32_w]
                                rfl
                              refine pure_ (i := 3) (N := some 71) (v := ?_) (a' := ?_) #[true, true, true, true, false, false, false, false, false, false, false, false, false, false, false, false, false] rfl rfl (any_of HT_.out (by kernel_rfl)) (fun _ _ _ h => h) (Or.inl ⟨by rfl, ?_⟩) ?_ ?_
                              rotate_left
                              · intro w'
                                go_simp
                                with_reducible rfl
                              rotate_left
                              · simp only [Act.put, List.setIfInBounds_toArray, List.set_cons_zero, List.set_cons_succ, i64_w, i32_w]
                                rfl
                              refine pure_ (i := 7) (N := some 75) (v := ?_) (a' := ?_) #[true, true, true, true, false, false, false, true, false, false, false, false, false, false, false, false, false] rfl rfl (any_of HT_.out (by kernel_rfl)) (fun _ _ _ h => h) (Or.inl ⟨by rfl, ?_⟩) ?_ ?_
                              rotate_left
                              · intro w'
                                go_simp
                                with_reducible rfl
                              rotate_left
                              · simp only [Act.put, List.setIfInBounds_toArray, List.set_cons_zero, List.set_cons_succ, i64_w, i32_w]
                                rfl
                              refine pure_ (i := 8) (N := some 76) (v := ?_) (a' := ?_) #[true, true, true, true, false, false, false, true, true, false, false, false, false, false, false, false, false] rfl rfl (any_of HT_.out (by kernel_rfl)) (fun _ _ _ h => h) (Or.inl ⟨by rfl, ?_⟩) ?_ ?_
                              rotate_left
                              · intro w'
                                go_simp
                                with_reducible rfl
                              rotate_left
                              · simp only [Act.put, List.setIfInBounds_toArray, List.set_cons_zero, List.set_cons_succ, i64_w, i32_w]
                                rfl
                              refine pure_ (i := 9) (N := some 77) (v := ?_) (a' := ?_) #[true, true, true, true, false, false, false, true, true, true, false, false, false, false, false, false, false] rfl rfl (any_of HT_.out (by kernel_rfl)) (fun _ _ _ h => h) (Or.inl ⟨by rfl, ?_⟩) ?_ ?_
                              rotate_left
                              · intro w'
                                go_simp
                                with_reducible rfl
                              rotate_left
                              · simp only [Act.put, List.setIfInBounds_toArray, List.set_cons_zero, List.set_cons_succ, i64_w, i32_w]
                                rfl
                              refine take_ (i := 4) (N := some 72) (v := ?_) (a' := ?_) #[true, true, true, true, true, false, false, true, true, true, false, false, false, false, false, false, false] rfl rfl (take_ofW HT_.out HW_.out (by kernel_rfl)) (fun _ _ _ h => h) (Or.inl ⟨by rfl, ?_⟩) hHeld ?_ ?_
                              rotate_left
                              · intro w' _
                                go_simp
                                with_reducible rfl
                              rotate_left
                              · simp only [Act.put, List.setIfInBounds_toArray, List.set_cons_zero, List.set_cons_succ, i64_w, i32_w]
                                rfl
                              refine take_ (i := 10) (N := some 78) (v := ?_) (a' := ?_) #[true, true, true, true, true, false, false, true, true, true, true, false, false, false, false, false, false] rfl rfl (take_ofW HT_.out HW_.out (by kernel_rfl)) (fun _ _ _ h => h) (Or.inl ⟨by rfl, ?_⟩) hHeld ?_ ?_
                              rotate_left
                              · intro w' _
                                go_simp
                                with_reducible rfl
                              rotate_left
                              · simp only [Act.put, List.setIfInBounds_toArray, List.set_cons_zero, List.set_cons_succ, i64_w, i32_w]
                                rfl
                              refine one_ (i := 5) (N := some 73) #[true, true, true, true, true, true, false, true, true, true, true, false, false, false, false, false, false] rfl rfl (one_of HT_.out (by kernel_rfl)) (by decide) (fun K hK => ?_)
                              refine goes_ Tryd.func20 (by kernel_rfl) rfl #[.int .u8 (bt a0 (ji35))] (by rfl) rfl rfl (by (try simp only [List.map_toArray, List.map_cons, List.map_nil]); first | done | (simp only [hji35]; rfl) | rfl | (simp only [List.length_drop, List.length_take]; rfl)) ?_
                              with_reducible refine (muslinref02_Hex.calls kj17 (bt a0 (ji35)) t111 _ A39.out).mono ?_
                              rintro e w' ⟨rfl, ⟨nd, rfl⟩⟩
                              refine ⟨_, rfl, ?_⟩
                              refine hK.out _ _ trivial (fun hHeld => ?_)
                              clear hK K
                              refine norm_ (a' := ?_) ?_ ?_
                              rotate_left
                              · show Act.put _ (some 73) _ = _
                                simp only [Act.put, List.setIfInBounds_toArray, List.set_cons_zero, List.set_cons_succ, i64_w, i32_w]
                                rfl
                              refine pure_ (i := 6) (N := some 74) (v := ?_) (a' := ?_) #[true, true, true, true, true, true, true, true, true, true, true, false, false, false, false, false, false] rfl rfl (any_of HT_.out (by kernel_rfl)) (fun _ _ _ h => h) (Or.inl ⟨by rfl, ?_⟩) ?_ ?_
                              rotate_left
                              · intro w'
                                go_simp
                                with_reducible rfl
                              rotate_left
                              · simp only [Act.put, List.setIfInBounds_toArray, List.set_cons_zero, List.set_cons_succ, i64_w, i32_w]
                                rfl
                              refine one_ (i := 11) (N := some 79) #[true, true, true, true, true, true, true, true, true, true, true, true, false, false, false, false, false] rfl rfl (one_of HT_.out (by kernel_rfl)) (by decide) (fun K hK => ?_)
                              refine goes_ Tryd.func20 (by kernel_rfl) rfl #[.int .u8 (bt a0 (ji40))] (by rfl) rfl rfl (by (try simp only [List.map_toArray, List.map_cons, List.map_nil]); first | done | (simp only [hji40]; rfl) | rfl | (simp only [List.length_drop, List.length_take]; rfl)) ?_
                              with_reducible refine (muslinref02_Hex.calls kj17 (bt a0 (ji40)) t112 _ A44.out).mono ?_
                              rintro e w' ⟨rfl, ⟨nd, rfl⟩⟩
                              refine ⟨_, rfl, ?_⟩
                              refine hK.out _ _ trivial (fun hHeld => ?_)
                              clear hK K
                              refine norm_ (a' := ?_) ?_ ?_
                              rotate_left
                              · show Act.put _ (some 79) _ = _
                                simp only [Act.put, List.setIfInBounds_toArray, List.set_cons_zero, List.set_cons_succ, i64_w, i32_w]
                                rfl
                              refine pure_ (i := 12) (N := some 80) (v := ?_) (a' := ?_) #[true, true, true, true, true, true, true, true, true, true, true, true, true, false, false, false, false] rfl rfl (any_of HT_.out (by kernel_rfl)) (fun _ _ _ h => h) (Or.inl ⟨by rfl, ?_⟩) ?_ ?_
                              rotate_left
                              · intro w'
                                go_simp
                                with_reducible rfl
                              rotate_left
                              · simp only [Act.put, List.setIfInBounds_toArray, List.set_cons_zero, List.set_cons_succ, i64_w, i32_w]
                                rfl
                              refine pure_ (i := 13) (N := some 81) (v := ?_) (a' := ?_) #[true, true, true, true, true, true, true, true, true, true, true, true, true, true, false, false, false] rfl rfl (any_of HT_.out (by kernel_rfl)) (fun _ _ _ h => h) (Or.inl ⟨by rfl, ?_⟩) ?_ ?_
                              rotate_left
                              · intro w'
                                go_simp
                                with_reducible rfl
                              rotate_left
                              · simp only [Act.put, List.setIfInBounds_toArray, List.set_cons_zero, List.set_cons_succ, i64_w, i32_w]
                                rfl
                              refine one_ (i := 14) (N := some 82) #[true, true, true, true, true, true, true, true, true, true, true, true, true, true, true, false, false] rfl rfl (one_of HT_.out (by kernel_rfl)) (by decide) (fun K hK => ?_)
                              refine value_ (w1 := ?_) (v := ?_) (by rfl) rfl ?_ ?_
                              rotate_left 2
                              · go_simp
                                constructor
                                · rfl
                                · rfl
                              refine hK.out _ _ trivial (fun hHeld => ?_)
                              clear hK K
                              refine norm_ (a' := ?_) ?_ ?_
                              rotate_left
                              · show Act.put _ (some 82) _ = _
                                simp only [Act.put, List.setIfInBounds_toArray, List.set_cons_zero, List.set_cons_succ, i64_w, i32_w]
                                rfl
                              refine one_ (i := 15) (N := some 83) #[true, true, true, true, true, true, true, true, true, true, true, true, true, true, true, true, false] rfl rfl (one_of HT_.out (by kernel_rfl)) (by decide) (fun K hK => ?_)
                              refine Kd.R_append_step (Kd.int .u8) (w0 := w) w.heap.size (by rfl) (.tmp 68) (.tmp 82) 28 5 (.int .u8 0) 1 rfl Tryd.underlying28 info5 rfl (by decide) (by omega) u3 x3_1 ((wrap64 ((wrap64 (16 * t111)) + t112)) % 256) [.int .u8 ((wrap64 ((wrap64 (16 * t111)) + t112)) % 256)] (fun _ => True) (fun _ => False) rfl rfl ?aP (fun _ hk => hk.elim) ?aF ?aO ?aB ?aS ?aL ?_
                              (case aP => exact rfl)
                              (case aB => exact (by repeat (first | (with_reducible first | exact HB.out | apply below_alloc | apply pw_below_drewN | apply below_drew1) | exact HB.out)))
                              (case aF => exact (fun _ _ => trivial))
                              (case aO => exact (by (with_reducible repeat (first | apply Kd.R_alloc | apply Kd.R_drewN | apply Kd.R_drew)); exact HO_3.out))
                              (case aS => exact (below_size (by repeat (first | (with_reducible first | exact HB.out | apply below_alloc | apply pw_below_drewN | apply below_drew1) | exact HB.out))))
                              (case aL => have := LMc45.out; first | omega | exact Nat.le_of_lt this)
                              intro v114 w47 ho hb hg hat
                              rw [← Ny113.out] at ho
                              have n0_ := Aside0.mk (hb)
                              have n1_ := Aside0.mk (ho)
                              clear HB
                              clear HO_3
                              have HB := n0_
                              have HO115 := n1_
                              clear n0_ n1_
                              clear ho hb hg hat
                              refine hK.out _ _ trivial (fun hHeld => ?_)
                              clear hK K
                              refine norm_ (a' := ?_) ?_ ?_
                              rotate_left
                              · show Act.put _ (some 83) _ = _
                                simp only [Act.put, List.setIfInBounds_toArray, List.set_cons_zero, List.set_cons_succ, i64_w, i32_w]
                                rfl
                              refine pure_ (i := 16) (N := some 3) (v := ?_) (a' := ?_) #[true, true, true, true, true, true, true, true, true, true, true, true, true, true, true, true, true] rfl rfl (any_of HT_.out (by kernel_rfl)) (fun _ _ _ h => h) (Or.inl ⟨by rfl, ?_⟩) ?_ ?_
                              rotate_left
                              · intro w'
                                go_simp
                                with_reducible rfl
                              rotate_left
                              · simp only [Act.put, List.setIfInBounds_toArray, List.set_cons_zero, List.set_cons_succ, i64_w, i32_w]
                                rfl
                              refine done_ (done_of HT_.out (by kernel_rfl)) ?_
                              try go_wp2
                              go_roundg kj17
                              case measure => have := HK1.out; have := HJ2.out; have := HJ17.out; omega
                              case rel => exact ⟨(y113), (wrap64 (x4_1 + 3)), (by first | rfl | (simp; done) | (simp [*]; done)), H', ⟨by have := HK1.out; have := HJ2.out; have := HJ17.out; omega⟩, ⟨by (with_reducible repeat (first | apply Kd.R_alloc | apply Kd.R_drewN | apply Kd.R_drew)); exact HO115.out⟩, ⟨by repeat (first | (with_reducible first | exact HB.out | apply below_alloc | apply pw_below_drewN | apply below_drew1) | exact HB.out)⟩⟩
                            · rw [if_neg c45] at H
                              exact absurd H (by simp)
                          · rw [if_neg c42] at H
                            exact absurd H (by simp)
                        · rw [if_neg c41] at H
                          exact absurd H (by simp)
                      · rw [if_neg c37] at H
                        exact absurd H (by simp)
                    · rw [if_neg c36] at H
                      exact absurd H (by simp)
                  · replace c34 := Bool.eq_false_iff.mpr c34
                    subst c34
                    have H1 : (if 0 ≤ x4_1 then (if x4_1 < (a0.size : Int) then (if (bt a0 x4_1) = 61 then ((muslinref02_blanks.f kj17 a0 (wrap64 (x4_1 + 1))).bind fun t116 => ((muslinref02_eol.f kj17 a0 t116).bind fun t117 => (if t117 > 0 then ((muslinref02_eol.f kj17 a0 t116).bind fun t118 => (muslinref02_Decode.l0 kj17 a0 x3_1 (wrap64 (t116 + t118)))) else (if x3_1.length < 140737488355328 then (muslinref02_Decode.l0 kj17 a0 (x3_1 ++ [bt a0 x4_1]) (wrap64 (x4_1 + 1))) else (none))))) else (if x3_1.length < 140737488355328 then (muslinref02_Decode.l0 kj17 a0 (x3_1 ++ [bt a0 x4_1]) (wrap64 (x4_1 + 1))) else (none))) else (none)) else (none)) = some r := by rw [if_neg (show ¬ (false = true) by decide)] at H; exact H
                    clear H
                    have H := H1
                    clear H1
                    by_cases c48 : 0 ≤ x4_1
                    · rw [if_pos c48] at H
                      have c48b0 : decide (0 ≤ x4_1) = true := decide_eq_true c48
                      clear c48
                      by_cases c49 : x4_1 < (a0.size : Int)
                      · rw [if_pos c49] at H
                        have c49b0 : decide (x4_1 < (a0.size : Int)) = true := decide_eq_true c49
                        clear c49
                        by_cases c51 : (bt a0 x4_1) = 61
                        · rw [if_pos c51] at H
                          have c51b0 : ((bt a0 x4_1) == 61) = true := beq_iff_eq.mpr c51
                          have c51b1 : ((bt a0 x4_1) != 61) = false := bne_eq_false_iff_eq.mpr c51
                          clear c51
                          replace H := Option.bind_eq_some_iff.mp H
                          obtain ⟨t116, A520, H⟩ := H
                          replace H : ((muslinref02_eol.f kj17 a0 t116).bind fun t117 => (if t117 > 0 then ((muslinref02_eol.f kj17 a0 t116).bind fun t118 => (muslinref02_Decode.l0 kj17 a0 x3_1 (wrap64 (t116 + t118)))) else (if x3_1.length < 140737488355328 then (muslinref02_Decode.l0 kj17 a0 (x3_1 ++ [bt a0 x4_1]) (wrap64 (x4_1 + 1))) else (none)))) = some r := H
                          have A52 := Aside0.mk A520
                          clear A520
                          replace H := Option.bind_eq_some_iff.mp H
                          obtain ⟨t117, A530, H⟩ := H
                          replace H : (if t117 > 0 then ((muslinref02_eol.f kj17 a0 t116).bind fun t118 => (muslinref02_Decode.l0 kj17 a0 x3_1 (wrap64 (t116 + t118)))) else (if x3_1.length < 140737488355328 then (muslinref02_Decode.l0 kj17 a0 (x3_1 ++ [bt a0 x4_1]) (wrap64 (x4_1 + 1))) else (none))) = some r := H
                          have A53 := Aside0.mk A530
                          clear A530
                          by_cases c54 : t117 > 0
                          · rw [if_pos c54] at H
                            have c54b0 : decide (0 < t117) = true := decide_eq_true c54
                            clear c54
                            replace H := Option.bind_eq_some_iff.mp H
                            obtain ⟨t118, A550, H⟩ := H
                            replace H : (muslinref02_Decode.l0 kj17 a0 x3_1 (wrap64 (t116 + t118))) = some r := H
                            have A55 := Aside0.mk A550
                            clear A550
                            have H' := Aside0.mk H
                            clear H
                            have p50 : 0 ≤ (x4_1 : Int) := of_decide_eq_true (by first | (with_reducible assumption) | assumption)
                            have q50 : x4_1 < (a0.size : Int) := of_decide_eq_true (by first | (with_reducible assumption) | assumption)
                            have hx50 := bt_at a0 x4_1
                            replace p50 := eq_true p50
                            replace q50 := eq_true q50
                            go_wp2_with (first | ((with_reducible refine gate_callee (f := 18) rfl ?_); refine goesL_ (some 93) rfl rfl Tryd.func18 (by kernel_rfl) rfl #[.string a0, .int .i64 (wrap64 (x4_1 + 1))] rfl (by (try simp only [List.map_toArray, List.map_cons, List.map_nil]); first | done | rfl | (simp only [List.length_drop, List.length_take]; rfl)) ?_; (with_reducible refine (muslinref02_blanks.calls kj17 a0 (wrap64 (x4_1 + 1)) t116 _ A52.out).mono ?_); rintro e w' ⟨rfl, ⟨nd, rfl⟩⟩; refine ⟨_, rfl, ?_⟩) | ((with_reducible refine gate_callee (f := 19) rfl ?_); refine goesL_ (some 96) rfl rfl Tryd.func19 (by kernel_rfl) rfl #[.string a0, .int .i64 t116] rfl (by (try simp only [List.map_toArray, List.map_cons, List.map_nil]); first | done | rfl | (simp only [List.length_drop, List.length_take]; rfl)) ?_; (with_reducible refine (muslinref02_eol.calls kj17 a0 t116 t117 _ A53.out).mono ?_); rintro e w' ⟨rfl, ⟨nd, rfl⟩⟩; refine ⟨_, rfl, ?_⟩) | ((with_reducible refine gate_callee (f := 19) rfl ?_); refine goesL_ (some 101) rfl rfl Tryd.func19 (by kernel_rfl) rfl #[.string a0, .int .i64 t116] rfl (by (try simp only [List.map_toArray, List.map_cons, List.map_nil]); first | done | rfl | (simp only [List.length_drop, List.length_take]; rfl)) ?_; (with_reducible refine (muslinref02_eol.calls kj17 a0 t116 t118 _ A55.out).mono ?_); rintro e w' ⟨rfl, ⟨nd, rfl⟩⟩; refine ⟨_, rfl, ?_⟩))
                            go_roundg kj17
                            case measure => have := HK1.out; have := HJ2.out; have := HJ17.out; omega
                            case rel => exact ⟨(x3_1), (wrap64 (t116 + t118)), (by first | rfl | (simp; done) | (simp [*]; done)), H', ⟨by have := HK1.out; have := HJ2.out; have := HJ17.out; omega⟩, ⟨by (with_reducible repeat (first | apply Kd.R_alloc | apply Kd.R_drewN | apply Kd.R_drew)); exact HO_3.out⟩, ⟨by repeat (first | (with_reducible first | exact HB.out | apply below_alloc | apply pw_below_drewN | apply below_drew1) | exact HB.out)⟩⟩
                          · rw [if_neg c54] at H
                            have c54b0 : decide (0 < t117) = false := decide_eq_false c54
                            clear c54
                            by_cases c57 : x3_1.length < 140737488355328
                            · rw [if_pos c57] at H
                              have LMc57 := Aside0.mk c57
                              clear c57
                              obtain ⟨y119, hy119⟩ : ∃ y_ : List Int, y_ = (x3_1 ++ [bt a0 x4_1]) := ⟨_, rfl⟩
                              replace H : (muslinref02_Decode.l0 kj17 a0 y119 (wrap64 (x4_1 + 1))) = some r := by first | (rw [hy119]; with_reducible exact H) | (have H2_ := (Option.bind_some _ _).symm.trans H; rw [hy119]; with_reducible exact H2_) | (have H2_ := (Option.bind_some _ _).symm.trans H; with_reducible exact H2_) | with_reducible exact H | (rw [hy119]; exact H) | exact H
                              have Ny119 := Aside0.mk hy119
                              clear hy119
                              have H' := Aside0.mk H
                              clear H
                              have p50 : 0 ≤ (x4_1 : Int) := of_decide_eq_true (by first | (with_reducible assumption) | assumption)
                              have q50 : x4_1 < (a0.size : Int) := of_decide_eq_true (by first | (with_reducible assumption) | assumption)
                              have hx50 := bt_at a0 x4_1
                              replace p50 := eq_true p50
                              replace q50 := eq_true q50
                              go_wp2_with (first | ((with_reducible refine gate_callee (f := 18) rfl ?_); refine goesL_ (some 93) rfl rfl Tryd.func18 (by kernel_rfl) rfl #[.string a0, .int .i64 (wrap64 (x4_1 + 1))] rfl (by (try simp only [List.map_toArray, List.map_cons, List.map_nil]); first | done | rfl | (simp only [List.length_drop, List.length_take]; rfl)) ?_; (with_reducible refine (muslinref02_blanks.calls kj17 a0 (wrap64 (x4_1 + 1)) t116 _ A52.out).mono ?_); rintro e w' ⟨rfl, ⟨nd, rfl⟩⟩; refine ⟨_, rfl, ?_⟩) | ((with_reducible refine gate_callee (f := 19) rfl ?_); refine goesL_ (some 96) rfl rfl Tryd.func19 (by kernel_rfl) rfl #[.string a0, .int .i64 t116] rfl (by (try simp only [List.map_toArray, List.map_cons, List.map_nil]); first | done | rfl | (simp only [List.length_drop, List.length_take]; rfl)) ?_; (with_reducible refine (muslinref02_eol.calls kj17 a0 t116 t117 _ A53.out).mono ?_); rintro e w' ⟨rfl, ⟨nd, rfl⟩⟩; refine ⟨_, rfl, ?_⟩; have p56 : 0 ≤ (x4_1 : Int) := of_decide_eq_true (by first | (with_reducible assumption) | assumption); have q56 : x4_1 < (a0.size : Int) := of_decide_eq_true (by first | (with_reducible assumption) | assumption); have hx56 := bt_at a0 x4_1; replace p56 := eq_true p56; replace q56 := eq_true q56) | ((with_reducible refine gate_builtin (b := .append) (xs := #[.tmp 103, .tmp 107]) rfl ?_); (try (refine gate_guard (by rfl) ?_; dsimp only)); at_builtin; refine Kd.R_append (Kd.int .u8) (w0 := w) w.heap.size rfl (.tmp 103) (.tmp 107) 28 5 (.int .u8 0) 1 rfl Tryd.underlying28 info5 rfl (by decide) (by omega) u3 x3_1 (bt a0 x4_1) [.int .u8 (bt a0 x4_1)] (fun _ => True) (fun _ => False) rfl rfl ?aP (fun _ hk => hk.elim) ?aF ?aO ?aB ?aS ?aL ?_; (case aP => exact rfl); (case aB => exact (by repeat (first | (with_reducible first | exact HB.out | apply below_alloc | apply pw_below_drewN | apply below_drew1) | exact HB.out))); (case aF => exact (fun _ _ => trivial)); (case aO => exact (by (with_reducible repeat (first | apply Kd.R_alloc | apply Kd.R_drewN | apply Kd.R_drew)); exact HO_3.out)); (case aS => exact (below_size (by repeat (first | (with_reducible first | exact HB.out | apply below_alloc | apply pw_below_drewN | apply below_drew1) | exact HB.out)))); (case aL => have := LMc57.out; first | omega | exact Nat.le_of_lt this); intro v120 w58 ho hb hg hat; rw [← Ny119.out] at ho; have n0_ := Aside0.mk (hb); have n1_ := Aside0.mk (ho); clear HB; clear HO_3; have HB := n0_; have HO121 := n1_; clear n0_ n1_; clear ho hb hg hat))
                              go_roundg kj17
                              case measure => have := HK1.out; have := HJ2.out; have := HJ17.out; omega
                              case rel => exact ⟨(y119), (wrap64 (x4_1 + 1)), (by first | rfl | (simp; done) | (simp [*]; done)), H', ⟨by have := HK1.out; have := HJ2.out; have := HJ17.out; omega⟩, ⟨by (with_reducible repeat (first | apply Kd.R_alloc | apply Kd.R_drewN | apply Kd.R_drew)); exact HO121.out⟩, ⟨by repeat (first | (with_reducible first | exact HB.out | apply below_alloc | apply pw_below_drewN | apply below_drew1) | exact HB.out)⟩⟩
                            · rw [if_neg c57] at H
                              exact absurd H (by simp)
                        · rw [if_neg c51] at H
                          have c51b0 : ((bt a0 x4_1) == 61) = false := beq_eq_false_iff_ne.mpr c51
                          have c51b1 : ((bt a0 x4_1) != 61) = true := bne_iff_ne.mpr c51
                          by_cases c60 : x3_1.length < 140737488355328
                          · rw [if_pos c60] at H
                            have LMc60 := Aside0.mk c60
                            clear c60
                            obtain ⟨y122, hy122⟩ : ∃ y_ : List Int, y_ = (x3_1 ++ [bt a0 x4_1]) := ⟨_, rfl⟩
                            replace H : (muslinref02_Decode.l0 kj17 a0 y122 (wrap64 (x4_1 + 1))) = some r := by first | (rw [hy122]; with_reducible exact H) | (have H2_ := (Option.bind_some _ _).symm.trans H; rw [hy122]; with_reducible exact H2_) | (have H2_ := (Option.bind_some _ _).symm.trans H; with_reducible exact H2_) | with_reducible exact H | (rw [hy122]; exact H) | exact H
                            have Ny122 := Aside0.mk hy122
                            clear hy122
                            have H' := Aside0.mk H
                            clear H
                            have p50 : 0 ≤ (x4_1 : Int) := of_decide_eq_true (by first | (with_reducible assumption) | assumption)
                            have q50 : x4_1 < (a0.size : Int) := of_decide_eq_true (by first | (with_reducible assumption) | assumption)
                            have hx50 := bt_at a0 x4_1
                            replace p50 := eq_true p50
                            replace q50 := eq_true q50
                            have p59 : 0 ≤ (x4_1 : Int) := of_decide_eq_true (by first | (with_reducible assumption) | assumption)
                            have q59 : x4_1 < (a0.size : Int) := of_decide_eq_true (by first | (with_reducible assumption) | assumption)
                            have hx59 := bt_at a0 x4_1
                            replace p59 := eq_true p59
                            replace q59 := eq_true q59
                            go_wp2_with (first | ((with_reducible refine gate_builtin (b := .append) (xs := #[.tmp 103, .tmp 107]) rfl ?_); (try (refine gate_guard (by rfl) ?_; dsimp only)); at_builtin; refine Kd.R_append (Kd.int .u8) (w0 := w) w.heap.size rfl (.tmp 103) (.tmp 107) 28 5 (.int .u8 0) 1 rfl Tryd.underlying28 info5 rfl (by decide) (by omega) u3 x3_1 (bt a0 x4_1) [.int .u8 (bt a0 x4_1)] (fun _ => True) (fun _ => False) rfl rfl ?aP (fun _ hk => hk.elim) ?aF ?aO ?aB ?aS ?aL ?_; (case aP => exact rfl); (case aB => exact (by repeat (first | (with_reducible first | exact HB.out | apply below_alloc | apply pw_below_drewN | apply below_drew1) | exact HB.out))); (case aF => exact (fun _ _ => trivial)); (case aO => exact (by (with_reducible repeat (first | apply Kd.R_alloc | apply Kd.R_drewN | apply Kd.R_drew)); exact HO_3.out)); (case aS => exact (below_size (by repeat (first | (with_reducible first | exact HB.out | apply below_alloc | apply pw_below_drewN | apply below_drew1) | exact HB.out)))); (case aL => have := LMc60.out; first | omega | exact Nat.le_of_lt this); intro v123 w61 ho hb hg hat; rw [← Ny122.out] at ho; have n0_ := Aside0.mk (hb); have n1_ := Aside0.mk (ho); clear HB; clear HO_3; have HB := n0_; have HO124 := n1_; clear n0_ n1_; clear ho hb hg hat))
                            go_roundg kj17
                            case measure => have := HK1.out; have := HJ2.out; have := HJ17.out; omega
                            case rel => exact ⟨(y122), (wrap64 (x4_1 + 1)), (by first | rfl | (simp; done) | (simp [*]; done)), H', ⟨by have := HK1.out; have := HJ2.out; have := HJ17.out; omega⟩, ⟨by (with_reducible repeat (first | apply Kd.R_alloc | apply Kd.R_drewN | apply Kd.R_drew)); exact HO124.out⟩, ⟨by repeat (first | (with_reducible first | exact HB.out | apply below_alloc | apply pw_below_drewN | apply below_drew1) | exact HB.out)⟩⟩
                          · rw [if_neg c60] at H
                            exact absurd H (by simp)
                      · rw [if_neg c49] at H
                        exact absurd H (by simp)
                    · rw [if_neg c48] at H
                      exact absurd H (by simp)
      · rw [if_neg c2] at H
        have c2b0 : decide (x4_1 < (a0.size : Int)) = false := decide_eq_false c2
        clear c2
        obtain rfl := Option.some.inj H
        have hcv62 := own_string (P := Tryd.prog) Tryd.underlying28 Tryd.underlying5 Tryd.underlying9 (Kd.own_of_R HO_3.out)
        go_wp2
        go_ret
        exact ⟨by first | rfl | (simp [errW_none, errW_some] <;> rfl) | (simp [*, errW_none, errW_some] <;> rfl), by repeat (first | (with_reducible first | exact HB.out | apply below_alloc | apply pw_below_drewN | apply below_drew1) | exact HB.out)⟩

end Go.Proofs.YtjmeoplajfmieaaDoor.P
