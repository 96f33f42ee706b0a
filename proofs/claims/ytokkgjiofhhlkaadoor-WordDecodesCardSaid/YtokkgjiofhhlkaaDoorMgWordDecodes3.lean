/- Parts of the proof of the law WordDecodes, in one text: C2. -/
import Derived.Test.YtokkgjiofhhlkaaDoorMgWordDecodes2
set_option linter.unusedVariables false
set_option linter.unusedSimpArgs false
namespace Go.Proofs.YtokkgjiofhhlkaaDoor.C
open Go.RowKit Go.Proofs.YtokkgjiofhhlkaaDoorW.PrintWords Go.Proofs.YtokkgjiofhhlkaaDoorW.PrintLast Go.Proofs.YtokkgjiofhhlkaaDoorW.PrintMore
attribute [local go_sem] max2_int min2_int max_two min_two max_three min_three max_four min_four
set_option linter.unusedVariables false
set_option linter.unusedSimpArgs false
mutual
def muslinref04_clean.j1 : Nat → ByteArray → Option (ByteArray)
  | 0, _ => none
  | k + 1, x0 => muslinref04_clean.l1 k x0
def muslinref04_clean.l1 : Nat → ByteArray → Option (ByteArray)
  | 0, _ => none
  | k + 1, x0 => if (x0.size : Int) > 0 then (if 0 ≤ (wrap64 ((x0.size : Int) - 1)) then (if (wrap64 ((x0.size : Int) - 1)) < (x0.size : Int) then ((muslinref04_Space.f (bt x0 (wrap64 ((x0.size : Int) - 1)))).bind fun t110 => (if t110 = true then (if (wrap64 ((x0.size : Int) - 1)) ≤ (x0.size : Int) then (muslinref04_clean.l1 k (x0.extract 0 ((wrap64 ((x0.size : Int) - 1)) : Int).toNat)) else (none)) else ((muslinref03_Small.f x0).bind fun t111 => (some t111)))) else (none)) else (none)) else ((muslinref03_Small.f x0).bind fun t112 => (some t112))
def muslinref04_clean.l0 : Nat → ByteArray → Option (ByteArray)
  | 0, _ => none
  | k + 1, x0 => if (x0.size : Int) > 0 then (if 0 < (x0.size : Int) then ((muslinref04_Space.f (bt x0 0)).bind fun t109 => (if t109 = true then (if 1 ≤ (x0.size : Int) then (muslinref04_clean.l0 k (x0.extract 1 x0.size)) else (none)) else (muslinref04_clean.j1 k x0))) else (none)) else (muslinref04_clean.j1 k x0)
end
def muslinref04_clean.f (k : Nat) (a0 : ByteArray) : Option (ByteArray) := muslinref04_clean.l0 k a0
theorem muslinref04_clean.mono_l : ∀ k, (∀ y0, LeO (muslinref04_clean.j1 k y0) (muslinref04_clean.j1 (k + 1) y0)) ∧ (∀ y0, LeO (muslinref04_clean.l1 k y0) (muslinref04_clean.l1 (k + 1) y0)) ∧ (∀ y0, LeO (muslinref04_clean.l0 k y0) (muslinref04_clean.l0 (k + 1) y0))
  | 0 => ⟨fun _ r h => by simp [muslinref04_clean.j1] at h, fun _ r h => by simp [muslinref04_clean.l1] at h, fun _ r h => by simp [muslinref04_clean.l0] at h⟩
  | k + 1 => by
    obtain ⟨ih0, ih1, ih2⟩ := muslinref04_clean.mono_l k
    refine ⟨?_, ?_, ?_⟩
    · intro y0
      unfold muslinref04_clean.j1
      repeat' first
      | (with_reducible exact ih0 _)
      | (with_reducible exact ih1 _)
      | (with_reducible exact ih2 _)
      | (with_reducible exact LeO.refl _)
      | (with_reducible exact LeO.none _)
      | (with_reducible refine LeO.ite ?_ ?_)
      | (with_reducible refine LeO.bind ?_ (fun _ => ?_))
      | exact ih0 _
      | exact ih1 _
      | exact ih2 _
      | exact LeO.none _
      | refine LeO.ite ?_ ?_
      | refine LeO.bind ?_ (fun _ => ?_)
    · intro y0
      unfold muslinref04_clean.l1
      repeat' first
      | (with_reducible exact ih0 _)
      | (with_reducible exact ih1 _)
      | (with_reducible exact ih2 _)
      | (with_reducible exact LeO.refl _)
      | (with_reducible exact LeO.none _)
      | (with_reducible refine LeO.ite ?_ ?_)
      | (with_reducible refine LeO.bind ?_ (fun _ => ?_))
      | exact ih0 _
      | exact ih1 _
      | exact ih2 _
      | exact LeO.none _
      | refine LeO.ite ?_ ?_
      | refine LeO.bind ?_ (fun _ => ?_)
    · intro y0
      unfold muslinref04_clean.l0
      repeat' first
      | (with_reducible exact ih0 _)
      | (with_reducible exact ih1 _)
      | (with_reducible exact ih2 _)
      | (with_reducible exact LeO.refl _)
      | (with_reducible exact LeO.none _)
      | (with_reducible refine LeO.ite ?_ ?_)
      | (with_reducible refine LeO.bind ?_ (fun _ => ?_))
      | exact ih0 _
      | exact ih1 _
      | exact ih2 _
      | exact LeO.none _
      | refine LeO.ite ?_ ?_
      | refine LeO.bind ?_ (fun _ => ?_)
theorem muslinref04_clean.mono : ∀ a0 k, LeO (muslinref04_clean.f k a0) (muslinref04_clean.f (k + 1) a0) := by
  intro a0 k
  obtain ⟨ih0, ih1, ih2⟩ := muslinref04_clean.mono_l k
  unfold muslinref04_clean.f
  repeat' first
      | (with_reducible exact ih0 _)
      | (with_reducible exact ih1 _)
      | (with_reducible exact ih2 _)
      | (with_reducible exact LeO.refl _)
      | (with_reducible exact LeO.none _)
      | (with_reducible refine LeO.ite ?_ ?_)
      | (with_reducible refine LeO.bind ?_ (fun _ => ?_))
      | exact ih0 _
      | exact ih1 _
      | exact ih2 _
      | exact LeO.none _
      | refine LeO.ite ?_ ?_
      | refine LeO.bind ?_ (fun _ => ?_)
set_option maxHeartbeats 8000000 in
set_option maxRecDepth 100000 in
theorem muslinref04_clean.calls (k : Nat) (a0 : ByteArray) (r : ByteArray) (w : World) (h : muslinref04_clean.f k a0 = some r) :
    Calls Tryd.prog 56 #[.string a0] w fun e w' => e = .returned (.string r) ∧ Below w.heap.size w w' := by
  have HB := Aside0.mk (Below.refl w.heap.size w)
  have H : (muslinref04_clean.l0 k a0) = some r := h
  clear h
  have HC2 := Aside0.mk H
  clear H
  go_enter Tryd.func56, Tryd.ntmps56
  go_upto_block 0 with (fail)
  go_cut [0] (fun v0 wc => ∃ (kq : Nat) (x0_1 : ByteArray), v0 = .string x0_1 ∧ Aside0 (muslinref04_clean.j1 kq x0_1 = some r) ∧ Aside0 (kq ≤ k) ∧ Aside0 (Below w.heap.size w wc))
  case first =>
    have H := HC2.out
    clear HC2
    have H' := Aside0.mk H
    clear H
    go_wp2
    go_loopg [0] k (fun kq v0 w' => ∃ (x0_1 : ByteArray), v0 = .string x0_1 ∧ Aside0 (muslinref04_clean.l0 kq x0_1 = some r) ∧ Aside0 (kq ≤ k) ∧ Aside0 (Below w.heap.size w w'))
    case atStart => exact ⟨(a0), (by first | rfl | (simp; done) | (simp [*]; done)), H', ⟨Nat.le_refl _⟩, ⟨by repeat (first | (with_reducible first | exact HB.out | apply below_alloc | apply pw_below_drewN | apply below_drew1) | exact HB.out)⟩⟩
    case round =>
      clear H'
      try clear p2
      obtain ⟨x0_1, rfl, HA, HK1, HB⟩ := hrel
      cases gk with
      | zero => exact absurd HA.out (by simp [muslinref04_clean.l0])
      | succ k1 =>
        have H := HA.out
        clear HA
        simp only [muslinref04_clean.l0] at H
        by_cases c3 : (x0_1.size : Int) > 0
        · rw [if_pos c3] at H
          have c3b0 : decide (0 < (x0_1.size : Int)) = true := decide_eq_true c3
          have c3b1 : decide (0 < x0_1.size) = true := decide_eq_true (by omega)
          clear c3
          (first | rw [c3b0] | (simp only [i64_w, i32_w]; rw [c3b0]) | skip)
          by_cases c4 : 0 < (x0_1.size : Int)
          · rw [if_pos c4] at H
            have c4b0 : decide (0 < (x0_1.size : Int)) = true := decide_eq_true c4
            have c4b1 : decide (0 < x0_1.size) = true := decide_eq_true (by omega)
            clear c4
            replace H := Option.bind_eq_some_iff.mp H
            obtain ⟨t109, A60, H⟩ := H
            replace H : (if t109 = true then (if 1 ≤ (x0_1.size : Int) then (muslinref04_clean.l0 k1 (x0_1.extract 1 x0_1.size)) else (none)) else (muslinref04_clean.j1 k1 x0_1)) = some r := H
            have A6 := Aside0.mk A60
            clear A60
            by_cases c7 : t109 = true
            · subst c7
              have H1 : (if 1 ≤ (x0_1.size : Int) then (muslinref04_clean.l0 k1 (x0_1.extract 1 x0_1.size)) else (none)) = some r := by rw [if_pos rfl] at H; exact H
              clear H
              have H := H1
              clear H1
              by_cases c8 : 1 ≤ (x0_1.size : Int)
              · rw [if_pos c8] at H
                have c8b0 := eq_true c8
                have c8b1 : decide (1 ≤ (x0_1.size : Int)) = true := decide_eq_true c8
                clear c8
                have H' := Aside0.mk H
                clear H
                have p5 : 0 ≤ (0 : Int) := (by omega)
                have q5 : 0 < x0_1.size := (by have : (0 : Int) < (x0_1.size : Int) := of_decide_eq_true (by first | (with_reducible assumption) | assumption); omega)
                have hx5 : ∀ h : 0 < x0_1.size, ((x0_1[0]'h).toNat : Int) = bt x0_1 0 := bt_at x0_1 0
                clear p5
                have qi5 : (0 < (x0_1.size : Int)) = True := eq_true (of_decide_eq_true (by first | (with_reducible assumption) | assumption))
                replace q5 := eq_true q5
                go_wp2_with (first | (go_at_call 84; (with_reducible refine (muslinref04_Space.calls (bt x0_1 0) true _ A6.out).mono ?_); rintro e w' ⟨rfl, ⟨nd, rfl⟩⟩))
                go_roundg k1
                case measure => have := HK1.out; omega
                case rel => exact ⟨(x0_1.extract 1 x0_1.size), (by first | rfl | (simp; done) | (simp [*]; done)), H', ⟨by have := HK1.out; omega⟩, ⟨by repeat (first | (with_reducible first | exact HB.out | apply below_alloc | apply pw_below_drewN | apply below_drew1) | exact HB.out)⟩⟩
              · rw [if_neg c8] at H
                exact absurd H (by simp)
            · replace c7 := Bool.eq_false_iff.mpr c7
              subst c7
              have H1 : (muslinref04_clean.j1 k1 x0_1) = some r := by rw [if_neg (show ¬ (false = true) by decide)] at H; exact H
              clear H
              have H := H1
              clear H1
              have H' := Aside0.mk H
              clear H
              have p5 : 0 ≤ (0 : Int) := (by omega)
              have q5 : 0 < x0_1.size := (by have : (0 : Int) < (x0_1.size : Int) := of_decide_eq_true (by first | (with_reducible assumption) | assumption); omega)
              have hx5 : ∀ h : 0 < x0_1.size, ((x0_1[0]'h).toNat : Int) = bt x0_1 0 := bt_at x0_1 0
              clear p5
              have qi5 : (0 < (x0_1.size : Int)) = True := eq_true (of_decide_eq_true (by first | (with_reducible assumption) | assumption))
              replace q5 := eq_true q5
              go_wp2_with (first | (go_at_call 84; (with_reducible refine (muslinref04_Space.calls (bt x0_1 0) false _ A6.out).mono ?_); rintro e w' ⟨rfl, ⟨nd, rfl⟩⟩))
              go_meet
              case rel => exact ⟨_, (x0_1), (by first | rfl | (simp; done) | (simp [*]; done)), H', ⟨by have := HK1.out; first | omega | exact Nat.le_refl _⟩, ⟨by repeat (first | (with_reducible first | exact HB.out | apply below_alloc | apply pw_below_drewN | apply below_drew1) | exact HB.out)⟩⟩
          · rw [if_neg c4] at H
            exact absurd H (by simp)
        · rw [if_neg c3] at H
          have c3b0 : decide (0 < (x0_1.size : Int)) = false := decide_eq_false c3
          have c3b1 : decide (0 < x0_1.size) = false := decide_eq_false (by omega)
          clear c3
          (first | rw [c3b0] | (simp only [i64_w, i32_w]; rw [c3b0]) | skip)
          have H' := Aside0.mk H
          clear H
          go_wp2
          go_meet
          case rel => exact ⟨_, (x0_1), (by first | rfl | (simp; done) | (simp [*]; done)), H', ⟨by have := HK1.out; first | omega | exact Nat.le_refl _⟩, ⟨by repeat (first | (with_reducible first | exact HB.out | apply below_alloc | apply pw_below_drewN | apply below_drew1) | exact HB.out)⟩⟩
  case rest =>
    clear HC2
    try clear p2
    try clear c3
    try clear c3b0
    try clear c3b1
    try clear c4
    try clear c4b0
    try clear c4b1
    try clear c5
    try clear p5
    try clear q5
    try clear hx5
    try clear qi5
    try clear c7
    try clear c8
    try clear c8b0
    try clear c8b1
    try clear p2
    try clear p5
    try clear q5
    obtain ⟨kq, x0_1, rfl, HA, HJ1, HB⟩ := hcut
    cases kq with
    | zero => exact absurd HA.out (by simp [muslinref04_clean.j1])
    | succ kj1 =>
      have H := HA.out
      clear HA
      simp only [muslinref04_clean.j1] at H
      have H' := Aside0.mk H
      clear H
      go_wp2
      go_loopg [0] kj1 (fun kq v0 w' => ∃ (x0_2 : ByteArray), v0 = .string x0_2 ∧ Aside0 (muslinref04_clean.l1 kq x0_2 = some r) ∧ Aside0 (kq ≤ kj1) ∧ Aside0 (Below w.heap.size w w'))
      case atStart => exact ⟨(x0_1), (by first | rfl | (simp; done) | (simp [*]; done)), H', ⟨Nat.le_refl _⟩, ⟨by repeat (first | (with_reducible first | exact HB.out | apply below_alloc | apply pw_below_drewN | apply below_drew1) | exact HB.out)⟩⟩
      case round =>
        clear H'
        try clear p2
        try clear c3
        try clear c3b0
        try clear c3b1
        try clear c4
        try clear c4b0
        try clear c4b1
        try clear c5
        try clear p5
        try clear q5
        try clear hx5
        try clear qi5
        try clear c7
        try clear c8
        try clear c8b0
        try clear c8b1
        try clear p2
        try clear p5
        try clear q5
        obtain ⟨x0_2, rfl, HA, HK2, HB⟩ := hrel
        cases gk with
        | zero => exact absurd HA.out (by simp [muslinref04_clean.l1])
        | succ k2 =>
          have H := HA.out
          clear HA
          simp only [muslinref04_clean.l1] at H
          by_cases c9 : (x0_2.size : Int) > 0
          · rw [if_pos c9] at H
            have c9b0 : decide (0 < (x0_2.size : Int)) = true := decide_eq_true c9
            have c9b1 : decide (0 < x0_2.size) = true := decide_eq_true (by omega)
            clear c9
            obtain ⟨ji10, hji10⟩ : ∃ j_ : Int, (wrap64 ((x0_2.size : Int) - 1)) = j_ := ⟨_, rfl⟩
            replace H : (if 0 ≤ (ji10) then (if (ji10) < (x0_2.size : Int) then ((muslinref04_Space.f (bt x0_2 (ji10))).bind fun t110 => (if t110 = true then (if (ji10) ≤ (x0_2.size : Int) then (muslinref04_clean.l1 k2 (x0_2.extract 0 ((ji10) : Int).toNat)) else (none)) else ((muslinref03_Small.f x0_2).bind fun t111 => (some t111)))) else (none)) else (none)) = some r := by first | (rw [hji10] at H; exact H) | (simp only [hji10] at H ⊢; exact H)
            have hji10w : (IntKind.i64.wrap ((x0_2.size : Int) - 1)) = ji10 := (i64_w _).trans hji10
            by_cases c11 : 0 ≤ (ji10)
            · rw [if_pos c11] at H
              have c11b0 : decide (0 ≤ (ji10)) = true := decide_eq_true c11
              clear c11
              by_cases c12 : (ji10) < (x0_2.size : Int)
              · rw [if_pos c12] at H
                have c12b0 : decide ((ji10) < (x0_2.size : Int)) = true := decide_eq_true c12
                clear c12
                replace H := Option.bind_eq_some_iff.mp H
                obtain ⟨t110, A140, H⟩ := H
                replace H : (if t110 = true then (if (ji10) ≤ (x0_2.size : Int) then (muslinref04_clean.l1 k2 (x0_2.extract 0 ((ji10) : Int).toNat)) else (none)) else ((muslinref03_Small.f x0_2).bind fun t111 => (some t111))) = some r := H
                have A14 := Aside0.mk A140
                clear A140
                by_cases c15 : t110 = true
                · subst c15
                  have H1 : (if (ji10) ≤ (x0_2.size : Int) then (muslinref04_clean.l1 k2 (x0_2.extract 0 ((ji10) : Int).toNat)) else (none)) = some r := by rw [if_pos rfl] at H; exact H
                  clear H
                  have H := H1
                  clear H1
                  have c16b0 := eq_true (of_decide_eq_true (by first | (with_reducible assumption) | assumption) : 0 ≤ (ji10))
                  by_cases c17 : (ji10) ≤ (x0_2.size : Int)
                  · rw [if_pos c17] at H
                    have c17b0 := eq_true c17
                    have c17b1 : decide ((ji10) ≤ (x0_2.size : Int)) = true := decide_eq_true c17
                    clear c17
                    have H' := Aside0.mk H
                    clear H
                    have p13 : 0 ≤ ((ji10) : Int) := of_decide_eq_true (by first | (with_reducible assumption) | assumption)
                    have q13 : (ji10) < (x0_2.size : Int) := of_decide_eq_true (by first | (with_reducible assumption) | assumption)
                    have hx13 := bt_at x0_2 (ji10)
                    replace p13 := eq_true p13
                    replace q13 := eq_true q13
                    go_wp2_with (first | (go_at_call 84; (with_reducible refine (muslinref04_Space.calls (bt x0_2 (ji10)) true _ A14.out).mono ?_); rintro e w' ⟨rfl, ⟨nd, rfl⟩⟩))
                    go_roundg k2
                    case measure => have := HJ1.out; have := HK2.out; omega
                    case rel => exact ⟨(x0_2.extract 0 ((ji10) : Int).toNat), (by first | rfl | (simp; done) | (simp only [← hji10] <;> (first | rfl | simp)) | (simp [*]; done)), H', ⟨by have := HJ1.out; have := HK2.out; omega⟩, ⟨by repeat (first | (with_reducible first | exact HB.out | apply below_alloc | apply pw_below_drewN | apply below_drew1) | exact HB.out)⟩⟩
                  · rw [if_neg c17] at H
                    exact absurd H (by simp)
                · replace c15 := Bool.eq_false_iff.mpr c15
                  subst c15
                  have H1 : ((muslinref03_Small.f x0_2).bind fun t111 => (some t111)) = some r := by rw [if_neg (show ¬ (false = true) by decide)] at H; exact H
                  clear H
                  have H := H1
                  clear H1
                  replace H := Option.bind_eq_some_iff.mp H
                  obtain ⟨t111, A180, H⟩ := H
                  replace H : (some t111) = some r := H
                  have A18 := Aside0.mk A180
                  clear A180
                  obtain rfl := Option.some.inj H
                  have p13 : 0 ≤ ((ji10) : Int) := of_decide_eq_true (by first | (with_reducible assumption) | assumption)
                  have q13 : (ji10) < (x0_2.size : Int) := of_decide_eq_true (by first | (with_reducible assumption) | assumption)
                  have hx13 := bt_at x0_2 (ji10)
                  replace p13 := eq_true p13
                  replace q13 := eq_true q13
                  go_wp2_with (first | (go_at_call 84; (with_reducible refine (muslinref04_Space.calls (bt x0_2 (ji10)) false _ A14.out).mono ?_); rintro e w' ⟨rfl, ⟨nd, rfl⟩⟩) | ((with_reducible refine gate_callee (f := 85) rfl ?_); refine goesL_ (some 30) rfl rfl Tryd.func85 (by kernel_rfl) rfl #[.string x0_2] rfl (by (try simp only [List.map_toArray, List.map_cons, List.map_nil]); first | done | rfl | (simp only [List.length_drop, List.length_take]; rfl)) ?_; (with_reducible refine (muslinref03_Small.calls x0_2 t111 _ A18.out).mono ?_); rintro e w19 ⟨rfl, hb⟩; refine ⟨_, rfl, ?_⟩; have n0_ := Aside0.mk (below_step (by repeat (first | (with_reducible first | exact HB.out | apply below_alloc | apply pw_below_drewN | apply below_drew1) | exact HB.out)) hb); clear HB; have HB := n0_; clear n0_; (try clear hb); (try clear hb2); (try clear hk); (try clear hi)))
                  go_ret
                  exact ⟨by first | rfl | (simp [errW_none, errW_some] <;> rfl) | (simp only [← hji10]; first | rfl | (simp [errW_none, errW_some] <;> rfl)) | (simp [*, errW_none, errW_some] <;> rfl), by repeat (first | (with_reducible first | exact HB.out | apply below_alloc | apply pw_below_drewN | apply below_drew1) | exact HB.out)⟩
              · rw [if_neg c12] at H
                exact absurd H (by simp)
            · rw [if_neg c11] at H
              exact absurd H (by simp)
          · rw [if_neg c9] at H
            have c9b0 : decide (0 < (x0_2.size : Int)) = false := decide_eq_false c9
            have c9b1 : decide (0 < x0_2.size) = false := decide_eq_false (by omega)
            clear c9
            replace H := Option.bind_eq_some_iff.mp H
            obtain ⟨t112, A200, H⟩ := H
            replace H : (some t112) = some r := H
            have A20 := Aside0.mk A200
            clear A200
            obtain rfl := Option.some.inj H
            go_wp2_with (first | ((with_reducible refine gate_callee (f := 85) rfl ?_); refine goesL_ (some 30) rfl rfl Tryd.func85 (by kernel_rfl) rfl #[.string x0_2] rfl (by (try simp only [List.map_toArray, List.map_cons, List.map_nil]); first | done | rfl | (simp only [List.length_drop, List.length_take]; rfl)) ?_; (with_reducible refine (muslinref03_Small.calls x0_2 t112 _ A20.out).mono ?_); rintro e w21 ⟨rfl, hb⟩; refine ⟨_, rfl, ?_⟩; have n0_ := Aside0.mk (below_step (by repeat (first | (with_reducible first | exact HB.out | apply below_alloc | apply pw_below_drewN | apply below_drew1) | exact HB.out)) hb); clear HB; have HB := n0_; clear n0_; (try clear hb); (try clear hb2); (try clear hk); (try clear hi)))
            go_ret
            exact ⟨by first | rfl | (simp [errW_none, errW_some] <;> rfl) | (simp [*, errW_none, errW_some] <;> rfl), by repeat (first | (with_reducible first | exact HB.out | apply below_alloc | apply pw_below_drewN | apply below_drew1) | exact HB.out)⟩
mutual
def muslinref04_Known.j0 : Nat → ByteArray → Bool → Option (ByteArray × Bool)
  | 0, _, _ => none
  | k + 1, x5, x6 => if x6 = true then (some ((⟨#[117, 116, 102, 45, 56]⟩ : ByteArray), true)) else (if x5.toList = ([119, 105, 110, 100, 111, 119, 115, 45, 49, 50, 53, 50] : List UInt8) then (muslinref04_Known.j1 k x5 (x5.toList == ([119, 105, 110, 100, 111, 119, 115, 45, 49, 50, 53, 50] : List UInt8))) else (if x5.toList = ([99, 112, 49, 50, 53, 50] : List UInt8) then (muslinref04_Known.j1 k x5 (x5.toList == ([99, 112, 49, 50, 53, 50] : List UInt8))) else (if x5.toList = ([117, 115, 45, 97, 115, 99, 105, 105] : List UInt8) then (muslinref04_Known.j1 k x5 (x5.toList == ([117, 115, 45, 97, 115, 99, 105, 105] : List UInt8))) else (if x5.toList = ([97, 115, 99, 105, 105] : List UInt8) then (muslinref04_Known.j1 k x5 (x5.toList == ([97, 115, 99, 105, 105] : List UInt8))) else (if x5.toList = ([105, 115, 111, 45, 56, 56, 53, 57, 45, 49] : List UInt8) then (muslinref04_Known.j1 k x5 (x5.toList == ([105, 115, 111, 45, 56, 56, 53, 57, 45, 49] : List UInt8))) else (if x5.toList = ([105, 115, 111, 56, 56, 53, 57, 45, 49] : List UInt8) then (muslinref04_Known.j1 k x5 (x5.toList == ([105, 115, 111, 56, 56, 53, 57, 45, 49] : List UInt8))) else (if x5.toList = ([108, 97, 116, 105, 110, 49] : List UInt8) then (muslinref04_Known.j1 k x5 (x5.toList == ([108, 97, 116, 105, 110, 49] : List UInt8))) else (muslinref04_Known.j1 k x5 (x5.toList == ([108, 49] : List UInt8))))))))))
def muslinref04_Known.j1 : Nat → ByteArray → Bool → Option (ByteArray × Bool)
  | 0, _, _ => none
  | k + 1, x5, x10 => if x10 = true then (some ((⟨#[119, 105, 110, 100, 111, 119, 115, 45, 49, 50, 53, 50]⟩ : ByteArray), true)) else (if x5.toList = ([117, 116, 102, 45, 49, 54, 108, 101] : List UInt8) then (muslinref04_Known.j2 k x5 (x5.toList == ([117, 116, 102, 45, 49, 54, 108, 101] : List UInt8))) else (if x5.toList = ([117, 116, 102, 45, 49, 54] : List UInt8) then (muslinref04_Known.j2 k x5 (x5.toList == ([117, 116, 102, 45, 49, 54] : List UInt8))) else (if x5.toList = ([117, 110, 105, 99, 111, 100, 101] : List UInt8) then (muslinref04_Known.j2 k x5 (x5.toList == ([117, 110, 105, 99, 111, 100, 101] : List UInt8))) else (muslinref04_Known.j2 k x5 (x5.toList == ([117, 99, 115, 45, 50] : List UInt8))))))
def muslinref04_Known.j2 : Nat → ByteArray → Bool → Option (ByteArray × Bool)
  | 0, _, _ => none
  | k + 1, x5, x19 => if x19 = true then (some ((⟨#[117, 116, 102, 45, 49, 54, 108, 101]⟩ : ByteArray), true)) else (if x5.toList = ([117, 116, 102, 45, 49, 54, 98, 101] : List UInt8) then (some ((⟨#[117, 116, 102, 45, 49, 54, 98, 101]⟩ : ByteArray), true)) else (if x5.toList = ([117, 110, 105, 99, 111, 100, 101, 102, 102, 102, 101] : List UInt8) then (some ((⟨#[117, 116, 102, 45, 49, 54, 98, 101]⟩ : ByteArray), true)) else (some ((⟨#[]⟩ : ByteArray), false))))
end
def muslinref04_Known.f (k : Nat) (a0 : ByteArray) : Option (ByteArray × Bool) := (muslinref04_clean.f k a0).bind fun t113 => (if t113.toList = ([117, 116, 102, 45, 56] : List UInt8) then (muslinref04_Known.j0 k t113 (t113.toList == ([117, 116, 102, 45, 56] : List UInt8))) else (if t113.toList = ([117, 116, 102, 56] : List UInt8) then (muslinref04_Known.j0 k t113 (t113.toList == ([117, 116, 102, 56] : List UInt8))) else (muslinref04_Known.j0 k t113 (t113.toList == ([117, 110, 105, 99, 111, 100, 101, 45, 49, 45, 49, 45, 117, 116, 102, 45, 56] : List UInt8)))))
theorem muslinref04_Known.mono_l : ∀ k, (∀ y0 y1, LeO (muslinref04_Known.j0 k y0 y1) (muslinref04_Known.j0 (k + 1) y0 y1)) ∧ (∀ y0 y1, LeO (muslinref04_Known.j1 k y0 y1) (muslinref04_Known.j1 (k + 1) y0 y1)) ∧ (∀ y0 y1, LeO (muslinref04_Known.j2 k y0 y1) (muslinref04_Known.j2 (k + 1) y0 y1))
  | 0 => ⟨fun _ _ r h => by simp [muslinref04_Known.j0] at h, fun _ _ r h => by simp [muslinref04_Known.j1] at h, fun _ _ r h => by simp [muslinref04_Known.j2] at h⟩
  | k + 1 => by
    obtain ⟨ih0, ih1, ih2⟩ := muslinref04_Known.mono_l k
    refine ⟨?_, ?_, ?_⟩
    · intro y0 y1
      unfold muslinref04_Known.j0
      repeat' first
      | (with_reducible exact ih0 _ _)
      | (with_reducible exact ih1 _ _)
      | (with_reducible exact ih2 _ _)
      | (with_reducible exact muslinref04_clean.mono _ _)
      | (with_reducible exact LeO.refl _)
      | (with_reducible exact LeO.none _)
      | (with_reducible refine LeO.ite ?_ ?_)
      | (with_reducible refine LeO.bind ?_ (fun _ => ?_))
      | exact ih0 _ _
      | exact ih1 _ _
      | exact ih2 _ _
      | exact muslinref04_clean.mono _ _
      | exact LeO.none _
      | refine LeO.ite ?_ ?_
      | refine LeO.bind ?_ (fun _ => ?_)
    · intro y0 y1
      unfold muslinref04_Known.j1
      repeat' first
      | (with_reducible exact ih0 _ _)
      | (with_reducible exact ih1 _ _)
      | (with_reducible exact ih2 _ _)
      | (with_reducible exact muslinref04_clean.mono _ _)
      | (with_reducible exact LeO.refl _)
      | (with_reducible exact LeO.none _)
      | (with_reducible refine LeO.ite ?_ ?_)
      | (with_reducible refine LeO.bind ?_ (fun _ => ?_))
      | exact ih0 _ _
      | exact ih1 _ _
      | exact ih2 _ _
      | exact muslinref04_clean.mono _ _
      | exact LeO.none _
      | refine LeO.ite ?_ ?_
      | refine LeO.bind ?_ (fun _ => ?_)
    · intro y0 y1
      unfold muslinref04_Known.j2
      repeat' first
      | (with_reducible exact ih0 _ _)
      | (with_reducible exact ih1 _ _)
      | (with_reducible exact ih2 _ _)
      | (with_reducible exact muslinref04_clean.mono _ _)
      | (with_reducible exact LeO.refl _)
      | (with_reducible exact LeO.none _)
      | (with_reducible refine LeO.ite ?_ ?_)
      | (with_reducible refine LeO.bind ?_ (fun _ => ?_))
      | exact ih0 _ _
      | exact ih1 _ _
      | exact ih2 _ _
      | exact muslinref04_clean.mono _ _
      | exact LeO.none _
      | refine LeO.ite ?_ ?_
      | refine LeO.bind ?_ (fun _ => ?_)
set_option maxHeartbeats 8000000 in
set_option maxRecDepth 100000 in
theorem muslinref04_Known.calls (k : Nat) (a0 : ByteArray) (r1 : ByteArray) (r2 : Bool) (w : World) (h : muslinref04_Known.f k a0 = some (r1, r2)) :
    Calls Tryd.prog 27 #[.string a0] w fun e w' => e = .returned (.tuple #[.string r1, .bool r2]) ∧ Below w.heap.size w w' := by
  have HB := Aside0.mk (Below.refl w.heap.size w)
  have H : ((muslinref04_clean.f k a0).bind fun t113 => (if t113.toList = ([117, 116, 102, 45, 56] : List UInt8) then (muslinref04_Known.j0 k t113 (t113.toList == ([117, 116, 102, 45, 56] : List UInt8))) else (if t113.toList = ([117, 116, 102, 56] : List UInt8) then (muslinref04_Known.j0 k t113 (t113.toList == ([117, 116, 102, 56] : List UInt8))) else (muslinref04_Known.j0 k t113 (t113.toList == ([117, 110, 105, 99, 111, 100, 101, 45, 49, 45, 49, 45, 117, 116, 102, 45, 56] : List UInt8)))))) = some (r1, r2) := h
  clear h
  replace H := Option.bind_eq_some_iff.mp H
  obtain ⟨t113, A20, H⟩ := H
  replace H : (if t113.toList = ([117, 116, 102, 45, 56] : List UInt8) then (muslinref04_Known.j0 k t113 (t113.toList == ([117, 116, 102, 45, 56] : List UInt8))) else (if t113.toList = ([117, 116, 102, 56] : List UInt8) then (muslinref04_Known.j0 k t113 (t113.toList == ([117, 116, 102, 56] : List UInt8))) else (muslinref04_Known.j0 k t113 (t113.toList == ([117, 110, 105, 99, 111, 100, 101, 45, 49, 45, 49, 45, 117, 116, 102, 45, 56] : List UInt8))))) = some (r1, r2) := H
  have A2 := Aside0.mk A20
  clear A20
  have HC3 := Aside0.mk H
  clear H
  go_enter Tryd.func27, Tryd.ntmps27
  go_upto_if 6 with (first | ((with_reducible refine gate_callee (f := 56) rfl ?_); refine goesL_ (some 5) rfl rfl Tryd.func56 (by kernel_rfl) rfl #[.string a0] rfl (by (try simp only [List.map_toArray, List.map_cons, List.map_nil]); first | done | rfl | (simp only [List.length_drop, List.length_take]; rfl)) ?_; (with_reducible refine (muslinref04_clean.calls k a0 t113 _ A2.out).mono ?_); rintro e w4 ⟨rfl, hb⟩; refine ⟨_, rfl, ?_⟩; have n0_ := Aside0.mk (below_step (by repeat (first | (with_reducible first | exact HB.out | apply below_alloc | apply pw_below_drewN | apply below_drew1) | exact HB.out)) hb); clear HB; have HB := n0_; clear n0_; (try clear hb); (try clear hb2); (try clear hk); (try clear hi)))
  (try simp only [Act.put, List.setIfInBounds_toArray, List.set_cons_zero, List.set_cons_succ])
  go_cut [6] (fun v6 wc => ∃ (kq : Nat) (x6_2 : Bool), v6 = .bool x6_2 ∧ Aside0 (muslinref04_Known.j0 kq t113 x6_2 = some (r1, r2)) ∧ Aside0 (kq ≤ k) ∧ Aside0 (Below w.heap.size w wc))
  case first =>
    have H := HC3.out
    clear HC3
    by_cases c5 : t113.toList = ([117, 116, 102, 45, 56] : List UInt8)
    · rw [if_pos c5] at H
      have c5b0 : (t113.toList == ([117, 116, 102, 45, 56] : List UInt8)) = true := beq_iff_eq.mpr c5
      have c5b1 : (t113.toList != ([117, 116, 102, 45, 56] : List UInt8)) = false := bne_eq_false_iff_eq.mpr c5
      clear c5
      (first | rw [c5b0] | (simp only [i64_w, i32_w]; rw [c5b0]) | skip)
      have H' := Aside0.mk H
      clear H
      go_wp2
      go_meet
      case rel => exact ⟨_, ((t113.toList == ([117, 116, 102, 45, 56] : List UInt8))), (by first | rfl | (simp; done) | (simp [*]; done)), H', ⟨by first | omega | exact Nat.le_refl _⟩, ⟨by repeat (first | (with_reducible first | exact HB.out | apply below_alloc | apply pw_below_drewN | apply below_drew1) | exact HB.out)⟩⟩
    · rw [if_neg c5] at H
      have c5b0 : (t113.toList == ([117, 116, 102, 45, 56] : List UInt8)) = false := beq_eq_false_iff_ne.mpr c5
      have c5b1 : (t113.toList != ([117, 116, 102, 45, 56] : List UInt8)) = true := bne_iff_ne.mpr c5
      (first | rw [c5b0] | (simp only [i64_w, i32_w]; rw [c5b0]) | skip)
      by_cases c6 : t113.toList = ([117, 116, 102, 56] : List UInt8)
      · rw [if_pos c6] at H
        have c6b0 : (t113.toList == ([117, 116, 102, 56] : List UInt8)) = true := beq_iff_eq.mpr c6
        have c6b1 : (t113.toList != ([117, 116, 102, 56] : List UInt8)) = false := bne_eq_false_iff_eq.mpr c6
        clear c6
        have H' := Aside0.mk H
        clear H
        go_wp2
        go_meet
        case rel => exact ⟨_, ((t113.toList == ([117, 116, 102, 56] : List UInt8))), (by first | rfl | (simp; done) | (simp [*]; done)), H', ⟨by first | omega | exact Nat.le_refl _⟩, ⟨by repeat (first | (with_reducible first | exact HB.out | apply below_alloc | apply pw_below_drewN | apply below_drew1) | exact HB.out)⟩⟩
      · rw [if_neg c6] at H
        have c6b0 : (t113.toList == ([117, 116, 102, 56] : List UInt8)) = false := beq_eq_false_iff_ne.mpr c6
        have c6b1 : (t113.toList != ([117, 116, 102, 56] : List UInt8)) = true := bne_iff_ne.mpr c6
        have H' := Aside0.mk H
        clear H
        go_wp2
        go_meet
        case rel => exact ⟨_, ((t113.toList == ([117, 110, 105, 99, 111, 100, 101, 45, 49, 45, 49, 45, 117, 116, 102, 45, 56] : List UInt8))), (by first | rfl | (simp; done) | (simp [*]; done)), H', ⟨by first | omega | exact Nat.le_refl _⟩, ⟨by repeat (first | (with_reducible first | exact HB.out | apply below_alloc | apply pw_below_drewN | apply below_drew1) | exact HB.out)⟩⟩
  case rest =>
    clear HC3
    try clear c2
    try clear p2
    try clear c5
    try clear c5b0
    try clear c5b1
    try clear c6
    try clear c6b0
    try clear c6b1
    obtain ⟨kq, x6_2, rfl, HA, HJ2, HB⟩ := hcut
    cases kq with
    | zero => exact absurd HA.out (by simp [muslinref04_Known.j0])
    | succ kj2 =>
      have H := HA.out
      clear HA
      simp only [muslinref04_Known.j0] at H
      by_cases c7 : x6_2 = true
      · subst c7
        have H1 : (some ((⟨#[117, 116, 102, 45, 56]⟩ : ByteArray), true)) = some (r1, r2) := by rw [if_pos rfl] at H; exact H
        clear H
        have H := H1
        clear H1
        simp only [Option.some.injEq, Prod.mk.injEq] at H
        obtain ⟨rfl, rfl⟩ := H
        go_wp2
        go_ret2
        exact ⟨by first | rfl | (simp [errW_none, errW_some] <;> rfl) | (simp [*, errW_none, errW_some] <;> rfl), by repeat (first | (with_reducible first | exact HB.out | apply below_alloc | apply pw_below_drewN | apply below_drew1) | exact HB.out)⟩
      · replace c7 := Bool.eq_false_iff.mpr c7
        subst c7
        have H1 : (if t113.toList = ([119, 105, 110, 100, 111, 119, 115, 45, 49, 50, 53, 50] : List UInt8) then (muslinref04_Known.j1 kj2 t113 (t113.toList == ([119, 105, 110, 100, 111, 119, 115, 45, 49, 50, 53, 50] : List UInt8))) else (if t113.toList = ([99, 112, 49, 50, 53, 50] : List UInt8) then (muslinref04_Known.j1 kj2 t113 (t113.toList == ([99, 112, 49, 50, 53, 50] : List UInt8))) else (if t113.toList = ([117, 115, 45, 97, 115, 99, 105, 105] : List UInt8) then (muslinref04_Known.j1 kj2 t113 (t113.toList == ([117, 115, 45, 97, 115, 99, 105, 105] : List UInt8))) else (if t113.toList = ([97, 115, 99, 105, 105] : List UInt8) then (muslinref04_Known.j1 kj2 t113 (t113.toList == ([97, 115, 99, 105, 105] : List UInt8))) else (if t113.toList = ([105, 115, 111, 45, 56, 56, 53, 57, 45, 49] : List UInt8) then (muslinref04_Known.j1 kj2 t113 (t113.toList == ([105, 115, 111, 45, 56, 56, 53, 57, 45, 49] : List UInt8))) else (if t113.toList = ([105, 115, 111, 56, 56, 53, 57, 45, 49] : List UInt8) then (muslinref04_Known.j1 kj2 t113 (t113.toList == ([105, 115, 111, 56, 56, 53, 57, 45, 49] : List UInt8))) else (if t113.toList = ([108, 97, 116, 105, 110, 49] : List UInt8) then (muslinref04_Known.j1 kj2 t113 (t113.toList == ([108, 97, 116, 105, 110, 49] : List UInt8))) else (muslinref04_Known.j1 kj2 t113 (t113.toList == ([108, 49] : List UInt8)))))))))) = some (r1, r2) := by rw [if_neg (show ¬ (false = true) by decide)] at H; exact H
        clear H
        have H := H1
        clear H1
        have HC8 := Aside0.mk H
        clear H
        go_upto_if 10 with (fail)
        go_cut [10] (fun v10 wc => ∃ (kq : Nat) (x10_7 : Bool), v10 = .bool x10_7 ∧ Aside0 (muslinref04_Known.j1 kq t113 x10_7 = some (r1, r2)) ∧ Aside0 (kq ≤ kj2) ∧ Aside0 (Below w.heap.size w wc))
        case first =>
          have H := HC8.out
          clear HC8
          by_cases c9 : t113.toList = ([119, 105, 110, 100, 111, 119, 115, 45, 49, 50, 53, 50] : List UInt8)
          · rw [if_pos c9] at H
            have c9b0 : (t113.toList == ([119, 105, 110, 100, 111, 119, 115, 45, 49, 50, 53, 50] : List UInt8)) = true := beq_iff_eq.mpr c9
            have c9b1 : (t113.toList != ([119, 105, 110, 100, 111, 119, 115, 45, 49, 50, 53, 50] : List UInt8)) = false := bne_eq_false_iff_eq.mpr c9
            clear c9
            (first | rw [c9b0] | (simp only [i64_w, i32_w]; rw [c9b0]) | skip)
            have H' := Aside0.mk H
            clear H
            go_wp2
            go_meet
            case rel => exact ⟨_, ((t113.toList == ([119, 105, 110, 100, 111, 119, 115, 45, 49, 50, 53, 50] : List UInt8))), (by first | rfl | (simp; done) | (simp [*]; done)), H', ⟨by have := HJ2.out; first | omega | exact Nat.le_refl _⟩, ⟨by repeat (first | (with_reducible first | exact HB.out | apply below_alloc | apply pw_below_drewN | apply below_drew1) | exact HB.out)⟩⟩
          · rw [if_neg c9] at H
            have c9b0 : (t113.toList == ([119, 105, 110, 100, 111, 119, 115, 45, 49, 50, 53, 50] : List UInt8)) = false := beq_eq_false_iff_ne.mpr c9
            have c9b1 : (t113.toList != ([119, 105, 110, 100, 111, 119, 115, 45, 49, 50, 53, 50] : List UInt8)) = true := bne_iff_ne.mpr c9
            (first | rw [c9b0] | (simp only [i64_w, i32_w]; rw [c9b0]) | skip)
            by_cases c10 : t113.toList = ([99, 112, 49, 50, 53, 50] : List UInt8)
            · rw [if_pos c10] at H
              have c10b0 : (t113.toList == ([99, 112, 49, 50, 53, 50] : List UInt8)) = true := beq_iff_eq.mpr c10
              have c10b1 : (t113.toList != ([99, 112, 49, 50, 53, 50] : List UInt8)) = false := bne_eq_false_iff_eq.mpr c10
              clear c10
              have H' := Aside0.mk H
              clear H
              go_wp2
              go_meet
              case rel => exact ⟨_, ((t113.toList == ([99, 112, 49, 50, 53, 50] : List UInt8))), (by first | rfl | (simp; done) | (simp [*]; done)), H', ⟨by have := HJ2.out; first | omega | exact Nat.le_refl _⟩, ⟨by repeat (first | (with_reducible first | exact HB.out | apply below_alloc | apply pw_below_drewN | apply below_drew1) | exact HB.out)⟩⟩
            · rw [if_neg c10] at H
              have c10b0 : (t113.toList == ([99, 112, 49, 50, 53, 50] : List UInt8)) = false := beq_eq_false_iff_ne.mpr c10
              have c10b1 : (t113.toList != ([99, 112, 49, 50, 53, 50] : List UInt8)) = true := bne_iff_ne.mpr c10
              by_cases c11 : t113.toList = ([117, 115, 45, 97, 115, 99, 105, 105] : List UInt8)
              · rw [if_pos c11] at H
                have c11b0 : (t113.toList == ([117, 115, 45, 97, 115, 99, 105, 105] : List UInt8)) = true := beq_iff_eq.mpr c11
                have c11b1 : (t113.toList != ([117, 115, 45, 97, 115, 99, 105, 105] : List UInt8)) = false := bne_eq_false_iff_eq.mpr c11
                clear c11
                have H' := Aside0.mk H
                clear H
                go_wp2
                go_meet
                case rel => exact ⟨_, ((t113.toList == ([117, 115, 45, 97, 115, 99, 105, 105] : List UInt8))), (by first | rfl | (simp; done) | (simp [*]; done)), H', ⟨by have := HJ2.out; first | omega | exact Nat.le_refl _⟩, ⟨by repeat (first | (with_reducible first | exact HB.out | apply below_alloc | apply pw_below_drewN | apply below_drew1) | exact HB.out)⟩⟩
              · rw [if_neg c11] at H
                have c11b0 : (t113.toList == ([117, 115, 45, 97, 115, 99, 105, 105] : List UInt8)) = false := beq_eq_false_iff_ne.mpr c11
                have c11b1 : (t113.toList != ([117, 115, 45, 97, 115, 99, 105, 105] : List UInt8)) = true := bne_iff_ne.mpr c11
                by_cases c12 : t113.toList = ([97, 115, 99, 105, 105] : List UInt8)
                · rw [if_pos c12] at H
                  have c12b0 : (t113.toList == ([97, 115, 99, 105, 105] : List UInt8)) = true := beq_iff_eq.mpr c12
                  have c12b1 : (t113.toList != ([97, 115, 99, 105, 105] : List UInt8)) = false := bne_eq_false_iff_eq.mpr c12
                  clear c12
                  have H' := Aside0.mk H
                  clear H
                  go_wp2
                  go_meet
                  case rel => exact ⟨_, ((t113.toList == ([97, 115, 99, 105, 105] : List UInt8))), (by first | rfl | (simp; done) | (simp [*]; done)), H', ⟨by have := HJ2.out; first | omega | exact Nat.le_refl _⟩, ⟨by repeat (first | (with_reducible first | exact HB.out | apply below_alloc | apply pw_below_drewN | apply below_drew1) | exact HB.out)⟩⟩
                · rw [if_neg c12] at H
                  have c12b0 : (t113.toList == ([97, 115, 99, 105, 105] : List UInt8)) = false := beq_eq_false_iff_ne.mpr c12
                  have c12b1 : (t113.toList != ([97, 115, 99, 105, 105] : List UInt8)) = true := bne_iff_ne.mpr c12
                  by_cases c13 : t113.toList = ([105, 115, 111, 45, 56, 56, 53, 57, 45, 49] : List UInt8)
                  · rw [if_pos c13] at H
                    have c13b0 : (t113.toList == ([105, 115, 111, 45, 56, 56, 53, 57, 45, 49] : List UInt8)) = true := beq_iff_eq.mpr c13
                    have c13b1 : (t113.toList != ([105, 115, 111, 45, 56, 56, 53, 57, 45, 49] : List UInt8)) = false := bne_eq_false_iff_eq.mpr c13
                    clear c13
                    have H' := Aside0.mk H
                    clear H
                    go_wp2
                    go_meet
                    case rel => exact ⟨_, ((t113.toList == ([105, 115, 111, 45, 56, 56, 53, 57, 45, 49] : List UInt8))), (by first | rfl | (simp; done) | (simp [*]; done)), H', ⟨by have := HJ2.out; first | omega | exact Nat.le_refl _⟩, ⟨by repeat (first | (with_reducible first | exact HB.out | apply below_alloc | apply pw_below_drewN | apply below_drew1) | exact HB.out)⟩⟩
                  · rw [if_neg c13] at H
                    have c13b0 : (t113.toList == ([105, 115, 111, 45, 56, 56, 53, 57, 45, 49] : List UInt8)) = false := beq_eq_false_iff_ne.mpr c13
                    have c13b1 : (t113.toList != ([105, 115, 111, 45, 56, 56, 53, 57, 45, 49] : List UInt8)) = true := bne_iff_ne.mpr c13
                    by_cases c14 : t113.toList = ([105, 115, 111, 56, 56, 53, 57, 45, 49] : List UInt8)
                    · rw [if_pos c14] at H
                      have c14b0 : (t113.toList == ([105, 115, 111, 56, 56, 53, 57, 45, 49] : List UInt8)) = true := beq_iff_eq.mpr c14
                      have c14b1 : (t113.toList != ([105, 115, 111, 56, 56, 53, 57, 45, 49] : List UInt8)) = false := bne_eq_false_iff_eq.mpr c14
                      clear c14
                      have H' := Aside0.mk H
                      clear H
                      go_wp2
                      go_meet
                      case rel => exact ⟨_, ((t113.toList == ([105, 115, 111, 56, 56, 53, 57, 45, 49] : List UInt8))), (by first | rfl | (simp; done) | (simp [*]; done)), H', ⟨by have := HJ2.out; first | omega | exact Nat.le_refl _⟩, ⟨by repeat (first | (with_reducible first | exact HB.out | apply below_alloc | apply pw_below_drewN | apply below_drew1) | exact HB.out)⟩⟩
                    · rw [if_neg c14] at H
                      have c14b0 : (t113.toList == ([105, 115, 111, 56, 56, 53, 57, 45, 49] : List UInt8)) = false := beq_eq_false_iff_ne.mpr c14
                      have c14b1 : (t113.toList != ([105, 115, 111, 56, 56, 53, 57, 45, 49] : List UInt8)) = true := bne_iff_ne.mpr c14
                      by_cases c15 : t113.toList = ([108, 97, 116, 105, 110, 49] : List UInt8)
                      · rw [if_pos c15] at H
                        have c15b0 : (t113.toList == ([108, 97, 116, 105, 110, 49] : List UInt8)) = true := beq_iff_eq.mpr c15
                        have c15b1 : (t113.toList != ([108, 97, 116, 105, 110, 49] : List UInt8)) = false := bne_eq_false_iff_eq.mpr c15
                        clear c15
                        have H' := Aside0.mk H
                        clear H
                        go_wp2
                        go_meet
                        case rel => exact ⟨_, ((t113.toList == ([108, 97, 116, 105, 110, 49] : List UInt8))), (by first | rfl | (simp; done) | (simp [*]; done)), H', ⟨by have := HJ2.out; first | omega | exact Nat.le_refl _⟩, ⟨by repeat (first | (with_reducible first | exact HB.out | apply below_alloc | apply pw_below_drewN | apply below_drew1) | exact HB.out)⟩⟩
                      · rw [if_neg c15] at H
                        have c15b0 : (t113.toList == ([108, 97, 116, 105, 110, 49] : List UInt8)) = false := beq_eq_false_iff_ne.mpr c15
                        have c15b1 : (t113.toList != ([108, 97, 116, 105, 110, 49] : List UInt8)) = true := bne_iff_ne.mpr c15
                        have H' := Aside0.mk H
                        clear H
                        go_wp2
                        go_meet
                        case rel => exact ⟨_, ((t113.toList == ([108, 49] : List UInt8))), (by first | rfl | (simp; done) | (simp [*]; done)), H', ⟨by have := HJ2.out; first | omega | exact Nat.le_refl _⟩, ⟨by repeat (first | (with_reducible first | exact HB.out | apply below_alloc | apply pw_below_drewN | apply below_drew1) | exact HB.out)⟩⟩
        case rest =>
          clear HC8
          try clear c1
          try clear c2
          try clear p2
          try clear c5
          try clear c5b0
          try clear c5b1
          try clear c6
          try clear c6b0
          try clear c6b1
          try clear c7
          try clear c9
          try clear c9b0
          try clear c9b1
          try clear c10
          try clear c10b0
          try clear c10b1
          try clear c11
          try clear c11b0
          try clear c11b1
          try clear c12
          try clear c12b0
          try clear c12b1
          try clear c13
          try clear c13b0
          try clear c13b1
          try clear c14
          try clear c14b0
          try clear c14b1
          try clear c15
          try clear c15b0
          try clear c15b1
          try clear p2
          obtain ⟨kq, x10_7, rfl, HA, HJ7, HB⟩ := hcut
          cases kq with
          | zero => exact absurd HA.out (by simp [muslinref04_Known.j1])
          | succ kj7 =>
            have H := HA.out
            clear HA
            simp only [muslinref04_Known.j1] at H
            by_cases c16 : x10_7 = true
            · subst c16
              have H1 : (some ((⟨#[119, 105, 110, 100, 111, 119, 115, 45, 49, 50, 53, 50]⟩ : ByteArray), true)) = some (r1, r2) := by rw [if_pos rfl] at H; exact H
              clear H
              have H := H1
              clear H1
              simp only [Option.some.injEq, Prod.mk.injEq] at H
              obtain ⟨rfl, rfl⟩ := H
              go_wp2
              go_ret2
              exact ⟨by first | rfl | (simp [errW_none, errW_some] <;> rfl) | (simp [*, errW_none, errW_some] <;> rfl), by repeat (first | (with_reducible first | exact HB.out | apply below_alloc | apply pw_below_drewN | apply below_drew1) | exact HB.out)⟩
            · replace c16 := Bool.eq_false_iff.mpr c16
              subst c16
              have H1 : (if t113.toList = ([117, 116, 102, 45, 49, 54, 108, 101] : List UInt8) then (muslinref04_Known.j2 kj7 t113 (t113.toList == ([117, 116, 102, 45, 49, 54, 108, 101] : List UInt8))) else (if t113.toList = ([117, 116, 102, 45, 49, 54] : List UInt8) then (muslinref04_Known.j2 kj7 t113 (t113.toList == ([117, 116, 102, 45, 49, 54] : List UInt8))) else (if t113.toList = ([117, 110, 105, 99, 111, 100, 101] : List UInt8) then (muslinref04_Known.j2 kj7 t113 (t113.toList == ([117, 110, 105, 99, 111, 100, 101] : List UInt8))) else (muslinref04_Known.j2 kj7 t113 (t113.toList == ([117, 99, 115, 45, 50] : List UInt8)))))) = some (r1, r2) := by rw [if_neg (show ¬ (false = true) by decide)] at H; exact H
              clear H
              have H := H1
              clear H1
              have HC17 := Aside0.mk H
              clear H
              go_upto_if 19 with (fail)
              go_cut [19] (fun v19 wc => ∃ (kq : Nat) (x19_16 : Bool), v19 = .bool x19_16 ∧ Aside0 (muslinref04_Known.j2 kq t113 x19_16 = some (r1, r2)) ∧ Aside0 (kq ≤ kj7) ∧ Aside0 (Below w.heap.size w wc))
              case first =>
                have H := HC17.out
                clear HC17
                by_cases c18 : t113.toList = ([117, 116, 102, 45, 49, 54, 108, 101] : List UInt8)
                · rw [if_pos c18] at H
                  have c18b0 : (t113.toList == ([117, 116, 102, 45, 49, 54, 108, 101] : List UInt8)) = true := beq_iff_eq.mpr c18
                  have c18b1 : (t113.toList != ([117, 116, 102, 45, 49, 54, 108, 101] : List UInt8)) = false := bne_eq_false_iff_eq.mpr c18
                  clear c18
                  (first | rw [c18b0] | (simp only [i64_w, i32_w]; rw [c18b0]) | skip)
                  have H' := Aside0.mk H
                  clear H
                  go_wp2
                  go_meet
                  case rel => exact ⟨_, ((t113.toList == ([117, 116, 102, 45, 49, 54, 108, 101] : List UInt8))), (by first | rfl | (simp; done) | (simp [*]; done)), H', ⟨by have := HJ2.out; have := HJ7.out; first | omega | exact Nat.le_refl _⟩, ⟨by repeat (first | (with_reducible first | exact HB.out | apply below_alloc | apply pw_below_drewN | apply below_drew1) | exact HB.out)⟩⟩
                · rw [if_neg c18] at H
                  have c18b0 : (t113.toList == ([117, 116, 102, 45, 49, 54, 108, 101] : List UInt8)) = false := beq_eq_false_iff_ne.mpr c18
                  have c18b1 : (t113.toList != ([117, 116, 102, 45, 49, 54, 108, 101] : List UInt8)) = true := bne_iff_ne.mpr c18
                  (first | rw [c18b0] | (simp only [i64_w, i32_w]; rw [c18b0]) | skip)
                  by_cases c19 : t113.toList = ([117, 116, 102, 45, 49, 54] : List UInt8)
                  · rw [if_pos c19] at H
                    have c19b0 : (t113.toList == ([117, 116, 102, 45, 49, 54] : List UInt8)) = true := beq_iff_eq.mpr c19
                    have c19b1 : (t113.toList != ([117, 116, 102, 45, 49, 54] : List UInt8)) = false := bne_eq_false_iff_eq.mpr c19
                    clear c19
                    have H' := Aside0.mk H
                    clear H
                    go_wp2
                    go_meet
                    case rel => exact ⟨_, ((t113.toList == ([117, 116, 102, 45, 49, 54] : List UInt8))), (by first | rfl | (simp; done) | (simp [*]; done)), H', ⟨by have := HJ2.out; have := HJ7.out; first | omega | exact Nat.le_refl _⟩, ⟨by repeat (first | (with_reducible first | exact HB.out | apply below_alloc | apply pw_below_drewN | apply below_drew1) | exact HB.out)⟩⟩
                  · rw [if_neg c19] at H
                    have c19b0 : (t113.toList == ([117, 116, 102, 45, 49, 54] : List UInt8)) = false := beq_eq_false_iff_ne.mpr c19
                    have c19b1 : (t113.toList != ([117, 116, 102, 45, 49, 54] : List UInt8)) = true := bne_iff_ne.mpr c19
                    by_cases c20 : t113.toList = ([117, 110, 105, 99, 111, 100, 101] : List UInt8)
                    · rw [if_pos c20] at H
                      have c20b0 : (t113.toList == ([117, 110, 105, 99, 111, 100, 101] : List UInt8)) = true := beq_iff_eq.mpr c20
                      have c20b1 : (t113.toList != ([117, 110, 105, 99, 111, 100, 101] : List UInt8)) = false := bne_eq_false_iff_eq.mpr c20
                      clear c20
                      have H' := Aside0.mk H
                      clear H
                      go_wp2
                      go_meet
                      case rel => exact ⟨_, ((t113.toList == ([117, 110, 105, 99, 111, 100, 101] : List UInt8))), (by first | rfl | (simp; done) | (simp [*]; done)), H', ⟨by have := HJ2.out; have := HJ7.out; first | omega | exact Nat.le_refl _⟩, ⟨by repeat (first | (with_reducible first | exact HB.out | apply below_alloc | apply pw_below_drewN | apply below_drew1) | exact HB.out)⟩⟩
                    · rw [if_neg c20] at H
                      have c20b0 : (t113.toList == ([117, 110, 105, 99, 111, 100, 101] : List UInt8)) = false := beq_eq_false_iff_ne.mpr c20
                      have c20b1 : (t113.toList != ([117, 110, 105, 99, 111, 100, 101] : List UInt8)) = true := bne_iff_ne.mpr c20
                      have H' := Aside0.mk H
                      clear H
                      go_wp2
                      go_meet
                      case rel => exact ⟨_, ((t113.toList == ([117, 99, 115, 45, 50] : List UInt8))), (by first | rfl | (simp; done) | (simp [*]; done)), H', ⟨by have := HJ2.out; have := HJ7.out; first | omega | exact Nat.le_refl _⟩, ⟨by repeat (first | (with_reducible first | exact HB.out | apply below_alloc | apply pw_below_drewN | apply below_drew1) | exact HB.out)⟩⟩
              case rest =>
                clear HC17
                try clear c1
                try clear c2
                try clear p2
                try clear c5
                try clear c5b0
                try clear c5b1
                try clear c6
                try clear c6b0
                try clear c6b1
                try clear c7
                try clear c9
                try clear c9b0
                try clear c9b1
                try clear c10
                try clear c10b0
                try clear c10b1
                try clear c11
                try clear c11b0
                try clear c11b1
                try clear c12
                try clear c12b0
                try clear c12b1
                try clear c13
                try clear c13b0
                try clear c13b1
                try clear c14
                try clear c14b0
                try clear c14b1
                try clear c15
                try clear c15b0
                try clear c15b1
                try clear c16
                try clear c18
                try clear c18b0
                try clear c18b1
                try clear c19
                try clear c19b0
                try clear c19b1
                try clear c20
                try clear c20b0
                try clear c20b1
                try clear p2
                obtain ⟨kq, x19_16, rfl, HA, HJ16, HB⟩ := hcut
                cases kq with
                | zero => exact absurd HA.out (by simp [muslinref04_Known.j2])
                | succ kj16 =>
                  have H := HA.out
                  clear HA
                  simp only [muslinref04_Known.j2] at H
                  by_cases c21 : x19_16 = true
                  · subst c21
                    have H1 : (some ((⟨#[117, 116, 102, 45, 49, 54, 108, 101]⟩ : ByteArray), true)) = some (r1, r2) := by rw [if_pos rfl] at H; exact H
                    clear H
                    have H := H1
                    clear H1
                    simp only [Option.some.injEq, Prod.mk.injEq] at H
                    obtain ⟨rfl, rfl⟩ := H
                    go_wp2
                    go_ret2
                    exact ⟨by first | rfl | (simp [errW_none, errW_some] <;> rfl) | (simp [*, errW_none, errW_some] <;> rfl), by repeat (first | (with_reducible first | exact HB.out | apply below_alloc | apply pw_below_drewN | apply below_drew1) | exact HB.out)⟩
                  · replace c21 := Bool.eq_false_iff.mpr c21
                    subst c21
                    have H1 : (if t113.toList = ([117, 116, 102, 45, 49, 54, 98, 101] : List UInt8) then (some ((⟨#[117, 116, 102, 45, 49, 54, 98, 101]⟩ : ByteArray), true)) else (if t113.toList = ([117, 110, 105, 99, 111, 100, 101, 102, 102, 102, 101] : List UInt8) then (some ((⟨#[117, 116, 102, 45, 49, 54, 98, 101]⟩ : ByteArray), true)) else (some ((⟨#[]⟩ : ByteArray), false)))) = some (r1, r2) := by rw [if_neg (show ¬ (false = true) by decide)] at H; exact H
                    clear H
                    have H := H1
                    clear H1
                    by_cases c22 : t113.toList = ([117, 116, 102, 45, 49, 54, 98, 101] : List UInt8)
                    · rw [if_pos c22] at H
                      have c22b0 : (t113.toList == ([117, 116, 102, 45, 49, 54, 98, 101] : List UInt8)) = true := beq_iff_eq.mpr c22
                      have c22b1 : (t113.toList != ([117, 116, 102, 45, 49, 54, 98, 101] : List UInt8)) = false := bne_eq_false_iff_eq.mpr c22
                      clear c22
                      simp only [Option.some.injEq, Prod.mk.injEq] at H
                      obtain ⟨rfl, rfl⟩ := H
                      go_wp2
                      go_ret2
                      exact ⟨by first | rfl | (simp [errW_none, errW_some] <;> rfl) | (simp [*, errW_none, errW_some] <;> rfl), by repeat (first | (with_reducible first | exact HB.out | apply below_alloc | apply pw_below_drewN | apply below_drew1) | exact HB.out)⟩
                    · rw [if_neg c22] at H
                      have c22b0 : (t113.toList == ([117, 116, 102, 45, 49, 54, 98, 101] : List UInt8)) = false := beq_eq_false_iff_ne.mpr c22
                      have c22b1 : (t113.toList != ([117, 116, 102, 45, 49, 54, 98, 101] : List UInt8)) = true := bne_iff_ne.mpr c22
                      by_cases c23 : t113.toList = ([117, 110, 105, 99, 111, 100, 101, 102, 102, 102, 101] : List UInt8)
                      · rw [if_pos c23] at H
                        have c23b0 : (t113.toList == ([117, 110, 105, 99, 111, 100, 101, 102, 102, 102, 101] : List UInt8)) = true := beq_iff_eq.mpr c23
                        have c23b1 : (t113.toList != ([117, 110, 105, 99, 111, 100, 101, 102, 102, 102, 101] : List UInt8)) = false := bne_eq_false_iff_eq.mpr c23
                        clear c23
                        simp only [Option.some.injEq, Prod.mk.injEq] at H
                        obtain ⟨rfl, rfl⟩ := H
                        go_wp2
                        go_ret2
                        exact ⟨by first | rfl | (simp [errW_none, errW_some] <;> rfl) | (simp [*, errW_none, errW_some] <;> rfl), by repeat (first | (with_reducible first | exact HB.out | apply below_alloc | apply pw_below_drewN | apply below_drew1) | exact HB.out)⟩
                      · rw [if_neg c23] at H
                        have c23b0 : (t113.toList == ([117, 110, 105, 99, 111, 100, 101, 102, 102, 102, 101] : List UInt8)) = false := beq_eq_false_iff_ne.mpr c23
                        have c23b1 : (t113.toList != ([117, 110, 105, 99, 111, 100, 101, 102, 102, 102, 101] : List UInt8)) = true := bne_iff_ne.mpr c23
                        simp only [Option.some.injEq, Prod.mk.injEq] at H
                        obtain ⟨rfl, rfl⟩ := H
                        go_wp2
                        go_ret2
                        exact ⟨by first | rfl | (simp [errW_none, errW_some] <;> rfl) | (simp [*, errW_none, errW_some] <;> rfl), by repeat (first | (with_reducible first | exact HB.out | apply below_alloc | apply pw_below_drewN | apply below_drew1) | exact HB.out)⟩
end Go.Proofs.YtokkgjiofhhlkaaDoor.C
