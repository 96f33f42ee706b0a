/- Parts of the proof of the law WordDecodes, in one text: P3. -/
import Derived.Test.YtokkgjiofhhlkaaDoorMgWordDecodes11
set_option linter.unusedVariables false
set_option linter.unusedSimpArgs false
namespace Go.Proofs.YtokkgjiofhhlkaaDoor.P
open Go.RowKit Go.Proofs.YtokkgjiofhhlkaaDoorW.PrintWords Go.Proofs.YtokkgjiofhhlkaaDoorW.PrintLast Go.Proofs.YtokkgjiofhhlkaaDoorW.PrintMore
attribute [local go_sem] max2_int min2_int max_two min_two max_three min_three max_four min_four
set_option linter.unusedVariables false
set_option linter.unusedSimpArgs false
mutual
def muslinref05_One.j0 : Nat → ByteArray → Bool → Option (ByteArray × Int)
  | 0, _, _ => none
  | k + 1, x0, x21 => if x21 = true then (some ((⟨#[]⟩ : ByteArray), 0)) else ((muslinref05_until.f k x0 2).bind fun t126 => (if t126 < 3 then (muslinref05_One.j1 k x0 t126 true) else (muslinref05_One.j1 k x0 t126 (decide (t126 > 42)))))
def muslinref05_One.j1 : Nat → ByteArray → Int → Bool → Option (ByteArray × Int)
  | 0, _, _, _ => none
  | k + 1, x0, x4, x29 => if x29 = true then (some ((⟨#[]⟩ : ByteArray), 0)) else (if 2 ≤ x4 then (if x4 ≤ (x0.size : Int) then (muslinref05_One.l0 k x0 x4 (x0.extract 2 (x4 : Int).toNat) 0) else (none)) else (none))
def muslinref05_One.l0 : Nat → ByteArray → Int → ByteArray → Int → Option (ByteArray × Int)
  | 0, _, _, _, _ => none
  | k + 1, x0, x4, x5, x6 => if x6 < (x5.size : Int) then (if 0 ≤ x6 then (if (bt x5 x6) = 42 then (if x6 ≤ (x5.size : Int) then (muslinref05_One.l0 k x0 x4 (x5.extract 0 (x6 : Int).toNat) (wrap64 (x6 + 1))) else (none)) else (muslinref05_One.l0 k x0 x4 x5 (wrap64 (x6 + 1)))) else (none)) else ((muslinref04_Known.f x5).bind fun bt127 => ((muslinref05_until.f k x0 (wrap64 (x4 + 1))).bind fun t129 => (if bt127.2 = true then (muslinref05_One.j3 k x0 x4 x5 t129 (t129 != (wrap64 (x4 + 2)))) else (muslinref05_One.j3 k x0 x4 x5 t129 true))))
def muslinref05_One.j3 : Nat → ByteArray → Int → ByteArray → Int → Bool → Option (ByteArray × Int)
  | 0, _, _, _, _, _ => none
  | k + 1, x0, x4, x5, x9, x62 => if x62 = true then (some ((⟨#[]⟩ : ByteArray), 0)) else ((muslinref05_until.f k x0 (wrap64 (x9 + 1))).bind fun t130 => (if t130 < 0 then (muslinref05_One.j4 k x0 x4 x5 x9 t130 true) else (if (wrap64 (t130 + 1)) ≥ (x0.size : Int) then (muslinref05_One.j4 k x0 x4 x5 x9 t130 true) else (if 0 ≤ (wrap64 (t130 + 1)) then (if (wrap64 (t130 + 1)) < (x0.size : Int) then (muslinref05_One.j4 k x0 x4 x5 x9 t130 ((bt x0 (wrap64 (t130 + 1))) != 61)) else (none)) else (none)))))
def muslinref05_One.j4 : Nat → ByteArray → Int → ByteArray → Int → Int → Bool → Option (ByteArray × Int)
  | 0, _, _, _, _, _, _ => none
  | k + 1, x0, x4, x5, x9, x10, x82 => if x82 = true then (some ((⟨#[]⟩ : ByteArray), 0)) else (if 0 ≤ (wrap64 (x4 + 1)) then (if (wrap64 (x4 + 1)) < (x0.size : Int) then (if (bt x0 (wrap64 (x4 + 1))) = 66 then (muslinref05_One.j5 k x0 x5 x9 x10 (bt x0 (wrap64 (x4 + 1))) ((bt x0 (wrap64 (x4 + 1))) == 66)) else (muslinref05_One.j5 k x0 x5 x9 x10 (bt x0 (wrap64 (x4 + 1))) ((bt x0 (wrap64 (x4 + 1))) == 98))) else (none)) else (none))
def muslinref05_One.j5 : Nat → ByteArray → ByteArray → Int → Int → Int → Bool → Option (ByteArray × Int)
  | 0, _, _, _, _, _, _ => none
  | k + 1, x0, x5, x9, x10, x86, x87 => if x87 = true then (if 0 ≤ (wrap64 (x9 + 1)) then (if (wrap64 (x9 + 1)) ≤ x10 then (if x10 ≤ (x0.size : Int) then ((muslinref01_Decode.f k (x0.extract ((wrap64 (x9 + 1)) : Int).toNat (x10 : Int).toNat)).bind fun t131 => ((muslinref04_Decode.f x5 t131).bind fun bt132 => (some (bt132.1, wrap64 (x10 + 2))))) else (none)) else (none)) else (none)) else (if x86 = 81 then (muslinref05_One.j6 k x0 x5 x9 x10 (x86 == 81)) else (muslinref05_One.j6 k x0 x5 x9 x10 (x86 == 113)))
def muslinref05_One.j6 : Nat → ByteArray → ByteArray → Int → Int → Bool → Option (ByteArray × Int)
  | 0, _, _, _, _, _ => none
  | k + 1, x0, x5, x9, x10, x96 => if x96 = true then (if 0 ≤ (wrap64 (x9 + 1)) then (if (wrap64 (x9 + 1)) ≤ x10 then (if x10 ≤ (x0.size : Int) then ((muslinref05_quoted.f k (x0.extract ((wrap64 (x9 + 1)) : Int).toNat (x10 : Int).toNat)).bind fun t134 => ((muslinref04_Decode.f x5 t134).bind fun bt135 => (some (bt135.1, wrap64 (x10 + 2))))) else (none)) else (none)) else (none)) else (some ((⟨#[]⟩ : ByteArray), 0))
end
def muslinref05_One.f (k : Nat) (a0 : ByteArray) : Option (ByteArray × Int) := if (a0.size : Int) < 2 then (muslinref05_One.j0 k a0 true) else (if 0 ≤ 2 then (if 2 ≤ (a0.size : Int) then (muslinref05_One.j0 k a0 ((a0.extract 0 2).toList != ([61, 63] : List UInt8))) else (none)) else (none))
set_option maxHeartbeats 8000000 in
set_option maxRecDepth 100000 in
theorem muslinref05_One.calls (k : Nat) (a0 : ByteArray) (r1 : ByteArray) (r2 : Int) (w : World) (h : muslinref05_One.f k a0 = some (r1, r2)) :
    Calls Tryd.prog 12 #[.string a0] w fun e w' => e = .returned (.tuple #[.string r1, .int .i64 r2]) ∧ Below w.heap.size w w' := by
  have HB := Aside0.mk (Below.refl w.heap.size w)
  have H : (if (a0.size : Int) < 2 then (muslinref05_One.j0 k a0 true) else (if 0 ≤ 2 then (if 2 ≤ (a0.size : Int) then (muslinref05_One.j0 k a0 ((a0.extract 0 2).toList != ([61, 63] : List UInt8))) else (none)) else (none))) = some (r1, r2) := h
  clear h
  have HC2 := Aside0.mk H
  clear H
  go_enter Tryd.func12, Tryd.ntmps12
  go_upto_region 1 with (fail)
  go_cut [21] (fun v21 wc => ∃ (kq : Nat) (x21_1 : Bool), v21 = .bool x21_1 ∧ Aside0 (muslinref05_One.j0 kq a0 x21_1 = some (r1, r2)) ∧ Aside0 (kq ≤ k) ∧ Aside0 (Below w.heap.size w wc))
  case first =>
    have H := HC2.out
    clear HC2
    by_cases c3 : (a0.size : Int) < 2
    · rw [if_pos c3] at H
      have c3b0 : decide ((a0.size : Int) < 2) = true := decide_eq_true c3
      have c3b1 : decide (a0.size < 2) = true := decide_eq_true (by omega)
      clear c3
      (first | rw [c3b0] | (simp only [i64_w, i32_w]; rw [c3b0]) | skip)
      have H' := Aside0.mk H
      clear H
      go_wp2
      go_meet
      case rel => exact ⟨_, (true), (by first | rfl | (simp; done) | (simp [*]; done)), H', ⟨by first | omega | exact Nat.le_refl _⟩, ⟨by repeat (first | (with_reducible first | exact HB.out | apply below_alloc | apply pw_below_drewN | apply below_drew1) | exact HB.out)⟩⟩
    · rw [if_neg c3] at H
      have c3b0 : decide ((a0.size : Int) < 2) = false := decide_eq_false c3
      have c3b1 : decide (a0.size < 2) = false := decide_eq_false (by omega)
      clear c3
      (first | rw [c3b0] | (simp only [i64_w, i32_w]; rw [c3b0]) | skip)
      by_cases c4 : 0 ≤ 2
      · rw [if_pos c4] at H
        have c4b0 := eq_true c4
        have c4b1 : decide (0 ≤ 2) = true := decide_eq_true c4
        clear c4
        by_cases c5 : 2 ≤ (a0.size : Int)
        · rw [if_pos c5] at H
          have c5b0 := eq_true c5
          have c5b1 : decide (2 ≤ (a0.size : Int)) = true := decide_eq_true c5
          clear c5
          have H' := Aside0.mk H
          clear H
          go_wp2
          go_meet
          case rel => exact ⟨_, (((a0.extract 0 2).toList != ([61, 63] : List UInt8))), (by first | rfl | (simp; done) | (simp [*]; done)), H', ⟨by first | omega | exact Nat.le_refl _⟩, ⟨by repeat (first | (with_reducible first | exact HB.out | apply below_alloc | apply pw_below_drewN | apply below_drew1) | exact HB.out)⟩⟩
        · rw [if_neg c5] at H
          exact absurd H (by simp)
      · rw [if_neg c4] at H
        exact absurd H (by simp)
  case rest =>
    clear HC2
    try clear c1
    try clear p2
    try clear c3
    try clear c3b0
    try clear c3b1
    try clear c4
    try clear c4b0
    try clear c4b1
    try clear c5
    try clear c5b0
    try clear c5b1
    obtain ⟨kq, x21_1, rfl, HA, HJ1, HB⟩ := hcut
    cases kq with
    | zero => exact absurd HA.out (by simp [muslinref05_One.j0])
    | succ kj1 =>
      have H := HA.out
      clear HA
      simp only [muslinref05_One.j0] at H
      by_cases c6 : x21_1 = true
      · subst c6
        have H1 : (some ((⟨#[]⟩ : ByteArray), 0)) = some (r1, r2) := by rw [if_pos rfl] at H; exact H
        clear H
        have H := H1
        clear H1
        simp only [Option.some.injEq, Prod.mk.injEq] at H
        obtain ⟨rfl, rfl⟩ := H
        go_wp2
        go_ret2
        exact ⟨by first | rfl | (simp [errW_none, errW_some] <;> rfl) | (simp [*, errW_none, errW_some] <;> rfl), by repeat (first | (with_reducible first | exact HB.out | apply below_alloc | apply pw_below_drewN | apply below_drew1) | exact HB.out)⟩
      · replace c6 := Bool.eq_false_iff.mpr c6
        subst c6
        have H1 : ((muslinref05_until.f kj1 a0 2).bind fun t126 => (if t126 < 3 then (muslinref05_One.j1 kj1 a0 t126 true) else (muslinref05_One.j1 kj1 a0 t126 (decide (t126 > 42))))) = some (r1, r2) := by rw [if_neg (show ¬ (false = true) by decide)] at H; exact H
        clear H
        have H := H1
        clear H1
        replace H := Option.bind_eq_some_iff.mp H
        obtain ⟨t126, A70, H⟩ := H
        replace H : (if t126 < 3 then (muslinref05_One.j1 kj1 a0 t126 true) else (muslinref05_One.j1 kj1 a0 t126 (decide (t126 > 42)))) = some (r1, r2) := H
        have A7 := Aside0.mk A70
        clear A70
        have HC8 := Aside0.mk H
        clear H
        go_upto_region 4 with (first | ((with_reducible refine gate_callee (f := 26) rfl ?_); refine goesL_ (some 23) rfl rfl Tryd.func26 (by kernel_rfl) rfl #[.string a0, .int .i64 2] rfl (by (try simp only [List.map_toArray, List.map_cons, List.map_nil]); first | done | rfl | (simp only [List.length_drop, List.length_take]; rfl)) ?_; (with_reducible refine (muslinref05_until.calls kj1 a0 2 t126 _ A7.out).mono ?_); rintro e w' ⟨rfl, ⟨nd, rfl⟩⟩; refine ⟨_, rfl, ?_⟩))
        (try simp only [Act.put, List.setIfInBounds_toArray, List.set_cons_zero, List.set_cons_succ])
        go_cut [29] (fun v29 wc => ∃ (kq : Nat) (x29_7 : Bool), v29 = .bool x29_7 ∧ Aside0 (muslinref05_One.j1 kq a0 t126 x29_7 = some (r1, r2)) ∧ Aside0 (kq ≤ kj1) ∧ Aside0 (Below w.heap.size w wc))
        case first =>
          have H := HC8.out
          clear HC8
          by_cases c9 : t126 < 3
          · rw [if_pos c9] at H
            have c9b0 : decide (t126 < 3) = true := decide_eq_true c9
            clear c9
            (first | rw [c9b0] | (simp only [i64_w, i32_w]; rw [c9b0]) | skip)
            have H' := Aside0.mk H
            clear H
            go_wp2
            go_meet
            case rel => exact ⟨_, (true), (by first | rfl | (simp; done) | (simp [*]; done)), H', ⟨by have := HJ1.out; first | omega | exact Nat.le_refl _⟩, ⟨by repeat (first | (with_reducible first | exact HB.out | apply below_alloc | apply pw_below_drewN | apply below_drew1) | exact HB.out)⟩⟩
          · rw [if_neg c9] at H
            have c9b0 : decide (t126 < 3) = false := decide_eq_false c9
            clear c9
            (first | rw [c9b0] | (simp only [i64_w, i32_w]; rw [c9b0]) | skip)
            have H' := Aside0.mk H
            clear H
            go_wp2
            go_meet
            case rel => exact ⟨_, (decide (t126 > 42)), (by first | rfl | (simp; done) | (simp [*]; done)), H', ⟨by have := HJ1.out; first | omega | exact Nat.le_refl _⟩, ⟨by repeat (first | (with_reducible first | exact HB.out | apply below_alloc | apply pw_below_drewN | apply below_drew1) | exact HB.out)⟩⟩
        case rest =>
          clear HC8
          try clear c1
          try clear c2
          try clear p2
          try clear c3
          try clear c3b0
          try clear c3b1
          try clear c4
          try clear c4b0
          try clear c4b1
          try clear c5
          try clear c5b0
          try clear c5b1
          try clear c6
          try clear c9
          try clear c9b0
          try clear p2
          obtain ⟨kq, x29_7, rfl, HA, HJ7, HB⟩ := hcut
          cases kq with
          | zero => exact absurd HA.out (by simp [muslinref05_One.j1])
          | succ kj7 =>
            have H := HA.out
            clear HA
            simp only [muslinref05_One.j1] at H
            by_cases c10 : x29_7 = true
            · subst c10
              have H1 : (some ((⟨#[]⟩ : ByteArray), 0)) = some (r1, r2) := by rw [if_pos rfl] at H; exact H
              clear H
              have H := H1
              clear H1
              simp only [Option.some.injEq, Prod.mk.injEq] at H
              obtain ⟨rfl, rfl⟩ := H
              go_wp2
              go_ret2
              exact ⟨by first | rfl | (simp [errW_none, errW_some] <;> rfl) | (simp [*, errW_none, errW_some] <;> rfl), by repeat (first | (with_reducible first | exact HB.out | apply below_alloc | apply pw_below_drewN | apply below_drew1) | exact HB.out)⟩
            · replace c10 := Bool.eq_false_iff.mpr c10
              subst c10
              have H1 : (if 2 ≤ t126 then (if t126 ≤ (a0.size : Int) then (muslinref05_One.l0 kj7 a0 t126 (a0.extract 2 (t126 : Int).toNat) 0) else (none)) else (none)) = some (r1, r2) := by rw [if_neg (show ¬ (false = true) by decide)] at H; exact H
              clear H
              have H := H1
              clear H1
              by_cases c11 : 2 ≤ t126
              · rw [if_pos c11] at H
                have c11b0 := eq_true c11
                have c11b1 : decide (2 ≤ t126) = true := decide_eq_true c11
                clear c11
                by_cases c12 : t126 ≤ (a0.size : Int)
                · rw [if_pos c12] at H
                  have c12b0 := eq_true c12
                  have c12b1 : decide (t126 ≤ (a0.size : Int)) = true := decide_eq_true c12
                  clear c12
                  have H' := Aside0.mk H
                  clear H
                  go_wp2
                  go_loopg [5, 6] kj7 (fun kq v5 v6 w' => ∃ (x5_3 : ByteArray) (x6_3 : Int), v5 = .string x5_3 ∧ v6 = .int .i64 x6_3 ∧ Aside0 (muslinref05_One.l0 kq a0 t126 x5_3 x6_3 = some (r1, r2)) ∧ Aside0 (kq ≤ kj7) ∧ Aside0 (Below w.heap.size w w'))
                  case atStart => exact ⟨(a0.extract 2 (t126 : Int).toNat), (0), (by first | rfl | (simp; done) | (simp [*]; done)), (by first | rfl | (simp; done) | (simp [*]; done)), H', ⟨Nat.le_refl _⟩, ⟨by repeat (first | (with_reducible first | exact HB.out | apply below_alloc | apply pw_below_drewN | apply below_drew1) | exact HB.out)⟩⟩
                  case round =>
                    clear H'
                    try clear c1
                    try clear c2
                    try clear p2
                    try clear c3
                    try clear c3b0
                    try clear c3b1
                    try clear c4
                    try clear c4b0
                    try clear c4b1
                    try clear c5
                    try clear c5b0
                    try clear c5b1
                    try clear c6
                    try clear c9
                    try clear c9b0
                    try clear c10
                    try clear c11
                    try clear c11b0
                    try clear c11b1
                    try clear c12
                    try clear c12b0
                    try clear c12b1
                    try clear p2
                    obtain ⟨x5_3, x6_3, rfl, rfl, HA, HK3, HB⟩ := hrel
                    cases gk with
                    | zero => exact absurd HA.out (by simp [muslinref05_One.l0])
                    | succ k3 =>
                      have H := HA.out
                      clear HA
                      simp only [muslinref05_One.l0] at H
                      by_cases c13 : x6_3 < (x5_3.size : Int)
                      · rw [if_pos c13] at H
                        have c13b0 : decide (x6_3 < (x5_3.size : Int)) = true := decide_eq_true c13
                        clear c13
                        by_cases c14 : 0 ≤ x6_3
                        · rw [if_pos c14] at H
                          have c14b0 : decide (0 ≤ x6_3) = true := decide_eq_true c14
                          clear c14
                          by_cases c16 : (bt x5_3 x6_3) = 42
                          · rw [if_pos c16] at H
                            have c16b0 : ((bt x5_3 x6_3) == 42) = true := beq_iff_eq.mpr c16
                            have c16b1 : ((bt x5_3 x6_3) != 42) = false := bne_eq_false_iff_eq.mpr c16
                            clear c16
                            have c17b0 := eq_true (of_decide_eq_true (by first | (with_reducible assumption) | assumption) : 0 ≤ x6_3)
                            by_cases c18 : x6_3 ≤ (x5_3.size : Int)
                            · rw [if_pos c18] at H
                              have c18b0 := eq_true c18
                              have c18b1 : decide (x6_3 ≤ (x5_3.size : Int)) = true := decide_eq_true c18
                              clear c18
                              have H' := Aside0.mk H
                              clear H
                              have p15 : 0 ≤ (x6_3 : Int) := of_decide_eq_true (by first | (with_reducible assumption) | assumption)
                              have q15 : x6_3 < (x5_3.size : Int) := of_decide_eq_true (by first | (with_reducible assumption) | assumption)
                              have hx15 := bt_at x5_3 x6_3
                              replace p15 := eq_true p15
                              replace q15 := eq_true q15
                              go_wp2
                              go_roundg k3
                              case measure => have := HJ1.out; have := HJ7.out; have := HK3.out; omega
                              case rel => exact ⟨(x5_3.extract 0 (x6_3 : Int).toNat), (wrap64 (x6_3 + 1)), (by first | rfl | (simp; done) | (simp [*]; done)), (by first | rfl | (simp; done) | (simp [*]; done)), H', ⟨by have := HJ1.out; have := HJ7.out; have := HK3.out; omega⟩, ⟨by repeat (first | (with_reducible first | exact HB.out | apply below_alloc | apply pw_below_drewN | apply below_drew1) | exact HB.out)⟩⟩
                            · rw [if_neg c18] at H
                              exact absurd H (by simp)
                          · rw [if_neg c16] at H
                            have c16b0 : ((bt x5_3 x6_3) == 42) = false := beq_eq_false_iff_ne.mpr c16
                            have c16b1 : ((bt x5_3 x6_3) != 42) = true := bne_iff_ne.mpr c16
                            have H' := Aside0.mk H
                            clear H
                            have p15 : 0 ≤ (x6_3 : Int) := of_decide_eq_true (by first | (with_reducible assumption) | assumption)
                            have q15 : x6_3 < (x5_3.size : Int) := of_decide_eq_true (by first | (with_reducible assumption) | assumption)
                            have hx15 := bt_at x5_3 x6_3
                            replace p15 := eq_true p15
                            replace q15 := eq_true q15
                            go_wp2
                            go_roundg k3
                            case measure => have := HJ1.out; have := HJ7.out; have := HK3.out; omega
                            case rel => exact ⟨(x5_3), (wrap64 (x6_3 + 1)), (by first | rfl | (simp; done) | (simp [*]; done)), (by first | rfl | (simp; done) | (simp [*]; done)), H', ⟨by have := HJ1.out; have := HJ7.out; have := HK3.out; omega⟩, ⟨by repeat (first | (with_reducible first | exact HB.out | apply below_alloc | apply pw_below_drewN | apply below_drew1) | exact HB.out)⟩⟩
                        · rw [if_neg c14] at H
                          exact absurd H (by simp)
                      · rw [if_neg c13] at H
                        have c13b0 : decide (x6_3 < (x5_3.size : Int)) = false := decide_eq_false c13
                        clear c13
                        replace H := Option.bind_eq_some_iff.mp H
                        obtain ⟨⟨t127, t128⟩, A190, H⟩ := H
                        replace H : ((muslinref05_until.f k3 a0 (wrap64 (t126 + 1))).bind fun t129 => (if t128 = true then (muslinref05_One.j3 k3 a0 t126 x5_3 t129 (t129 != (wrap64 (t126 + 2)))) else (muslinref05_One.j3 k3 a0 t126 x5_3 t129 true))) = some (r1, r2) := H
                        have A19 := Aside0.mk A190
                        clear A190
                        replace H := Option.bind_eq_some_iff.mp H
                        obtain ⟨t129, A200, H⟩ := H
                        replace H : (if t128 = true then (muslinref05_One.j3 k3 a0 t126 x5_3 t129 (t129 != (wrap64 (t126 + 2)))) else (muslinref05_One.j3 k3 a0 t126 x5_3 t129 true)) = some (r1, r2) := H
                        have A20 := Aside0.mk A200
                        clear A200
                        have HC21 := Aside0.mk H
                        clear H
                        go_upto_region 14 with (first | ((with_reducible refine gate_callee (f := 27) rfl ?_); refine goesL_ (some 48) rfl rfl Tryd.func27 (by kernel_rfl) rfl #[.string x5_3] rfl (by (try simp only [List.map_toArray, List.map_cons, List.map_nil]); first | done | rfl | (simp only [List.length_drop, List.length_take]; rfl)) ?_; (with_reducible refine (muslinref04_Known.calls x5_3 t127 t128 _ A19.out).mono ?_); rintro e w22 ⟨rfl, hb⟩; refine ⟨_, rfl, ?_⟩; have n0_ := Aside0.mk (below_step (by repeat (first | (with_reducible first | exact HB.out | apply below_alloc | apply pw_below_drewN | apply below_drew1) | exact HB.out)) hb); clear HB; have HB := n0_; clear n0_; (try clear hb); (try clear hb2); (try clear hk); (try clear hi)) | ((with_reducible refine gate_callee (f := 26) rfl ?_); refine goesL_ (some 54) rfl rfl Tryd.func26 (by kernel_rfl) rfl #[.string a0, .int .i64 (wrap64 (t126 + 1))] rfl (by (try simp only [List.map_toArray, List.map_cons, List.map_nil]); first | done | rfl | (simp only [List.length_drop, List.length_take]; rfl)) ?_; (with_reducible refine (muslinref05_until.calls k3 a0 (wrap64 (t126 + 1)) t129 _ A20.out).mono ?_); rintro e w' ⟨rfl, ⟨nd, rfl⟩⟩; refine ⟨_, rfl, ?_⟩))
                        (try simp only [Act.put, List.setIfInBounds_toArray, List.set_cons_zero, List.set_cons_succ])
                        go_cut [62] (fun v62 wc => ∃ (kq : Nat) (x62_20 : Bool), v62 = .bool x62_20 ∧ Aside0 (muslinref05_One.j3 kq a0 t126 x5_3 t129 x62_20 = some (r1, r2)) ∧ Aside0 (kq ≤ k3) ∧ Aside0 (Below w.heap.size w wc))
                        case first =>
                          have H := HC21.out
                          clear HC21
                          by_cases c23 : t128 = true
                          · subst c23
                            have H1 : (muslinref05_One.j3 k3 a0 t126 x5_3 t129 (t129 != (wrap64 (t126 + 2)))) = some (r1, r2) := by rw [if_pos rfl] at H; exact H
                            clear H
                            have H := H1
                            clear H1
                            have H' := Aside0.mk H
                            clear H
                            go_wp2
                            go_meet
                            case rel => exact ⟨_, ((t129 != (wrap64 (t126 + 2)))), (by first | rfl | (simp; done) | (simp [*]; done)), H', ⟨by have := HJ1.out; have := HJ7.out; have := HK3.out; first | omega | exact Nat.le_refl _⟩, ⟨by repeat (first | (with_reducible first | exact HB.out | apply below_alloc | apply pw_below_drewN | apply below_drew1) | exact HB.out)⟩⟩
                          · replace c23 := Bool.eq_false_iff.mpr c23
                            subst c23
                            have H1 : (muslinref05_One.j3 k3 a0 t126 x5_3 t129 true) = some (r1, r2) := by rw [if_neg (show ¬ (false = true) by decide)] at H; exact H
                            clear H
                            have H := H1
                            clear H1
                            have H' := Aside0.mk H
                            clear H
                            go_wp2
                            go_meet
                            case rel => exact ⟨_, (true), (by first | rfl | (simp; done) | (simp [*]; done)), H', ⟨by have := HJ1.out; have := HJ7.out; have := HK3.out; first | omega | exact Nat.le_refl _⟩, ⟨by repeat (first | (with_reducible first | exact HB.out | apply below_alloc | apply pw_below_drewN | apply below_drew1) | exact HB.out)⟩⟩
                        case rest =>
                          clear HC21
                          try clear c1
                          try clear p1
                          try clear q1
                          try clear hx1
                          try clear c2
                          try clear p2
                          try clear c3
                          try clear c3b0
                          try clear c3b1
                          try clear c4
                          try clear c4b0
                          try clear c4b1
                          try clear c5
                          try clear c5b0
                          try clear c5b1
                          try clear c6
                          try clear p6
                          try clear c9
                          try clear c9b0
                          try clear c10
                          try clear c11
                          try clear c11b0
                          try clear c11b1
                          try clear c12
                          try clear c12b0
                          try clear c12b1
                          try clear c13
                          try clear c13b0
                          try clear c14
                          try clear c14b0
                          try clear p15
                          try clear q15
                          try clear hx15
                          try clear c16
                          try clear c16b0
                          try clear c16b1
                          try clear c17
                          try clear c17b0
                          try clear c18
                          try clear c18b0
                          try clear c18b1
                          try clear c23
                          try clear p15
                          try clear p2
                          try clear q15
                          obtain ⟨kq, x62_20, rfl, HA, HJ20, HB⟩ := hcut
                          cases kq with
                          | zero => exact absurd HA.out (by simp [muslinref05_One.j3])
                          | succ kj20 =>
                            have H := HA.out
                            clear HA
                            simp only [muslinref05_One.j3] at H
                            by_cases c24 : x62_20 = true
                            · subst c24
                              have H1 : (some ((⟨#[]⟩ : ByteArray), 0)) = some (r1, r2) := by rw [if_pos rfl] at H; exact H
                              clear H
                              have H := H1
                              clear H1
                              simp only [Option.some.injEq, Prod.mk.injEq] at H
                              obtain ⟨rfl, rfl⟩ := H
                              go_wp2
                              go_ret2
                              exact ⟨by first | rfl | (simp [errW_none, errW_some] <;> rfl) | (simp [*, errW_none, errW_some] <;> rfl), by repeat (first | (with_reducible first | exact HB.out | apply below_alloc | apply pw_below_drewN | apply below_drew1) | exact HB.out)⟩
                            · replace c24 := Bool.eq_false_iff.mpr c24
                              subst c24
                              have H1 : ((muslinref05_until.f kj20 a0 (wrap64 (t129 + 1))).bind fun t130 => (if t130 < 0 then (muslinref05_One.j4 kj20 a0 t126 x5_3 t129 t130 true) else (if (wrap64 (t130 + 1)) ≥ (a0.size : Int) then (muslinref05_One.j4 kj20 a0 t126 x5_3 t129 t130 true) else (if 0 ≤ (wrap64 (t130 + 1)) then (if (wrap64 (t130 + 1)) < (a0.size : Int) then (muslinref05_One.j4 kj20 a0 t126 x5_3 t129 t130 ((bt a0 (wrap64 (t130 + 1))) != 61)) else (none)) else (none))))) = some (r1, r2) := by rw [if_neg (show ¬ (false = true) by decide)] at H; exact H
                              clear H
                              have H := H1
                              clear H1
                              replace H := Option.bind_eq_some_iff.mp H
                              obtain ⟨t130, A250, H⟩ := H
                              replace H : (if t130 < 0 then (muslinref05_One.j4 kj20 a0 t126 x5_3 t129 t130 true) else (if (wrap64 (t130 + 1)) ≥ (a0.size : Int) then (muslinref05_One.j4 kj20 a0 t126 x5_3 t129 t130 true) else (if 0 ≤ (wrap64 (t130 + 1)) then (if (wrap64 (t130 + 1)) < (a0.size : Int) then (muslinref05_One.j4 kj20 a0 t126 x5_3 t129 t130 ((bt a0 (wrap64 (t130 + 1))) != 61)) else (none)) else (none)))) = some (r1, r2) := H
                              have A25 := Aside0.mk A250
                              clear A250
                              have HC26 := Aside0.mk H
                              clear H
                              go_upto_region 17 with (first | ((with_reducible refine gate_callee (f := 26) rfl ?_); refine goesL_ (some 66) rfl rfl Tryd.func26 (by kernel_rfl) rfl #[.string a0, .int .i64 (wrap64 (t129 + 1))] rfl (by (try simp only [List.map_toArray, List.map_cons, List.map_nil]); first | done | rfl | (simp only [List.length_drop, List.length_take]; rfl)) ?_; (with_reducible refine (muslinref05_until.calls kj20 a0 (wrap64 (t129 + 1)) t130 _ A25.out).mono ?_); rintro e w' ⟨rfl, ⟨nd, rfl⟩⟩; refine ⟨_, rfl, ?_⟩))
                              (try simp only [Act.put, List.setIfInBounds_toArray, List.set_cons_zero, List.set_cons_succ])
                              go_cut [82] (fun v82 wc => ∃ (kq : Nat) (x82_25 : Bool), v82 = .bool x82_25 ∧ Aside0 (muslinref05_One.j4 kq a0 t126 x5_3 t129 t130 x82_25 = some (r1, r2)) ∧ Aside0 (kq ≤ kj20) ∧ Aside0 (Below w.heap.size w wc))
                              case first =>
                                have H := HC26.out
                                clear HC26
                                by_cases c27 : t130 < 0
                                · rw [if_pos c27] at H
                                  have c27b0 : decide (t130 < 0) = true := decide_eq_true c27
                                  clear c27
                                  (first | rw [c27b0] | (simp only [i64_w, i32_w]; rw [c27b0]) | skip)
                                  have H' := Aside0.mk H
                                  clear H
                                  go_wp2
                                  go_meet
                                  case rel => exact ⟨_, (true), (by first | rfl | (simp; done) | (simp [*]; done)), H', ⟨by have := HJ1.out; have := HJ7.out; have := HK3.out; have := HJ20.out; first | omega | exact Nat.le_refl _⟩, ⟨by repeat (first | (with_reducible first | exact HB.out | apply below_alloc | apply pw_below_drewN | apply below_drew1) | exact HB.out)⟩⟩
                                · rw [if_neg c27] at H
                                  have c27b0 : decide (t130 < 0) = false := decide_eq_false c27
                                  clear c27
                                  (first | rw [c27b0] | (simp only [i64_w, i32_w]; rw [c27b0]) | skip)
                                  by_cases c28 : (wrap64 (t130 + 1)) ≥ (a0.size : Int)
                                  · rw [if_pos c28] at H
                                    have c28b0 : decide ((a0.size : Int) ≤ (wrap64 (t130 + 1))) = true := decide_eq_true c28
                                    clear c28
                                    have H' := Aside0.mk H
                                    clear H
                                    go_wp2
                                    go_meet
                                    case rel => exact ⟨_, (true), (by first | rfl | (simp; done) | (simp [*]; done)), H', ⟨by have := HJ1.out; have := HJ7.out; have := HK3.out; have := HJ20.out; first | omega | exact Nat.le_refl _⟩, ⟨by repeat (first | (with_reducible first | exact HB.out | apply below_alloc | apply pw_below_drewN | apply below_drew1) | exact HB.out)⟩⟩
                                  · rw [if_neg c28] at H
                                    have c28b0 : decide ((a0.size : Int) ≤ (wrap64 (t130 + 1))) = false := decide_eq_false c28
                                    clear c28
                                    obtain ⟨ji29, hji29⟩ : ∃ j_ : Int, (wrap64 (t130 + 1)) = j_ := ⟨_, rfl⟩
                                    replace H : (if 0 ≤ (ji29) then (if (ji29) < (a0.size : Int) then (muslinref05_One.j4 kj20 a0 t126 x5_3 t129 t130 ((bt a0 (ji29)) != 61)) else (none)) else (none)) = some (r1, r2) := by first | (rw [hji29] at H; exact H) | (simp only [hji29] at H ⊢; exact H)
                                    (try rw [hji29] at c28b0)
                                    have hji29w : (IntKind.i64.wrap (t130 + 1)) = ji29 := (i64_w _).trans hji29
                                    by_cases c30 : 0 ≤ (ji29)
                                    · rw [if_pos c30] at H
                                      have c30b0 : decide (0 ≤ (ji29)) = true := decide_eq_true c30
                                      clear c30
                                      by_cases c31 : (ji29) < (a0.size : Int)
                                      · rw [if_pos c31] at H
                                        have c31b0 : decide ((ji29) < (a0.size : Int)) = true := decide_eq_true c31
                                        clear c31
                                        have H' := Aside0.mk H
                                        clear H
                                        have p32 : 0 ≤ ((ji29) : Int) := of_decide_eq_true (by first | (with_reducible assumption) | assumption)
                                        have q32 : (ji29) < (a0.size : Int) := of_decide_eq_true (by first | (with_reducible assumption) | assumption)
                                        have hx32 := bt_at a0 (ji29)
                                        replace p32 := eq_true p32
                                        replace q32 := eq_true q32
                                        go_wp2
                                        go_meet
                                        case rel => exact ⟨_, (((bt a0 (ji29)) != 61)), (by first | rfl | (simp; done) | (simp only [← hji29] <;> (first | rfl | (simp; done) | (simp; simp only [hji29]; exact beq_iff_eq.1 (by assumption)))) | (simp [*]; done)), H', ⟨by have := HJ1.out; have := HJ7.out; have := HK3.out; have := HJ20.out; first | omega | exact Nat.le_refl _⟩, ⟨by repeat (first | (with_reducible first | exact HB.out | apply below_alloc | apply pw_below_drewN | apply below_drew1) | exact HB.out)⟩⟩
                                      · rw [if_neg c31] at H
                                        exact absurd H (by simp)
                                    · rw [if_neg c30] at H
                                      exact absurd H (by simp)
                              case rest =>
                                clear HC26
                                try clear c1
                                try clear p1
                                try clear q1
                                try clear hx1
                                try clear c2
                                try clear p2
                                try clear c3
                                try clear c3b0
                                try clear c3b1
                                try clear p3
                                try clear q3
                                try clear hx3
                                try clear c4
                                try clear c4b0
                                try clear c4b1
                                try clear c5
                                try clear c5b0
                                try clear c5b1
                                try clear c6
                                try clear p6
                                try clear c9
                                try clear c9b0
                                try clear c10
                                try clear c11
                                try clear c11b0
                                try clear c11b1
                                try clear c12
                                try clear c12b0
                                try clear c12b1
                                try clear c13
                                try clear c13b0
                                try clear c14
                                try clear c14b0
                                try clear p15
                                try clear q15
                                try clear hx15
                                try clear c16
                                try clear c16b0
                                try clear c16b1
                                try clear c17
                                try clear c17b0
                                try clear c18
                                try clear c18b0
                                try clear c18b1
                                try clear c23
                                try clear c24
                                try clear c26
                                try clear c27
                                try clear c27b0
                                try clear c28
                                try clear c28b0
                                try clear c30
                                try clear c30b0
                                try clear c31
                                try clear c31b0
                                try clear p32
                                try clear q32
                                try clear hx32
                                try clear p1
                                try clear p15
                                try clear p2
                                try clear p32
                                try clear p6
                                try clear q1
                                try clear q15
                                try clear q32
                                obtain ⟨kq, x82_25, rfl, HA, HJ25, HB⟩ := hcut
                                cases kq with
                                | zero => exact absurd HA.out (by simp [muslinref05_One.j4])
                                | succ kj25 =>
                                  have H := HA.out
                                  clear HA
                                  simp only [muslinref05_One.j4] at H
                                  by_cases c33 : x82_25 = true
                                  · subst c33
                                    have H1 : (some ((⟨#[]⟩ : ByteArray), 0)) = some (r1, r2) := by rw [if_pos rfl] at H; exact H
                                    clear H
                                    have H := H1
                                    clear H1
                                    simp only [Option.some.injEq, Prod.mk.injEq] at H
                                    obtain ⟨rfl, rfl⟩ := H
                                    go_wp2
                                    go_ret2
                                    exact ⟨by first | rfl | (simp [errW_none, errW_some] <;> rfl) | (simp [*, errW_none, errW_some] <;> rfl), by repeat (first | (with_reducible first | exact HB.out | apply below_alloc | apply pw_below_drewN | apply below_drew1) | exact HB.out)⟩
                                  · replace c33 := Bool.eq_false_iff.mpr c33
                                    subst c33
                                    have H1 : (if 0 ≤ (wrap64 (t126 + 1)) then (if (wrap64 (t126 + 1)) < (a0.size : Int) then (if (bt a0 (wrap64 (t126 + 1))) = 66 then (muslinref05_One.j5 kj25 a0 x5_3 t129 t130 (bt a0 (wrap64 (t126 + 1))) ((bt a0 (wrap64 (t126 + 1))) == 66)) else (muslinref05_One.j5 kj25 a0 x5_3 t129 t130 (bt a0 (wrap64 (t126 + 1))) ((bt a0 (wrap64 (t126 + 1))) == 98))) else (none)) else (none)) = some (r1, r2) := by rw [if_neg (show ¬ (false = true) by decide)] at H; exact H
                                    clear H
                                    have H := H1
                                    clear H1
                                    obtain ⟨ji34, hji34⟩ : ∃ j_ : Int, (wrap64 (t126 + 1)) = j_ := ⟨_, rfl⟩
                                    replace H : (if 0 ≤ (ji34) then (if (ji34) < (a0.size : Int) then (if (bt a0 (ji34)) = 66 then (muslinref05_One.j5 kj25 a0 x5_3 t129 t130 (bt a0 (ji34)) ((bt a0 (ji34)) == 66)) else (muslinref05_One.j5 kj25 a0 x5_3 t129 t130 (bt a0 (ji34)) ((bt a0 (ji34)) == 98))) else (none)) else (none)) = some (r1, r2) := by first | (rw [hji34] at H; exact H) | (simp only [hji34] at H ⊢; exact H)
                                    have hji34w : (IntKind.i64.wrap (t126 + 1)) = ji34 := (i64_w _).trans hji34
                                    by_cases c35 : 0 ≤ (ji34)
                                    · rw [if_pos c35] at H
                                      have c35b0 : decide (0 ≤ (ji34)) = true := decide_eq_true c35
                                      clear c35
                                      by_cases c36 : (ji34) < (a0.size : Int)
                                      · rw [if_pos c36] at H
                                        have c36b0 : decide ((ji34) < (a0.size : Int)) = true := decide_eq_true c36
                                        clear c36
                                        have HC38 := Aside0.mk H
                                        clear H
                                        have p37 : 0 ≤ ((ji34) : Int) := of_decide_eq_true (by first | (with_reducible assumption) | assumption)
                                        have q37 : (ji34) < (a0.size : Int) := of_decide_eq_true (by first | (with_reducible assumption) | assumption)
                                        have hx37 := bt_at a0 (ji34)
                                        replace p37 := eq_true p37
                                        replace q37 := eq_true q37
                                        go_upto_if 87 with (fail)
                                        go_cut [87] (fun v87 wc => ∃ (kq : Nat) (x87_37 : Bool), v87 = .bool x87_37 ∧ Aside0 (muslinref05_One.j5 kq a0 x5_3 t129 t130 (bt a0 (ji34)) x87_37 = some (r1, r2)) ∧ Aside0 (kq ≤ kj25) ∧ Aside0 (Below w.heap.size w wc))
                                        case first =>
                                          have H := HC38.out
                                          clear HC38
                                          by_cases c39 : (bt a0 (ji34)) = 66
                                          · rw [if_pos c39] at H
                                            have c39b0 : ((bt a0 (ji34)) == 66) = true := beq_iff_eq.mpr c39
                                            have c39b1 : ((bt a0 (ji34)) != 66) = false := bne_eq_false_iff_eq.mpr c39
                                            clear c39
                                            (first | rw [c39b0] | (simp only [i64_w, i32_w]; rw [c39b0]) | skip)
                                            have H' := Aside0.mk H
                                            clear H
                                            go_wp2
                                            go_meet
                                            case rel => exact ⟨_, (((bt a0 (ji34)) == 66)), (by first | rfl | (simp; done) | (simp only [← hji34] <;> (first | rfl | (simp; done) | (simp; simp only [hji34]; exact beq_iff_eq.1 (by assumption)))) | (simp [*]; done)), H', ⟨by have := HJ1.out; have := HJ7.out; have := HK3.out; have := HJ20.out; have := HJ25.out; first | omega | exact Nat.le_refl _⟩, ⟨by repeat (first | (with_reducible first | exact HB.out | apply below_alloc | apply pw_below_drewN | apply below_drew1) | exact HB.out)⟩⟩
                                          · rw [if_neg c39] at H
                                            have c39b0 : ((bt a0 (ji34)) == 66) = false := beq_eq_false_iff_ne.mpr c39
                                            have c39b1 : ((bt a0 (ji34)) != 66) = true := bne_iff_ne.mpr c39
                                            (first | rw [c39b0] | (simp only [i64_w, i32_w]; rw [c39b0]) | skip)
                                            have H' := Aside0.mk H
                                            clear H
                                            go_wp2
                                            go_meet
                                            case rel => exact ⟨_, (((bt a0 (ji34)) == 98)), (by first | rfl | (simp; done) | (simp only [← hji34] <;> (first | rfl | (simp; done) | (simp; simp only [hji34]; exact beq_iff_eq.1 (by assumption)))) | (simp [*]; done)), H', ⟨by have := HJ1.out; have := HJ7.out; have := HK3.out; have := HJ20.out; have := HJ25.out; first | omega | exact Nat.le_refl _⟩, ⟨by repeat (first | (with_reducible first | exact HB.out | apply below_alloc | apply pw_below_drewN | apply below_drew1) | exact HB.out)⟩⟩
                                        case rest =>
                                          clear HC38
                                          try clear c1
                                          try clear p1
                                          try clear q1
                                          try clear hx1
                                          try clear c2
                                          try clear p2
                                          try clear c3
                                          try clear c3b0
                                          try clear c3b1
                                          try clear p3
                                          try clear q3
                                          try clear hx3
                                          try clear c4
                                          try clear c4b0
                                          try clear c4b1
                                          try clear c5
                                          try clear c5b0
                                          try clear c5b1
                                          try clear c6
                                          try clear p6
                                          try clear c9
                                          try clear c9b0
                                          try clear c10
                                          try clear c11
                                          try clear c11b0
                                          try clear c11b1
                                          try clear c12
                                          try clear c12b0
                                          try clear c12b1
                                          try clear c13
                                          try clear c13b0
                                          try clear c14
                                          try clear c14b0
                                          try clear p15
                                          try clear q15
                                          try clear hx15
                                          try clear c16
                                          try clear c16b0
                                          try clear c16b1
                                          try clear c17
                                          try clear c17b0
                                          try clear c18
                                          try clear c18b0
                                          try clear c18b1
                                          try clear c23
                                          try clear c24
                                          try clear c26
                                          try clear c27
                                          try clear c27b0
                                          try clear c28
                                          try clear c28b0
                                          try clear c30
                                          try clear c30b0
                                          try clear c31
                                          try clear c31b0
                                          try clear p32
                                          try clear q32
                                          try clear hx32
                                          try clear c33
                                          try clear c35
                                          try clear c35b0
                                          try clear c36
                                          try clear c36b0
                                          try clear p37
                                          try clear q37
                                          try clear hx37
                                          try clear c39
                                          try clear c39b0
                                          try clear c39b1
                                          try clear p1
                                          try clear p15
                                          try clear p2
                                          try clear p3
                                          try clear p32
                                          try clear p37
                                          try clear p6
                                          try clear q1
                                          try clear q15
                                          try clear q3
                                          try clear q32
                                          try clear q37
                                          obtain ⟨kq, x87_37, rfl, HA, HJ37, HB⟩ := hcut
                                          cases kq with
                                          | zero => exact absurd HA.out (by simp [muslinref05_One.j5])
                                          | succ kj37 =>
                                            have H := HA.out
                                            clear HA
                                            simp only [muslinref05_One.j5] at H
                                            by_cases c40 : x87_37 = true
                                            · subst c40
                                              have H1 : (if 0 ≤ (wrap64 (t129 + 1)) then (if (wrap64 (t129 + 1)) ≤ t130 then (if t130 ≤ (a0.size : Int) then ((muslinref01_Decode.f kj37 (a0.extract ((wrap64 (t129 + 1)) : Int).toNat (t130 : Int).toNat)).bind fun t131 => ((muslinref04_Decode.f x5_3 t131).bind fun bt132 => (some (bt132.1, wrap64 (t130 + 2))))) else (none)) else (none)) else (none)) = some (r1, r2) := by rw [if_pos rfl] at H; exact H
                                              clear H
                                              have H := H1
                                              clear H1
                                              obtain ⟨ji41, hji41⟩ : ∃ j_ : Int, (wrap64 (t129 + 1)) = j_ := ⟨_, rfl⟩
                                              replace H : (if 0 ≤ (ji41) then (if (ji41) ≤ t130 then (if t130 ≤ (a0.size : Int) then ((muslinref01_Decode.f kj37 (a0.extract ((ji41) : Int).toNat (t130 : Int).toNat)).bind fun t131 => ((muslinref04_Decode.f x5_3 t131).bind fun bt132 => (some (bt132.1, wrap64 (t130 + 2))))) else (none)) else (none)) else (none)) = some (r1, r2) := by first | (rw [hji41] at H; exact H) | (simp only [hji41] at H ⊢; exact H)
                                              have hji41w : (IntKind.i64.wrap (t129 + 1)) = ji41 := (i64_w _).trans hji41
                                              by_cases c42 : 0 ≤ (ji41)
                                              · rw [if_pos c42] at H
                                                have c42b0 := eq_true c42
                                                have c42b1 : decide (0 ≤ (ji41)) = true := decide_eq_true c42
                                                clear c42
                                                by_cases c43 : (ji41) ≤ t130
                                                · rw [if_pos c43] at H
                                                  have c43b0 := eq_true c43
                                                  have c43b1 : decide ((ji41) ≤ t130) = true := decide_eq_true c43
                                                  clear c43
                                                  by_cases c44 : t130 ≤ (a0.size : Int)
                                                  · rw [if_pos c44] at H
                                                    have c44b0 := eq_true c44
                                                    have c44b1 : decide (t130 ≤ (a0.size : Int)) = true := decide_eq_true c44
                                                    clear c44
                                                    replace H := Option.bind_eq_some_iff.mp H
                                                    obtain ⟨t131, A450, H⟩ := H
                                                    replace H : ((muslinref04_Decode.f x5_3 t131).bind fun bt132 => (some (bt132.1, wrap64 (t130 + 2)))) = some (r1, r2) := H
                                                    have A45 := Aside0.mk A450
                                                    clear A450
                                                    replace H := Option.bind_eq_some_iff.mp H
                                                    obtain ⟨⟨t132, t133⟩, A460, H⟩ := H
                                                    replace H : (some (t132, wrap64 (t130 + 2))) = some (r1, r2) := H
                                                    have A46 := Aside0.mk A460
                                                    clear A460
                                                    simp only [Option.some.injEq, Prod.mk.injEq] at H
                                                    obtain ⟨rfl, rfl⟩ := H
                                                    go_wp2_with (first | ((with_reducible refine gate_callee (f := 28) rfl ?_); refine goesL_ (some 95) rfl rfl Tryd.func28 (by kernel_rfl) rfl #[.string (a0.extract ((ji41) : Int).toNat (t130 : Int).toNat)] rfl (by (try simp only [List.map_toArray, List.map_cons, List.map_nil]); first | done | (simp only [hji41]; rfl) | rfl | (simp only [List.length_drop, List.length_take]; rfl)) ?_; (with_reducible refine (muslinref01_Decode.calls kj37 (a0.extract ((ji41) : Int).toNat (t130 : Int).toNat) t131 _ A45.out).mono ?_); rintro e w47 ⟨rfl, hb⟩; refine ⟨_, rfl, ?_⟩; have n0_ := Aside0.mk (below_step (by repeat (first | (with_reducible first | exact HB.out | apply below_alloc | apply pw_below_drewN | apply below_drew1) | exact HB.out)) hb); clear HB; have HB := n0_; clear n0_; (try clear hb); (try clear hb2); (try clear hk); (try clear hi)) | ((with_reducible refine gate_callee (f := 30) rfl ?_); refine goesL_ (some 108) rfl rfl Tryd.func30 (by kernel_rfl) rfl #[.string x5_3, .string t131] rfl (by (try simp only [List.map_toArray, List.map_cons, List.map_nil]); first | done | rfl | (simp only [List.length_drop, List.length_take]; rfl)) ?_; (with_reducible refine (muslinref04_Decode.calls x5_3 t131 t132 t133 _ A46.out).mono ?_); rintro e w48 ⟨rfl, hb⟩; refine ⟨_, rfl, ?_⟩; have n0_ := Aside0.mk (below_step (by repeat (first | (with_reducible first | exact HB.out | apply below_alloc | apply pw_below_drewN | apply below_drew1) | exact HB.out)) hb); clear HB; have HB := n0_; clear n0_; (try clear hb); (try clear hb2); (try clear hk); (try clear hi)))
                                                    go_ret2
                                                    exact ⟨by first | rfl | (simp [errW_none, errW_some] <;> rfl) | (simp only [← hji34, ← hji41]; first | rfl | (simp [errW_none, errW_some] <;> rfl)) | (simp [*, errW_none, errW_some] <;> rfl), by repeat (first | (with_reducible first | exact HB.out | apply below_alloc | apply pw_below_drewN | apply below_drew1) | exact HB.out)⟩
                                                  · rw [if_neg c44] at H
                                                    exact absurd H (by simp)
                                                · rw [if_neg c43] at H
                                                  exact absurd H (by simp)
                                              · rw [if_neg c42] at H
                                                exact absurd H (by simp)
                                            · replace c40 := Bool.eq_false_iff.mpr c40
                                              subst c40
                                              have H1 : (if (bt a0 (ji34)) = 81 then (muslinref05_One.j6 kj37 a0 x5_3 t129 t130 ((bt a0 (ji34)) == 81)) else (muslinref05_One.j6 kj37 a0 x5_3 t129 t130 ((bt a0 (ji34)) == 113))) = some (r1, r2) := by rw [if_neg (show ¬ (false = true) by decide)] at H; exact H
                                              clear H
                                              have H := H1
                                              clear H1
                                              have HC49 := Aside0.mk H
                                              clear H
                                              go_upto_if 96 with (fail)
                                              go_cut [96] (fun v96 wc => ∃ (kq : Nat) (x96_48 : Bool), v96 = .bool x96_48 ∧ Aside0 (muslinref05_One.j6 kq a0 x5_3 t129 t130 x96_48 = some (r1, r2)) ∧ Aside0 (kq ≤ kj37) ∧ Aside0 (Below w.heap.size w wc))
                                              case first =>
                                                have H := HC49.out
                                                clear HC49
                                                by_cases c50 : (bt a0 (ji34)) = 81
                                                · rw [if_pos c50] at H
                                                  have c50b0 : ((bt a0 (ji34)) == 81) = true := beq_iff_eq.mpr c50
                                                  have c50b1 : ((bt a0 (ji34)) != 81) = false := bne_eq_false_iff_eq.mpr c50
                                                  clear c50
                                                  (first | rw [c50b0] | (simp only [i64_w, i32_w]; rw [c50b0]) | skip)
                                                  have H' := Aside0.mk H
                                                  clear H
                                                  go_wp2
                                                  go_meet
                                                  case rel => exact ⟨_, (((bt a0 (ji34)) == 81)), (by first | rfl | (simp; done) | (simp only [← hji34] <;> (first | rfl | (simp; done) | (simp; simp only [hji34]; exact beq_iff_eq.1 (by assumption)))) | (simp [*]; done)), H', ⟨by have := HJ1.out; have := HJ7.out; have := HK3.out; have := HJ20.out; have := HJ25.out; have := HJ37.out; first | omega | exact Nat.le_refl _⟩, ⟨by repeat (first | (with_reducible first | exact HB.out | apply below_alloc | apply pw_below_drewN | apply below_drew1) | exact HB.out)⟩⟩
                                                · rw [if_neg c50] at H
                                                  have c50b0 : ((bt a0 (ji34)) == 81) = false := beq_eq_false_iff_ne.mpr c50
                                                  have c50b1 : ((bt a0 (ji34)) != 81) = true := bne_iff_ne.mpr c50
                                                  (first | rw [c50b0] | (simp only [i64_w, i32_w]; rw [c50b0]) | skip)
                                                  have H' := Aside0.mk H
                                                  clear H
                                                  go_wp2
                                                  go_meet
                                                  case rel => exact ⟨_, (((bt a0 (ji34)) == 113)), (by first | rfl | (simp; done) | (simp only [← hji34] <;> (first | rfl | (simp; done) | (simp; simp only [hji34]; exact beq_iff_eq.1 (by assumption)))) | (simp [*]; done)), H', ⟨by have := HJ1.out; have := HJ7.out; have := HK3.out; have := HJ20.out; have := HJ25.out; have := HJ37.out; first | omega | exact Nat.le_refl _⟩, ⟨by repeat (first | (with_reducible first | exact HB.out | apply below_alloc | apply pw_below_drewN | apply below_drew1) | exact HB.out)⟩⟩
                                              case rest =>
                                                clear HC49
                                                try clear c1
                                                try clear p1
                                                try clear q1
                                                try clear hx1
                                                try clear c2
                                                try clear p2
                                                try clear c3
                                                try clear c3b0
                                                try clear c3b1
                                                try clear p3
                                                try clear q3
                                                try clear hx3
                                                try clear c4
                                                try clear c4b0
                                                try clear c4b1
                                                try clear c5
                                                try clear c5b0
                                                try clear c5b1
                                                try clear c6
                                                try clear p6
                                                try clear c9
                                                try clear c9b0
                                                try clear c10
                                                try clear c11
                                                try clear c11b0
                                                try clear c11b1
                                                try clear c12
                                                try clear c12b0
                                                try clear c12b1
                                                try clear c13
                                                try clear c13b0
                                                try clear c14
                                                try clear c14b0
                                                try clear p15
                                                try clear q15
                                                try clear hx15
                                                try clear c16
                                                try clear c16b0
                                                try clear c16b1
                                                try clear c17
                                                try clear c17b0
                                                try clear c18
                                                try clear c18b0
                                                try clear c18b1
                                                try clear c23
                                                try clear c24
                                                try clear c26
                                                try clear c27
                                                try clear c27b0
                                                try clear c28
                                                try clear c28b0
                                                try clear c30
                                                try clear c30b0
                                                try clear c31
                                                try clear c31b0
                                                try clear p32
                                                try clear q32
                                                try clear hx32
                                                try clear c33
                                                try clear c35
                                                try clear c35b0
                                                try clear c36
                                                try clear c36b0
                                                try clear p37
                                                try clear q37
                                                try clear hx37
                                                try clear c39
                                                try clear c39b0
                                                try clear c39b1
                                                try clear c40
                                                try clear c42
                                                try clear c42b0
                                                try clear c42b1
                                                try clear c43
                                                try clear c43b0
                                                try clear c43b1
                                                try clear c44
                                                try clear c44b0
                                                try clear c44b1
                                                try clear c50
                                                try clear c50b0
                                                try clear c50b1
                                                try clear p1
                                                try clear p15
                                                try clear p2
                                                try clear p3
                                                try clear p32
                                                try clear p37
                                                try clear p6
                                                try clear q1
                                                try clear q15
                                                try clear q3
                                                try clear q32
                                                try clear q37
                                                obtain ⟨kq, x96_48, rfl, HA, HJ48, HB⟩ := hcut
                                                cases kq with
                                                | zero => exact absurd HA.out (by simp [muslinref05_One.j6])
                                                | succ kj48 =>
                                                  have H := HA.out
                                                  clear HA
                                                  simp only [muslinref05_One.j6] at H
                                                  by_cases c51 : x96_48 = true
                                                  · subst c51
                                                    have H1 : (if 0 ≤ (wrap64 (t129 + 1)) then (if (wrap64 (t129 + 1)) ≤ t130 then (if t130 ≤ (a0.size : Int) then ((muslinref05_quoted.f kj48 (a0.extract ((wrap64 (t129 + 1)) : Int).toNat (t130 : Int).toNat)).bind fun t134 => ((muslinref04_Decode.f x5_3 t134).bind fun bt135 => (some (bt135.1, wrap64 (t130 + 2))))) else (none)) else (none)) else (none)) = some (r1, r2) := by rw [if_pos rfl] at H; exact H
                                                    clear H
                                                    have H := H1
                                                    clear H1
                                                    obtain ⟨ji52, hji52⟩ : ∃ j_ : Int, (wrap64 (t129 + 1)) = j_ := ⟨_, rfl⟩
                                                    replace H : (if 0 ≤ (ji52) then (if (ji52) ≤ t130 then (if t130 ≤ (a0.size : Int) then ((muslinref05_quoted.f kj48 (a0.extract ((ji52) : Int).toNat (t130 : Int).toNat)).bind fun t134 => ((muslinref04_Decode.f x5_3 t134).bind fun bt135 => (some (bt135.1, wrap64 (t130 + 2))))) else (none)) else (none)) else (none)) = some (r1, r2) := by first | (rw [hji52] at H; exact H) | (simp only [hji52] at H ⊢; exact H)
                                                    have hji52w : (IntKind.i64.wrap (t129 + 1)) = ji52 := (i64_w _).trans hji52
                                                    by_cases c53 : 0 ≤ (ji52)
                                                    · rw [if_pos c53] at H
                                                      have c53b0 := eq_true c53
                                                      have c53b1 : decide (0 ≤ (ji52)) = true := decide_eq_true c53
                                                      clear c53
                                                      by_cases c54 : (ji52) ≤ t130
                                                      · rw [if_pos c54] at H
                                                        have c54b0 := eq_true c54
                                                        have c54b1 : decide ((ji52) ≤ t130) = true := decide_eq_true c54
                                                        clear c54
                                                        by_cases c55 : t130 ≤ (a0.size : Int)
                                                        · rw [if_pos c55] at H
                                                          have c55b0 := eq_true c55
                                                          have c55b1 : decide (t130 ≤ (a0.size : Int)) = true := decide_eq_true c55
                                                          clear c55
                                                          replace H := Option.bind_eq_some_iff.mp H
                                                          obtain ⟨t134, A560, H⟩ := H
                                                          replace H : ((muslinref04_Decode.f x5_3 t134).bind fun bt135 => (some (bt135.1, wrap64 (t130 + 2)))) = some (r1, r2) := H
                                                          have A56 := Aside0.mk A560
                                                          clear A560
                                                          replace H := Option.bind_eq_some_iff.mp H
                                                          obtain ⟨⟨t135, t136⟩, A570, H⟩ := H
                                                          replace H : (some (t135, wrap64 (t130 + 2))) = some (r1, r2) := H
                                                          have A57 := Aside0.mk A570
                                                          clear A570
                                                          simp only [Option.some.injEq, Prod.mk.injEq] at H
                                                          obtain ⟨rfl, rfl⟩ := H
                                                          go_wp2_with (first | ((with_reducible refine gate_callee (f := 29) rfl ?_); refine goesL_ (some 104) rfl rfl Tryd.func29 (by kernel_rfl) rfl #[.string (a0.extract ((ji52) : Int).toNat (t130 : Int).toNat)] rfl (by (try simp only [List.map_toArray, List.map_cons, List.map_nil]); first | done | (simp only [hji52]; rfl) | rfl | (simp only [List.length_drop, List.length_take]; rfl)) ?_; (with_reducible refine (muslinref05_quoted.calls kj48 (a0.extract ((ji52) : Int).toNat (t130 : Int).toNat) t134 _ A56.out).mono ?_); rintro e w58 ⟨rfl, hb⟩; refine ⟨_, rfl, ?_⟩; have n0_ := Aside0.mk (below_step (by repeat (first | (with_reducible first | exact HB.out | apply below_alloc | apply pw_below_drewN | apply below_drew1) | exact HB.out)) hb); clear HB; have HB := n0_; clear n0_; (try clear hb); (try clear hb2); (try clear hk); (try clear hi)) | ((with_reducible refine gate_callee (f := 30) rfl ?_); refine goesL_ (some 108) rfl rfl Tryd.func30 (by kernel_rfl) rfl #[.string x5_3, .string t134] rfl (by (try simp only [List.map_toArray, List.map_cons, List.map_nil]); first | done | rfl | (simp only [List.length_drop, List.length_take]; rfl)) ?_; (with_reducible refine (muslinref04_Decode.calls x5_3 t134 t135 t136 _ A57.out).mono ?_); rintro e w59 ⟨rfl, hb⟩; refine ⟨_, rfl, ?_⟩; have n0_ := Aside0.mk (below_step (by repeat (first | (with_reducible first | exact HB.out | apply below_alloc | apply pw_below_drewN | apply below_drew1) | exact HB.out)) hb); clear HB; have HB := n0_; clear n0_; (try clear hb); (try clear hb2); (try clear hk); (try clear hi)))
                                                          go_ret2
                                                          exact ⟨by first | rfl | (simp [errW_none, errW_some] <;> rfl) | (simp only [← hji34, ← hji52]; first | rfl | (simp [errW_none, errW_some] <;> rfl)) | (simp [*, errW_none, errW_some] <;> rfl), by repeat (first | (with_reducible first | exact HB.out | apply below_alloc | apply pw_below_drewN | apply below_drew1) | exact HB.out)⟩
                                                        · rw [if_neg c55] at H
                                                          exact absurd H (by simp)
                                                      · rw [if_neg c54] at H
                                                        exact absurd H (by simp)
                                                    · rw [if_neg c53] at H
                                                      exact absurd H (by simp)
                                                  · replace c51 := Bool.eq_false_iff.mpr c51
                                                    subst c51
                                                    have H1 : (some ((⟨#[]⟩ : ByteArray), 0)) = some (r1, r2) := by rw [if_neg (show ¬ (false = true) by decide)] at H; exact H
                                                    clear H
                                                    have H := H1
                                                    clear H1
                                                    simp only [Option.some.injEq, Prod.mk.injEq] at H
                                                    obtain ⟨rfl, rfl⟩ := H
                                                    go_wp2
                                                    go_ret2
                                                    exact ⟨by first | rfl | (simp [errW_none, errW_some] <;> rfl) | (simp only [← hji34]; first | rfl | (simp [errW_none, errW_some] <;> rfl)) | (simp [*, errW_none, errW_some] <;> rfl), by repeat (first | (with_reducible first | exact HB.out | apply below_alloc | apply pw_below_drewN | apply below_drew1) | exact HB.out)⟩
                                      · rw [if_neg c36] at H
                                        exact absurd H (by simp)
                                    · rw [if_neg c35] at H
                                      exact absurd H (by simp)
                · rw [if_neg c12] at H
                  exact absurd H (by simp)
              · rw [if_neg c11] at H
                exact absurd H (by simp)
end Go.Proofs.YtokkgjiofhhlkaaDoor.P
