/- Parts of the proof of the law WordDecodes, in one text: P4, Pure05, Pure05d, Pure05e. -/
import Derived.Test.YtokkgjiofhhlkaaDoorMgWordDecodes12
namespace Go.Proofs.YtokkgjiofhhlkaaDoor.P
open Go.RowKit Go.Proofs.YtokkgjiofhhlkaaDoorW.PrintWords Go.Proofs.YtokkgjiofhhlkaaDoorW.PrintLast Go.Proofs.YtokkgjiofhhlkaaDoorW.PrintMore
attribute [local go_sem] max2_int min2_int max_two min_two max_three min_three max_four min_four
mutual
def muslinref05_Decode.l0 : Nat → ByteArray → ByteArray → ByteArray → Bool → Int → Option (ByteArray)
  | 0, _, _, _, _, _ => none
  | k + 1, x0, x3, x4, x5, x6 => if x6 < (x0.size : Int) then (if 0 ≤ x6 then (if x6 ≤ (x0.size : Int) then ((muslinref05_One.f k (x0.extract (x6 : Int).toNat x0.size)).bind fun bt138 => (if bt138.2 = 0 then (if x6 ≤ (wrap64 (x6 + 1)) then (if (wrap64 (x6 + 1)) ≤ (x0.size : Int) then (if x4.size + (x0.extract (x6 : Int).toNat ((wrap64 (x6 + 1)) : Int).toNat).size ≤ 9223372036854775807 then (muslinref05_Decode.l0 k x0 x3 (x4 ++ (x0.extract (x6 : Int).toNat ((wrap64 (x6 + 1)) : Int).toNat)) x5 (wrap64 (x6 + 1))) else (none)) else (none)) else (none)) else (muslinref05_Decode.l1 k x0 x3 x4 x6 bt138.1 bt138.2 x5 0))) else (none)) else (none)) else ((muslinref04_Valid.f x4).bind fun t137 => (if x3.size + t137.size ≤ 9223372036854775807 then (some (x3 ++ t137)) else (none)))
def muslinref05_Decode.l1 : Nat → ByteArray → ByteArray → ByteArray → Int → ByteArray → Int → Bool → Int → Option (ByteArray)
  | 0, _, _, _, _, _, _, _, _ => none
  | k + 1, x0, x3, x4, x6, x7, x8, x9, x10 => if x10 < (x4.size : Int) then (if x9 = true then (if 0 ≤ x10 then ((muslinref05_White.f (bt x4 x10)).bind fun t140 => (muslinref05_Decode.l1 k x0 x3 x4 x6 x7 x8 t140 (wrap64 (x10 + 1)))) else (none)) else (muslinref05_Decode.l1 k x0 x3 x4 x6 x7 x8 false (wrap64 (x10 + 1)))) else (if x9 = true then (if x3.size + x7.size ≤ 9223372036854775807 then (muslinref05_Decode.l0 k x0 (x3 ++ x7) (⟨#[]⟩ : ByteArray) true (wrap64 (x6 + x8))) else (none)) else ((muslinref04_Valid.f x4).bind fun t141 => (if x3.size + t141.size ≤ 9223372036854775807 then (if (x3 ++ t141).size + x7.size ≤ 9223372036854775807 then (muslinref05_Decode.l0 k x0 ((x3 ++ t141) ++ x7) (⟨#[]⟩ : ByteArray) true (wrap64 (x6 + x8))) else (none)) else (none))))
end
def muslinref05_Decode.f (k : Nat) (a0 : ByteArray) : Option (ByteArray) := muslinref05_Decode.l0 k a0 (⟨#[]⟩ : ByteArray) (⟨#[]⟩ : ByteArray) false 0
set_option maxHeartbeats 8000000 in
set_option maxRecDepth 100000 in
theorem muslinref05_Decode.calls (k : Nat) (a0 : ByteArray) (r : ByteArray) (w : World) (h : muslinref05_Decode.f k a0 = some r) :
    Calls Tryd.prog 14 #[.string a0] w fun e w' => e = .returned (.string r) ∧ Below w.heap.size w w' := by
  have HB := Aside0.mk (Below.refl w.heap.size w)
  have H : (muslinref05_Decode.l0 k a0 (⟨#[]⟩ : ByteArray) (⟨#[]⟩ : ByteArray) false 0) = some r := h
  clear h
  have H' := Aside0.mk H
  clear H
  go_enter Tryd.func14, Tryd.ntmps14
  go_wp2
  go_loopg [3, 4, 5, 6] k (fun kq v3 v4 v5 v6 w' => ∃ (x3_1 : ByteArray) (x4_1 : ByteArray) (x5_1 : Bool) (x6_1 : Int), v3 = .string x3_1 ∧ v4 = .string x4_1 ∧ v5 = .bool x5_1 ∧ v6 = .int .i64 x6_1 ∧ Aside0 (muslinref05_Decode.l0 kq a0 x3_1 x4_1 x5_1 x6_1 = some r) ∧ Aside0 (kq ≤ k) ∧ Aside0 (Below w.heap.size w w'))
  case atStart => exact ⟨((⟨#[]⟩ : ByteArray)), ((⟨#[]⟩ : ByteArray)), (false), (0), (by first | rfl | (simp; done) | (simp [*]; done)), (by first | rfl | (simp; done) | (simp [*]; done)), (by first | rfl | (simp; done) | (simp [*]; done)), (by first | rfl | (simp; done) | (simp [*]; done)), H', ⟨Nat.le_refl _⟩, ⟨by repeat (first | (with_reducible first | exact HB.out | apply below_alloc | apply pw_below_drewN | apply below_drew1) | exact HB.out)⟩⟩
  case round =>
    clear H'
    try clear c1
    obtain ⟨x3_1, x4_1, x5_1, x6_1, rfl, rfl, rfl, rfl, HA, HK1, HB⟩ := hrel
    cases gk with
    | zero => exact absurd HA.out (by simp [muslinref05_Decode.l0])
    | succ k1 =>
      have H := HA.out
      clear HA
      simp only [muslinref05_Decode.l0] at H
      by_cases c2 : x6_1 < (a0.size : Int)
      · rw [if_pos c2] at H
        have c2b0 : decide (x6_1 < (a0.size : Int)) = true := decide_eq_true c2
        clear c2
        by_cases c3 : 0 ≤ x6_1
        · rw [if_pos c3] at H
          have c3b0 := eq_true c3
          have c3b1 : decide (0 ≤ x6_1) = true := decide_eq_true c3
          clear c3
          by_cases c4 : x6_1 ≤ (a0.size : Int)
          · rw [if_pos c4] at H
            have c4b0 := eq_true c4
            have c4b1 : decide (x6_1 ≤ (a0.size : Int)) = true := decide_eq_true c4
            clear c4
            replace H := Option.bind_eq_some_iff.mp H
            obtain ⟨⟨t138, t139⟩, A50, H⟩ := H
            replace H : (if t139 = 0 then (if x6_1 ≤ (wrap64 (x6_1 + 1)) then (if (wrap64 (x6_1 + 1)) ≤ (a0.size : Int) then (if x4_1.size + (a0.extract (x6_1 : Int).toNat ((wrap64 (x6_1 + 1)) : Int).toNat).size ≤ 9223372036854775807 then (muslinref05_Decode.l0 k1 a0 x3_1 (x4_1 ++ (a0.extract (x6_1 : Int).toNat ((wrap64 (x6_1 + 1)) : Int).toNat)) x5_1 (wrap64 (x6_1 + 1))) else (none)) else (none)) else (none)) else (muslinref05_Decode.l1 k1 a0 x3_1 x4_1 x6_1 t138 t139 x5_1 0)) = some r := H
            have A5 := Aside0.mk A50
            clear A50
            by_cases c6 : t139 = 0
            · rw [if_pos c6] at H
              have c6b0 : (t139 == 0) = true := beq_iff_eq.mpr c6
              have c6b1 : (t139 != 0) = false := bne_eq_false_iff_eq.mpr c6
              clear c6
              have c7b0 := eq_true (of_decide_eq_true (by first | (with_reducible assumption) | assumption) : 0 ≤ x6_1)
              by_cases c8 : x6_1 ≤ (wrap64 (x6_1 + 1))
              · rw [if_pos c8] at H
                have c8b0 := eq_true c8
                have c8b1 : decide (x6_1 ≤ (wrap64 (x6_1 + 1))) = true := decide_eq_true c8
                by_cases c9 : (wrap64 (x6_1 + 1)) ≤ (a0.size : Int)
                · rw [if_pos c9] at H
                  have c9b0 := eq_true c9
                  have c9b1 : decide ((wrap64 (x6_1 + 1)) ≤ (a0.size : Int)) = true := decide_eq_true c9
                  by_cases c10 : x4_1.size + (a0.extract (x6_1 : Int).toNat ((wrap64 (x6_1 + 1)) : Int).toNat).size ≤ 9223372036854775807
                  · rw [if_pos c10] at H
                    have c10b0 := eq_true c10
                    have c10b1 : decide (x4_1.size + (a0.extract (x6_1 : Int).toNat ((wrap64 (x6_1 + 1)) : Int).toNat).size ≤ 9223372036854775807) = true := decide_eq_true c10
                    try have c10b2 : (9223372036854775807 < x4_1.size + (a0.extract (x6_1 : Int).toNat ((wrap64 (x6_1 + 1)) : Int).toNat).size) = False := eq_false (Nat.not_lt.2 c10)
                    try (have c10b3 := c10; simp only [ByteArray.size_append] at c10b3)
                    have H' := Aside0.mk H
                    clear H
                    go_wp2_with (first | ((with_reducible refine gate_callee (f := 12) rfl ?_); refine goesL_ (some 19) rfl rfl Tryd.func12 (by kernel_rfl) rfl #[.string (a0.extract (x6_1 : Int).toNat a0.size)] rfl (by (try simp only [List.map_toArray, List.map_cons, List.map_nil]); first | done | rfl | (simp only [List.length_drop, List.length_take]; rfl)) ?_; (with_reducible refine (muslinref05_One.calls k1 (a0.extract (x6_1 : Int).toNat a0.size) t138 t139 _ A5.out).mono ?_); rintro e w11 ⟨rfl, hb⟩; refine ⟨_, rfl, ?_⟩; have n0_ := Aside0.mk (below_step (by repeat (first | (with_reducible first | exact HB.out | apply below_alloc | apply pw_below_drewN | apply below_drew1) | exact HB.out)) hb); clear HB; have HB := n0_; clear n0_; (try clear hb); (try clear hb2); (try clear hk); (try clear hi)))
                    go_roundg k1
                    case measure => have := HK1.out; omega
                    case rel => exact ⟨(x3_1), (x4_1 ++ (a0.extract (x6_1 : Int).toNat ((wrap64 (x6_1 + 1)) : Int).toNat)), (x5_1), (wrap64 (x6_1 + 1)), (by first | rfl | (simp; done) | (simp [*]; done)), (by first | rfl | (simp; done) | (simp [*]; done)), (by first | rfl | (simp; done) | (simp [*]; done)), (by first | rfl | (simp; done) | (simp [*]; done)), H', ⟨by have := HK1.out; omega⟩, ⟨by repeat (first | (with_reducible first | exact HB.out | apply below_alloc | apply pw_below_drewN | apply below_drew1) | exact HB.out)⟩⟩
                  · rw [if_neg c10] at H
                    exact absurd H (by simp)
                · rw [if_neg c9] at H
                  exact absurd H (by simp)
              · rw [if_neg c8] at H
                exact absurd H (by simp)
            · rw [if_neg c6] at H
              have c6b0 : (t139 == 0) = false := beq_eq_false_iff_ne.mpr c6
              have c6b1 : (t139 != 0) = true := bne_iff_ne.mpr c6
              have H' := Aside0.mk H
              clear H
              go_wp2_with (first | ((with_reducible refine gate_callee (f := 12) rfl ?_); refine goesL_ (some 19) rfl rfl Tryd.func12 (by kernel_rfl) rfl #[.string (a0.extract (x6_1 : Int).toNat a0.size)] rfl (by (try simp only [List.map_toArray, List.map_cons, List.map_nil]); first | done | rfl | (simp only [List.length_drop, List.length_take]; rfl)) ?_; (with_reducible refine (muslinref05_One.calls k1 (a0.extract (x6_1 : Int).toNat a0.size) t138 t139 _ A5.out).mono ?_); rintro e w12 ⟨rfl, hb⟩; refine ⟨_, rfl, ?_⟩; have n0_ := Aside0.mk (below_step (by repeat (first | (with_reducible first | exact HB.out | apply below_alloc | apply pw_below_drewN | apply below_drew1) | exact HB.out)) hb); clear HB; have HB := n0_; clear n0_; (try clear hb); (try clear hb2); (try clear hk); (try clear hi)))
              go_loopg [9, 10] k1 (fun kq v9 v10 w' => ∃ (x9_2 : Bool) (x10_2 : Int), v9 = .bool x9_2 ∧ v10 = .int .i64 x10_2 ∧ Aside0 (muslinref05_Decode.l1 kq a0 x3_1 x4_1 x6_1 t138 t139 x9_2 x10_2 = some r) ∧ Aside0 (kq ≤ k1) ∧ Aside0 (Below w.heap.size w w'))
              case atStart => exact ⟨(x5_1), (0), (by first | rfl | (simp; done) | (simp [*]; done)), (by first | rfl | (simp; done) | (simp [*]; done)), H', ⟨Nat.le_refl _⟩, ⟨by repeat (first | (with_reducible first | exact HB.out | apply below_alloc | apply pw_below_drewN | apply below_drew1) | exact HB.out)⟩⟩
              case round =>
                clear H'
                try clear c1
                try clear c2
                try clear c2b0
                try clear p2
                try clear c3
                try clear c3b0
                try clear c3b1
                try clear c4
                try clear c4b0
                try clear c4b1
                try clear c6
                try clear c6b0
                try clear c6b1
                try clear p6
                try clear c7
                try clear c7b0
                try clear c8
                try clear c8b0
                try clear c8b1
                try clear c9
                try clear c9b0
                try clear c9b1
                try clear c10
                try clear c10b0
                try clear c10b1
                try clear c10b2
                try clear c12
                obtain ⟨x9_2, x10_2, rfl, rfl, HA, HK2, HB⟩ := hrel
                cases gk with
                | zero => exact absurd HA.out (by simp [muslinref05_Decode.l1])
                | succ k2 =>
                  have H := HA.out
                  clear HA
                  simp only [muslinref05_Decode.l1] at H
                  by_cases c13 : x10_2 < (x4_1.size : Int)
                  · rw [if_pos c13] at H
                    have c13b0 : decide (x10_2 < (x4_1.size : Int)) = true := decide_eq_true c13
                    clear c13
                    by_cases c14 : x9_2 = true
                    · subst c14
                      have H1 : (if 0 ≤ x10_2 then ((muslinref05_White.f (bt x4_1 x10_2)).bind fun t140 => (muslinref05_Decode.l1 k2 a0 x3_1 x4_1 x6_1 t138 t139 t140 (wrap64 (x10_2 + 1)))) else (none)) = some r := by rw [if_pos rfl] at H; exact H
                      clear H
                      have H := H1
                      clear H1
                      by_cases c15 : 0 ≤ x10_2
                      · rw [if_pos c15] at H
                        have c15b0 : decide (0 ≤ x10_2) = true := decide_eq_true c15
                        clear c15
                        replace H := Option.bind_eq_some_iff.mp H
                        obtain ⟨t140, A170, H⟩ := H
                        replace H : (muslinref05_Decode.l1 k2 a0 x3_1 x4_1 x6_1 t138 t139 t140 (wrap64 (x10_2 + 1))) = some r := H
                        have A17 := Aside0.mk A170
                        clear A170
                        have H' := Aside0.mk H
                        clear H
                        have p16 : 0 ≤ (x10_2 : Int) := of_decide_eq_true (by first | (with_reducible assumption) | assumption)
                        have q16 : x10_2 < (x4_1.size : Int) := of_decide_eq_true (by first | (with_reducible assumption) | assumption)
                        have hx16 := bt_at x4_1 x10_2
                        replace p16 := eq_true p16
                        replace q16 := eq_true q16
                        go_wp2_with (first | (go_at_call 35; (with_reducible refine (muslinref05_White.calls (bt x4_1 x10_2) t140 _ A17.out).mono ?_); rintro e w' ⟨rfl, ⟨nd, rfl⟩⟩))
                        go_roundg k2
                        case measure => have := HK1.out; have := HK2.out; omega
                        case rel => exact ⟨(t140), (wrap64 (x10_2 + 1)), (by first | rfl | (simp; done) | (simp [*]; done)), (by first | rfl | (simp; done) | (simp [*]; done)), H', ⟨by have := HK1.out; have := HK2.out; omega⟩, ⟨by repeat (first | (with_reducible first | exact HB.out | apply below_alloc | apply pw_below_drewN | apply below_drew1) | exact HB.out)⟩⟩
                      · rw [if_neg c15] at H
                        exact absurd H (by simp)
                    · replace c14 := Bool.eq_false_iff.mpr c14
                      subst c14
                      have H1 : (muslinref05_Decode.l1 k2 a0 x3_1 x4_1 x6_1 t138 t139 false (wrap64 (x10_2 + 1))) = some r := by rw [if_neg (show ¬ (false = true) by decide)] at H; exact H
                      clear H
                      have H := H1
                      clear H1
                      have H' := Aside0.mk H
                      clear H
                      go_wp2
                      go_roundg k2
                      case measure => have := HK1.out; have := HK2.out; omega
                      case rel => exact ⟨(false), (wrap64 (x10_2 + 1)), (by first | rfl | (simp; done) | (simp [*]; done)), (by first | rfl | (simp; done) | (simp [*]; done)), H', ⟨by have := HK1.out; have := HK2.out; omega⟩, ⟨by repeat (first | (with_reducible first | exact HB.out | apply below_alloc | apply pw_below_drewN | apply below_drew1) | exact HB.out)⟩⟩
                  · rw [if_neg c13] at H
                    have c13b0 : decide (x10_2 < (x4_1.size : Int)) = false := decide_eq_false c13
                    clear c13
                    by_cases c18 : x9_2 = true
                    · subst c18
                      have H1 : (if x3_1.size + t138.size ≤ 9223372036854775807 then (muslinref05_Decode.l0 k2 a0 (x3_1 ++ t138) (⟨#[]⟩ : ByteArray) true (wrap64 (x6_1 + t139))) else (none)) = some r := by rw [if_pos rfl] at H; exact H
                      clear H
                      have H := H1
                      clear H1
                      by_cases c19 : x3_1.size + t138.size ≤ 9223372036854775807
                      · rw [if_pos c19] at H
                        have c19b0 := eq_true c19
                        have c19b1 : decide (x3_1.size + t138.size ≤ 9223372036854775807) = true := decide_eq_true c19
                        try have c19b2 : (9223372036854775807 < x3_1.size + t138.size) = False := eq_false (Nat.not_lt.2 c19)
                        try (have c19b3 := c19; simp only [ByteArray.size_append] at c19b3)
                        have H' := Aside0.mk H
                        clear H
                        go_wp2
                        go_roundg k2
                        case measure => have := HK1.out; have := HK2.out; omega
                        case rel => exact ⟨(x3_1 ++ t138), ((⟨#[]⟩ : ByteArray)), (true), (wrap64 (x6_1 + t139)), (by first | rfl | (simp; done) | (simp [*]; done)), (by first | rfl | (simp; done) | (simp [*]; done)), (by first | rfl | (simp; done) | (simp [*]; done)), (by first | rfl | (simp; done) | (simp [*]; done)), H', ⟨by have := HK1.out; have := HK2.out; omega⟩, ⟨by repeat (first | (with_reducible first | exact HB.out | apply below_alloc | apply pw_below_drewN | apply below_drew1) | exact HB.out)⟩⟩
                      · rw [if_neg c19] at H
                        exact absurd H (by simp)
                    · replace c18 := Bool.eq_false_iff.mpr c18
                      subst c18
                      have H1 : ((muslinref04_Valid.f x4_1).bind fun t141 => (if x3_1.size + t141.size ≤ 9223372036854775807 then (if (x3_1 ++ t141).size + t138.size ≤ 9223372036854775807 then (muslinref05_Decode.l0 k2 a0 ((x3_1 ++ t141) ++ t138) (⟨#[]⟩ : ByteArray) true (wrap64 (x6_1 + t139))) else (none)) else (none))) = some r := by rw [if_neg (show ¬ (false = true) by decide)] at H; exact H
                      clear H
                      have H := H1
                      clear H1
                      replace H := Option.bind_eq_some_iff.mp H
                      obtain ⟨t141, A200, H⟩ := H
                      replace H : (if x3_1.size + t141.size ≤ 9223372036854775807 then (if (x3_1 ++ t141).size + t138.size ≤ 9223372036854775807 then (muslinref05_Decode.l0 k2 a0 ((x3_1 ++ t141) ++ t138) (⟨#[]⟩ : ByteArray) true (wrap64 (x6_1 + t139))) else (none)) else (none)) = some r := H
                      have A20 := Aside0.mk A200
                      clear A200
                      by_cases c21 : x3_1.size + t141.size ≤ 9223372036854775807
                      · rw [if_pos c21] at H
                        have c21b0 := eq_true c21
                        have c21b1 : decide (x3_1.size + t141.size ≤ 9223372036854775807) = true := decide_eq_true c21
                        try have c21b2 : (9223372036854775807 < x3_1.size + t141.size) = False := eq_false (Nat.not_lt.2 c21)
                        try (have c21b3 := c21; simp only [ByteArray.size_append] at c21b3)
                        by_cases c22 : (x3_1 ++ t141).size + t138.size ≤ 9223372036854775807
                        · rw [if_pos c22] at H
                          have c22b0 := eq_true c22
                          have c22b1 : decide ((x3_1 ++ t141).size + t138.size ≤ 9223372036854775807) = true := decide_eq_true c22
                          try have c22b2 : (9223372036854775807 < (x3_1 ++ t141).size + t138.size) = False := eq_false (Nat.not_lt.2 c22)
                          try (have c22b3 := c22; simp only [ByteArray.size_append] at c22b3)
                          have H' := Aside0.mk H
                          clear H
                          go_wp2_with (first | ((with_reducible refine gate_callee (f := 18) rfl ?_); refine goesL_ (some 51) rfl rfl Tryd.func18 (by kernel_rfl) rfl #[.string x4_1] rfl (by (try simp only [List.map_toArray, List.map_cons, List.map_nil]); first | done | rfl | (simp only [List.length_drop, List.length_take]; rfl)) ?_; (with_reducible refine (muslinref04_Valid.calls x4_1 t141 _ A20.out).mono ?_); rintro e w23 ⟨rfl, hb⟩; refine ⟨_, rfl, ?_⟩; have n0_ := Aside0.mk (below_step (by repeat (first | (with_reducible first | exact HB.out | apply below_alloc | apply pw_below_drewN | apply below_drew1) | exact HB.out)) hb); clear HB; have HB := n0_; clear n0_; (try clear hb); (try clear hb2); (try clear hk); (try clear hi)))
                          go_roundg k2
                          case measure => have := HK1.out; have := HK2.out; omega
                          case rel => exact ⟨((x3_1 ++ t141) ++ t138), ((⟨#[]⟩ : ByteArray)), (true), (wrap64 (x6_1 + t139)), (by first | rfl | (simp; done) | (simp [*]; done)), (by first | rfl | (simp; done) | (simp [*]; done)), (by first | rfl | (simp; done) | (simp [*]; done)), (by first | rfl | (simp; done) | (simp [*]; done)), H', ⟨by have := HK1.out; have := HK2.out; omega⟩, ⟨by repeat (first | (with_reducible first | exact HB.out | apply below_alloc | apply pw_below_drewN | apply below_drew1) | exact HB.out)⟩⟩
                        · rw [if_neg c22] at H
                          exact absurd H (by simp)
                      · rw [if_neg c21] at H
                        exact absurd H (by simp)
          · rw [if_neg c4] at H
            exact absurd H (by simp)
        · rw [if_neg c3] at H
          exact absurd H (by simp)
      · rw [if_neg c2] at H
        have c2b0 : decide (x6_1 < (a0.size : Int)) = false := decide_eq_false c2
        clear c2
        replace H := Option.bind_eq_some_iff.mp H
        obtain ⟨t137, A240, H⟩ := H
        replace H : (if x3_1.size + t137.size ≤ 9223372036854775807 then (some (x3_1 ++ t137)) else (none)) = some r := H
        have A24 := Aside0.mk A240
        clear A240
        by_cases c25 : x3_1.size + t137.size ≤ 9223372036854775807
        · rw [if_pos c25] at H
          have c25b0 := eq_true c25
          have c25b1 : decide (x3_1.size + t137.size ≤ 9223372036854775807) = true := decide_eq_true c25
          try have c25b2 : (9223372036854775807 < x3_1.size + t137.size) = False := eq_false (Nat.not_lt.2 c25)
          try (have c25b3 := c25; simp only [ByteArray.size_append] at c25b3)
          obtain rfl := Option.some.inj H
          go_wp2_with (first | ((with_reducible refine gate_callee (f := 18) rfl ?_); refine goesL_ (some 61) rfl rfl Tryd.func18 (by kernel_rfl) rfl #[.string x4_1] rfl (by (try simp only [List.map_toArray, List.map_cons, List.map_nil]); first | done | rfl | (simp only [List.length_drop, List.length_take]; rfl)) ?_; (with_reducible refine (muslinref04_Valid.calls x4_1 t137 _ A24.out).mono ?_); rintro e w26 ⟨rfl, hb⟩; refine ⟨_, rfl, ?_⟩; have n0_ := Aside0.mk (below_step (by repeat (first | (with_reducible first | exact HB.out | apply below_alloc | apply pw_below_drewN | apply below_drew1) | exact HB.out)) hb); clear HB; have HB := n0_; clear n0_; (try clear hb); (try clear hb2); (try clear hk); (try clear hi)))
          go_ret
          exact ⟨by first | rfl | (simp [errW_none, errW_some] <;> rfl) | (simp [*, errW_none, errW_some] <;> rfl), by repeat (first | (with_reducible first | exact HB.out | apply below_alloc | apply pw_below_drewN | apply below_drew1) | exact HB.out)⟩
        · rw [if_neg c25] at H
          exact absurd H (by simp)
def muslinlaw05_WordDecodes.f (k : Nat) (a0 : ByteArray) : Option (Bool) := (muslinlaw05_short.f a0).bind fun t142 => (if t142 = true then ((word_One.f a0).bind fun bt144 => ((muslinref05_One.f k a0).bind fun bt146 => ((word_Decode.f a0).bind fun t148 => ((muslinref05_Decode.f k a0).bind fun t149 => (if t148.toList = t149.toList then (if bt144.1.toList = bt146.1.toList then (if bt144.2 = bt146.2 then ((muslinlaw05_live.f).bind fun t150 => (some t150)) else (some false)) else (some false)) else (some false)))))) else ((muslinlaw05_live.f).bind fun t143 => (some t143)))
set_option maxHeartbeats 8000000 in
set_option maxRecDepth 100000 in
theorem muslinlaw05_WordDecodes.calls (k : Nat) (a0 : ByteArray) (r : Bool) (w : World) (hGl : Glob w) (h : muslinlaw05_WordDecodes.f k a0 = some r) :
    Calls Tryd.prog 3 #[.string a0] w fun e w' => e = .returned (.bool r) ∧ Below w.heap.size w w' := by
  have HGl := Aside0.mk hGl
  clear hGl
  have HB := Aside0.mk (Below.refl w.heap.size w)
  have H : ((muslinlaw05_short.f a0).bind fun t142 => (if t142 = true then ((word_One.f a0).bind fun bt144 => ((muslinref05_One.f k a0).bind fun bt146 => ((word_Decode.f a0).bind fun t148 => ((muslinref05_Decode.f k a0).bind fun t149 => (if t148.toList = t149.toList then (if bt144.1.toList = bt146.1.toList then (if bt144.2 = bt146.2 then ((muslinlaw05_live.f).bind fun t150 => (some t150)) else (some false)) else (some false)) else (some false)))))) else ((muslinlaw05_live.f).bind fun t143 => (some t143)))) = some r := h
  clear h
  replace H := Option.bind_eq_some_iff.mp H
  obtain ⟨t142, A20, H⟩ := H
  replace H : (if t142 = true then ((word_One.f a0).bind fun bt144 => ((muslinref05_One.f k a0).bind fun bt146 => ((word_Decode.f a0).bind fun t148 => ((muslinref05_Decode.f k a0).bind fun t149 => (if t148.toList = t149.toList then (if bt144.1.toList = bt146.1.toList then (if bt144.2 = bt146.2 then ((muslinlaw05_live.f).bind fun t150 => (some t150)) else (some false)) else (some false)) else (some false)))))) else ((muslinlaw05_live.f).bind fun t143 => (some t143))) = some r := H
  have A2 := Aside0.mk A20
  clear A20
  by_cases c3 : t142 = true
  · subst c3
    have H1 : ((word_One.f a0).bind fun bt144 => ((muslinref05_One.f k a0).bind fun bt146 => ((word_Decode.f a0).bind fun t148 => ((muslinref05_Decode.f k a0).bind fun t149 => (if t148.toList = t149.toList then (if bt144.1.toList = bt146.1.toList then (if bt144.2 = bt146.2 then ((muslinlaw05_live.f).bind fun t150 => (some t150)) else (some false)) else (some false)) else (some false)))))) = some r := by rw [if_pos rfl] at H; exact H
    clear H
    have H := H1
    clear H1
    replace H := Option.bind_eq_some_iff.mp H
    obtain ⟨⟨t144, t145⟩, A40, H⟩ := H
    replace H : ((muslinref05_One.f k a0).bind fun bt146 => ((word_Decode.f a0).bind fun t148 => ((muslinref05_Decode.f k a0).bind fun t149 => (if t148.toList = t149.toList then (if t144.toList = bt146.1.toList then (if t145 = bt146.2 then ((muslinlaw05_live.f).bind fun t150 => (some t150)) else (some false)) else (some false)) else (some false))))) = some r := H
    have A4 := Aside0.mk A40
    clear A40
    replace H := Option.bind_eq_some_iff.mp H
    obtain ⟨⟨t146, t147⟩, A50, H⟩ := H
    replace H : ((word_Decode.f a0).bind fun t148 => ((muslinref05_Decode.f k a0).bind fun t149 => (if t148.toList = t149.toList then (if t144.toList = t146.toList then (if t145 = t147 then ((muslinlaw05_live.f).bind fun t150 => (some t150)) else (some false)) else (some false)) else (some false)))) = some r := H
    have A5 := Aside0.mk A50
    clear A50
    replace H := Option.bind_eq_some_iff.mp H
    obtain ⟨t148, A60, H⟩ := H
    replace H : ((muslinref05_Decode.f k a0).bind fun t149 => (if t148.toList = t149.toList then (if t144.toList = t146.toList then (if t145 = t147 then ((muslinlaw05_live.f).bind fun t150 => (some t150)) else (some false)) else (some false)) else (some false))) = some r := H
    have A6 := Aside0.mk A60
    clear A60
    replace H := Option.bind_eq_some_iff.mp H
    obtain ⟨t149, A70, H⟩ := H
    replace H : (if t148.toList = t149.toList then (if t144.toList = t146.toList then (if t145 = t147 then ((muslinlaw05_live.f).bind fun t150 => (some t150)) else (some false)) else (some false)) else (some false)) = some r := H
    have A7 := Aside0.mk A70
    clear A70
    by_cases c8 : t148.toList = t149.toList
    · rw [if_pos c8] at H
      have c8b0 : (t148.toList == t149.toList) = true := beq_iff_eq.mpr c8
      have c8b1 : (t148.toList != t149.toList) = false := bne_eq_false_iff_eq.mpr c8
      clear c8
      by_cases c9 : t144.toList = t146.toList
      · rw [if_pos c9] at H
        have c9b0 : (t144.toList == t146.toList) = true := beq_iff_eq.mpr c9
        have c9b1 : (t144.toList != t146.toList) = false := bne_eq_false_iff_eq.mpr c9
        clear c9
        by_cases c10 : t145 = t147
        · rw [if_pos c10] at H
          have c10b0 : (t145 == t147) = true := beq_iff_eq.mpr c10
          have c10b1 : (t145 != t147) = false := bne_eq_false_iff_eq.mpr c10
          clear c10
          replace H := Option.bind_eq_some_iff.mp H
          obtain ⟨t150, A110, H⟩ := H
          replace H : (some t150) = some r := H
          have A11 := Aside0.mk A110
          clear A110
          obtain rfl := Option.some.inj H
          go_enter Tryd.func3, Tryd.ntmps3
          go_wp2_with (first | ((with_reducible refine gate_callee (f := 9) rfl ?_); refine goesL_ (some 8) rfl rfl Tryd.func9 (by kernel_rfl) rfl #[.string a0] rfl (by (try simp only [List.map_toArray, List.map_cons, List.map_nil]); first | done | rfl | (simp only [List.length_drop, List.length_take]; rfl)) ?_; (with_reducible refine (muslinlaw05_short.calls a0 true _ A2.out).mono ?_); rintro e w' ⟨rfl, ⟨nd, rfl⟩⟩; refine ⟨_, rfl, ?_⟩) | ((with_reducible refine gate_callee (f := 11) rfl ?_); refine goesL_ (some 13) rfl rfl Tryd.func11 (by kernel_rfl) rfl #[.string a0] rfl (by (try simp only [List.map_toArray, List.map_cons, List.map_nil]); first | done | rfl | (simp only [List.length_drop, List.length_take]; rfl)) ?_; (with_reducible refine (word_One.calls a0 t144 t145 _ ?sideGl A4.out).mono ?_); (case sideGl => exact HGl.out.below (by repeat (first | (with_reducible first | exact HB.out | apply below_alloc | apply pw_below_drewN | apply below_drew1) | exact HB.out))); rintro e w12 ⟨rfl, hb⟩; refine ⟨_, rfl, ?_⟩; have n0_ := Aside0.mk (below_step (by repeat (first | (with_reducible first | exact HB.out | apply below_alloc | apply pw_below_drewN | apply below_drew1) | exact HB.out)) hb); clear HB; have HB := n0_; clear n0_; (try clear hb); (try clear hb2); (try clear hk); (try clear hi)) | ((with_reducible refine gate_callee (f := 12) rfl ?_); refine goesL_ (some 18) rfl rfl Tryd.func12 (by kernel_rfl) rfl #[.string a0] rfl (by (try simp only [List.map_toArray, List.map_cons, List.map_nil]); first | done | rfl | (simp only [List.length_drop, List.length_take]; rfl)) ?_; (with_reducible refine (muslinref05_One.calls k a0 t146 t147 _ A5.out).mono ?_); rintro e w13 ⟨rfl, hb⟩; refine ⟨_, rfl, ?_⟩; have n0_ := Aside0.mk (below_step (by repeat (first | (with_reducible first | exact HB.out | apply below_alloc | apply pw_below_drewN | apply below_drew1) | exact HB.out)) hb); clear HB; have HB := n0_; clear n0_; (try clear hb); (try clear hb2); (try clear hk); (try clear hi)) | ((with_reducible refine gate_callee (f := 13) rfl ?_); refine goesL_ (some 22) rfl rfl Tryd.func13 (by kernel_rfl) rfl #[.string a0] rfl (by (try simp only [List.map_toArray, List.map_cons, List.map_nil]); first | done | rfl | (simp only [List.length_drop, List.length_take]; rfl)) ?_; (with_reducible refine (word_Decode.calls a0 t148 _ ?sideGl A6.out).mono ?_); (case sideGl => exact HGl.out.below (by repeat (first | (with_reducible first | exact HB.out | apply below_alloc | apply pw_below_drewN | apply below_drew1) | exact HB.out))); rintro e w14 ⟨rfl, hb⟩; refine ⟨_, rfl, ?_⟩; have n0_ := Aside0.mk (below_step (by repeat (first | (with_reducible first | exact HB.out | apply below_alloc | apply pw_below_drewN | apply below_drew1) | exact HB.out)) hb); clear HB; have HB := n0_; clear n0_; (try clear hb); (try clear hb2); (try clear hk); (try clear hi)) | ((with_reducible refine gate_callee (f := 14) rfl ?_); refine goesL_ (some 24) rfl rfl Tryd.func14 (by kernel_rfl) rfl #[.string a0] rfl (by (try simp only [List.map_toArray, List.map_cons, List.map_nil]); first | done | rfl | (simp only [List.length_drop, List.length_take]; rfl)) ?_; (with_reducible refine (muslinref05_Decode.calls k a0 t149 _ A7.out).mono ?_); rintro e w15 ⟨rfl, hb⟩; refine ⟨_, rfl, ?_⟩; have n0_ := Aside0.mk (below_step (by repeat (first | (with_reducible first | exact HB.out | apply below_alloc | apply pw_below_drewN | apply below_drew1) | exact HB.out)) hb); clear HB; have HB := n0_; clear n0_; (try clear hb); (try clear hb2); (try clear hk); (try clear hi)) | (go_at_call 10; (with_reducible refine (muslinlaw05_live.calls  t150 _ ?sideGl A11.out).mono ?_); (case sideGl => exact HGl.out.below (by repeat (first | (with_reducible first | exact HB.out | apply below_alloc | apply pw_below_drewN | apply below_drew1) | exact HB.out))); rintro e w16 ⟨rfl, hb⟩; have n0_ := Aside0.mk (below_step (by repeat (first | (with_reducible first | exact HB.out | apply below_alloc | apply pw_below_drewN | apply below_drew1) | exact HB.out)) hb); clear HB; have HB := n0_; clear n0_; (try clear hb); (try clear hb2); (try clear hk); (try clear hi)))
          go_ret
          exact ⟨by first | rfl | (simp [errW_none, errW_some] <;> rfl) | (simp [*, errW_none, errW_some] <;> rfl), by repeat (first | (with_reducible first | exact HB.out | apply below_alloc | apply pw_below_drewN | apply below_drew1) | exact HB.out)⟩
        · rw [if_neg c10] at H
          have c10b0 : (t145 == t147) = false := beq_eq_false_iff_ne.mpr c10
          have c10b1 : (t145 != t147) = true := bne_iff_ne.mpr c10
          obtain rfl := Option.some.inj H
          go_enter Tryd.func3, Tryd.ntmps3
          go_wp2_with (first | ((with_reducible refine gate_callee (f := 9) rfl ?_); refine goesL_ (some 8) rfl rfl Tryd.func9 (by kernel_rfl) rfl #[.string a0] rfl (by (try simp only [List.map_toArray, List.map_cons, List.map_nil]); first | done | rfl | (simp only [List.length_drop, List.length_take]; rfl)) ?_; (with_reducible refine (muslinlaw05_short.calls a0 true _ A2.out).mono ?_); rintro e w' ⟨rfl, ⟨nd, rfl⟩⟩; refine ⟨_, rfl, ?_⟩) | ((with_reducible refine gate_callee (f := 11) rfl ?_); refine goesL_ (some 13) rfl rfl Tryd.func11 (by kernel_rfl) rfl #[.string a0] rfl (by (try simp only [List.map_toArray, List.map_cons, List.map_nil]); first | done | rfl | (simp only [List.length_drop, List.length_take]; rfl)) ?_; (with_reducible refine (word_One.calls a0 t144 t145 _ ?sideGl A4.out).mono ?_); (case sideGl => exact HGl.out.below (by repeat (first | (with_reducible first | exact HB.out | apply below_alloc | apply pw_below_drewN | apply below_drew1) | exact HB.out))); rintro e w17 ⟨rfl, hb⟩; refine ⟨_, rfl, ?_⟩; have n0_ := Aside0.mk (below_step (by repeat (first | (with_reducible first | exact HB.out | apply below_alloc | apply pw_below_drewN | apply below_drew1) | exact HB.out)) hb); clear HB; have HB := n0_; clear n0_; (try clear hb); (try clear hb2); (try clear hk); (try clear hi)) | ((with_reducible refine gate_callee (f := 12) rfl ?_); refine goesL_ (some 18) rfl rfl Tryd.func12 (by kernel_rfl) rfl #[.string a0] rfl (by (try simp only [List.map_toArray, List.map_cons, List.map_nil]); first | done | rfl | (simp only [List.length_drop, List.length_take]; rfl)) ?_; (with_reducible refine (muslinref05_One.calls k a0 t146 t147 _ A5.out).mono ?_); rintro e w18 ⟨rfl, hb⟩; refine ⟨_, rfl, ?_⟩; have n0_ := Aside0.mk (below_step (by repeat (first | (with_reducible first | exact HB.out | apply below_alloc | apply pw_below_drewN | apply below_drew1) | exact HB.out)) hb); clear HB; have HB := n0_; clear n0_; (try clear hb); (try clear hb2); (try clear hk); (try clear hi)) | ((with_reducible refine gate_callee (f := 13) rfl ?_); refine goesL_ (some 22) rfl rfl Tryd.func13 (by kernel_rfl) rfl #[.string a0] rfl (by (try simp only [List.map_toArray, List.map_cons, List.map_nil]); first | done | rfl | (simp only [List.length_drop, List.length_take]; rfl)) ?_; (with_reducible refine (word_Decode.calls a0 t148 _ ?sideGl A6.out).mono ?_); (case sideGl => exact HGl.out.below (by repeat (first | (with_reducible first | exact HB.out | apply below_alloc | apply pw_below_drewN | apply below_drew1) | exact HB.out))); rintro e w19 ⟨rfl, hb⟩; refine ⟨_, rfl, ?_⟩; have n0_ := Aside0.mk (below_step (by repeat (first | (with_reducible first | exact HB.out | apply below_alloc | apply pw_below_drewN | apply below_drew1) | exact HB.out)) hb); clear HB; have HB := n0_; clear n0_; (try clear hb); (try clear hb2); (try clear hk); (try clear hi)) | ((with_reducible refine gate_callee (f := 14) rfl ?_); refine goesL_ (some 24) rfl rfl Tryd.func14 (by kernel_rfl) rfl #[.string a0] rfl (by (try simp only [List.map_toArray, List.map_cons, List.map_nil]); first | done | rfl | (simp only [List.length_drop, List.length_take]; rfl)) ?_; (with_reducible refine (muslinref05_Decode.calls k a0 t149 _ A7.out).mono ?_); rintro e w20 ⟨rfl, hb⟩; refine ⟨_, rfl, ?_⟩; have n0_ := Aside0.mk (below_step (by repeat (first | (with_reducible first | exact HB.out | apply below_alloc | apply pw_below_drewN | apply below_drew1) | exact HB.out)) hb); clear HB; have HB := n0_; clear n0_; (try clear hb); (try clear hb2); (try clear hk); (try clear hi)))
          go_ret
          exact ⟨by first | rfl | (simp [errW_none, errW_some] <;> rfl) | (simp [*, errW_none, errW_some] <;> rfl), by repeat (first | (with_reducible first | exact HB.out | apply below_alloc | apply pw_below_drewN | apply below_drew1) | exact HB.out)⟩
      · rw [if_neg c9] at H
        have c9b0 : (t144.toList == t146.toList) = false := beq_eq_false_iff_ne.mpr c9
        have c9b1 : (t144.toList != t146.toList) = true := bne_iff_ne.mpr c9
        obtain rfl := Option.some.inj H
        go_enter Tryd.func3, Tryd.ntmps3
        go_wp2_with (first | ((with_reducible refine gate_callee (f := 9) rfl ?_); refine goesL_ (some 8) rfl rfl Tryd.func9 (by kernel_rfl) rfl #[.string a0] rfl (by (try simp only [List.map_toArray, List.map_cons, List.map_nil]); first | done | rfl | (simp only [List.length_drop, List.length_take]; rfl)) ?_; (with_reducible refine (muslinlaw05_short.calls a0 true _ A2.out).mono ?_); rintro e w' ⟨rfl, ⟨nd, rfl⟩⟩; refine ⟨_, rfl, ?_⟩) | ((with_reducible refine gate_callee (f := 11) rfl ?_); refine goesL_ (some 13) rfl rfl Tryd.func11 (by kernel_rfl) rfl #[.string a0] rfl (by (try simp only [List.map_toArray, List.map_cons, List.map_nil]); first | done | rfl | (simp only [List.length_drop, List.length_take]; rfl)) ?_; (with_reducible refine (word_One.calls a0 t144 t145 _ ?sideGl A4.out).mono ?_); (case sideGl => exact HGl.out.below (by repeat (first | (with_reducible first | exact HB.out | apply below_alloc | apply pw_below_drewN | apply below_drew1) | exact HB.out))); rintro e w21 ⟨rfl, hb⟩; refine ⟨_, rfl, ?_⟩; have n0_ := Aside0.mk (below_step (by repeat (first | (with_reducible first | exact HB.out | apply below_alloc | apply pw_below_drewN | apply below_drew1) | exact HB.out)) hb); clear HB; have HB := n0_; clear n0_; (try clear hb); (try clear hb2); (try clear hk); (try clear hi)) | ((with_reducible refine gate_callee (f := 12) rfl ?_); refine goesL_ (some 18) rfl rfl Tryd.func12 (by kernel_rfl) rfl #[.string a0] rfl (by (try simp only [List.map_toArray, List.map_cons, List.map_nil]); first | done | rfl | (simp only [List.length_drop, List.length_take]; rfl)) ?_; (with_reducible refine (muslinref05_One.calls k a0 t146 t147 _ A5.out).mono ?_); rintro e w22 ⟨rfl, hb⟩; refine ⟨_, rfl, ?_⟩; have n0_ := Aside0.mk (below_step (by repeat (first | (with_reducible first | exact HB.out | apply below_alloc | apply pw_below_drewN | apply below_drew1) | exact HB.out)) hb); clear HB; have HB := n0_; clear n0_; (try clear hb); (try clear hb2); (try clear hk); (try clear hi)) | ((with_reducible refine gate_callee (f := 13) rfl ?_); refine goesL_ (some 22) rfl rfl Tryd.func13 (by kernel_rfl) rfl #[.string a0] rfl (by (try simp only [List.map_toArray, List.map_cons, List.map_nil]); first | done | rfl | (simp only [List.length_drop, List.length_take]; rfl)) ?_; (with_reducible refine (word_Decode.calls a0 t148 _ ?sideGl A6.out).mono ?_); (case sideGl => exact HGl.out.below (by repeat (first | (with_reducible first | exact HB.out | apply below_alloc | apply pw_below_drewN | apply below_drew1) | exact HB.out))); rintro e w23 ⟨rfl, hb⟩; refine ⟨_, rfl, ?_⟩; have n0_ := Aside0.mk (below_step (by repeat (first | (with_reducible first | exact HB.out | apply below_alloc | apply pw_below_drewN | apply below_drew1) | exact HB.out)) hb); clear HB; have HB := n0_; clear n0_; (try clear hb); (try clear hb2); (try clear hk); (try clear hi)) | ((with_reducible refine gate_callee (f := 14) rfl ?_); refine goesL_ (some 24) rfl rfl Tryd.func14 (by kernel_rfl) rfl #[.string a0] rfl (by (try simp only [List.map_toArray, List.map_cons, List.map_nil]); first | done | rfl | (simp only [List.length_drop, List.length_take]; rfl)) ?_; (with_reducible refine (muslinref05_Decode.calls k a0 t149 _ A7.out).mono ?_); rintro e w24 ⟨rfl, hb⟩; refine ⟨_, rfl, ?_⟩; have n0_ := Aside0.mk (below_step (by repeat (first | (with_reducible first | exact HB.out | apply below_alloc | apply pw_below_drewN | apply below_drew1) | exact HB.out)) hb); clear HB; have HB := n0_; clear n0_; (try clear hb); (try clear hb2); (try clear hk); (try clear hi)))
        go_ret
        exact ⟨by first | rfl | (simp [errW_none, errW_some] <;> rfl) | (simp [*, errW_none, errW_some] <;> rfl), by repeat (first | (with_reducible first | exact HB.out | apply below_alloc | apply pw_below_drewN | apply below_drew1) | exact HB.out)⟩
    · rw [if_neg c8] at H
      have c8b0 : (t148.toList == t149.toList) = false := beq_eq_false_iff_ne.mpr c8
      have c8b1 : (t148.toList != t149.toList) = true := bne_iff_ne.mpr c8
      obtain rfl := Option.some.inj H
      go_enter Tryd.func3, Tryd.ntmps3
      go_wp2_with (first | ((with_reducible refine gate_callee (f := 9) rfl ?_); refine goesL_ (some 8) rfl rfl Tryd.func9 (by kernel_rfl) rfl #[.string a0] rfl (by (try simp only [List.map_toArray, List.map_cons, List.map_nil]); first | done | rfl | (simp only [List.length_drop, List.length_take]; rfl)) ?_; (with_reducible refine (muslinlaw05_short.calls a0 true _ A2.out).mono ?_); rintro e w' ⟨rfl, ⟨nd, rfl⟩⟩; refine ⟨_, rfl, ?_⟩) | ((with_reducible refine gate_callee (f := 11) rfl ?_); refine goesL_ (some 13) rfl rfl Tryd.func11 (by kernel_rfl) rfl #[.string a0] rfl (by (try simp only [List.map_toArray, List.map_cons, List.map_nil]); first | done | rfl | (simp only [List.length_drop, List.length_take]; rfl)) ?_; (with_reducible refine (word_One.calls a0 t144 t145 _ ?sideGl A4.out).mono ?_); (case sideGl => exact HGl.out.below (by repeat (first | (with_reducible first | exact HB.out | apply below_alloc | apply pw_below_drewN | apply below_drew1) | exact HB.out))); rintro e w25 ⟨rfl, hb⟩; refine ⟨_, rfl, ?_⟩; have n0_ := Aside0.mk (below_step (by repeat (first | (with_reducible first | exact HB.out | apply below_alloc | apply pw_below_drewN | apply below_drew1) | exact HB.out)) hb); clear HB; have HB := n0_; clear n0_; (try clear hb); (try clear hb2); (try clear hk); (try clear hi)) | ((with_reducible refine gate_callee (f := 12) rfl ?_); refine goesL_ (some 18) rfl rfl Tryd.func12 (by kernel_rfl) rfl #[.string a0] rfl (by (try simp only [List.map_toArray, List.map_cons, List.map_nil]); first | done | rfl | (simp only [List.length_drop, List.length_take]; rfl)) ?_; (with_reducible refine (muslinref05_One.calls k a0 t146 t147 _ A5.out).mono ?_); rintro e w26 ⟨rfl, hb⟩; refine ⟨_, rfl, ?_⟩; have n0_ := Aside0.mk (below_step (by repeat (first | (with_reducible first | exact HB.out | apply below_alloc | apply pw_below_drewN | apply below_drew1) | exact HB.out)) hb); clear HB; have HB := n0_; clear n0_; (try clear hb); (try clear hb2); (try clear hk); (try clear hi)) | ((with_reducible refine gate_callee (f := 13) rfl ?_); refine goesL_ (some 22) rfl rfl Tryd.func13 (by kernel_rfl) rfl #[.string a0] rfl (by (try simp only [List.map_toArray, List.map_cons, List.map_nil]); first | done | rfl | (simp only [List.length_drop, List.length_take]; rfl)) ?_; (with_reducible refine (word_Decode.calls a0 t148 _ ?sideGl A6.out).mono ?_); (case sideGl => exact HGl.out.below (by repeat (first | (with_reducible first | exact HB.out | apply below_alloc | apply pw_below_drewN | apply below_drew1) | exact HB.out))); rintro e w27 ⟨rfl, hb⟩; refine ⟨_, rfl, ?_⟩; have n0_ := Aside0.mk (below_step (by repeat (first | (with_reducible first | exact HB.out | apply below_alloc | apply pw_below_drewN | apply below_drew1) | exact HB.out)) hb); clear HB; have HB := n0_; clear n0_; (try clear hb); (try clear hb2); (try clear hk); (try clear hi)) | ((with_reducible refine gate_callee (f := 14) rfl ?_); refine goesL_ (some 24) rfl rfl Tryd.func14 (by kernel_rfl) rfl #[.string a0] rfl (by (try simp only [List.map_toArray, List.map_cons, List.map_nil]); first | done | rfl | (simp only [List.length_drop, List.length_take]; rfl)) ?_; (with_reducible refine (muslinref05_Decode.calls k a0 t149 _ A7.out).mono ?_); rintro e w28 ⟨rfl, hb⟩; refine ⟨_, rfl, ?_⟩; have n0_ := Aside0.mk (below_step (by repeat (first | (with_reducible first | exact HB.out | apply below_alloc | apply pw_below_drewN | apply below_drew1) | exact HB.out)) hb); clear HB; have HB := n0_; clear n0_; (try clear hb); (try clear hb2); (try clear hk); (try clear hi)))
      go_ret
      exact ⟨by first | rfl | (simp [errW_none, errW_some] <;> rfl) | (simp [*, errW_none, errW_some] <;> rfl), by repeat (first | (with_reducible first | exact HB.out | apply below_alloc | apply pw_below_drewN | apply below_drew1) | exact HB.out)⟩
  · replace c3 := Bool.eq_false_iff.mpr c3
    subst c3
    have H1 : ((muslinlaw05_live.f).bind fun t143 => (some t143)) = some r := by rw [if_neg (show ¬ (false = true) by decide)] at H; exact H
    clear H
    have H := H1
    clear H1
    replace H := Option.bind_eq_some_iff.mp H
    obtain ⟨t143, A290, H⟩ := H
    replace H : (some t143) = some r := H
    have A29 := Aside0.mk A290
    clear A290
    obtain rfl := Option.some.inj H
    go_enter Tryd.func3, Tryd.ntmps3
    go_wp2_with (first | ((with_reducible refine gate_callee (f := 9) rfl ?_); refine goesL_ (some 8) rfl rfl Tryd.func9 (by kernel_rfl) rfl #[.string a0] rfl (by (try simp only [List.map_toArray, List.map_cons, List.map_nil]); first | done | rfl | (simp only [List.length_drop, List.length_take]; rfl)) ?_; (with_reducible refine (muslinlaw05_short.calls a0 false _ A2.out).mono ?_); rintro e w' ⟨rfl, ⟨nd, rfl⟩⟩; refine ⟨_, rfl, ?_⟩) | ((with_reducible refine gate_callee (f := 10) rfl ?_); refine goesL_ (some 10) rfl rfl Tryd.func10 (by kernel_rfl) rfl #[] rfl (by (try simp only [List.map_toArray, List.map_cons, List.map_nil]); first | done | rfl | (simp only [List.length_drop, List.length_take]; rfl)) ?_; (with_reducible refine (muslinlaw05_live.calls  t143 _ ?sideGl A29.out).mono ?_); (case sideGl => exact HGl.out.below (by repeat (first | (with_reducible first | exact HB.out | apply below_alloc | apply pw_below_drewN | apply below_drew1) | exact HB.out))); rintro e w30 ⟨rfl, hb⟩; refine ⟨_, rfl, ?_⟩; have n0_ := Aside0.mk (below_step (by repeat (first | (with_reducible first | exact HB.out | apply below_alloc | apply pw_below_drewN | apply below_drew1) | exact HB.out)) hb); clear HB; have HB := n0_; clear n0_; (try clear hb); (try clear hb2); (try clear hk); (try clear hi)))
    go_ret
    exact ⟨by first | rfl | (simp [errW_none, errW_some] <;> rfl) | (simp [*, errW_none, errW_some] <;> rfl), by repeat (first | (with_reducible first | exact HB.out | apply below_alloc | apply pw_below_drewN | apply below_drew1) | exact HB.out)⟩
def muslinlaw05_WordDecodes.Pure : Prop := ∀ (a0 : ByteArray), a0.size ≤ 140737488351232 → ∃ k, muslinlaw05_WordDecodes.f k a0 = some true
theorem muslinlaw05_WordDecodes.walk (P : muslinlaw05_WordDecodes.Pure) (a0 : ByteArray) (w : World) (hGl : Glob w) (w0 : a0.size ≤ 140737488351232) :
    Calls Tryd.prog 3 #[.string a0] w fun e w' => e = .returned (.bool true) ∧ Below w.heap.size w w' := by
  obtain ⟨k, h⟩ := P a0 w0
  refine (muslinlaw05_WordDecodes.calls k a0 true w hGl h).mono ?_
  rintro e w' ⟨rfl, hd⟩
  exact ⟨rfl, hd⟩
end Go.Proofs.YtokkgjiofhhlkaaDoor.P
namespace Go.Proofs.YtokkgjiofhhlkaaDoor.Pure
open Go.RowKit Go.Lib Go.Proofs.YtokkgjiofhhlkaaDoor Go.Proofs.YtokkgjiofhhlkaaDoor.P Go.Proofs.YtokkgjiofhhlkaaDoor.WordL Go.Proofs.YtokkgjiofhhlkaaDoorW.PrintWords Go.Proofs.YtokkgjiofhhlkaaDoorW.PrintLast
theorem live_is : muslinlaw05_live.f = some true := by kernel_rfl
theorem live_end : Ev (fun k => (muslinlaw05_live.f).bind fun t => some t) true := by rw [live_is]; exact Ev.now _
theorem short_yes (a : ByteArray) (h : a.size ≤ 2000) : muslinlaw05_short.f a = some true := by
  unfold muslinlaw05_short.f
  have : ((a.size : Int) ≤ 2000) := by omega
  simp [this]
theorem short_no (a : ByteArray) (h : ¬ a.size ≤ 2000) : muslinlaw05_short.f a = some false := by
  unfold muslinlaw05_short.f
  have : ¬ ((a.size : Int) ≤ 2000) := by omega
  simp [this]
theorem at_end {s : ByteArray} {i : Nat} (h : s.data.toList.drop i = []) : s.size ≤ i := by
  have := congrArg List.length h
  rw [List.length_drop, sizeL, List.length_nil] at this; omega
theorem at_drop {s : ByteArray} {i : Nat} {c : UInt8} {r : List UInt8} (h : s.data.toList.drop i = c :: r) : bt s (i : Int) = (c.toNat : Int) ∧ i < s.size ∧ s.data.toList.drop (i + 1) = r := by
  have hz : i < s.size := by
    rcases Nat.lt_or_ge i s.size with h1 | h1
    · exact h1
    · rw [List.drop_eq_nil_of_le (by rw [sizeL]; exact h1)] at h; cases h
  have hl : i < s.data.toList.length := by rw [sizeL]; exact hz
  have e := List.drop_eq_getElem_cons hl
  rw [h] at e
  injection e with e1 e2
  exact ⟨by rw [bt_get s i hl, ← e1], hz, e2.symm⟩
end Go.Proofs.YtokkgjiofhhlkaaDoor.Pure
namespace Go.Proofs.YtokkgjiofhhlkaaDoor.Pure
open Go.RowKit Go.Lib Go.Proofs.YtokkgjiofhhlkaaDoor Go.Proofs.YtokkgjiofhhlkaaDoor.P Go.Proofs.YtokkgjiofhhlkaaDoor.WordL Go.Proofs.YtokkgjiofhhlkaaDoorW.PrintWords Go.Proofs.YtokkgjiofhhlkaaDoorW.PrintLast Go.Proofs.YtokkgjiofhhlkaaDoorW.PrintMore
theorem hex_all : ∀ c : Fin 256, muslinref02_Hex.f 3 (c.val : Int) = some (WordQ.hexW (UInt8.ofNat c.val)) := by decide +kernel
theorem hex_is (c : UInt8) : Ev (fun k => muslinref02_Hex.f k (c.toNat : Int)) (WordQ.hexW c) := by
  have h := hex_all ⟨c.toNat, UInt8.toNat_lt c⟩
  simp only at h
  rw [show UInt8.ofNat c.toNat = c by simp] at h
  exact Ev.of (fun k => muslinref02_Hex.mono _ k) h
theorem quoted_short (c : UInt8) (r : List UInt8) (h : r.length ≤ 1) : WordQ.quotedL (c :: r) = (if c = 95 then 32 else c) :: WordQ.quotedL r := by
  match r, h with
  | [], _ => rfl
  | [d], _ => rfl
  | a :: b :: r', h => simp only [List.length_cons] at h; omega
theorem quoted_no (c : UInt8) (r : List UInt8) (h : c ≠ 61) : WordQ.quotedL (c :: r) = (if c = 95 then 32 else c) :: WordQ.quotedL r := by
  match r with
  | [] => rfl
  | [d] => rfl
  | a :: b :: r' => simp only [WordQ.quotedL]; rw [if_neg (fun hh => h hh.1)]
theorem quoted_loop (s : ByteArray) (hs : s.size ≤ 1000000) : ∀ (n i : Nat) (acc : List UInt8), s.size - i ≤ n → i ≤ s.size → acc.length ≤ i → acc ++ WordQ.quotedL (s.data.toList.drop i) = WordQ.quotedL s.data.toList →
    Ev (fun k => muslinref05_quoted.l0 k s (intsOf acc) (i : Int)) (⟨(WordQ.quotedL s.data.toList).toArray⟩ : ByteArray) := by
  have hl : s.data.toList.length = s.size := sizeL s
  have fin : ∀ (i : Nat) (acc : List UInt8), s.size ≤ i → acc ++ WordQ.quotedL (s.data.toList.drop i) = WordQ.quotedL s.data.toList → Ev (fun k => muslinref05_quoted.l0 k s (intsOf acc) (i : Int)) (⟨(WordQ.quotedL s.data.toList).toArray⟩ : ByteArray) := by
    intro i acc hi he
    rw [List.drop_eq_nil_of_le (by omega)] at he
    simp only [WordQ.quotedL, List.append_nil] at he
    refine Ev.round (fun k => by rw [muslinref05_quoted.l0]) ?_
    refine Ev.neg (by omega) ?_
    rw [strOf_ints, he]; exact Ev.now _
  intro n
  induction n with
  | zero => intro i acc h1 h2 h3 h4; exact fin i acc (by omega) h4
  | succ n ih =>
    intro i acc h1 h2 h3 h4
    cases hd : s.data.toList.drop i with
    | nil => exact fin i acc (at_end hd) h4
    | cons c r =>
      obtain ⟨hb, hlt, hr⟩ := at_drop hd
      have hrl : r.length = s.size - (i + 1) := by rw [← hr, List.length_drop, hl]
      rw [hd] at h4
      have hw : wrap64 ((i : Int) + 1) = ((i + 1 : Nat) : Int) ∧ wrap64 ((i : Int) + 2) = ((i + 2 : Nat) : Int) ∧ wrap64 (((i + 2 : Nat) : Int) + 1) = ((i + 3 : Nat) : Int) :=
        ⟨(w64 (by omega) (by omega)).trans (by omega), (w64 (by omega) (by omega)).trans (by omega), (w64 (by omega) (by omega)).trans (by omega)⟩
      have HW := Lib.hid hw
      clear hw
      have plain : ∀ x : UInt8, WordQ.quotedL (c :: r) = x :: WordQ.quotedL r → Ev (fun k => muslinref05_quoted.l0 k s (intsOf (acc ++ [x])) ((i + 1 : Nat) : Int)) (⟨(WordQ.quotedL s.data.toList).toArray⟩ : ByteArray) := by
        intro x hx
        refine ih (i + 1) _ (by omega) (by omega) (by rw [List.length_append]; simp only [List.length_cons, List.length_nil]; omega) ?_
        rw [hr, ← h4, hx]; simp
      have single : ∀ x : UInt8, intsOf acc ++ [(x.toNat : Int)] = intsOf (acc ++ [x]) := fun x => by rw [intsOf_append]; rfl
      have jno : WordQ.quotedL (c :: r) = c :: WordQ.quotedL r → Ev (fun k => muslinref05_quoted.j1 k s (intsOf acc) (i : Int) false) (⟨(WordQ.quotedL s.data.toList).toArray⟩ : ByteArray) := by
        intro hx
        refine Ev.round (fun k => by rw [muslinref05_quoted.j1]) ?_
        refine Ev.neg Bool.false_ne_true ?_
        refine Ev.pos (by omega) ?_
        refine Ev.pos (by omega) ?_
        refine Ev.pos (by rw [intsOf_length]; omega) ?_
        rw [hb, HW.out.1, single]
        exact plain c hx
      refine Ev.round (fun k => by rw [muslinref05_quoted.l0]) ?_
      refine Ev.pos (by omega) ?_
      refine Ev.pos (by omega) ?_
      rw [hb, HW.out.1, HW.out.2.1]
      by_cases h95 : c = 95
      · subst h95
        refine Ev.pos rfl ?_
        refine Ev.pos (by rw [intsOf_length]; omega) ?_
        rw [show ([32] : List Int) = [((32 : UInt8).toNat : Int)] from rfl, single]
        exact plain 32 (by rw [quoted_no _ _ (by decide)]; rfl)
      · have h95n : ¬ (c.toNat : Int) = 95 := by intro h; exact h95 (UInt8.toNat_inj.1 (by show c.toNat = 95; omega))
        refine Ev.neg h95n ?_
        by_cases h61 : c = 61
        · subst h61
          refine Ev.pos rfl ?_
          by_cases hl2 : i + 2 < s.size
          · refine Ev.pos (by omega) ?_
            refine Ev.pos (by omega) ?_
            refine Ev.pos (by omega) ?_
            match r, hr, hrl, h4, plain, jno with
            | [], _, hrl, _, _, _ => simp only [List.length_nil] at hrl; omega
            | [d], _, hrl, _, _, _ => simp only [List.length_cons, List.length_nil] at hrl; omega
            | a :: b :: r', hr, hrl, h4, plain, jno =>
              obtain ⟨ha, _, hr1⟩ := at_drop hr
              obtain ⟨hb2, _, hr2⟩ := at_drop hr1
              rw [ha]
              refine Ev.bind (hex_is a) ?_
              have hq : WordQ.quotedL (61 :: a :: b :: r') = if 0 ≤ WordQ.hexW a ∧ 0 ≤ WordQ.hexW b then UInt8.ofNat (16 * (WordQ.hexW a).toNat + (WordQ.hexW b).toNat) :: WordQ.quotedL r' else 61 :: WordQ.quotedL (a :: b :: r') := by
                simp only [WordQ.quotedL]
                by_cases hh : 0 ≤ WordQ.hexW a ∧ 0 ≤ WordQ.hexW b
                · rw [if_pos ⟨trivial, hh⟩, if_pos hh]
                · rw [if_neg (fun h => hh h.2), if_neg hh]; rfl
              by_cases hx : WordQ.hexW a ≥ 0
              · refine Ev.pos hx ?_
                refine Ev.pos (by omega) ?_
                rw [hb2]
                refine Ev.bind (hex_is b) ?_
                by_cases hy : WordQ.hexW b ≥ 0
                · rw [decide_eq_true hy]
                  rw [if_pos ⟨hx, hy⟩] at hq
                  refine Ev.round (fun k => by rw [muslinref05_quoted.j1]) ?_
                  refine Ev.pos rfl ?_
                  rw [HW.out.1, HW.out.2.1]
                  refine Ev.pos (by omega) ?_
                  refine Ev.pos (by omega) ?_
                  rw [ha]
                  refine Ev.bind (hex_is a) ?_
                  refine Ev.pos (by omega) ?_
                  refine Ev.pos (by omega) ?_
                  rw [hb2]
                  refine Ev.bind (hex_is b) ?_
                  refine Ev.pos (by rw [intsOf_length]; omega) ?_
                  have ra := WordQ.hexW_r a; have rb := WordQ.hexW_r b
                  obtain ⟨p, hp⟩ : ∃ p : Nat, WordQ.hexW a = (p : Int) := ⟨(WordQ.hexW a).toNat, by omega⟩
                  obtain ⟨q, hqq⟩ : ∃ q : Nat, WordQ.hexW b = (q : Int) := ⟨(WordQ.hexW b).toNat, by omega⟩
                  rw [hp, hqq] at hq ⊢
                  simp only [Int.toNat_natCast] at hq
                  have hv : (wrap64 (wrap64 (16 * (p : Int)) + (q : Int))) % 256 = ((UInt8.ofNat (16 * p + q)).toNat : Int) := by
                    rw [w64 (x := 16 * (p : Int)) (by omega) (by omega), w64 (by omega) (by omega), UInt8.toNat_ofNat']; omega
                  rw [hv, single, HW.out.2.2]
                  refine ih (i + 3) _ (by omega) (by omega) (by rw [List.length_append]; simp only [List.length_cons, List.length_nil]; omega) ?_
                  rw [show s.data.toList.drop (i + 3) = r' from hr2, ← h4, hq]; simp
                · rw [decide_eq_false hy]
                  rw [if_neg (fun h => hy h.2)] at hq
                  exact jno hq
              · refine Ev.neg hx ?_
                rw [if_neg (fun h => hx h.1)] at hq
                exact jno hq
          · refine Ev.neg (by omega) ?_
            exact jno (by rw [quoted_short _ _ (by omega)]; rfl)
        · have h61n : ¬ (c.toNat : Int) = 61 := by intro h; exact h61 (UInt8.toNat_inj.1 (by show c.toNat = 61; omega))
          refine Ev.neg h61n ?_
          exact jno (by rw [quoted_no _ _ h61, if_neg h95])
theorem refQuoted_is (s : ByteArray) (hs : s.size ≤ 1000000) : Ev (fun k => muslinref05_quoted.f k s) (⟨(WordQ.quotedL s.data.toList).toArray⟩ : ByteArray) := by
  unfold muslinref05_quoted.f
  exact quoted_loop s hs s.size 0 [] (by omega) (by omega) (by simp) rfl
theorem white_is (c : UInt8) : muslinref05_White.f (c.toNat : Int) = some (white c) := by
  have h : ∀ c : Fin 256, muslinref05_White.f (c.val : Int) = some (white (UInt8.ofNat c.val)) := by decide +kernel
  have := h ⟨c.toNat, UInt8.toNat_lt c⟩
  simpa using this
def untilF : List UInt8 → Int
  | [] => -1
  | c :: r => if white c = true then -1 else if c = 63 then 0 else if untilF r < 0 then -1 else untilF r + 1
theorem untilF_ge : ∀ l : List UInt8, -1 ≤ untilF l
  | [] => by simp [untilF]
  | c :: r => by have := untilF_ge r; simp only [untilF]; split <;> (try split) <;> (try split) <;> omega
theorem until_is (s : ByteArray) (hs : s.size ≤ 1000000) : ∀ (n i : Nat), s.size - i ≤ n → i ≤ 10000000 → Ev (fun k => muslinref05_until.l0 k s (i : Int)) (if untilF (s.data.toList.drop i) < 0 then -1 else (i : Int) + untilF (s.data.toList.drop i)) := by
  have hl : s.data.toList.length = s.size := sizeL s
  have fin : ∀ (i : Nat), s.size ≤ i → Ev (fun k => muslinref05_until.l0 k s (i : Int)) (if untilF (s.data.toList.drop i) < 0 then -1 else (i : Int) + untilF (s.data.toList.drop i)) := by
    intro i hi
    rw [List.drop_eq_nil_of_le (by omega), if_pos (by simp [untilF])]
    refine Ev.round (fun k => by rw [muslinref05_until.l0]) ?_
    refine Ev.neg (by omega) ?_
    refine Ev.round (fun k => by rw [muslinref05_until.j1]) ?_
    refine Ev.neg Bool.false_ne_true ?_
    exact Ev.now _
  intro n
  induction n with
  | zero => intro i h1 h2; exact fin i (by omega)
  | succ n ih =>
    intro i h1 h2
    cases hd : s.data.toList.drop i with
    | nil => rw [← hd]; exact fin i (at_end hd)
    | cons c r =>
      obtain ⟨hb, hlt, hr⟩ := at_drop hd
      refine Ev.round (fun k => by rw [muslinref05_until.l0]) ?_
      refine Ev.pos (by omega) ?_
      refine Ev.pos (by omega) ?_
      rw [hb]
      refine Ev.got (white_is c) ?_
      refine Ev.round (fun k => by rw [muslinref05_until.j1]) ?_
      cases hw : white c with
      | true =>
        refine Ev.neg (by simp) ?_
        rw [if_pos (by simp [untilF, hw])]
        exact Ev.now _
      | false =>
        refine Ev.pos (by simp) ?_
        refine Ev.pos (by omega) ?_
        refine Ev.pos (by omega) ?_
        rw [hb]
        by_cases h63 : c = 63
        · subst h63
          refine Ev.pos rfl ?_
          have e : untilF (63 :: r) = 0 := by simp [untilF, hw]
          rw [e, if_neg (by omega), Int.add_zero]
          exact Ev.now _
        · have h63n : ¬ (c.toNat : Int) = 63 := by intro h; exact h63 (UInt8.toNat_inj.1 (by show c.toNat = 63; omega))
          refine Ev.neg h63n ?_
          rw [w64 (by omega) (by omega), show ((i : Int) + 1) = ((i + 1 : Nat) : Int) from by omega]
          have h := ih (i + 1) (by omega) (by omega)
          rw [hr] at h
          have e : untilF (c :: r) = if untilF r < 0 then -1 else untilF r + 1 := by
            simp only [untilF]; rw [if_neg (by rw [hw]; exact Bool.false_ne_true), if_neg h63]
          rw [e]
          have hge := untilF_ge r
          by_cases hn : untilF r < 0
          · rw [if_pos hn] at h
            rw [if_pos hn, if_pos (by omega)]
            exact h
          · rw [if_neg hn] at h
            rw [if_neg hn, if_neg (by omega)]
            rw [show ((i : Int) + (untilF r + 1)) = ((i + 1 : Nat) : Int) + untilF r by omega]
            exact h
theorem untilF_cut : ∀ l : List UInt8, (∀ n : Nat, untilF l = (n : Int) → n < l.length ∧ cutL 63 l = (l.take n, l.drop (n + 1), true) ∧ (l.take n).any white = false) ∧ (untilF l < 0 → ¬ ((cutL 63 l).2.2 = true ∧ (cutL 63 l).1.any white = false))
  | [] => by
    refine ⟨fun n h => absurd (show (-1 : Int) = (n : Int) from h) (by omega), fun _ h => ?_⟩
    simp [cutL] at h
  | c :: r => by
    obtain ⟨h1, h2⟩ := untilF_cut r
    have hge := untilF_ge r
    by_cases h63 : c = 63
    · subst h63
      have hw : white 63 = false := by decide
      have e : untilF (63 :: r) = 0 := by simp [untilF, hw]
      have hc : cutL 63 (63 :: r) = ([], r, true) := cut_at 63 [] r (by simp)
      refine ⟨fun n h => ?_, fun h => by omega⟩
      obtain rfl : n = 0 := by omega
      rw [hc]
      exact ⟨by simp, by simp, by simp⟩
    · have hcc : cutL 63 (c :: r) = if (cutL 63 r).2.2 = true then (c :: (cutL 63 r).1, (cutL 63 r).2.1, true) else (c :: r, [], false) := by
        unfold cutL
        by_cases hm : (63 : UInt8) ∈ r
        · rw [if_pos (List.mem_cons_of_mem _ hm), if_pos hm, if_pos rfl]
          have hx : (c != 63) = true := by simpa using h63
          rw [List.takeWhile_cons, List.dropWhile_cons, hx]
          rfl
        · rw [if_neg (by intro h; rcases List.mem_cons.1 h with h | h; exact h63 h.symm; exact hm h), if_neg hm, if_neg (by simp)]
      by_cases hw : white c = true
      · have e : untilF (c :: r) = -1 := by simp only [untilF]; rw [if_pos hw]
        refine ⟨fun n h => by omega, fun _ => ?_⟩
        rintro ⟨a1, a2⟩
        rw [hcc] at a1 a2
        by_cases hb : (cutL 63 r).2.2 = true
        · rw [if_pos hb] at a2
          simp [hw] at a2
        · rw [if_neg hb] at a1; simp at a1
      · have e : untilF (c :: r) = if untilF r < 0 then -1 else untilF r + 1 := by
          simp only [untilF]; rw [if_neg hw, if_neg h63]
        by_cases hn : untilF r < 0
        · rw [if_pos hn] at e
          refine ⟨fun n h => by omega, fun _ => ?_⟩
          rintro ⟨a1, a2⟩
          rw [hcc] at a1 a2
          by_cases hb : (cutL 63 r).2.2 = true
          · rw [if_pos hb] at a2
            simp only [List.any_cons, Bool.or_eq_false_iff] at a2
            exact h2 hn ⟨hb, a2.2⟩
          · rw [if_neg hb] at a1; simp at a1
        · rw [if_neg hn] at e
          refine ⟨fun n h => ?_, fun h => by omega⟩
          obtain ⟨m, rfl⟩ : ∃ m, n = m + 1 := ⟨n - 1, by omega⟩
          obtain ⟨b1, b2, b3⟩ := h1 m (by omega)
          refine ⟨by simp only [List.length_cons]; omega, ?_, ?_⟩
          · rw [hcc, b2]; simp
          · rw [List.take_succ_cons, List.any_cons, b3, Bool.eq_false_iff.2 hw]; rfl
theorem place_all : ∀ c : Fin 256, muslinref01_place.f 66 (c.val : Int) = some (B64.placeC (UInt8.ofNat c.val)) := by decide +kernel
theorem place_is (c : UInt8) : Ev (fun k => muslinref01_place.f k (c.toNat : Int)) (B64.placeC c) := by
  have h := place_all ⟨c.toNat, UInt8.toNat_lt c⟩
  simp only at h
  rw [show UInt8.ofNat c.toNat = c by simp] at h
  exact Ev.of (fun k => muslinref01_place.mono _ k) h
theorem cut_take (c : UInt8) (l : List UInt8) : (cutL c l).1 = l.takeWhile (· != c) := by
  unfold cutL
  split
  · rfl
  · rename_i h
    symm
    have := List.takeWhile_append_of_pos (l₁ := l) (l₂ := []) (p := (· != c)) (fun x hx => by simp only [bne_iff_ne]; rintro rfl; exact h hx)
    simpa using this
theorem emit_yes (T b : Nat) (h1 : 2 ≤ b) (h2 : b < 8) : B64.emit 8 T 2 (b + 6) = [T / 2 ^ (b - 2) % 256] := by
  simp only [B64.emit]
  rw [if_pos (by omega), if_neg (by omega)]
  congr 3
theorem emit_no (T b : Nat) (h1 : b < 2) : B64.emit 8 T 2 (b + 6) = [] := by
  simp only [B64.emit]
  rw [if_neg (by omega)]
theorem dec_loop (s : ByteArray) (hs : s.size ≤ 1000000) (R : List UInt8) : ∀ (n i a b : Nat) (acc : List UInt8), s.size - i ≤ n → i ≤ s.size → acc.length ≤ i → a < 65536 → b < 8 →
    acc ++ (B64.decGo a b ((s.data.toList.drop i).takeWhile (· != 61))).map Nat.toUInt8 = R →
    Ev (fun k => muslinref01_Decode.l0 k s (intsOf acc) (a : Int) (b : Int) (i : Int)) (⟨R.toArray⟩ : ByteArray) := by
  have hl : s.data.toList.length = s.size := sizeL s
  have stop : ∀ (acc : List UInt8) (a b i : Nat), acc = R → Ev (fun k => muslinref01_Decode.j1 k s (intsOf acc) (a : Int) (b : Int) (i : Int) false) (⟨R.toArray⟩ : ByteArray) := by
    rintro acc a b i rfl
    refine Ev.round (fun k => by rw [muslinref01_Decode.j1]) ?_
    refine Ev.neg Bool.false_ne_true ?_
    rw [strOf_ints]; exact Ev.now _
  have fin : ∀ (i a b : Nat) (acc : List UInt8), s.size ≤ i → acc ++ (B64.decGo a b ((s.data.toList.drop i).takeWhile (· != 61))).map Nat.toUInt8 = R → Ev (fun k => muslinref01_Decode.l0 k s (intsOf acc) (a : Int) (b : Int) (i : Int)) (⟨R.toArray⟩ : ByteArray) := by
    intro i a b acc hi he
    rw [List.drop_eq_nil_of_le (by omega)] at he
    simp only [List.takeWhile_nil, B64.decGo, List.map_nil, List.append_nil] at he
    refine Ev.round (fun k => by rw [muslinref01_Decode.l0]) ?_
    refine Ev.neg (by omega) ?_
    exact stop acc a b i he
  intro n
  induction n with
  | zero => intro i a b acc h1 h2 h3 h4 h5 h6; exact fin i a b acc (by omega) h6
  | succ n ih =>
    intro i a b acc h1 h2 h3 h4 h5 h6
    cases hd : s.data.toList.drop i with
    | nil => exact fin i a b acc (at_end hd) h6
    | cons c r =>
      obtain ⟨hb, hlt, hr⟩ := at_drop hd
      rw [hd] at h6
      refine Ev.round (fun k => by rw [muslinref01_Decode.l0]) ?_
      refine Ev.pos (by omega) ?_
      refine Ev.pos (by omega) ?_
      rw [hb]
      by_cases h61 : c = 61
      · subst h61
        rw [show ((((61 : UInt8).toNat : Int)) != 61) = false from rfl]
        rw [List.takeWhile_cons, if_neg (by decide)] at h6
        simp only [B64.decGo, List.map_nil, List.append_nil] at h6
        exact stop acc a b i h6
      · have h61n : ((c.toNat : Int) != 61) = true := by
          rw [bne_iff_ne]; intro h; exact h61 (UInt8.toNat_inj.1 (by show c.toNat = 61; omega))
        rw [h61n]
        rw [List.takeWhile_cons, if_pos (by simpa using h61)] at h6
        refine Ev.round (fun k => by rw [muslinref01_Decode.j1]) ?_
        refine Ev.pos rfl ?_
        refine Ev.pos (by omega) ?_
        refine Ev.pos (by omega) ?_
        rw [hb]
        refine Ev.bind (place_is c) ?_
        have hpr := B64.place_r c
        have hi1 : wrap64 ((i : Int) + 1) = ((i + 1 : Nat) : Int) := (w64 (by omega) (by omega)).trans (by omega)
        rw [hi1]
        clear hi1
        by_cases hp : B64.placeC c < 0
        · refine Ev.pos hp ?_
          refine ih (i + 1) a b acc (by omega) (by omega) (by omega) h4 h5 ?_
          rw [hr]
          simp only [B64.decGo] at h6
          rw [if_neg (by omega)] at h6
          exact h6
        · refine Ev.neg hp ?_
          obtain ⟨p, hpp⟩ : ∃ p : Nat, B64.placeC c = (p : Int) := ⟨(B64.placeC c).toNat, by omega⟩
          simp only [B64.decGo] at h6
          rw [if_pos (by omega), hpp, Int.toNat_natCast] at h6
          rw [hpp]
          rw [hpp] at hpr
          have hp64 : p < 64 := by omega
          have hT : Int.tmod (wrap64 ((wrap64 ((a : Int) * 64)) + (p : Int))) 65536 = (((a * 2 ^ 6 + p) % 65536 : Nat) : Int) := by
            rw [w64 (x := (a : Int) * 64) (by omega) (by omega), w64 (by omega) (by omega), Int.tmod_eq_emod_of_nonneg (by omega)]; omega
          have hB : wrap64 ((b : Int) + 6) = ((b + 6 : Nat) : Int) := (w64 (by omega) (by omega)).trans (by omega)
          rw [hT, hB]
          clear hT hB
          have hTl : (a * 2 ^ 6 + p) % 65536 < 65536 := Nat.mod_lt _ (by decide)
          generalize (a * 2 ^ 6 + p) % 65536 = t at *
          by_cases hb8 : 2 ≤ b
          · rw [emit_yes t b hb8 h5] at h6
            refine Ev.pos (by omega) ?_
            have hB8 : wrap64 (((b + 6 : Nat) : Int) - 8) = ((b - 2 : Nat) : Int) := (w64 (by omega) (by omega)).trans (by omega)
            have hU : IntKind.u64.wrap ((b - 2 : Nat) : Int) = ((b - 2 : Nat) : Int) := by
              have : b = 2 ∨ b = 3 ∨ b = 4 ∨ b = 5 ∨ b = 6 ∨ b = 7 := by omega
              rcases this with rfl | rfl | rfl | rfl | rfl | rfl <;> rfl
            rw [hB8, hU]
            clear hB8 hU
            refine Ev.pos (by omega) ?_
            refine Ev.pos (by rw [intsOf_length]; omega) ?_
            rw [shr_small' _ _ (by omega)]
            have hv : ((t : Int) / 2 ^ (b - 2)) % 256 = (((t / 2 ^ (b - 2) % 256 : Nat).toUInt8).toNat : Int) := by
              have e5 : ((t : Int)) / 2 ^ (b - 2) = ((t / 2 ^ (b - 2) : Nat) : Int) := by rw [Int.natCast_ediv]; simp
              rw [e5]
              show _ = (((UInt8.ofNat (t / 2 ^ (b - 2) % 256)).toNat : Nat) : Int)
              rw [UInt8.toNat_ofNat']
              generalize t / 2 ^ (b - 2) = x
              omega
            have single : ∀ x : UInt8, intsOf acc ++ [(x.toNat : Int)] = intsOf (acc ++ [x]) := fun x => by rw [intsOf_append]; rfl
            rw [hv, single]
            clear hv
            refine ih (i + 1) t (b - 2) _ (by omega) (by omega) (by rw [List.length_append]; simp only [List.length_cons, List.length_nil]; omega) hTl (by omega) ?_
            rw [show (b + 6) % 8 = b - 2 by omega] at h6
            rw [hr, ← h6]
            simp only [List.map_append, List.map_cons, List.map_nil, List.append_assoc]
          · rw [emit_no t b (by omega)] at h6
            refine Ev.neg (by omega) ?_
            refine ih (i + 1) t (b + 6) acc (by omega) (by omega) (by omega) hTl (by omega) ?_
            rw [hr, show b + 6 = (b + 6) % 8 by omega]
            simpa using h6
theorem refDec64_is (s : ByteArray) (hs : s.size ≤ 1000000) : Ev (fun k => muslinref01_Decode.f k s) (⟨(B64.b64DecL s.data.toList).toArray⟩ : ByteArray) := by
  unfold muslinref01_Decode.f
  refine dec_loop s hs _ s.size 0 0 0 [] (by omega) (by omega) (by simp) (by omega) (by omega) ?_
  unfold B64.b64DecL
  rw [cut_take]; rfl
end Go.Proofs.YtokkgjiofhhlkaaDoor.Pure
