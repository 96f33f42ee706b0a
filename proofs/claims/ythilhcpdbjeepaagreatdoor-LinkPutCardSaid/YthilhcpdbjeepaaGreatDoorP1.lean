/- Printed by a program of this session: functions that the law reaches, and that the calls come to them. -/
import Derived.Test.YthilhcpdbjeepaaGreatDoorP0
namespace Go.Proofs.YthilhcpdbjeepaaGreatDoor.P
open Go.RowKit Go.Proofs.YthilhcpdbjeepaaGreatDoorW.PrintWords Go.Proofs.YthilhcpdbjeepaaGreatDoorW.PrintLast Go.Proofs.YthilhcpdbjeepaaGreatDoorW.PrintMore
attribute [local go_sem] max2_int min2_int max_two min_two max_three min_three max_four min_four   -- for this text's walks alone
set_option linter.unusedVariables false
set_option linter.unusedSimpArgs false

/-! ### muslinlaw16_short: function 8 -/
def muslinlaw16_short.f (a0 : ByteArray) : Option (Bool) := some (decide ((a0.size : Int) ≤ 3000))
set_option maxHeartbeats 8000000 in
set_option maxRecDepth 100000 in
theorem muslinlaw16_short.calls (a0 : ByteArray) (r : Bool) (w : World) (h : muslinlaw16_short.f a0 = some r) :
    Calls Tryz.prog 8 #[.string a0] w fun e w' => e = .returned (.bool r) ∧ Drawn0 w w' := by
  have H : (some (decide ((a0.size : Int) ≤ 3000))) = some r := h
  clear h
  obtain rfl := Option.some.inj H
  go_enter Tryz.func8, Tryz.ntmps8
  go_wp2
  go_ret
  exact ⟨by first | rfl | (simp; done) | (simp [*]; done), by repeat (first | exact Drawn0.refl _ | apply Drawn0.step)⟩

/-! ### link_hosted: function 25 -/
def link_hosted.f (a0 : ByteArray) : Option (Bool) := (strings_Cut.f a0 (⟨#[58]⟩ : ByteArray)).bind fun bt101 => ((strings_CutPrefix.f bt101.2.1 (⟨#[47, 47]⟩ : ByteArray)).bind fun bt104 => (if bt104.2 = true then (if bt104.1.toList = ([] : List UInt8) then (some false) else (if 0 < (bt104.1.size : Int) then ((strings_IndexByte.f (⟨#[47, 63, 35, 92]⟩ : ByteArray) (bt bt104.1 0)).bind fun t106 => (some (decide (t106 < 0)))) else (none))) else (some false)))
set_option maxHeartbeats 8000000 in
set_option maxRecDepth 100000 in
theorem link_hosted.calls (a0 : ByteArray) (r : Bool) (w : World) (h : link_hosted.f a0 = some r) :
    Calls Tryz.prog 25 #[.string a0] w fun e w' => e = .returned (.bool r) ∧ Below w.heap.size w w' := by
  have HB := Aside0.mk (Below.refl w.heap.size w)
  have H : ((strings_Cut.f a0 (⟨#[58]⟩ : ByteArray)).bind fun bt101 => ((strings_CutPrefix.f bt101.2.1 (⟨#[47, 47]⟩ : ByteArray)).bind fun bt104 => (if bt104.2 = true then (if bt104.1.toList = ([] : List UInt8) then (some false) else (if 0 < (bt104.1.size : Int) then ((strings_IndexByte.f (⟨#[47, 63, 35, 92]⟩ : ByteArray) (bt bt104.1 0)).bind fun t106 => (some (decide (t106 < 0)))) else (none))) else (some false)))) = some r := h
  clear h
  replace H := Option.bind_eq_some_iff.mp H
  obtain ⟨⟨t101, t102, t103⟩, A20, H⟩ := H
  replace H : ((strings_CutPrefix.f t102 (⟨#[47, 47]⟩ : ByteArray)).bind fun bt104 => (if bt104.2 = true then (if bt104.1.toList = ([] : List UInt8) then (some false) else (if 0 < (bt104.1.size : Int) then ((strings_IndexByte.f (⟨#[47, 63, 35, 92]⟩ : ByteArray) (bt bt104.1 0)).bind fun t106 => (some (decide (t106 < 0)))) else (none))) else (some false))) = some r := H
  have A2 := Aside0.mk A20
  clear A20
  replace H := Option.bind_eq_some_iff.mp H
  obtain ⟨⟨t104, t105⟩, A30, H⟩ := H
  replace H : (if t105 = true then (if t104.toList = ([] : List UInt8) then (some false) else (if 0 < (t104.size : Int) then ((strings_IndexByte.f (⟨#[47, 63, 35, 92]⟩ : ByteArray) (bt t104 0)).bind fun t106 => (some (decide (t106 < 0)))) else (none))) else (some false)) = some r := H
  have A3 := Aside0.mk A30
  clear A30
  by_cases c4 : t105 = true
  · subst c4
    have H1 : (if t104.toList = ([] : List UInt8) then (some false) else (if 0 < (t104.size : Int) then ((strings_IndexByte.f (⟨#[47, 63, 35, 92]⟩ : ByteArray) (bt t104 0)).bind fun t106 => (some (decide (t106 < 0)))) else (none))) = some r := by rw [if_pos rfl] at H; exact H
    clear H
    have H := H1
    clear H1
    by_cases c5 : t104.toList = ([] : List UInt8)
    · rw [if_pos c5] at H
      have c5b0 : (t104.toList == ([] : List UInt8)) = true := beq_iff_eq.mpr c5
      have c5b1 : (t104.toList != ([] : List UInt8)) = false := bne_eq_false_iff_eq.mpr c5
      clear c5
      obtain rfl := Option.some.inj H
      go_enter Tryz.func25, Tryz.ntmps25
      go_wp2_with (first | ((with_reducible refine gate_callee (f := 16) rfl ?_); refine goesL_ (some 10) rfl rfl Tryz.func16 (by kernel_rfl) rfl #[.string a0, .string (⟨#[58]⟩ : ByteArray)] rfl (by (try simp only [List.map_toArray, List.map_cons, List.map_nil]); first | done | rfl | (simp only [List.length_drop, List.length_take]; rfl)) ?_; (with_reducible refine (strings_Cut.calls a0 (⟨#[58]⟩ : ByteArray) t101 t102 t103 _ A2.out).mono ?_); rintro e w6 ⟨rfl, hb⟩; refine ⟨_, rfl, ?_⟩; have n0_ := Aside0.mk (below_step (by repeat (first | (with_reducible first | exact HB.out | apply below_alloc | apply pw_below_drewN | apply below_drew1) | exact HB.out)) hb); clear HB; have HB := n0_; clear n0_; (try clear hb); (try clear hb2); (try clear hk); (try clear hi)) | ((with_reducible refine gate_callee (f := 37) rfl ?_); refine goesL_ (some 16) rfl rfl Tryz.func37 (by kernel_rfl) rfl #[.string t102, .string (⟨#[47, 47]⟩ : ByteArray)] rfl (by (try simp only [List.map_toArray, List.map_cons, List.map_nil]); first | done | rfl | (simp only [List.length_drop, List.length_take]; rfl)) ?_; (with_reducible refine (strings_CutPrefix.calls t102 (⟨#[47, 47]⟩ : ByteArray) t104 true _ A3.out).mono ?_); rintro e w7 ⟨rfl, hb⟩; refine ⟨_, rfl, ?_⟩; have n0_ := Aside0.mk (below_step (by repeat (first | (with_reducible first | exact HB.out | apply below_alloc | apply pw_below_drewN | apply below_drew1) | exact HB.out)) hb); clear HB; have HB := n0_; clear n0_; (try clear hb); (try clear hb2); (try clear hk); (try clear hi)))
      go_ret
      exact ⟨by first | rfl | (simp [errW_none, errW_some] <;> rfl) | (simp [*, errW_none, errW_some] <;> rfl), by repeat (first | (with_reducible first | exact HB.out | apply below_alloc | apply pw_below_drewN | apply below_drew1) | exact HB.out)⟩
    · rw [if_neg c5] at H
      have c5b0 : (t104.toList == ([] : List UInt8)) = false := beq_eq_false_iff_ne.mpr c5
      have c5b1 : (t104.toList != ([] : List UInt8)) = true := bne_iff_ne.mpr c5
      by_cases c8 : 0 < (t104.size : Int)
      · rw [if_pos c8] at H
        have c8b0 : decide (0 < (t104.size : Int)) = true := decide_eq_true c8
        have c8b1 : decide (0 < t104.size) = true := decide_eq_true (by omega)
        clear c8
        replace H := Option.bind_eq_some_iff.mp H
        obtain ⟨t106, A100, H⟩ := H
        replace H : (some (decide (t106 < 0))) = some r := H
        have A10 := Aside0.mk A100
        clear A100
        obtain rfl := Option.some.inj H
        go_enter Tryz.func25, Tryz.ntmps25
        go_wp2_with (first | ((with_reducible refine gate_callee (f := 16) rfl ?_); refine goesL_ (some 10) rfl rfl Tryz.func16 (by kernel_rfl) rfl #[.string a0, .string (⟨#[58]⟩ : ByteArray)] rfl (by (try simp only [List.map_toArray, List.map_cons, List.map_nil]); first | done | rfl | (simp only [List.length_drop, List.length_take]; rfl)) ?_; (with_reducible refine (strings_Cut.calls a0 (⟨#[58]⟩ : ByteArray) t101 t102 t103 _ A2.out).mono ?_); rintro e w11 ⟨rfl, hb⟩; refine ⟨_, rfl, ?_⟩; have n0_ := Aside0.mk (below_step (by repeat (first | (with_reducible first | exact HB.out | apply below_alloc | apply pw_below_drewN | apply below_drew1) | exact HB.out)) hb); clear HB; have HB := n0_; clear n0_; (try clear hb); (try clear hb2); (try clear hk); (try clear hi)) | ((with_reducible refine gate_callee (f := 37) rfl ?_); refine goesL_ (some 16) rfl rfl Tryz.func37 (by kernel_rfl) rfl #[.string t102, .string (⟨#[47, 47]⟩ : ByteArray)] rfl (by (try simp only [List.map_toArray, List.map_cons, List.map_nil]); first | done | rfl | (simp only [List.length_drop, List.length_take]; rfl)) ?_; (with_reducible refine (strings_CutPrefix.calls t102 (⟨#[47, 47]⟩ : ByteArray) t104 true _ A3.out).mono ?_); rintro e w12 ⟨rfl, hb⟩; refine ⟨_, rfl, ?_⟩; have n0_ := Aside0.mk (below_step (by repeat (first | (with_reducible first | exact HB.out | apply below_alloc | apply pw_below_drewN | apply below_drew1) | exact HB.out)) hb); clear HB; have HB := n0_; clear n0_; (try clear hb); (try clear hb2); (try clear hk); (try clear hi); have p9 : 0 ≤ (0 : Int) := (by omega); have q9 : 0 < t104.size := (by have : (0 : Int) < (t104.size : Int) := of_decide_eq_true (by first | (with_reducible assumption) | assumption); omega); have hx9 : ∀ h : 0 < t104.size, ((t104[0]'h).toNat : Int) = bt t104 0 := bt_at t104 0; clear p9; have qi9 : (0 < (t104.size : Int)) = True := eq_true (of_decide_eq_true (by first | (with_reducible assumption) | assumption)); replace q9 := eq_true q9) | (go_at_call 18; (with_reducible refine (strings_IndexByte.calls (⟨#[47, 63, 35, 92]⟩ : ByteArray) (bt t104 0) t106 _ A10.out).mono ?_); rintro e w13 ⟨rfl, hb⟩; have n0_ := Aside0.mk (below_step (by repeat (first | (with_reducible first | exact HB.out | apply below_alloc | apply pw_below_drewN | apply below_drew1) | exact HB.out)) hb); clear HB; have HB := n0_; clear n0_; (try clear hb); (try clear hb2); (try clear hk); (try clear hi)))
        go_ret
        exact ⟨by first | rfl | (simp [errW_none, errW_some] <;> rfl) | (simp [*, errW_none, errW_some] <;> rfl), by repeat (first | (with_reducible first | exact HB.out | apply below_alloc | apply pw_below_drewN | apply below_drew1) | exact HB.out)⟩
      · rw [if_neg c8] at H
        exact absurd H (by simp)
  · replace c4 := Bool.eq_false_iff.mpr c4
    subst c4
    have H1 : (some false) = some r := by rw [if_neg (show ¬ (false = true) by decide)] at H; exact H
    clear H
    have H := H1
    clear H1
    obtain rfl := Option.some.inj H
    go_enter Tryz.func25, Tryz.ntmps25
    go_wp2_with (first | ((with_reducible refine gate_callee (f := 16) rfl ?_); refine goesL_ (some 10) rfl rfl Tryz.func16 (by kernel_rfl) rfl #[.string a0, .string (⟨#[58]⟩ : ByteArray)] rfl (by (try simp only [List.map_toArray, List.map_cons, List.map_nil]); first | done | rfl | (simp only [List.length_drop, List.length_take]; rfl)) ?_; (with_reducible refine (strings_Cut.calls a0 (⟨#[58]⟩ : ByteArray) t101 t102 t103 _ A2.out).mono ?_); rintro e w14 ⟨rfl, hb⟩; refine ⟨_, rfl, ?_⟩; have n0_ := Aside0.mk (below_step (by repeat (first | (with_reducible first | exact HB.out | apply below_alloc | apply pw_below_drewN | apply below_drew1) | exact HB.out)) hb); clear HB; have HB := n0_; clear n0_; (try clear hb); (try clear hb2); (try clear hk); (try clear hi)) | ((with_reducible refine gate_callee (f := 37) rfl ?_); refine goesL_ (some 16) rfl rfl Tryz.func37 (by kernel_rfl) rfl #[.string t102, .string (⟨#[47, 47]⟩ : ByteArray)] rfl (by (try simp only [List.map_toArray, List.map_cons, List.map_nil]); first | done | rfl | (simp only [List.length_drop, List.length_take]; rfl)) ?_; (with_reducible refine (strings_CutPrefix.calls t102 (⟨#[47, 47]⟩ : ByteArray) t104 false _ A3.out).mono ?_); rintro e w15 ⟨rfl, hb⟩; refine ⟨_, rfl, ?_⟩; have n0_ := Aside0.mk (below_step (by repeat (first | (with_reducible first | exact HB.out | apply below_alloc | apply pw_below_drewN | apply below_drew1) | exact HB.out)) hb); clear HB; have HB := n0_; clear n0_; (try clear hb); (try clear hb2); (try clear hk); (try clear hi)))
    go_ret
    exact ⟨by first | rfl | (simp [errW_none, errW_some] <;> rfl) | (simp [*, errW_none, errW_some] <;> rfl), by repeat (first | (with_reducible first | exact HB.out | apply below_alloc | apply pw_below_drewN | apply below_drew1) | exact HB.out)⟩

/-! ### link_Kind: function 14 -/
mutual
def link_Kind.j0 : Nat → ByteArray → ByteArray → Bool → Option (Int)
  | 0, _, _, _ => none
  | k + 1, x0, x3, x13 => if x13 = true then (some 1) else (if x3.toList = ([104, 116, 116, 112, 115] : List UInt8) then ((link_Clean.f x0).bind fun t111 => ((link_hosted.f t111).bind fun t112 => (link_Kind.j1 k x3 t112))) else (link_Kind.j1 k x3 false))
def link_Kind.j1 : Nat → ByteArray → Bool → Option (Int)
  | 0, _, _ => none
  | k + 1, x3, x21 => if x21 = true then (some 2) else (if x3.toList = ([109, 97, 105, 108, 116, 111] : List UInt8) then (some 3) else (if x3.toList = ([99, 105, 100] : List UInt8) then (some 4) else (some 5)))
end
def link_Kind.f (k : Nat) (a0 : ByteArray) : Option (Int) := (link_Scheme.f a0).bind fun bt107 => (if bt107.2 = true then (if bt107.1.toList = ([104, 116, 116, 112] : List UInt8) then ((link_Clean.f a0).bind fun t109 => ((link_hosted.f t109).bind fun t110 => (link_Kind.j0 k a0 bt107.1 t110))) else (link_Kind.j0 k a0 bt107.1 false)) else (some 0))
theorem link_Kind.mono_l : ∀ k, (∀ y0 y1 y2, LeO (link_Kind.j0 k y0 y1 y2) (link_Kind.j0 (k + 1) y0 y1 y2)) ∧ (∀ y0 y1, LeO (link_Kind.j1 k y0 y1) (link_Kind.j1 (k + 1) y0 y1))
  | 0 => ⟨fun _ _ _ r h => by simp [link_Kind.j0] at h, fun _ _ r h => by simp [link_Kind.j1] at h⟩
  | k + 1 => by
    obtain ⟨ih0, ih1⟩ := link_Kind.mono_l k
    refine ⟨?_, ?_⟩
    · intro y0 y1 y2
      unfold link_Kind.j0
      repeat' first
      | (with_reducible exact ih0 _ _ _)
      | (with_reducible exact ih1 _ _)
      | (with_reducible exact LeO.refl _)
      | (with_reducible exact LeO.none _)
      | (with_reducible refine LeO.ite ?_ ?_)
      | (with_reducible refine LeO.bind ?_ (fun _ => ?_))
      | exact ih0 _ _ _
      | exact ih1 _ _
      | exact LeO.none _
      | refine LeO.ite ?_ ?_
      | refine LeO.bind ?_ (fun _ => ?_)
    · intro y0 y1
      unfold link_Kind.j1
      repeat' first
      | (with_reducible exact ih0 _ _ _)
      | (with_reducible exact ih1 _ _)
      | (with_reducible exact LeO.refl _)
      | (with_reducible exact LeO.none _)
      | (with_reducible refine LeO.ite ?_ ?_)
      | (with_reducible refine LeO.bind ?_ (fun _ => ?_))
      | exact ih0 _ _ _
      | exact ih1 _ _
      | exact LeO.none _
      | refine LeO.ite ?_ ?_
      | refine LeO.bind ?_ (fun _ => ?_)
theorem link_Kind.mono : ∀ a0 k, LeO (link_Kind.f k a0) (link_Kind.f (k + 1) a0) := by
  intro a0 k
  obtain ⟨ih0, ih1⟩ := link_Kind.mono_l k
  unfold link_Kind.f
  repeat' first
      | (with_reducible exact ih0 _ _ _)
      | (with_reducible exact ih1 _ _)
      | (with_reducible exact LeO.refl _)
      | (with_reducible exact LeO.none _)
      | (with_reducible refine LeO.ite ?_ ?_)
      | (with_reducible refine LeO.bind ?_ (fun _ => ?_))
      | exact ih0 _ _ _
      | exact ih1 _ _
      | exact LeO.none _
      | refine LeO.ite ?_ ?_
      | refine LeO.bind ?_ (fun _ => ?_)
set_option maxHeartbeats 8000000 in
set_option maxRecDepth 100000 in
theorem link_Kind.calls (k : Nat) (a0 : ByteArray) (r : Int) (w : World) (h : link_Kind.f k a0 = some r) :
    Calls Tryz.prog 14 #[.string a0] w fun e w' => e = .returned (.int .i64 r) ∧ Below w.heap.size w w' := by
  have HB := Aside0.mk (Below.refl w.heap.size w)
  have H : ((link_Scheme.f a0).bind fun bt107 => (if bt107.2 = true then (if bt107.1.toList = ([104, 116, 116, 112] : List UInt8) then ((link_Clean.f a0).bind fun t109 => ((link_hosted.f t109).bind fun t110 => (link_Kind.j0 k a0 bt107.1 t110))) else (link_Kind.j0 k a0 bt107.1 false)) else (some 0))) = some r := h
  clear h
  replace H := Option.bind_eq_some_iff.mp H
  obtain ⟨⟨t107, t108⟩, A20, H⟩ := H
  replace H : (if t108 = true then (if t107.toList = ([104, 116, 116, 112] : List UInt8) then ((link_Clean.f a0).bind fun t109 => ((link_hosted.f t109).bind fun t110 => (link_Kind.j0 k a0 t107 t110))) else (link_Kind.j0 k a0 t107 false)) else (some 0)) = some r := H
  have A2 := Aside0.mk A20
  clear A20
  by_cases c3 : t108 = true
  · subst c3
    have H1 : (if t107.toList = ([104, 116, 116, 112] : List UInt8) then ((link_Clean.f a0).bind fun t109 => ((link_hosted.f t109).bind fun t110 => (link_Kind.j0 k a0 t107 t110))) else (link_Kind.j0 k a0 t107 false)) = some r := by rw [if_pos rfl] at H; exact H
    clear H
    have H := H1
    clear H1
    have HC4 := Aside0.mk H
    clear H
    go_enter Tryz.func14, Tryz.ntmps14
    go_upto_region 4 with (first | ((with_reducible refine gate_callee (f := 10) rfl ?_); refine goesL_ (some 7) rfl rfl Tryz.func10 (by kernel_rfl) rfl #[.string a0] rfl (by (try simp only [List.map_toArray, List.map_cons, List.map_nil]); first | done | rfl | (simp only [List.length_drop, List.length_take]; rfl)) ?_; (with_reducible refine (link_Scheme.calls a0 t107 true _ A2.out).mono ?_); rintro e w5 ⟨rfl, hb⟩; refine ⟨_, rfl, ?_⟩; have n0_ := Aside0.mk (below_step (by repeat (first | (with_reducible first | exact HB.out | apply below_alloc | apply pw_below_drewN | apply below_drew1) | exact HB.out)) hb); clear HB; have HB := n0_; clear n0_; (try clear hb); (try clear hb2); (try clear hk); (try clear hi)))
    (try simp only [Act.put, List.setIfInBounds_toArray, List.set_cons_zero, List.set_cons_succ])
    go_cut [13] (fun v13 wc => ∃ (kq : Nat) (x13_3 : Bool), v13 = .bool x13_3 ∧ Aside0 (link_Kind.j0 kq a0 t107 x13_3 = some r) ∧ Aside0 (kq ≤ k) ∧ Aside0 (Below w.heap.size w wc))
    case first =>
      have H := HC4.out
      clear HC4
      by_cases c6 : t107.toList = ([104, 116, 116, 112] : List UInt8)
      · rw [if_pos c6] at H
        have c6b0 : (t107.toList == ([104, 116, 116, 112] : List UInt8)) = true := beq_iff_eq.mpr c6
        have c6b1 : (t107.toList != ([104, 116, 116, 112] : List UInt8)) = false := bne_eq_false_iff_eq.mpr c6
        clear c6
        (first | rw [c6b0] | (simp only [i64_w, i32_w]; rw [c6b0]) | skip)
        replace H := Option.bind_eq_some_iff.mp H
        obtain ⟨t109, A70, H⟩ := H
        replace H : ((link_hosted.f t109).bind fun t110 => (link_Kind.j0 k a0 t107 t110)) = some r := H
        have A7 := Aside0.mk A70
        clear A70
        replace H := Option.bind_eq_some_iff.mp H
        obtain ⟨t110, A80, H⟩ := H
        replace H : (link_Kind.j0 k a0 t107 t110) = some r := H
        have A8 := Aside0.mk A80
        clear A80
        have H' := Aside0.mk H
        clear H
        go_wp2_with (first | (go_at_call 12; (with_reducible refine (link_Clean.calls a0 t109 _ A7.out).mono ?_); rintro e w9 ⟨rfl, hb⟩; have n0_ := Aside0.mk (below_step (by repeat (first | (with_reducible first | exact HB.out | apply below_alloc | apply pw_below_drewN | apply below_drew1) | exact HB.out)) hb); clear HB; have HB := n0_; clear n0_; (try clear hb); (try clear hb2); (try clear hk); (try clear hi)) | (go_at_call 25; (with_reducible refine (link_hosted.calls t109 t110 _ A8.out).mono ?_); rintro e w10 ⟨rfl, hb⟩; have n0_ := Aside0.mk (below_step (by repeat (first | (with_reducible first | exact HB.out | apply below_alloc | apply pw_below_drewN | apply below_drew1) | exact HB.out)) hb); clear HB; have HB := n0_; clear n0_; (try clear hb); (try clear hb2); (try clear hk); (try clear hi)))
        go_meet
        case rel => exact ⟨_, (t110), (by first | rfl | (simp; done) | (simp [*]; done)), H', ⟨by first | omega | exact Nat.le_refl _⟩, ⟨by repeat (first | (with_reducible first | exact HB.out | apply below_alloc | apply pw_below_drewN | apply below_drew1) | exact HB.out)⟩⟩
      · rw [if_neg c6] at H
        have c6b0 : (t107.toList == ([104, 116, 116, 112] : List UInt8)) = false := beq_eq_false_iff_ne.mpr c6
        have c6b1 : (t107.toList != ([104, 116, 116, 112] : List UInt8)) = true := bne_iff_ne.mpr c6
        (first | rw [c6b0] | (simp only [i64_w, i32_w]; rw [c6b0]) | skip)
        have H' := Aside0.mk H
        clear H
        go_wp2
        go_meet
        case rel => exact ⟨_, (false), (by first | rfl | (simp; done) | (simp [*]; done)), H', ⟨by first | omega | exact Nat.le_refl _⟩, ⟨by repeat (first | (with_reducible first | exact HB.out | apply below_alloc | apply pw_below_drewN | apply below_drew1) | exact HB.out)⟩⟩
    case rest =>
      clear HC4
      try clear c1
      try clear p2
      try clear c3
      try clear c6
      try clear c6b0
      try clear c6b1
      try clear c10
      obtain ⟨kq, x13_3, rfl, HA, HJ3, HB⟩ := hcut
      cases kq with
      | zero => exact absurd HA.out (by simp [link_Kind.j0])
      | succ kj3 =>
        have H := HA.out
        clear HA
        simp only [link_Kind.j0] at H
        by_cases c11 : x13_3 = true
        · subst c11
          have H1 : (some 1) = some r := by rw [if_pos rfl] at H; exact H
          clear H
          have H := H1
          clear H1
          obtain rfl := Option.some.inj H
          go_wp2
          go_ret
          exact ⟨by first | rfl | (simp [errW_none, errW_some] <;> rfl) | (simp [*, errW_none, errW_some] <;> rfl), by repeat (first | (with_reducible first | exact HB.out | apply below_alloc | apply pw_below_drewN | apply below_drew1) | exact HB.out)⟩
        · replace c11 := Bool.eq_false_iff.mpr c11
          subst c11
          have H1 : (if t107.toList = ([104, 116, 116, 112, 115] : List UInt8) then ((link_Clean.f a0).bind fun t111 => ((link_hosted.f t111).bind fun t112 => (link_Kind.j1 kj3 t107 t112))) else (link_Kind.j1 kj3 t107 false)) = some r := by rw [if_neg (show ¬ (false = true) by decide)] at H; exact H
          clear H
          have H := H1
          clear H1
          have HC12 := Aside0.mk H
          clear H
          go_upto_region 6 with (fail)
          go_cut [21] (fun v21 wc => ∃ (kq : Nat) (x21_11 : Bool), v21 = .bool x21_11 ∧ Aside0 (link_Kind.j1 kq t107 x21_11 = some r) ∧ Aside0 (kq ≤ kj3) ∧ Aside0 (Below w.heap.size w wc))
          case first =>
            have H := HC12.out
            clear HC12
            by_cases c13 : t107.toList = ([104, 116, 116, 112, 115] : List UInt8)
            · rw [if_pos c13] at H
              have c13b0 : (t107.toList == ([104, 116, 116, 112, 115] : List UInt8)) = true := beq_iff_eq.mpr c13
              have c13b1 : (t107.toList != ([104, 116, 116, 112, 115] : List UInt8)) = false := bne_eq_false_iff_eq.mpr c13
              clear c13
              (first | rw [c13b0] | (simp only [i64_w, i32_w]; rw [c13b0]) | skip)
              replace H := Option.bind_eq_some_iff.mp H
              obtain ⟨t111, A140, H⟩ := H
              replace H : ((link_hosted.f t111).bind fun t112 => (link_Kind.j1 kj3 t107 t112)) = some r := H
              have A14 := Aside0.mk A140
              clear A140
              replace H := Option.bind_eq_some_iff.mp H
              obtain ⟨t112, A150, H⟩ := H
              replace H : (link_Kind.j1 kj3 t107 t112) = some r := H
              have A15 := Aside0.mk A150
              clear A150
              have H' := Aside0.mk H
              clear H
              go_wp2_with (first | (go_at_call 12; (with_reducible refine (link_Clean.calls a0 t111 _ A14.out).mono ?_); rintro e w16 ⟨rfl, hb⟩; have n0_ := Aside0.mk (below_step (by repeat (first | (with_reducible first | exact HB.out | apply below_alloc | apply pw_below_drewN | apply below_drew1) | exact HB.out)) hb); clear HB; have HB := n0_; clear n0_; (try clear hb); (try clear hb2); (try clear hk); (try clear hi)) | (go_at_call 25; (with_reducible refine (link_hosted.calls t111 t112 _ A15.out).mono ?_); rintro e w17 ⟨rfl, hb⟩; have n0_ := Aside0.mk (below_step (by repeat (first | (with_reducible first | exact HB.out | apply below_alloc | apply pw_below_drewN | apply below_drew1) | exact HB.out)) hb); clear HB; have HB := n0_; clear n0_; (try clear hb); (try clear hb2); (try clear hk); (try clear hi)))
              go_meet
              case rel => exact ⟨_, (t112), (by first | rfl | (simp; done) | (simp [*]; done)), H', ⟨by have := HJ3.out; first | omega | exact Nat.le_refl _⟩, ⟨by repeat (first | (with_reducible first | exact HB.out | apply below_alloc | apply pw_below_drewN | apply below_drew1) | exact HB.out)⟩⟩
            · rw [if_neg c13] at H
              have c13b0 : (t107.toList == ([104, 116, 116, 112, 115] : List UInt8)) = false := beq_eq_false_iff_ne.mpr c13
              have c13b1 : (t107.toList != ([104, 116, 116, 112, 115] : List UInt8)) = true := bne_iff_ne.mpr c13
              (first | rw [c13b0] | (simp only [i64_w, i32_w]; rw [c13b0]) | skip)
              have H' := Aside0.mk H
              clear H
              go_wp2
              go_meet
              case rel => exact ⟨_, (false), (by first | rfl | (simp; done) | (simp [*]; done)), H', ⟨by have := HJ3.out; first | omega | exact Nat.le_refl _⟩, ⟨by repeat (first | (with_reducible first | exact HB.out | apply below_alloc | apply pw_below_drewN | apply below_drew1) | exact HB.out)⟩⟩
          case rest =>
            clear HC12
            try clear c1
            try clear p2
            try clear c3
            try clear c6
            try clear c6b0
            try clear c6b1
            try clear c10
            try clear c11
            try clear c13
            try clear c13b0
            try clear c13b1
            try clear c14
            try clear p2
            obtain ⟨kq, x21_11, rfl, HA, HJ11, HB⟩ := hcut
            cases kq with
            | zero => exact absurd HA.out (by simp [link_Kind.j1])
            | succ kj11 =>
              have H := HA.out
              clear HA
              simp only [link_Kind.j1] at H
              by_cases c18 : x21_11 = true
              · subst c18
                have H1 : (some 2) = some r := by rw [if_pos rfl] at H; exact H
                clear H
                have H := H1
                clear H1
                obtain rfl := Option.some.inj H
                go_wp2
                go_ret
                exact ⟨by first | rfl | (simp [errW_none, errW_some] <;> rfl) | (simp [*, errW_none, errW_some] <;> rfl), by repeat (first | (with_reducible first | exact HB.out | apply below_alloc | apply pw_below_drewN | apply below_drew1) | exact HB.out)⟩
              · replace c18 := Bool.eq_false_iff.mpr c18
                subst c18
                have H1 : (if t107.toList = ([109, 97, 105, 108, 116, 111] : List UInt8) then (some 3) else (if t107.toList = ([99, 105, 100] : List UInt8) then (some 4) else (some 5))) = some r := by rw [if_neg (show ¬ (false = true) by decide)] at H; exact H
                clear H
                have H := H1
                clear H1
                by_cases c19 : t107.toList = ([109, 97, 105, 108, 116, 111] : List UInt8)
                · rw [if_pos c19] at H
                  have c19b0 : (t107.toList == ([109, 97, 105, 108, 116, 111] : List UInt8)) = true := beq_iff_eq.mpr c19
                  have c19b1 : (t107.toList != ([109, 97, 105, 108, 116, 111] : List UInt8)) = false := bne_eq_false_iff_eq.mpr c19
                  clear c19
                  obtain rfl := Option.some.inj H
                  go_wp2
                  go_ret
                  exact ⟨by first | rfl | (simp [errW_none, errW_some] <;> rfl) | (simp [*, errW_none, errW_some] <;> rfl), by repeat (first | (with_reducible first | exact HB.out | apply below_alloc | apply pw_below_drewN | apply below_drew1) | exact HB.out)⟩
                · rw [if_neg c19] at H
                  have c19b0 : (t107.toList == ([109, 97, 105, 108, 116, 111] : List UInt8)) = false := beq_eq_false_iff_ne.mpr c19
                  have c19b1 : (t107.toList != ([109, 97, 105, 108, 116, 111] : List UInt8)) = true := bne_iff_ne.mpr c19
                  by_cases c20 : t107.toList = ([99, 105, 100] : List UInt8)
                  · rw [if_pos c20] at H
                    have c20b0 : (t107.toList == ([99, 105, 100] : List UInt8)) = true := beq_iff_eq.mpr c20
                    have c20b1 : (t107.toList != ([99, 105, 100] : List UInt8)) = false := bne_eq_false_iff_eq.mpr c20
                    clear c20
                    obtain rfl := Option.some.inj H
                    go_wp2
                    go_ret
                    exact ⟨by first | rfl | (simp [errW_none, errW_some] <;> rfl) | (simp [*, errW_none, errW_some] <;> rfl), by repeat (first | (with_reducible first | exact HB.out | apply below_alloc | apply pw_below_drewN | apply below_drew1) | exact HB.out)⟩
                  · rw [if_neg c20] at H
                    have c20b0 : (t107.toList == ([99, 105, 100] : List UInt8)) = false := beq_eq_false_iff_ne.mpr c20
                    have c20b1 : (t107.toList != ([99, 105, 100] : List UInt8)) = true := bne_iff_ne.mpr c20
                    obtain rfl := Option.some.inj H
                    go_wp2
                    go_ret
                    exact ⟨by first | rfl | (simp [errW_none, errW_some] <;> rfl) | (simp [*, errW_none, errW_some] <;> rfl), by repeat (first | (with_reducible first | exact HB.out | apply below_alloc | apply pw_below_drewN | apply below_drew1) | exact HB.out)⟩
  · replace c3 := Bool.eq_false_iff.mpr c3
    subst c3
    have H1 : (some 0) = some r := by rw [if_neg (show ¬ (false = true) by decide)] at H; exact H
    clear H
    have H := H1
    clear H1
    obtain rfl := Option.some.inj H
    go_enter Tryz.func14, Tryz.ntmps14
    go_wp2_with (first | ((with_reducible refine gate_callee (f := 10) rfl ?_); refine goesL_ (some 7) rfl rfl Tryz.func10 (by kernel_rfl) rfl #[.string a0] rfl (by (try simp only [List.map_toArray, List.map_cons, List.map_nil]); first | done | rfl | (simp only [List.length_drop, List.length_take]; rfl)) ?_; (with_reducible refine (link_Scheme.calls a0 t107 false _ A2.out).mono ?_); rintro e w21 ⟨rfl, hb⟩; refine ⟨_, rfl, ?_⟩; have n0_ := Aside0.mk (below_step (by repeat (first | (with_reducible first | exact HB.out | apply below_alloc | apply pw_below_drewN | apply below_drew1) | exact HB.out)) hb); clear HB; have HB := n0_; clear n0_; (try clear hb); (try clear hb2); (try clear hk); (try clear hi)))
    go_ret
    exact ⟨by first | rfl | (simp [errW_none, errW_some] <;> rfl) | (simp [*, errW_none, errW_some] <;> rfl), by repeat (first | (with_reducible first | exact HB.out | apply below_alloc | apply pw_below_drewN | apply below_drew1) | exact HB.out)⟩

/-! ### muslinlaw16_live: function 9 -/
def muslinlaw16_live.f (k : Nat)  : Option (Bool) := (link_Scheme.f (⟨#[32, 72, 84, 84, 80, 9, 115, 58, 47, 47, 120, 0]⟩ : ByteArray)).bind fun bt113 => ((link_Scheme.f (⟨#[49, 97, 58, 98]⟩ : ByteArray)).bind fun bt115 => ((link_Clean.f (⟨#[1, 32, 97, 10, 32, 98, 13, 32]⟩ : ByteArray)).bind fun t117 => (if t117.toList = ([97, 32, 98] : List UInt8) then (if bt113.1.toList = ([104, 116, 116, 112, 115] : List UInt8) then (if bt113.2 = true then (if bt115.2 = true then (some false) else ((link_Kind.f k (⟨#[106, 97, 118, 97, 10, 115, 99, 114, 105, 112, 116, 58, 120]⟩ : ByteArray)).bind fun t118 => (if t118 = 5 then ((link_Kind.f k (⟨#[97, 47, 98, 58, 99]⟩ : ByteArray)).bind fun t119 => (if t119 = 0 then ((link_Kind.f k (⟨#[104, 116, 116, 112, 58, 47, 47, 120]⟩ : ByteArray)).bind fun t120 => (if t120 = 1 then ((link_Kind.f k (⟨#[104, 116, 116, 112, 115, 58, 47, 47, 47]⟩ : ByteArray)).bind fun t121 => (if t121 = 5 then ((link_Kind.f k (⟨#[67, 73, 68, 58, 120]⟩ : ByteArray)).bind fun t122 => (some (t122 == 4))) else (some false))) else (some false))) else (some false))) else (some false)))) else (some false)) else (some false)) else (some false))))
theorem muslinlaw16_live.mono : ∀ k, LeO (muslinlaw16_live.f k ) (muslinlaw16_live.f (k + 1) ) := by
  intro  k
  unfold muslinlaw16_live.f
  repeat' first
      | (with_reducible exact link_Kind.mono _ _)
      | (with_reducible exact LeO.refl _)
      | (with_reducible exact LeO.none _)
      | (with_reducible refine LeO.ite ?_ ?_)
      | (with_reducible refine LeO.bind ?_ (fun _ => ?_))
      | exact link_Kind.mono _ _
      | exact LeO.none _
      | refine LeO.ite ?_ ?_
      | refine LeO.bind ?_ (fun _ => ?_)
set_option maxHeartbeats 8000000 in
set_option maxRecDepth 100000 in
theorem muslinlaw16_live.calls (k : Nat)  (r : Bool) (w : World) (h : muslinlaw16_live.f k  = some r) :
    Calls Tryz.prog 9 #[] w fun e w' => e = .returned (.bool r) ∧ Below w.heap.size w w' := by
  have HB := Aside0.mk (Below.refl w.heap.size w)
  have H : ((link_Scheme.f (⟨#[32, 72, 84, 84, 80, 9, 115, 58, 47, 47, 120, 0]⟩ : ByteArray)).bind fun bt113 => ((link_Scheme.f (⟨#[49, 97, 58, 98]⟩ : ByteArray)).bind fun bt115 => ((link_Clean.f (⟨#[1, 32, 97, 10, 32, 98, 13, 32]⟩ : ByteArray)).bind fun t117 => (if t117.toList = ([97, 32, 98] : List UInt8) then (if bt113.1.toList = ([104, 116, 116, 112, 115] : List UInt8) then (if bt113.2 = true then (if bt115.2 = true then (some false) else ((link_Kind.f k (⟨#[106, 97, 118, 97, 10, 115, 99, 114, 105, 112, 116, 58, 120]⟩ : ByteArray)).bind fun t118 => (if t118 = 5 then ((link_Kind.f k (⟨#[97, 47, 98, 58, 99]⟩ : ByteArray)).bind fun t119 => (if t119 = 0 then ((link_Kind.f k (⟨#[104, 116, 116, 112, 58, 47, 47, 120]⟩ : ByteArray)).bind fun t120 => (if t120 = 1 then ((link_Kind.f k (⟨#[104, 116, 116, 112, 115, 58, 47, 47, 47]⟩ : ByteArray)).bind fun t121 => (if t121 = 5 then ((link_Kind.f k (⟨#[67, 73, 68, 58, 120]⟩ : ByteArray)).bind fun t122 => (some (t122 == 4))) else (some false))) else (some false))) else (some false))) else (some false)))) else (some false)) else (some false)) else (some false))))) = some r := h
  clear h
  replace H := Option.bind_eq_some_iff.mp H
  obtain ⟨⟨t113, t114⟩, A10, H⟩ := H
  replace H : ((link_Scheme.f (⟨#[49, 97, 58, 98]⟩ : ByteArray)).bind fun bt115 => ((link_Clean.f (⟨#[1, 32, 97, 10, 32, 98, 13, 32]⟩ : ByteArray)).bind fun t117 => (if t117.toList = ([97, 32, 98] : List UInt8) then (if t113.toList = ([104, 116, 116, 112, 115] : List UInt8) then (if t114 = true then (if bt115.2 = true then (some false) else ((link_Kind.f k (⟨#[106, 97, 118, 97, 10, 115, 99, 114, 105, 112, 116, 58, 120]⟩ : ByteArray)).bind fun t118 => (if t118 = 5 then ((link_Kind.f k (⟨#[97, 47, 98, 58, 99]⟩ : ByteArray)).bind fun t119 => (if t119 = 0 then ((link_Kind.f k (⟨#[104, 116, 116, 112, 58, 47, 47, 120]⟩ : ByteArray)).bind fun t120 => (if t120 = 1 then ((link_Kind.f k (⟨#[104, 116, 116, 112, 115, 58, 47, 47, 47]⟩ : ByteArray)).bind fun t121 => (if t121 = 5 then ((link_Kind.f k (⟨#[67, 73, 68, 58, 120]⟩ : ByteArray)).bind fun t122 => (some (t122 == 4))) else (some false))) else (some false))) else (some false))) else (some false)))) else (some false)) else (some false)) else (some false)))) = some r := H
  have A1 := Aside0.mk A10
  clear A10
  replace H := Option.bind_eq_some_iff.mp H
  obtain ⟨⟨t115, t116⟩, A20, H⟩ := H
  replace H : ((link_Clean.f (⟨#[1, 32, 97, 10, 32, 98, 13, 32]⟩ : ByteArray)).bind fun t117 => (if t117.toList = ([97, 32, 98] : List UInt8) then (if t113.toList = ([104, 116, 116, 112, 115] : List UInt8) then (if t114 = true then (if t116 = true then (some false) else ((link_Kind.f k (⟨#[106, 97, 118, 97, 10, 115, 99, 114, 105, 112, 116, 58, 120]⟩ : ByteArray)).bind fun t118 => (if t118 = 5 then ((link_Kind.f k (⟨#[97, 47, 98, 58, 99]⟩ : ByteArray)).bind fun t119 => (if t119 = 0 then ((link_Kind.f k (⟨#[104, 116, 116, 112, 58, 47, 47, 120]⟩ : ByteArray)).bind fun t120 => (if t120 = 1 then ((link_Kind.f k (⟨#[104, 116, 116, 112, 115, 58, 47, 47, 47]⟩ : ByteArray)).bind fun t121 => (if t121 = 5 then ((link_Kind.f k (⟨#[67, 73, 68, 58, 120]⟩ : ByteArray)).bind fun t122 => (some (t122 == 4))) else (some false))) else (some false))) else (some false))) else (some false)))) else (some false)) else (some false)) else (some false))) = some r := H
  have A2 := Aside0.mk A20
  clear A20
  replace H := Option.bind_eq_some_iff.mp H
  obtain ⟨t117, A30, H⟩ := H
  replace H : (if t117.toList = ([97, 32, 98] : List UInt8) then (if t113.toList = ([104, 116, 116, 112, 115] : List UInt8) then (if t114 = true then (if t116 = true then (some false) else ((link_Kind.f k (⟨#[106, 97, 118, 97, 10, 115, 99, 114, 105, 112, 116, 58, 120]⟩ : ByteArray)).bind fun t118 => (if t118 = 5 then ((link_Kind.f k (⟨#[97, 47, 98, 58, 99]⟩ : ByteArray)).bind fun t119 => (if t119 = 0 then ((link_Kind.f k (⟨#[104, 116, 116, 112, 58, 47, 47, 120]⟩ : ByteArray)).bind fun t120 => (if t120 = 1 then ((link_Kind.f k (⟨#[104, 116, 116, 112, 115, 58, 47, 47, 47]⟩ : ByteArray)).bind fun t121 => (if t121 = 5 then ((link_Kind.f k (⟨#[67, 73, 68, 58, 120]⟩ : ByteArray)).bind fun t122 => (some (t122 == 4))) else (some false))) else (some false))) else (some false))) else (some false)))) else (some false)) else (some false)) else (some false)) = some r := H
  have A3 := Aside0.mk A30
  clear A30
  by_cases c4 : t117.toList = ([97, 32, 98] : List UInt8)
  · rw [if_pos c4] at H
    have c4b0 : (t117.toList == ([97, 32, 98] : List UInt8)) = true := beq_iff_eq.mpr c4
    have c4b1 : (t117.toList != ([97, 32, 98] : List UInt8)) = false := bne_eq_false_iff_eq.mpr c4
    clear c4
    by_cases c5 : t113.toList = ([104, 116, 116, 112, 115] : List UInt8)
    · rw [if_pos c5] at H
      have c5b0 : (t113.toList == ([104, 116, 116, 112, 115] : List UInt8)) = true := beq_iff_eq.mpr c5
      have c5b1 : (t113.toList != ([104, 116, 116, 112, 115] : List UInt8)) = false := bne_eq_false_iff_eq.mpr c5
      clear c5
      by_cases c6 : t114 = true
      · subst c6
        have H1 : (if t116 = true then (some false) else ((link_Kind.f k (⟨#[106, 97, 118, 97, 10, 115, 99, 114, 105, 112, 116, 58, 120]⟩ : ByteArray)).bind fun t118 => (if t118 = 5 then ((link_Kind.f k (⟨#[97, 47, 98, 58, 99]⟩ : ByteArray)).bind fun t119 => (if t119 = 0 then ((link_Kind.f k (⟨#[104, 116, 116, 112, 58, 47, 47, 120]⟩ : ByteArray)).bind fun t120 => (if t120 = 1 then ((link_Kind.f k (⟨#[104, 116, 116, 112, 115, 58, 47, 47, 47]⟩ : ByteArray)).bind fun t121 => (if t121 = 5 then ((link_Kind.f k (⟨#[67, 73, 68, 58, 120]⟩ : ByteArray)).bind fun t122 => (some (t122 == 4))) else (some false))) else (some false))) else (some false))) else (some false)))) = some r := by rw [if_pos rfl] at H; exact H
        clear H
        have H := H1
        clear H1
        by_cases c7 : t116 = true
        · subst c7
          have H1 : (some false) = some r := by rw [if_pos rfl] at H; exact H
          clear H
          have H := H1
          clear H1
          obtain rfl := Option.some.inj H
          go_enter Tryz.func9, Tryz.ntmps9
          go_wp2_with (first | ((with_reducible refine gate_callee (f := 10) rfl ?_); refine goesL_ (some 6) rfl rfl Tryz.func10 (by kernel_rfl) rfl #[.string (⟨#[32, 72, 84, 84, 80, 9, 115, 58, 47, 47, 120, 0]⟩ : ByteArray)] rfl (by (try simp only [List.map_toArray, List.map_cons, List.map_nil]); first | done | rfl | (simp only [List.length_drop, List.length_take]; rfl)) ?_; (with_reducible refine (link_Scheme.calls (⟨#[32, 72, 84, 84, 80, 9, 115, 58, 47, 47, 120, 0]⟩ : ByteArray) t113 true _ A1.out).mono ?_); rintro e w8 ⟨rfl, hb⟩; refine ⟨_, rfl, ?_⟩; have n0_ := Aside0.mk (below_step (by repeat (first | (with_reducible first | exact HB.out | apply below_alloc | apply pw_below_drewN | apply below_drew1) | exact HB.out)) hb); clear HB; have HB := n0_; clear n0_; (try clear hb); (try clear hb2); (try clear hk); (try clear hi)) | ((with_reducible refine gate_callee (f := 10) rfl ?_); refine goesL_ (some 10) rfl rfl Tryz.func10 (by kernel_rfl) rfl #[.string (⟨#[49, 97, 58, 98]⟩ : ByteArray)] rfl (by (try simp only [List.map_toArray, List.map_cons, List.map_nil]); first | done | rfl | (simp only [List.length_drop, List.length_take]; rfl)) ?_; (with_reducible refine (link_Scheme.calls (⟨#[49, 97, 58, 98]⟩ : ByteArray) t115 true _ A2.out).mono ?_); rintro e w9 ⟨rfl, hb⟩; refine ⟨_, rfl, ?_⟩; have n0_ := Aside0.mk (below_step (by repeat (first | (with_reducible first | exact HB.out | apply below_alloc | apply pw_below_drewN | apply below_drew1) | exact HB.out)) hb); clear HB; have HB := n0_; clear n0_; (try clear hb); (try clear hb2); (try clear hk); (try clear hi)) | ((with_reducible refine gate_callee (f := 12) rfl ?_); refine goesL_ (some 13) rfl rfl Tryz.func12 (by kernel_rfl) rfl #[.string (⟨#[1, 32, 97, 10, 32, 98, 13, 32]⟩ : ByteArray)] rfl (by (try simp only [List.map_toArray, List.map_cons, List.map_nil]); first | done | rfl | (simp only [List.length_drop, List.length_take]; rfl)) ?_; (with_reducible refine (link_Clean.calls (⟨#[1, 32, 97, 10, 32, 98, 13, 32]⟩ : ByteArray) t117 _ A3.out).mono ?_); rintro e w10 ⟨rfl, hb⟩; refine ⟨_, rfl, ?_⟩; have n0_ := Aside0.mk (below_step (by repeat (first | (with_reducible first | exact HB.out | apply below_alloc | apply pw_below_drewN | apply below_drew1) | exact HB.out)) hb); clear HB; have HB := n0_; clear n0_; (try clear hb); (try clear hb2); (try clear hk); (try clear hi)))
          go_ret
          exact ⟨by first | rfl | (simp [errW_none, errW_some] <;> rfl) | (simp [*, errW_none, errW_some] <;> rfl), by repeat (first | (with_reducible first | exact HB.out | apply below_alloc | apply pw_below_drewN | apply below_drew1) | exact HB.out)⟩
        · replace c7 := Bool.eq_false_iff.mpr c7
          subst c7
          have H1 : ((link_Kind.f k (⟨#[106, 97, 118, 97, 10, 115, 99, 114, 105, 112, 116, 58, 120]⟩ : ByteArray)).bind fun t118 => (if t118 = 5 then ((link_Kind.f k (⟨#[97, 47, 98, 58, 99]⟩ : ByteArray)).bind fun t119 => (if t119 = 0 then ((link_Kind.f k (⟨#[104, 116, 116, 112, 58, 47, 47, 120]⟩ : ByteArray)).bind fun t120 => (if t120 = 1 then ((link_Kind.f k (⟨#[104, 116, 116, 112, 115, 58, 47, 47, 47]⟩ : ByteArray)).bind fun t121 => (if t121 = 5 then ((link_Kind.f k (⟨#[67, 73, 68, 58, 120]⟩ : ByteArray)).bind fun t122 => (some (t122 == 4))) else (some false))) else (some false))) else (some false))) else (some false))) = some r := by rw [if_neg (show ¬ (false = true) by decide)] at H; exact H
          clear H
          have H := H1
          clear H1
          replace H := Option.bind_eq_some_iff.mp H
          obtain ⟨t118, A110, H⟩ := H
          replace H : (if t118 = 5 then ((link_Kind.f k (⟨#[97, 47, 98, 58, 99]⟩ : ByteArray)).bind fun t119 => (if t119 = 0 then ((link_Kind.f k (⟨#[104, 116, 116, 112, 58, 47, 47, 120]⟩ : ByteArray)).bind fun t120 => (if t120 = 1 then ((link_Kind.f k (⟨#[104, 116, 116, 112, 115, 58, 47, 47, 47]⟩ : ByteArray)).bind fun t121 => (if t121 = 5 then ((link_Kind.f k (⟨#[67, 73, 68, 58, 120]⟩ : ByteArray)).bind fun t122 => (some (t122 == 4))) else (some false))) else (some false))) else (some false))) else (some false)) = some r := H
          have A11 := Aside0.mk A110
          clear A110
          by_cases c12 : t118 = 5
          · rw [if_pos c12] at H
            have c12b0 : (t118 == 5) = true := beq_iff_eq.mpr c12
            have c12b1 : (t118 != 5) = false := bne_eq_false_iff_eq.mpr c12
            clear c12
            replace H := Option.bind_eq_some_iff.mp H
            obtain ⟨t119, A130, H⟩ := H
            replace H : (if t119 = 0 then ((link_Kind.f k (⟨#[104, 116, 116, 112, 58, 47, 47, 120]⟩ : ByteArray)).bind fun t120 => (if t120 = 1 then ((link_Kind.f k (⟨#[104, 116, 116, 112, 115, 58, 47, 47, 47]⟩ : ByteArray)).bind fun t121 => (if t121 = 5 then ((link_Kind.f k (⟨#[67, 73, 68, 58, 120]⟩ : ByteArray)).bind fun t122 => (some (t122 == 4))) else (some false))) else (some false))) else (some false)) = some r := H
            have A13 := Aside0.mk A130
            clear A130
            by_cases c14 : t119 = 0
            · rw [if_pos c14] at H
              have c14b0 : (t119 == 0) = true := beq_iff_eq.mpr c14
              have c14b1 : (t119 != 0) = false := bne_eq_false_iff_eq.mpr c14
              clear c14
              replace H := Option.bind_eq_some_iff.mp H
              obtain ⟨t120, A150, H⟩ := H
              replace H : (if t120 = 1 then ((link_Kind.f k (⟨#[104, 116, 116, 112, 115, 58, 47, 47, 47]⟩ : ByteArray)).bind fun t121 => (if t121 = 5 then ((link_Kind.f k (⟨#[67, 73, 68, 58, 120]⟩ : ByteArray)).bind fun t122 => (some (t122 == 4))) else (some false))) else (some false)) = some r := H
              have A15 := Aside0.mk A150
              clear A150
              by_cases c16 : t120 = 1
              · rw [if_pos c16] at H
                have c16b0 : (t120 == 1) = true := beq_iff_eq.mpr c16
                have c16b1 : (t120 != 1) = false := bne_eq_false_iff_eq.mpr c16
                clear c16
                replace H := Option.bind_eq_some_iff.mp H
                obtain ⟨t121, A170, H⟩ := H
                replace H : (if t121 = 5 then ((link_Kind.f k (⟨#[67, 73, 68, 58, 120]⟩ : ByteArray)).bind fun t122 => (some (t122 == 4))) else (some false)) = some r := H
                have A17 := Aside0.mk A170
                clear A170
                by_cases c18 : t121 = 5
                · rw [if_pos c18] at H
                  have c18b0 : (t121 == 5) = true := beq_iff_eq.mpr c18
                  have c18b1 : (t121 != 5) = false := bne_eq_false_iff_eq.mpr c18
                  clear c18
                  replace H := Option.bind_eq_some_iff.mp H
                  obtain ⟨t122, A190, H⟩ := H
                  replace H : (some (t122 == 4)) = some r := H
                  have A19 := Aside0.mk A190
                  clear A190
                  obtain rfl := Option.some.inj H
                  go_enter Tryz.func9, Tryz.ntmps9
                  go_wp2_with (first | ((with_reducible refine gate_callee (f := 10) rfl ?_); refine goesL_ (some 6) rfl rfl Tryz.func10 (by kernel_rfl) rfl #[.string (⟨#[32, 72, 84, 84, 80, 9, 115, 58, 47, 47, 120, 0]⟩ : ByteArray)] rfl (by (try simp only [List.map_toArray, List.map_cons, List.map_nil]); first | done | rfl | (simp only [List.length_drop, List.length_take]; rfl)) ?_; (with_reducible refine (link_Scheme.calls (⟨#[32, 72, 84, 84, 80, 9, 115, 58, 47, 47, 120, 0]⟩ : ByteArray) t113 true _ A1.out).mono ?_); rintro e w20 ⟨rfl, hb⟩; refine ⟨_, rfl, ?_⟩; have n0_ := Aside0.mk (below_step (by repeat (first | (with_reducible first | exact HB.out | apply below_alloc | apply pw_below_drewN | apply below_drew1) | exact HB.out)) hb); clear HB; have HB := n0_; clear n0_; (try clear hb); (try clear hb2); (try clear hk); (try clear hi)) | ((with_reducible refine gate_callee (f := 10) rfl ?_); refine goesL_ (some 10) rfl rfl Tryz.func10 (by kernel_rfl) rfl #[.string (⟨#[49, 97, 58, 98]⟩ : ByteArray)] rfl (by (try simp only [List.map_toArray, List.map_cons, List.map_nil]); first | done | rfl | (simp only [List.length_drop, List.length_take]; rfl)) ?_; (with_reducible refine (link_Scheme.calls (⟨#[49, 97, 58, 98]⟩ : ByteArray) t115 false _ A2.out).mono ?_); rintro e w21 ⟨rfl, hb⟩; refine ⟨_, rfl, ?_⟩; have n0_ := Aside0.mk (below_step (by repeat (first | (with_reducible first | exact HB.out | apply below_alloc | apply pw_below_drewN | apply below_drew1) | exact HB.out)) hb); clear HB; have HB := n0_; clear n0_; (try clear hb); (try clear hb2); (try clear hk); (try clear hi)) | ((with_reducible refine gate_callee (f := 12) rfl ?_); refine goesL_ (some 13) rfl rfl Tryz.func12 (by kernel_rfl) rfl #[.string (⟨#[1, 32, 97, 10, 32, 98, 13, 32]⟩ : ByteArray)] rfl (by (try simp only [List.map_toArray, List.map_cons, List.map_nil]); first | done | rfl | (simp only [List.length_drop, List.length_take]; rfl)) ?_; (with_reducible refine (link_Clean.calls (⟨#[1, 32, 97, 10, 32, 98, 13, 32]⟩ : ByteArray) t117 _ A3.out).mono ?_); rintro e w22 ⟨rfl, hb⟩; refine ⟨_, rfl, ?_⟩; have n0_ := Aside0.mk (below_step (by repeat (first | (with_reducible first | exact HB.out | apply below_alloc | apply pw_below_drewN | apply below_drew1) | exact HB.out)) hb); clear HB; have HB := n0_; clear n0_; (try clear hb); (try clear hb2); (try clear hk); (try clear hi)) | (go_at_call 14; (with_reducible refine (link_Kind.calls k (⟨#[106, 97, 118, 97, 10, 115, 99, 114, 105, 112, 116, 58, 120]⟩ : ByteArray) t118 _ A11.out).mono ?_); rintro e w23 ⟨rfl, hb⟩; have n0_ := Aside0.mk (below_step (by repeat (first | (with_reducible first | exact HB.out | apply below_alloc | apply pw_below_drewN | apply below_drew1) | exact HB.out)) hb); clear HB; have HB := n0_; clear n0_; (try clear hb); (try clear hb2); (try clear hk); (try clear hi)) | (go_at_call 14; (with_reducible refine (link_Kind.calls k (⟨#[97, 47, 98, 58, 99]⟩ : ByteArray) t119 _ A13.out).mono ?_); rintro e w24 ⟨rfl, hb⟩; have n0_ := Aside0.mk (below_step (by repeat (first | (with_reducible first | exact HB.out | apply below_alloc | apply pw_below_drewN | apply below_drew1) | exact HB.out)) hb); clear HB; have HB := n0_; clear n0_; (try clear hb); (try clear hb2); (try clear hk); (try clear hi)) | (go_at_call 14; (with_reducible refine (link_Kind.calls k (⟨#[104, 116, 116, 112, 58, 47, 47, 120]⟩ : ByteArray) t120 _ A15.out).mono ?_); rintro e w25 ⟨rfl, hb⟩; have n0_ := Aside0.mk (below_step (by repeat (first | (with_reducible first | exact HB.out | apply below_alloc | apply pw_below_drewN | apply below_drew1) | exact HB.out)) hb); clear HB; have HB := n0_; clear n0_; (try clear hb); (try clear hb2); (try clear hk); (try clear hi)) | (go_at_call 14; (with_reducible refine (link_Kind.calls k (⟨#[104, 116, 116, 112, 115, 58, 47, 47, 47]⟩ : ByteArray) t121 _ A17.out).mono ?_); rintro e w26 ⟨rfl, hb⟩; have n0_ := Aside0.mk (below_step (by repeat (first | (with_reducible first | exact HB.out | apply below_alloc | apply pw_below_drewN | apply below_drew1) | exact HB.out)) hb); clear HB; have HB := n0_; clear n0_; (try clear hb); (try clear hb2); (try clear hk); (try clear hi)) | (go_at_call 14; (with_reducible refine (link_Kind.calls k (⟨#[67, 73, 68, 58, 120]⟩ : ByteArray) t122 _ A19.out).mono ?_); rintro e w27 ⟨rfl, hb⟩; have n0_ := Aside0.mk (below_step (by repeat (first | (with_reducible first | exact HB.out | apply below_alloc | apply pw_below_drewN | apply below_drew1) | exact HB.out)) hb); clear HB; have HB := n0_; clear n0_; (try clear hb); (try clear hb2); (try clear hk); (try clear hi)))
                  go_ret
                  exact ⟨by first | rfl | (simp [errW_none, errW_some] <;> rfl) | (simp [*, errW_none, errW_some] <;> rfl), by repeat (first | (with_reducible first | exact HB.out | apply below_alloc | apply pw_below_drewN | apply below_drew1) | exact HB.out)⟩
                · rw [if_neg c18] at H
                  have c18b0 : (t121 == 5) = false := beq_eq_false_iff_ne.mpr c18
                  have c18b1 : (t121 != 5) = true := bne_iff_ne.mpr c18
                  obtain rfl := Option.some.inj H
                  go_enter Tryz.func9, Tryz.ntmps9
                  go_wp2_with (first | ((with_reducible refine gate_callee (f := 10) rfl ?_); refine goesL_ (some 6) rfl rfl Tryz.func10 (by kernel_rfl) rfl #[.string (⟨#[32, 72, 84, 84, 80, 9, 115, 58, 47, 47, 120, 0]⟩ : ByteArray)] rfl (by (try simp only [List.map_toArray, List.map_cons, List.map_nil]); first | done | rfl | (simp only [List.length_drop, List.length_take]; rfl)) ?_; (with_reducible refine (link_Scheme.calls (⟨#[32, 72, 84, 84, 80, 9, 115, 58, 47, 47, 120, 0]⟩ : ByteArray) t113 true _ A1.out).mono ?_); rintro e w28 ⟨rfl, hb⟩; refine ⟨_, rfl, ?_⟩; have n0_ := Aside0.mk (below_step (by repeat (first | (with_reducible first | exact HB.out | apply below_alloc | apply pw_below_drewN | apply below_drew1) | exact HB.out)) hb); clear HB; have HB := n0_; clear n0_; (try clear hb); (try clear hb2); (try clear hk); (try clear hi)) | ((with_reducible refine gate_callee (f := 10) rfl ?_); refine goesL_ (some 10) rfl rfl Tryz.func10 (by kernel_rfl) rfl #[.string (⟨#[49, 97, 58, 98]⟩ : ByteArray)] rfl (by (try simp only [List.map_toArray, List.map_cons, List.map_nil]); first | done | rfl | (simp only [List.length_drop, List.length_take]; rfl)) ?_; (with_reducible refine (link_Scheme.calls (⟨#[49, 97, 58, 98]⟩ : ByteArray) t115 false _ A2.out).mono ?_); rintro e w29 ⟨rfl, hb⟩; refine ⟨_, rfl, ?_⟩; have n0_ := Aside0.mk (below_step (by repeat (first | (with_reducible first | exact HB.out | apply below_alloc | apply pw_below_drewN | apply below_drew1) | exact HB.out)) hb); clear HB; have HB := n0_; clear n0_; (try clear hb); (try clear hb2); (try clear hk); (try clear hi)) | ((with_reducible refine gate_callee (f := 12) rfl ?_); refine goesL_ (some 13) rfl rfl Tryz.func12 (by kernel_rfl) rfl #[.string (⟨#[1, 32, 97, 10, 32, 98, 13, 32]⟩ : ByteArray)] rfl (by (try simp only [List.map_toArray, List.map_cons, List.map_nil]); first | done | rfl | (simp only [List.length_drop, List.length_take]; rfl)) ?_; (with_reducible refine (link_Clean.calls (⟨#[1, 32, 97, 10, 32, 98, 13, 32]⟩ : ByteArray) t117 _ A3.out).mono ?_); rintro e w30 ⟨rfl, hb⟩; refine ⟨_, rfl, ?_⟩; have n0_ := Aside0.mk (below_step (by repeat (first | (with_reducible first | exact HB.out | apply below_alloc | apply pw_below_drewN | apply below_drew1) | exact HB.out)) hb); clear HB; have HB := n0_; clear n0_; (try clear hb); (try clear hb2); (try clear hk); (try clear hi)) | (go_at_call 14; (with_reducible refine (link_Kind.calls k (⟨#[106, 97, 118, 97, 10, 115, 99, 114, 105, 112, 116, 58, 120]⟩ : ByteArray) t118 _ A11.out).mono ?_); rintro e w31 ⟨rfl, hb⟩; have n0_ := Aside0.mk (below_step (by repeat (first | (with_reducible first | exact HB.out | apply below_alloc | apply pw_below_drewN | apply below_drew1) | exact HB.out)) hb); clear HB; have HB := n0_; clear n0_; (try clear hb); (try clear hb2); (try clear hk); (try clear hi)) | (go_at_call 14; (with_reducible refine (link_Kind.calls k (⟨#[97, 47, 98, 58, 99]⟩ : ByteArray) t119 _ A13.out).mono ?_); rintro e w32 ⟨rfl, hb⟩; have n0_ := Aside0.mk (below_step (by repeat (first | (with_reducible first | exact HB.out | apply below_alloc | apply pw_below_drewN | apply below_drew1) | exact HB.out)) hb); clear HB; have HB := n0_; clear n0_; (try clear hb); (try clear hb2); (try clear hk); (try clear hi)) | (go_at_call 14; (with_reducible refine (link_Kind.calls k (⟨#[104, 116, 116, 112, 58, 47, 47, 120]⟩ : ByteArray) t120 _ A15.out).mono ?_); rintro e w33 ⟨rfl, hb⟩; have n0_ := Aside0.mk (below_step (by repeat (first | (with_reducible first | exact HB.out | apply below_alloc | apply pw_below_drewN | apply below_drew1) | exact HB.out)) hb); clear HB; have HB := n0_; clear n0_; (try clear hb); (try clear hb2); (try clear hk); (try clear hi)) | (go_at_call 14; (with_reducible refine (link_Kind.calls k (⟨#[104, 116, 116, 112, 115, 58, 47, 47, 47]⟩ : ByteArray) t121 _ A17.out).mono ?_); rintro e w34 ⟨rfl, hb⟩; have n0_ := Aside0.mk (below_step (by repeat (first | (with_reducible first | exact HB.out | apply below_alloc | apply pw_below_drewN | apply below_drew1) | exact HB.out)) hb); clear HB; have HB := n0_; clear n0_; (try clear hb); (try clear hb2); (try clear hk); (try clear hi)))
                  go_ret
                  exact ⟨by first | rfl | (simp [errW_none, errW_some] <;> rfl) | (simp [*, errW_none, errW_some] <;> rfl), by repeat (first | (with_reducible first | exact HB.out | apply below_alloc | apply pw_below_drewN | apply below_drew1) | exact HB.out)⟩
              · rw [if_neg c16] at H
                have c16b0 : (t120 == 1) = false := beq_eq_false_iff_ne.mpr c16
                have c16b1 : (t120 != 1) = true := bne_iff_ne.mpr c16
                obtain rfl := Option.some.inj H
                go_enter Tryz.func9, Tryz.ntmps9
                go_wp2_with (first | ((with_reducible refine gate_callee (f := 10) rfl ?_); refine goesL_ (some 6) rfl rfl Tryz.func10 (by kernel_rfl) rfl #[.string (⟨#[32, 72, 84, 84, 80, 9, 115, 58, 47, 47, 120, 0]⟩ : ByteArray)] rfl (by (try simp only [List.map_toArray, List.map_cons, List.map_nil]); first | done | rfl | (simp only [List.length_drop, List.length_take]; rfl)) ?_; (with_reducible refine (link_Scheme.calls (⟨#[32, 72, 84, 84, 80, 9, 115, 58, 47, 47, 120, 0]⟩ : ByteArray) t113 true _ A1.out).mono ?_); rintro e w35 ⟨rfl, hb⟩; refine ⟨_, rfl, ?_⟩; have n0_ := Aside0.mk (below_step (by repeat (first | (with_reducible first | exact HB.out | apply below_alloc | apply pw_below_drewN | apply below_drew1) | exact HB.out)) hb); clear HB; have HB := n0_; clear n0_; (try clear hb); (try clear hb2); (try clear hk); (try clear hi)) | ((with_reducible refine gate_callee (f := 10) rfl ?_); refine goesL_ (some 10) rfl rfl Tryz.func10 (by kernel_rfl) rfl #[.string (⟨#[49, 97, 58, 98]⟩ : ByteArray)] rfl (by (try simp only [List.map_toArray, List.map_cons, List.map_nil]); first | done | rfl | (simp only [List.length_drop, List.length_take]; rfl)) ?_; (with_reducible refine (link_Scheme.calls (⟨#[49, 97, 58, 98]⟩ : ByteArray) t115 false _ A2.out).mono ?_); rintro e w36 ⟨rfl, hb⟩; refine ⟨_, rfl, ?_⟩; have n0_ := Aside0.mk (below_step (by repeat (first | (with_reducible first | exact HB.out | apply below_alloc | apply pw_below_drewN | apply below_drew1) | exact HB.out)) hb); clear HB; have HB := n0_; clear n0_; (try clear hb); (try clear hb2); (try clear hk); (try clear hi)) | ((with_reducible refine gate_callee (f := 12) rfl ?_); refine goesL_ (some 13) rfl rfl Tryz.func12 (by kernel_rfl) rfl #[.string (⟨#[1, 32, 97, 10, 32, 98, 13, 32]⟩ : ByteArray)] rfl (by (try simp only [List.map_toArray, List.map_cons, List.map_nil]); first | done | rfl | (simp only [List.length_drop, List.length_take]; rfl)) ?_; (with_reducible refine (link_Clean.calls (⟨#[1, 32, 97, 10, 32, 98, 13, 32]⟩ : ByteArray) t117 _ A3.out).mono ?_); rintro e w37 ⟨rfl, hb⟩; refine ⟨_, rfl, ?_⟩; have n0_ := Aside0.mk (below_step (by repeat (first | (with_reducible first | exact HB.out | apply below_alloc | apply pw_below_drewN | apply below_drew1) | exact HB.out)) hb); clear HB; have HB := n0_; clear n0_; (try clear hb); (try clear hb2); (try clear hk); (try clear hi)) | (go_at_call 14; (with_reducible refine (link_Kind.calls k (⟨#[106, 97, 118, 97, 10, 115, 99, 114, 105, 112, 116, 58, 120]⟩ : ByteArray) t118 _ A11.out).mono ?_); rintro e w38 ⟨rfl, hb⟩; have n0_ := Aside0.mk (below_step (by repeat (first | (with_reducible first | exact HB.out | apply below_alloc | apply pw_below_drewN | apply below_drew1) | exact HB.out)) hb); clear HB; have HB := n0_; clear n0_; (try clear hb); (try clear hb2); (try clear hk); (try clear hi)) | (go_at_call 14; (with_reducible refine (link_Kind.calls k (⟨#[97, 47, 98, 58, 99]⟩ : ByteArray) t119 _ A13.out).mono ?_); rintro e w39 ⟨rfl, hb⟩; have n0_ := Aside0.mk (below_step (by repeat (first | (with_reducible first | exact HB.out | apply below_alloc | apply pw_below_drewN | apply below_drew1) | exact HB.out)) hb); clear HB; have HB := n0_; clear n0_; (try clear hb); (try clear hb2); (try clear hk); (try clear hi)) | (go_at_call 14; (with_reducible refine (link_Kind.calls k (⟨#[104, 116, 116, 112, 58, 47, 47, 120]⟩ : ByteArray) t120 _ A15.out).mono ?_); rintro e w40 ⟨rfl, hb⟩; have n0_ := Aside0.mk (below_step (by repeat (first | (with_reducible first | exact HB.out | apply below_alloc | apply pw_below_drewN | apply below_drew1) | exact HB.out)) hb); clear HB; have HB := n0_; clear n0_; (try clear hb); (try clear hb2); (try clear hk); (try clear hi)))
                go_ret
                exact ⟨by first | rfl | (simp [errW_none, errW_some] <;> rfl) | (simp [*, errW_none, errW_some] <;> rfl), by repeat (first | (with_reducible first | exact HB.out | apply below_alloc | apply pw_below_drewN | apply below_drew1) | exact HB.out)⟩
            · rw [if_neg c14] at H
              have c14b0 : (t119 == 0) = false := beq_eq_false_iff_ne.mpr c14
              have c14b1 : (t119 != 0) = true := bne_iff_ne.mpr c14
              obtain rfl := Option.some.inj H
              go_enter Tryz.func9, Tryz.ntmps9
              go_wp2_with (first | ((with_reducible refine gate_callee (f := 10) rfl ?_); refine goesL_ (some 6) rfl rfl Tryz.func10 (by kernel_rfl) rfl #[.string (⟨#[32, 72, 84, 84, 80, 9, 115, 58, 47, 47, 120, 0]⟩ : ByteArray)] rfl (by (try simp only [List.map_toArray, List.map_cons, List.map_nil]); first | done | rfl | (simp only [List.length_drop, List.length_take]; rfl)) ?_; (with_reducible refine (link_Scheme.calls (⟨#[32, 72, 84, 84, 80, 9, 115, 58, 47, 47, 120, 0]⟩ : ByteArray) t113 true _ A1.out).mono ?_); rintro e w41 ⟨rfl, hb⟩; refine ⟨_, rfl, ?_⟩; have n0_ := Aside0.mk (below_step (by repeat (first | (with_reducible first | exact HB.out | apply below_alloc | apply pw_below_drewN | apply below_drew1) | exact HB.out)) hb); clear HB; have HB := n0_; clear n0_; (try clear hb); (try clear hb2); (try clear hk); (try clear hi)) | ((with_reducible refine gate_callee (f := 10) rfl ?_); refine goesL_ (some 10) rfl rfl Tryz.func10 (by kernel_rfl) rfl #[.string (⟨#[49, 97, 58, 98]⟩ : ByteArray)] rfl (by (try simp only [List.map_toArray, List.map_cons, List.map_nil]); first | done | rfl | (simp only [List.length_drop, List.length_take]; rfl)) ?_; (with_reducible refine (link_Scheme.calls (⟨#[49, 97, 58, 98]⟩ : ByteArray) t115 false _ A2.out).mono ?_); rintro e w42 ⟨rfl, hb⟩; refine ⟨_, rfl, ?_⟩; have n0_ := Aside0.mk (below_step (by repeat (first | (with_reducible first | exact HB.out | apply below_alloc | apply pw_below_drewN | apply below_drew1) | exact HB.out)) hb); clear HB; have HB := n0_; clear n0_; (try clear hb); (try clear hb2); (try clear hk); (try clear hi)) | ((with_reducible refine gate_callee (f := 12) rfl ?_); refine goesL_ (some 13) rfl rfl Tryz.func12 (by kernel_rfl) rfl #[.string (⟨#[1, 32, 97, 10, 32, 98, 13, 32]⟩ : ByteArray)] rfl (by (try simp only [List.map_toArray, List.map_cons, List.map_nil]); first | done | rfl | (simp only [List.length_drop, List.length_take]; rfl)) ?_; (with_reducible refine (link_Clean.calls (⟨#[1, 32, 97, 10, 32, 98, 13, 32]⟩ : ByteArray) t117 _ A3.out).mono ?_); rintro e w43 ⟨rfl, hb⟩; refine ⟨_, rfl, ?_⟩; have n0_ := Aside0.mk (below_step (by repeat (first | (with_reducible first | exact HB.out | apply below_alloc | apply pw_below_drewN | apply below_drew1) | exact HB.out)) hb); clear HB; have HB := n0_; clear n0_; (try clear hb); (try clear hb2); (try clear hk); (try clear hi)) | (go_at_call 14; (with_reducible refine (link_Kind.calls k (⟨#[106, 97, 118, 97, 10, 115, 99, 114, 105, 112, 116, 58, 120]⟩ : ByteArray) t118 _ A11.out).mono ?_); rintro e w44 ⟨rfl, hb⟩; have n0_ := Aside0.mk (below_step (by repeat (first | (with_reducible first | exact HB.out | apply below_alloc | apply pw_below_drewN | apply below_drew1) | exact HB.out)) hb); clear HB; have HB := n0_; clear n0_; (try clear hb); (try clear hb2); (try clear hk); (try clear hi)) | (go_at_call 14; (with_reducible refine (link_Kind.calls k (⟨#[97, 47, 98, 58, 99]⟩ : ByteArray) t119 _ A13.out).mono ?_); rintro e w45 ⟨rfl, hb⟩; have n0_ := Aside0.mk (below_step (by repeat (first | (with_reducible first | exact HB.out | apply below_alloc | apply pw_below_drewN | apply below_drew1) | exact HB.out)) hb); clear HB; have HB := n0_; clear n0_; (try clear hb); (try clear hb2); (try clear hk); (try clear hi)))
              go_ret
              exact ⟨by first | rfl | (simp [errW_none, errW_some] <;> rfl) | (simp [*, errW_none, errW_some] <;> rfl), by repeat (first | (with_reducible first | exact HB.out | apply below_alloc | apply pw_below_drewN | apply below_drew1) | exact HB.out)⟩
          · rw [if_neg c12] at H
            have c12b0 : (t118 == 5) = false := beq_eq_false_iff_ne.mpr c12
            have c12b1 : (t118 != 5) = true := bne_iff_ne.mpr c12
            obtain rfl := Option.some.inj H
            go_enter Tryz.func9, Tryz.ntmps9
            go_wp2_with (first | ((with_reducible refine gate_callee (f := 10) rfl ?_); refine goesL_ (some 6) rfl rfl Tryz.func10 (by kernel_rfl) rfl #[.string (⟨#[32, 72, 84, 84, 80, 9, 115, 58, 47, 47, 120, 0]⟩ : ByteArray)] rfl (by (try simp only [List.map_toArray, List.map_cons, List.map_nil]); first | done | rfl | (simp only [List.length_drop, List.length_take]; rfl)) ?_; (with_reducible refine (link_Scheme.calls (⟨#[32, 72, 84, 84, 80, 9, 115, 58, 47, 47, 120, 0]⟩ : ByteArray) t113 true _ A1.out).mono ?_); rintro e w46 ⟨rfl, hb⟩; refine ⟨_, rfl, ?_⟩; have n0_ := Aside0.mk (below_step (by repeat (first | (with_reducible first | exact HB.out | apply below_alloc | apply pw_below_drewN | apply below_drew1) | exact HB.out)) hb); clear HB; have HB := n0_; clear n0_; (try clear hb); (try clear hb2); (try clear hk); (try clear hi)) | ((with_reducible refine gate_callee (f := 10) rfl ?_); refine goesL_ (some 10) rfl rfl Tryz.func10 (by kernel_rfl) rfl #[.string (⟨#[49, 97, 58, 98]⟩ : ByteArray)] rfl (by (try simp only [List.map_toArray, List.map_cons, List.map_nil]); first | done | rfl | (simp only [List.length_drop, List.length_take]; rfl)) ?_; (with_reducible refine (link_Scheme.calls (⟨#[49, 97, 58, 98]⟩ : ByteArray) t115 false _ A2.out).mono ?_); rintro e w47 ⟨rfl, hb⟩; refine ⟨_, rfl, ?_⟩; have n0_ := Aside0.mk (below_step (by repeat (first | (with_reducible first | exact HB.out | apply below_alloc | apply pw_below_drewN | apply below_drew1) | exact HB.out)) hb); clear HB; have HB := n0_; clear n0_; (try clear hb); (try clear hb2); (try clear hk); (try clear hi)) | ((with_reducible refine gate_callee (f := 12) rfl ?_); refine goesL_ (some 13) rfl rfl Tryz.func12 (by kernel_rfl) rfl #[.string (⟨#[1, 32, 97, 10, 32, 98, 13, 32]⟩ : ByteArray)] rfl (by (try simp only [List.map_toArray, List.map_cons, List.map_nil]); first | done | rfl | (simp only [List.length_drop, List.length_take]; rfl)) ?_; (with_reducible refine (link_Clean.calls (⟨#[1, 32, 97, 10, 32, 98, 13, 32]⟩ : ByteArray) t117 _ A3.out).mono ?_); rintro e w48 ⟨rfl, hb⟩; refine ⟨_, rfl, ?_⟩; have n0_ := Aside0.mk (below_step (by repeat (first | (with_reducible first | exact HB.out | apply below_alloc | apply pw_below_drewN | apply below_drew1) | exact HB.out)) hb); clear HB; have HB := n0_; clear n0_; (try clear hb); (try clear hb2); (try clear hk); (try clear hi)) | (go_at_call 14; (with_reducible refine (link_Kind.calls k (⟨#[106, 97, 118, 97, 10, 115, 99, 114, 105, 112, 116, 58, 120]⟩ : ByteArray) t118 _ A11.out).mono ?_); rintro e w49 ⟨rfl, hb⟩; have n0_ := Aside0.mk (below_step (by repeat (first | (with_reducible first | exact HB.out | apply below_alloc | apply pw_below_drewN | apply below_drew1) | exact HB.out)) hb); clear HB; have HB := n0_; clear n0_; (try clear hb); (try clear hb2); (try clear hk); (try clear hi)))
            go_ret
            exact ⟨by first | rfl | (simp [errW_none, errW_some] <;> rfl) | (simp [*, errW_none, errW_some] <;> rfl), by repeat (first | (with_reducible first | exact HB.out | apply below_alloc | apply pw_below_drewN | apply below_drew1) | exact HB.out)⟩
      · replace c6 := Bool.eq_false_iff.mpr c6
        subst c6
        have H1 : (some false) = some r := by rw [if_neg (show ¬ (false = true) by decide)] at H; exact H
        clear H
        have H := H1
        clear H1
        obtain rfl := Option.some.inj H
        go_enter Tryz.func9, Tryz.ntmps9
        go_wp2_with (first | ((with_reducible refine gate_callee (f := 10) rfl ?_); refine goesL_ (some 6) rfl rfl Tryz.func10 (by kernel_rfl) rfl #[.string (⟨#[32, 72, 84, 84, 80, 9, 115, 58, 47, 47, 120, 0]⟩ : ByteArray)] rfl (by (try simp only [List.map_toArray, List.map_cons, List.map_nil]); first | done | rfl | (simp only [List.length_drop, List.length_take]; rfl)) ?_; (with_reducible refine (link_Scheme.calls (⟨#[32, 72, 84, 84, 80, 9, 115, 58, 47, 47, 120, 0]⟩ : ByteArray) t113 false _ A1.out).mono ?_); rintro e w50 ⟨rfl, hb⟩; refine ⟨_, rfl, ?_⟩; have n0_ := Aside0.mk (below_step (by repeat (first | (with_reducible first | exact HB.out | apply below_alloc | apply pw_below_drewN | apply below_drew1) | exact HB.out)) hb); clear HB; have HB := n0_; clear n0_; (try clear hb); (try clear hb2); (try clear hk); (try clear hi)) | ((with_reducible refine gate_callee (f := 10) rfl ?_); refine goesL_ (some 10) rfl rfl Tryz.func10 (by kernel_rfl) rfl #[.string (⟨#[49, 97, 58, 98]⟩ : ByteArray)] rfl (by (try simp only [List.map_toArray, List.map_cons, List.map_nil]); first | done | rfl | (simp only [List.length_drop, List.length_take]; rfl)) ?_; (with_reducible refine (link_Scheme.calls (⟨#[49, 97, 58, 98]⟩ : ByteArray) t115 t116 _ A2.out).mono ?_); rintro e w51 ⟨rfl, hb⟩; refine ⟨_, rfl, ?_⟩; have n0_ := Aside0.mk (below_step (by repeat (first | (with_reducible first | exact HB.out | apply below_alloc | apply pw_below_drewN | apply below_drew1) | exact HB.out)) hb); clear HB; have HB := n0_; clear n0_; (try clear hb); (try clear hb2); (try clear hk); (try clear hi)) | ((with_reducible refine gate_callee (f := 12) rfl ?_); refine goesL_ (some 13) rfl rfl Tryz.func12 (by kernel_rfl) rfl #[.string (⟨#[1, 32, 97, 10, 32, 98, 13, 32]⟩ : ByteArray)] rfl (by (try simp only [List.map_toArray, List.map_cons, List.map_nil]); first | done | rfl | (simp only [List.length_drop, List.length_take]; rfl)) ?_; (with_reducible refine (link_Clean.calls (⟨#[1, 32, 97, 10, 32, 98, 13, 32]⟩ : ByteArray) t117 _ A3.out).mono ?_); rintro e w52 ⟨rfl, hb⟩; refine ⟨_, rfl, ?_⟩; have n0_ := Aside0.mk (below_step (by repeat (first | (with_reducible first | exact HB.out | apply below_alloc | apply pw_below_drewN | apply below_drew1) | exact HB.out)) hb); clear HB; have HB := n0_; clear n0_; (try clear hb); (try clear hb2); (try clear hk); (try clear hi)))
        go_ret
        exact ⟨by first | rfl | (simp [errW_none, errW_some] <;> rfl) | (simp [*, errW_none, errW_some] <;> rfl), by repeat (first | (with_reducible first | exact HB.out | apply below_alloc | apply pw_below_drewN | apply below_drew1) | exact HB.out)⟩
    · rw [if_neg c5] at H
      have c5b0 : (t113.toList == ([104, 116, 116, 112, 115] : List UInt8)) = false := beq_eq_false_iff_ne.mpr c5
      have c5b1 : (t113.toList != ([104, 116, 116, 112, 115] : List UInt8)) = true := bne_iff_ne.mpr c5
      obtain rfl := Option.some.inj H
      go_enter Tryz.func9, Tryz.ntmps9
      go_wp2_with (first | ((with_reducible refine gate_callee (f := 10) rfl ?_); refine goesL_ (some 6) rfl rfl Tryz.func10 (by kernel_rfl) rfl #[.string (⟨#[32, 72, 84, 84, 80, 9, 115, 58, 47, 47, 120, 0]⟩ : ByteArray)] rfl (by (try simp only [List.map_toArray, List.map_cons, List.map_nil]); first | done | rfl | (simp only [List.length_drop, List.length_take]; rfl)) ?_; (with_reducible refine (link_Scheme.calls (⟨#[32, 72, 84, 84, 80, 9, 115, 58, 47, 47, 120, 0]⟩ : ByteArray) t113 t114 _ A1.out).mono ?_); rintro e w53 ⟨rfl, hb⟩; refine ⟨_, rfl, ?_⟩; have n0_ := Aside0.mk (below_step (by repeat (first | (with_reducible first | exact HB.out | apply below_alloc | apply pw_below_drewN | apply below_drew1) | exact HB.out)) hb); clear HB; have HB := n0_; clear n0_; (try clear hb); (try clear hb2); (try clear hk); (try clear hi)) | ((with_reducible refine gate_callee (f := 10) rfl ?_); refine goesL_ (some 10) rfl rfl Tryz.func10 (by kernel_rfl) rfl #[.string (⟨#[49, 97, 58, 98]⟩ : ByteArray)] rfl (by (try simp only [List.map_toArray, List.map_cons, List.map_nil]); first | done | rfl | (simp only [List.length_drop, List.length_take]; rfl)) ?_; (with_reducible refine (link_Scheme.calls (⟨#[49, 97, 58, 98]⟩ : ByteArray) t115 t116 _ A2.out).mono ?_); rintro e w54 ⟨rfl, hb⟩; refine ⟨_, rfl, ?_⟩; have n0_ := Aside0.mk (below_step (by repeat (first | (with_reducible first | exact HB.out | apply below_alloc | apply pw_below_drewN | apply below_drew1) | exact HB.out)) hb); clear HB; have HB := n0_; clear n0_; (try clear hb); (try clear hb2); (try clear hk); (try clear hi)) | ((with_reducible refine gate_callee (f := 12) rfl ?_); refine goesL_ (some 13) rfl rfl Tryz.func12 (by kernel_rfl) rfl #[.string (⟨#[1, 32, 97, 10, 32, 98, 13, 32]⟩ : ByteArray)] rfl (by (try simp only [List.map_toArray, List.map_cons, List.map_nil]); first | done | rfl | (simp only [List.length_drop, List.length_take]; rfl)) ?_; (with_reducible refine (link_Clean.calls (⟨#[1, 32, 97, 10, 32, 98, 13, 32]⟩ : ByteArray) t117 _ A3.out).mono ?_); rintro e w55 ⟨rfl, hb⟩; refine ⟨_, rfl, ?_⟩; have n0_ := Aside0.mk (below_step (by repeat (first | (with_reducible first | exact HB.out | apply below_alloc | apply pw_below_drewN | apply below_drew1) | exact HB.out)) hb); clear HB; have HB := n0_; clear n0_; (try clear hb); (try clear hb2); (try clear hk); (try clear hi)))
      go_ret
      exact ⟨by first | rfl | (simp [errW_none, errW_some] <;> rfl) | (simp [*, errW_none, errW_some] <;> rfl), by repeat (first | (with_reducible first | exact HB.out | apply below_alloc | apply pw_below_drewN | apply below_drew1) | exact HB.out)⟩
  · rw [if_neg c4] at H
    have c4b0 : (t117.toList == ([97, 32, 98] : List UInt8)) = false := beq_eq_false_iff_ne.mpr c4
    have c4b1 : (t117.toList != ([97, 32, 98] : List UInt8)) = true := bne_iff_ne.mpr c4
    obtain rfl := Option.some.inj H
    go_enter Tryz.func9, Tryz.ntmps9
    go_wp2_with (first | ((with_reducible refine gate_callee (f := 10) rfl ?_); refine goesL_ (some 6) rfl rfl Tryz.func10 (by kernel_rfl) rfl #[.string (⟨#[32, 72, 84, 84, 80, 9, 115, 58, 47, 47, 120, 0]⟩ : ByteArray)] rfl (by (try simp only [List.map_toArray, List.map_cons, List.map_nil]); first | done | rfl | (simp only [List.length_drop, List.length_take]; rfl)) ?_; (with_reducible refine (link_Scheme.calls (⟨#[32, 72, 84, 84, 80, 9, 115, 58, 47, 47, 120, 0]⟩ : ByteArray) t113 t114 _ A1.out).mono ?_); rintro e w56 ⟨rfl, hb⟩; refine ⟨_, rfl, ?_⟩; have n0_ := Aside0.mk (below_step (by repeat (first | (with_reducible first | exact HB.out | apply below_alloc | apply pw_below_drewN | apply below_drew1) | exact HB.out)) hb); clear HB; have HB := n0_; clear n0_; (try clear hb); (try clear hb2); (try clear hk); (try clear hi)) | ((with_reducible refine gate_callee (f := 10) rfl ?_); refine goesL_ (some 10) rfl rfl Tryz.func10 (by kernel_rfl) rfl #[.string (⟨#[49, 97, 58, 98]⟩ : ByteArray)] rfl (by (try simp only [List.map_toArray, List.map_cons, List.map_nil]); first | done | rfl | (simp only [List.length_drop, List.length_take]; rfl)) ?_; (with_reducible refine (link_Scheme.calls (⟨#[49, 97, 58, 98]⟩ : ByteArray) t115 t116 _ A2.out).mono ?_); rintro e w57 ⟨rfl, hb⟩; refine ⟨_, rfl, ?_⟩; have n0_ := Aside0.mk (below_step (by repeat (first | (with_reducible first | exact HB.out | apply below_alloc | apply pw_below_drewN | apply below_drew1) | exact HB.out)) hb); clear HB; have HB := n0_; clear n0_; (try clear hb); (try clear hb2); (try clear hk); (try clear hi)) | ((with_reducible refine gate_callee (f := 12) rfl ?_); refine goesL_ (some 13) rfl rfl Tryz.func12 (by kernel_rfl) rfl #[.string (⟨#[1, 32, 97, 10, 32, 98, 13, 32]⟩ : ByteArray)] rfl (by (try simp only [List.map_toArray, List.map_cons, List.map_nil]); first | done | rfl | (simp only [List.length_drop, List.length_take]; rfl)) ?_; (with_reducible refine (link_Clean.calls (⟨#[1, 32, 97, 10, 32, 98, 13, 32]⟩ : ByteArray) t117 _ A3.out).mono ?_); rintro e w58 ⟨rfl, hb⟩; refine ⟨_, rfl, ?_⟩; have n0_ := Aside0.mk (below_step (by repeat (first | (with_reducible first | exact HB.out | apply below_alloc | apply pw_below_drewN | apply below_drew1) | exact HB.out)) hb); clear HB; have HB := n0_; clear n0_; (try clear hb); (try clear hb2); (try clear hk); (try clear hi)))
    go_ret
    exact ⟨by first | rfl | (simp [errW_none, errW_some] <;> rfl) | (simp [*, errW_none, errW_some] <;> rfl), by repeat (first | (with_reducible first | exact HB.out | apply below_alloc | apply pw_below_drewN | apply below_drew1) | exact HB.out)⟩

end Go.Proofs.YthilhcpdbjeepaaGreatDoor.P
