/- Parts of the proof of the law EntDecodes, in one text: C3, C4, C5, Utf, Ev, PureChars, PureKnown, PureDec, Num. -/
import Derived.Test.YtkfcbafjcjmfnaaGreatDoorMgEntDecodes0
import Derived.Lib.RuneBytes
import Derived.Laws.RangeAny
set_option linter.unusedVariables false
set_option linter.unusedSimpArgs false
namespace Go.Proofs.YtkfcbafjcjmfnaaGreatDoor.C
open Go.RowKit Go.Proofs.YtkfcbafjcjmfnaaGreatDoorW.PrintWords Go.Proofs.YtkfcbafjcjmfnaaGreatDoorW.PrintLast Go.Proofs.YtkfcbafjcjmfnaaGreatDoorW.PrintMore
attribute [local go_sem] max2_int min2_int max_two min_two max_three min_three max_four min_four
set_option linter.unusedVariables false
set_option linter.unusedSimpArgs false
def muslinref04_Sign.j0 : Nat → Int → Bool → Option (ByteArray)
  | 0, _, _ => none
  | k + 1, x0, x16 => if x16 = true then (some (⟨#[239, 191, 189]⟩ : ByteArray)) else (if x0 < 128 then (some (strOfNums (([(x0) % 256] : List Int)))) else (if x0 < 2048 then (some (strOfNums (([(wrap64 (192 + (wrap64 (Int.tdiv x0 64)))) % 256, (wrap64 (128 + (Int.tmod x0 64))) % 256] : List Int)))) else (if x0 < 65536 then (some (strOfNums (([(wrap64 (224 + (wrap64 (Int.tdiv x0 4096)))) % 256, (wrap64 (128 + (Int.tmod (wrap64 (Int.tdiv x0 64)) 64))) % 256, (wrap64 (128 + (Int.tmod x0 64))) % 256] : List Int)))) else (some (strOfNums (([(wrap64 (240 + (wrap64 (Int.tdiv x0 262144)))) % 256, (wrap64 (128 + (Int.tmod (wrap64 (Int.tdiv x0 4096)) 64))) % 256, (wrap64 (128 + (Int.tmod (wrap64 (Int.tdiv x0 64)) 64))) % 256, (wrap64 (128 + (Int.tmod x0 64))) % 256] : List Int)))))))
def muslinref04_Sign.f (k : Nat) (a0 : Int) : Option (ByteArray) := if a0 < 0 then (muslinref04_Sign.j0 k a0 true) else (if a0 > 1114111 then (muslinref04_Sign.j0 k a0 true) else (if a0 ≥ 55296 then (muslinref04_Sign.j0 k a0 (decide (a0 ≤ 57343))) else (muslinref04_Sign.j0 k a0 false)))
set_option maxHeartbeats 8000000 in
set_option maxRecDepth 100000 in
theorem muslinref04_Sign.calls (k : Nat) (a0 : Int) (r : ByteArray) (w : World) (h : muslinref04_Sign.f k a0 = some r) :
    Calls Tryz.prog 43 #[.int .i64 a0] w fun e w' => e = .returned (.string r) ∧ Below w.heap.size w w' := by
  have HB := Aside0.mk (Below.refl w.heap.size w); have H : (if a0 < 0 then (muslinref04_Sign.j0 k a0 true) else (if a0 > 1114111 then (muslinref04_Sign.j0 k a0 true) else (if a0 ≥ 55296 then (muslinref04_Sign.j0 k a0 (decide (a0 ≤ 57343))) else (muslinref04_Sign.j0 k a0 false)))) = some r := h; clear h; have HC2 := Aside0.mk H; clear H
  go_enter Tryz.func43, Tryz.ntmps43
  go_upto_region 1 with (fail)
  go_cut [16] (fun v16 wc => ∃ (kq : Nat) (x16_1 : Bool), v16 = .bool x16_1 ∧ Aside0 (muslinref04_Sign.j0 kq a0 x16_1 = some r) ∧ Aside0 (kq ≤ k) ∧ Aside0 (Below w.heap.size w wc))
  case first =>
    have H := HC2.out; clear HC2
    by_cases c3 : a0 < 0
    case pos =>
      rw [if_pos c3] at H; have c3b0 : decide (a0 < 0) = true := decide_eq_true c3; clear c3
      (first | rw [c3b0] | (simp only [i64_w, i32_w]; rw [c3b0]) | skip)
      have H' := Aside0.mk H; clear H
      go_wp2
      go_meet
      case rel => exact ⟨_, (true), (by first | rfl | (simp; done) | (simp [*]; done)), H', ⟨by first | omega | exact Nat.le_refl _⟩, ⟨by repeat (first | (with_reducible first | exact HB.out | apply below_alloc | apply pw_below_drewN | apply below_drew1) | exact HB.out)⟩⟩
    rw [if_neg c3] at H; have c3b0 : decide (a0 < 0) = false := decide_eq_false c3; clear c3
    (first | rw [c3b0] | (simp only [i64_w, i32_w]; rw [c3b0]) | skip)
    by_cases c4 : a0 > 1114111
    case pos =>
      rw [if_pos c4] at H; have c4b0 : decide (1114111 < a0) = true := decide_eq_true c4; clear c4; have H' := Aside0.mk H; clear H
      go_wp2
      go_meet
      case rel => exact ⟨_, (true), (by first | rfl | (simp; done) | (simp [*]; done)), H', ⟨by first | omega | exact Nat.le_refl _⟩, ⟨by repeat (first | (with_reducible first | exact HB.out | apply below_alloc | apply pw_below_drewN | apply below_drew1) | exact HB.out)⟩⟩
    rw [if_neg c4] at H; have c4b0 : decide (1114111 < a0) = false := decide_eq_false c4; clear c4
    by_cases c5 : a0 ≥ 55296
    case neg =>
      rw [if_neg c5] at H; have c5b0 : decide (55296 ≤ a0) = false := decide_eq_false c5; clear c5; have H' := Aside0.mk H; clear H
      go_wp2
      go_meet
      case rel => exact ⟨_, (false), (by first | rfl | (simp; done) | (simp [*]; done)), H', ⟨by first | omega | exact Nat.le_refl _⟩, ⟨by repeat (first | (with_reducible first | exact HB.out | apply below_alloc | apply pw_below_drewN | apply below_drew1) | exact HB.out)⟩⟩
    rw [if_pos c5] at H; have c5b0 : decide (55296 ≤ a0) = true := decide_eq_true c5; clear c5; have H' := Aside0.mk H; clear H
    go_wp2
    go_meet
    case rel => exact ⟨_, (decide (a0 ≤ 57343)), (by first | rfl | (simp; done) | (simp [*]; done)), H', ⟨by first | omega | exact Nat.le_refl _⟩, ⟨by repeat (first | (with_reducible first | exact HB.out | apply below_alloc | apply pw_below_drewN | apply below_drew1) | exact HB.out)⟩⟩
  case rest =>
    clear HC2; (try clear p2); (try clear c3); (try clear c3b0); (try clear c4); (try clear c4b0); (try clear c5); (try clear c5b0); obtain ⟨kq, x16_1, rfl, HA, HJ1, HB⟩ := hcut
    cases kq with
    | zero => exact absurd HA.out (by simp [muslinref04_Sign.j0])
    | succ kj1 =>
      have H := HA.out; clear HA; simp only [muslinref04_Sign.j0] at H
      by_cases c6 : x16_1 = true
      case pos =>
        subst c6
        have H1 : (some (⟨#[239, 191, 189]⟩ : ByteArray)) = some r := by rw [if_pos rfl] at H; exact H
        clear H; have H := H1; clear H1; obtain rfl := Option.some.inj H
        go_wp2
        go_ret
        exact ⟨by first | rfl | (simp [errW_none, errW_some] <;> rfl) | (simp [*, errW_none, errW_some] <;> rfl), by repeat (first | (with_reducible first | exact HB.out | apply below_alloc | apply pw_below_drewN | apply below_drew1) | exact HB.out)⟩
      replace c6 := Bool.eq_false_iff.mpr c6; subst c6
      have H1 : (if a0 < 128 then (some (strOfNums (([(a0) % 256] : List Int)))) else (if a0 < 2048 then (some (strOfNums (([(wrap64 (192 + (wrap64 (Int.tdiv a0 64)))) % 256, (wrap64 (128 + (Int.tmod a0 64))) % 256] : List Int)))) else (if a0 < 65536 then (some (strOfNums (([(wrap64 (224 + (wrap64 (Int.tdiv a0 4096)))) % 256, (wrap64 (128 + (Int.tmod (wrap64 (Int.tdiv a0 64)) 64))) % 256, (wrap64 (128 + (Int.tmod a0 64))) % 256] : List Int)))) else (some (strOfNums (([(wrap64 (240 + (wrap64 (Int.tdiv a0 262144)))) % 256, (wrap64 (128 + (Int.tmod (wrap64 (Int.tdiv a0 4096)) 64))) % 256, (wrap64 (128 + (Int.tmod (wrap64 (Int.tdiv a0 64)) 64))) % 256, (wrap64 (128 + (Int.tmod a0 64))) % 256] : List Int))))))) = some r := by rw [if_neg (show ¬ (false = true) by decide)] at H; exact H
      clear H; have H := H1; clear H1
      by_cases c7 : a0 < 128
      case pos =>
        rw [if_pos c7] at H; have c7b0 : decide (a0 < 128) = true := decide_eq_true c7; clear c7; obtain ⟨y114, hy114⟩ : ∃ y_ : List Int, y_ = (([(a0) % 256] : List Int)) := ⟨_, rfl⟩
        replace H : (some (strOfNums y114)) = some r := by first | (rw [hy114]; with_reducible exact H) | (have H2_ := (Option.bind_some _ _).symm.trans H; rw [hy114]; with_reducible exact H2_) | (have H2_ := (Option.bind_some _ _).symm.trans H; with_reducible exact H2_) | with_reducible exact H | (rw [hy114]; exact H) | exact H
        have Ny114 := Aside0.mk hy114; clear hy114; obtain rfl := Option.some.inj H; go_wp2_with (first | ((with_reducible refine gate_dst (N := 21) rfl ?_); refine Kd.R_lit (Kd.int .u8) _ 5 ?hg (N := 21) ?hd (xs := ([(a0) % 256] : List Int)) (inner := [.int .u8 ((a0) % 256)]) (ok := fun _ => True) (okp := fun _ => True) ?hr ?hp (fun _ hk => hk) trivial (Below.refl _ _) (Nat.le_refl _) (by simp) ?_; (case hd => rfl); (case hg => rfl); (case hr => first | (go_simp; done) | (go_simp; rfl)); (case hp => exact (Reps.one (show Kd.M (Kd.int .u8) _ _ _ ((a0) % 256) [.int .u8 ((a0) % 256)] from rfl) (Reps.none _ _))); intro v115 w8 ho9 hb hg_ hnew_; clear hg_ hnew_; (first | rw [← Ny114.out] at ho9 | (simp only [Int.reduceToNat] at ho9; rw [← Ny114.out] at ho9)); have n0_ := Aside0.mk (Kd.R_lower ho9 (below_size (by repeat (first | (with_reducible first | exact HB.out | apply below_alloc | apply pw_below_drewN | apply below_drew1) | exact HB.out)))); have n1_ := Aside0.mk (below_step (by repeat (first | (with_reducible first | exact HB.out | apply below_alloc | apply pw_below_drewN | apply below_drew1) | exact HB.out)) hb); clear HB; have HO116 := n0_; have HB := n1_; clear n0_ n1_; clear hb ho9; have hcv10 := own_string (P := Tryz.prog) Tryz.underlying29 Tryz.underlying5 Tryz.underlying9 (Kd.own_of_R HO116.out)))
        go_ret
        exact ⟨by first | rfl | (simp [errW_none, errW_some] <;> rfl) | (simp [*, errW_none, errW_some] <;> rfl), by repeat (first | (with_reducible first | exact HB.out | apply below_alloc | apply pw_below_drewN | apply below_drew1) | exact HB.out)⟩
      rw [if_neg c7] at H; have c7b0 : decide (a0 < 128) = false := decide_eq_false c7; clear c7
      by_cases c11 : a0 < 2048
      case pos =>
        rw [if_pos c11] at H; have c11b0 : decide (a0 < 2048) = true := decide_eq_true c11; clear c11; obtain ⟨y117, hy117⟩ : ∃ y_ : List Int, y_ = (([(wrap64 (192 + (wrap64 (Int.tdiv a0 64)))) % 256, (wrap64 (128 + (Int.tmod a0 64))) % 256] : List Int)) := ⟨_, rfl⟩
        replace H : (some (strOfNums y117)) = some r := by first | (rw [hy117]; with_reducible exact H) | (have H2_ := (Option.bind_some _ _).symm.trans H; rw [hy117]; with_reducible exact H2_) | (have H2_ := (Option.bind_some _ _).symm.trans H; with_reducible exact H2_) | with_reducible exact H | (rw [hy117]; exact H) | exact H
        have Ny117 := Aside0.mk hy117; clear hy117; obtain rfl := Option.some.inj H; go_wp2_with (first | ((with_reducible refine gate_dst (N := 33) rfl ?_); refine Kd.R_lit (Kd.int .u8) _ 5 ?hg (N := 33) ?hd (xs := ([(wrap64 (192 + (wrap64 (Int.tdiv a0 64)))) % 256, (wrap64 (128 + (Int.tmod a0 64))) % 256] : List Int)) (inner := [.int .u8 ((wrap64 (192 + (wrap64 (Int.tdiv a0 64)))) % 256), .int .u8 ((wrap64 (128 + (Int.tmod a0 64))) % 256)]) (ok := fun _ => True) (okp := fun _ => True) ?hr ?hp (fun _ hk => hk) trivial (Below.refl _ _) (Nat.le_refl _) (by simp) ?_; (case hd => rfl); (case hg => rfl); (case hr => first | (go_simp; done) | (go_simp; rfl)); (case hp => exact (Reps.one (show Kd.M (Kd.int .u8) _ _ _ ((wrap64 (192 + (wrap64 (Int.tdiv a0 64)))) % 256) [.int .u8 ((wrap64 (192 + (wrap64 (Int.tdiv a0 64)))) % 256)] from rfl) (Reps.one (show Kd.M (Kd.int .u8) _ _ _ ((wrap64 (128 + (Int.tmod a0 64))) % 256) [.int .u8 ((wrap64 (128 + (Int.tmod a0 64))) % 256)] from rfl) (Reps.none _ _)))); intro v118 w12 ho13 hb hg_ hnew_; clear hg_ hnew_; (first | rw [← Ny117.out] at ho13 | (simp only [Int.reduceToNat] at ho13; rw [← Ny117.out] at ho13)); have n0_ := Aside0.mk (Kd.R_lower ho13 (below_size (by repeat (first | (with_reducible first | exact HB.out | apply below_alloc | apply pw_below_drewN | apply below_drew1) | exact HB.out)))); have n1_ := Aside0.mk (below_step (by repeat (first | (with_reducible first | exact HB.out | apply below_alloc | apply pw_below_drewN | apply below_drew1) | exact HB.out)) hb); clear HB; have HO119 := n0_; have HB := n1_; clear n0_ n1_; clear hb ho13; have hcv14 := own_string (P := Tryz.prog) Tryz.underlying29 Tryz.underlying5 Tryz.underlying9 (Kd.own_of_R HO119.out)))
        go_ret
        exact ⟨by first | rfl | (simp [errW_none, errW_some] <;> rfl) | (simp [*, errW_none, errW_some] <;> rfl), by repeat (first | (with_reducible first | exact HB.out | apply below_alloc | apply pw_below_drewN | apply below_drew1) | exact HB.out)⟩
      rw [if_neg c11] at H; have c11b0 : decide (a0 < 2048) = false := decide_eq_false c11; clear c11
      by_cases c15 : a0 < 65536
      case pos =>
        rw [if_pos c15] at H; have c15b0 : decide (a0 < 65536) = true := decide_eq_true c15; clear c15; obtain ⟨y120, hy120⟩ : ∃ y_ : List Int, y_ = (([(wrap64 (224 + (wrap64 (Int.tdiv a0 4096)))) % 256, (wrap64 (128 + (Int.tmod (wrap64 (Int.tdiv a0 64)) 64))) % 256, (wrap64 (128 + (Int.tmod a0 64))) % 256] : List Int)) := ⟨_, rfl⟩
        replace H : (some (strOfNums y120)) = some r := by first | (rw [hy120]; with_reducible exact H) | (have H2_ := (Option.bind_some _ _).symm.trans H; rw [hy120]; with_reducible exact H2_) | (have H2_ := (Option.bind_some _ _).symm.trans H; with_reducible exact H2_) | with_reducible exact H | (rw [hy120]; exact H) | exact H
        have Ny120 := Aside0.mk hy120; clear hy120; obtain rfl := Option.some.inj H; go_wp2_with (first | ((with_reducible refine gate_dst (N := 50) rfl ?_); refine Kd.R_lit (Kd.int .u8) _ 5 ?hg (N := 50) ?hd (xs := ([(wrap64 (224 + (wrap64 (Int.tdiv a0 4096)))) % 256, (wrap64 (128 + (Int.tmod (wrap64 (Int.tdiv a0 64)) 64))) % 256, (wrap64 (128 + (Int.tmod a0 64))) % 256] : List Int)) (inner := [.int .u8 ((wrap64 (224 + (wrap64 (Int.tdiv a0 4096)))) % 256), .int .u8 ((wrap64 (128 + (Int.tmod (wrap64 (Int.tdiv a0 64)) 64))) % 256), .int .u8 ((wrap64 (128 + (Int.tmod a0 64))) % 256)]) (ok := fun _ => True) (okp := fun _ => True) ?hr ?hp (fun _ hk => hk) trivial (Below.refl _ _) (Nat.le_refl _) (by simp) ?_; (case hd => rfl); (case hg => rfl); (case hr => first | (go_simp; done) | (go_simp; rfl)); (case hp => exact (Reps.one (show Kd.M (Kd.int .u8) _ _ _ ((wrap64 (224 + (wrap64 (Int.tdiv a0 4096)))) % 256) [.int .u8 ((wrap64 (224 + (wrap64 (Int.tdiv a0 4096)))) % 256)] from rfl) (Reps.one (show Kd.M (Kd.int .u8) _ _ _ ((wrap64 (128 + (Int.tmod (wrap64 (Int.tdiv a0 64)) 64))) % 256) [.int .u8 ((wrap64 (128 + (Int.tmod (wrap64 (Int.tdiv a0 64)) 64))) % 256)] from rfl) (Reps.one (show Kd.M (Kd.int .u8) _ _ _ ((wrap64 (128 + (Int.tmod a0 64))) % 256) [.int .u8 ((wrap64 (128 + (Int.tmod a0 64))) % 256)] from rfl) (Reps.none _ _))))); intro v121 w16 ho17 hb hg_ hnew_; clear hg_ hnew_; (first | rw [← Ny120.out] at ho17 | (simp only [Int.reduceToNat] at ho17; rw [← Ny120.out] at ho17)); have n0_ := Aside0.mk (Kd.R_lower ho17 (below_size (by repeat (first | (with_reducible first | exact HB.out | apply below_alloc | apply pw_below_drewN | apply below_drew1) | exact HB.out)))); have n1_ := Aside0.mk (below_step (by repeat (first | (with_reducible first | exact HB.out | apply below_alloc | apply pw_below_drewN | apply below_drew1) | exact HB.out)) hb); clear HB; have HO122 := n0_; have HB := n1_; clear n0_ n1_; clear hb ho17; have hcv18 := own_string (P := Tryz.prog) Tryz.underlying29 Tryz.underlying5 Tryz.underlying9 (Kd.own_of_R HO122.out)))
        go_ret
        exact ⟨by first | rfl | (simp [errW_none, errW_some] <;> rfl) | (simp [*, errW_none, errW_some] <;> rfl), by repeat (first | (with_reducible first | exact HB.out | apply below_alloc | apply pw_below_drewN | apply below_drew1) | exact HB.out)⟩
      rw [if_neg c15] at H; have c15b0 : decide (a0 < 65536) = false := decide_eq_false c15; clear c15; obtain ⟨y123, hy123⟩ : ∃ y_ : List Int, y_ = (([(wrap64 (240 + (wrap64 (Int.tdiv a0 262144)))) % 256, (wrap64 (128 + (Int.tmod (wrap64 (Int.tdiv a0 4096)) 64))) % 256, (wrap64 (128 + (Int.tmod (wrap64 (Int.tdiv a0 64)) 64))) % 256, (wrap64 (128 + (Int.tmod a0 64))) % 256] : List Int)) := ⟨_, rfl⟩
      replace H : (some (strOfNums y123)) = some r := by first | (rw [hy123]; with_reducible exact H) | (have H2_ := (Option.bind_some _ _).symm.trans H; rw [hy123]; with_reducible exact H2_) | (have H2_ := (Option.bind_some _ _).symm.trans H; with_reducible exact H2_) | with_reducible exact H | (rw [hy123]; exact H) | exact H
      have Ny123 := Aside0.mk hy123; clear hy123; obtain rfl := Option.some.inj H; go_wp2_with (first | ((with_reducible refine gate_dst (N := 70) rfl ?_); refine Kd.R_lit (Kd.int .u8) _ 5 ?hg (N := 70) ?hd (xs := ([(wrap64 (240 + (wrap64 (Int.tdiv a0 262144)))) % 256, (wrap64 (128 + (Int.tmod (wrap64 (Int.tdiv a0 4096)) 64))) % 256, (wrap64 (128 + (Int.tmod (wrap64 (Int.tdiv a0 64)) 64))) % 256, (wrap64 (128 + (Int.tmod a0 64))) % 256] : List Int)) (inner := [.int .u8 ((wrap64 (240 + (wrap64 (Int.tdiv a0 262144)))) % 256), .int .u8 ((wrap64 (128 + (Int.tmod (wrap64 (Int.tdiv a0 4096)) 64))) % 256), .int .u8 ((wrap64 (128 + (Int.tmod (wrap64 (Int.tdiv a0 64)) 64))) % 256), .int .u8 ((wrap64 (128 + (Int.tmod a0 64))) % 256)]) (ok := fun _ => True) (okp := fun _ => True) ?hr ?hp (fun _ hk => hk) trivial (Below.refl _ _) (Nat.le_refl _) (by simp) ?_; (case hd => rfl); (case hg => rfl); (case hr => first | (go_simp; done) | (go_simp; rfl)); (case hp => exact (Reps.one (show Kd.M (Kd.int .u8) _ _ _ ((wrap64 (240 + (wrap64 (Int.tdiv a0 262144)))) % 256) [.int .u8 ((wrap64 (240 + (wrap64 (Int.tdiv a0 262144)))) % 256)] from rfl) (Reps.one (show Kd.M (Kd.int .u8) _ _ _ ((wrap64 (128 + (Int.tmod (wrap64 (Int.tdiv a0 4096)) 64))) % 256) [.int .u8 ((wrap64 (128 + (Int.tmod (wrap64 (Int.tdiv a0 4096)) 64))) % 256)] from rfl) (Reps.one (show Kd.M (Kd.int .u8) _ _ _ ((wrap64 (128 + (Int.tmod (wrap64 (Int.tdiv a0 64)) 64))) % 256) [.int .u8 ((wrap64 (128 + (Int.tmod (wrap64 (Int.tdiv a0 64)) 64))) % 256)] from rfl) (Reps.one (show Kd.M (Kd.int .u8) _ _ _ ((wrap64 (128 + (Int.tmod a0 64))) % 256) [.int .u8 ((wrap64 (128 + (Int.tmod a0 64))) % 256)] from rfl) (Reps.none _ _)))))); intro v124 w19 ho20 hb hg_ hnew_; clear hg_ hnew_; (first | rw [← Ny123.out] at ho20 | (simp only [Int.reduceToNat] at ho20; rw [← Ny123.out] at ho20)); have n0_ := Aside0.mk (Kd.R_lower ho20 (below_size (by repeat (first | (with_reducible first | exact HB.out | apply below_alloc | apply pw_below_drewN | apply below_drew1) | exact HB.out)))); have n1_ := Aside0.mk (below_step (by repeat (first | (with_reducible first | exact HB.out | apply below_alloc | apply pw_below_drewN | apply below_drew1) | exact HB.out)) hb); clear HB; have HO125 := n0_; have HB := n1_; clear n0_ n1_; clear hb ho20; have hcv21 := own_string (P := Tryz.prog) Tryz.underlying29 Tryz.underlying5 Tryz.underlying9 (Kd.own_of_R HO125.out)))
      go_ret
      exact ⟨by first | rfl | (simp [errW_none, errW_some] <;> rfl) | (simp [*, errW_none, errW_some] <;> rfl), by repeat (first | (with_reducible first | exact HB.out | apply below_alloc | apply pw_below_drewN | apply below_drew1) | exact HB.out)⟩
def muslinref04_high.f (a0 : Int) : Option (Int) := (some (([8364, 129, 8218, 402, 8222, 8230, 8224, 8225, 710, 8240, 352, 8249, 338, 141, 381, 143, 144, 8216, 8217, 8220, 8221, 8226, 8211, 8212, 732, 8482, 353, 8250, 339, 157, 382, 376] : List Int) : List Int)).bind fun y126 => (if 0 ≤ ((a0 - 128) % 256) then (if ((a0 - 128) % 256) < (y126.length : Int) then (some (rd y126 ((a0 - 128) % 256))) else (none)) else (none))
set_option maxHeartbeats 8000000 in
set_option maxRecDepth 100000 in
theorem muslinref04_high.calls (a0 : Int) (r : Int) (w : World) (h : muslinref04_high.f a0 = some r) :
    Calls Tryz.prog 57 #[.int .u8 a0] w fun e w' => e = .returned (.int .i64 r) ∧ Below w.heap.size w w' := by
  have HB := Aside0.mk (Below.refl w.heap.size w); have H : ((some (([8364, 129, 8218, 402, 8222, 8230, 8224, 8225, 710, 8240, 352, 8249, 338, 141, 381, 143, 144, 8216, 8217, 8220, 8221, 8226, 8211, 8212, 732, 8482, 353, 8250, 339, 157, 382, 376] : List Int) : List Int)).bind fun y126 => (if 0 ≤ ((a0 - 128) % 256) then (if ((a0 - 128) % 256) < (y126.length : Int) then (some (rd y126 ((a0 - 128) % 256))) else (none)) else (none))) = some r := h; clear h; obtain ⟨y126, hy126⟩ : ∃ y_ : List Int, y_ = (([8364, 129, 8218, 402, 8222, 8230, 8224, 8225, 710, 8240, 352, 8249, 338, 141, 381, 143, 144, 8216, 8217, 8220, 8221, 8226, 8211, 8212, 732, 8482, 353, 8250, 339, 157, 382, 376] : List Int)) := ⟨_, rfl⟩
  replace H : (if 0 ≤ ((a0 - 128) % 256) then (if ((a0 - 128) % 256) < (y126.length : Int) then (some (rd y126 ((a0 - 128) % 256))) else (none)) else (none)) = some r := by first | (rw [hy126]; with_reducible exact H) | (have H2_ := (Option.bind_some _ _).symm.trans H; rw [hy126]; with_reducible exact H2_) | (have H2_ := (Option.bind_some _ _).symm.trans H; with_reducible exact H2_) | with_reducible exact H | (rw [hy126]; exact H) | exact H
  have Ny126 := Aside0.mk hy126; clear hy126; obtain ⟨ji2, hji2⟩ : ∃ j_ : Int, ((a0 - 128) % 256) = j_ := ⟨_, rfl⟩
  replace H : (if 0 ≤ (ji2) then (if (ji2) < (y126.length : Int) then (some (rd y126 (ji2))) else (none)) else (none)) = some r := by first | (rw [hji2] at H; exact H) | (simp only [hji2] at H ⊢; exact H)
  by_cases c3 : 0 ≤ (ji2)
  case neg =>
    rw [if_neg c3] at H
    exact absurd H (by simp)
  rw [if_pos c3] at H; have c3b0 : decide (0 ≤ (ji2)) = true := decide_eq_true c3; clear c3
  by_cases c4 : (ji2) < (y126.length : Int)
  case neg =>
    rw [if_neg c4] at H
    exact absurd H (by simp)
  rw [if_pos c4] at H; have c4b0 : decide ((ji2) < (y126.length : Int)) = true := decide_eq_true c4; clear c4; obtain rfl := Option.some.inj H
  go_enter Tryz.func57, Tryz.ntmps57
  go_wp2_with (first | ((with_reducible refine gate_dst (N := 4) rfl ?_); refine Kd.R_lit (Kd.int .i64) _ 3 ?hg (N := 4) ?hd (xs := ([8364, 129, 8218, 402, 8222, 8230, 8224, 8225, 710, 8240, 352, 8249, 338, 141, 381, 143, 144, 8216, 8217, 8220, 8221, 8226, 8211, 8212, 732, 8482, 353, 8250, 339, 157, 382, 376] : List Int)) (inner := [.int .i64 8364, .int .i64 129, .int .i64 8218, .int .i64 402, .int .i64 8222, .int .i64 8230, .int .i64 8224, .int .i64 8225, .int .i64 710, .int .i64 8240, .int .i64 352, .int .i64 8249, .int .i64 338, .int .i64 141, .int .i64 381, .int .i64 143, .int .i64 144, .int .i64 8216, .int .i64 8217, .int .i64 8220, .int .i64 8221, .int .i64 8226, .int .i64 8211, .int .i64 8212, .int .i64 732, .int .i64 8482, .int .i64 353, .int .i64 8250, .int .i64 339, .int .i64 157, .int .i64 382, .int .i64 376]) (ok := fun _ => True) (okp := fun _ => True) ?hr ?hp (fun _ hk => hk) trivial (Below.refl _ _) (Nat.le_refl _) (by simp) ?_; (case hd => rfl); (case hg => rfl); (case hr => first | (go_simp; done) | (go_simp; rfl)); (case hp => exact (Reps.one (show Kd.M (Kd.int .i64) _ _ _ 8364 [.int .i64 8364] from rfl) (Reps.one (show Kd.M (Kd.int .i64) _ _ _ 129 [.int .i64 129] from rfl) (Reps.one (show Kd.M (Kd.int .i64) _ _ _ 8218 [.int .i64 8218] from rfl) (Reps.one (show Kd.M (Kd.int .i64) _ _ _ 402 [.int .i64 402] from rfl) (Reps.one (show Kd.M (Kd.int .i64) _ _ _ 8222 [.int .i64 8222] from rfl) (Reps.one (show Kd.M (Kd.int .i64) _ _ _ 8230 [.int .i64 8230] from rfl) (Reps.one (show Kd.M (Kd.int .i64) _ _ _ 8224 [.int .i64 8224] from rfl) (Reps.one (show Kd.M (Kd.int .i64) _ _ _ 8225 [.int .i64 8225] from rfl) (Reps.one (show Kd.M (Kd.int .i64) _ _ _ 710 [.int .i64 710] from rfl) (Reps.one (show Kd.M (Kd.int .i64) _ _ _ 8240 [.int .i64 8240] from rfl) (Reps.one (show Kd.M (Kd.int .i64) _ _ _ 352 [.int .i64 352] from rfl) (Reps.one (show Kd.M (Kd.int .i64) _ _ _ 8249 [.int .i64 8249] from rfl) (Reps.one (show Kd.M (Kd.int .i64) _ _ _ 338 [.int .i64 338] from rfl) (Reps.one (show Kd.M (Kd.int .i64) _ _ _ 141 [.int .i64 141] from rfl) (Reps.one (show Kd.M (Kd.int .i64) _ _ _ 381 [.int .i64 381] from rfl) (Reps.one (show Kd.M (Kd.int .i64) _ _ _ 143 [.int .i64 143] from rfl) (Reps.one (show Kd.M (Kd.int .i64) _ _ _ 144 [.int .i64 144] from rfl) (Reps.one (show Kd.M (Kd.int .i64) _ _ _ 8216 [.int .i64 8216] from rfl) (Reps.one (show Kd.M (Kd.int .i64) _ _ _ 8217 [.int .i64 8217] from rfl) (Reps.one (show Kd.M (Kd.int .i64) _ _ _ 8220 [.int .i64 8220] from rfl) (Reps.one (show Kd.M (Kd.int .i64) _ _ _ 8221 [.int .i64 8221] from rfl) (Reps.one (show Kd.M (Kd.int .i64) _ _ _ 8226 [.int .i64 8226] from rfl) (Reps.one (show Kd.M (Kd.int .i64) _ _ _ 8211 [.int .i64 8211] from rfl) (Reps.one (show Kd.M (Kd.int .i64) _ _ _ 8212 [.int .i64 8212] from rfl) (Reps.one (show Kd.M (Kd.int .i64) _ _ _ 732 [.int .i64 732] from rfl) (Reps.one (show Kd.M (Kd.int .i64) _ _ _ 8482 [.int .i64 8482] from rfl) (Reps.one (show Kd.M (Kd.int .i64) _ _ _ 353 [.int .i64 353] from rfl) (Reps.one (show Kd.M (Kd.int .i64) _ _ _ 8250 [.int .i64 8250] from rfl) (Reps.one (show Kd.M (Kd.int .i64) _ _ _ 339 [.int .i64 339] from rfl) (Reps.one (show Kd.M (Kd.int .i64) _ _ _ 157 [.int .i64 157] from rfl) (Reps.one (show Kd.M (Kd.int .i64) _ _ _ 382 [.int .i64 382] from rfl) (Reps.one (show Kd.M (Kd.int .i64) _ _ _ 376 [.int .i64 376] from rfl) (Reps.none _ _)))))))))))))))))))))))))))))))))); intro v127 w5 ho6 hb hg_ hnew_; clear hg_ hnew_; (first | rw [← Ny126.out] at ho6 | (simp only [Int.reduceToNat] at ho6; rw [← Ny126.out] at ho6)); have n0_ := Aside0.mk (Kd.R_lower ho6 (below_size (by repeat (first | (with_reducible first | exact HB.out | apply below_alloc | apply pw_below_drewN | apply below_drew1) | exact HB.out)))); have n1_ := Aside0.mk (below_step (by repeat (first | (with_reducible first | exact HB.out | apply below_alloc | apply pw_below_drewN | apply below_drew1) | exact HB.out)) hb); clear HB; have HO128 := n0_; have HB := n1_; clear n0_ n1_; clear hb ho6; obtain ⟨Ao7, co7, eo7⟩ := Kd.R_slice HO128.out; subst eo7; have p129 : 0 ≤ ((ji2) : Int) := of_decide_eq_true (by first | (with_reducible assumption) | assumption); have q129 : (ji2) < (y126.length : Int) := of_decide_eq_true (by first | (with_reducible assumption) | assumption); obtain ⟨ad129, e129, hx129_0⟩ := Kd.at_int (Kd.R_reads' HO128.out).2.2 (ji2) p129 q129; cases e129; replace p129 := eq_true p129; replace q129 := eq_true q129))
  go_ret
  exact ⟨by first | rfl | (simp [errW_none, errW_some] <;> rfl) | (simp only [← hji2]; first | rfl | (simp [errW_none, errW_some] <;> rfl)) | (simp [*, errW_none, errW_some] <;> rfl), by repeat (first | (with_reducible first | exact HB.out | apply below_alloc | apply pw_below_drewN | apply below_drew1) | exact HB.out)⟩
def muslinref04_units.l0 : Nat → ByteArray → Bool → List Int → Int → Option (List Int × Bool)
  | 0, _, _, _, _ => none
  | k + 1, x0, x1, x6, x7 => if (wrap64 (x7 + 1)) < (x0.size : Int) then (if x1 = true then (if 0 ≤ x7 then (if x7 < (x0.size : Int) then (if 0 ≤ (wrap64 (x7 + 1)) then (if x6.length < 17592186044416 then (muslinref04_units.l0 k x0 x1 (x6 ++ [wrap64 ((wrap64 (256 * (wrap64 (bt x0 x7)))) + (wrap64 (bt x0 (wrap64 (x7 + 1)))))]) (wrap64 (x7 + 2))) else (none)) else (none)) else (none)) else (none)) else (if 0 ≤ (wrap64 (x7 + 1)) then (if 0 ≤ x7 then (if x7 < (x0.size : Int) then (if x6.length < 17592186044416 then (muslinref04_units.l0 k x0 x1 (x6 ++ [wrap64 ((wrap64 (256 * (wrap64 (bt x0 (wrap64 (x7 + 1)))))) + (wrap64 (bt x0 x7)))]) (wrap64 (x7 + 2))) else (none)) else (none)) else (none)) else (none))) else (some (x6, (((x0.size : Int) % 2) == 1)))
def muslinref04_units.f (k : Nat) (a0 : ByteArray) (a1 : Bool) : Option (List Int × Bool) := muslinref04_units.l0 k a0 a1 ([] : List Int) 0
def muslinref04_units.T6 : Bool × List (List Nat × List Nat) := (true, [([], []), ([], []), ([], []), ([1, 2], [1, 2]), ([3], [3]), ([4], [4]), ([], []), ([], []), ([7], [7]), ([6, 8], [6, 8]), ([9], [9]), ([5, 10], [5, 10]), ([11], [11]), ([0, 12], [0, 12]), ([13, 13, 0, 1, 2, 3, 4, 5, 6, 7, 8, 9, 10, 11, 12, 13], [0, 13])])
def muslinref04_units.B6 : List Nat := [0, 0, 0, 6, 14, 30, 0, 0, 128, 448, 960, 2046, 4094, 8191, 16383]
theorem muslinref04_units.tab6 : rtab .any (opsOf Tryz.f58 6) = muslinref04_units.T6 := by kernel_rfl
theorem muslinref04_units.bits6 : waitsOk muslinref04_units.T6.2 muslinref04_units.B6 = true := by kernel_rfl
def muslinref04_units.T7 : Bool × List (List Nat × List Nat) := (true, [([], []), ([], []), ([], []), ([2], [2]), ([1, 3], [1, 3]), ([4], [4]), ([5], [5]), ([], []), ([], []), ([7, 8], [7, 8]), ([9], [9]), ([6, 10], [6, 10]), ([11], [11]), ([0, 12], [0, 12]), ([13, 13, 0, 1, 2, 3, 4, 5, 6, 7, 8, 9, 10, 11, 12, 13], [0, 13])])
def muslinref04_units.B7 : List Nat := [0, 0, 0, 4, 14, 30, 62, 0, 0, 384, 896, 2046, 4094, 8191, 16383]
theorem muslinref04_units.tab7 : rtab .any (opsOf Tryz.f58 7) = muslinref04_units.T7 := by kernel_rfl
theorem muslinref04_units.bits7 : waitsOk muslinref04_units.T7.2 muslinref04_units.B7 = true := by kernel_rfl
set_option maxHeartbeats 8000000 in
set_option maxRecDepth 100000 in
theorem muslinref04_units.calls (k : Nat) (a0 : ByteArray) (a1 : Bool) (r1 : List Int) (r2 : Bool) (w : World) (h : muslinref04_units.f k a0 a1 = some (r1, r2)) :
    Calls Tryz.prog 58 #[.string a0, .bool a1] w fun e w' => ∃ v0_ : Value, e = .returned (.tuple #[v0_, .bool r2]) ∧ Kd.R (Kd.int .i64) 3 w' w.heap.size (fun _ => True) v0_ r1 ∧ Below w.heap.size w w' := by
  have HB := Aside0.mk (Below.refl w.heap.size w); have H : (muslinref04_units.l0 k a0 a1 ([] : List Int) 0) = some (r1, r2) := h; clear h; have H' := Aside0.mk H; clear H
  go_enter Tryz.func58, Tryz.ntmps58
  go_wp2
  go_loopg [6, 7] k (fun kq v6 v7 w' => ∃ (x6_1 : List Int) (x7_1 : Int), v7 = .int .i64 x7_1 ∧ Aside0 (muslinref04_units.l0 kq a0 a1 x6_1 x7_1 = some (r1, r2)) ∧ Aside0 (kq ≤ k) ∧ Aside0 (Kd.R (Kd.int .i64) 3 w' w.heap.size (fun _ => True) v6 x6_1) ∧ Aside0 (Below w.heap.size w w'))
  case atStart => exact ⟨(([] : List Int)), (0), (by first | rfl | (simp; done) | (simp [*]; done)), H', ⟨Nat.le_refl _⟩, ⟨by first | exact Kd.R_nil _ _ _ _ _ | exact Kd.N_nil _ _ _ _ _ | exact Kd.V_nil _ _ _ _ _ | exact Kd.Q_nil _ _ _ _ _ | exact Kd.S_nil _ _ _ _ _⟩, ⟨by repeat (first | (with_reducible first | exact HB.out | apply below_alloc | apply pw_below_drewN | apply below_drew1) | exact HB.out)⟩⟩
  case round =>
    clear H'; (try clear p2); obtain ⟨x6_1, x7_1, rfl, HA, HK1, HO_6, HB⟩ := hrel
    cases gk with
    | zero => exact absurd HA.out (by simp [muslinref04_units.l0])
    | succ k1 =>
      have H := HA.out; clear HA; simp only [muslinref04_units.l0] at H
      by_cases c3 : (wrap64 (x7_1 + 1)) < (a0.size : Int)
      case neg =>
        rw [if_neg c3] at H; have c3b0 : decide ((wrap64 (x7_1 + 1)) < (a0.size : Int)) = false := decide_eq_false c3; clear c3; simp only [Option.some.injEq, Prod.mk.injEq] at H; obtain ⟨rfl, rfl⟩ := H
        go_wp2
        go_ret2
        exact ⟨_, by first | rfl | (simp [errW_none, errW_some] <;> rfl) | (simp [*, errW_none, errW_some] <;> rfl), by (with_reducible repeat (first | apply Kd.R_alloc | apply Kd.R_drewN | apply Kd.R_drew)); exact HO_6.out, by repeat (first | (with_reducible first | exact HB.out | apply below_alloc | apply pw_below_drewN | apply below_drew1) | exact HB.out)⟩
      rw [if_pos c3] at H; have c3b0 : decide ((wrap64 (x7_1 + 1)) < (a0.size : Int)) = true := decide_eq_true c3; clear c3
      by_cases c4 : a1 = true
      case pos =>
        subst c4
        have H1 : (if 0 ≤ x7_1 then (if x7_1 < (a0.size : Int) then (if 0 ≤ (wrap64 (x7_1 + 1)) then (if x6_1.length < 17592186044416 then (muslinref04_units.l0 k1 a0 true (x6_1 ++ [wrap64 ((wrap64 (256 * (wrap64 (bt a0 x7_1)))) + (wrap64 (bt a0 (wrap64 (x7_1 + 1)))))]) (wrap64 (x7_1 + 2))) else (none)) else (none)) else (none)) else (none)) = some (r1, r2) := by rw [if_pos rfl] at H; exact H
        clear H; have H := H1; clear H1
        by_cases c5 : 0 ≤ x7_1
        case neg =>
          rw [if_neg c5] at H
          exact absurd H (by simp)
        rw [if_pos c5] at H; have c5b0 : decide (0 ≤ x7_1) = true := decide_eq_true c5; clear c5
        by_cases c6 : x7_1 < (a0.size : Int)
        case neg =>
          rw [if_neg c6] at H
          exact absurd H (by simp)
        rw [if_pos c6] at H; have c6b0 : decide (x7_1 < (a0.size : Int)) = true := decide_eq_true c6; clear c6; obtain ⟨ji8, hji8⟩ : ∃ j_ : Int, (wrap64 (x7_1 + 1)) = j_ := ⟨_, rfl⟩
        replace H : (if 0 ≤ (ji8) then (if x6_1.length < 17592186044416 then (muslinref04_units.l0 k1 a0 true (x6_1 ++ [wrap64 ((wrap64 (256 * (wrap64 (bt a0 x7_1)))) + (wrap64 (bt a0 (ji8))))]) (wrap64 (x7_1 + 2))) else (none)) else (none)) = some (r1, r2) := by first | (rw [hji8] at H; exact H) | (simp only [hji8] at H ⊢; exact H)
        (try rw [hji8] at c3b0)
        have hji8w : (IntKind.i64.wrap (x7_1 + 1)) = ji8 := (i64_w _).trans hji8
        by_cases c9 : 0 ≤ (ji8)
        case neg =>
          rw [if_neg c9] at H
          exact absurd H (by simp)
        rw [if_pos c9] at H; have c9b0 : decide (0 ≤ (ji8)) = true := decide_eq_true c9; clear c9
        by_cases c11 : x6_1.length < 17592186044416
        case neg =>
          rw [if_neg c11] at H
          exact absurd H (by simp)
        rw [if_pos c11] at H; have LMc11 := Aside0.mk c11; clear c11; obtain ⟨y130, hy130⟩ : ∃ y_ : List Int, y_ = (x6_1 ++ [wrap64 ((wrap64 (256 * (wrap64 (bt a0 x7_1)))) + (wrap64 (bt a0 (ji8))))]) := ⟨_, rfl⟩
        replace H : (muslinref04_units.l0 k1 a0 true y130 (wrap64 (x7_1 + 2))) = some (r1, r2) := by first | (rw [hy130]; with_reducible exact H) | (have H2_ := (Option.bind_some _ _).symm.trans H; rw [hy130]; with_reducible exact H2_) | (have H2_ := (Option.bind_some _ _).symm.trans H; with_reducible exact H2_) | with_reducible exact H | (rw [hy130]; exact H) | exact H
        have Ny130 := Aside0.mk hy130; clear hy130; have H' := Aside0.mk H; clear H
        try go_wp2
        have n0_ := Aside0.mk (Kd.R_drew HO_6.out); have n1_ := Aside0.mk (below_drew1 HB.out); clear HO_6; clear HB; have HO_6 := n0_; have HB := n1_; clear n0_ n1_; have p7 : 0 ≤ (x7_1 : Int) := of_decide_eq_true (by first | (with_reducible assumption) | assumption); have q7 : x7_1 < (a0.size : Int) := of_decide_eq_true (by first | (with_reducible assumption) | assumption); have hx7 := bt_at a0 x7_1; replace p7 := eq_true p7; replace q7 := eq_true q7; have p10 : 0 ≤ ((ji8) : Int) := of_decide_eq_true (by first | (with_reducible assumption) | assumption); have q10 : (ji8) < (a0.size : Int) := of_decide_eq_true (by first | (with_reducible assumption) | assumption); have hx10 := bt_at a0 (ji8); replace p10 := eq_true p10; replace q10 := eq_true q10
        refine start_ (n := 15) (S := fun w' => True) (ds := []) #[false, false, false, false, false, false, false, false, false, false, false, false, false, false, false] (by kernel_rfl) rfl rfl trivial (fun hHeld => ?_); refine with_tabW muslinref04_units.tab6 muslinref04_units.bits6 (fun HT_ HW_ => ?_)
        generalize wr.drew = w12 at HO_6 HB hHeld ⊢
        refine pure_ (i := 0) (N := some 16) (v := ?_) (a' := ?_) #[true, false, false, false, false, false, false, false, false, false, false, false, false, false, false] rfl rfl (any_of HT_.out (by kernel_rfl)) (fun _ _ _ h => h) (Or.inl ⟨by rfl, ?_⟩) ?_ ?_
        rotate_left
        · intro w'
          go_simp
          with_reducible rfl
        rotate_left
        · simp only [Act.put, List.setIfInBounds_toArray, List.set_cons_zero, List.set_cons_succ, i64_w, i32_w]
          rfl
        refine pure_ (i := 1) (N := some 17) (v := ?_) (a' := ?_) #[true, true, false, false, false, false, false, false, false, false, false, false, false, false, false] rfl rfl (any_of HT_.out (by kernel_rfl)) (fun _ _ _ h => h) (Or.inl ⟨by rfl, ?_⟩) ?_ ?_
        rotate_left
        · intro w'
          go_simp
          with_reducible rfl
        rotate_left
        · simp only [Act.put, List.setIfInBounds_toArray, List.set_cons_zero, List.set_cons_succ, i64_w, i32_w]
          rfl
        refine pure_ (i := 2) (N := some 18) (v := ?_) (a' := ?_) #[true, true, true, false, false, false, false, false, false, false, false, false, false, false, false] rfl rfl (any_of HT_.out (by kernel_rfl)) (fun _ _ _ h => h) (Or.inl ⟨by rfl, ?_⟩) ?_ ?_
        rotate_left
        · intro w'
          go_simp
          with_reducible rfl
        rotate_left
        · simp only [Act.put, List.setIfInBounds_toArray, List.set_cons_zero, List.set_cons_succ, i64_w, i32_w]
          rfl
        refine pure_ (i := 6) (N := some 22) (v := ?_) (a' := ?_) #[true, true, true, false, false, false, true, false, false, false, false, false, false, false, false] rfl rfl (any_of HT_.out (by kernel_rfl)) (fun _ _ _ h => h) (Or.inl ⟨by rfl, ?_⟩) ?_ ?_
        rotate_left
        · intro w'
          go_simp
          with_reducible rfl
        rotate_left
        · simp only [Act.put, List.setIfInBounds_toArray, List.set_cons_zero, List.set_cons_succ, i64_w, i32_w]
          rfl
        refine pure_ (i := 7) (N := some 23) (v := ?_) (a' := ?_) #[true, true, true, false, false, false, true, true, false, false, false, false, false, false, false] rfl rfl (any_of HT_.out (by kernel_rfl)) (fun _ _ _ h => h) (Or.inl ⟨by rfl, ?_⟩) ?_ ?_
        rotate_left
        · intro w'
          go_simp
          with_reducible rfl
        rotate_left
        · simp only [Act.put, List.setIfInBounds_toArray, List.set_cons_zero, List.set_cons_succ, i64_w, i32_w]
          rfl
        refine pure_ (i := 8) (N := some 24) (v := ?_) (a' := ?_) #[true, true, true, false, false, false, true, true, true, false, false, false, false, false, false] rfl rfl (any_of HT_.out (by kernel_rfl)) (fun _ _ _ h => h) (Or.inl ⟨by rfl, ?_⟩) ?_ ?_
        rotate_left
        · intro w'
          go_simp
          with_reducible rfl
        rotate_left
        · simp only [Act.put, List.setIfInBounds_toArray, List.set_cons_zero, List.set_cons_succ, i64_w, i32_w]
          rfl
        refine take_ (i := 3) (N := some 19) (v := ?_) (a' := ?_) #[true, true, true, true, false, false, true, true, true, false, false, false, false, false, false] rfl rfl (take_ofW HT_.out HW_.out (by kernel_rfl)) (fun _ _ _ h => h) (Or.inl ⟨by rfl, ?_⟩) hHeld ?_ ?_
        rotate_left
        · intro w' _
          go_simp
          with_reducible rfl
        rotate_left
        · simp only [Act.put, List.setIfInBounds_toArray, List.set_cons_zero, List.set_cons_succ, i64_w, i32_w]
          rfl
        refine pure_ (i := 4) (N := some 20) (v := ?_) (a' := ?_) #[true, true, true, true, true, false, true, true, true, false, false, false, false, false, false] rfl rfl (any_of HT_.out (by kernel_rfl)) (fun _ _ _ h => h) (Or.inl ⟨by rfl, ?_⟩) ?_ ?_
        rotate_left
        · intro w'
          go_simp
          with_reducible rfl
        rotate_left
        · simp only [Act.put, List.setIfInBounds_toArray, List.set_cons_zero, List.set_cons_succ, i64_w, i32_w]
          rfl
        refine pure_ (i := 5) (N := some 21) (v := ?_) (a' := ?_) #[true, true, true, true, true, true, true, true, true, false, false, false, false, false, false] rfl rfl (any_of HT_.out (by kernel_rfl)) (fun _ _ _ h => h) (Or.inl ⟨by rfl, ?_⟩) ?_ ?_
        rotate_left
        · intro w'
          go_simp
          with_reducible rfl
        rotate_left
        · simp only [Act.put, List.setIfInBounds_toArray, List.set_cons_zero, List.set_cons_succ, i64_w, i32_w]
          rfl
        refine take_ (i := 9) (N := some 25) (v := ?_) (a' := ?_) #[true, true, true, true, true, true, true, true, true, true, false, false, false, false, false] rfl rfl (take_ofW HT_.out HW_.out (by kernel_rfl)) (fun _ _ _ h => h) (Or.inl ⟨by rfl, ?_⟩) hHeld ?_ ?_
        rotate_left
        · intro w' _
          go_simp
          with_reducible rfl
        rotate_left
        · simp only [Act.put, List.setIfInBounds_toArray, List.set_cons_zero, List.set_cons_succ, i64_w, i32_w]
          rfl
        refine pure_ (i := 10) (N := some 26) (v := ?_) (a' := ?_) #[true, true, true, true, true, true, true, true, true, true, true, false, false, false, false] rfl rfl (any_of HT_.out (by kernel_rfl)) (fun _ _ _ h => h) (Or.inl ⟨by rfl, ?_⟩) ?_ ?_
        rotate_left
        · intro w'
          go_simp
          with_reducible rfl
        rotate_left
        · simp only [Act.put, List.setIfInBounds_toArray, List.set_cons_zero, List.set_cons_succ, i64_w, i32_w]
          rfl
        refine pure_ (i := 11) (N := some 27) (v := ?_) (a' := ?_) #[true, true, true, true, true, true, true, true, true, true, true, true, false, false, false] rfl rfl (any_of HT_.out (by kernel_rfl)) (fun _ _ _ h => h) (Or.inl ⟨by rfl, ?_⟩) ?_ ?_
        rotate_left
        · intro w'
          go_simp
          with_reducible rfl
        rotate_left
        · simp only [Act.put, List.setIfInBounds_toArray, List.set_cons_zero, List.set_cons_succ, i64_w, i32_w]
          rfl
        refine one_ (i := 12) (N := some 28) #[true, true, true, true, true, true, true, true, true, true, true, true, true, false, false] rfl rfl (one_of HT_.out (by kernel_rfl)) (by decide) (fun K hK => ?_)
        refine value_ (w1 := ?_) (v := ?_) (by rfl) rfl ?_ ?_
        rotate_left 2
        · go_simp
          constructor
          · rfl
          · rfl
        refine hK.out _ _ trivial (fun hHeld => ?_)
        clear hK K
        refine norm_ (a' := ?_) ?_ ?_
        rotate_left
        · show Act.put _ (some 28) _ = _
          simp only [Act.put, List.setIfInBounds_toArray, List.set_cons_zero, List.set_cons_succ, i64_w, i32_w]
          rfl
        refine one_ (i := 13) (N := some 29) #[true, true, true, true, true, true, true, true, true, true, true, true, true, true, false] rfl rfl (one_of HT_.out (by kernel_rfl)) (by decide) (fun K hK => ?_)
        refine Kd.R_append_step (Kd.int .i64) (w0 := w) w.heap.size (by rfl) (.tmp 16) (.tmp 28) 86 3 (.int .i64 0) 8 rfl Tryz.underlying86 info3 rfl (by decide) (by omega) u6 x6_1 (wrap64 ((wrap64 (256 * (wrap64 (bt a0 x7_1)))) + (wrap64 (bt a0 (ji8))))) [.int .i64 (wrap64 ((wrap64 (256 * (wrap64 (bt a0 x7_1)))) + (wrap64 (bt a0 (ji8)))))] (fun _ => True) (fun _ => False) rfl rfl ?aP (fun _ hk => hk.elim) ?aF ?aO ?aB ?aS ?aL ?_
        (case aP => exact rfl)
        (case aB => exact (by repeat (first | (with_reducible first | exact HB.out | apply below_alloc | apply pw_below_drewN | apply below_drew1) | exact HB.out)))
        (case aF => exact (fun _ _ => trivial))
        (case aO => exact (by (with_reducible repeat (first | apply Kd.R_alloc | apply Kd.R_drewN | apply Kd.R_drew)); exact HO_6.out))
        (case aS => exact (below_size (by repeat (first | (with_reducible first | exact HB.out | apply below_alloc | apply pw_below_drewN | apply below_drew1) | exact HB.out))))
        (case aL => have := LMc11.out; first | omega | exact Nat.le_of_lt this)
        intro v131 w13 ho hb hg hat; rw [← Ny130.out] at ho; have n0_ := Aside0.mk (hb); have n1_ := Aside0.mk (ho); clear HB; clear HO_6; have HB := n0_; have HO132 := n1_; clear n0_ n1_; clear ho hb hg hat
        refine hK.out _ _ trivial (fun hHeld => ?_)
        clear hK K
        refine norm_ (a' := ?_) ?_ ?_
        rotate_left
        · show Act.put _ (some 29) _ = _
          simp only [Act.put, List.setIfInBounds_toArray, List.set_cons_zero, List.set_cons_succ, i64_w, i32_w]
          rfl
        refine pure_ (i := 14) (N := some 6) (v := ?_) (a' := ?_) #[true, true, true, true, true, true, true, true, true, true, true, true, true, true, true] rfl rfl (any_of HT_.out (by kernel_rfl)) (fun _ _ _ h => h) (Or.inl ⟨by rfl, ?_⟩) ?_ ?_
        rotate_left
        · intro w'
          go_simp
          with_reducible rfl
        rotate_left
        · simp only [Act.put, List.setIfInBounds_toArray, List.set_cons_zero, List.set_cons_succ, i64_w, i32_w]
          rfl
        refine done_ (done_of HT_.out (by kernel_rfl)) ?_
        try go_wp2
        go_roundg k1
        case measure => have := HK1.out; omega
        case rel => exact ⟨(y130), (wrap64 (x7_1 + 2)), (by first | rfl | (simp; done) | (simp [*]; done)), H', ⟨by have := HK1.out; omega⟩, ⟨by (with_reducible repeat (first | apply Kd.R_alloc | apply Kd.R_drewN | apply Kd.R_drew)); exact HO132.out⟩, ⟨by repeat (first | (with_reducible first | exact HB.out | apply below_alloc | apply pw_below_drewN | apply below_drew1) | exact HB.out)⟩⟩
      replace c4 := Bool.eq_false_iff.mpr c4; subst c4
      have H1 : (if 0 ≤ (wrap64 (x7_1 + 1)) then (if 0 ≤ x7_1 then (if x7_1 < (a0.size : Int) then (if x6_1.length < 17592186044416 then (muslinref04_units.l0 k1 a0 false (x6_1 ++ [wrap64 ((wrap64 (256 * (wrap64 (bt a0 (wrap64 (x7_1 + 1)))))) + (wrap64 (bt a0 x7_1)))]) (wrap64 (x7_1 + 2))) else (none)) else (none)) else (none)) else (none)) = some (r1, r2) := by rw [if_neg (show ¬ (false = true) by decide)] at H; exact H
      clear H; have H := H1; clear H1; obtain ⟨ji14, hji14⟩ : ∃ j_ : Int, (wrap64 (x7_1 + 1)) = j_ := ⟨_, rfl⟩
      replace H : (if 0 ≤ (ji14) then (if 0 ≤ x7_1 then (if x7_1 < (a0.size : Int) then (if x6_1.length < 17592186044416 then (muslinref04_units.l0 k1 a0 false (x6_1 ++ [wrap64 ((wrap64 (256 * (wrap64 (bt a0 (ji14))))) + (wrap64 (bt a0 x7_1)))]) (wrap64 (x7_1 + 2))) else (none)) else (none)) else (none)) else (none)) = some (r1, r2) := by first | (rw [hji14] at H; exact H) | (simp only [hji14] at H ⊢; exact H)
      (try rw [hji14] at c3b0)
      have hji14w : (IntKind.i64.wrap (x7_1 + 1)) = ji14 := (i64_w _).trans hji14
      by_cases c15 : 0 ≤ (ji14)
      case neg =>
        rw [if_neg c15] at H
        exact absurd H (by simp)
      rw [if_pos c15] at H; have c15b0 : decide (0 ≤ (ji14)) = true := decide_eq_true c15; clear c15
      by_cases c17 : 0 ≤ x7_1
      case neg =>
        rw [if_neg c17] at H
        exact absurd H (by simp)
      rw [if_pos c17] at H; have c17b0 : decide (0 ≤ x7_1) = true := decide_eq_true c17; clear c17
      by_cases c18 : x7_1 < (a0.size : Int)
      case neg =>
        rw [if_neg c18] at H
        exact absurd H (by simp)
      rw [if_pos c18] at H; have c18b0 : decide (x7_1 < (a0.size : Int)) = true := decide_eq_true c18; clear c18
      by_cases c20 : x6_1.length < 17592186044416
      case neg =>
        rw [if_neg c20] at H
        exact absurd H (by simp)
      rw [if_pos c20] at H; have LMc20 := Aside0.mk c20; clear c20; obtain ⟨y133, hy133⟩ : ∃ y_ : List Int, y_ = (x6_1 ++ [wrap64 ((wrap64 (256 * (wrap64 (bt a0 (ji14))))) + (wrap64 (bt a0 x7_1)))]) := ⟨_, rfl⟩
      replace H : (muslinref04_units.l0 k1 a0 false y133 (wrap64 (x7_1 + 2))) = some (r1, r2) := by first | (rw [hy133]; with_reducible exact H) | (have H2_ := (Option.bind_some _ _).symm.trans H; rw [hy133]; with_reducible exact H2_) | (have H2_ := (Option.bind_some _ _).symm.trans H; with_reducible exact H2_) | with_reducible exact H | (rw [hy133]; exact H) | exact H
      have Ny133 := Aside0.mk hy133; clear hy133; have H' := Aside0.mk H; clear H
      try go_wp2
      have n0_ := Aside0.mk (Kd.R_drew HO_6.out); have n1_ := Aside0.mk (below_drew1 HB.out); clear HO_6; clear HB; have HO_6 := n0_; have HB := n1_; clear n0_ n1_; have p16 : 0 ≤ ((ji14) : Int) := of_decide_eq_true (by first | (with_reducible assumption) | assumption); have q16 : (ji14) < (a0.size : Int) := of_decide_eq_true (by first | (with_reducible assumption) | assumption); have hx16 := bt_at a0 (ji14); replace p16 := eq_true p16; replace q16 := eq_true q16; have p19 : 0 ≤ (x7_1 : Int) := of_decide_eq_true (by first | (with_reducible assumption) | assumption); have q19 : x7_1 < (a0.size : Int) := of_decide_eq_true (by first | (with_reducible assumption) | assumption); have hx19 := bt_at a0 x7_1; replace p19 := eq_true p19; replace q19 := eq_true q19
      refine start_ (n := 15) (S := fun w' => True) (ds := []) #[false, false, false, false, false, false, false, false, false, false, false, false, false, false, false] (by kernel_rfl) rfl rfl trivial (fun hHeld => ?_); refine with_tabW muslinref04_units.tab7 muslinref04_units.bits7 (fun HT_ HW_ => ?_)
      generalize wr.drew = w21 at HO_6 HB hHeld ⊢
      refine pure_ (i := 0) (N := some 30) (v := ?_) (a' := ?_) #[true, false, false, false, false, false, false, false, false, false, false, false, false, false, false] rfl rfl (any_of HT_.out (by kernel_rfl)) (fun _ _ _ h => h) (Or.inl ⟨by rfl, ?_⟩) ?_ ?_
      rotate_left
      · intro w'
        go_simp
        with_reducible rfl
      rotate_left
      · simp only [Act.put, List.setIfInBounds_toArray, List.set_cons_zero, List.set_cons_succ, i64_w, i32_w]
        rfl
      refine pure_ (i := 1) (N := some 31) (v := ?_) (a' := ?_) #[true, true, false, false, false, false, false, false, false, false, false, false, false, false, false] rfl rfl (any_of HT_.out (by kernel_rfl)) (fun _ _ _ h => h) (Or.inl ⟨by rfl, ?_⟩) ?_ ?_
      rotate_left
      · intro w'
        go_simp
        with_reducible rfl
      rotate_left
      · simp only [Act.put, List.setIfInBounds_toArray, List.set_cons_zero, List.set_cons_succ, i64_w, i32_w]
        rfl
      refine pure_ (i := 2) (N := some 32) (v := ?_) (a' := ?_) #[true, true, true, false, false, false, false, false, false, false, false, false, false, false, false] rfl rfl (any_of HT_.out (by kernel_rfl)) (fun _ _ _ h => h) (Or.inl ⟨by rfl, ?_⟩) ?_ ?_
      rotate_left
      · intro w'
        go_simp
        with_reducible rfl
      rotate_left
      · simp only [Act.put, List.setIfInBounds_toArray, List.set_cons_zero, List.set_cons_succ, i64_w, i32_w]
        rfl
      refine pure_ (i := 3) (N := some 33) (v := ?_) (a' := ?_) #[true, true, true, true, false, false, false, false, false, false, false, false, false, false, false] rfl rfl (any_of HT_.out (by kernel_rfl)) (fun _ _ _ h => h) (Or.inl ⟨by rfl, ?_⟩) ?_ ?_
      rotate_left
      · intro w'
        go_simp
        with_reducible rfl
      rotate_left
      · simp only [Act.put, List.setIfInBounds_toArray, List.set_cons_zero, List.set_cons_succ, i64_w, i32_w]
        rfl
      refine pure_ (i := 7) (N := some 37) (v := ?_) (a' := ?_) #[true, true, true, true, false, false, false, true, false, false, false, false, false, false, false] rfl rfl (any_of HT_.out (by kernel_rfl)) (fun _ _ _ h => h) (Or.inl ⟨by rfl, ?_⟩) ?_ ?_
      rotate_left
      · intro w'
        go_simp
        with_reducible rfl
      rotate_left
      · simp only [Act.put, List.setIfInBounds_toArray, List.set_cons_zero, List.set_cons_succ, i64_w, i32_w]
        rfl
      refine pure_ (i := 8) (N := some 38) (v := ?_) (a' := ?_) #[true, true, true, true, false, false, false, true, true, false, false, false, false, false, false] rfl rfl (any_of HT_.out (by kernel_rfl)) (fun _ _ _ h => h) (Or.inl ⟨by rfl, ?_⟩) ?_ ?_
      rotate_left
      · intro w'
        go_simp
        with_reducible rfl
      rotate_left
      · simp only [Act.put, List.setIfInBounds_toArray, List.set_cons_zero, List.set_cons_succ, i64_w, i32_w]
        rfl
      refine take_ (i := 4) (N := some 34) (v := ?_) (a' := ?_) #[true, true, true, true, true, false, false, true, true, false, false, false, false, false, false] rfl rfl (take_ofW HT_.out HW_.out (by kernel_rfl)) (fun _ _ _ h => h) (Or.inl ⟨by rfl, ?_⟩) hHeld ?_ ?_
      rotate_left
      · intro w' _
        go_simp
        with_reducible rfl
      rotate_left
      · simp only [Act.put, List.setIfInBounds_toArray, List.set_cons_zero, List.set_cons_succ, i64_w, i32_w]
        rfl
      refine pure_ (i := 5) (N := some 35) (v := ?_) (a' := ?_) #[true, true, true, true, true, true, false, true, true, false, false, false, false, false, false] rfl rfl (any_of HT_.out (by kernel_rfl)) (fun _ _ _ h => h) (Or.inl ⟨by rfl, ?_⟩) ?_ ?_
      rotate_left
      · intro w'
        go_simp
        with_reducible rfl
      rotate_left
      · simp only [Act.put, List.setIfInBounds_toArray, List.set_cons_zero, List.set_cons_succ, i64_w, i32_w]
        rfl
      refine pure_ (i := 6) (N := some 36) (v := ?_) (a' := ?_) #[true, true, true, true, true, true, true, true, true, false, false, false, false, false, false] rfl rfl (any_of HT_.out (by kernel_rfl)) (fun _ _ _ h => h) (Or.inl ⟨by rfl, ?_⟩) ?_ ?_
      rotate_left
      · intro w'
        go_simp
        with_reducible rfl
      rotate_left
      · simp only [Act.put, List.setIfInBounds_toArray, List.set_cons_zero, List.set_cons_succ, i64_w, i32_w]
        rfl
      refine take_ (i := 9) (N := some 39) (v := ?_) (a' := ?_) #[true, true, true, true, true, true, true, true, true, true, false, false, false, false, false] rfl rfl (take_ofW HT_.out HW_.out (by kernel_rfl)) (fun _ _ _ h => h) (Or.inl ⟨by rfl, ?_⟩) hHeld ?_ ?_
      rotate_left
      · intro w' _
        go_simp
        with_reducible rfl
      rotate_left
      · simp only [Act.put, List.setIfInBounds_toArray, List.set_cons_zero, List.set_cons_succ, i64_w, i32_w]
        rfl
      refine pure_ (i := 10) (N := some 40) (v := ?_) (a' := ?_) #[true, true, true, true, true, true, true, true, true, true, true, false, false, false, false] rfl rfl (any_of HT_.out (by kernel_rfl)) (fun _ _ _ h => h) (Or.inl ⟨by rfl, ?_⟩) ?_ ?_
      rotate_left
      · intro w'
        go_simp
        with_reducible rfl
      rotate_left
      · simp only [Act.put, List.setIfInBounds_toArray, List.set_cons_zero, List.set_cons_succ, i64_w, i32_w]
        rfl
      refine pure_ (i := 11) (N := some 41) (v := ?_) (a' := ?_) #[true, true, true, true, true, true, true, true, true, true, true, true, false, false, false] rfl rfl (any_of HT_.out (by kernel_rfl)) (fun _ _ _ h => h) (Or.inl ⟨by rfl, ?_⟩) ?_ ?_
      rotate_left
      · intro w'
        go_simp
        with_reducible rfl
      rotate_left
      · simp only [Act.put, List.setIfInBounds_toArray, List.set_cons_zero, List.set_cons_succ, i64_w, i32_w]
        rfl
      refine one_ (i := 12) (N := some 42) #[true, true, true, true, true, true, true, true, true, true, true, true, true, false, false] rfl rfl (one_of HT_.out (by kernel_rfl)) (by decide) (fun K hK => ?_)
      refine value_ (w1 := ?_) (v := ?_) (by rfl) rfl ?_ ?_
      rotate_left 2
      · go_simp
        constructor
        · rfl
        · rfl
      refine hK.out _ _ trivial (fun hHeld => ?_)
      clear hK K
      refine norm_ (a' := ?_) ?_ ?_
      rotate_left
      · show Act.put _ (some 42) _ = _
        simp only [Act.put, List.setIfInBounds_toArray, List.set_cons_zero, List.set_cons_succ, i64_w, i32_w]
        rfl
      refine one_ (i := 13) (N := some 43) #[true, true, true, true, true, true, true, true, true, true, true, true, true, true, false] rfl rfl (one_of HT_.out (by kernel_rfl)) (by decide) (fun K hK => ?_)
      refine Kd.R_append_step (Kd.int .i64) (w0 := w) w.heap.size (by rfl) (.tmp 30) (.tmp 42) 86 3 (.int .i64 0) 8 rfl Tryz.underlying86 info3 rfl (by decide) (by omega) u6 x6_1 (wrap64 ((wrap64 (256 * (wrap64 (bt a0 (ji14))))) + (wrap64 (bt a0 x7_1)))) [.int .i64 (wrap64 ((wrap64 (256 * (wrap64 (bt a0 (ji14))))) + (wrap64 (bt a0 x7_1))))] (fun _ => True) (fun _ => False) rfl rfl ?aP (fun _ hk => hk.elim) ?aF ?aO ?aB ?aS ?aL ?_
      (case aP => exact rfl)
      (case aB => exact (by repeat (first | (with_reducible first | exact HB.out | apply below_alloc | apply pw_below_drewN | apply below_drew1) | exact HB.out)))
      (case aF => exact (fun _ _ => trivial))
      (case aO => exact (by (with_reducible repeat (first | apply Kd.R_alloc | apply Kd.R_drewN | apply Kd.R_drew)); exact HO_6.out))
      (case aS => exact (below_size (by repeat (first | (with_reducible first | exact HB.out | apply below_alloc | apply pw_below_drewN | apply below_drew1) | exact HB.out))))
      (case aL => have := LMc20.out; first | omega | exact Nat.le_of_lt this)
      intro v134 w22 ho hb hg hat; rw [← Ny133.out] at ho; have n0_ := Aside0.mk (hb); have n1_ := Aside0.mk (ho); clear HB; clear HO_6; have HB := n0_; have HO135 := n1_; clear n0_ n1_; clear ho hb hg hat
      refine hK.out _ _ trivial (fun hHeld => ?_)
      clear hK K
      refine norm_ (a' := ?_) ?_ ?_
      rotate_left
      · show Act.put _ (some 43) _ = _
        simp only [Act.put, List.setIfInBounds_toArray, List.set_cons_zero, List.set_cons_succ, i64_w, i32_w]
        rfl
      refine pure_ (i := 14) (N := some 6) (v := ?_) (a' := ?_) #[true, true, true, true, true, true, true, true, true, true, true, true, true, true, true] rfl rfl (any_of HT_.out (by kernel_rfl)) (fun _ _ _ h => h) (Or.inl ⟨by rfl, ?_⟩) ?_ ?_
      rotate_left
      · intro w'
        go_simp
        with_reducible rfl
      rotate_left
      · simp only [Act.put, List.setIfInBounds_toArray, List.set_cons_zero, List.set_cons_succ, i64_w, i32_w]
        rfl
      refine done_ (done_of HT_.out (by kernel_rfl)) ?_
      try go_wp2
      go_roundg k1
      case measure => have := HK1.out; omega
      case rel => exact ⟨(y133), (wrap64 (x7_1 + 2)), (by first | rfl | (simp; done) | (simp [*]; done)), H', ⟨by have := HK1.out; omega⟩, ⟨by (with_reducible repeat (first | apply Kd.R_alloc | apply Kd.R_drewN | apply Kd.R_drew)); exact HO135.out⟩, ⟨by repeat (first | (with_reducible first | exact HB.out | apply below_alloc | apply pw_below_drewN | apply below_drew1) | exact HB.out)⟩⟩
end Go.Proofs.YtkfcbafjcjmfnaaGreatDoor.C
namespace Go.Proofs.YtkfcbafjcjmfnaaGreatDoor.C
open Go.RowKit Go.Proofs.YtkfcbafjcjmfnaaGreatDoorW.PrintWords Go.Proofs.YtkfcbafjcjmfnaaGreatDoorW.PrintLast Go.Proofs.YtkfcbafjcjmfnaaGreatDoorW.PrintMore
attribute [local go_sem] max2_int min2_int max_two min_two max_three min_three max_four min_four
set_option linter.unusedVariables false
set_option linter.unusedSimpArgs false
mutual
def muslinref04_Whole.j2 : Nat → ByteArray → Int → Int → Int → Int → Option (Int)
  | 0, _, _, _, _, _ => none
  | k + 1, x0, x1, x6, x7, x8 => if (wrap64 (x1 + x6)) > (x0.size : Int) then (some 0) else (muslinref04_Whole.l0 k x0 x1 x6 x7 x8 1)
def muslinref04_Whole.l0 : Nat → ByteArray → Int → Int → Int → Int → Int → Option (Int)
  | 0, _, _, _, _, _, _ => none
  | k + 1, x0, x1, x6, x7, x8, x9 => if x9 < x6 then (if 0 ≤ (wrap64 (x1 + x9)) then (if (wrap64 (x1 + x9)) < (x0.size : Int) then (if (wrap64 (bt x0 (wrap64 (x1 + x9)))) < 128 then (some 0) else (if (wrap64 (bt x0 (wrap64 (x1 + x9)))) > 191 then (some 0) else (muslinref04_Whole.l0 k x0 x1 x6 x7 (wrap64 ((wrap64 ((wrap64 (64 * x8)) + (wrap64 (bt x0 (wrap64 (x1 + x9)))))) - 128)) (wrap64 (x9 + 1))))) else (none)) else (none)) else (if x8 < x7 then (some 0) else (if x8 > 1114111 then (some 0) else (if x8 ≥ 55296 then (if x8 ≤ 57343 then (some 0) else (some x6)) else (some x6))))
def muslinref04_Whole.j0 : Nat → ByteArray → Int → Int → Bool → Option (Int)
  | 0, _, _, _, _ => none
  | k + 1, x0, x1, x5, x19 => if x19 = true then (muslinref04_Whole.j2 k x0 x1 2 128 (wrap64 (x5 - 192))) else (if x5 ≥ 224 then (muslinref04_Whole.j1 k x0 x1 x5 (decide (x5 < 240))) else (muslinref04_Whole.j1 k x0 x1 x5 false))
def muslinref04_Whole.j1 : Nat → ByteArray → Int → Int → Bool → Option (Int)
  | 0, _, _, _, _ => none
  | k + 1, x0, x1, x5, x28 => if x28 = true then (muslinref04_Whole.j2 k x0 x1 3 2048 (wrap64 (x5 - 224))) else (if x5 ≥ 240 then (if x5 < 248 then (muslinref04_Whole.j2 k x0 x1 4 65536 (wrap64 (x5 - 240))) else (some 0)) else (some 0))
end
def muslinref04_Whole.f (k : Nat) (a0 : ByteArray) (a1 : Int) : Option (Int) := if 0 ≤ a1 then (if a1 < (a0.size : Int) then (if (wrap64 (bt a0 a1)) < 128 then (some 1) else (if (wrap64 (bt a0 a1)) ≥ 192 then (muslinref04_Whole.j0 k a0 a1 (wrap64 (bt a0 a1)) (decide ((wrap64 (bt a0 a1)) < 224))) else (muslinref04_Whole.j0 k a0 a1 (wrap64 (bt a0 a1)) false))) else (none)) else (none)
set_option maxHeartbeats 8000000 in
set_option maxRecDepth 100000 in
theorem muslinref04_Whole.calls (k : Nat) (a0 : ByteArray) (a1 : Int) (r : Int) (w : World) (h : muslinref04_Whole.f k a0 a1 = some r) :
    Calls Tryz.prog 82 #[.string a0, .int .i64 a1] w fun e w' => e = .returned (.int .i64 r) ∧ Drawn0 w w' := by
  have H : (if 0 ≤ a1 then (if a1 < (a0.size : Int) then (if (wrap64 (bt a0 a1)) < 128 then (some 1) else (if (wrap64 (bt a0 a1)) ≥ 192 then (muslinref04_Whole.j0 k a0 a1 (wrap64 (bt a0 a1)) (decide ((wrap64 (bt a0 a1)) < 224))) else (muslinref04_Whole.j0 k a0 a1 (wrap64 (bt a0 a1)) false))) else (none)) else (none)) = some r := h; clear h
  by_cases c3 : 0 ≤ a1
  case neg =>
    rw [if_neg c3] at H
    exact absurd H (by simp)
  rw [if_pos c3] at H; have c3b0 : decide (0 ≤ a1) = true := decide_eq_true c3; clear c3
  by_cases c4 : a1 < (a0.size : Int)
  case neg =>
    rw [if_neg c4] at H
    exact absurd H (by simp)
  rw [if_pos c4] at H; have c4b0 : decide (a1 < (a0.size : Int)) = true := decide_eq_true c4; clear c4; have HC6 := Aside0.mk H; clear H; have p5 : 0 ≤ (a1 : Int) := of_decide_eq_true (by first | (with_reducible assumption) | assumption); have q5 : a1 < (a0.size : Int) := of_decide_eq_true (by first | (with_reducible assumption) | assumption); have hx5 := bt_at a0 a1; replace p5 := eq_true p5; replace q5 := eq_true q5
  go_enter Tryz.func82, Tryz.ntmps82
  go_upto_block 0 with (fail)
  go_cut [6, 7, 8] (fun v6 v7 v8 wc => ∃ (kq : Nat) (x6_5 : Int) (x7_5 : Int) (x8_5 : Int), v6 = .int .i64 x6_5 ∧ v7 = .int .i64 x7_5 ∧ v8 = .int .i64 x8_5 ∧ Aside0 (muslinref04_Whole.j2 kq a0 a1 x6_5 x7_5 x8_5 = some r) ∧ Aside0 (kq ≤ k) ∧ Drawn0 w wc)
  case first =>
    have H := HC6.out; clear HC6
    by_cases c7 : (wrap64 (bt a0 a1)) < 128
    case pos =>
      rw [if_pos c7] at H; have c7b0 : decide ((wrap64 (bt a0 a1)) < 128) = true := decide_eq_true c7; clear c7
      (first | rw [c7b0] | (simp only [i64_w, i32_w]; rw [c7b0]) | skip)
      obtain rfl := Option.some.inj H
      go_wp2
      go_ret
      exact ⟨by first | rfl | (simp; done) | (simp [*]; done), by repeat (first | exact Drawn0.refl _ | apply Drawn0.step)⟩
    rw [if_neg c7] at H; have c7b0 : decide ((wrap64 (bt a0 a1)) < 128) = false := decide_eq_false c7; clear c7
    (first | rw [c7b0] | (simp only [i64_w, i32_w]; rw [c7b0]) | skip)
    have HC8 := Aside0.mk H; clear H
    go_upto_region 8 with (fail)
    go_cut [19] (fun v19 wc => ∃ (kq : Nat) (x19_7 : Bool), v19 = .bool x19_7 ∧ Aside0 (muslinref04_Whole.j0 kq a0 a1 (wrap64 (bt a0 a1)) x19_7 = some r) ∧ Aside0 (kq ≤ k) ∧ Drawn0 w wc)
    case first =>
      have H := HC8.out; clear HC8
      by_cases c9 : (wrap64 (bt a0 a1)) ≥ 192
      case neg =>
        rw [if_neg c9] at H; have c9b0 : decide (192 ≤ (wrap64 (bt a0 a1))) = false := decide_eq_false c9; clear c9
        (first | rw [c9b0] | (simp only [i64_w, i32_w]; rw [c9b0]) | skip)
        have H' := Aside0.mk H; clear H
        go_wp2
        go_meet
        case rel => exact ⟨_, (false), (by first | rfl | (simp; done) | (simp [*]; done)), H', ⟨by first | omega | exact Nat.le_refl _⟩, by repeat (first | exact Drawn0.refl _ | apply Drawn0.step)⟩
      rw [if_pos c9] at H; have c9b0 : decide (192 ≤ (wrap64 (bt a0 a1))) = true := decide_eq_true c9; clear c9
      (first | rw [c9b0] | (simp only [i64_w, i32_w]; rw [c9b0]) | skip)
      have H' := Aside0.mk H; clear H
      go_wp2
      go_meet
      case rel => exact ⟨_, (decide ((wrap64 (bt a0 a1)) < 224)), (by first | rfl | (simp; done) | (simp [*]; done)), H', ⟨by first | omega | exact Nat.le_refl _⟩, by repeat (first | exact Drawn0.refl _ | apply Drawn0.step)⟩
    case rest =>
      clear HC8; (try clear p2); (try clear c3); (try clear c3b0); (try clear c4); (try clear c4b0); (try clear p5); (try clear q5); (try clear hx5); (try clear p6); (try clear c7); (try clear c7b0); (try clear c8); (try clear c9); (try clear c9b0); (try clear p5); (try clear q5); obtain ⟨kq, x19_7, rfl, HA, HJ7, ⟨mc7, rfl⟩⟩ := hcut
      cases kq with
      | zero => exact absurd HA.out (by simp [muslinref04_Whole.j0])
      | succ kj7 =>
        have H := HA.out; clear HA; simp only [muslinref04_Whole.j0] at H
        by_cases c10 : x19_7 = true
        case pos =>
          subst c10
          have H1 : (muslinref04_Whole.j2 kj7 a0 a1 2 128 (wrap64 ((wrap64 (bt a0 a1)) - 192))) = some r := by rw [if_pos rfl] at H; exact H
          clear H; have H := H1; clear H1; have H' := Aside0.mk H; clear H
          go_wp2
          go_meet
          case rel => exact ⟨_, (2), (128), (wrap64 ((wrap64 (bt a0 a1)) - 192)), (by first | rfl | (simp; done) | (simp [*]; done)), (by first | rfl | (simp; done) | (simp [*]; done)), (by first | rfl | (simp; done) | (simp [*]; done)), H', ⟨by have := HJ7.out; first | omega | exact Nat.le_refl _⟩, by repeat (first | exact Drawn0.refl _ | apply Drawn0.step)⟩
        replace c10 := Bool.eq_false_iff.mpr c10; subst c10
        have H1 : (if (wrap64 (bt a0 a1)) ≥ 224 then (muslinref04_Whole.j1 kj7 a0 a1 (wrap64 (bt a0 a1)) (decide ((wrap64 (bt a0 a1)) < 240))) else (muslinref04_Whole.j1 kj7 a0 a1 (wrap64 (bt a0 a1)) false)) = some r := by rw [if_neg (show ¬ (false = true) by decide)] at H; exact H
        clear H; have H := H1; clear H1; have HC11 := Aside0.mk H; clear H
        go_upto_region 12 with (fail)
        go_cut [28] (fun v28 wc => ∃ (kq : Nat) (x28_10 : Bool), v28 = .bool x28_10 ∧ Aside0 (muslinref04_Whole.j1 kq a0 a1 (wrap64 (bt a0 a1)) x28_10 = some r) ∧ Aside0 (kq ≤ kj7) ∧ Drawn0 w wc)
        case first =>
          have H := HC11.out; clear HC11
          by_cases c12 : (wrap64 (bt a0 a1)) ≥ 224
          case neg =>
            rw [if_neg c12] at H; have c12b0 : decide (224 ≤ (wrap64 (bt a0 a1))) = false := decide_eq_false c12; clear c12
            (first | rw [c12b0] | (simp only [i64_w, i32_w]; rw [c12b0]) | skip)
            have H' := Aside0.mk H; clear H
            go_wp2
            go_meet
            case rel => exact ⟨_, (false), (by first | rfl | (simp; done) | (simp [*]; done)), H', ⟨by have := HJ7.out; first | omega | exact Nat.le_refl _⟩, by repeat (first | exact Drawn0.refl _ | apply Drawn0.step)⟩
          rw [if_pos c12] at H; have c12b0 : decide (224 ≤ (wrap64 (bt a0 a1))) = true := decide_eq_true c12; clear c12
          (first | rw [c12b0] | (simp only [i64_w, i32_w]; rw [c12b0]) | skip)
          have H' := Aside0.mk H; clear H
          go_wp2
          go_meet
          case rel => exact ⟨_, (decide ((wrap64 (bt a0 a1)) < 240)), (by first | rfl | (simp; done) | (simp [*]; done)), H', ⟨by have := HJ7.out; first | omega | exact Nat.le_refl _⟩, by repeat (first | exact Drawn0.refl _ | apply Drawn0.step)⟩
        case rest =>
          clear HC11; (try clear c1); (try clear p2); (try clear c3); (try clear c3b0); (try clear c4); (try clear c4b0); (try clear p5); (try clear q5); (try clear hx5); (try clear p6); (try clear c7); (try clear c7b0); (try clear c8); (try clear c9); (try clear c9b0); (try clear c10); (try clear c12); (try clear c12b0); (try clear p2); (try clear p5); (try clear p6); (try clear q5); obtain ⟨kq, x28_10, rfl, HA, HJ10, ⟨mc10, rfl⟩⟩ := hcut
          cases kq with
          | zero => exact absurd HA.out (by simp [muslinref04_Whole.j1])
          | succ kj10 =>
            have H := HA.out; clear HA; simp only [muslinref04_Whole.j1] at H
            by_cases c13 : x28_10 = true
            case pos =>
              subst c13
              have H1 : (muslinref04_Whole.j2 kj10 a0 a1 3 2048 (wrap64 ((wrap64 (bt a0 a1)) - 224))) = some r := by rw [if_pos rfl] at H; exact H
              clear H; have H := H1; clear H1; have H' := Aside0.mk H; clear H
              go_wp2
              go_meet
              case rel => exact ⟨_, (3), (2048), (wrap64 ((wrap64 (bt a0 a1)) - 224)), (by first | rfl | (simp; done) | (simp [*]; done)), (by first | rfl | (simp; done) | (simp [*]; done)), (by first | rfl | (simp; done) | (simp [*]; done)), H', ⟨by have := HJ7.out; have := HJ10.out; first | omega | exact Nat.le_refl _⟩, by repeat (first | exact Drawn0.refl _ | apply Drawn0.step)⟩
            replace c13 := Bool.eq_false_iff.mpr c13; subst c13
            have H1 : (if (wrap64 (bt a0 a1)) ≥ 240 then (if (wrap64 (bt a0 a1)) < 248 then (muslinref04_Whole.j2 kj10 a0 a1 4 65536 (wrap64 ((wrap64 (bt a0 a1)) - 240))) else (some 0)) else (some 0)) = some r := by rw [if_neg (show ¬ (false = true) by decide)] at H; exact H
            clear H; have H := H1; clear H1
            by_cases c14 : (wrap64 (bt a0 a1)) ≥ 240
            case neg =>
              rw [if_neg c14] at H; have c14b0 : decide (240 ≤ (wrap64 (bt a0 a1))) = false := decide_eq_false c14; clear c14; obtain rfl := Option.some.inj H
              go_wp2
              go_ret
              exact ⟨by first | rfl | (simp; done) | (simp [*]; done), by repeat (first | exact Drawn0.refl _ | apply Drawn0.step)⟩
            rw [if_pos c14] at H; have c14b0 : decide (240 ≤ (wrap64 (bt a0 a1))) = true := decide_eq_true c14; clear c14
            by_cases c15 : (wrap64 (bt a0 a1)) < 248
            case neg =>
              rw [if_neg c15] at H; have c15b0 : decide ((wrap64 (bt a0 a1)) < 248) = false := decide_eq_false c15; clear c15; obtain rfl := Option.some.inj H
              go_wp2
              go_ret
              exact ⟨by first | rfl | (simp; done) | (simp [*]; done), by repeat (first | exact Drawn0.refl _ | apply Drawn0.step)⟩
            rw [if_pos c15] at H; have c15b0 : decide ((wrap64 (bt a0 a1)) < 248) = true := decide_eq_true c15; clear c15; have H' := Aside0.mk H; clear H
            go_wp2
            go_meet
            case rel => exact ⟨_, (4), (65536), (wrap64 ((wrap64 (bt a0 a1)) - 240)), (by first | rfl | (simp; done) | (simp [*]; done)), (by first | rfl | (simp; done) | (simp [*]; done)), (by first | rfl | (simp; done) | (simp [*]; done)), H', ⟨by have := HJ7.out; have := HJ10.out; first | omega | exact Nat.le_refl _⟩, by repeat (first | exact Drawn0.refl _ | apply Drawn0.step)⟩
  case rest =>
    clear HC6; (try clear c1); (try clear p2); (try clear c3); (try clear c3b0); (try clear c4); (try clear c4b0); (try clear p5); (try clear q5); (try clear hx5); (try clear p6); (try clear c7); (try clear c7b0); (try clear c8); (try clear c9); (try clear c9b0); (try clear c10); (try clear c12); (try clear c12b0); (try clear c13); (try clear c14); (try clear c14b0); (try clear c15); (try clear c15b0); (try clear p2); (try clear p5); (try clear p6); (try clear q5); obtain ⟨kq, x6_5, x7_5, x8_5, rfl, rfl, rfl, HA, HJ5, ⟨mc5, rfl⟩⟩ := hcut
    cases kq with
    | zero => exact absurd HA.out (by simp [muslinref04_Whole.j2])
    | succ kj5 =>
      have H := HA.out; clear HA; simp only [muslinref04_Whole.j2] at H
      by_cases c16 : (wrap64 (a1 + x6_5)) > (a0.size : Int)
      case pos =>
        rw [if_pos c16] at H; have c16b0 : decide ((a0.size : Int) < (wrap64 (a1 + x6_5))) = true := decide_eq_true c16; clear c16; obtain rfl := Option.some.inj H
        go_wp2
        go_ret
        exact ⟨by first | rfl | (simp; done) | (simp [*]; done), by repeat (first | exact Drawn0.refl _ | apply Drawn0.step)⟩
      rw [if_neg c16] at H; have c16b0 : decide ((a0.size : Int) < (wrap64 (a1 + x6_5))) = false := decide_eq_false c16; clear c16; have H' := Aside0.mk H; clear H
      go_wp2
      go_loopg [8, 9] kj5 (fun kq v8 v9 w' => ∃ (x8_2 : Int) (x9_2 : Int), v8 = .int .i64 x8_2 ∧ v9 = .int .i64 x9_2 ∧ Aside0 (muslinref04_Whole.l0 kq a0 a1 x6_5 x7_5 x8_2 x9_2 = some r) ∧ Aside0 (kq ≤ kj5) ∧ Drawn0 w w')
      case atStart => exact ⟨(x8_5), (1), (by first | rfl | (simp; done) | (simp [*]; done)), (by first | rfl | (simp; done) | (simp [*]; done)), H', ⟨Nat.le_refl _⟩, by repeat (first | exact Drawn0.refl _ | apply Drawn0.step)⟩
      case round =>
        clear H'; (try clear c1); (try clear p2); (try clear c3); (try clear c3b0); (try clear c4); (try clear c4b0); (try clear c5); (try clear p5); (try clear q5); (try clear hx5); (try clear p6); (try clear c7); (try clear c7b0); (try clear c8); (try clear c9); (try clear c9b0); (try clear c10); (try clear c12); (try clear c12b0); (try clear c13); (try clear c14); (try clear c14b0); (try clear c15); (try clear c15b0); (try clear c16); (try clear c16b0); (try clear p2); (try clear p5); (try clear p6); (try clear q5); obtain ⟨x8_2, x9_2, rfl, rfl, HA, HK2, ⟨m2, rfl⟩⟩ := hrel
        cases gk with
        | zero => exact absurd HA.out (by simp [muslinref04_Whole.l0])
        | succ k2 =>
          have H := HA.out; clear HA; simp only [muslinref04_Whole.l0] at H
          by_cases c17 : x9_2 < x6_5
          case neg =>
            rw [if_neg c17] at H; have c17b0 : decide (x9_2 < x6_5) = false := decide_eq_false c17; clear c17
            by_cases c24 : x8_2 < x7_5
            case pos =>
              rw [if_pos c24] at H; have c24b0 : decide (x8_2 < x7_5) = true := decide_eq_true c24; clear c24; obtain rfl := Option.some.inj H
              go_wp2
              go_ret
              exact ⟨by first | rfl | (simp; done) | (simp [*]; done), by repeat (first | exact Drawn0.refl _ | apply Drawn0.step)⟩
            rw [if_neg c24] at H; have c24b0 : decide (x8_2 < x7_5) = false := decide_eq_false c24; clear c24
            by_cases c25 : x8_2 > 1114111
            case pos =>
              rw [if_pos c25] at H; have c25b0 : decide (1114111 < x8_2) = true := decide_eq_true c25; clear c25; obtain rfl := Option.some.inj H
              go_wp2
              go_ret
              exact ⟨by first | rfl | (simp; done) | (simp [*]; done), by repeat (first | exact Drawn0.refl _ | apply Drawn0.step)⟩
            rw [if_neg c25] at H; have c25b0 : decide (1114111 < x8_2) = false := decide_eq_false c25; clear c25
            by_cases c26 : x8_2 ≥ 55296
            case neg =>
              rw [if_neg c26] at H; have c26b0 : decide (55296 ≤ x8_2) = false := decide_eq_false c26; clear c26; obtain rfl := Option.some.inj H
              go_wp2
              go_ret
              exact ⟨by first | rfl | (simp; done) | (simp [*]; done), by repeat (first | exact Drawn0.refl _ | apply Drawn0.step)⟩
            rw [if_pos c26] at H; have c26b0 : decide (55296 ≤ x8_2) = true := decide_eq_true c26; clear c26
            by_cases c27 : x8_2 ≤ 57343
            case pos =>
              rw [if_pos c27] at H; have c27b0 : decide (x8_2 ≤ 57343) = true := decide_eq_true c27; clear c27; obtain rfl := Option.some.inj H
              go_wp2
              go_ret
              exact ⟨by first | rfl | (simp; done) | (simp [*]; done), by repeat (first | exact Drawn0.refl _ | apply Drawn0.step)⟩
            rw [if_neg c27] at H; have c27b0 : decide (x8_2 ≤ 57343) = false := decide_eq_false c27; clear c27; obtain rfl := Option.some.inj H
            go_wp2
            go_ret
            exact ⟨by first | rfl | (simp; done) | (simp [*]; done), by repeat (first | exact Drawn0.refl _ | apply Drawn0.step)⟩
          rw [if_pos c17] at H; have c17b0 : decide (x9_2 < x6_5) = true := decide_eq_true c17; clear c17; obtain ⟨ji18, hji18⟩ : ∃ j_ : Int, (wrap64 (a1 + x9_2)) = j_ := ⟨_, rfl⟩
          replace H : (if 0 ≤ (ji18) then (if (ji18) < (a0.size : Int) then (if (wrap64 (bt a0 (ji18))) < 128 then (some 0) else (if (wrap64 (bt a0 (ji18))) > 191 then (some 0) else (muslinref04_Whole.l0 k2 a0 a1 x6_5 x7_5 (wrap64 ((wrap64 ((wrap64 (64 * x8_2)) + (wrap64 (bt a0 (ji18))))) - 128)) (wrap64 (x9_2 + 1))))) else (none)) else (none)) = some r := by first | (rw [hji18] at H; exact H) | (simp only [hji18] at H ⊢; exact H)
          have hji18w : (IntKind.i64.wrap (a1 + x9_2)) = ji18 := (i64_w _).trans hji18
          by_cases c19 : 0 ≤ (ji18)
          case neg =>
            rw [if_neg c19] at H
            exact absurd H (by simp)
          rw [if_pos c19] at H; have c19b0 : decide (0 ≤ (ji18)) = true := decide_eq_true c19; clear c19
          by_cases c20 : (ji18) < (a0.size : Int)
          case neg =>
            rw [if_neg c20] at H
            exact absurd H (by simp)
          rw [if_pos c20] at H; have c20b0 : decide ((ji18) < (a0.size : Int)) = true := decide_eq_true c20; clear c20
          by_cases c22 : (wrap64 (bt a0 (ji18))) < 128
          case pos =>
            rw [if_pos c22] at H; have c22b0 : decide ((wrap64 (bt a0 (ji18))) < 128) = true := decide_eq_true c22; clear c22; obtain rfl := Option.some.inj H; have p21 : 0 ≤ ((ji18) : Int) := of_decide_eq_true (by first | (with_reducible assumption) | assumption); have q21 : (ji18) < (a0.size : Int) := of_decide_eq_true (by first | (with_reducible assumption) | assumption); have hx21 := bt_at a0 (ji18); replace p21 := eq_true p21; replace q21 := eq_true q21
            go_wp2
            go_ret
            exact ⟨by first | rfl | (simp; done) | (simp only [← hji18] <;> (first | rfl | (simp; done) | (simp; simp only [hji18]; exact beq_iff_eq.1 (by assumption)))) | (simp [*]; done), by repeat (first | exact Drawn0.refl _ | apply Drawn0.step)⟩
          rw [if_neg c22] at H; have c22b0 : decide ((wrap64 (bt a0 (ji18))) < 128) = false := decide_eq_false c22; clear c22
          by_cases c23 : (wrap64 (bt a0 (ji18))) > 191
          case pos =>
            rw [if_pos c23] at H; have c23b0 : decide (191 < (wrap64 (bt a0 (ji18)))) = true := decide_eq_true c23; clear c23; obtain rfl := Option.some.inj H; have p21 : 0 ≤ ((ji18) : Int) := of_decide_eq_true (by first | (with_reducible assumption) | assumption); have q21 : (ji18) < (a0.size : Int) := of_decide_eq_true (by first | (with_reducible assumption) | assumption); have hx21 := bt_at a0 (ji18); replace p21 := eq_true p21; replace q21 := eq_true q21
            go_wp2
            go_ret
            exact ⟨by first | rfl | (simp; done) | (simp only [← hji18] <;> (first | rfl | (simp; done) | (simp; simp only [hji18]; exact beq_iff_eq.1 (by assumption)))) | (simp [*]; done), by repeat (first | exact Drawn0.refl _ | apply Drawn0.step)⟩
          rw [if_neg c23] at H; have c23b0 : decide (191 < (wrap64 (bt a0 (ji18)))) = false := decide_eq_false c23; clear c23; have H' := Aside0.mk H; clear H; have p21 : 0 ≤ ((ji18) : Int) := of_decide_eq_true (by first | (with_reducible assumption) | assumption); have q21 : (ji18) < (a0.size : Int) := of_decide_eq_true (by first | (with_reducible assumption) | assumption); have hx21 := bt_at a0 (ji18); replace p21 := eq_true p21; replace q21 := eq_true q21
          go_wp2
          go_roundg k2
          case measure => have := HJ5.out; have := HK2.out; omega
          case rel => exact ⟨(wrap64 ((wrap64 ((wrap64 (64 * x8_2)) + (wrap64 (bt a0 (ji18))))) - 128)), (wrap64 (x9_2 + 1)), (by first | rfl | (simp; done) | (simp only [← hji18] <;> (first | rfl | (simp; done) | (simp; simp only [hji18]; exact beq_iff_eq.1 (by assumption)))) | (simp [*]; done)), (by first | rfl | (simp; done) | (simp [*]; done)), H', ⟨by have := HJ5.out; have := HK2.out; omega⟩, by repeat (first | exact Drawn0.refl _ | apply Drawn0.step)⟩
def muslinref04_Valid.l0 : Nat → ByteArray → List Int → Int → Option (ByteArray)
  | 0, _, _, _ => none
  | k + 1, x0, x3, x4 => if x4 < (x0.size : Int) then ((muslinref04_Whole.f k x0 x4).bind fun t136 => (if t136 = 0 then (if x3.length + 3 < 140737488355328 then (muslinref04_Valid.l0 k x0 (x3 ++ bytesOf (⟨#[239, 191, 189]⟩ : ByteArray)) (wrap64 (x4 + 1))) else (none)) else (if 0 ≤ x4 then (if x4 ≤ (wrap64 (x4 + t136)) then (if (wrap64 (x4 + t136)) ≤ (x0.size : Int) then (if x3.length + (x0.extract (x4 : Int).toNat ((wrap64 (x4 + t136)) : Int).toNat).size < 140737488355328 then (muslinref04_Valid.l0 k x0 (x3 ++ bytesOf (x0.extract (x4 : Int).toNat ((wrap64 (x4 + t136)) : Int).toNat)) (wrap64 (x4 + t136))) else (none)) else (none)) else (none)) else (none)))) else (some (strOfNums x3))
def muslinref04_Valid.f (k : Nat) (a0 : ByteArray) : Option (ByteArray) := muslinref04_Valid.l0 k a0 ([] : List Int) 0
set_option maxHeartbeats 8000000 in
set_option maxRecDepth 100000 in
theorem muslinref04_Valid.calls (k : Nat) (a0 : ByteArray) (r : ByteArray) (w : World) (h : muslinref04_Valid.f k a0 = some r) :
    Calls Tryz.prog 59 #[.string a0] w fun e w' => e = .returned (.string r) ∧ Below w.heap.size w w' := by
  have HB := Aside0.mk (Below.refl w.heap.size w); have H : (muslinref04_Valid.l0 k a0 ([] : List Int) 0) = some r := h; clear h; have H' := Aside0.mk H; clear H
  go_enter Tryz.func59, Tryz.ntmps59
  go_wp2
  go_loopg [3, 4] k (fun kq v3 v4 w' => ∃ (x3_1 : List Int) (x4_1 : Int), v4 = .int .i64 x4_1 ∧ Aside0 (muslinref04_Valid.l0 kq a0 x3_1 x4_1 = some r) ∧ Aside0 (kq ≤ k) ∧ Aside0 (Kd.R (Kd.int .u8) 5 w' w.heap.size (fun _ => True) v3 x3_1) ∧ Aside0 (Below w.heap.size w w'))
  case atStart => exact ⟨(([] : List Int)), (0), (by first | rfl | (simp; done) | (simp [*]; done)), H', ⟨Nat.le_refl _⟩, ⟨by first | exact Kd.R_nil _ _ _ _ _ | exact Kd.N_nil _ _ _ _ _ | exact Kd.V_nil _ _ _ _ _ | exact Kd.Q_nil _ _ _ _ _ | exact Kd.S_nil _ _ _ _ _⟩, ⟨by repeat (first | (with_reducible first | exact HB.out | apply below_alloc | apply pw_below_drewN | apply below_drew1) | exact HB.out)⟩⟩
  case round =>
    clear H'; obtain ⟨x3_1, x4_1, rfl, HA, HK1, HO_3, HB⟩ := hrel
    cases gk with
    | zero => exact absurd HA.out (by simp [muslinref04_Valid.l0])
    | succ k1 =>
      have H := HA.out; clear HA; simp only [muslinref04_Valid.l0] at H
      by_cases c2 : x4_1 < (a0.size : Int)
      case neg =>
        rw [if_neg c2] at H; have c2b0 : decide (x4_1 < (a0.size : Int)) = false := decide_eq_false c2; clear c2; obtain rfl := Option.some.inj H; have hcv12 := own_string (P := Tryz.prog) Tryz.underlying29 Tryz.underlying5 Tryz.underlying9 (Kd.own_of_R HO_3.out)
        go_wp2
        go_ret
        exact ⟨by first | rfl | (simp [errW_none, errW_some] <;> rfl) | (simp [*, errW_none, errW_some] <;> rfl), by repeat (first | (with_reducible first | exact HB.out | apply below_alloc | apply pw_below_drewN | apply below_drew1) | exact HB.out)⟩
      rw [if_pos c2] at H; have c2b0 : decide (x4_1 < (a0.size : Int)) = true := decide_eq_true c2; clear c2; replace H := Option.bind_eq_some_iff.mp H; obtain ⟨t136, A30, H⟩ := H; replace H : (if t136 = 0 then (if x3_1.length + 3 < 140737488355328 then (muslinref04_Valid.l0 k1 a0 (x3_1 ++ bytesOf (⟨#[239, 191, 189]⟩ : ByteArray)) (wrap64 (x4_1 + 1))) else (none)) else (if 0 ≤ x4_1 then (if x4_1 ≤ (wrap64 (x4_1 + t136)) then (if (wrap64 (x4_1 + t136)) ≤ (a0.size : Int) then (if x3_1.length + (a0.extract (x4_1 : Int).toNat ((wrap64 (x4_1 + t136)) : Int).toNat).size < 140737488355328 then (muslinref04_Valid.l0 k1 a0 (x3_1 ++ bytesOf (a0.extract (x4_1 : Int).toNat ((wrap64 (x4_1 + t136)) : Int).toNat)) (wrap64 (x4_1 + t136))) else (none)) else (none)) else (none)) else (none))) = some r := H; have A3 := Aside0.mk A30; clear A30
      by_cases c4 : t136 = 0
      case pos =>
        rw [if_pos c4] at H; have c4b0 : (t136 == 0) = true := beq_iff_eq.mpr c4; have c4b1 : (t136 != 0) = false := bne_eq_false_iff_eq.mpr c4; clear c4
        by_cases c5 : x3_1.length + 3 < 140737488355328
        case neg =>
          rw [if_neg c5] at H
          exact absurd H (by simp)
        rw [if_pos c5] at H; have LMc5 := Aside0.mk c5; clear c5; obtain ⟨y137, hy137⟩ : ∃ y_ : List Int, y_ = (x3_1 ++ bytesOf (⟨#[239, 191, 189]⟩ : ByteArray)) := ⟨_, rfl⟩
        replace H : (muslinref04_Valid.l0 k1 a0 y137 (wrap64 (x4_1 + 1))) = some r := by first | (rw [hy137]; with_reducible exact H) | (have H2_ := (Option.bind_some _ _).symm.trans H; rw [hy137]; with_reducible exact H2_) | (have H2_ := (Option.bind_some _ _).symm.trans H; with_reducible exact H2_) | with_reducible exact H | (rw [hy137]; exact H) | exact H
        have Ny137 := Aside0.mk hy137; clear hy137; have H' := Aside0.mk H; clear H; go_wp2_with (first | ((with_reducible refine gate_callee (f := 82) rfl ?_); refine goesL_ (some 12) rfl rfl Tryz.func82 (by kernel_rfl) rfl #[.string a0, .int .i64 x4_1] rfl (by (try simp only [List.map_toArray, List.map_cons, List.map_nil]); first | done | rfl | (simp only [List.length_drop, List.length_take]; rfl)) ?_; (with_reducible refine (muslinref04_Whole.calls k1 a0 x4_1 t136 _ A3.out).mono ?_); rintro e w' ⟨rfl, ⟨nd, rfl⟩⟩; refine ⟨_, rfl, ?_⟩) | (at_builtin; refine print_append_str (w0 := w) w.heap.size rfl (.tmp 15) _ 29 9 5 rfl Tryz.underlying29 Tryz.underlying9 info5 u3 x3_1 (⟨#[239, 191, 189]⟩ : ByteArray) rfl rfl ?aO ?aB ?aS ?aL ?_; (case aB => exact (by repeat (first | (with_reducible first | exact HB.out | apply below_alloc | apply pw_below_drewN | apply below_drew1) | exact HB.out))); (case aO => exact (Kd.own_of_R (by (with_reducible repeat (first | apply Kd.R_alloc | apply Kd.R_drewN | apply Kd.R_drew)); exact HO_3.out))); (case aS => exact (below_size (by repeat (first | (with_reducible first | exact HB.out | apply below_alloc | apply pw_below_drewN | apply below_drew1) | exact HB.out)))); (case aL => have := LMc5.out; first | omega | exact Nat.le_of_lt this); intro v138 w6 ho0 hb hg; have ho := Kd.R_of_own (h1 := fun _ => rfl) (ok := fun _ => True) ho0 (fun _ _ => trivial); clear ho0; have hat := True.intro; rw [← Ny137.out] at ho; change Kd.R (Kd.int .u8) 5 w6 w.heap.size (fun _ => True) v138 y137 at ho; have n0_ := Aside0.mk (hb); have n1_ := Aside0.mk (ho); clear HB; clear HO_3; have HB := n0_; have HO139 := n1_; clear n0_ n1_; clear ho hb hg hat))
        go_roundg k1
        case measure => have := HK1.out; omega
        case rel => exact ⟨(y137), (wrap64 (x4_1 + 1)), (by first | rfl | (simp; done) | (simp [*]; done)), H', ⟨by have := HK1.out; omega⟩, ⟨by (with_reducible repeat (first | apply Kd.R_alloc | apply Kd.R_drewN | apply Kd.R_drew)); exact HO139.out⟩, ⟨by repeat (first | (with_reducible first | exact HB.out | apply below_alloc | apply pw_below_drewN | apply below_drew1) | exact HB.out)⟩⟩
      rw [if_neg c4] at H; have c4b0 : (t136 == 0) = false := beq_eq_false_iff_ne.mpr c4; have c4b1 : (t136 != 0) = true := bne_iff_ne.mpr c4
      by_cases c7 : 0 ≤ x4_1
      case neg =>
        rw [if_neg c7] at H
        exact absurd H (by simp)
      rw [if_pos c7] at H; have c7b0 := eq_true c7; have c7b1 : decide (0 ≤ x4_1) = true := decide_eq_true c7; clear c7
      by_cases c8 : x4_1 ≤ (wrap64 (x4_1 + t136))
      case neg =>
        rw [if_neg c8] at H
        exact absurd H (by simp)
      rw [if_pos c8] at H; have c8b0 := eq_true c8; have c8b1 : decide (x4_1 ≤ (wrap64 (x4_1 + t136))) = true := decide_eq_true c8
      by_cases c9 : (wrap64 (x4_1 + t136)) ≤ (a0.size : Int)
      case neg =>
        rw [if_neg c9] at H
        exact absurd H (by simp)
      rw [if_pos c9] at H; have c9b0 := eq_true c9; have c9b1 : decide ((wrap64 (x4_1 + t136)) ≤ (a0.size : Int)) = true := decide_eq_true c9
      by_cases c10 : x3_1.length + (a0.extract (x4_1 : Int).toNat ((wrap64 (x4_1 + t136)) : Int).toNat).size < 140737488355328
      case neg =>
        rw [if_neg c10] at H
        exact absurd H (by simp)
      rw [if_pos c10] at H; have LMc10 := Aside0.mk c10; clear c10; obtain ⟨y140, hy140⟩ : ∃ y_ : List Int, y_ = (x3_1 ++ bytesOf (a0.extract (x4_1 : Int).toNat ((wrap64 (x4_1 + t136)) : Int).toNat)) := ⟨_, rfl⟩
      replace H : (muslinref04_Valid.l0 k1 a0 y140 (wrap64 (x4_1 + t136))) = some r := by first | (rw [hy140]; with_reducible exact H) | (have H2_ := (Option.bind_some _ _).symm.trans H; rw [hy140]; with_reducible exact H2_) | (have H2_ := (Option.bind_some _ _).symm.trans H; with_reducible exact H2_) | with_reducible exact H | (rw [hy140]; exact H) | exact H
      have Ny140 := Aside0.mk hy140; clear hy140; have H' := Aside0.mk H; clear H; go_wp2_with (first | ((with_reducible refine gate_callee (f := 82) rfl ?_); refine goesL_ (some 12) rfl rfl Tryz.func82 (by kernel_rfl) rfl #[.string a0, .int .i64 x4_1] rfl (by (try simp only [List.map_toArray, List.map_cons, List.map_nil]); first | done | rfl | (simp only [List.length_drop, List.length_take]; rfl)) ?_; (with_reducible refine (muslinref04_Whole.calls k1 a0 x4_1 t136 _ A3.out).mono ?_); rintro e w' ⟨rfl, ⟨nd, rfl⟩⟩; refine ⟨_, rfl, ?_⟩) | (at_builtin; refine print_append_str (w0 := w) w.heap.size rfl (.tmp 19) _ 29 9 5 rfl Tryz.underlying29 Tryz.underlying9 info5 u3 x3_1 (a0.extract (x4_1 : Int).toNat ((wrap64 (x4_1 + t136)) : Int).toNat) rfl rfl ?aO ?aB ?aS ?aL ?_; (case aB => exact (by repeat (first | (with_reducible first | exact HB.out | apply below_alloc | apply pw_below_drewN | apply below_drew1) | exact HB.out))); (case aO => exact (Kd.own_of_R (by (with_reducible repeat (first | apply Kd.R_alloc | apply Kd.R_drewN | apply Kd.R_drew)); exact HO_3.out))); (case aS => exact (below_size (by repeat (first | (with_reducible first | exact HB.out | apply below_alloc | apply pw_below_drewN | apply below_drew1) | exact HB.out)))); (case aL => have := LMc10.out; first | omega | exact Nat.le_of_lt this); intro v141 w11 ho0 hb hg; have ho := Kd.R_of_own (h1 := fun _ => rfl) (ok := fun _ => True) ho0 (fun _ _ => trivial); clear ho0; have hat := True.intro; rw [← Ny140.out] at ho; change Kd.R (Kd.int .u8) 5 w11 w.heap.size (fun _ => True) v141 y140 at ho; have n0_ := Aside0.mk (hb); have n1_ := Aside0.mk (ho); clear HB; clear HO_3; have HB := n0_; have HO142 := n1_; clear n0_ n1_; clear ho hb hg hat))
      go_roundg k1
      case measure => have := HK1.out; omega
      case rel => exact ⟨(y140), (wrap64 (x4_1 + t136)), (by first | rfl | (simp; done) | (simp [*]; done)), H', ⟨by have := HK1.out; omega⟩, ⟨by (with_reducible repeat (first | apply Kd.R_alloc | apply Kd.R_drewN | apply Kd.R_drew)); exact HO142.out⟩, ⟨by repeat (first | (with_reducible first | exact HB.out | apply below_alloc | apply pw_below_drewN | apply below_drew1) | exact HB.out)⟩⟩
end Go.Proofs.YtkfcbafjcjmfnaaGreatDoor.C
namespace Go.Proofs.YtkfcbafjcjmfnaaGreatDoor.C
open Go.RowKit Go.Proofs.YtkfcbafjcjmfnaaGreatDoorW.PrintWords Go.Proofs.YtkfcbafjcjmfnaaGreatDoorW.PrintLast Go.Proofs.YtkfcbafjcjmfnaaGreatDoorW.PrintMore
attribute [local go_sem] max2_int min2_int max_two min_two max_three min_three max_four min_four
set_option linter.unusedVariables false
set_option linter.unusedSimpArgs false
mutual
def muslinref04_Decode.l0 : Nat → ByteArray → List Int → Int → Option (ByteArray × Bool)
  | 0, _, _, _ => none
  | k + 1, x1, x8, x9 => if x9 < (x1.size : Int) then (if 0 ≤ x9 then (if (wrap64 (bt x1 x9)) ≥ 128 then (muslinref04_Decode.j1 k x1 x8 x9 (wrap64 (bt x1 x9)) (decide ((wrap64 (bt x1 x9)) < 160))) else (muslinref04_Decode.j1 k x1 x8 x9 (wrap64 (bt x1 x9)) false)) else (none)) else (some (strOfNums x8, true))
def muslinref04_Decode.j1 : Nat → ByteArray → List Int → Int → Int → Bool → Option (ByteArray × Bool)
  | 0, _, _, _, _, _ => none
  | k + 1, x1, x8, x9, x10, x37 => if x37 = true then (if 0 ≤ x9 then (if x9 < (x1.size : Int) then ((muslinref04_high.f (bt x1 x9)).bind fun t145 => ((muslinref04_Sign.f k t145).bind fun t146 => (if x8.length + t146.size < 140737488355328 then (muslinref04_Decode.l0 k x1 (x8 ++ bytesOf t146) (wrap64 (x9 + 1))) else (none)))) else (none)) else (none)) else ((muslinref04_Sign.f k x10).bind fun t150 => (if x8.length + t150.size < 140737488355328 then (muslinref04_Decode.l0 k x1 (x8 ++ bytesOf t150) (wrap64 (x9 + 1))) else (none)))
def muslinref04_Decode.j2 : Nat → ByteArray → ByteArray → Bool → List Int → Bool → Option (ByteArray × Bool)
  | 0, _, _, _, _, _ => none
  | k + 1, x1, x6, x7, x8, x48 => if x48 = true then ((muslinref04_units.f k x1 (x6.toList == ([117, 116, 102, 45, 49, 54, 98, 101] : List UInt8))).bind fun bt154 => (muslinref04_Decode.l1 k x8 bt154.1 bt154.2 0)) else ((muslinref04_Valid.f k x1).bind fun t176 => (some (t176, x7)))
def muslinref04_Decode.l1 : Nat → List Int → List Int → Bool → Int → Option (ByteArray × Bool)
  | 0, _, _, _, _ => none
  | k + 1, x8, x11, x12, x13 => if x13 < (x11.length : Int) then (if 0 ≤ x13 then (if (rd x11 x13) ≥ 55296 then (if (rd x11 x13) ≤ 56319 then (if (wrap64 (x13 + 1)) < (x11.length : Int) then (if 0 ≤ (wrap64 (x13 + 1)) then (if (rd x11 (wrap64 (x13 + 1))) ≥ 56320 then (muslinref04_Decode.j4 k x8 x11 x12 x13 (decide ((rd x11 (wrap64 (x13 + 1))) ≤ 57343))) else (muslinref04_Decode.j4 k x8 x11 x12 x13 false)) else (none)) else (muslinref04_Decode.j4 k x8 x11 x12 x13 false)) else (muslinref04_Decode.j4 k x8 x11 x12 x13 false)) else (muslinref04_Decode.j4 k x8 x11 x12 x13 false)) else (none)) else (if x12 = true then (if x8.length + 3 < 140737488355328 then (some (strOfNums (x8 ++ bytesOf (⟨#[239, 191, 189]⟩ : ByteArray)), true)) else (none)) else (some (strOfNums x8, true)))
def muslinref04_Decode.j4 : Nat → List Int → List Int → Bool → Int → Bool → Option (ByteArray × Bool)
  | 0, _, _, _, _, _ => none
  | k + 1, x8, x11, x12, x13, x98 => if x98 = true then (if 0 ≤ x13 then (if x13 < (x11.length : Int) then (if 0 ≤ (wrap64 (x13 + 1)) then (if (wrap64 (x13 + 1)) < (x11.length : Int) then ((muslinref04_Sign.f k (wrap64 ((wrap64 ((wrap64 (65536 + (wrap64 (1024 * (wrap64 ((rd x11 x13) - 55296)))))) + (rd x11 (wrap64 (x13 + 1))))) - 56320))).bind fun t167 => (if x8.length + t167.size < 140737488355328 then (muslinref04_Decode.l1 k (x8 ++ bytesOf t167) x11 x12 (wrap64 ((wrap64 (x13 + 1)) + 1))) else (none))) else (none)) else (none)) else (none)) else (none)) else (if 0 ≤ x13 then (if x13 < (x11.length : Int) then ((muslinref04_Sign.f k (rd x11 x13)).bind fun t172 => (if x8.length + t172.size < 140737488355328 then (muslinref04_Decode.l1 k (x8 ++ bytesOf t172) x11 x12 (wrap64 (x13 + 1))) else (none))) else (none)) else (none))
end
def muslinref04_Decode.f (k : Nat) (a0 : ByteArray) (a1 : ByteArray) : Option (ByteArray × Bool) := (muslinref04_Known.f k a0).bind fun bt143 => (if bt143.1.toList = ([119, 105, 110, 100, 111, 119, 115, 45, 49, 50, 53, 50] : List UInt8) then (muslinref04_Decode.l0 k a1 ([] : List Int) 0) else (if bt143.1.toList = ([117, 116, 102, 45, 49, 54, 108, 101] : List UInt8) then (muslinref04_Decode.j2 k a1 bt143.1 bt143.2 ([] : List Int) (bt143.1.toList == ([117, 116, 102, 45, 49, 54, 108, 101] : List UInt8))) else (muslinref04_Decode.j2 k a1 bt143.1 bt143.2 ([] : List Int) (bt143.1.toList == ([117, 116, 102, 45, 49, 54, 98, 101] : List UInt8)))))
def muslinref04_Decode.T20 : Bool × List (List Nat × List Nat) := (true, [([], []), ([], []), ([], []), ([1, 2], [1, 2]), ([3], [3]), ([4], [4]), ([5], [5]), ([6], [6]), ([], []), ([], []), ([9], [9]), ([8, 10], [8, 10]), ([11], [11]), ([7, 12], [7, 12]), ([13], [13]), ([14], [14]), ([0, 15, 15], [0, 15]), ([16, 16, 0, 1, 2, 3, 4, 5, 6, 7, 8, 9, 10, 11, 12, 13, 14, 15, 16], [0, 16])])
def muslinref04_Decode.B20 : List Nat := [0, 0, 0, 6, 14, 30, 62, 126, 0, 0, 512, 1792, 3840, 8190, 16382, 32766, 65535, 131071]
theorem muslinref04_Decode.tab20 : rtab .any (opsOf Tryz.f42 20) = muslinref04_Decode.T20 := by kernel_rfl
theorem muslinref04_Decode.bits20 : waitsOk muslinref04_Decode.T20.2 muslinref04_Decode.B20 = true := by kernel_rfl
set_option maxHeartbeats 8000000 in
set_option maxRecDepth 100000 in
theorem muslinref04_Decode.calls (k : Nat) (a0 : ByteArray) (a1 : ByteArray) (r1 : ByteArray) (r2 : Bool) (w : World) (h : muslinref04_Decode.f k a0 a1 = some (r1, r2)) :
    Calls Tryz.prog 42 #[.string a0, .string a1] w fun e w' => e = .returned (.tuple #[.string r1, .bool r2]) ∧ Below w.heap.size w w' := by
  have HB := Aside0.mk (Below.refl w.heap.size w); have H : ((muslinref04_Known.f k a0).bind fun bt143 => (if bt143.1.toList = ([119, 105, 110, 100, 111, 119, 115, 45, 49, 50, 53, 50] : List UInt8) then (muslinref04_Decode.l0 k a1 ([] : List Int) 0) else (if bt143.1.toList = ([117, 116, 102, 45, 49, 54, 108, 101] : List UInt8) then (muslinref04_Decode.j2 k a1 bt143.1 bt143.2 ([] : List Int) (bt143.1.toList == ([117, 116, 102, 45, 49, 54, 108, 101] : List UInt8))) else (muslinref04_Decode.j2 k a1 bt143.1 bt143.2 ([] : List Int) (bt143.1.toList == ([117, 116, 102, 45, 49, 54, 98, 101] : List UInt8)))))) = some (r1, r2) := h; clear h; replace H := Option.bind_eq_some_iff.mp H; obtain ⟨⟨t143, t144⟩, A30, H⟩ := H; replace H : (if t143.toList = ([119, 105, 110, 100, 111, 119, 115, 45, 49, 50, 53, 50] : List UInt8) then (muslinref04_Decode.l0 k a1 ([] : List Int) 0) else (if t143.toList = ([117, 116, 102, 45, 49, 54, 108, 101] : List UInt8) then (muslinref04_Decode.j2 k a1 t143 t144 ([] : List Int) (t143.toList == ([117, 116, 102, 45, 49, 54, 108, 101] : List UInt8))) else (muslinref04_Decode.j2 k a1 t143 t144 ([] : List Int) (t143.toList == ([117, 116, 102, 45, 49, 54, 98, 101] : List UInt8))))) = some (r1, r2) := H; have A3 := Aside0.mk A30; clear A30
  by_cases c4 : t143.toList = ([119, 105, 110, 100, 111, 119, 115, 45, 49, 50, 53, 50] : List UInt8)
  case pos =>
    rw [if_pos c4] at H; have c4b0 : (t143.toList == ([119, 105, 110, 100, 111, 119, 115, 45, 49, 50, 53, 50] : List UInt8)) = true := beq_iff_eq.mpr c4; have c4b1 : (t143.toList != ([119, 105, 110, 100, 111, 119, 115, 45, 49, 50, 53, 50] : List UInt8)) = false := bne_eq_false_iff_eq.mpr c4; clear c4; have H' := Aside0.mk H; clear H
    go_enter Tryz.func42, Tryz.ntmps42
    go_wp2_with (first | ((with_reducible refine gate_callee (f := 56) rfl ?_); refine goesL_ (some 16) rfl rfl Tryz.func56 (by kernel_rfl) rfl #[.string a0] rfl (by (try simp only [List.map_toArray, List.map_cons, List.map_nil]); first | done | rfl | (simp only [List.length_drop, List.length_take]; rfl)) ?_; (with_reducible refine (muslinref04_Known.calls k a0 t143 t144 _ A3.out).mono ?_); rintro e w5 ⟨rfl, hb⟩; refine ⟨_, rfl, ?_⟩; have n0_ := Aside0.mk (below_step (by repeat (first | (with_reducible first | exact HB.out | apply below_alloc | apply pw_below_drewN | apply below_drew1) | exact HB.out)) hb); clear HB; have HB := n0_; clear n0_; (try clear hb); (try clear hb2); (try clear hk); (try clear hi)))
    go_loopg [8, 9] k (fun kq v8 v9 w' => ∃ (x8_1 : List Int) (x9_1 : Int), v9 = .int .i64 x9_1 ∧ Aside0 (muslinref04_Decode.l0 kq a1 x8_1 x9_1 = some (r1, r2)) ∧ Aside0 (kq ≤ k) ∧ Aside0 (Kd.R (Kd.int .u8) 5 w' w.heap.size (fun _ => True) v8 x8_1) ∧ Aside0 (Below w.heap.size w w'))
    case atStart => exact ⟨(([] : List Int)), (0), (by first | rfl | (simp; done) | (simp [*]; done)), H', ⟨Nat.le_refl _⟩, ⟨by first | exact Kd.R_nil _ _ _ _ _ | exact Kd.N_nil _ _ _ _ _ | exact Kd.V_nil _ _ _ _ _ | exact Kd.Q_nil _ _ _ _ _ | exact Kd.S_nil _ _ _ _ _⟩, ⟨by repeat (first | (with_reducible first | exact HB.out | apply below_alloc | apply pw_below_drewN | apply below_drew1) | exact HB.out)⟩⟩
    case round =>
      clear H'; (try clear p2); (try clear c4); (try clear c4b0); (try clear c4b1); (try clear c5); obtain ⟨x8_1, x9_1, rfl, HA, HK1, HO_8, HB⟩ := hrel
      cases gk with
      | zero => exact absurd HA.out (by simp [muslinref04_Decode.l0])
      | succ k1 =>
        have H := HA.out; clear HA; simp only [muslinref04_Decode.l0] at H
        by_cases c6 : x9_1 < (a1.size : Int)
        case neg =>
          rw [if_neg c6] at H; have c6b0 : decide (x9_1 < (a1.size : Int)) = false := decide_eq_false c6; clear c6; simp only [Option.some.injEq, Prod.mk.injEq] at H; obtain ⟨rfl, rfl⟩ := H; have hcv25 := own_string (P := Tryz.prog) Tryz.underlying29 Tryz.underlying5 Tryz.underlying9 (Kd.own_of_R HO_8.out)
          go_wp2
          go_ret2
          exact ⟨by first | rfl | (simp [errW_none, errW_some] <;> rfl) | (simp [*, errW_none, errW_some] <;> rfl), by repeat (first | (with_reducible first | exact HB.out | apply below_alloc | apply pw_below_drewN | apply below_drew1) | exact HB.out)⟩
        rw [if_pos c6] at H; have c6b0 : decide (x9_1 < (a1.size : Int)) = true := decide_eq_true c6; clear c6
        by_cases c7 : 0 ≤ x9_1
        case neg =>
          rw [if_neg c7] at H
          exact absurd H (by simp)
        rw [if_pos c7] at H; have c7b0 : decide (0 ≤ x9_1) = true := decide_eq_true c7; clear c7; have HC9 := Aside0.mk H; clear H; have p8 : 0 ≤ (x9_1 : Int) := of_decide_eq_true (by first | (with_reducible assumption) | assumption); have q8 : x9_1 < (a1.size : Int) := of_decide_eq_true (by first | (with_reducible assumption) | assumption); have hx8 := bt_at a1 x9_1; replace p8 := eq_true p8; replace q8 := eq_true q8
        go_upto_region 9 with (fail)
        go_cut [37] (fun v37 wc => ∃ (kq : Nat) (x37_8 : Bool), v37 = .bool x37_8 ∧ Aside0 (muslinref04_Decode.j1 kq a1 x8_1 x9_1 (wrap64 (bt a1 x9_1)) x37_8 = some (r1, r2)) ∧ Aside0 (kq ≤ k1) ∧ Aside0 (Kd.R (Kd.int .u8) 5 wc w.heap.size (fun _ => True) u8 x8_1) ∧ Aside0 (Below w.heap.size w wc))
        case first =>
          have H := HC9.out; clear HC9
          by_cases c10 : (wrap64 (bt a1 x9_1)) ≥ 128
          case neg =>
            rw [if_neg c10] at H; have c10b0 : decide (128 ≤ (wrap64 (bt a1 x9_1))) = false := decide_eq_false c10; clear c10
            (first | rw [c10b0] | (simp only [i64_w, i32_w]; rw [c10b0]) | skip)
            have H' := Aside0.mk H; clear H
            go_wp2
            go_meet
            case rel => exact ⟨_, (false), (by first | rfl | (simp; done) | (simp [*]; done)), H', ⟨by have := HK1.out; first | omega | exact Nat.le_refl _⟩, ⟨by (with_reducible repeat (first | apply Kd.R_alloc | apply Kd.R_drewN | apply Kd.R_drew)); exact HO_8.out⟩, ⟨by repeat (first | (with_reducible first | exact HB.out | apply below_alloc | apply pw_below_drewN | apply below_drew1) | exact HB.out)⟩⟩
          rw [if_pos c10] at H; have c10b0 : decide (128 ≤ (wrap64 (bt a1 x9_1))) = true := decide_eq_true c10; clear c10
          (first | rw [c10b0] | (simp only [i64_w, i32_w]; rw [c10b0]) | skip)
          have H' := Aside0.mk H; clear H
          go_wp2
          go_meet
          case rel => exact ⟨_, (decide ((wrap64 (bt a1 x9_1)) < 160)), (by first | rfl | (simp; done) | (simp [*]; done)), H', ⟨by have := HK1.out; first | omega | exact Nat.le_refl _⟩, ⟨by (with_reducible repeat (first | apply Kd.R_alloc | apply Kd.R_drewN | apply Kd.R_drew)); exact HO_8.out⟩, ⟨by repeat (first | (with_reducible first | exact HB.out | apply below_alloc | apply pw_below_drewN | apply below_drew1) | exact HB.out)⟩⟩
        case rest =>
          clear HC9; (try clear c1); (try clear p2); (try clear c4); (try clear c4b0); (try clear c4b1); (try clear c5); (try clear c6); (try clear c6b0); (try clear p6); (try clear c7); (try clear c7b0); (try clear p8); (try clear q8); (try clear hx8); (try clear c10); (try clear c10b0); (try clear p2); (try clear p8); (try clear q8); obtain ⟨kq, x37_8, rfl, HA, HJ8, HO_8, HB⟩ := hcut
          cases kq with
          | zero => exact absurd HA.out (by simp [muslinref04_Decode.j1])
          | succ kj8 =>
            have H := HA.out; clear HA; simp only [muslinref04_Decode.j1] at H
            by_cases c11 : x37_8 = true
            case neg =>
              replace c11 := Bool.eq_false_iff.mpr c11; subst c11
              have H1 : ((muslinref04_Sign.f kj8 (wrap64 (bt a1 x9_1))).bind fun t150 => (if x8_1.length + t150.size < 140737488355328 then (muslinref04_Decode.l0 kj8 a1 (x8_1 ++ bytesOf t150) (wrap64 (x9_1 + 1))) else (none))) = some (r1, r2) := by rw [if_neg (show ¬ (false = true) by decide)] at H; exact H
              clear H; have H := H1; clear H1; replace H := Option.bind_eq_some_iff.mp H; obtain ⟨t150, A210, H⟩ := H; replace H : (if x8_1.length + t150.size < 140737488355328 then (muslinref04_Decode.l0 kj8 a1 (x8_1 ++ bytesOf t150) (wrap64 (x9_1 + 1))) else (none)) = some (r1, r2) := H; have A21 := Aside0.mk A210; clear A210
              by_cases c22 : x8_1.length + t150.size < 140737488355328
              case neg =>
                rw [if_neg c22] at H
                exact absurd H (by simp)
              rw [if_pos c22] at H; have LMc22 := Aside0.mk c22; clear c22; obtain ⟨y151, hy151⟩ : ∃ y_ : List Int, y_ = (x8_1 ++ bytesOf t150) := ⟨_, rfl⟩
              replace H : (muslinref04_Decode.l0 kj8 a1 y151 (wrap64 (x9_1 + 1))) = some (r1, r2) := by first | (rw [hy151]; with_reducible exact H) | (have H2_ := (Option.bind_some _ _).symm.trans H; rw [hy151]; with_reducible exact H2_) | (have H2_ := (Option.bind_some _ _).symm.trans H; with_reducible exact H2_) | with_reducible exact H | (rw [hy151]; exact H) | exact H
              have Ny151 := Aside0.mk hy151; clear hy151; have H' := Aside0.mk H; clear H; go_wp2_with (first | ((with_reducible refine gate_callee (f := 43) rfl ?_); refine goesL_ (some 44) rfl rfl Tryz.func43 (by kernel_rfl) rfl #[.int .i64 (wrap64 (bt a1 x9_1))] rfl (by (try simp only [List.map_toArray, List.map_cons, List.map_nil]); first | done | rfl | (simp only [List.length_drop, List.length_take]; rfl)) ?_; (with_reducible refine (muslinref04_Sign.calls kj8 (wrap64 (bt a1 x9_1)) t150 _ A21.out).mono ?_); rintro e w23 ⟨rfl, hb⟩; refine ⟨_, rfl, ?_⟩; have n0_ := Aside0.mk (Kd.R_below (by (with_reducible repeat (first | apply Kd.R_alloc | apply Kd.R_drewN | apply Kd.R_drew)); exact HO_8.out) hb); have n1_ := Aside0.mk (below_step (by repeat (first | (with_reducible first | exact HB.out | apply below_alloc | apply pw_below_drewN | apply below_drew1) | exact HB.out)) hb); clear HO_8; clear HB; have HO_8 := n0_; have HB := n1_; clear n0_ n1_; (try clear hb); (try clear hb2); (try clear hk); (try clear hi)) | (at_builtin; refine print_append_str (w0 := w) w.heap.size rfl (.tmp 42) _ 29 9 5 rfl Tryz.underlying29 Tryz.underlying9 info5 u8 x8_1 t150 rfl rfl ?aO ?aB ?aS ?aL ?_; (case aB => exact (by repeat (first | (with_reducible first | exact HB.out | apply below_alloc | apply pw_below_drewN | apply below_drew1) | exact HB.out))); (case aO => exact (Kd.own_of_R (by (with_reducible repeat (first | apply Kd.R_alloc | apply Kd.R_drewN | apply Kd.R_drew)); exact HO_8.out))); (case aS => exact (below_size (by repeat (first | (with_reducible first | exact HB.out | apply below_alloc | apply pw_below_drewN | apply below_drew1) | exact HB.out)))); (case aL => have := LMc22.out; first | omega | exact Nat.le_of_lt this); intro v152 w24 ho0 hb hg; have ho := Kd.R_of_own (h1 := fun _ => rfl) (ok := fun _ => True) ho0 (fun _ _ => trivial); clear ho0; have hat := True.intro; rw [← Ny151.out] at ho; change Kd.R (Kd.int .u8) 5 w24 w.heap.size (fun _ => True) v152 y151 at ho; have n0_ := Aside0.mk (hb); have n1_ := Aside0.mk (ho); clear HB; clear HO_8; have HB := n0_; have HO153 := n1_; clear n0_ n1_; clear ho hb hg hat))
              go_roundg kj8
              case measure => have := HK1.out; have := HJ8.out; omega
              case rel => exact ⟨(y151), (wrap64 (x9_1 + 1)), (by first | rfl | (simp; done) | (simp [*]; done)), H', ⟨by have := HK1.out; have := HJ8.out; omega⟩, ⟨by (with_reducible repeat (first | apply Kd.R_alloc | apply Kd.R_drewN | apply Kd.R_drew)); exact HO153.out⟩, ⟨by repeat (first | (with_reducible first | exact HB.out | apply below_alloc | apply pw_below_drewN | apply below_drew1) | exact HB.out)⟩⟩
            subst c11
            have H1 : (if 0 ≤ x9_1 then (if x9_1 < (a1.size : Int) then ((muslinref04_high.f (bt a1 x9_1)).bind fun t145 => ((muslinref04_Sign.f kj8 t145).bind fun t146 => (if x8_1.length + t146.size < 140737488355328 then (muslinref04_Decode.l0 kj8 a1 (x8_1 ++ bytesOf t146) (wrap64 (x9_1 + 1))) else (none)))) else (none)) else (none)) = some (r1, r2) := by rw [if_pos rfl] at H; exact H
            clear H; have H := H1; clear H1
            by_cases c12 : 0 ≤ x9_1
            case neg =>
              rw [if_neg c12] at H
              exact absurd H (by simp)
            rw [if_pos c12] at H; have c12b0 : decide (0 ≤ x9_1) = true := decide_eq_true c12; clear c12
            by_cases c13 : x9_1 < (a1.size : Int)
            case neg =>
              rw [if_neg c13] at H
              exact absurd H (by simp)
            rw [if_pos c13] at H; have c13b0 : decide (x9_1 < (a1.size : Int)) = true := decide_eq_true c13; clear c13; replace H := Option.bind_eq_some_iff.mp H; obtain ⟨t145, A150, H⟩ := H; replace H : ((muslinref04_Sign.f kj8 t145).bind fun t146 => (if x8_1.length + t146.size < 140737488355328 then (muslinref04_Decode.l0 kj8 a1 (x8_1 ++ bytesOf t146) (wrap64 (x9_1 + 1))) else (none))) = some (r1, r2) := H; have A15 := Aside0.mk A150; clear A150; replace H := Option.bind_eq_some_iff.mp H; obtain ⟨t146, A160, H⟩ := H; replace H : (if x8_1.length + t146.size < 140737488355328 then (muslinref04_Decode.l0 kj8 a1 (x8_1 ++ bytesOf t146) (wrap64 (x9_1 + 1))) else (none)) = some (r1, r2) := H; have A16 := Aside0.mk A160; clear A160
            by_cases c17 : x8_1.length + t146.size < 140737488355328
            case neg =>
              rw [if_neg c17] at H
              exact absurd H (by simp)
            rw [if_pos c17] at H; have LMc17 := Aside0.mk c17; clear c17; obtain ⟨y147, hy147⟩ : ∃ y_ : List Int, y_ = (x8_1 ++ bytesOf t146) := ⟨_, rfl⟩
            replace H : (muslinref04_Decode.l0 kj8 a1 y147 (wrap64 (x9_1 + 1))) = some (r1, r2) := by first | (rw [hy147]; with_reducible exact H) | (have H2_ := (Option.bind_some _ _).symm.trans H; rw [hy147]; with_reducible exact H2_) | (have H2_ := (Option.bind_some _ _).symm.trans H; with_reducible exact H2_) | with_reducible exact H | (rw [hy147]; exact H) | exact H
            have Ny147 := Aside0.mk hy147; clear hy147; have H' := Aside0.mk H; clear H; have p14 : 0 ≤ (x9_1 : Int) := of_decide_eq_true (by first | (with_reducible assumption) | assumption); have q14 : x9_1 < (a1.size : Int) := of_decide_eq_true (by first | (with_reducible assumption) | assumption); have hx14 := bt_at a1 x9_1; replace p14 := eq_true p14; replace q14 := eq_true q14; go_wp2_with (first | ((with_reducible refine gate_callee (f := 57) rfl ?_); refine goesL_ (some 41) rfl rfl Tryz.func57 (by kernel_rfl) rfl #[.int .u8 (bt a1 x9_1)] rfl (by (try simp only [List.map_toArray, List.map_cons, List.map_nil]); first | done | rfl | (simp only [List.length_drop, List.length_take]; rfl)) ?_; (with_reducible refine (muslinref04_high.calls (bt a1 x9_1) t145 _ A15.out).mono ?_); rintro e w18 ⟨rfl, hb⟩; refine ⟨_, rfl, ?_⟩; have n0_ := Aside0.mk (Kd.R_below (by (with_reducible repeat (first | apply Kd.R_alloc | apply Kd.R_drewN | apply Kd.R_drew)); exact HO_8.out) hb); have n1_ := Aside0.mk (below_step (by repeat (first | (with_reducible first | exact HB.out | apply below_alloc | apply pw_below_drewN | apply below_drew1) | exact HB.out)) hb); clear HO_8; clear HB; have HO_8 := n0_; have HB := n1_; clear n0_ n1_; (try clear hb); (try clear hb2); (try clear hk); (try clear hi)) | ((with_reducible refine gate_callee (f := 43) rfl ?_); refine goesL_ (some 44) rfl rfl Tryz.func43 (by kernel_rfl) rfl #[.int .i64 t145] rfl (by (try simp only [List.map_toArray, List.map_cons, List.map_nil]); first | done | rfl | (simp only [List.length_drop, List.length_take]; rfl)) ?_; (with_reducible refine (muslinref04_Sign.calls kj8 t145 t146 _ A16.out).mono ?_); rintro e w19 ⟨rfl, hb⟩; refine ⟨_, rfl, ?_⟩; have n0_ := Aside0.mk (Kd.R_below (by (with_reducible repeat (first | apply Kd.R_alloc | apply Kd.R_drewN | apply Kd.R_drew)); exact HO_8.out) hb); have n1_ := Aside0.mk (below_step (by repeat (first | (with_reducible first | exact HB.out | apply below_alloc | apply pw_below_drewN | apply below_drew1) | exact HB.out)) hb); clear HO_8; clear HB; have HO_8 := n0_; have HB := n1_; clear n0_ n1_; (try clear hb); (try clear hb2); (try clear hk); (try clear hi)) | (at_builtin; refine print_append_str (w0 := w) w.heap.size rfl (.tmp 42) _ 29 9 5 rfl Tryz.underlying29 Tryz.underlying9 info5 u8 x8_1 t146 rfl rfl ?aO ?aB ?aS ?aL ?_; (case aB => exact (by repeat (first | (with_reducible first | exact HB.out | apply below_alloc | apply pw_below_drewN | apply below_drew1) | exact HB.out))); (case aO => exact (Kd.own_of_R (by (with_reducible repeat (first | apply Kd.R_alloc | apply Kd.R_drewN | apply Kd.R_drew)); exact HO_8.out))); (case aS => exact (below_size (by repeat (first | (with_reducible first | exact HB.out | apply below_alloc | apply pw_below_drewN | apply below_drew1) | exact HB.out)))); (case aL => have := LMc17.out; first | omega | exact Nat.le_of_lt this); intro v148 w20 ho0 hb hg; have ho := Kd.R_of_own (h1 := fun _ => rfl) (ok := fun _ => True) ho0 (fun _ _ => trivial); clear ho0; have hat := True.intro; rw [← Ny147.out] at ho; change Kd.R (Kd.int .u8) 5 w20 w.heap.size (fun _ => True) v148 y147 at ho; have n0_ := Aside0.mk (hb); have n1_ := Aside0.mk (ho); clear HB; clear HO_8; have HB := n0_; have HO149 := n1_; clear n0_ n1_; clear ho hb hg hat))
            go_roundg kj8
            case measure => have := HK1.out; have := HJ8.out; omega
            case rel => exact ⟨(y147), (wrap64 (x9_1 + 1)), (by first | rfl | (simp; done) | (simp [*]; done)), H', ⟨by have := HK1.out; have := HJ8.out; omega⟩, ⟨by (with_reducible repeat (first | apply Kd.R_alloc | apply Kd.R_drewN | apply Kd.R_drew)); exact HO149.out⟩, ⟨by repeat (first | (with_reducible first | exact HB.out | apply below_alloc | apply pw_below_drewN | apply below_drew1) | exact HB.out)⟩⟩
  rw [if_neg c4] at H; have c4b0 : (t143.toList == ([119, 105, 110, 100, 111, 119, 115, 45, 49, 50, 53, 50] : List UInt8)) = false := beq_eq_false_iff_ne.mpr c4; have c4b1 : (t143.toList != ([119, 105, 110, 100, 111, 119, 115, 45, 49, 50, 53, 50] : List UInt8)) = true := bne_iff_ne.mpr c4; have HC26 := Aside0.mk H; clear H
  go_enter Tryz.func42, Tryz.ntmps42
  go_upto_if 48 with (first | ((with_reducible refine gate_callee (f := 56) rfl ?_); refine goesL_ (some 16) rfl rfl Tryz.func56 (by kernel_rfl) rfl #[.string a0] rfl (by (try simp only [List.map_toArray, List.map_cons, List.map_nil]); first | done | rfl | (simp only [List.length_drop, List.length_take]; rfl)) ?_; (with_reducible refine (muslinref04_Known.calls k a0 t143 t144 _ A3.out).mono ?_); rintro e w27 ⟨rfl, hb⟩; refine ⟨_, rfl, ?_⟩; have n0_ := Aside0.mk (below_step (by repeat (first | (with_reducible first | exact HB.out | apply below_alloc | apply pw_below_drewN | apply below_drew1) | exact HB.out)) hb); clear HB; have HB := n0_; clear n0_; (try clear hb); (try clear hb2); (try clear hk); (try clear hi)))
  (try simp only [Act.put, List.setIfInBounds_toArray, List.set_cons_zero, List.set_cons_succ])
  go_cut [48] (fun v48 wc => ∃ (kq : Nat) (x48_25 : Bool), v48 = .bool x48_25 ∧ Aside0 (muslinref04_Decode.j2 kq a1 t143 t144 ([] : List Int) x48_25 = some (r1, r2)) ∧ Aside0 (kq ≤ k) ∧ Aside0 (Kd.R (Kd.int .u8) 5 wc w.heap.size (fun _ => True) (.slice none 0 0) ([] : List Int)) ∧ Aside0 (Below w.heap.size w wc))
  case first =>
    have H := HC26.out; clear HC26
    by_cases c28 : t143.toList = ([117, 116, 102, 45, 49, 54, 108, 101] : List UInt8)
    case neg =>
      rw [if_neg c28] at H; have c28b0 : (t143.toList == ([117, 116, 102, 45, 49, 54, 108, 101] : List UInt8)) = false := beq_eq_false_iff_ne.mpr c28; have c28b1 : (t143.toList != ([117, 116, 102, 45, 49, 54, 108, 101] : List UInt8)) = true := bne_iff_ne.mpr c28
      (first | rw [c28b0] | (simp only [i64_w, i32_w]; rw [c28b0]) | skip)
      have H' := Aside0.mk H; clear H
      go_wp2
      go_meet
      case rel => exact ⟨_, ((t143.toList == ([117, 116, 102, 45, 49, 54, 98, 101] : List UInt8))), (by first | rfl | (simp; done) | (simp [*]; done)), H', ⟨by first | omega | exact Nat.le_refl _⟩, ⟨by first | exact Kd.R_nil _ _ _ _ _ | exact Kd.N_nil _ _ _ _ _ | exact Kd.V_nil _ _ _ _ _ | exact Kd.Q_nil _ _ _ _ _ | exact Kd.S_nil _ _ _ _ _⟩, ⟨by repeat (first | (with_reducible first | exact HB.out | apply below_alloc | apply pw_below_drewN | apply below_drew1) | exact HB.out)⟩⟩
    rw [if_pos c28] at H; have c28b0 : (t143.toList == ([117, 116, 102, 45, 49, 54, 108, 101] : List UInt8)) = true := beq_iff_eq.mpr c28; have c28b1 : (t143.toList != ([117, 116, 102, 45, 49, 54, 108, 101] : List UInt8)) = false := bne_eq_false_iff_eq.mpr c28; clear c28
    (first | rw [c28b0] | (simp only [i64_w, i32_w]; rw [c28b0]) | skip)
    have H' := Aside0.mk H; clear H
    go_wp2
    go_meet
    case rel => exact ⟨_, ((t143.toList == ([117, 116, 102, 45, 49, 54, 108, 101] : List UInt8))), (by first | rfl | (simp; done) | (simp [*]; done)), H', ⟨by first | omega | exact Nat.le_refl _⟩, ⟨by first | exact Kd.R_nil _ _ _ _ _ | exact Kd.N_nil _ _ _ _ _ | exact Kd.V_nil _ _ _ _ _ | exact Kd.Q_nil _ _ _ _ _ | exact Kd.S_nil _ _ _ _ _⟩, ⟨by repeat (first | (with_reducible first | exact HB.out | apply below_alloc | apply pw_below_drewN | apply below_drew1) | exact HB.out)⟩⟩
  case rest =>
    clear HC26; (try clear c1); (try clear p1); (try clear q1); (try clear hx1); (try clear c2); (try clear p2); (try clear hcv2); (try clear c4); (try clear c4b0); (try clear c4b1); (try clear c5); (try clear c6); (try clear c6b0); (try clear p6); (try clear c7); (try clear c7b0); (try clear p8); (try clear q8); (try clear hx8); (try clear c10); (try clear c10b0); (try clear c11); (try clear c12); (try clear c12b0); (try clear c13); (try clear c13b0); (try clear p14); (try clear q14); (try clear hx14); (try clear c17); (try clear c22); (try clear hcv25); (try clear c28); (try clear c28b0); (try clear c28b1); (try clear p14); (try clear p2); (try clear p6); (try clear p8); (try clear q14); (try clear q8); obtain ⟨kq, x48_25, rfl, HA, HJ25, HO_8, HB⟩ := hcut
    cases kq with
    | zero => exact absurd HA.out (by simp [muslinref04_Decode.j2])
    | succ kj25 =>
      have H := HA.out; clear HA; simp only [muslinref04_Decode.j2] at H
      by_cases c29 : x48_25 = true
      case neg =>
        replace c29 := Bool.eq_false_iff.mpr c29; subst c29
        have H1 : ((muslinref04_Valid.f kj25 a1).bind fun t176 => (some (t176, t144))) = some (r1, r2) := by rw [if_neg (show ¬ (false = true) by decide)] at H; exact H
        clear H; have H := H1; clear H1; replace H := Option.bind_eq_some_iff.mp H; obtain ⟨t176, A660, H⟩ := H; replace H : (some (t176, t144)) = some (r1, r2) := H; have A66 := Aside0.mk A660; clear A660; simp only [Option.some.injEq, Prod.mk.injEq] at H; obtain ⟨rfl, rfl⟩ := H; go_wp2_with (first | ((with_reducible refine gate_callee (f := 59) rfl ?_); refine goesL_ (some 131) rfl rfl Tryz.func59 (by kernel_rfl) rfl #[.string a1] rfl (by (try simp only [List.map_toArray, List.map_cons, List.map_nil]); first | done | rfl | (simp only [List.length_drop, List.length_take]; rfl)) ?_; (with_reducible refine (muslinref04_Valid.calls kj25 a1 t176 _ A66.out).mono ?_); rintro e w67 ⟨rfl, hb⟩; refine ⟨_, rfl, ?_⟩; have n0_ := Aside0.mk (Kd.R_below (by (with_reducible repeat (first | apply Kd.R_alloc | apply Kd.R_drewN | apply Kd.R_drew)); exact HO_8.out) hb); have n1_ := Aside0.mk (below_step (by repeat (first | (with_reducible first | exact HB.out | apply below_alloc | apply pw_below_drewN | apply below_drew1) | exact HB.out)) hb); clear HO_8; clear HB; have HO_8 := n0_; have HB := n1_; clear n0_ n1_; (try clear hb); (try clear hb2); (try clear hk); (try clear hi)))
        go_ret2
        exact ⟨by first | rfl | (simp [errW_none, errW_some] <;> rfl) | (simp [*, errW_none, errW_some] <;> rfl), by repeat (first | (with_reducible first | exact HB.out | apply below_alloc | apply pw_below_drewN | apply below_drew1) | exact HB.out)⟩
      subst c29
      have H1 : ((muslinref04_units.f kj25 a1 (t143.toList == ([117, 116, 102, 45, 49, 54, 98, 101] : List UInt8))).bind fun bt154 => (muslinref04_Decode.l1 kj25 ([] : List Int) bt154.1 bt154.2 0)) = some (r1, r2) := by rw [if_pos rfl] at H; exact H
      clear H; have H := H1; clear H1; replace H := Option.bind_eq_some_iff.mp H; obtain ⟨⟨t154, t155⟩, A300, H⟩ := H; replace H : (muslinref04_Decode.l1 kj25 ([] : List Int) t154 t155 0) = some (r1, r2) := H; have A30 := Aside0.mk A300; clear A300; have H' := Aside0.mk H; clear H; go_wp2_with (first | ((with_reducible refine gate_callee (f := 58) rfl ?_); refine goesL_ (some 55) rfl rfl Tryz.func58 (by kernel_rfl) rfl #[.string a1, .bool (t143.toList == ([117, 116, 102, 45, 49, 54, 98, 101] : List UInt8))] rfl (by (try simp only [List.map_toArray, List.map_cons, List.map_nil]); first | done | rfl | (simp only [List.length_drop, List.length_take]; rfl)) ?_; (with_reducible refine (muslinref04_units.calls kj25 a1 (t143.toList == ([117, 116, 102, 45, 49, 54, 98, 101] : List UInt8)) t154 t155 _ A30.out).mono ?_); rintro e w31 ⟨v156, rfl, ho0, hb⟩; refine ⟨_, rfl, ?_⟩; have n0_ := Aside0.mk (Kd.R_below (by (with_reducible repeat (first | apply Kd.R_alloc | apply Kd.R_drewN | apply Kd.R_drew)); exact HO_8.out) hb); have n1_ := Aside0.mk (Kd.R_lower ho0 (below_size (by repeat (first | (with_reducible first | exact HB.out | apply below_alloc | apply pw_below_drewN | apply below_drew1) | exact HB.out)))); have n2_ := Aside0.mk (below_step (by repeat (first | (with_reducible first | exact HB.out | apply below_alloc | apply pw_below_drewN | apply below_drew1) | exact HB.out)) hb); clear HO_8; clear HB; have HO_8 := n0_; have HO157 := n1_; have HB := n2_; clear n0_ n1_ n2_; (try clear hb); (try clear hb2); (try clear hk); (try clear hi); (try clear ho0)))
      go_loopg [8, 13] kj25 (fun kq v8 v13 w' => ∃ (x8_2 : List Int) (x13_2 : Int), v13 = .int .i64 x13_2 ∧ Aside0 (muslinref04_Decode.l1 kq x8_2 t154 t155 x13_2 = some (r1, r2)) ∧ Aside0 (kq ≤ kj25) ∧ Aside0 (Kd.R (Kd.int .u8) 5 w' w.heap.size (fun _ => True) v8 x8_2) ∧ Aside0 (Kd.R (Kd.int .i64) 3 w' w.heap.size (fun _ => True) v156 t154) ∧ Aside0 (Below w.heap.size w w'))
      case atStart => exact ⟨(([] : List Int)), (0), (by first | rfl | (simp; done) | (simp [*]; done)), H', ⟨Nat.le_refl _⟩, ⟨by (with_reducible repeat (first | apply Kd.R_alloc | apply Kd.R_drewN | apply Kd.R_drew)); exact HO_8.out⟩, ⟨by (with_reducible repeat (first | apply Kd.R_alloc | apply Kd.R_drewN | apply Kd.R_drew)); exact HO157.out⟩, ⟨by repeat (first | (with_reducible first | exact HB.out | apply below_alloc | apply pw_below_drewN | apply below_drew1) | exact HB.out)⟩⟩
      case round =>
        clear H'; (try clear c1); (try clear p1); (try clear q1); (try clear hx1); (try clear c2); (try clear p2); (try clear hcv2); (try clear c4); (try clear c4b0); (try clear c4b1); (try clear c5); (try clear c6); (try clear c6b0); (try clear p6); (try clear c7); (try clear c7b0); (try clear p8); (try clear q8); (try clear hx8); (try clear c10); (try clear c10b0); (try clear c11); (try clear c12); (try clear c12b0); (try clear c13); (try clear c13b0); (try clear p14); (try clear q14); (try clear hx14); (try clear c17); (try clear c22); (try clear hcv25); (try clear c28); (try clear c28b0); (try clear c28b1); (try clear c29); (try clear p1); (try clear p14); (try clear p2); (try clear p6); (try clear p8); (try clear q1); (try clear q14); (try clear q8); obtain ⟨x8_2, x13_2, rfl, HA, HK2, HO_8, HO_11, HB⟩ := hrel
        cases gk with
        | zero => exact absurd HA.out (by simp [muslinref04_Decode.l1])
        | succ k2 =>
          have H := HA.out; clear HA; simp only [muslinref04_Decode.l1] at H
          by_cases c32 : x13_2 < (t154.length : Int)
          case neg =>
            rw [if_neg c32] at H; have c32b0 : decide (x13_2 < (t154.length : Int)) = false := decide_eq_false c32; clear c32
            by_cases c59 : t155 = true
            case neg =>
              replace c59 := Bool.eq_false_iff.mpr c59; subst c59
              have H1 : (some (strOfNums x8_2, true)) = some (r1, r2) := by rw [if_neg (show ¬ (false = true) by decide)] at H; exact H
              clear H; have H := H1; clear H1; simp only [Option.some.injEq, Prod.mk.injEq] at H; obtain ⟨rfl, rfl⟩ := H; obtain ⟨Ao64, co64, eo64⟩ := Kd.R_slice HO_11.out; subst eo64; have hcv65 := own_string (P := Tryz.prog) Tryz.underlying29 Tryz.underlying5 Tryz.underlying9 (Kd.own_of_R HO_8.out)
              go_wp2
              go_ret2
              exact ⟨by first | rfl | (simp [errW_none, errW_some] <;> rfl) | (simp [*, errW_none, errW_some] <;> rfl), by repeat (first | (with_reducible first | exact HB.out | apply below_alloc | apply pw_below_drewN | apply below_drew1) | exact HB.out)⟩
            subst c59
            have H1 : (if x8_2.length + 3 < 140737488355328 then (some (strOfNums (x8_2 ++ bytesOf (⟨#[239, 191, 189]⟩ : ByteArray)), true)) else (none)) = some (r1, r2) := by rw [if_pos rfl] at H; exact H
            clear H; have H := H1; clear H1
            by_cases c60 : x8_2.length + 3 < 140737488355328
            case neg =>
              rw [if_neg c60] at H
              exact absurd H (by simp)
            rw [if_pos c60] at H; have LMc60 := Aside0.mk c60; clear c60; obtain ⟨y158, hy158⟩ : ∃ y_ : List Int, y_ = (x8_2 ++ bytesOf (⟨#[239, 191, 189]⟩ : ByteArray)) := ⟨_, rfl⟩
            replace H : (some (strOfNums y158, true)) = some (r1, r2) := by first | (rw [hy158]; with_reducible exact H) | (have H2_ := (Option.bind_some _ _).symm.trans H; rw [hy158]; with_reducible exact H2_) | (have H2_ := (Option.bind_some _ _).symm.trans H; with_reducible exact H2_) | with_reducible exact H | (rw [hy158]; exact H) | exact H
            have Ny158 := Aside0.mk hy158; clear hy158; simp only [Option.some.injEq, Prod.mk.injEq] at H; obtain ⟨rfl, rfl⟩ := H; obtain ⟨Ao61, co61, eo61⟩ := Kd.R_slice HO_11.out; subst eo61; go_wp2_with (first | (at_builtin; refine print_append_str (w0 := w) w.heap.size rfl (.tmp 126) _ 29 9 5 rfl Tryz.underlying29 Tryz.underlying9 info5 u8 x8_2 (⟨#[239, 191, 189]⟩ : ByteArray) rfl rfl ?aO ?aB ?aS ?aL ?_; (case aB => exact (by repeat (first | (with_reducible first | exact HB.out | apply below_alloc | apply pw_below_drewN | apply below_drew1) | exact HB.out))); (case aO => exact (Kd.own_of_R (by (with_reducible repeat (first | apply Kd.R_alloc | apply Kd.R_drewN | apply Kd.R_drew)); exact HO_8.out))); (case aS => exact (below_size (by repeat (first | (with_reducible first | exact HB.out | apply below_alloc | apply pw_below_drewN | apply below_drew1) | exact HB.out)))); (case aL => have := LMc60.out; first | omega | exact Nat.le_of_lt this); intro v159 w62 ho0 hb hg; have ho := Kd.R_of_own (h1 := fun _ => rfl) (ok := fun _ => True) ho0 (fun _ _ => trivial); clear ho0; have hat := True.intro; rw [← Ny158.out] at ho; change Kd.R (Kd.int .u8) 5 w62 w.heap.size (fun _ => True) v159 y158 at ho; have n0_ := Aside0.mk (Kd.R_over' (by (with_reducible repeat (first | apply Kd.R_alloc | apply Kd.R_drewN | apply Kd.R_drew)); exact HO_11.out) (Kd.R_typed (by (with_reducible repeat (first | apply Kd.R_alloc | apply Kd.R_drewN | apply Kd.R_drew)); exact HO_8.out)) (by decide) hg); have n1_ := Aside0.mk (hb); have n2_ := Aside0.mk (ho); clear HO_11; clear HB; clear HO_8; have HO_11 := n0_; have HB := n1_; have HO160 := n2_; clear n0_ n1_ n2_; clear ho hb hg hat; have hcv63 := own_string (P := Tryz.prog) Tryz.underlying29 Tryz.underlying5 Tryz.underlying9 (Kd.own_of_R HO160.out)))
            go_ret2
            exact ⟨by first | rfl | (simp [errW_none, errW_some] <;> rfl) | (simp [*, errW_none, errW_some] <;> rfl), by repeat (first | (with_reducible first | exact HB.out | apply below_alloc | apply pw_below_drewN | apply below_drew1) | exact HB.out)⟩
          rw [if_pos c32] at H; have c32b0 : decide (x13_2 < (t154.length : Int)) = true := decide_eq_true c32; clear c32; have HC33 := Aside0.mk H; clear H; obtain ⟨Ao34, co34, eo34⟩ := Kd.R_slice HO_11.out; subst eo34
          go_upto_region 19 with (fail)
          go_cut [98] (fun v98 wc => ∃ (kq : Nat) (x98_32 : Bool), v98 = .bool x98_32 ∧ Aside0 (muslinref04_Decode.j4 kq x8_2 t154 t155 x13_2 x98_32 = some (r1, r2)) ∧ Aside0 (kq ≤ k2) ∧ Aside0 (Kd.R (Kd.int .u8) 5 wc w.heap.size (fun _ => True) u8 x8_2) ∧ Aside0 (Kd.R (Kd.int .i64) 3 wc w.heap.size (fun _ => True) (.slice Ao34 t154.length co34) t154) ∧ Aside0 (Below w.heap.size w wc))
          case first =>
            have H := HC33.out; clear HC33
            by_cases c35 : 0 ≤ x13_2
            case neg =>
              rw [if_neg c35] at H
              exact absurd H (by simp)
            rw [if_pos c35] at H; have c35b0 : decide (0 ≤ x13_2) = true := decide_eq_true c35; clear c35
            (first | rw [c35b0] | (simp only [i64_w, i32_w]; rw [c35b0]) | skip)
            by_cases c36 : (rd t154 x13_2) ≥ 55296
            case neg =>
              rw [if_neg c36] at H; have c36b0 : decide (55296 ≤ (rd t154 x13_2)) = false := decide_eq_false c36; clear c36; have H' := Aside0.mk H; clear H; have p161 : 0 ≤ (x13_2 : Int) := of_decide_eq_true (by first | (with_reducible assumption) | assumption); have q161 : x13_2 < (t154.length : Int) := of_decide_eq_true (by first | (with_reducible assumption) | assumption); obtain ⟨ad161, e161, hx161_0⟩ := Kd.at_int (Kd.R_reads' HO_11.out).2.2 x13_2 p161 q161; cases e161; replace p161 := eq_true p161; replace q161 := eq_true q161
              go_wp2
              go_meet
              case rel => exact ⟨_, (false), (by first | rfl | (simp; done) | (simp [*]; done)), H', ⟨by have := HJ25.out; have := HK2.out; first | omega | exact Nat.le_refl _⟩, ⟨by (with_reducible repeat (first | apply Kd.R_alloc | apply Kd.R_drewN | apply Kd.R_drew)); exact HO_8.out⟩, ⟨by (with_reducible repeat (first | apply Kd.R_alloc | apply Kd.R_drewN | apply Kd.R_drew)); exact HO_11.out⟩, ⟨by repeat (first | (with_reducible first | exact HB.out | apply below_alloc | apply pw_below_drewN | apply below_drew1) | exact HB.out)⟩⟩
            rw [if_pos c36] at H; have c36b0 : decide (55296 ≤ (rd t154 x13_2)) = true := decide_eq_true c36; clear c36
            by_cases c37 : (rd t154 x13_2) ≤ 56319
            case neg =>
              rw [if_neg c37] at H; have c37b0 : decide ((rd t154 x13_2) ≤ 56319) = false := decide_eq_false c37; clear c37; have H' := Aside0.mk H; clear H; have p161 : 0 ≤ (x13_2 : Int) := of_decide_eq_true (by first | (with_reducible assumption) | assumption); have q161 : x13_2 < (t154.length : Int) := of_decide_eq_true (by first | (with_reducible assumption) | assumption); obtain ⟨ad161, e161, hx161_0⟩ := Kd.at_int (Kd.R_reads' HO_11.out).2.2 x13_2 p161 q161; cases e161; replace p161 := eq_true p161; replace q161 := eq_true q161; have p162 : 0 ≤ (x13_2 : Int) := of_decide_eq_true (by first | (with_reducible assumption) | assumption); have q162 : x13_2 < (t154.length : Int) := of_decide_eq_true (by first | (with_reducible assumption) | assumption); obtain ⟨ad162, e162, hx162_0⟩ := Kd.at_int (Kd.R_reads' HO_11.out).2.2 x13_2 p162 q162; obtain rfl : ad161 = ad162 := (by injection e162); replace p162 := eq_true p162; replace q162 := eq_true q162
              go_wp2
              go_meet
              case rel => exact ⟨_, (false), (by first | rfl | (simp; done) | (simp [*]; done)), H', ⟨by have := HJ25.out; have := HK2.out; first | omega | exact Nat.le_refl _⟩, ⟨by (with_reducible repeat (first | apply Kd.R_alloc | apply Kd.R_drewN | apply Kd.R_drew)); exact HO_8.out⟩, ⟨by (with_reducible repeat (first | apply Kd.R_alloc | apply Kd.R_drewN | apply Kd.R_drew)); exact HO_11.out⟩, ⟨by repeat (first | (with_reducible first | exact HB.out | apply below_alloc | apply pw_below_drewN | apply below_drew1) | exact HB.out)⟩⟩
            rw [if_pos c37] at H; have c37b0 : decide ((rd t154 x13_2) ≤ 56319) = true := decide_eq_true c37; clear c37
            by_cases c38 : (wrap64 (x13_2 + 1)) < (t154.length : Int)
            case neg =>
              rw [if_neg c38] at H; have c38b0 : decide ((wrap64 (x13_2 + 1)) < (t154.length : Int)) = false := decide_eq_false c38; clear c38; have H' := Aside0.mk H; clear H; have p161 : 0 ≤ (x13_2 : Int) := of_decide_eq_true (by first | (with_reducible assumption) | assumption); have q161 : x13_2 < (t154.length : Int) := of_decide_eq_true (by first | (with_reducible assumption) | assumption); obtain ⟨ad161, e161, hx161_0⟩ := Kd.at_int (Kd.R_reads' HO_11.out).2.2 x13_2 p161 q161; cases e161; replace p161 := eq_true p161; replace q161 := eq_true q161; have p162 : 0 ≤ (x13_2 : Int) := of_decide_eq_true (by first | (with_reducible assumption) | assumption); have q162 : x13_2 < (t154.length : Int) := of_decide_eq_true (by first | (with_reducible assumption) | assumption); obtain ⟨ad162, e162, hx162_0⟩ := Kd.at_int (Kd.R_reads' HO_11.out).2.2 x13_2 p162 q162; obtain rfl : ad161 = ad162 := (by injection e162); replace p162 := eq_true p162; replace q162 := eq_true q162
              go_wp2
              go_meet
              case rel => exact ⟨_, (false), (by first | rfl | (simp; done) | (simp [*]; done)), H', ⟨by have := HJ25.out; have := HK2.out; first | omega | exact Nat.le_refl _⟩, ⟨by (with_reducible repeat (first | apply Kd.R_alloc | apply Kd.R_drewN | apply Kd.R_drew)); exact HO_8.out⟩, ⟨by (with_reducible repeat (first | apply Kd.R_alloc | apply Kd.R_drewN | apply Kd.R_drew)); exact HO_11.out⟩, ⟨by repeat (first | (with_reducible first | exact HB.out | apply below_alloc | apply pw_below_drewN | apply below_drew1) | exact HB.out)⟩⟩
            rw [if_pos c38] at H; have c38b0 : decide ((wrap64 (x13_2 + 1)) < (t154.length : Int)) = true := decide_eq_true c38; clear c38; obtain ⟨ji39, hji39⟩ : ∃ j_ : Int, (wrap64 (x13_2 + 1)) = j_ := ⟨_, rfl⟩
            replace H : (if 0 ≤ (ji39) then (if (rd t154 (ji39)) ≥ 56320 then (muslinref04_Decode.j4 k2 x8_2 t154 t155 x13_2 (decide ((rd t154 (ji39)) ≤ 57343))) else (muslinref04_Decode.j4 k2 x8_2 t154 t155 x13_2 false)) else (none)) = some (r1, r2) := by first | (rw [hji39] at H; exact H) | (simp only [hji39] at H ⊢; exact H)
            (try rw [hji39] at c38b0)
            have hji39w : (IntKind.i64.wrap (x13_2 + 1)) = ji39 := (i64_w _).trans hji39
            by_cases c40 : 0 ≤ (ji39)
            case neg =>
              rw [if_neg c40] at H
              exact absurd H (by simp)
            rw [if_pos c40] at H; have c40b0 : decide (0 ≤ (ji39)) = true := decide_eq_true c40; clear c40
            by_cases c41 : (rd t154 (ji39)) ≥ 56320
            case neg =>
              rw [if_neg c41] at H; have c41b0 : decide (56320 ≤ (rd t154 (ji39))) = false := decide_eq_false c41; clear c41; have H' := Aside0.mk H; clear H; have p161 : 0 ≤ (x13_2 : Int) := of_decide_eq_true (by first | (with_reducible assumption) | assumption); have q161 : x13_2 < (t154.length : Int) := of_decide_eq_true (by first | (with_reducible assumption) | assumption); obtain ⟨ad161, e161, hx161_0⟩ := Kd.at_int (Kd.R_reads' HO_11.out).2.2 x13_2 p161 q161; cases e161; replace p161 := eq_true p161; replace q161 := eq_true q161; have p162 : 0 ≤ (x13_2 : Int) := of_decide_eq_true (by first | (with_reducible assumption) | assumption); have q162 : x13_2 < (t154.length : Int) := of_decide_eq_true (by first | (with_reducible assumption) | assumption); obtain ⟨ad162, e162, hx162_0⟩ := Kd.at_int (Kd.R_reads' HO_11.out).2.2 x13_2 p162 q162; obtain rfl : ad161 = ad162 := (by injection e162); replace p162 := eq_true p162; replace q162 := eq_true q162; have p163 : 0 ≤ ((ji39) : Int) := of_decide_eq_true (by first | (with_reducible assumption) | assumption); have q163 : (ji39) < (t154.length : Int) := of_decide_eq_true (by first | (with_reducible assumption) | assumption); obtain ⟨ad163, e163, hx163_0⟩ := Kd.at_int (Kd.R_reads' HO_11.out).2.2 (ji39) p163 q163; obtain rfl : ad161 = ad163 := (by injection e163); replace p163 := eq_true p163; replace q163 := eq_true q163
              go_wp2
              go_meet
              case rel => exact ⟨_, (false), (by first | rfl | (simp; done) | (simp [*]; done)), H', ⟨by have := HJ25.out; have := HK2.out; first | omega | exact Nat.le_refl _⟩, ⟨by (with_reducible repeat (first | apply Kd.R_alloc | apply Kd.R_drewN | apply Kd.R_drew)); exact HO_8.out⟩, ⟨by (with_reducible repeat (first | apply Kd.R_alloc | apply Kd.R_drewN | apply Kd.R_drew)); exact HO_11.out⟩, ⟨by repeat (first | (with_reducible first | exact HB.out | apply below_alloc | apply pw_below_drewN | apply below_drew1) | exact HB.out)⟩⟩
            rw [if_pos c41] at H; have c41b0 : decide (56320 ≤ (rd t154 (ji39))) = true := decide_eq_true c41; clear c41; have H' := Aside0.mk H; clear H; have p161 : 0 ≤ (x13_2 : Int) := of_decide_eq_true (by first | (with_reducible assumption) | assumption); have q161 : x13_2 < (t154.length : Int) := of_decide_eq_true (by first | (with_reducible assumption) | assumption); obtain ⟨ad161, e161, hx161_0⟩ := Kd.at_int (Kd.R_reads' HO_11.out).2.2 x13_2 p161 q161; cases e161; replace p161 := eq_true p161; replace q161 := eq_true q161; have p162 : 0 ≤ (x13_2 : Int) := of_decide_eq_true (by first | (with_reducible assumption) | assumption); have q162 : x13_2 < (t154.length : Int) := of_decide_eq_true (by first | (with_reducible assumption) | assumption); obtain ⟨ad162, e162, hx162_0⟩ := Kd.at_int (Kd.R_reads' HO_11.out).2.2 x13_2 p162 q162; obtain rfl : ad161 = ad162 := (by injection e162); replace p162 := eq_true p162; replace q162 := eq_true q162; have p163 : 0 ≤ ((ji39) : Int) := of_decide_eq_true (by first | (with_reducible assumption) | assumption); have q163 : (ji39) < (t154.length : Int) := of_decide_eq_true (by first | (with_reducible assumption) | assumption); obtain ⟨ad163, e163, hx163_0⟩ := Kd.at_int (Kd.R_reads' HO_11.out).2.2 (ji39) p163 q163; obtain rfl : ad161 = ad163 := (by injection e163); replace p163 := eq_true p163; replace q163 := eq_true q163; have p164 : 0 ≤ ((ji39) : Int) := of_decide_eq_true (by first | (with_reducible assumption) | assumption); have q164 : (ji39) < (t154.length : Int) := of_decide_eq_true (by first | (with_reducible assumption) | assumption); obtain ⟨ad164, e164, hx164_0⟩ := Kd.at_int (Kd.R_reads' HO_11.out).2.2 (ji39) p164 q164; obtain rfl : ad161 = ad164 := (by injection e164); replace p164 := eq_true p164; replace q164 := eq_true q164
            go_wp2
            go_meet
            case rel => exact ⟨_, (decide ((rd t154 (ji39)) ≤ 57343)), (by first | rfl | (simp; done) | (simp only [← hji39] <;> (first | rfl | (simp; done) | (simp; simp only [hji39]; exact beq_iff_eq.1 (by assumption)))) | (simp [*]; done)), H', ⟨by have := HJ25.out; have := HK2.out; first | omega | exact Nat.le_refl _⟩, ⟨by (with_reducible repeat (first | apply Kd.R_alloc | apply Kd.R_drewN | apply Kd.R_drew)); exact HO_8.out⟩, ⟨by (with_reducible repeat (first | apply Kd.R_alloc | apply Kd.R_drewN | apply Kd.R_drew)); exact HO_11.out⟩, ⟨by repeat (first | (with_reducible first | exact HB.out | apply below_alloc | apply pw_below_drewN | apply below_drew1) | exact HB.out)⟩⟩
          case rest =>
            clear HC33; (try clear c1); (try clear p1); (try clear q1); (try clear hx1); (try clear c2); (try clear p2); (try clear hcv2); (try clear c3); (try clear c4); (try clear c4b0); (try clear c4b1); (try clear c5); (try clear c6); (try clear c6b0); (try clear p6); (try clear c7); (try clear c7b0); (try clear p8); (try clear q8); (try clear hx8); (try clear c10); (try clear c10b0); (try clear c11); (try clear c12); (try clear c12b0); (try clear c13); (try clear c13b0); (try clear p14); (try clear q14); (try clear hx14); (try clear p16); (try clear q16); (try clear hx16); (try clear c17); (try clear c22); (try clear hcv25); (try clear c28); (try clear c28b0); (try clear c28b1); (try clear c29); (try clear c32); (try clear c32b0); (try clear c35); (try clear c35b0); (try clear c36); (try clear c36b0); (try clear c37); (try clear c37b0); (try clear c38); (try clear c38b0); (try clear c40); (try clear c40b0); (try clear c41); (try clear c41b0); (try clear hx161_0); (try clear hx162_0); (try clear hx163_0); (try clear hx164_0); (try clear p1); (try clear p14); (try clear p161); (try clear p162); (try clear p163); (try clear p164); (try clear p2); (try clear p6); (try clear p8); (try clear q1); (try clear q14); (try clear q161); (try clear q162); (try clear q163); (try clear q164); (try clear q8); obtain ⟨kq, x98_32, rfl, HA, HJ32, HO_8, HO_11, HB⟩ := hcut
            cases kq with
            | zero => exact absurd HA.out (by simp [muslinref04_Decode.j4])
            | succ kj32 =>
              have H := HA.out; clear HA; simp only [muslinref04_Decode.j4] at H
              by_cases c42 : x98_32 = true
              case neg =>
                replace c42 := Bool.eq_false_iff.mpr c42; subst c42
                have H1 : (if 0 ≤ x13_2 then (if x13_2 < (t154.length : Int) then ((muslinref04_Sign.f kj32 (rd t154 x13_2)).bind fun t172 => (if x8_2.length + t172.size < 140737488355328 then (muslinref04_Decode.l1 kj32 (x8_2 ++ bytesOf t172) t154 t155 (wrap64 (x13_2 + 1))) else (none))) else (none)) else (none)) = some (r1, r2) := by rw [if_neg (show ¬ (false = true) by decide)] at H; exact H
                clear H; have H := H1; clear H1
                by_cases c53 : 0 ≤ x13_2
                case neg =>
                  rw [if_neg c53] at H
                  exact absurd H (by simp)
                rw [if_pos c53] at H; have c53b0 : decide (0 ≤ x13_2) = true := decide_eq_true c53; clear c53
                by_cases c54 : x13_2 < (t154.length : Int)
                case neg =>
                  rw [if_neg c54] at H
                  exact absurd H (by simp)
                rw [if_pos c54] at H; have c54b0 : decide (x13_2 < (t154.length : Int)) = true := decide_eq_true c54; clear c54; replace H := Option.bind_eq_some_iff.mp H; obtain ⟨t172, A550, H⟩ := H; replace H : (if x8_2.length + t172.size < 140737488355328 then (muslinref04_Decode.l1 kj32 (x8_2 ++ bytesOf t172) t154 t155 (wrap64 (x13_2 + 1))) else (none)) = some (r1, r2) := H; have A55 := Aside0.mk A550; clear A550
                by_cases c56 : x8_2.length + t172.size < 140737488355328
                case neg =>
                  rw [if_neg c56] at H
                  exact absurd H (by simp)
                rw [if_pos c56] at H; have LMc56 := Aside0.mk c56; clear c56; obtain ⟨y173, hy173⟩ : ∃ y_ : List Int, y_ = (x8_2 ++ bytesOf t172) := ⟨_, rfl⟩
                replace H : (muslinref04_Decode.l1 kj32 y173 t154 t155 (wrap64 (x13_2 + 1))) = some (r1, r2) := by first | (rw [hy173]; with_reducible exact H) | (have H2_ := (Option.bind_some _ _).symm.trans H; rw [hy173]; with_reducible exact H2_) | (have H2_ := (Option.bind_some _ _).symm.trans H; with_reducible exact H2_) | with_reducible exact H | (rw [hy173]; exact H) | exact H
                have Ny173 := Aside0.mk hy173; clear hy173; have H' := Aside0.mk H; clear H; have p171 : 0 ≤ (x13_2 : Int) := of_decide_eq_true (by first | (with_reducible assumption) | assumption); have q171 : x13_2 < (t154.length : Int) := of_decide_eq_true (by first | (with_reducible assumption) | assumption); obtain ⟨ad171, e171, hx171_0⟩ := Kd.at_int (Kd.R_reads' HO_11.out).2.2 x13_2 p171 q171; cases e171; replace p171 := eq_true p171; replace q171 := eq_true q171; go_wp2_with (first | ((with_reducible refine gate_callee (f := 43) rfl ?_); refine goesL_ (some 123) rfl rfl Tryz.func43 (by kernel_rfl) rfl #[.int .i64 (rd t154 x13_2)] rfl (by (try simp only [List.map_toArray, List.map_cons, List.map_nil]); first | done | rfl | (simp only [List.length_drop, List.length_take]; rfl)) ?_; (with_reducible refine (muslinref04_Sign.calls kj32 (rd t154 x13_2) t172 _ A55.out).mono ?_); rintro e w57 ⟨rfl, hb⟩; refine ⟨_, rfl, ?_⟩; have n0_ := Aside0.mk (Kd.R_below (by (with_reducible repeat (first | apply Kd.R_alloc | apply Kd.R_drewN | apply Kd.R_drew)); exact HO_8.out) hb); have n1_ := Aside0.mk (Kd.R_below (by (with_reducible repeat (first | apply Kd.R_alloc | apply Kd.R_drewN | apply Kd.R_drew)); exact HO_11.out) hb); have n2_ := Aside0.mk (below_step (by repeat (first | (with_reducible first | exact HB.out | apply below_alloc | apply pw_below_drewN | apply below_drew1) | exact HB.out)) hb); clear HO_8; clear HO_11; clear HB; have HO_8 := n0_; have HO_11 := n1_; have HB := n2_; clear n0_ n1_ n2_; (try clear hb); (try clear hb2); (try clear hk); (try clear hi)) | (at_builtin; refine print_append_str (w0 := w) w.heap.size rfl (.tmp 118) _ 29 9 5 rfl Tryz.underlying29 Tryz.underlying9 info5 u8 x8_2 t172 rfl rfl ?aO ?aB ?aS ?aL ?_; (case aB => exact (by repeat (first | (with_reducible first | exact HB.out | apply below_alloc | apply pw_below_drewN | apply below_drew1) | exact HB.out))); (case aO => exact (Kd.own_of_R (by (with_reducible repeat (first | apply Kd.R_alloc | apply Kd.R_drewN | apply Kd.R_drew)); exact HO_8.out))); (case aS => exact (below_size (by repeat (first | (with_reducible first | exact HB.out | apply below_alloc | apply pw_below_drewN | apply below_drew1) | exact HB.out)))); (case aL => have := LMc56.out; first | omega | exact Nat.le_of_lt this); intro v174 w58 ho0 hb hg; have ho := Kd.R_of_own (h1 := fun _ => rfl) (ok := fun _ => True) ho0 (fun _ _ => trivial); clear ho0; have hat := True.intro; rw [← Ny173.out] at ho; change Kd.R (Kd.int .u8) 5 w58 w.heap.size (fun _ => True) v174 y173 at ho; have n0_ := Aside0.mk (Kd.R_over' (by (with_reducible repeat (first | apply Kd.R_alloc | apply Kd.R_drewN | apply Kd.R_drew)); exact HO_11.out) (Kd.R_typed (by (with_reducible repeat (first | apply Kd.R_alloc | apply Kd.R_drewN | apply Kd.R_drew)); exact HO_8.out)) (by decide) hg); have n1_ := Aside0.mk (hb); have n2_ := Aside0.mk (ho); clear HO_11; clear HB; clear HO_8; have HO_11 := n0_; have HB := n1_; have HO175 := n2_; clear n0_ n1_ n2_; clear ho hb hg hat))
                go_roundg kj32
                case measure => have := HJ25.out; have := HK2.out; have := HJ32.out; omega
                case rel => exact ⟨(y173), (wrap64 (x13_2 + 1)), (by first | rfl | (simp; done) | (simp [*]; done)), H', ⟨by have := HJ25.out; have := HK2.out; have := HJ32.out; omega⟩, ⟨by (with_reducible repeat (first | apply Kd.R_alloc | apply Kd.R_drewN | apply Kd.R_drew)); exact HO175.out⟩, ⟨by (with_reducible repeat (first | apply Kd.R_alloc | apply Kd.R_drewN | apply Kd.R_drew)); exact HO_11.out⟩, ⟨by repeat (first | (with_reducible first | exact HB.out | apply below_alloc | apply pw_below_drewN | apply below_drew1) | exact HB.out)⟩⟩
              subst c42
              have H1 : (if 0 ≤ x13_2 then (if x13_2 < (t154.length : Int) then (if 0 ≤ (wrap64 (x13_2 + 1)) then (if (wrap64 (x13_2 + 1)) < (t154.length : Int) then ((muslinref04_Sign.f kj32 (wrap64 ((wrap64 ((wrap64 (65536 + (wrap64 (1024 * (wrap64 ((rd t154 x13_2) - 55296)))))) + (rd t154 (wrap64 (x13_2 + 1))))) - 56320))).bind fun t167 => (if x8_2.length + t167.size < 140737488355328 then (muslinref04_Decode.l1 kj32 (x8_2 ++ bytesOf t167) t154 t155 (wrap64 ((wrap64 (x13_2 + 1)) + 1))) else (none))) else (none)) else (none)) else (none)) else (none)) = some (r1, r2) := by rw [if_pos rfl] at H; exact H
              clear H; have H := H1; clear H1
              by_cases c43 : 0 ≤ x13_2
              case neg =>
                rw [if_neg c43] at H
                exact absurd H (by simp)
              rw [if_pos c43] at H; have c43b0 : decide (0 ≤ x13_2) = true := decide_eq_true c43; clear c43
              by_cases c44 : x13_2 < (t154.length : Int)
              case neg =>
                rw [if_neg c44] at H
                exact absurd H (by simp)
              rw [if_pos c44] at H; have c44b0 : decide (x13_2 < (t154.length : Int)) = true := decide_eq_true c44; clear c44; obtain ⟨ji45, hji45⟩ : ∃ j_ : Int, (wrap64 (x13_2 + 1)) = j_ := ⟨_, rfl⟩
              replace H : (if 0 ≤ (ji45) then (if (ji45) < (t154.length : Int) then ((muslinref04_Sign.f kj32 (wrap64 ((wrap64 ((wrap64 (65536 + (wrap64 (1024 * (wrap64 ((rd t154 x13_2) - 55296)))))) + (rd t154 (ji45)))) - 56320))).bind fun t167 => (if x8_2.length + t167.size < 140737488355328 then (muslinref04_Decode.l1 kj32 (x8_2 ++ bytesOf t167) t154 t155 (wrap64 ((ji45) + 1))) else (none))) else (none)) else (none)) = some (r1, r2) := by first | (rw [hji45] at H; exact H) | (simp only [hji45] at H ⊢; exact H)
              have hji45w : (IntKind.i64.wrap (x13_2 + 1)) = ji45 := (i64_w _).trans hji45
              by_cases c46 : 0 ≤ (ji45)
              case neg =>
                rw [if_neg c46] at H
                exact absurd H (by simp)
              rw [if_pos c46] at H; have c46b0 : decide (0 ≤ (ji45)) = true := decide_eq_true c46; clear c46
              by_cases c47 : (ji45) < (t154.length : Int)
              case neg =>
                rw [if_neg c47] at H
                exact absurd H (by simp)
              rw [if_pos c47] at H; have c47b0 : decide ((ji45) < (t154.length : Int)) = true := decide_eq_true c47; clear c47; replace H := Option.bind_eq_some_iff.mp H; obtain ⟨t167, A480, H⟩ := H; replace H : (if x8_2.length + t167.size < 140737488355328 then (muslinref04_Decode.l1 kj32 (x8_2 ++ bytesOf t167) t154 t155 (wrap64 ((ji45) + 1))) else (none)) = some (r1, r2) := H; have A48 := Aside0.mk A480; clear A480
              by_cases c49 : x8_2.length + t167.size < 140737488355328
              case neg =>
                rw [if_neg c49] at H
                exact absurd H (by simp)
              rw [if_pos c49] at H; have LMc49 := Aside0.mk c49; clear c49; obtain ⟨y168, hy168⟩ : ∃ y_ : List Int, y_ = (x8_2 ++ bytesOf t167) := ⟨_, rfl⟩
              replace H : (muslinref04_Decode.l1 kj32 y168 t154 t155 (wrap64 ((ji45) + 1))) = some (r1, r2) := by first | (rw [hy168]; with_reducible exact H) | (have H2_ := (Option.bind_some _ _).symm.trans H; rw [hy168]; with_reducible exact H2_) | (have H2_ := (Option.bind_some _ _).symm.trans H; with_reducible exact H2_) | with_reducible exact H | (rw [hy168]; exact H) | exact H
              have Ny168 := Aside0.mk hy168; clear hy168; have H' := Aside0.mk H; clear H
              try go_wp2
              have n0_ := Aside0.mk (Kd.R_drew HO_8.out); have n1_ := Aside0.mk (Kd.R_drew HO_11.out); have n2_ := Aside0.mk (below_drew1 HB.out); clear HO_8; clear HO_11; clear HB; have HO_8 := n0_; have HO_11 := n1_; have HB := n2_; clear n0_ n1_ n2_; have p165 : 0 ≤ (x13_2 : Int) := of_decide_eq_true (by first | (with_reducible assumption) | assumption); have q165 : x13_2 < (t154.length : Int) := of_decide_eq_true (by first | (with_reducible assumption) | assumption); obtain ⟨ad165, e165, hx165_0⟩ := Kd.at_int (Kd.R_reads' HO_11.out).2.2 x13_2 p165 q165; cases e165; replace p165 := eq_true p165; replace q165 := eq_true q165; have p166 : 0 ≤ ((ji45) : Int) := of_decide_eq_true (by first | (with_reducible assumption) | assumption); have q166 : (ji45) < (t154.length : Int) := of_decide_eq_true (by first | (with_reducible assumption) | assumption); obtain ⟨ad166, e166, hx166_0⟩ := Kd.at_int (Kd.R_reads' HO_11.out).2.2 (ji45) p166 q166; obtain rfl : ad165 = ad166 := (by injection e166); replace p166 := eq_true p166; replace q166 := eq_true q166
              refine start_ (n := 18) (S := fun w' => w'.cell? (ad165.add (x13_2).toNat) = some (.int .i64 (rd t154 x13_2)) ∧ w'.cell? (ad165.add ((ji45)).toNat) = some (.int .i64 (rd t154 (ji45)))) (ds := [16]) #[false, false, false, false, false, false, false, false, false, false, false, false, false, false, false, false, false, false] (by kernel_rfl) rfl rfl ⟨hx165_0, hx166_0⟩ (fun hHeld => ?_); refine with_tabW muslinref04_Decode.tab20 muslinref04_Decode.bits20 (fun HT_ HW_ => ?_)
              generalize wc.drew = w50 at HO_8 HO_11 HB hx165_0 hx166_0 hHeld ⊢
              refine pure_ (i := 0) (N := some 99) (v := ?_) (a' := ?_) #[true, false, false, false, false, false, false, false, false, false, false, false, false, false, false, false, false, false] rfl rfl (any_of HT_.out (by kernel_rfl)) (fun _ _ _ h => h) (Or.inl ⟨by rfl, ?_⟩) ?_ ?_
              rotate_left
              · intro w'
                go_simp
                with_reducible rfl
              rotate_left
              · simp only [Act.put, List.setIfInBounds_toArray, List.set_cons_zero, List.set_cons_succ, i64_w, i32_w]
                rfl
              refine pure_ (i := 1) (N := some 100) (v := ?_) (a' := ?_) #[true, true, false, false, false, false, false, false, false, false, false, false, false, false, false, false, false, false] rfl rfl (any_of HT_.out (by kernel_rfl)) (fun _ _ _ h => h) (Or.inl ⟨by rfl, ?_⟩) ?_ ?_
              rotate_left
              · intro w'
                go_simp
                with_reducible rfl
              rotate_left
              · simp only [Act.put, List.setIfInBounds_toArray, List.set_cons_zero, List.set_cons_succ, i64_w, i32_w]
                rfl
              refine pure_ (i := 2) (N := some 101) (v := ?_) (a' := ?_) #[true, true, true, false, false, false, false, false, false, false, false, false, false, false, false, false, false, false] rfl rfl (any_of HT_.out (by kernel_rfl)) (fun _ _ _ h => h) (Or.inl ⟨by rfl, ?_⟩) ?_ ?_
              rotate_left
              · intro w'
                go_simp
                with_reducible rfl
              rotate_left
              · simp only [Act.put, List.setIfInBounds_toArray, List.set_cons_zero, List.set_cons_succ, i64_w, i32_w]
                rfl
              refine pure_ (i := 3) (N := some 102) (v := ?_) (a' := ?_) #[true, true, true, true, false, false, false, false, false, false, false, false, false, false, false, false, false, false] rfl rfl (any_of HT_.out (by kernel_rfl)) (fun _ _ _ h => h) (Or.inl ⟨by rfl, ?_⟩) ?_ ?_
              rotate_left
              · intro w'
                go_simp
                with_reducible rfl
              rotate_left
              · simp only [Act.put, List.setIfInBounds_toArray, List.set_cons_zero, List.set_cons_succ, i64_w, i32_w]
                rfl
              refine pure_ (i := 8) (N := some 107) (v := ?_) (a' := ?_) #[true, true, true, true, false, false, false, false, true, false, false, false, false, false, false, false, false, false] rfl rfl (any_of HT_.out (by kernel_rfl)) (fun _ _ _ h => h) (Or.inl ⟨by rfl, ?_⟩) ?_ ?_
              rotate_left
              · intro w'
                go_simp
                with_reducible rfl
              rotate_left
              · simp only [Act.put, List.setIfInBounds_toArray, List.set_cons_zero, List.set_cons_succ, i64_w, i32_w]
                rfl
              refine pure_ (i := 9) (N := some 108) (v := ?_) (a' := ?_) #[true, true, true, true, false, false, false, false, true, true, false, false, false, false, false, false, false, false] rfl rfl (any_of HT_.out (by kernel_rfl)) (fun _ _ _ h => h) (Or.inl ⟨by rfl, ?_⟩) ?_ ?_
              rotate_left
              · intro w'
                go_simp
                with_reducible rfl
              rotate_left
              · simp only [Act.put, List.setIfInBounds_toArray, List.set_cons_zero, List.set_cons_succ, i64_w, i32_w]
                rfl
              refine pure_ (i := 10) (N := some 109) (v := ?_) (a' := ?_) #[true, true, true, true, false, false, false, false, true, true, true, false, false, false, false, false, false, false] rfl rfl (any_of HT_.out (by kernel_rfl)) (fun _ _ _ h => h) (Or.inl ⟨by rfl, ?_⟩) ?_ ?_
              rotate_left
              · intro w'
                go_simp
                with_reducible rfl
              rotate_left
              · simp only [Act.put, List.setIfInBounds_toArray, List.set_cons_zero, List.set_cons_succ, i64_w, i32_w]
                rfl
              refine pure_ (i := 11) (N := some 110) (v := ?_) (a' := ?_) #[true, true, true, true, false, false, false, false, true, true, true, true, false, false, false, false, false, false] rfl rfl (any_of HT_.out (by kernel_rfl)) (fun _ _ _ h => h) (Or.inl ⟨by rfl, ?_⟩) ?_ ?_
              rotate_left
              · intro w'
                go_simp
                with_reducible rfl
              rotate_left
              · simp only [Act.put, List.setIfInBounds_toArray, List.set_cons_zero, List.set_cons_succ, i64_w, i32_w]
                rfl
              refine take_ (i := 4) (N := some 103) (v := ?_) (a' := ?_) #[true, true, true, true, true, false, false, false, true, true, true, true, false, false, false, false, false, false] rfl rfl (take_ofW HT_.out HW_.out (by kernel_rfl)) (fun _ _ _ h => h) (Or.inl ⟨by rfl, ?_⟩) hHeld ?_ ?_
              rotate_left
              · rintro w' ⟨s0, s1⟩
                go_simp
                with_reducible rfl
              rotate_left
              · simp only [Act.put, List.setIfInBounds_toArray, List.set_cons_zero, List.set_cons_succ, i64_w, i32_w]
                rfl
              refine pure_ (i := 5) (N := some 104) (v := ?_) (a' := ?_) #[true, true, true, true, true, true, false, false, true, true, true, true, false, false, false, false, false, false] rfl rfl (any_of HT_.out (by kernel_rfl)) (fun _ _ _ h => h) (Or.inl ⟨by rfl, ?_⟩) ?_ ?_
              rotate_left
              · intro w'
                go_simp
                with_reducible rfl
              rotate_left
              · simp only [Act.put, List.setIfInBounds_toArray, List.set_cons_zero, List.set_cons_succ, i64_w, i32_w]
                rfl
              refine pure_ (i := 6) (N := some 105) (v := ?_) (a' := ?_) #[true, true, true, true, true, true, true, false, true, true, true, true, false, false, false, false, false, false] rfl rfl (any_of HT_.out (by kernel_rfl)) (fun _ _ _ h => h) (Or.inl ⟨by rfl, ?_⟩) ?_ ?_
              rotate_left
              · intro w'
                go_simp
                with_reducible rfl
              rotate_left
              · simp only [Act.put, List.setIfInBounds_toArray, List.set_cons_zero, List.set_cons_succ, i64_w, i32_w]
                rfl
              refine pure_ (i := 7) (N := some 106) (v := ?_) (a' := ?_) #[true, true, true, true, true, true, true, true, true, true, true, true, false, false, false, false, false, false] rfl rfl (any_of HT_.out (by kernel_rfl)) (fun _ _ _ h => h) (Or.inl ⟨by rfl, ?_⟩) ?_ ?_
              rotate_left
              · intro w'
                go_simp
                with_reducible rfl
              rotate_left
              · simp only [Act.put, List.setIfInBounds_toArray, List.set_cons_zero, List.set_cons_succ, i64_w, i32_w]
                rfl
              refine take_ (i := 12) (N := some 111) (v := ?_) (a' := ?_) #[true, true, true, true, true, true, true, true, true, true, true, true, true, false, false, false, false, false] rfl rfl (take_ofW HT_.out HW_.out (by kernel_rfl)) (fun _ _ _ h => h) (Or.inl ⟨by rfl, ?_⟩) hHeld ?_ ?_
              rotate_left
              · rintro w' ⟨s0, s1⟩
                go_simp
                with_reducible rfl
              rotate_left
              · simp only [Act.put, List.setIfInBounds_toArray, List.set_cons_zero, List.set_cons_succ, i64_w, i32_w]
                rfl
              refine pure_ (i := 13) (N := some 112) (v := ?_) (a' := ?_) #[true, true, true, true, true, true, true, true, true, true, true, true, true, true, false, false, false, false] rfl rfl (any_of HT_.out (by kernel_rfl)) (fun _ _ _ h => h) (Or.inl ⟨by rfl, ?_⟩) ?_ ?_
              rotate_left
              · intro w'
                go_simp
                with_reducible rfl
              rotate_left
              · simp only [Act.put, List.setIfInBounds_toArray, List.set_cons_zero, List.set_cons_succ, i64_w, i32_w]
                rfl
              refine pure_ (i := 14) (N := some 113) (v := ?_) (a' := ?_) #[true, true, true, true, true, true, true, true, true, true, true, true, true, true, true, false, false, false] rfl rfl (any_of HT_.out (by kernel_rfl)) (fun _ _ _ h => h) (Or.inl ⟨by rfl, ?_⟩) ?_ ?_
              rotate_left
              · intro w'
                go_simp
                with_reducible rfl
              rotate_left
              · simp only [Act.put, List.setIfInBounds_toArray, List.set_cons_zero, List.set_cons_succ, i64_w, i32_w]
                rfl
              refine one_ (i := 15) (N := some 114) #[true, true, true, true, true, true, true, true, true, true, true, true, true, true, true, true, false, false] rfl rfl (one_of HT_.out (by kernel_rfl)) (by decide) (fun K hK => ?_)
              refine goes_ Tryz.func43 (by kernel_rfl) rfl #[.int .i64 (wrap64 ((wrap64 ((wrap64 (65536 + (wrap64 (1024 * (wrap64 ((rd t154 x13_2) - 55296)))))) + (rd t154 (ji45)))) - 56320))] (by rfl) rfl rfl (by (try simp only [List.map_toArray, List.map_cons, List.map_nil]); first | done | (simp only [hji45]; rfl) | rfl | (simp only [List.length_drop, List.length_take]; rfl)) ?_
              with_reducible refine (muslinref04_Sign.calls kj32 (wrap64 ((wrap64 ((wrap64 (65536 + (wrap64 (1024 * (wrap64 ((rd t154 x13_2) - 55296)))))) + (rd t154 (ji45)))) - 56320)) t167 _ A48.out).mono ?_
              rintro e w51 ⟨rfl, hb⟩; have HS0_ := (hb.cell (World.block_lt_of_cell? _ _ (hHeld.1))).trans (hHeld.1); have HS1_ := (hb.cell (World.block_lt_of_cell? _ _ (hHeld.2))).trans (hHeld.2)
              refine ⟨_, rfl, ?_⟩
              have n0_ := Aside0.mk (Kd.R_below (by (with_reducible repeat (first | apply Kd.R_alloc | apply Kd.R_drewN | apply Kd.R_drew)); exact HO_8.out) hb); have n1_ := Aside0.mk (Kd.R_below (by (with_reducible repeat (first | apply Kd.R_alloc | apply Kd.R_drewN | apply Kd.R_drew)); exact HO_11.out) hb); have n2_ := Aside0.mk (below_step (by repeat (first | (with_reducible first | exact HB.out | apply below_alloc | apply pw_below_drewN | apply below_drew1) | exact HB.out)) hb); clear HO_8; clear HO_11; clear HB; have HO_8 := n0_; have HO_11 := n1_; have HB := n2_; clear n0_ n1_ n2_; (try clear hb); (try clear hb2); (try clear hk); (try clear hi)
              refine hK.out _ _ ⟨HS0_, HS1_⟩ (fun hHeld => ?_)
              clear hK K
              refine norm_ (a' := ?_) ?_ ?_
              rotate_left
              · show Act.put _ (some 114) _ = _
                simp only [Act.put, List.setIfInBounds_toArray, List.set_cons_zero, List.set_cons_succ, i64_w, i32_w]
                rfl
              refine last_ (i := 16) (N := some 115) #[true, true, true, true, true, true, true, true, true, true, true, true, true, true, true, true, true, false] rfl rfl (one_of HT_.out (by kernel_rfl)) (by decide) (fun K hK => ?_)
              refine print_append_str_step (w0 := w) w.heap.size (by rfl) (.tmp 99) _ 29 9 5 rfl Tryz.underlying29 Tryz.underlying9 info5 u8 x8_2 t167 rfl rfl ?aO ?aB ?aS ?aL ?_
              (case aB => exact (by repeat (first | (with_reducible first | exact HB.out | apply below_alloc | apply pw_below_drewN | apply below_drew1) | exact HB.out)))
              (case aO => exact (Kd.own_of_R (by (with_reducible repeat (first | apply Kd.R_alloc | apply Kd.R_drewN | apply Kd.R_drew)); exact HO_8.out)))
              (case aS => exact (below_size (by repeat (first | (with_reducible first | exact HB.out | apply below_alloc | apply pw_below_drewN | apply below_drew1) | exact HB.out))))
              (case aL => have := LMc49.out; first | omega | exact Nat.le_of_lt this)
              intro v169 w52 ho0 hb hg; have ho := Kd.R_of_own (h1 := fun _ => rfl) (ok := fun _ => True) ho0 (fun _ _ => trivial); clear ho0; have hat := True.intro; rw [← Ny168.out] at ho
              change Kd.R (Kd.int .u8) 5 w52 w.heap.size (fun _ => True) v169 y168 at ho
              have n0_ := Aside0.mk (Kd.R_over' (by (with_reducible repeat (first | apply Kd.R_alloc | apply Kd.R_drewN | apply Kd.R_drew)); exact HO_11.out) (Kd.R_typed (by (with_reducible repeat (first | apply Kd.R_alloc | apply Kd.R_drewN | apply Kd.R_drew)); exact HO_8.out)) (by decide) hg); have n1_ := Aside0.mk (hb); have n2_ := Aside0.mk (ho); clear HO_11; clear HB; clear HO_8; have HO_11 := n0_; have HB := n1_; have HO170 := n2_; clear n0_ n1_ n2_; clear ho hb hg hat
              refine hK.out _ _ ?_
              clear hK K
              refine norm_ (a' := ?_) ?_ ?_
              rotate_left
              · show Act.put _ (some 115) _ = _
                simp only [Act.put, List.setIfInBounds_toArray, List.set_cons_zero, List.set_cons_succ, i64_w, i32_w]
                rfl
              refine pure_ (i := 17) (N := some 8) (v := ?_) (a' := ?_) #[true, true, true, true, true, true, true, true, true, true, true, true, true, true, true, true, true, true] rfl rfl (any_of HT_.out (by kernel_rfl)) (fun _ _ _ h => h) (Or.inl ⟨by rfl, ?_⟩) ?_ ?_
              rotate_left
              · intro w'
                go_simp
                with_reducible rfl
              rotate_left
              · simp only [Act.put, List.setIfInBounds_toArray, List.set_cons_zero, List.set_cons_succ, i64_w, i32_w]
                rfl
              refine done_ (done_of HT_.out (by kernel_rfl)) ?_
              try go_wp2
              go_roundg kj32
              case measure => have := HJ25.out; have := HK2.out; have := HJ32.out; omega
              case rel => exact ⟨(y168), (wrap64 ((ji45) + 1)), (by first | rfl | (simp; done) | (simp only [← hji45] <;> (first | rfl | (simp; done) | (simp; simp only [hji45]; exact beq_iff_eq.1 (by assumption)))) | (simp [*]; done)), H', ⟨by have := HJ25.out; have := HK2.out; have := HJ32.out; omega⟩, ⟨by (with_reducible repeat (first | apply Kd.R_alloc | apply Kd.R_drewN | apply Kd.R_drew)); exact HO170.out⟩, ⟨by (with_reducible repeat (first | apply Kd.R_alloc | apply Kd.R_drewN | apply Kd.R_drew)); exact HO_11.out⟩, ⟨by repeat (first | (with_reducible first | exact HB.out | apply below_alloc | apply pw_below_drewN | apply below_drew1) | exact HB.out)⟩⟩
end Go.Proofs.YtkfcbafjcjmfnaaGreatDoor.C
namespace Go.Proofs.YtkfcbafjcjmfnaaGreatDoor
set_option linter.unusedVariables false
set_option linter.unusedSimpArgs false
def byteAt (l : List UInt8) (j : Nat) : Nat := (l.getD j 0).toNat
def contAt (l : List UInt8) (j : Nat) : Bool := decide (j < l.length) && byteAt l j / 64 == 2
def uDec (l : List UInt8) : Nat × Nat :=
  if byteAt l 0 < 128 then (byteAt l 0, 1)
  else if byteAt l 0 / 32 == 6 && contAt l 1 then
    if byteAt l 0 % 32 * 64 + byteAt l 1 % 64 ≥ 128 then (byteAt l 0 % 32 * 64 + byteAt l 1 % 64, 2) else (65533, 1)
  else if byteAt l 0 / 16 == 14 && contAt l 1 && contAt l 2 then
    if byteAt l 0 % 16 * 4096 + byteAt l 1 % 64 * 64 + byteAt l 2 % 64 ≥ 2048 && Utf8.valid ((byteAt l 0 % 16 * 4096 + byteAt l 1 % 64 * 64 + byteAt l 2 % 64 : Nat) : Int) then (byteAt l 0 % 16 * 4096 + byteAt l 1 % 64 * 64 + byteAt l 2 % 64, 3) else (65533, 1)
  else if byteAt l 0 / 8 == 30 && contAt l 1 && contAt l 2 && contAt l 3 then
    if byteAt l 0 % 8 * 262144 + byteAt l 1 % 64 * 4096 + byteAt l 2 % 64 * 64 + byteAt l 3 % 64 ≥ 65536 && Utf8.valid ((byteAt l 0 % 8 * 262144 + byteAt l 1 % 64 * 4096 + byteAt l 2 % 64 * 64 + byteAt l 3 % 64 : Nat) : Int) then (byteAt l 0 % 8 * 262144 + byteAt l 1 % 64 * 4096 + byteAt l 2 % 64 * 64 + byteAt l 3 % 64, 4) else (65533, 1)
  else (65533, 1)
theorem decode_list (s : ByteArray) (i : Nat) : Utf8.decode s i = uDec (s.data.toList.drop i) := by
  have hg : ∀ k, (s.get! (i + k)).toNat = byteAt (s.data.toList.drop i) k := by
    intro k
    simp only [byteAt, List.getD_eq_getElem?_getD, List.getElem?_drop, ByteArray.get!]
    rw [Array.getElem?_toList]
    simp [getElem!_def]
    cases s.data[i + k]? <;> rfl
  have hc : ∀ k, (decide (i + k < s.size) && byteAt (s.data.toList.drop i) k / 64 == 2) = contAt (s.data.toList.drop i) k := by
    intro k
    simp only [contAt, List.length_drop, Array.length_toList]
    congr 1
    simp only [ByteArray.size, decide_eq_decide]
    omega
  simp only [Utf8.decode, hg, hc]
  simp only [uDec, Utf8.runeError]
theorem byte_back {x : Int} {a : UInt8} (h : x = (a.toNat : Int)) : x.toNat.toUInt8 = a := by
  subst h
  simp
theorem byteAt_lt (l : List UInt8) (j : Nat) : byteAt l j < 256 := UInt8.toNat_lt _
theorem valid_iff (r : Int) : Utf8.valid r = true ↔ (0 ≤ r ∧ r < 55296) ∨ (57344 ≤ r ∧ r ≤ 1114111) := by
  simp only [Utf8.valid, Bool.or_eq_true, Bool.and_eq_true, decide_eq_true_eq]
theorem enc_one {r : Int} (h0 : 0 ≤ r) (h1 : r ≤ 127) : Lib.encodeRune r = [r.toNat.toUInt8] := by
  simp [Lib.encodeRune, Lib.encodeRuneZ_one h0 h1]
theorem enc_two {r : Int} (h0 : 128 ≤ r) (h1 : r ≤ 2047) : Lib.encodeRune r = [(192 + r / 64).toNat.toUInt8, (128 + r % 64).toNat.toUInt8] := by
  simp [Lib.encodeRune, Lib.encodeRuneZ_two h0 h1]
theorem enc_three {r : Int} (h : (2048 ≤ r ∧ r < 55296) ∨ (57343 < r ∧ r ≤ 65535)) : Lib.encodeRune r = [(224 + r / 4096).toNat.toUInt8, (128 + r / 64 % 64).toNat.toUInt8, (128 + r % 64).toNat.toUInt8] := by
  simp [Lib.encodeRune, Lib.encodeRuneZ_three h]
theorem enc_four {r : Int} (h0 : 65536 ≤ r) (h1 : r ≤ 1114111) : Lib.encodeRune r = [(240 + r / 262144).toNat.toUInt8, (128 + r / 4096 % 64).toNat.toUInt8, (128 + r / 64 % 64).toNat.toUInt8, (128 + r % 64).toNat.toUInt8] := by
  simp [Lib.encodeRune, Lib.encodeRuneZ_four h0 h1]
theorem enc_bad {r : Int} (h : r < 0 ∨ (55296 ≤ r ∧ r ≤ 57343) ∨ 1114111 < r) : Lib.encodeRune r = [239, 191, 189] := by
  simp [Lib.encodeRune, Lib.encodeRuneZ_bad h]
theorem enc_65533 : Lib.encodeRune 65533 = [239, 191, 189] := by decide
def wholeL (l : List UInt8) : Nat := if (uDec l).2 = 1 ∧ 128 ≤ byteAt l 0 then 0 else (uDec l).2
theorem ex2 {a : UInt8} {r : List UInt8} (h : 2 < (a :: r).length) : ∃ b c r', r = b :: c :: r' := by
  match r, h with
  | b :: c :: r', _ => exact ⟨b, c, r', rfl⟩
theorem ex3 {a : UInt8} {r : List UInt8} (h : 3 < (a :: r).length) : ∃ b c d r', r = b :: c :: d :: r' := by
  match r, h with
  | b :: c :: d :: r', _ => exact ⟨b, c, d, r', rfl⟩
theorem contAt_iff (l : List UInt8) (j : Nat) : contAt l j = true ↔ j < l.length ∧ byteAt l j / 64 = 2 := by
  simp [contAt]
theorem dec_cases (l : List UInt8) (hl : l ≠ []) :
    (wholeL l = 0 ∧ uDec l = (65533, 1) ∧ 128 ≤ byteAt l 0) ∨
    (wholeL l = (uDec l).2 ∧ 0 < (uDec l).2 ∧ (uDec l).2 ≤ 4 ∧ (uDec l).2 ≤ l.length ∧ Utf8.valid (uDec l).1 = true ∧ Lib.encodeRune (uDec l).1 = l.take (uDec l).2) := by
  obtain ⟨a, r, rfl⟩ := List.exists_cons_of_ne_nil hl
  by_cases h0 : byteAt (a :: r) 0 < 128
  · right
    have e : uDec (a :: r) = (byteAt (a :: r) 0, 1) := by simp only [uDec, if_pos h0]
    have hw : wholeL (a :: r) = 1 := by unfold wholeL; rw [e, if_neg (by omega)]
    have ha : byteAt (a :: r) 0 = a.toNat := rfl
    rw [hw, e]
    refine ⟨rfl, by omega, by omega, by simp, ?_, ?_⟩
    · rw [valid_iff]; simp only; omega
    · rw [enc_one (by simp) (by simp only; omega)]; simp [ha]
  · have bad : uDec (a :: r) = (65533, 1) → (wholeL (a :: r) = 0 ∧ uDec (a :: r) = (65533, 1) ∧ 128 ≤ byteAt (a :: r) 0) := fun e =>
      ⟨by unfold wholeL; rw [e, if_pos ⟨rfl, by omega⟩], e, by omega⟩
    have good : ∀ n w, uDec (a :: r) = (n, w) → 1 < w → wholeL (a :: r) = w := fun n w e hw => by
      unfold wholeL; rw [e, if_neg (by simp only; omega)]
    by_cases h2 : byteAt (a :: r) 0 / 32 = 6 ∧ contAt (a :: r) 1 = true
    · obtain ⟨c0, c1⟩ := h2
      by_cases h3 : byteAt (a :: r) 0 % 32 * 64 + byteAt (a :: r) 1 % 64 ≥ 128
      · right
        have e : uDec (a :: r) = (byteAt (a :: r) 0 % 32 * 64 + byteAt (a :: r) 1 % 64, 2) := by
          simp only [uDec, if_neg h0, c0, c1, beq_self_eq_true, Bool.and_self, if_true, if_pos h3]
        rw [good _ _ e (by omega), e]
        rw [contAt_iff] at c1
        match r, c1, e, h3, c0, h0 with
        | b :: r, c1, e, h3, c0, h0 =>
          have ha : byteAt (a :: b :: r) 0 = a.toNat := rfl
          have hb : byteAt (a :: b :: r) 1 = b.toNat := rfl
          have := UInt8.toNat_lt a; have := UInt8.toNat_lt b
          rw [ha, hb]
          refine ⟨rfl, by omega, by omega, by simp, ?_, ?_⟩
          · rw [valid_iff]; simp only; omega
          · rw [enc_two (by simp only; omega) (by simp only; omega)]
            rw [byte_back (a := a) (by simp only; omega), byte_back (a := b) (by simp only; omega)]
            rfl
      · left
        exact bad (by simp only [uDec, if_neg h0, c0, c1, beq_self_eq_true, Bool.and_self, if_true, if_neg h3])
    · have n2 : (byteAt (a :: r) 0 / 32 == 6 && contAt (a :: r) 1) = false := by
        cases hh : (byteAt (a :: r) 0 / 32 == 6 && contAt (a :: r) 1) with
        | false => rfl
        | true => simp only [Bool.and_eq_true, beq_iff_eq] at hh; exact absurd hh h2
      by_cases h4 : byteAt (a :: r) 0 / 16 = 14 ∧ contAt (a :: r) 1 = true ∧ contAt (a :: r) 2 = true
      · obtain ⟨c0, c1, c2⟩ := h4
        by_cases h5 : (decide (byteAt (a :: r) 0 % 16 * 4096 + byteAt (a :: r) 1 % 64 * 64 + byteAt (a :: r) 2 % 64 ≥ 2048) && Utf8.valid ((byteAt (a :: r) 0 % 16 * 4096 + byteAt (a :: r) 1 % 64 * 64 + byteAt (a :: r) 2 % 64 : Nat) : Int)) = true
        · right
          have e : uDec (a :: r) = (byteAt (a :: r) 0 % 16 * 4096 + byteAt (a :: r) 1 % 64 * 64 + byteAt (a :: r) 2 % 64, 3) := by
            simp only [uDec, if_neg h0, n2, Bool.false_eq_true, if_false]
            rw [if_pos (by simp [c0, c1, c2]), if_pos h5]
          rw [good _ _ e (by omega), e]
          rw [contAt_iff] at c1 c2
          simp only [Bool.and_eq_true, decide_eq_true_eq] at h5
          obtain ⟨h5, h6⟩ := h5
          obtain ⟨b, c, r, rfl⟩ := ex2 c2.1
          · skip
            have ha : byteAt (a :: b :: c :: r) 0 = a.toNat := rfl
            have hb : byteAt (a :: b :: c :: r) 1 = b.toNat := rfl
            have hc : byteAt (a :: b :: c :: r) 2 = c.toNat := rfl
            have := UInt8.toNat_lt a; have := UInt8.toNat_lt b; have := UInt8.toNat_lt c
            simp only [ha, hb, hc] at *
            refine ⟨trivial, by omega, by omega, by simp, h6, ?_⟩
            rw [valid_iff] at h6
            rw [enc_three (by omega)]
            rw [byte_back (a := a) (by omega), byte_back (a := b) (by omega), byte_back (a := c) (by omega)]
            rfl
        · left
          exact bad (by
            simp only [uDec, if_neg h0, n2, Bool.false_eq_true, if_false]
            rw [if_pos (by simp [c0, c1, c2]), if_neg h5])
      · have n4 : (byteAt (a :: r) 0 / 16 == 14 && contAt (a :: r) 1 && contAt (a :: r) 2) = false := by
          cases hh : (byteAt (a :: r) 0 / 16 == 14 && contAt (a :: r) 1 && contAt (a :: r) 2) with
          | false => rfl
          | true => simp only [Bool.and_eq_true, beq_iff_eq] at hh; exact absurd ⟨hh.1.1, hh.1.2, hh.2⟩ h4
        by_cases h6 : byteAt (a :: r) 0 / 8 = 30 ∧ contAt (a :: r) 1 = true ∧ contAt (a :: r) 2 = true ∧ contAt (a :: r) 3 = true
        · obtain ⟨c0, c1, c2, c3⟩ := h6
          by_cases h7 : (decide (byteAt (a :: r) 0 % 8 * 262144 + byteAt (a :: r) 1 % 64 * 4096 + byteAt (a :: r) 2 % 64 * 64 + byteAt (a :: r) 3 % 64 ≥ 65536) && Utf8.valid ((byteAt (a :: r) 0 % 8 * 262144 + byteAt (a :: r) 1 % 64 * 4096 + byteAt (a :: r) 2 % 64 * 64 + byteAt (a :: r) 3 % 64 : Nat) : Int)) = true
          · right
            have e : uDec (a :: r) = (byteAt (a :: r) 0 % 8 * 262144 + byteAt (a :: r) 1 % 64 * 4096 + byteAt (a :: r) 2 % 64 * 64 + byteAt (a :: r) 3 % 64, 4) := by
              simp only [uDec, if_neg h0, n2, n4, Bool.false_eq_true, if_false]
              rw [if_pos (by simp [c0, c1, c2, c3]), if_pos h7]
            rw [good _ _ e (by omega), e]
            rw [contAt_iff] at c1 c2 c3
            simp only [Bool.and_eq_true, decide_eq_true_eq] at h7
            obtain ⟨h7, h8⟩ := h7
            obtain ⟨b, c, d, r, rfl⟩ := ex3 c3.1
            · skip
              have ha : byteAt (a :: b :: c :: d :: r) 0 = a.toNat := rfl
              have hb : byteAt (a :: b :: c :: d :: r) 1 = b.toNat := rfl
              have hc : byteAt (a :: b :: c :: d :: r) 2 = c.toNat := rfl
              have hd : byteAt (a :: b :: c :: d :: r) 3 = d.toNat := rfl
              have := UInt8.toNat_lt a; have := UInt8.toNat_lt b; have := UInt8.toNat_lt c; have := UInt8.toNat_lt d
              simp only [ha, hb, hc, hd] at *
              refine ⟨trivial, by omega, by omega, by simp, h8, ?_⟩
              rw [valid_iff] at h8
              rw [enc_four (by omega) (by omega)]
              rw [byte_back (a := a) (by omega), byte_back (a := b) (by omega), byte_back (a := c) (by omega), byte_back (a := d) (by omega)]
              rfl
          · left
            exact bad (by
              simp only [uDec, if_neg h0, n2, n4, Bool.false_eq_true, if_false]
              rw [if_pos (by simp [c0, c1, c2, c3]), if_neg h7])
        · left
          have n6 : (byteAt (a :: r) 0 / 8 == 30 && contAt (a :: r) 1 && contAt (a :: r) 2 && contAt (a :: r) 3) = false := by
            cases hh : (byteAt (a :: r) 0 / 8 == 30 && contAt (a :: r) 1 && contAt (a :: r) 2 && contAt (a :: r) 3) with
            | false => rfl
            | true => simp only [Bool.and_eq_true, beq_iff_eq] at hh; exact absurd ⟨hh.1.1.1, hh.1.1.2, hh.1.2, hh.2⟩ h6
          exact bad (by simp only [uDec, if_neg h0, n2, n4, n6, Bool.false_eq_true, if_false])
theorem enc_len (r : Int) : 1 ≤ (Lib.encodeRune r).length ∧ (Lib.encodeRune r).length ≤ 4 := by
  have := Lib.encodeRuneZ_length r
  simpa [Lib.encodeRune] using this
def Val (l : List UInt8) : Prop := ∃ rs : List Int, l = rs.flatMap Lib.encodeRune
theorem Val.nil : Val [] := ⟨[], rfl⟩
theorem Val.append {a b : List UInt8} (ha : Val a) (hb : Val b) : Val (a ++ b) := by
  obtain ⟨x, rfl⟩ := ha; obtain ⟨y, rfl⟩ := hb; exact ⟨x ++ y, by simp⟩
def valL : Nat → List UInt8 → List UInt8
  | 0, _ => []
  | n + 1, l => if l = [] then [] else Lib.encodeRune (uDec l).1 ++ valL n (l.drop (uDec l).2)
theorem dec_width (l : List UInt8) (hl : l ≠ []) : 1 ≤ (uDec l).2 ∧ (uDec l).2 ≤ l.length := by
  rcases dec_cases l hl with ⟨_, h, _⟩ | ⟨_, h1, _, h2, _⟩
  · rw [h]; have := List.length_pos_iff.2 hl; exact ⟨Nat.le_refl _, this⟩
  · exact ⟨h1, h2⟩
theorem valL_more : ∀ (n : Nat) (l : List UInt8), l.length ≤ n → ∀ m, n ≤ m → valL m l = valL n l := by
  intro n
  induction n with
  | zero =>
    intro l hl m hm
    obtain rfl : l = [] := List.eq_nil_of_length_eq_zero (by omega)
    cases m <;> simp [valL]
  | succ n ih =>
    intro l hl m hm
    obtain ⟨m, rfl⟩ : ∃ q, m = q + 1 := ⟨m - 1, by omega⟩
    by_cases h : l = []
    · simp [valL, h]
    · simp only [valL, if_neg h]
      have := dec_width l h
      rw [ih _ (by rw [List.length_drop]; omega) m (by omega)]
theorem whole_of {l : List UInt8} {n w : Nat} (e : uDec l = (n, w)) : wholeL l = if w = 1 ∧ 128 ≤ byteAt l 0 then 0 else w := by
  unfold wholeL; rw [e]
theorem whole_low (l : List UInt8) (h : byteAt l 0 < 128) : wholeL l = 1 := by
  rw [whole_of (n := byteAt l 0) (w := 1) (by unfold uDec; rw [if_pos h]), if_neg (by omega)]
theorem whole_none (l : List UInt8) (h : (128 ≤ byteAt l 0 ∧ byteAt l 0 < 192) ∨ 248 ≤ byteAt l 0) : wholeL l = 0 := by
  have h256 := byteAt_lt l 0
  rw [whole_of (n := 65533) (w := 1) (by
    unfold uDec
    rw [if_neg (by omega), if_neg (by simp; omega), if_neg (by simp; omega), if_neg (by simp; omega)]), if_pos (by omega)]
theorem whole_two (l : List UInt8) (h : 192 ≤ byteAt l 0 ∧ byteAt l 0 < 224) :
    wholeL l = if contAt l 1 = true ∧ byteAt l 0 % 32 * 64 + byteAt l 1 % 64 ≥ 128 then 2 else 0 := by
  by_cases c1 : contAt l 1 = true
  · by_cases c2 : byteAt l 0 % 32 * 64 + byteAt l 1 % 64 ≥ 128
    · rw [if_pos ⟨c1, c2⟩, whole_of (n := byteAt l 0 % 32 * 64 + byteAt l 1 % 64) (w := 2) (by
        unfold uDec; rw [if_neg (by omega), if_pos (by simp [c1]; omega), if_pos c2])]; simp
    · rw [if_neg (fun hh => c2 hh.2), whole_of (n := 65533) (w := 1) (by
        unfold uDec; rw [if_neg (by omega), if_pos (by simp [c1]; omega), if_neg c2]), if_pos (by omega)]
  · rw [if_neg (fun hh => c1 hh.1), whole_of (n := 65533) (w := 1) (by
      unfold uDec; rw [if_neg (by omega), if_neg (by simp [c1]), if_neg (by simp; omega), if_neg (by simp; omega)]), if_pos (by omega)]
theorem whole_three (l : List UInt8) (h : 224 ≤ byteAt l 0 ∧ byteAt l 0 < 240) :
    wholeL l = if contAt l 1 = true ∧ contAt l 2 = true ∧ byteAt l 0 % 16 * 4096 + byteAt l 1 % 64 * 64 + byteAt l 2 % 64 ≥ 2048 ∧ Utf8.valid ((byteAt l 0 % 16 * 4096 + byteAt l 1 % 64 * 64 + byteAt l 2 % 64 : Nat) : Int) = true then 3 else 0 := by
  by_cases c1 : contAt l 1 = true ∧ contAt l 2 = true
  · by_cases c2 : byteAt l 0 % 16 * 4096 + byteAt l 1 % 64 * 64 + byteAt l 2 % 64 ≥ 2048 ∧ Utf8.valid ((byteAt l 0 % 16 * 4096 + byteAt l 1 % 64 * 64 + byteAt l 2 % 64 : Nat) : Int) = true
    · rw [if_pos ⟨c1.1, c1.2, c2⟩, whole_of (n := byteAt l 0 % 16 * 4096 + byteAt l 1 % 64 * 64 + byteAt l 2 % 64) (w := 3) (by
        unfold uDec; rw [if_neg (by omega), if_neg (by simp; omega), if_pos (by simp [c1.1, c1.2]; omega), if_pos (by rw [c2.2]; simp only [Bool.and_true, decide_eq_true_eq]; exact c2.1)])]; simp
    · rw [if_neg (fun hh => c2 hh.2.2), whole_of (n := 65533) (w := 1) (by
        unfold uDec; rw [if_neg (by omega), if_neg (by simp; omega), if_pos (by simp [c1.1, c1.2]; omega), if_neg (by rw [Bool.and_eq_true, decide_eq_true_eq]; exact c2)]), if_pos (by omega)]
  · rw [if_neg (fun hh => c1 ⟨hh.1, hh.2.1⟩), whole_of (n := 65533) (w := 1) (by
      unfold uDec; rw [if_neg (by omega), if_neg (by simp; omega), if_neg (by rw [Bool.and_eq_true, Bool.and_eq_true]; exact fun hh => c1 ⟨hh.1.2, hh.2⟩), if_neg (by simp; omega)]), if_pos (by omega)]
theorem whole_four (l : List UInt8) (h : 240 ≤ byteAt l 0 ∧ byteAt l 0 < 248) :
    wholeL l = if contAt l 1 = true ∧ contAt l 2 = true ∧ contAt l 3 = true ∧ byteAt l 0 % 8 * 262144 + byteAt l 1 % 64 * 4096 + byteAt l 2 % 64 * 64 + byteAt l 3 % 64 ≥ 65536 ∧ Utf8.valid ((byteAt l 0 % 8 * 262144 + byteAt l 1 % 64 * 4096 + byteAt l 2 % 64 * 64 + byteAt l 3 % 64 : Nat) : Int) = true then 4 else 0 := by
  by_cases c1 : contAt l 1 = true ∧ contAt l 2 = true ∧ contAt l 3 = true
  · by_cases c2 : byteAt l 0 % 8 * 262144 + byteAt l 1 % 64 * 4096 + byteAt l 2 % 64 * 64 + byteAt l 3 % 64 ≥ 65536 ∧ Utf8.valid ((byteAt l 0 % 8 * 262144 + byteAt l 1 % 64 * 4096 + byteAt l 2 % 64 * 64 + byteAt l 3 % 64 : Nat) : Int) = true
    · rw [if_pos ⟨c1.1, c1.2.1, c1.2.2, c2⟩, whole_of (n := byteAt l 0 % 8 * 262144 + byteAt l 1 % 64 * 4096 + byteAt l 2 % 64 * 64 + byteAt l 3 % 64) (w := 4) (by
        unfold uDec; rw [if_neg (by omega), if_neg (by simp; omega), if_neg (by simp; omega), if_pos (by simp [c1.1, c1.2.1, c1.2.2]; omega), if_pos (by rw [c2.2]; simp only [Bool.and_true, decide_eq_true_eq]; exact c2.1)])]; simp
    · rw [if_neg (fun hh => c2 hh.2.2.2), whole_of (n := 65533) (w := 1) (by
        unfold uDec; rw [if_neg (by omega), if_neg (by simp; omega), if_neg (by simp; omega), if_pos (by simp [c1.1, c1.2.1, c1.2.2]; omega), if_neg (by rw [Bool.and_eq_true, decide_eq_true_eq]; exact c2)]), if_pos (by omega)]
  · rw [if_neg (fun hh => c1 ⟨hh.1, hh.2.1, hh.2.2.1⟩), whole_of (n := 65533) (w := 1) (by
      unfold uDec; rw [if_neg (by omega), if_neg (by simp; omega), if_neg (by simp; omega), if_neg (by rw [Bool.and_eq_true, Bool.and_eq_true, Bool.and_eq_true]; exact fun hh => c1 ⟨hh.1.1.2, hh.1.2, hh.2⟩)]), if_pos (by omega)]
end Go.Proofs.YtkfcbafjcjmfnaaGreatDoor
namespace Go.Proofs.YtkfcbafjcjmfnaaGreatDoor.Pure
open Go.RowKit Go.Proofs.YtkfcbafjcjmfnaaGreatDoorW.PrintWords
set_option linter.unusedVariables false
set_option linter.unusedSimpArgs false
theorem w64 {x : Int} (h0 : -9223372036854775808 ≤ x) (h1 : x ≤ 9223372036854775807) : wrap64 x = x := by unfold wrap64; omega
def intsOf (l : List UInt8) : List Int := l.map fun b => (b.toNat : Int)
theorem intsOf_append (a b : List UInt8) : intsOf (a ++ b) = intsOf a ++ intsOf b := by simp [intsOf]
theorem intsOf_length (a : List UInt8) : (intsOf a).length = a.length := by simp [intsOf]
theorem bytesOf_ints (s : ByteArray) : bytesOf s = intsOf s.data.toList := rfl
theorem strOf_ints (l : List UInt8) : strOfNums (intsOf l) = ⟨l.toArray⟩ := by
  simp only [strOfNums, intsOf, List.map_map]
  congr 2
  conv => rhs; rw [← List.map_id l]
  apply List.map_congr_left
  intro x _
  simp
theorem sizeL (s : ByteArray) : s.data.toList.length = s.size := by simp
theorem toList_eq (s : ByteArray) : s.toList = s.data.toList := ByteArray.toList_eq s
theorem mk_toList (l : List UInt8) : (⟨l.toArray⟩ : ByteArray).data.toList = l := rfl
theorem mk_size (l : List UInt8) : (⟨l.toArray⟩ : ByteArray).size = l.length := by simp [ByteArray.size]
theorem extract_list (s : ByteArray) (i j : Nat) : (s.extract i j).data.toList = (s.data.toList.take j).drop i := by
  simp [List.drop_take]
theorem mk_back (s : ByteArray) : (⟨s.data.toList.toArray⟩ : ByteArray) = s := by
  apply ByteArray.ext; simp
theorem ba_ext {s t : ByteArray} (h : s.data.toList = t.data.toList) : s = t := by
  apply ByteArray.ext; exact Array.ext' h
theorem bt_range (s : ByteArray) (i : Int) : 0 ≤ bt s i ∧ bt s i < 256 := by
  unfold bt
  split
  · have := UInt8.toNat_lt (s[i.toNat]); omega
  · omega
theorem bt_get (s : ByteArray) (i : Nat) (h : i < s.data.toList.length) : bt s (i : Int) = (s.data.toList[i].toNat : Int) := by
  unfold bt
  have h2 : i < s.size := by simpa using h
  rw [dif_pos (by simpa using h2)]
  rfl
theorem Ev.round {α : Type} {g f : Nat → Option α} {r : α} (h : ∀ k, g (k + 1) = f k) (k : Ev f r) : Ev g r := Ev.step h k
theorem Ev.pos {α : Type} {c : Prop} [Decidable c] {g f : Nat → Option α} {r : α} (h : c) (k : Ev g r) : Ev (fun n => if c then g n else f n) r := by
  refine Ev.congr (fun n => ?_) k; exact if_pos h
theorem Ev.neg {α : Type} {c : Prop} [Decidable c] {g f : Nat → Option α} {r : α} (h : ¬ c) (k : Ev f r) : Ev (fun n => if c then g n else f n) r := by
  refine Ev.congr (fun n => ?_) k; exact if_neg h
theorem Ev.got {α β : Type} {x : Option α} {a : α} {f : Nat → α → Option β} {r : β} (h : x = some a) (k : Ev (fun n => f n a) r) : Ev (fun n => x.bind (f n)) r := by
  subst h; exact k
end Go.Proofs.YtkfcbafjcjmfnaaGreatDoor.Pure
namespace Go.Proofs.YtkfcbafjcjmfnaaGreatDoor.Pure
open Go.RowKit Go.Proofs.YtkfcbafjcjmfnaaGreatDoor.C Go.Proofs.YtkfcbafjcjmfnaaGreatDoorW.PrintWords Go.Proofs.YtkfcbafjcjmfnaaGreatDoorW.PrintLast
set_option linter.unusedVariables false
set_option linter.unusedSimpArgs false
theorem bt_byteAt (s : ByteArray) (at_ j : Nat) : bt s ((at_ : Int) + (j : Int)) = byteAt (s.data.toList.drop at_) j := by
  unfold bt byteAt
  rw [List.getD_eq_getElem?_getD, List.getElem?_drop]
  have e : ((at_ : Int) + (j : Int)).toNat = at_ + j := by omega
  split
  · rename_i h
    rw [e] at h
    have h2 : at_ + j < s.data.toList.length := by simpa using h
    rw [List.getElem?_eq_getElem h2]
    simp only [Option.getD_some, e]
    rfl
  · rename_i h
    rw [e] at h
    have h2 : s.data.toList.length ≤ at_ + j := by simpa using h
    rw [List.getElem?_eq_none h2]
    rfl
section whole
variable (s : ByteArray) (hs : s.size ≤ 140737488351232)
include hs
theorem l0_step (k : Nat) (a n least v i : Int) (h0 : 0 ≤ a) (hi : 0 ≤ i) (hin : i < n) (ha : a + i < s.size) (hv : 0 ≤ v) (hv2 : v ≤ 1000000000) :
    muslinref04_Whole.l0 (k + 1) s a n least v i = if bt s (a + i) < 128 ∨ bt s (a + i) > 191 then some 0 else muslinref04_Whole.l0 k s a n least (64 * v + bt s (a + i) - 128) (i + 1) := by
  have hb := bt_range s (a + i)
  simp only [muslinref04_Whole.l0]
  rw [w64 (x := a + i) (by omega) (by omega), w64 (x := bt s (a + i)) (by omega) (by omega), if_pos hin, if_pos (by omega), if_pos ha,
    w64 (x := 64 * v) (by omega) (by omega), w64 (x := 64 * v + bt s (a + i)) (by omega) (by omega), w64 (x := 64 * v + bt s (a + i) - 128) (by omega) (by omega), w64 (x := i + 1) (by omega) (by omega)]
  by_cases c1 : bt s (a + i) < 128
  · rw [if_pos c1, if_pos (.inl c1)]
  · rw [if_neg c1]
    by_cases c2 : bt s (a + i) > 191
    · rw [if_pos c2, if_pos (.inr c2)]
    · rw [if_neg c2, if_neg (by omega)]
omit hs in
theorem l0_end (k : Nat) (a n least v i : Int) (hin : ¬ i < n) :
    muslinref04_Whole.l0 (k + 1) s a n least v i = if v < least ∨ v > 1114111 ∨ (v ≥ 55296 ∧ v ≤ 57343) then some 0 else some n := by
  simp only [muslinref04_Whole.l0]
  rw [if_neg hin]
  by_cases c1 : v < least
  · rw [if_pos c1, if_pos (.inl c1)]
  · rw [if_neg c1]
    by_cases c2 : v > 1114111
    · rw [if_pos c2, if_pos (.inr (.inl c2))]
    · rw [if_neg c2]
      by_cases c3 : v ≥ 55296
      · rw [if_pos c3]
        by_cases c4 : v ≤ 57343
        · rw [if_pos c4, if_pos (.inr (.inr ⟨c3, c4⟩))]
        · rw [if_neg c4, if_neg (by omega)]
      · rw [if_neg c3, if_neg (by omega)]
theorem whole_is (a : Nat) (ha : a < s.size) : Ev (fun k => muslinref04_Whole.f k s a) (wholeL (s.data.toList.drop a) : Int) := by
  have hb0 : bt s (a : Int) = byteAt (s.data.toList.drop a) 0 := by simpa using bt_byteAt s a 0
  have hb1 : bt s ((a : Int) + 1) = byteAt (s.data.toList.drop a) 1 := by simpa using bt_byteAt s a 1
  have hb2 : bt s ((a : Int) + 2) = byteAt (s.data.toList.drop a) 2 := by simpa using bt_byteAt s a 2
  have hb3 : bt s ((a : Int) + 3) = byteAt (s.data.toList.drop a) 3 := by simpa using bt_byteAt s a 3
  have hlen : (s.data.toList.drop a).length = s.size - a := by simp
  generalize hl : s.data.toList.drop a = l at *
  have r0 := byteAt_lt l 0
  have r1 := byteAt_lt l 1
  have r2 := byteAt_lt l 2
  have r3 := byteAt_lt l 3
  refine ⟨10, fun k hk => ?_⟩
  obtain ⟨m, rfl⟩ : ∃ m, k = m + 1 + 1 + 1 + 1 + 1 + 1 + 1 + 1 + 1 + 1 := ⟨k - 10, by omega⟩
  show muslinref04_Whole.f (m + 1 + 1 + 1 + 1 + 1 + 1 + 1 + 1 + 1 + 1) s a = _
  unfold muslinref04_Whole.f
  rw [if_pos (by omega), if_pos (by omega), hb0, w64 (x := (byteAt l 0 : Int)) (by omega) (by omega)]
  by_cases c0 : byteAt l 0 < 128
  · rw [if_pos (by omega), whole_low l c0]; rfl
  rw [if_neg (by omega)]
  by_cases c1 : byteAt l 0 < 192
  · rw [if_neg (by omega), whole_none l (by omega)]
    rw [muslinref04_Whole.j0, if_neg Bool.false_ne_true, if_neg (by omega), muslinref04_Whole.j1, if_neg Bool.false_ne_true, if_neg (by omega)]; rfl
  rw [if_pos (by omega)]
  by_cases c2 : byteAt l 0 < 224
  · rw [decide_eq_true (by omega : (byteAt l 0 : Int) < 224), whole_two l (by omega)]
    rw [muslinref04_Whole.j0, if_pos rfl, muslinref04_Whole.j2]
    rw [w64 (x := (byteAt l 0 : Int) - 192) (by omega) (by omega), w64 (x := (a : Int) + 2) (by omega) (by omega)]
    by_cases d : (a : Int) + 2 > s.size
    · rw [if_pos d, if_neg (by rw [contAt_iff]; omega)]; rfl
    rw [if_neg d, l0_step s hs _ a 2 128 _ 1 (by omega) (by omega) (by omega) (by omega) (by omega) (by omega), l0_end s _ a 2 128 _ (1 + 1) (by omega), hb1]
    simp only [contAt_iff]
    split
    · rename_i h1; rw [if_neg (by omega)]; rfl
    · split
      · rename_i h1 h2; rw [if_neg (by omega)]; rfl
      · rename_i h1 h2; rw [if_pos (by omega)]; rfl
  rw [decide_eq_false (by omega : ¬ (byteAt l 0 : Int) < 224)]
  by_cases c3 : byteAt l 0 < 240
  · rw [whole_three l (by omega)]
    rw [muslinref04_Whole.j0, if_neg Bool.false_ne_true, if_pos (by omega), decide_eq_true (by omega : (byteAt l 0 : Int) < 240), muslinref04_Whole.j1, if_pos rfl, muslinref04_Whole.j2]
    rw [w64 (x := (byteAt l 0 : Int) - 224) (by omega) (by omega), w64 (x := (a : Int) + 3) (by omega) (by omega)]
    by_cases d : (a : Int) + 3 > s.size
    · rw [if_pos d, if_neg (by rw [contAt_iff, contAt_iff]; omega)]; rfl
    rw [if_neg d, l0_step s hs _ a 3 2048 _ 1 (by omega) (by omega) (by omega) (by omega) (by omega) (by omega), hb1]
    simp only [contAt_iff, valid_iff]
    split
    · rename_i h1; rw [if_neg (by omega)]; rfl
    · rename_i h1
      rw [show ((1 : Int) + 1) = 2 from rfl, l0_step s hs _ a 3 2048 _ 2 (by omega) (by omega) (by omega) (by omega) (by omega) (by omega), hb2]
      split
      · rename_i h2; rw [if_neg (by omega)]; rfl
      · rename_i h2
        rw [l0_end s _ a 3 2048 _ (2 + 1) (by omega)]
        split
        · rename_i h3; rw [if_neg (by omega)]; rfl
        · rename_i h3; rw [if_pos (by omega)]; rfl
  by_cases c4 : byteAt l 0 < 248
  · rw [whole_four l (by omega)]
    rw [muslinref04_Whole.j0, if_neg Bool.false_ne_true, if_pos (by omega), decide_eq_false (by omega : ¬ (byteAt l 0 : Int) < 240), muslinref04_Whole.j1, if_neg Bool.false_ne_true, if_pos (by omega), if_pos (by omega), muslinref04_Whole.j2]
    rw [w64 (x := (byteAt l 0 : Int) - 240) (by omega) (by omega), w64 (x := (a : Int) + 4) (by omega) (by omega)]
    by_cases d : (a : Int) + 4 > s.size
    · rw [if_pos d, if_neg (by rw [contAt_iff, contAt_iff, contAt_iff]; omega)]; rfl
    rw [if_neg d, l0_step s hs _ a 4 65536 _ 1 (by omega) (by omega) (by omega) (by omega) (by omega) (by omega), hb1]
    simp only [contAt_iff, valid_iff]
    split
    · rename_i h1; rw [if_neg (by omega)]; rfl
    · rename_i h1
      rw [show ((1 : Int) + 1) = 2 from rfl, l0_step s hs _ a 4 65536 _ 2 (by omega) (by omega) (by omega) (by omega) (by omega) (by omega), hb2]
      split
      · rename_i h2; rw [if_neg (by omega)]; rfl
      · rename_i h2
        rw [show ((2 : Int) + 1) = 3 from rfl, l0_step s hs _ a 4 65536 _ 3 (by omega) (by omega) (by omega) (by omega) (by omega) (by omega), hb3]
        split
        · rename_i h3; rw [if_neg (by omega)]; rfl
        · rename_i h3
          rw [l0_end s _ a 4 65536 _ (3 + 1) (by omega)]
          split
          · rename_i h4; rw [if_neg (by omega)]; rfl
          · rename_i h4; rw [if_pos (by omega)]; rfl
  rw [whole_none l (by omega)]
  rw [muslinref04_Whole.j0, if_neg Bool.false_ne_true, if_pos (by omega), decide_eq_false (by omega : ¬ (byteAt l 0 : Int) < 240), muslinref04_Whole.j1, if_neg Bool.false_ne_true, if_pos (by omega), if_neg (by omega)]; rfl
end whole
theorem validFrom_valL (s : ByteArray) : ∀ (fuel pos : Nat), validFrom s fuel pos = valL fuel (s.data.toList.drop pos) := by
  intro fuel
  induction fuel with
  | zero => intro pos; rfl
  | succ n ih =>
    intro pos
    simp only [validFrom, valL]
    by_cases h : pos < s.size
    · rw [if_pos h, if_neg (by intro h2; have := congrArg List.length h2; simp at this; omega), decode_list, ih, List.drop_drop]
    · rw [if_neg h, if_pos (List.drop_eq_nil_of_le (by rw [sizeL]; omega))]
def vl (l : List UInt8) : List UInt8 := valL l.length l
theorem validS_eq (s : ByteArray) : validS s = ⟨(vl s.data.toList).toArray⟩ := by
  unfold validS vl
  rw [validFrom_valL, List.drop_zero, sizeL]
theorem vl_nil : vl [] = [] := rfl
theorem vl_cons (l : List UInt8) (h : l ≠ []) : vl l = Lib.encodeRune (uDec l).1 ++ vl (l.drop (uDec l).2) := by
  have hw := dec_width l h
  have e : vl l = valL (l.length - 1 + 1) l := by unfold vl; congr 1; omega
  rw [e]
  simp only [valL, if_neg h]
  unfold vl
  rw [valL_more _ _ (Nat.le_refl _) (l.length - 1) (by rw [List.length_drop]; omega)]
theorem valid_loop (s : ByteArray) (hs : s.size ≤ 35184372088832) : ∀ (n pos : Nat) (acc : List UInt8), s.size - pos ≤ n → pos ≤ s.size → acc.length + 3 * (s.size - pos) < 140737488355328 →
    Ev (fun k => muslinref04_Valid.l0 k s (intsOf acc) pos) (⟨(acc ++ vl (s.data.toList.drop pos)).toArray⟩ : ByteArray) := by
  intro n
  induction n with
  | zero =>
    intro pos acc h1 h2 h3
    refine Ev.round (fun k => by rw [muslinref04_Valid.l0]) ?_
    refine Ev.neg (by omega) ?_
    rw [strOf_ints, List.drop_eq_nil_of_le (by rw [sizeL]; omega), vl_nil, List.append_nil]
    exact Ev.now _
  | succ n ih =>
    intro pos acc h1 h2 h3
    refine Ev.round (fun k => by rw [muslinref04_Valid.l0]) ?_
    by_cases hp : pos < s.size
    · refine Ev.pos (by omega) ?_
      refine Ev.bind (whole_is s (by omega) pos hp) ?_
      have hne : s.data.toList.drop pos ≠ [] := by intro h; have := congrArg List.length h; simp at this; omega
      rw [vl_cons _ hne]
      rcases dec_cases _ hne with ⟨e0, e1, _⟩ | ⟨e0, e1, e2, e3, e4, e5⟩
      · rw [e0, e1]
        refine Ev.pos rfl ?_
        refine Ev.pos (by rw [intsOf_length]; omega) ?_
        have hb : intsOf acc ++ bytesOf (⟨#[239, 191, 189]⟩ : ByteArray) = intsOf (acc ++ [239, 191, 189]) := by rw [intsOf_append]; rfl
        rw [hb, w64 (by omega) (by omega)]
        have := ih (pos + 1) (acc ++ [239, 191, 189]) (by omega) (by omega) (by simp; omega)
        simp only [List.drop_drop]
        rw [show Lib.encodeRune ((65533 : Nat) : Int) = [239, 191, 189] from enc_65533, ← List.append_assoc]
        exact this
      · have hl : (s.data.toList.drop pos).length = s.size - pos := by simp
        rw [e0]
        refine Ev.neg (by omega) ?_
        refine Ev.pos (by omega) ?_
        have hw : wrap64 ((pos : Int) + (((uDec (s.data.toList.drop pos)).2 : Nat) : Int)) = ((pos + (uDec (s.data.toList.drop pos)).2 : Nat) : Int) := by rw [w64 (by omega) (by omega)]; omega
        rw [hw]
        refine Ev.pos (by omega) ?_
        refine Ev.pos (by omega) ?_
        have hx : (s.extract ((pos : Nat) : Int).toNat ((pos + (uDec (s.data.toList.drop pos)).2 : Nat) : Int).toNat).data.toList = (s.data.toList.drop pos).take (uDec (s.data.toList.drop pos)).2 := by
          rw [extract_list, Int.toNat_natCast, Int.toNat_natCast, List.drop_take, Nat.add_sub_cancel_left]
        have hxs : (s.extract ((pos : Nat) : Int).toNat ((pos + (uDec (s.data.toList.drop pos)).2 : Nat) : Int).toNat).size = (uDec (s.data.toList.drop pos)).2 := by
          rw [← sizeL, hx, List.length_take]; omega
        refine Ev.pos (by rw [intsOf_length, hxs]; omega) ?_
        rw [bytesOf_ints, hx, ← intsOf_append]
        have := ih (pos + (uDec (s.data.toList.drop pos)).2) (acc ++ (s.data.toList.drop pos).take (uDec (s.data.toList.drop pos)).2) (by omega) (by omega) (by rw [List.length_append, List.length_take]; omega)
        rw [e5, ← List.append_assoc, List.drop_drop]
        exact this
    · refine Ev.neg (by omega) ?_
      rw [strOf_ints, List.drop_eq_nil_of_le (by rw [sizeL]; omega), vl_nil, List.append_nil]
      exact Ev.now _
theorem refValid_is (s : ByteArray) (hs : s.size ≤ 35184372088832) : Ev (fun k => muslinref04_Valid.f k s) (validS s) := by
  rw [validS_eq]
  exact valid_loop s hs s.size 0 [] (by omega) (by omega) (by simp; omega)
theorem strOf_enc {xs : List Int} {n : Int} (h : xs = Lib.encodeRuneZ n) : strOfNums xs = ⟨(Lib.encodeRune n).toArray⟩ := by
  subst h
  simp only [strOfNums, Lib.encodeRune]
theorem sign_is (n : Int) : Ev (fun k => muslinref04_Sign.f k n) (⟨(Lib.encodeRune n).toArray⟩ : ByteArray) := by
  unfold muslinref04_Sign.f
  by_cases c1 : n < 0
  · refine Ev.pos c1 ?_
    refine Ev.round (fun k => by rw [muslinref04_Sign.j0]) ?_
    refine Ev.pos rfl ?_
    rw [enc_bad (.inl c1)]; exact Ev.now _
  refine Ev.neg c1 ?_
  by_cases c2 : n > 1114111
  · refine Ev.pos c2 ?_
    refine Ev.round (fun k => by rw [muslinref04_Sign.j0]) ?_
    refine Ev.pos rfl ?_
    rw [enc_bad (.inr (.inr c2))]; exact Ev.now _
  refine Ev.neg c2 ?_
  by_cases c3 : n ≥ 55296 ∧ n ≤ 57343
  · refine Ev.pos c3.1 ?_
    rw [decide_eq_true c3.2]
    refine Ev.round (fun k => by rw [muslinref04_Sign.j0]) ?_
    refine Ev.pos rfl ?_
    rw [enc_bad (.inr (.inl c3))]; exact Ev.now _
  have hj : Ev (fun k => muslinref04_Sign.j0 k n false) (⟨(Lib.encodeRune n).toArray⟩ : ByteArray) := by
    refine Ev.round (fun k => by rw [muslinref04_Sign.j0]) ?_
    refine Ev.neg Bool.false_ne_true ?_
    have t1 : ∀ m : Int, 0 < m → Int.tdiv n m = n / m := fun m hm => Int.tdiv_eq_ediv_of_nonneg (by omega)
    have t2 : ∀ x m : Int, 0 ≤ x → Int.tmod x m = x % m := fun x m hx => Int.tmod_eq_emod_of_nonneg hx
    by_cases d1 : n < 128
    · refine Ev.pos d1 ?_
      rw [strOf_enc (n := n) (by rw [Lib.encodeRuneZ_one (by omega) (by omega)]; congr 1; omega)]; exact Ev.now _
    refine Ev.neg d1 ?_
    by_cases d2 : n < 2048
    · refine Ev.pos d2 ?_
      rw [t1 64 (by omega), t2 n 64 (by omega), w64 (x := n / 64) (by omega) (by omega), w64 (x := 192 + n / 64) (by omega) (by omega), w64 (x := 128 + n % 64) (by omega) (by omega)]
      rw [strOf_enc (n := n) (by
        rw [Lib.encodeRuneZ_two (by omega) (by omega)]
        rw [show (192 + n / 64) % 256 = 192 + n / 64 by omega, show (128 + n % 64) % 256 = 128 + n % 64 by omega])]
      exact Ev.now _
    refine Ev.neg d2 ?_
    by_cases d3 : n < 65536
    · refine Ev.pos d3 ?_
      rw [t1 64 (by omega), t1 4096 (by omega), t2 n 64 (by omega), w64 (x := n / 64) (by omega) (by omega), w64 (x := n / 4096) (by omega) (by omega), t2 (n / 64) 64 (by omega), w64 (x := 224 + n / 4096) (by omega) (by omega), w64 (x := 128 + n / 64 % 64) (by omega) (by omega), w64 (x := 128 + n % 64) (by omega) (by omega)]
      rw [strOf_enc (n := n) (by
        rw [Lib.encodeRuneZ_three (by omega)]
        rw [show (224 + n / 4096) % 256 = 224 + n / 4096 by omega, show (128 + n / 64 % 64) % 256 = 128 + n / 64 % 64 by omega, show (128 + n % 64) % 256 = 128 + n % 64 by omega])]
      exact Ev.now _
    refine Ev.neg d3 ?_
    rw [t1 262144 (by omega), t1 64 (by omega), t1 4096 (by omega), t2 n 64 (by omega), w64 (x := n / 64) (by omega) (by omega), w64 (x := n / 4096) (by omega) (by omega), w64 (x := n / 262144) (by omega) (by omega), t2 (n / 64) 64 (by omega), t2 (n / 4096) 64 (by omega), w64 (x := 240 + n / 262144) (by omega) (by omega), w64 (x := 128 + n / 4096 % 64) (by omega) (by omega), w64 (x := 128 + n / 64 % 64) (by omega) (by omega), w64 (x := 128 + n % 64) (by omega) (by omega)]
    rw [strOf_enc (n := n) (by
      rw [Lib.encodeRuneZ_four (by omega) (by omega)]
      rw [show (240 + n / 262144) % 256 = 240 + n / 262144 by omega, show (128 + n / 4096 % 64) % 256 = 128 + n / 4096 % 64 by omega, show (128 + n / 64 % 64) % 256 = 128 + n / 64 % 64 by omega, show (128 + n % 64) % 256 = 128 + n % 64 by omega])]
    exact Ev.now _
  by_cases c4 : n ≥ 55296
  · refine Ev.pos c4 ?_
    rw [decide_eq_false (by omega : ¬ n ≤ 57343)]; exact hj
  · refine Ev.neg c4 ?_; exact hj
theorem high_is (c : Nat) (h1 : 128 ≤ c) (h2 : c < 160) : muslinref04_high.f (c : Int) = some (highTab.getD (c - 128) 0) := by
  unfold muslinref04_high.f
  simp only [Option.bind_some]
  have e : (((c : Int) - 128) % 256) = ((c - 128 : Nat) : Int) := by omega
  rw [e, if_pos (by omega), if_pos (by simp; omega)]
  simp only [rd, Int.toNat_natCast]
  rfl
theorem enc_size (n : Int) : (⟨(Lib.encodeRune n).toArray⟩ : ByteArray).size ≤ 4 := by rw [mk_size]; exact (enc_len n).2
theorem singles_loop (s : ByteArray) (hs : s.size ≤ 35184372088832) : ∀ (n i : Nat) (acc : List UInt8), s.size - i ≤ n → i ≤ s.size → acc.length + 4 * (s.size - i) < 140737488355328 - 4 →
    Ev (fun k => muslinref04_Decode.l0 k s (intsOf acc) i) ((⟨(acc ++ singlesL (s.data.toList.drop i)).toArray⟩ : ByteArray), true) := by
  intro n
  induction n with
  | zero =>
    intro i acc h1 h2 h3
    refine Ev.round (fun k => by rw [muslinref04_Decode.l0]) ?_
    refine Ev.neg (by omega) ?_
    rw [strOf_ints, List.drop_eq_nil_of_le (by rw [sizeL]; omega)]
    simp only [singlesL, List.flatMap_nil, List.append_nil]
    exact Ev.now _
  | succ n ih =>
    intro i acc h1 h2 h3
    refine Ev.round (fun k => by rw [muslinref04_Decode.l0]) ?_
    by_cases hp : i < s.size
    · have hl : i < s.data.toList.length := by rw [sizeL]; exact hp
      refine Ev.pos (by omega) ?_
      refine Ev.pos (by omega) ?_
      have hc : bt s (i : Int) = (s.data.toList[i].toNat : Int) := bt_get s i hl
      have hd : singlesL (s.data.toList.drop i) = Lib.encodeRune (hiC s.data.toList[i]) ++ singlesL (s.data.toList.drop (i + 1)) := by
        rw [List.drop_eq_getElem_cons hl]; simp [singlesL]
      rw [hd]
      generalize hcc : s.data.toList[i] = c at *
      have h256 : c.toNat < 256 := UInt8.toNat_lt _
      have next : Ev (fun k => muslinref04_Decode.l0 k s (intsOf acc ++ bytesOf (⟨(Lib.encodeRune (hiC c)).toArray⟩ : ByteArray)) (wrap64 ((i : Int) + 1))) ((⟨(acc ++ (Lib.encodeRune (hiC c) ++ singlesL (s.data.toList.drop (i + 1)))).toArray⟩ : ByteArray), true) := by
        have hlen := enc_len (hiC c)
        rw [bytesOf_ints, mk_toList, ← intsOf_append, w64 (by omega) (by omega), ← List.append_assoc]
        exact ih (i + 1) (acc ++ Lib.encodeRune (hiC c)) (by omega) (by omega) (by rw [List.length_append]; omega)
      have hsz := enc_size (hiC c)
      rw [hc, w64 (x := (c.toNat : Int)) (by omega) (by omega)]
      by_cases c1 : 128 ≤ c.toNat ∧ c.toNat < 160
      · refine Ev.pos (by omega) ?_
        rw [decide_eq_true (by omega : (c.toNat : Int) < 160)]
        refine Ev.round (fun k => by rw [muslinref04_Decode.j1]) ?_
        refine Ev.pos rfl ?_
        refine Ev.pos (by omega) ?_
        refine Ev.pos (by omega) ?_
        rw [hc]
        have hh : hiC c = highTab.getD (c.toNat - 128) 0 := by unfold hiC; rw [if_pos c1]
        refine Ev.got (high_is c.toNat c1.1 c1.2) ?_
        rw [← hh]
        refine Ev.bind (sign_is (hiC c)) ?_
        refine Ev.pos (by rw [intsOf_length]; omega) ?_
        exact next
      · have hh : hiC c = (c.toNat : Int) := by unfold hiC; rw [if_neg c1]
        have hj : Ev (fun k => muslinref04_Decode.j1 k s (intsOf acc) i (c.toNat : Int) false) ((⟨(acc ++ (Lib.encodeRune (hiC c) ++ singlesL (s.data.toList.drop (i + 1)))).toArray⟩ : ByteArray), true) := by
          refine Ev.round (fun k => by rw [muslinref04_Decode.j1]) ?_
          refine Ev.neg Bool.false_ne_true ?_
          rw [← hh]
          refine Ev.bind (sign_is (hiC c)) ?_
          refine Ev.pos (by rw [intsOf_length]; omega) ?_
          exact next
        by_cases c2 : (c.toNat : Int) ≥ 128
        · refine Ev.pos c2 ?_
          rw [decide_eq_false (by omega : ¬ (c.toNat : Int) < 160)]; exact hj
        · refine Ev.neg c2 ?_; exact hj
    · refine Ev.neg (by omega) ?_
      rw [strOf_ints, List.drop_eq_nil_of_le (by rw [sizeL]; omega)]
      simp only [singlesL, List.flatMap_nil, List.append_nil]
      exact Ev.now _
def unitsL (u : UInt8 → UInt8 → Int) : List UInt8 → List Int
  | a :: b :: r => u a b :: unitsL u r
  | _ => []
def dblU : List Int → List UInt8
  | [] => []
  | [x] => Lib.encodeRune x
  | x :: y :: r =>
    if (55296 ≤ x ∧ x < 56320) ∧ (56320 ≤ y ∧ y ≤ 57343) then Lib.encodeRune (65536 + (x - 55296) * 1024 + y - 56320) ++ dblU r
    else Lib.encodeRune x ++ dblU (y :: r)
def badIf (b : Bool) : List UInt8 := if b then [239, 191, 189] else []
def oddL (l : List UInt8) : Bool := l.length % 2 == 1
theorem odd_two (a b : UInt8) (r : List UInt8) : oddL (a :: b :: r) = oddL r := by
  simp only [oddL, List.length_cons]
  congr 1; omega
theorem dblL_U (u : UInt8 → UInt8 → Int) : ∀ (n : Nat) (l : List UInt8), l.length ≤ n → dblL u l = dblU (unitsL u l) ++ badIf (oddL l) := by
  intro n
  induction n with
  | zero => intro l h; obtain rfl : l = [] := List.eq_nil_of_length_eq_zero (by omega); rfl
  | succ n ih =>
    intro l h
    match l with
    | [] => rfl
    | [a] => simp [dblL, unitsL, dblU, oddL, badIf, enc_65533]
    | [a, b] => simp [dblL, unitsL, dblU, oddL, badIf]
    | [a, b, c] => simp [dblL, unitsL, dblU, oddL, badIf, enc_65533]
    | a :: b :: c :: d :: r =>
      rw [odd_two, odd_two]
      simp only [dblL, unitsL, dblU]
      split
      · rw [ih r (by simp at h; omega), List.append_assoc]
      · have := ih (c :: d :: r) (by simp at h ⊢; omega)
        rw [odd_two] at this
        simp only [unitsL] at this
        rw [this, List.append_assoc]
theorem unitsL_len (u : UInt8 → UInt8 → Int) : ∀ (n : Nat) (l : List UInt8), l.length ≤ n → 2 * (unitsL u l).length ≤ l.length := by
  intro n
  induction n with
  | zero => intro l h; obtain rfl : l = [] := List.eq_nil_of_length_eq_zero (by omega); simp [unitsL]
  | succ n ih =>
    intro l h
    match l with
    | [] => simp [unitsL]
    | [a] => simp [unitsL]
    | a :: b :: r => have := ih r (by simp at h; omega); simp [unitsL]; omega
theorem unitsL_range (u : UInt8 → UInt8 → Int) (hu : ∀ a b, 0 ≤ u a b ∧ u a b ≤ 65535) : ∀ (n : Nat) (l : List UInt8), l.length ≤ n → ∀ x ∈ unitsL u l, 0 ≤ x ∧ x ≤ 65535 := by
  intro n
  induction n with
  | zero => intro l h; obtain rfl : l = [] := List.eq_nil_of_length_eq_zero (by omega); simp [unitsL]
  | succ n ih =>
    intro l h
    match l with
    | [] => simp [unitsL]
    | [a] => simp [unitsL]
    | a :: b :: r =>
      intro x hx
      simp only [unitsL, List.mem_cons] at hx
      rcases hx with rfl | hx
      · exact hu a b
      · exact ih r (by simp at h; omega) x hx
theorem units_loop (s : ByteArray) (hs : s.size ≤ 17592186044415) (hi : Bool) (u : UInt8 → UInt8 → Int) (hu : u = if hi then uBE else uLE) : ∀ (n i : Nat) (us : List Int), s.size - i ≤ n → i ≤ s.size → us.length ≤ i →
    Ev (fun k => muslinref04_units.l0 k s hi us i) (us ++ unitsL u (s.data.toList.drop i), ((s.size : Int) % 2 == 1)) := by
  intro n
  induction n with
  | zero =>
    intro i us h1 h2 h3
    refine Ev.round (fun k => by rw [muslinref04_units.l0]) ?_
    rw [w64 (x := (i : Int) + 1) (by omega) (by omega)]
    refine Ev.neg (by omega) ?_
    rw [List.drop_eq_nil_of_le (by rw [sizeL]; omega)]
    simp only [unitsL, List.append_nil]
    exact Ev.now _
  | succ n ih =>
    intro i us h1 h2 h3
    refine Ev.round (fun k => by rw [muslinref04_units.l0]) ?_
    rw [w64 (x := (i : Int) + 1) (by omega) (by omega), w64 (x := (i : Int) + 2) (by omega) (by omega)]
    by_cases hp : i + 1 < s.size
    · have hl0 : i < s.data.toList.length := by rw [sizeL]; omega
      have hl1 : i + 1 < s.data.toList.length := by rw [sizeL]; omega
      have hc0 : bt s (i : Int) = (s.data.toList[i].toNat : Int) := bt_get s i hl0
      have hc1 : bt s ((i : Int) + 1) = (s.data.toList[i + 1].toNat : Int) := bt_get s (i + 1) hl1
      have hd : unitsL u (s.data.toList.drop i) = u s.data.toList[i] s.data.toList[i + 1] :: unitsL u (s.data.toList.drop (i + 2)) := by
        rw [List.drop_eq_getElem_cons hl0, List.drop_eq_getElem_cons hl1]; rfl
      rw [hd]
      have h0 : s.data.toList[i].toNat < 256 := UInt8.toNat_lt _
      have h1' : s.data.toList[i + 1].toNat < 256 := UInt8.toNat_lt _
      refine Ev.pos (by omega) ?_
      have next : Ev (fun k => muslinref04_units.l0 k s hi (us ++ [u s.data.toList[i] s.data.toList[i + 1]]) ((i : Int) + 2)) (us ++ u s.data.toList[i] s.data.toList[i + 1] :: unitsL u (s.data.toList.drop (i + 2)), ((s.size : Int) % 2 == 1)) := by
        have := ih (i + 2) (us ++ [u s.data.toList[i] s.data.toList[i + 1]]) (by omega) (by omega) (by simp; omega)
        simpa using this
      rw [hc0, hc1]
      cases hi with
      | true =>
        refine Ev.pos rfl ?_
        refine Ev.pos (by omega) ?_
        refine Ev.pos (by omega) ?_
        refine Ev.pos (by omega) ?_
        refine Ev.pos (by omega) ?_
        have e : wrap64 (wrap64 (256 * wrap64 (s.data.toList[i].toNat : Int)) + wrap64 (s.data.toList[i + 1].toNat : Int)) = u s.data.toList[i] s.data.toList[i + 1] := by
          rw [hu, if_pos rfl, w64 (x := (s.data.toList[i].toNat : Int)) (by omega) (by omega), w64 (x := 256 * (s.data.toList[i].toNat : Int)) (by omega) (by omega), w64 (x := (s.data.toList[i + 1].toNat : Int)) (by omega) (by omega), w64 (by omega) (by omega)]
          rfl
        rw [e]; exact next
      | false =>
        refine Ev.neg Bool.false_ne_true ?_
        refine Ev.pos (by omega) ?_
        refine Ev.pos (by omega) ?_
        refine Ev.pos (by omega) ?_
        refine Ev.pos (by omega) ?_
        have e : wrap64 (wrap64 (256 * wrap64 (s.data.toList[i + 1].toNat : Int)) + wrap64 (s.data.toList[i].toNat : Int)) = u s.data.toList[i] s.data.toList[i + 1] := by
          rw [hu, if_neg Bool.false_ne_true, w64 (x := (s.data.toList[i + 1].toNat : Int)) (by omega) (by omega), w64 (x := 256 * (s.data.toList[i + 1].toNat : Int)) (by omega) (by omega), w64 (x := (s.data.toList[i].toNat : Int)) (by omega) (by omega), w64 (by omega) (by omega)]
          unfold uLE; omega
        rw [e]; exact next
    · refine Ev.neg (by omega) ?_
      have : unitsL u (s.data.toList.drop i) = [] := by
        have hl : (s.data.toList.drop i).length ≤ 1 := by simp; omega
        match s.data.toList.drop i, hl with
        | [], _ => rfl
        | [a], _ => rfl
      rw [this, List.append_nil]
      exact Ev.now _
theorem rd_get (us : List Int) (i : Nat) (h : i < us.length) : rd us (i : Int) = us[i] := by
  simp [rd, List.getD_eq_getElem?_getD, List.getElem?_eq_getElem h]
theorem dblU_alone (us : List Int) (x : Int) (r : List Int) (h : x < 55296 ∨ 56320 ≤ x ∨ r = [] ∨ ∃ y r', r = y :: r' ∧ (y < 56320 ∨ 57343 < y)) : dblU (x :: r) = Lib.encodeRune x ++ dblU r := by
  cases r with
  | nil => simp [dblU]
  | cons y r' =>
    have hn : ¬ ((55296 ≤ x ∧ x < 56320) ∧ (56320 ≤ y ∧ y ≤ 57343)) := by
      rcases h with h | h | h | ⟨y', r'', h, h'⟩
      · omega
      · omega
      · cases h
      · cases h; omega
    simp only [dblU, if_neg hn]
theorem doubles_loop (us : List Int) (hus : us.length ≤ 17592186044415) (hr : ∀ x ∈ us, 0 ≤ x ∧ x ≤ 65535) (left : Bool) : ∀ (n i : Nat) (acc : List UInt8), us.length - i ≤ n → i ≤ us.length → acc.length + 4 * (us.length - i) < 140737488355328 - 8 →
    Ev (fun k => muslinref04_Decode.l1 k (intsOf acc) us left i) ((⟨(acc ++ (dblU (us.drop i) ++ badIf left)).toArray⟩ : ByteArray), true) := by
  intro n
  induction n using Nat.strongRecOn with
  | ind n ih =>
  intro i acc h1 h2 h3
  refine Ev.round (fun k => by rw [muslinref04_Decode.l1]) ?_
  by_cases hp : i < us.length
  · have hx : rd us (i : Int) = us[i] := rd_get us i hp
    have hxr := hr us[i] (List.getElem_mem hp)
    have hd : us.drop i = us[i] :: us.drop (i + 1) := List.drop_eq_getElem_cons hp
    refine Ev.pos (by omega) ?_
    refine Ev.pos (by omega) ?_
    rw [w64 (x := (i : Int) + 1) (by omega) (by omega), hx]
    have alone : (us[i] < 55296 ∨ 56320 ≤ us[i] ∨ us.drop (i + 1) = [] ∨ ∃ y r', us.drop (i + 1) = y :: r' ∧ (y < 56320 ∨ 57343 < y)) →
        Ev (fun k => muslinref04_Decode.j4 k (intsOf acc) us left i false) ((⟨(acc ++ (dblU (us.drop i) ++ badIf left)).toArray⟩ : ByteArray), true) := by
      intro ha
      refine Ev.round (fun k => by rw [muslinref04_Decode.j4]) ?_
      refine Ev.neg Bool.false_ne_true ?_
      refine Ev.pos (by omega) ?_
      refine Ev.pos (by omega) ?_
      rw [hx, w64 (x := (i : Int) + 1) (by omega) (by omega)]
      refine Ev.bind (sign_is us[i]) ?_
      have hsz := enc_size us[i]
      have hlen := enc_len us[i]
      refine Ev.pos (by rw [intsOf_length]; omega) ?_
      rw [bytesOf_ints, mk_toList, ← intsOf_append, hd, dblU_alone us _ _ ha, List.append_assoc, ← List.append_assoc acc]
      exact ih (n - 1) (by omega) (i + 1) _ (by omega) (by omega) (by rw [List.length_append]; omega)
    by_cases c1 : us[i] ≥ 55296
    · refine Ev.pos c1 ?_
      by_cases c2 : us[i] ≤ 56319
      · refine Ev.pos c2 ?_
        by_cases c3 : i + 1 < us.length
        · have hy : rd us ((i : Int) + 1) = us[i + 1] := rd_get us (i + 1) c3
          have hyr := hr us[i + 1] (List.getElem_mem c3)
          have hd2 : us.drop (i + 1) = us[i + 1] :: us.drop (i + 2) := List.drop_eq_getElem_cons c3
          refine Ev.pos (by omega) ?_
          refine Ev.pos (by omega) ?_
          rw [hy]
          by_cases c4 : us[i + 1] ≥ 56320
          · refine Ev.pos c4 ?_
            by_cases c5 : us[i + 1] ≤ 57343
            · rw [decide_eq_true c5]
              refine Ev.round (fun k => by rw [muslinref04_Decode.j4]) ?_
              refine Ev.pos rfl ?_
              rw [w64 (x := (i : Int) + 1) (by omega) (by omega), hx, hy]
              refine Ev.pos (by omega) ?_
              refine Ev.pos (by omega) ?_
              refine Ev.pos (by omega) ?_
              refine Ev.pos (by omega) ?_
              have e : wrap64 (wrap64 (wrap64 (65536 + wrap64 (1024 * wrap64 (us[i] - 55296))) + us[i + 1]) - 56320) = 65536 + (us[i] - 55296) * 1024 + us[i + 1] - 56320 := by
                rw [w64 (x := us[i] - 55296) (by omega) (by omega), w64 (x := 1024 * (us[i] - 55296)) (by omega) (by omega), w64 (x := 65536 + 1024 * (us[i] - 55296)) (by omega) (by omega), w64 (x := 65536 + 1024 * (us[i] - 55296) + us[i + 1]) (by omega) (by omega), w64 (by omega) (by omega)]
                omega
              rw [e]
              refine Ev.bind (sign_is _) ?_
              have hsz := enc_size (65536 + (us[i] - 55296) * 1024 + us[i + 1] - 56320)
              have hlen := enc_len (65536 + (us[i] - 55296) * 1024 + us[i + 1] - 56320)
              refine Ev.pos (by rw [intsOf_length]; omega) ?_
              rw [bytesOf_ints, mk_toList, ← intsOf_append, hd, hd2]
              simp only [dblU]
              rw [if_pos (by omega), List.append_assoc, ← List.append_assoc acc, w64 (by omega) (by omega)]
              exact ih (n - 2) (by omega) (i + 2) _ (by omega) (by omega) (by rw [List.length_append]; omega)
            · rw [decide_eq_false c5]
              exact alone (.inr (.inr (.inr ⟨_, _, hd2, by omega⟩)))
          · refine Ev.neg c4 ?_
            exact alone (.inr (.inr (.inr ⟨_, _, hd2, by omega⟩)))
        · refine Ev.neg (by omega) ?_
          exact alone (.inr (.inr (.inl (List.drop_eq_nil_of_le (by omega)))))
      · refine Ev.neg c2 ?_
        exact alone (.inr (.inl (by omega)))
    · refine Ev.neg c1 ?_
      exact alone (.inl (by omega))
  · refine Ev.neg (by omega) ?_
    rw [List.drop_eq_nil_of_le (by omega)]
    cases left with
    | true =>
      refine Ev.pos rfl ?_
      refine Ev.pos (by rw [intsOf_length]; omega) ?_
      have hb : intsOf acc ++ bytesOf (⟨#[239, 191, 189]⟩ : ByteArray) = intsOf (acc ++ [239, 191, 189]) := by rw [intsOf_append]; rfl
      rw [hb, strOf_ints]
      simp only [dblU, badIf, List.nil_append, if_true]
      exact Ev.now _
    | false =>
      refine Ev.neg Bool.false_ne_true ?_
      rw [strOf_ints]
      simp only [dblU, badIf, List.nil_append, List.append_nil, Bool.false_eq_true, if_false]
      exact Ev.now _
end Go.Proofs.YtkfcbafjcjmfnaaGreatDoor.Pure
namespace Go.Proofs.YtkfcbafjcjmfnaaGreatDoor.Pure
open Go.RowKit Go.Proofs.YtkfcbafjcjmfnaaGreatDoor.C Go.Proofs.YtkfcbafjcjmfnaaGreatDoorW.PrintWords Go.Proofs.YtkfcbafjcjmfnaaGreatDoorW.PrintLast
set_option linter.unusedVariables false
set_option linter.unusedSimpArgs false
def knownL (t : List UInt8) : ByteArray × Bool :=
  if t = [117, 116, 102, 45, 56] ∨ t = [117, 116, 102, 56] ∨ t = [117, 110, 105, 99, 111, 100, 101, 45, 49, 45, 49, 45, 117, 116, 102, 45, 56] then ((⟨#[117, 116, 102, 45, 56]⟩ : ByteArray), true)
  else if t = [119, 105, 110, 100, 111, 119, 115, 45, 49, 50, 53, 50] ∨ t = [99, 112, 49, 50, 53, 50] ∨ t = [117, 115, 45, 97, 115, 99, 105, 105] ∨ t = [97, 115, 99, 105, 105] ∨ t = [105, 115, 111, 45, 56, 56, 53, 57, 45, 49] ∨ t = [105, 115, 111, 56, 56, 53, 57, 45, 49] ∨ t = [108, 97, 116, 105, 110, 49] ∨ t = [108, 49] then ((⟨#[119, 105, 110, 100, 111, 119, 115, 45, 49, 50, 53, 50]⟩ : ByteArray), true)
  else if t = [117, 116, 102, 45, 49, 54, 108, 101] ∨ t = [117, 116, 102, 45, 49, 54] ∨ t = [117, 110, 105, 99, 111, 100, 101] ∨ t = [117, 99, 115, 45, 50] then ((⟨#[117, 116, 102, 45, 49, 54, 108, 101]⟩ : ByteArray), true)
  else if t = [117, 116, 102, 45, 49, 54, 98, 101] ∨ t = [117, 110, 105, 99, 111, 100, 101, 102, 102, 102, 101] then ((⟨#[117, 116, 102, 45, 49, 54, 98, 101]⟩ : ByteArray), true)
  else ((⟨#[]⟩ : ByteArray), false)
set_option maxHeartbeats 1000000 in
theorem chars_Known_tail (t : ByteArray) : Ev (fun k => if t.toList = ([117, 116, 102, 45, 56] : List UInt8) then chars_Known.j0 k t (t.toList == ([117, 116, 102, 45, 56] : List UInt8)) else if t.toList = ([117, 116, 102, 56] : List UInt8) then chars_Known.j0 k t (t.toList == ([117, 116, 102, 56] : List UInt8)) else chars_Known.j0 k t (t.toList == ([117, 110, 105, 99, 111, 100, 101, 45, 49, 45, 49, 45, 117, 116, 102, 45, 56] : List UInt8))) (knownL t.data.toList) := by
  rw [← toList_eq]
  refine Ev.of (k := 3) (fun k => ?_) ?_
  · intro r h
    have m := fun x y => (chars_Known.mono_l k).1 x y
    split at h
    · rename_i c; rw [if_pos c]; exact m _ _ _ h
    · rename_i c; rw [if_neg c]
      split at h
      · rename_i c2; rw [if_pos c2]; exact m _ _ _ h
      · rename_i c2; rw [if_neg c2]; exact m _ _ _ h
  by_cases h0 : t.toList = [117, 116, 102, 45, 56]
  · simp [chars_Known.j0, chars_Known.j1, chars_Known.j2, h0, knownL]
  by_cases h1 : t.toList = [117, 116, 102, 56]
  · simp [chars_Known.j0, chars_Known.j1, chars_Known.j2, h1, knownL]
  by_cases h2 : t.toList = [117, 110, 105, 99, 111, 100, 101, 45, 49, 45, 49, 45, 117, 116, 102, 45, 56]
  · simp [chars_Known.j0, chars_Known.j1, chars_Known.j2, h2, knownL]
  by_cases h3 : t.toList = [119, 105, 110, 100, 111, 119, 115, 45, 49, 50, 53, 50]
  · simp [chars_Known.j0, chars_Known.j1, chars_Known.j2, h3, knownL]
  by_cases h4 : t.toList = [99, 112, 49, 50, 53, 50]
  · simp [chars_Known.j0, chars_Known.j1, chars_Known.j2, h4, knownL]
  by_cases h5 : t.toList = [117, 115, 45, 97, 115, 99, 105, 105]
  · simp [chars_Known.j0, chars_Known.j1, chars_Known.j2, h5, knownL]
  by_cases h6 : t.toList = [97, 115, 99, 105, 105]
  · simp [chars_Known.j0, chars_Known.j1, chars_Known.j2, h6, knownL]
  by_cases h7 : t.toList = [105, 115, 111, 45, 56, 56, 53, 57, 45, 49]
  · simp [chars_Known.j0, chars_Known.j1, chars_Known.j2, h7, knownL]
  by_cases h8 : t.toList = [105, 115, 111, 56, 56, 53, 57, 45, 49]
  · simp [chars_Known.j0, chars_Known.j1, chars_Known.j2, h8, knownL]
  by_cases h9 : t.toList = [108, 97, 116, 105, 110, 49]
  · simp [chars_Known.j0, chars_Known.j1, chars_Known.j2, h9, knownL]
  by_cases h10 : t.toList = [108, 49]
  · simp [chars_Known.j0, chars_Known.j1, chars_Known.j2, h10, knownL]
  by_cases h11 : t.toList = [117, 116, 102, 45, 49, 54, 108, 101]
  · simp [chars_Known.j0, chars_Known.j1, chars_Known.j2, h11, knownL]
  by_cases h12 : t.toList = [117, 116, 102, 45, 49, 54]
  · simp [chars_Known.j0, chars_Known.j1, chars_Known.j2, h12, knownL]
  by_cases h13 : t.toList = [117, 110, 105, 99, 111, 100, 101]
  · simp [chars_Known.j0, chars_Known.j1, chars_Known.j2, h13, knownL]
  by_cases h14 : t.toList = [117, 99, 115, 45, 50]
  · simp [chars_Known.j0, chars_Known.j1, chars_Known.j2, h14, knownL]
  by_cases h15 : t.toList = [117, 116, 102, 45, 49, 54, 98, 101]
  · simp [chars_Known.j0, chars_Known.j1, chars_Known.j2, h15, knownL]
  by_cases h16 : t.toList = [117, 110, 105, 99, 111, 100, 101, 102, 102, 102, 101]
  · simp [chars_Known.j0, chars_Known.j1, chars_Known.j2, h16, knownL]
  simp [chars_Known.j0, chars_Known.j1, chars_Known.j2, knownL, h0, h1, h2, h3, h4, h5, h6, h7, h8, h9, h10, h11, h12, h13, h14, h15, h16]
set_option maxHeartbeats 1000000 in
theorem muslinref04_Known_tail (t : ByteArray) : Ev (fun k => if t.toList = ([117, 116, 102, 45, 56] : List UInt8) then muslinref04_Known.j0 k t (t.toList == ([117, 116, 102, 45, 56] : List UInt8)) else if t.toList = ([117, 116, 102, 56] : List UInt8) then muslinref04_Known.j0 k t (t.toList == ([117, 116, 102, 56] : List UInt8)) else muslinref04_Known.j0 k t (t.toList == ([117, 110, 105, 99, 111, 100, 101, 45, 49, 45, 49, 45, 117, 116, 102, 45, 56] : List UInt8))) (knownL t.data.toList) := by
  rw [← toList_eq]
  refine Ev.of (k := 3) (fun k => ?_) ?_
  · intro r h
    have m := fun x y => (muslinref04_Known.mono_l k).1 x y
    split at h
    · rename_i c; rw [if_pos c]; exact m _ _ _ h
    · rename_i c; rw [if_neg c]
      split at h
      · rename_i c2; rw [if_pos c2]; exact m _ _ _ h
      · rename_i c2; rw [if_neg c2]; exact m _ _ _ h
  by_cases h0 : t.toList = [117, 116, 102, 45, 56]
  · simp [muslinref04_Known.j0, muslinref04_Known.j1, muslinref04_Known.j2, h0, knownL]
  by_cases h1 : t.toList = [117, 116, 102, 56]
  · simp [muslinref04_Known.j0, muslinref04_Known.j1, muslinref04_Known.j2, h1, knownL]
  by_cases h2 : t.toList = [117, 110, 105, 99, 111, 100, 101, 45, 49, 45, 49, 45, 117, 116, 102, 45, 56]
  · simp [muslinref04_Known.j0, muslinref04_Known.j1, muslinref04_Known.j2, h2, knownL]
  by_cases h3 : t.toList = [119, 105, 110, 100, 111, 119, 115, 45, 49, 50, 53, 50]
  · simp [muslinref04_Known.j0, muslinref04_Known.j1, muslinref04_Known.j2, h3, knownL]
  by_cases h4 : t.toList = [99, 112, 49, 50, 53, 50]
  · simp [muslinref04_Known.j0, muslinref04_Known.j1, muslinref04_Known.j2, h4, knownL]
  by_cases h5 : t.toList = [117, 115, 45, 97, 115, 99, 105, 105]
  · simp [muslinref04_Known.j0, muslinref04_Known.j1, muslinref04_Known.j2, h5, knownL]
  by_cases h6 : t.toList = [97, 115, 99, 105, 105]
  · simp [muslinref04_Known.j0, muslinref04_Known.j1, muslinref04_Known.j2, h6, knownL]
  by_cases h7 : t.toList = [105, 115, 111, 45, 56, 56, 53, 57, 45, 49]
  · simp [muslinref04_Known.j0, muslinref04_Known.j1, muslinref04_Known.j2, h7, knownL]
  by_cases h8 : t.toList = [105, 115, 111, 56, 56, 53, 57, 45, 49]
  · simp [muslinref04_Known.j0, muslinref04_Known.j1, muslinref04_Known.j2, h8, knownL]
  by_cases h9 : t.toList = [108, 97, 116, 105, 110, 49]
  · simp [muslinref04_Known.j0, muslinref04_Known.j1, muslinref04_Known.j2, h9, knownL]
  by_cases h10 : t.toList = [108, 49]
  · simp [muslinref04_Known.j0, muslinref04_Known.j1, muslinref04_Known.j2, h10, knownL]
  by_cases h11 : t.toList = [117, 116, 102, 45, 49, 54, 108, 101]
  · simp [muslinref04_Known.j0, muslinref04_Known.j1, muslinref04_Known.j2, h11, knownL]
  by_cases h12 : t.toList = [117, 116, 102, 45, 49, 54]
  · simp [muslinref04_Known.j0, muslinref04_Known.j1, muslinref04_Known.j2, h12, knownL]
  by_cases h13 : t.toList = [117, 110, 105, 99, 111, 100, 101]
  · simp [muslinref04_Known.j0, muslinref04_Known.j1, muslinref04_Known.j2, h13, knownL]
  by_cases h14 : t.toList = [117, 99, 115, 45, 50]
  · simp [muslinref04_Known.j0, muslinref04_Known.j1, muslinref04_Known.j2, h14, knownL]
  by_cases h15 : t.toList = [117, 116, 102, 45, 49, 54, 98, 101]
  · simp [muslinref04_Known.j0, muslinref04_Known.j1, muslinref04_Known.j2, h15, knownL]
  by_cases h16 : t.toList = [117, 110, 105, 99, 111, 100, 101, 102, 102, 102, 101]
  · simp [muslinref04_Known.j0, muslinref04_Known.j1, muslinref04_Known.j2, h16, knownL]
  simp [muslinref04_Known.j0, muslinref04_Known.j1, muslinref04_Known.j2, knownL, h0, h1, h2, h3, h4, h5, h6, h7, h8, h9, h10, h11, h12, h13, h14, h15, h16]
def rdrop (p : UInt8 → Bool) (l : List UInt8) : List UInt8 := (l.reverse.dropWhile p).reverse
theorem rdrop_cons (p : UInt8 → Bool) (x : UInt8) (xs : List UInt8) : rdrop p (x :: xs) = if rdrop p xs = [] then (if p x then [] else [x]) else x :: rdrop p xs := by
  unfold rdrop
  rw [List.reverse_cons, List.dropWhile_append]
  by_cases h : xs.reverse.dropWhile p = []
  · simp only [h, List.isEmpty_nil, if_true, List.reverse_nil]
    by_cases hx : p x = true
    · simp [hx]
    · simp [hx]
  · have h2 : (xs.reverse.dropWhile p).isEmpty = false := by
      cases hh : xs.reverse.dropWhile p with
      | nil => exact absurd hh h
      | cons a b => rfl
    simp [h2, h]
theorem drop_rdrop (p : UInt8 → Bool) : ∀ l : List UInt8, (rdrop p l).dropWhile p = rdrop p (l.dropWhile p) := by
  intro l
  induction l with
  | nil => rfl
  | cons x xs ih =>
    rw [rdrop_cons]
    by_cases hx : p x = true
    · rw [List.dropWhile_cons_of_pos hx, ← ih]
      by_cases h : rdrop p xs = []
      · rw [if_pos h, if_pos hx, h]
      · rw [if_neg h, List.dropWhile_cons_of_pos hx]
    · rw [List.dropWhile_cons_of_neg hx, rdrop_cons]
      by_cases h : rdrop p xs = []
      · rw [if_pos h, if_neg hx, List.dropWhile_cons_of_neg hx]
      · rw [if_neg h, List.dropWhile_cons_of_neg hx]
def isSp (c : UInt8) : Bool := [32, 9, 10, 12, 13].contains c
theorem trimS_sp (l : List UInt8) : Lib.trimS l [32, 9, 10, 12, 13] = rdrop isSp (l.dropWhile isSp) := by
  rw [← drop_rdrop]; rfl
theorem space_is (c : UInt8) : muslinref04_Space.f (c.toNat : Int) = some (isSp c) := by
  have : ∀ c : Fin 256, muslinref04_Space.f (c.val : Int) = some (isSp (UInt8.ofNat c.val)) := by decide +kernel
  have h := this ⟨c.toNat, UInt8.toNat_lt c⟩
  simpa using h
theorem small_got (s : ByteArray) (h : s.size ≤ 9223372036854775807) : muslinref03_Small.f s = some (lowS s) := guard_of h
theorem clean_right : ∀ (n : Nat) (s : ByteArray), s.size ≤ n → s.size ≤ 9223372036854775000 → Ev (fun k => muslinref04_clean.l1 k s) (lowS ⟨(rdrop isSp s.data.toList).toArray⟩) := by
  intro n
  induction n with
  | zero =>
    intro s h h2
    refine Ev.round (fun k => by rw [muslinref04_clean.l1]) ?_
    refine Ev.neg (by omega) ?_
    refine Ev.got (small_got s (by omega)) ?_
    have : s.data.toList = [] := List.eq_nil_of_length_eq_zero (by rw [sizeL]; omega)
    have e : (⟨(rdrop isSp s.data.toList).toArray⟩ : ByteArray) = s := ba_ext (by rw [mk_toList, this]; rfl)
    rw [e]; exact Ev.now _
  | succ n ih =>
    intro s h h2
    refine Ev.round (fun k => by rw [muslinref04_clean.l1]) ?_
    by_cases h0 : s.size = 0
    · refine Ev.neg (by omega) ?_
      refine Ev.got (small_got s (by omega)) ?_
      have : s.data.toList = [] := List.eq_nil_of_length_eq_zero (by rw [sizeL]; omega)
      have e : (⟨(rdrop isSp s.data.toList).toArray⟩ : ByteArray) = s := ba_ext (by rw [mk_toList, this]; rfl)
      rw [e]; exact Ev.now _
    · have hl := sizeL s
      have hlast : s.size - 1 < s.data.toList.length := by omega
      rw [w64 (x := (s.size : Int) - 1) (by omega) (by omega)]
      refine Ev.pos (by omega) ?_
      refine Ev.pos (by omega) ?_
      refine Ev.pos (by omega) ?_
      have e1 : ((s.size : Int) - 1) = ((s.size - 1 : Nat) : Int) := by omega
      rw [e1, bt_get s (s.size - 1) hlast]
      refine Ev.got (space_is _) ?_
      have hsplit : s.data.toList = s.data.toList.take (s.size - 1) ++ [s.data.toList[s.size - 1]] := by
        rw [List.take_append_getElem hlast, List.take_of_length_le (by omega)]
      by_cases hc : isSp s.data.toList[s.size - 1] = true
      · refine Ev.pos hc ?_
        refine Ev.pos (by omega) ?_
        have hx : (s.extract 0 (((s.size - 1 : Nat) : Int)).toNat).data.toList = s.data.toList.take (s.size - 1) := by
          rw [extract_list, Int.toNat_natCast, List.drop_zero]
        have hr : rdrop isSp s.data.toList = rdrop isSp (s.data.toList.take (s.size - 1)) := by
          conv => lhs; rw [hsplit]
          unfold rdrop
          rw [List.reverse_append, List.reverse_singleton, List.singleton_append, List.dropWhile_cons_of_pos hc]
        have := ih (s.extract 0 (((s.size - 1 : Nat) : Int)).toNat) (by rw [← sizeL, hx, List.length_take]; omega) (by rw [← sizeL, hx, List.length_take]; omega)
        rw [hx, ← hr] at this
        exact this
      · refine Ev.neg hc ?_
        refine Ev.got (small_got s (by omega)) ?_
        have hr : rdrop isSp s.data.toList = s.data.toList := by
          conv => lhs; rw [hsplit]
          unfold rdrop
          rw [List.reverse_append, List.reverse_singleton, List.singleton_append, List.dropWhile_cons_of_neg hc]
          conv => rhs; rw [hsplit]
          simp
        have e : (⟨(rdrop isSp s.data.toList).toArray⟩ : ByteArray) = s := ba_ext (by rw [mk_toList, hr])
        rw [e]; exact Ev.now _
theorem clean_left : ∀ (n : Nat) (s : ByteArray), s.size ≤ n → s.size ≤ 9223372036854775000 → Ev (fun k => muslinref04_clean.l0 k s) (lowS ⟨(rdrop isSp (s.data.toList.dropWhile isSp)).toArray⟩) := by
  intro n
  induction n with
  | zero =>
    intro s h h2
    refine Ev.round (fun k => by rw [muslinref04_clean.l0]) ?_
    refine Ev.neg (by omega) ?_
    refine Ev.round (fun k => by rw [muslinref04_clean.j1]) ?_
    have : s.data.toList = [] := List.eq_nil_of_length_eq_zero (by rw [sizeL]; omega)
    have h3 := clean_right 0 s (by omega) (by omega)
    rw [this] at h3 ⊢
    exact h3
  | succ n ih =>
    intro s h h2
    refine Ev.round (fun k => by rw [muslinref04_clean.l0]) ?_
    by_cases h0 : s.size = 0
    · refine Ev.neg (by omega) ?_
      refine Ev.round (fun k => by rw [muslinref04_clean.j1]) ?_
      have : s.data.toList = [] := List.eq_nil_of_length_eq_zero (by rw [sizeL]; omega)
      have h3 := clean_right 0 s (by omega) (by omega)
      rw [this] at h3 ⊢
      exact h3
    · have hl := sizeL s
      have hfirst : 0 < s.data.toList.length := by omega
      refine Ev.pos (by omega) ?_
      refine Ev.pos (by omega) ?_
      rw [show bt s 0 = _ from bt_get s 0 hfirst]
      refine Ev.got (space_is _) ?_
      have hsplit : s.data.toList = s.data.toList[0] :: s.data.toList.drop 1 := by
        rw [← List.drop_eq_getElem_cons hfirst, List.drop_zero]
      by_cases hc : isSp s.data.toList[0] = true
      · refine Ev.pos hc ?_
        refine Ev.pos (by omega) ?_
        have hx : (s.extract 1 s.size).data.toList = s.data.toList.drop 1 := by
          rw [extract_list, List.take_of_length_le (by omega)]
        have hr : s.data.toList.dropWhile isSp = (s.data.toList.drop 1).dropWhile isSp := by
          conv => lhs; rw [hsplit]
          rw [List.dropWhile_cons_of_pos hc]
        have := ih (s.extract 1 s.size) (by rw [← sizeL, hx, List.length_drop]; omega) (by rw [← sizeL, hx, List.length_drop]; omega)
        rw [hx, ← hr] at this
        exact this
      · refine Ev.neg hc ?_
        refine Ev.round (fun k => by rw [muslinref04_clean.j1]) ?_
        have hr : s.data.toList.dropWhile isSp = s.data.toList := by
          conv => lhs; rw [hsplit]
          rw [List.dropWhile_cons_of_neg hc, ← hsplit]
        rw [hr]
        exact clean_right s.size s (by omega) h2
def labelL (a : ByteArray) : List UInt8 := (rdrop isSp (a.data.toList.dropWhile isSp)).map lowC
theorem trim_got (a : ByteArray) (h : a.size ≤ 9223372036854775000) : strings_Trim.f a (⟨#[32, 9, 10, 12, 13]⟩ : ByteArray) = some ⟨(rdrop isSp (a.data.toList.dropWhile isSp)).toArray⟩ := by
  unfold strings_Trim.f
  rw [if_pos ⟨by omega, by decide, by decide⟩]
  rw [show (⟨#[32, 9, 10, 12, 13]⟩ : ByteArray).data.toList = [32, 9, 10, 12, 13] from rfl, trimS_sp]
theorem rdrop_len (p : UInt8 → Bool) (l : List UInt8) : (rdrop p l).length ≤ l.length := by
  unfold rdrop
  rw [List.length_reverse]
  have := (List.dropWhile_sublist (p := p) (l := l.reverse)).length_le
  simpa using this
theorem known_is (a : ByteArray) (h : a.size ≤ 5000) : Ev (fun k => chars_Known.f k a) (knownL (labelL a)) := by
  unfold chars_Known.f
  refine Ev.got (trim_got a (by omega)) ?_
  have h1 := rdrop_len isSp (a.data.toList.dropWhile isSp)
  have h2 := (List.dropWhile_sublist (p := isSp) (l := a.data.toList)).length_le
  rw [sizeL] at h2
  refine Ev.got (x := chars_small.f _) (guard_of (by rw [mk_size]; omega)) ?_
  exact chars_Known_tail _
theorem refKnown_is (a : ByteArray) (h : a.size ≤ 5000) : Ev (fun k => muslinref04_Known.f k a) (knownL (labelL a)) := by
  unfold muslinref04_Known.f muslinref04_clean.f
  refine Ev.bind (clean_left a.size a (by omega) (by omega)) ?_
  exact muslinref04_Known_tail _
end Go.Proofs.YtkfcbafjcjmfnaaGreatDoor.Pure
namespace Go.Proofs.YtkfcbafjcjmfnaaGreatDoor.Pure
open Go.RowKit Go.Proofs.YtkfcbafjcjmfnaaGreatDoor.C Go.Proofs.YtkfcbafjcjmfnaaGreatDoorW.PrintWords Go.Proofs.YtkfcbafjcjmfnaaGreatDoorW.PrintLast
set_option linter.unusedVariables false
set_option linter.unusedSimpArgs false
def nUtf : ByteArray := ⟨#[117, 116, 102, 45, 56]⟩
def nLat : ByteArray := ⟨#[119, 105, 110, 100, 111, 119, 115, 45, 49, 50, 53, 50]⟩
def nLe : ByteArray := ⟨#[117, 116, 102, 45, 49, 54, 108, 101]⟩
def nBe : ByteArray := ⟨#[117, 116, 102, 45, 49, 54, 98, 101]⟩
def nNone : ByteArray := ⟨#[]⟩
theorem known_cases (t : List UInt8) : knownL t = (nUtf, true) ∨ knownL t = (nLat, true) ∨ knownL t = (nLe, true) ∨ knownL t = (nBe, true) ∨ knownL t = (nNone, false) := by
  unfold knownL
  split
  · exact .inl rfl
  · split
    · exact .inr (.inl rfl)
    · split
      · exact .inr (.inr (.inl rfl))
      · split
        · exact .inr (.inr (.inr (.inl rfl)))
        · exact .inr (.inr (.inr (.inr rfl)))
def decL (n : ByteArray) (l : List UInt8) : List UInt8 :=
  if n.data.toList = nLat.data.toList then singlesL l else if n.data.toList = nLe.data.toList then dblL uLE l else if n.data.toList = nBe.data.toList then dblL uBE l else vl l
theorem nameEq {n : ByteArray} {l : List UInt8} (h : n.data.toList = l) : n.toList = l := by rw [toList_eq]; exact h
theorem nameNe {n : ByteArray} {l : List UInt8} (h : n.data.toList ≠ l) : ¬ n.toList = l := by rw [toList_eq]; exact h
theorem decode_is (a s : ByteArray) (ha : a.size ≤ 5000) (hs : s.size ≤ 11000000) : Ev (fun k => chars_Decode.f k a s) ((⟨(decL (knownL (labelL a)).1 s.data.toList).toArray⟩ : ByteArray), (knownL (labelL a)).2) := by
  unfold chars_Decode.f
  refine Ev.bind (known_is a ha) ?_
  have h5 : s.size ≤ 35184372088832 := by omega
  have hv : Ev (fun _ => (chars_Valid.f s).bind fun t => some (t, (knownL (labelL a)).2)) ((⟨(vl s.data.toList).toArray⟩ : ByteArray), (knownL (labelL a)).2) := by
    refine Ev.got (x := chars_Valid.f s) (guard_of h5) ?_
    rw [validS_eq]; exact Ev.now _
  rcases known_cases (labelL a) with h | h | h | h | h
  · rw [h] at hv ⊢
    refine Ev.neg (nameNe (by decide)) ?_
    refine Ev.neg (nameNe (by decide)) ?_
    refine Ev.neg (nameNe (by decide)) ?_
    exact hv
  · rw [h]
    refine Ev.pos (nameEq (by decide)) ?_
    refine Ev.got (x := chars_singles.f s) (guard_of h5) ?_
    exact Ev.now _
  · rw [h]
    refine Ev.neg (nameNe (by decide)) ?_
    refine Ev.pos (nameEq (by decide)) ?_
    refine Ev.got (x := chars_doubles.f s 0 8) (guard_of ⟨h5, .inl ⟨rfl, rfl⟩⟩) ?_
    exact Ev.now _
  · rw [h]
    refine Ev.neg (nameNe (by decide)) ?_
    refine Ev.neg (nameNe (by decide)) ?_
    refine Ev.pos (nameEq (by decide)) ?_
    refine Ev.got (x := chars_doubles.f s 8 0) (guard_of ⟨h5, .inr ⟨rfl, rfl⟩⟩) ?_
    exact Ev.now _
  · rw [h] at hv ⊢
    refine Ev.neg (nameNe (by decide)) ?_
    refine Ev.neg (nameNe (by decide)) ?_
    refine Ev.neg (nameNe (by decide)) ?_
    exact hv
theorem odd_size (s : ByteArray) : ((s.size : Int) % 2 == 1) = oddL s.data.toList := by
  unfold oddL
  rw [sizeL]
  by_cases h : s.size % 2 = 1
  · rw [h]; simp; omega
  · have : s.size % 2 = 0 := by omega
    rw [this]; simp; omega
theorem refDoubles (s : ByteArray) (hs : s.size ≤ 5000) (hi : Bool) (u : UInt8 → UInt8 → Int) (hu : u = if hi then uBE else uLE) (hr : ∀ a b, 0 ≤ u a b ∧ u a b ≤ 65535) :
    Ev (fun k => (muslinref04_units.f k s hi).bind fun bt => muslinref04_Decode.l1 k [] bt.1 bt.2 0) ((⟨(dblL u s.data.toList).toArray⟩ : ByteArray), true) := by
  have h1 := units_loop s (by omega) hi u hu s.size 0 [] (by omega) (by omega) (by simp)
  simp only [List.drop_zero, List.nil_append] at h1
  refine Ev.bind h1 ?_
  have hl := unitsL_len u _ s.data.toList (Nat.le_refl _)
  rw [sizeL] at hl
  have h2 := doubles_loop (unitsL u s.data.toList) (by omega) (unitsL_range u hr _ _ (Nat.le_refl _)) ((s.size : Int) % 2 == 1) (unitsL u s.data.toList).length 0 [] (by omega) (by omega) (by simp; omega)
  rw [odd_size] at h2 ⊢
  simp only [List.drop_zero, List.nil_append] at h2
  rw [dblL_U u _ s.data.toList (Nat.le_refl _)]
  exact h2
theorem refDecode_is (a s : ByteArray) (ha : a.size ≤ 5000) (hs : s.size ≤ 5000) : Ev (fun k => muslinref04_Decode.f k a s) ((⟨(decL (knownL (labelL a)).1 s.data.toList).toArray⟩ : ByteArray), (knownL (labelL a)).2) := by
  unfold muslinref04_Decode.f
  refine Ev.bind (refKnown_is a ha) ?_
  have hv : ∀ n b, Ev (fun k => muslinref04_Decode.j2 k s n b [] false) ((⟨(vl s.data.toList).toArray⟩ : ByteArray), b) := by
    intro n b
    refine Ev.round (fun k => by rw [muslinref04_Decode.j2]) ?_
    refine Ev.neg Bool.false_ne_true ?_
    refine Ev.bind (refValid_is s (by omega)) ?_
    rw [validS_eq]; exact Ev.now _
  rcases known_cases (labelL a) with h | h | h | h | h
  · rw [h]
    refine Ev.neg (nameNe (by decide)) ?_
    refine Ev.neg (nameNe (by decide)) ?_
    rw [show ((nUtf, true).1.toList == ([117, 116, 102, 45, 49, 54, 98, 101] : List UInt8)) = false from by rw [toList_eq]; decide]
    exact hv _ _
  · rw [h]
    refine Ev.pos (nameEq (by decide)) ?_
    have := singles_loop s (by omega) s.size 0 [] (by omega) (by omega) (by simp; omega)
    simp only [List.drop_zero, List.nil_append] at this
    exact this
  · rw [h]
    refine Ev.neg (nameNe (by decide)) ?_
    refine Ev.pos (nameEq (by decide)) ?_
    refine Ev.round (fun k => by rw [muslinref04_Decode.j2]) ?_
    refine Ev.pos (by rw [toList_eq]; decide) ?_
    rw [show ((nLe, true).1.toList == ([117, 116, 102, 45, 49, 54, 98, 101] : List UInt8)) = false from by rw [toList_eq]; decide]
    exact refDoubles s hs false uLE rfl uLE_range
  · rw [h]
    refine Ev.neg (nameNe (by decide)) ?_
    refine Ev.neg (nameNe (by decide)) ?_
    refine Ev.round (fun k => by rw [muslinref04_Decode.j2]) ?_
    refine Ev.pos (by rw [toList_eq]; decide) ?_
    rw [show ((nBe, true).1.toList == ([117, 116, 102, 45, 49, 54, 98, 101] : List UInt8)) = true from by rw [toList_eq]; decide]
    exact refDoubles s hs true uBE rfl uBE_range
  · rw [h]
    refine Ev.neg (nameNe (by decide)) ?_
    refine Ev.neg (nameNe (by decide)) ?_
    rw [show ((nNone, false).1.toList == ([117, 116, 102, 45, 49, 54, 98, 101] : List UInt8)) = false from by rw [toList_eq]; decide]
    exact hv _ _
theorem enc_len3 (r : Int) (h : r ≤ 65535) : (Lib.encodeRune r).length ≤ 3 := by
  simp only [Lib.encodeRune, List.length_map, Lib.encodeRuneZ]
  split
  · simp
  · split
    · simp
    · split
      · simp
      · split
        · omega
        · simp
theorem singles_len (l : List UInt8) : (singlesL l).length ≤ 3 * l.length := by
  induction l with
  | nil => simp [singlesL]
  | cons c r ih =>
    have h := enc_len3 (hiC c) (hiC_range c).2
    have e : singlesL (c :: r) = Lib.encodeRune (hiC c) ++ singlesL r := by simp [singlesL]
    rw [e, List.length_append, List.length_cons]; omega
end Go.Proofs.YtkfcbafjcjmfnaaGreatDoor.Pure
namespace Go.Proofs.YtkfcbafjcjmfnaaGreatDoor.Num
open Go.RowKit Go.Proofs.YtkfcbafjcjmfnaaGreatDoor.Row
set_option linter.unusedVariables false
set_option linter.unusedSimpArgs false
def hexV (c : UInt8) : Nat := if 48 ≤ c ∧ c ≤ 57 then c.toNat - 48 else if 65 ≤ c ∧ c ≤ 70 then c.toNat - 55 else if 97 ≤ c ∧ c ≤ 102 then c.toNat - 87 else 99
def digG (base : Nat) : List UInt8 → Nat → Option Nat
  | [], v => some v
  | c :: r, v => if hexV c < base then digG base r (v * base + hexV c) else none
def lowV (c : Nat) : Nat := c ||| 32
theorem digG_bound (base : Nat) (l : List UInt8) (v n : Nat) (h : digG base l v = some n) : v * base ^ l.length ≤ n ∧ n < (v + 1) * base ^ l.length := by
  induction l generalizing v with
  | nil =>
    have e : v = n := Option.some.inj h
    subst e
    simp
  | cons c r ih =>
    unfold digG at h
    by_cases hc : hexV c < base
    · rw [if_pos hc] at h
      obtain ⟨h1, h2⟩ := ih _ h
      rw [List.length_cons, Nat.pow_succ]
      constructor
      · refine Nat.le_trans ?_ h1
        rw [Nat.mul_comm (base ^ r.length) base, ← Nat.mul_assoc]
        exact Nat.mul_le_mul_right _ (Nat.le_add_right _ _)
      · refine Nat.lt_of_lt_of_le h2 ?_
        rw [Nat.mul_comm (base ^ r.length) base, ← Nat.mul_assoc]
        refine Nat.mul_le_mul_right _ ?_
        rw [Nat.add_mul]
        omega
    · rw [if_neg hc] at h; simp at h
theorem dig_cases (c : UInt8) : (48 ≤ c.toNat ∧ c.toNat ≤ 57 ∧ hexV c = c.toNat - 48) ∨
    ((c.toNat < 48 ∨ 57 < c.toNat) ∧ 97 ≤ lowV c.toNat ∧ lowV c.toNat ≤ 122 ∧ ¬ c.toNat = 95 ∧ (hexV c = lowV c.toNat - 87 ∨ (103 ≤ lowV c.toNat ∧ hexV c = 99)) ∧ 10 ≤ hexV c) ∨
    ((c.toNat < 48 ∨ 57 < c.toNat) ∧ (lowV c.toNat < 97 ∨ 122 < lowV c.toNat) ∧ hexV c = 99) := by
  have h : ∀ n : Fin 256, (48 ≤ (UInt8.ofNat n.val).toNat ∧ (UInt8.ofNat n.val).toNat ≤ 57 ∧ hexV (UInt8.ofNat n.val) = (UInt8.ofNat n.val).toNat - 48) ∨
    (((UInt8.ofNat n.val).toNat < 48 ∨ 57 < (UInt8.ofNat n.val).toNat) ∧ 97 ≤ lowV (UInt8.ofNat n.val).toNat ∧ lowV (UInt8.ofNat n.val).toNat ≤ 122 ∧ ¬ (UInt8.ofNat n.val).toNat = 95 ∧ (hexV (UInt8.ofNat n.val) = lowV (UInt8.ofNat n.val).toNat - 87 ∨ (103 ≤ lowV (UInt8.ofNat n.val).toNat ∧ hexV (UInt8.ofNat n.val) = 99)) ∧ 10 ≤ hexV (UInt8.ofNat n.val)) ∨
    (((UInt8.ofNat n.val).toNat < 48 ∨ 57 < (UInt8.ofNat n.val).toNat) ∧ (lowV (UInt8.ofNat n.val).toNat < 97 ∨ 122 < lowV (UInt8.ofNat n.val).toNat) ∧ hexV (UInt8.ofNat n.val) = 99) := by decide +kernel
  have h2 := h ⟨c.toNat, UInt8.toNat_lt c⟩
  simpa using h2
set_option maxRecDepth 100000 in
theorem lower_c (c : Nat) (hc : c < 256) (w : World) : Calls Tryz.prog 85 #[.int .u8 (c : Int)] w fun e w' => e = .returned (.int .u8 (lowV c : Int)) ∧ w' = w := by
  go_enter Tryz.func85, Tryz.ntmps85
  go_wp2
  go_ret
  have h : ∀ n : Fin 256, bits BinOp.or IntKind.u8 ((n.val : Nat) : Int) 32 = ((lowV n.val : Nat) : Int) := by decide +kernel
  exact ⟨by rw [← h ⟨c, hc⟩]; rfl, rfl⟩
theorem low_le (c : Nat) (hc : c < 256) : lowV c < 256 := by
  have h : ∀ n : Fin 256, lowV n.val < 256 := by decide +kernel
  exact h ⟨c, hc⟩
def ansV : Option Nat → Value
  | some v => .tuple #[.int .u64 (v : Int), .nilIface]
  | none => .tuple #[.int .u64 0, .iface 113 (.int .i64 2)]
theorem filled (s : ByteArray) (h : 1 ≤ s.size) : s.toList.isEmpty = false := by
  rw [ByteArray.toList_eq]
  cases hk : s.data.toList with
  | nil => exact absurd (by rw [← ByteArray.size_data, ← Array.length_toList, hk]; rfl) (show s.size ≠ 0 by omega)
  | cons => rfl
attribute [local irreducible] ansV
theorem pow_le (base k : Nat) (hb : base ≤ 16) (hk : k ≤ 7) : base ^ k ≤ 268435456 := Nat.le_trans (Nat.pow_le_pow_left hb k) (Nat.pow_le_pow_right (by decide) hk)
theorem pow_step (base k v d : Nat) (hv : v < base ^ k) (hd : d < base) : v * base + d < base ^ (k + 1) := by
  rw [Nat.pow_succ]
  have : (v + 1) * base ≤ base ^ k * base := Nat.mul_le_mul_right _ hv
  rw [Nat.add_mul] at this
  omega
set_option maxRecDepth 100000 in
set_option maxHeartbeats 4000000 in
theorem parse_c (s : ByteArray) (base : Nat) (bi : Int) (hb : (base = 10 ∧ bi = 10) ∨ (base = 16 ∧ bi = 16)) (h1 : 1 ≤ s.size) (h7 : s.size ≤ 7) (w : World) :
    Calls Tryz.prog 65 #[.string s, .int .i64 bi, .int .i64 64] w fun e w' => e = .returned (ansV (digG base s.data.toList 0)) ∧ Below w.heap.size w w' := by
  obtain ⟨cap, o, hconv, hrow⟩ := Row.run_conv (P := Tryz.prog) w 9 29 5 s Tryz.underlying9 Tryz.underlying29 Tryz.underlying5
  have HR := Lib.hid hrow
  have hmx : IntKind.u64.wrap (IntKind.u64.wrap 18446744073709551616 - 1) = 18446744073709551615 := by kernel_rfl
  have hne := filled s h1
  have hl : s.data.toList.length = s.size := by simp
  have HL := Lib.hid hl
  clear hrow hl
  go_enter Tryz.func65, Tryz.ntmps65
  rcases hb with ⟨rfl, rfl⟩ | ⟨rfl, rfl⟩
  · go_wp2
    generalize hC : (1844674407370955162 : Int) = C
    generalize hX : (18446744073709551615 : Int) = X
    have HC := Lib.hid hC; have HX := Lib.hid hX
    clear hmx hC hX
    go_loopw [12, 13, 101] (fun us n i wr => ∃ (k v : Nat), k ≤ s.size ∧ i = .int .i64 (k : Int) ∧ n = .int .u64 (v : Int) ∧ us = .bool false ∧ v < 10 ^ k ∧ digG 10 (s.data.toList.drop k) v = digG 10 s.data.toList 0 ∧ Row 5 wr w.heap.size s.data.toList ∧ Below w.heap.size w wr) (fun _ _ i _ => s.size - (intOf i).toNat)
    case atStart => exact ⟨0, 0, Nat.zero_le _, rfl, rfl, rfl, by decide, rfl, HR.out, ((Below.refl _ _).alloc (Nat.le_refl _) _).drew⟩
    case round =>
      obtain ⟨k, v, hk, rfl, rfl, rfl, hv, heq, hrow, hbel⟩ := hrel
      have hvb : v < 268435456 := Nat.lt_of_lt_of_le hv (pow_le 10 k (by decide) (by omega))
      by_cases hlt : k < s.size
      · have hlt2 : k < s.data.toList.length := by rw [HL.out]; exact hlt
        have hc := hrow.cell k hlt2
        rw [List.drop_eq_getElem_cons hlt2] at heq
        have h256 : s.data.toList[k].toNat < 256 := UInt8.toNat_lt _
        have hdc := dig_cases s.data.toList[k]
        have hlow := Lib.hid (fun W => lower_c s.data.toList[k].toNat h256 W)
        have hpw := Lib.hid (pow_step 10 k v (hexV s.data.toList[k]) hv)
        generalize hcc : s.data.toList[k] = c at *
        have HD := Lib.hid (show ∀ r, hexV c < 10 → digG 10 (c :: r) v = digG 10 r (v * 10 + hexV c) from fun r h => by rw [digG, if_pos h])
        have HN := Lib.hid (show ∀ r, ¬ hexV c < 10 → digG 10 (c :: r) v = none from fun r h => by rw [digG, if_neg h])
        have HE := Lib.hid heq; have HB := Lib.hid hbel; have HR2 := Lib.hid hrow
        have i1 : (k : Int) < (s.size : Int) := by omega
        clear heq hbel hrow hcc hv
        rcases hdc with ⟨d1, d2, d3⟩ | ⟨d1, d2, d3, d6, d4, d5⟩ | ⟨d1, d2, d3⟩
        · have hx : hexV c < 10 := by omega
          have hd0 : (0 : Int) ≤ (c.toNat : Int) - 48 := by omega
          have hd1 : (c.toNat : Int) - 48 ≤ 15 := by omega
          have hw3 : IntKind.u64.wrap ((v : Int) * 10) = (v : Int) * 10 := IntWalk.u64_in _ (by omega)
          have hw4 : IntKind.u64.wrap ((v : Int) * 10 + ((c.toNat : Int) - 48)) = (v : Int) * 10 + ((c.toNat : Int) - 48) := IntWalk.u64_in _ (by omega)
          have hge : ¬ (v : Int) * 10 + ((c.toNat : Int) - 48) < (v : Int) * 10 := by omega
          have hcut : (v : Int) < C := by rw [← HC.out]; omega
          have hmax : (v : Int) * 10 + ((c.toNat : Int) - 48) ≤ X := by rw [← HX.out]; omega
          have hnx : v * 10 + hexV c < 10 ^ (k + 1) := hpw.out hx
          have hne2 : digG 10 (s.data.toList.drop (k + 1)) (v * 10 + hexV c) = digG 10 s.data.toList 0 := by rw [← HE.out, HD.out _ hx]
          have hval : ((v * 10 + hexV c : Nat) : Int) = (v : Int) * 10 + ((c.toNat : Int) - 48) := by omega
          have HNX := Lib.hid hnx; have HNE := Lib.hid hne2; have HVAL := Lib.hid hval
          clear hnx hne2 hval hvb HD HN HE hpw hx d3 hlow
          go_wp2
          go_roundw
          case rel => exact ⟨k + 1, v * 10 + hexV c, by omega, by go_num, by rw [HVAL.out], rfl, HNX.out, HNE.out, HR2.out, HB.out⟩
          case measure => simp [intOf]; omega
        · have hL := low_le c.toNat h256
          generalize lowV c.toNat = L at *
          have g1 : (97 : Int) ≤ (L : Int) := by omega
          have g7 : ¬ (c.toNat : Int) = 95 := by omega
          have g2 : (L : Int) ≤ 122 := by omega
          have g3 : IntKind.u8.wrap ((L : Int) - 97) = (L : Int) - 97 := IntWalk.u8_in _ (by omega)
          have g4 : IntKind.u8.wrap ((L : Int) - 97 + 10) = (L : Int) - 97 + 10 := IntWalk.u8_in _ (by omega)
          rcases d1 with d1 | d1
          · have hbig : (10 : Int) ≤ (L : Int) - 97 + 10 := by omega
            have hans : digG 10 s.data.toList 0 = none := by rw [← HE.out, HN.out _ (by omega)]
            have HA := Lib.hid hans
            clear hans hvb HD HN HE hpw d4 d5
            go_wp2_with (go_at_call 85; refine (hlow.out _).mono ?_; rintro e w5 ⟨rfl, rfl⟩)
            go_ret2
            refine ⟨?_, HB.out⟩
            rw [HA.out]
            unfold ansV
            rfl
          · have hbig : (10 : Int) ≤ (L : Int) - 97 + 10 := by omega
            have hans : digG 10 s.data.toList 0 = none := by rw [← HE.out, HN.out _ (by omega)]
            have HA := Lib.hid hans
            clear hans hvb HD HN HE hpw d4 d5
            go_wp2_with (go_at_call 85; refine (hlow.out _).mono ?_; rintro e w5 ⟨rfl, rfl⟩)
            go_ret2
            refine ⟨?_, HB.out⟩
            rw [HA.out]
            unfold ansV
            rfl
        · generalize hcn : c.toNat = cn at *
          have hL := low_le cn h256
          have hlt9 : ¬ hexV c < 10 := by omega
          clear d3 hcn
          by_cases h95 : cn = 95
          · subst h95
            generalize lowV 95 = L at *
            rcases d2 with d2 | d2
            · have hans : digG 10 s.data.toList 0 = none := by rw [← HE.out, HN.out _ hlt9]
              have HA := Lib.hid hans
              clear hans hvb HD HN HE hpw hlt9
              go_wp2_with (go_at_call 85; refine (hlow.out _).mono ?_; rintro e w5 ⟨rfl, rfl⟩)
              go_ret2
              refine ⟨?_, HB.out⟩
              rw [HA.out]
              unfold ansV
              rfl
            · have hans : digG 10 s.data.toList 0 = none := by rw [← HE.out, HN.out _ hlt9]
              have HA := Lib.hid hans
              clear hans hvb HD HN HE hpw hlt9
              go_wp2_with (go_at_call 85; refine (hlow.out _).mono ?_; rintro e w5 ⟨rfl, rfl⟩)
              go_ret2
              refine ⟨?_, HB.out⟩
              rw [HA.out]
              unfold ansV
              rfl
          · have h95i : ¬ (cn : Int) = 95 := by omega
            generalize lowV cn = L at *
            rcases d1 with d1 | d1
            · rcases d2 with d2 | d2
              · have hans : digG 10 s.data.toList 0 = none := by rw [← HE.out, HN.out _ hlt9]
                have HA := Lib.hid hans
                clear hans hvb HD HN HE hpw hlt9
                go_wp2_with (go_at_call 85; refine (hlow.out _).mono ?_; rintro e w5 ⟨rfl, rfl⟩)
                go_ret2
                refine ⟨?_, HB.out⟩
                rw [HA.out]
                unfold ansV
                rfl
              · have hans : digG 10 s.data.toList 0 = none := by rw [← HE.out, HN.out _ hlt9]
                have HA := Lib.hid hans
                clear hans hvb HD HN HE hpw hlt9
                go_wp2_with (go_at_call 85; refine (hlow.out _).mono ?_; rintro e w5 ⟨rfl, rfl⟩)
                go_ret2
                refine ⟨?_, HB.out⟩
                rw [HA.out]
                unfold ansV
                rfl
            · rcases d2 with d2 | d2
              · have hans : digG 10 s.data.toList 0 = none := by rw [← HE.out, HN.out _ hlt9]
                have HA := Lib.hid hans
                clear hans hvb HD HN HE hpw hlt9
                go_wp2_with (go_at_call 85; refine (hlow.out _).mono ?_; rintro e w5 ⟨rfl, rfl⟩)
                go_ret2
                refine ⟨?_, HB.out⟩
                rw [HA.out]
                unfold ansV
                rfl
              · have hans : digG 10 s.data.toList 0 = none := by rw [← HE.out, HN.out _ hlt9]
                have HA := Lib.hid hans
                clear hans hvb HD HN HE hpw hlt9
                go_wp2_with (go_at_call 85; refine (hlow.out _).mono ?_; rintro e w5 ⟨rfl, rfl⟩)
                go_ret2
                refine ⟨?_, HB.out⟩
                rw [HA.out]
                unfold ansV
                rfl
      · obtain rfl : k = s.size := by omega
        have hd : s.data.toList.drop s.size = [] := List.drop_eq_nil_of_le (by rw [HL.out]; exact Nat.le_refl _)
        rw [hd] at heq
        have HA := Lib.hid (show digG 10 s.data.toList 0 = some v from heq.symm)
        have HB := Lib.hid hbel
        clear heq hd hrow hbel hv hvb
        go_wp2
        go_ret2
        refine ⟨?_, HB.out⟩
        rw [HA.out]
        unfold ansV
        rfl
  · go_wp2
    generalize hC : (1152921504606846976 : Int) = C
    generalize hX : (18446744073709551615 : Int) = X
    have HC := Lib.hid hC; have HX := Lib.hid hX
    clear hmx hC hX
    go_loopw [12, 13, 101] (fun us n i wr => ∃ (k v : Nat), k ≤ s.size ∧ i = .int .i64 (k : Int) ∧ n = .int .u64 (v : Int) ∧ us = .bool false ∧ v < 16 ^ k ∧ digG 16 (s.data.toList.drop k) v = digG 16 s.data.toList 0 ∧ Row 5 wr w.heap.size s.data.toList ∧ Below w.heap.size w wr) (fun _ _ i _ => s.size - (intOf i).toNat)
    case atStart => exact ⟨0, 0, Nat.zero_le _, rfl, rfl, rfl, by decide, rfl, HR.out, ((Below.refl _ _).alloc (Nat.le_refl _) _).drew⟩
    case round =>
      obtain ⟨k, v, hk, rfl, rfl, rfl, hv, heq, hrow, hbel⟩ := hrel
      have hvb : v < 268435456 := Nat.lt_of_lt_of_le hv (pow_le 16 k (by decide) (by omega))
      by_cases hlt : k < s.size
      · have hlt2 : k < s.data.toList.length := by rw [HL.out]; exact hlt
        have hc := hrow.cell k hlt2
        rw [List.drop_eq_getElem_cons hlt2] at heq
        have h256 : s.data.toList[k].toNat < 256 := UInt8.toNat_lt _
        have hdc := dig_cases s.data.toList[k]
        have hlow := Lib.hid (fun W => lower_c s.data.toList[k].toNat h256 W)
        have hpw := Lib.hid (pow_step 16 k v (hexV s.data.toList[k]) hv)
        generalize hcc : s.data.toList[k] = c at *
        have HD := Lib.hid (show ∀ r, hexV c < 16 → digG 16 (c :: r) v = digG 16 r (v * 16 + hexV c) from fun r h => by rw [digG, if_pos h])
        have HN := Lib.hid (show ∀ r, ¬ hexV c < 16 → digG 16 (c :: r) v = none from fun r h => by rw [digG, if_neg h])
        have HE := Lib.hid heq; have HB := Lib.hid hbel; have HR2 := Lib.hid hrow
        have i1 : (k : Int) < (s.size : Int) := by omega
        clear heq hbel hrow hcc hv
        rcases hdc with ⟨d1, d2, d3⟩ | ⟨d1, d2, d3, d6, d4, d5⟩ | ⟨d1, d2, d3⟩
        · have hx : hexV c < 16 := by omega
          have hd0 : (0 : Int) ≤ (c.toNat : Int) - 48 := by omega
          have hd1 : (c.toNat : Int) - 48 ≤ 15 := by omega
          have hw3 : IntKind.u64.wrap ((v : Int) * 16) = (v : Int) * 16 := IntWalk.u64_in _ (by omega)
          have hw4 : IntKind.u64.wrap ((v : Int) * 16 + ((c.toNat : Int) - 48)) = (v : Int) * 16 + ((c.toNat : Int) - 48) := IntWalk.u64_in _ (by omega)
          have hge : ¬ (v : Int) * 16 + ((c.toNat : Int) - 48) < (v : Int) * 16 := by omega
          have hcut : (v : Int) < C := by rw [← HC.out]; omega
          have hmax : (v : Int) * 16 + ((c.toNat : Int) - 48) ≤ X := by rw [← HX.out]; omega
          have hnx : v * 16 + hexV c < 16 ^ (k + 1) := hpw.out hx
          have hne2 : digG 16 (s.data.toList.drop (k + 1)) (v * 16 + hexV c) = digG 16 s.data.toList 0 := by rw [← HE.out, HD.out _ hx]
          have hval : ((v * 16 + hexV c : Nat) : Int) = (v : Int) * 16 + ((c.toNat : Int) - 48) := by omega
          have HNX := Lib.hid hnx; have HNE := Lib.hid hne2; have HVAL := Lib.hid hval
          clear hnx hne2 hval hvb HD HN HE hpw hx d3 hlow
          go_wp2
          go_roundw
          case rel => exact ⟨k + 1, v * 16 + hexV c, by omega, by go_num, by rw [HVAL.out], rfl, HNX.out, HNE.out, HR2.out, HB.out⟩
          case measure => simp [intOf]; omega
        · have hL := low_le c.toNat h256
          generalize lowV c.toNat = L at *
          have g1 : (97 : Int) ≤ (L : Int) := by omega
          have g7 : ¬ (c.toNat : Int) = 95 := by omega
          have g2 : (L : Int) ≤ 122 := by omega
          have g3 : IntKind.u8.wrap ((L : Int) - 97) = (L : Int) - 97 := IntWalk.u8_in _ (by omega)
          have g4 : IntKind.u8.wrap ((L : Int) - 97 + 10) = (L : Int) - 97 + 10 := IntWalk.u8_in _ (by omega)
          by_cases hx : hexV c < 16
          · have hx2 : hexV c = L - 87 := by omega
            clear d4
            rcases d1 with d1 | d1
            · have hlt4 : (L : Int) - 97 + 10 < 16 := by omega
              have hd0 : (0 : Int) ≤ (L : Int) - 97 + 10 := by omega
              have hd1 : (L : Int) - 97 + 10 ≤ 15 := by omega
              have hw3 : IntKind.u64.wrap ((v : Int) * 16) = (v : Int) * 16 := IntWalk.u64_in _ (by omega)
              have hw4 : IntKind.u64.wrap ((v : Int) * 16 + ((L : Int) - 97 + 10)) = (v : Int) * 16 + ((L : Int) - 97 + 10) := IntWalk.u64_in _ (by omega)
              have hge : ¬ (v : Int) * 16 + ((L : Int) - 97 + 10) < (v : Int) * 16 := by omega
              have hcut : (v : Int) < C := by rw [← HC.out]; omega
              have hmax : (v : Int) * 16 + ((L : Int) - 97 + 10) ≤ X := by rw [← HX.out]; omega
              have hnx : v * 16 + hexV c < 16 ^ (k + 1) := hpw.out hx
              have hne2 : digG 16 (s.data.toList.drop (k + 1)) (v * 16 + hexV c) = digG 16 s.data.toList 0 := by rw [← HE.out, HD.out _ hx]
              have hval : ((v * 16 + hexV c : Nat) : Int) = (v : Int) * 16 + ((L : Int) - 97 + 10) := by omega
              have HNX := Lib.hid hnx; have HNE := Lib.hid hne2; have HVAL := Lib.hid hval
              clear hnx hne2 hval hvb HD HN HE hpw hx d5 hx2
              go_wp2_with (go_at_call 85; refine (hlow.out _).mono ?_; rintro e w5 ⟨rfl, rfl⟩)
              go_roundw
              case rel => exact ⟨k + 1, v * 16 + hexV c, by omega, by go_num, by rw [HVAL.out], rfl, HNX.out, HNE.out, HR2.out, HB.out⟩
              case measure => simp [intOf]; omega
            · have hlt4 : (L : Int) - 97 + 10 < 16 := by omega
              have hd0 : (0 : Int) ≤ (L : Int) - 97 + 10 := by omega
              have hd1 : (L : Int) - 97 + 10 ≤ 15 := by omega
              have hw3 : IntKind.u64.wrap ((v : Int) * 16) = (v : Int) * 16 := IntWalk.u64_in _ (by omega)
              have hw4 : IntKind.u64.wrap ((v : Int) * 16 + ((L : Int) - 97 + 10)) = (v : Int) * 16 + ((L : Int) - 97 + 10) := IntWalk.u64_in _ (by omega)
              have hge : ¬ (v : Int) * 16 + ((L : Int) - 97 + 10) < (v : Int) * 16 := by omega
              have hcut : (v : Int) < C := by rw [← HC.out]; omega
              have hmax : (v : Int) * 16 + ((L : Int) - 97 + 10) ≤ X := by rw [← HX.out]; omega
              have hnx : v * 16 + hexV c < 16 ^ (k + 1) := hpw.out hx
              have hne2 : digG 16 (s.data.toList.drop (k + 1)) (v * 16 + hexV c) = digG 16 s.data.toList 0 := by rw [← HE.out, HD.out _ hx]
              have hval : ((v * 16 + hexV c : Nat) : Int) = (v : Int) * 16 + ((L : Int) - 97 + 10) := by omega
              have HNX := Lib.hid hnx; have HNE := Lib.hid hne2; have HVAL := Lib.hid hval
              clear hnx hne2 hval hvb HD HN HE hpw hx d5 hx2
              go_wp2_with (go_at_call 85; refine (hlow.out _).mono ?_; rintro e w5 ⟨rfl, rfl⟩)
              go_roundw
              case rel => exact ⟨k + 1, v * 16 + hexV c, by omega, by go_num, by rw [HVAL.out], rfl, HNX.out, HNE.out, HR2.out, HB.out⟩
              case measure => simp [intOf]; omega
          · have hx2 : (16 : Int) ≤ (L : Int) - 97 + 10 := by omega
            clear d4
            rcases d1 with d1 | d1
            · have hans : digG 16 s.data.toList 0 = none := by rw [← HE.out, HN.out _ (by omega)]
              have HA := Lib.hid hans
              clear hans hvb HD HN HE hpw d5
              go_wp2_with (go_at_call 85; refine (hlow.out _).mono ?_; rintro e w5 ⟨rfl, rfl⟩)
              go_ret2
              refine ⟨?_, HB.out⟩
              rw [HA.out]
              unfold ansV
              rfl
            · have hans : digG 16 s.data.toList 0 = none := by rw [← HE.out, HN.out _ (by omega)]
              have HA := Lib.hid hans
              clear hans hvb HD HN HE hpw d5
              go_wp2_with (go_at_call 85; refine (hlow.out _).mono ?_; rintro e w5 ⟨rfl, rfl⟩)
              go_ret2
              refine ⟨?_, HB.out⟩
              rw [HA.out]
              unfold ansV
              rfl
        · generalize hcn : c.toNat = cn at *
          have hL := low_le cn h256
          have hlt9 : ¬ hexV c < 16 := by omega
          clear d3 hcn
          by_cases h95 : cn = 95
          · subst h95
            generalize lowV 95 = L at *
            rcases d2 with d2 | d2
            · have hans : digG 16 s.data.toList 0 = none := by rw [← HE.out, HN.out _ hlt9]
              have HA := Lib.hid hans
              clear hans hvb HD HN HE hpw hlt9
              go_wp2_with (go_at_call 85; refine (hlow.out _).mono ?_; rintro e w5 ⟨rfl, rfl⟩)
              go_ret2
              refine ⟨?_, HB.out⟩
              rw [HA.out]
              unfold ansV
              rfl
            · have hans : digG 16 s.data.toList 0 = none := by rw [← HE.out, HN.out _ hlt9]
              have HA := Lib.hid hans
              clear hans hvb HD HN HE hpw hlt9
              go_wp2_with (go_at_call 85; refine (hlow.out _).mono ?_; rintro e w5 ⟨rfl, rfl⟩)
              go_ret2
              refine ⟨?_, HB.out⟩
              rw [HA.out]
              unfold ansV
              rfl
          · have h95i : ¬ (cn : Int) = 95 := by omega
            generalize lowV cn = L at *
            rcases d1 with d1 | d1
            · rcases d2 with d2 | d2
              · have hans : digG 16 s.data.toList 0 = none := by rw [← HE.out, HN.out _ hlt9]
                have HA := Lib.hid hans
                clear hans hvb HD HN HE hpw hlt9
                go_wp2_with (go_at_call 85; refine (hlow.out _).mono ?_; rintro e w5 ⟨rfl, rfl⟩)
                go_ret2
                refine ⟨?_, HB.out⟩
                rw [HA.out]
                unfold ansV
                rfl
              · have hans : digG 16 s.data.toList 0 = none := by rw [← HE.out, HN.out _ hlt9]
                have HA := Lib.hid hans
                clear hans hvb HD HN HE hpw hlt9
                go_wp2_with (go_at_call 85; refine (hlow.out _).mono ?_; rintro e w5 ⟨rfl, rfl⟩)
                go_ret2
                refine ⟨?_, HB.out⟩
                rw [HA.out]
                unfold ansV
                rfl
            · rcases d2 with d2 | d2
              · have hans : digG 16 s.data.toList 0 = none := by rw [← HE.out, HN.out _ hlt9]
                have HA := Lib.hid hans
                clear hans hvb HD HN HE hpw hlt9
                go_wp2_with (go_at_call 85; refine (hlow.out _).mono ?_; rintro e w5 ⟨rfl, rfl⟩)
                go_ret2
                refine ⟨?_, HB.out⟩
                rw [HA.out]
                unfold ansV
                rfl
              · have hans : digG 16 s.data.toList 0 = none := by rw [← HE.out, HN.out _ hlt9]
                have HA := Lib.hid hans
                clear hans hvb HD HN HE hpw hlt9
                go_wp2_with (go_at_call 85; refine (hlow.out _).mono ?_; rintro e w5 ⟨rfl, rfl⟩)
                go_ret2
                refine ⟨?_, HB.out⟩
                rw [HA.out]
                unfold ansV
                rfl
      · obtain rfl : k = s.size := by omega
        have hd : s.data.toList.drop s.size = [] := List.drop_eq_nil_of_le (by rw [HL.out]; exact Nat.le_refl _)
        rw [hd] at heq
        have HA := Lib.hid (show digG 16 s.data.toList 0 = some v from heq.symm)
        have HB := Lib.hid hbel
        clear heq hd hrow hbel hv hvb
        go_wp2
        go_ret2
        refine ⟨?_, HB.out⟩
        rw [HA.out]
        unfold ansV
        rfl
end Go.Proofs.YtkfcbafjcjmfnaaGreatDoor.Num
