/- Links: LinkPut, walked by hand. -/
import Derived.Test.YthilhcpdbjeepaaGreatDoorTurn16
import Derived.BigRegion
import Derived.OpenShut
import Derived.BigQuiet
import Derived.Lib.SmallJoins
namespace Go.Proofs.YthilhcpdbjeepaaGreatDoor.Turn16b
open Go.RowKit Go.Lib Go.Proofs.YthilhcpdbjeepaaGreatDoor Go.Proofs.YthilhcpdbjeepaaGreatDoor.P Go.Proofs.YthilhcpdbjeepaaGreatDoor.Pure Go.Proofs.YthilhcpdbjeepaaGreatDoor.Row Go.Proofs.YthilhcpdbjeepaaGreatDoor.Turn16
set_option linter.unusedVariables false
set_option linter.unusedSimpArgs false
theorem back1 (x : UInt8) (W : World) (B : Nat) (h : W.cell? ⟨B, 0, none⟩ = some (.int .u8 (x.toNat : Int))) :
    (convert 30 9 (.slice (some ⟨B, 0, none⟩) 1 1)).run Tryz.prog W = .ok (.string ⟨#[x]⟩) W :=
  run_convert_bytes_back W 30 9 5 ⟨B, 0, none⟩ 1 [x] Tryz.underlying30 Tryz.underlying5 Tryz.underlying9 (fun j hj => by
    obtain rfl : j = 0 := by simpa using hj
    exact h)
theorem ref_c (a : ByteArray) (ha : a.size ≤ 100000000) (w : World) : Calls Tryz.prog 13 #[.string a] w fun e w' => e = .returned (.string ⟨(cleanL a.data.toList).toArray⟩) ∧ Below w.heap.size w w' := by
  obtain ⟨r, h⟩ := refClean_is a ha
  exact muslinref16_Clean.calls r a _ w (h r (Nat.le_refl _))
theorem cell_on (v : Value) (X : Obj) (w : World) : ((w.alloc (Obj.cells #[v] 5)).alloc X).cell? ⟨w.heap.size, 0, none⟩ = some v := by
  first | (simp; done) | simp [World.cell?]
theorem cell_on2 (v : Value) (X Y : Obj) (w : World) : (((w.alloc (Obj.cells #[v] 5)).alloc X).alloc Y).cell? ⟨w.heap.size, 0, none⟩ = some v :=
  ((Joins.below_alloc1 _ Y).cell (by simp; omega)).trans (cell_on v X w)
theorem cell_mid (v : Value) (X Y : Obj) (w : World) : (((w.alloc X).alloc (Obj.cells #[v] 5)).alloc Y).cell? ⟨w.heap.size + 1, 0, none⟩ = some v :=
  ((Joins.below_alloc1 _ Y).cell (by simp)).trans (Joins.cell_alloc_mark_at _ #[v] _ _ _ _ (by simp))
theorem boxed (w : World) (X : Obj) (n : Nat) : Below w.heap.size w ((w.alloc X).drewN n) := bdrewN ((Below.refl w.heap.size w).alloc (Nat.le_refl _) X) n
theorem below3 (w : World) (X Y Z : Obj) : Below w.heap.size w (((w.alloc X).alloc Y).alloc Z).drew := (Joins.below_alloc3 w X Y Z).drew
def putL (a : ByteArray) (k : Nat) (c d : UInt8) : ByteArray := ⟨#[d]⟩ ++ a.extract 0 k ++ ⟨#[c]⟩ ++ a.extract k a.size ++ ⟨#[d]⟩
theorem putL_size (a : ByteArray) (k : Nat) (c d : UInt8) (hk : k ≤ a.size) : (putL a k c d).size = a.size + 3 := by
  unfold putL
  simp only [ByteArray.size_append, ByteArray.size_extract]
  have e : ∀ x : UInt8, (⟨#[x]⟩ : ByteArray).size = 1 := fun _ => rfl
  rw [e, e]
  omega
set_option maxRecDepth 100000 in
set_option maxHeartbeats 4000000 in
theorem put_yes (a : ByteArray) (k : Nat) (c d : UInt8) (w : World) (hs : a.size ≤ 3000) (hk : k ≤ a.size) (hc : c.toNat = 9 ∨ c.toNat = 10 ∨ c.toNat = 13) (hd : d.toNat ≤ 32) :
    Calls Tryz.prog 5 #[.agg #[.string a, .int .i64 (k : Int), .int .u8 (c.toNat : Int), .int .u8 (d.toNat : Int)]] w fun e w' => e = .returned (.bool true) ∧ Below w.heap.size w w' := by
  have LV := Lib.hid live_c
  have SH := Lib.hid (fun W => short_c a true W (short_yes a hs))
  have hk1 : ¬ (k : Int) < 0 := by omega
  have hk2 : ¬ (k : Int) > (a.size : Int) := by omega
  have hk3 : (k : Int) ≤ (a.size : Int) := by omega
  have hd1 : ¬ (d.toNat : Int) > 32 := by omega
  have B1 := Lib.hid (back1 c)
  have B2 := Lib.hid (back1 d)
  go_enter Tryz.func5, Tryz.ntmps5
  go_upto_region 1 with fail
  go_quiet (fail)
  generalize hW0 : World.drewN (World.alloc w _) nq = w0
  have HB0 : Hid (Below w.heap.size w w0) := Lib.hid (hW0 ▸ boxed w _ _)
  clear hW0
  rcases hc with hc | hc | hc
  all_goals
    simp only [hc] at *
    go_upto_region 4 with (first
        | (go_at_call 8; refine (SH.out _).mono ?_; rintro e w1 ⟨rfl, hb1⟩; have HB1 := Lib.hid (HB0.out.trans (hb1.mono HB0.out.size)); clear hb1))
    go_cut [7] (fun v wc => v = .string (putL a k c d) ∧ Below w1.heap.size w1 wc)
    case first =>
      have f1 : ∀ v X, ((w1.alloc (Obj.cells #[v] 5)).alloc X).cell? ⟨w1.heap.size, 0, none⟩ = some v := fun v X => cell_on v X w1
      have f2 : ∀ v X Y, (((w1.alloc (Obj.cells #[v] 5)).alloc X).alloc Y).cell? ⟨w1.heap.size, 0, none⟩ = some v := fun v X Y => cell_on2 v X Y w1
      have f3 : ∀ v X Y, (((w1.alloc X).alloc (Obj.cells #[v] 5)).alloc Y).cell? ⟨w1.heap.size + 1, 0, none⟩ = some v := fun v X Y => cell_mid v X Y w1
      have b1 := B1.out
      have b2 := B2.out
      go_region
      all_goals
        go_wp2_with fail
        go_meet
        case rel => exact ⟨rfl, by exact below3 _ _ _ _⟩
    case rest =>
      obtain ⟨rfl, hbc⟩ := hcut
      have HB2 := Lib.hid (HB1.out.trans (hbc.mono HB1.out.size))
      clear hbc
      have hpz := putL_size a k c d hk
      generalize putL a k c d = T at *
      have RA := Lib.hid (ref_c a (by omega))
      have RT := Lib.hid (ref_c T (by omega))
      have CT := Lib.hid (fun W => link_Clean.calls T _ W (guard_of (by omega)))
      have KA := Lib.hid (kind_c a (by omega))
      have KT := Lib.hid (kind_c T (by omega))
      clear B1 B2 SH
      generalize cleanL a.data.toList = ca at *
      generalize cleanL T.data.toList = ct at *
      by_cases hcc : ca = ct
      · subst hcc
        generalize (⟨ca.toArray⟩ : ByteArray) = U at *
        go_wp2_with (first
          | (go_at_call 13; first
              | ((with_reducible refine (RA.out _).mono ?_); rintro e w3 ⟨rfl, hb3⟩; have HB3 := Lib.hid (HB2.out.trans (hb3.mono HB2.out.size)); clear hb3)
              | ((with_reducible refine (RT.out _).mono ?_); rintro e w4 ⟨rfl, hb4⟩; have HB4 := Lib.hid (HB3.out.trans (hb4.mono HB3.out.size)); clear hb4))
          | (go_at_call 12; refine (CT.out _).mono ?_; rintro e w5 ⟨rfl, hb5⟩; have HB5 := Lib.hid (HB4.out.trans (hb5.mono HB4.out.size)); clear hb5)
          | (go_at_call 14; first
              | ((with_reducible refine (KT.out _).mono ?_); rintro e w6 ⟨rfl, hb6⟩; have HB6 := Lib.hid (HB5.out.trans (hb6.mono HB5.out.size)); clear hb6)
              | ((with_reducible refine (KA.out _).mono ?_); rintro e w7 ⟨rfl, hb7⟩; have HB7 := Lib.hid (HB6.out.trans (hb7.mono HB6.out.size)); clear hb7))
          | (go_at_call 9; refine (LV.out _).mono ?_; rintro e w8 ⟨rfl, hb8⟩; have HB8 := Lib.hid (HB7.out.trans (hb8.mono HB7.out.size)); clear hb8))
        go_ret
        exact ⟨rfl, HB8.out⟩
      · have hne : ¬ (⟨ca.toArray⟩ : ByteArray).toList = (⟨ct.toArray⟩ : ByteArray).toList := by rw [toList_eq, toList_eq]; simpa using hcc
        generalize (⟨ca.toArray⟩ : ByteArray) = U at *
        generalize (⟨ct.toArray⟩ : ByteArray) = V at *
        go_wp2_with (first
          | (go_at_call 13; first
              | ((with_reducible refine (RA.out _).mono ?_); rintro e w3 ⟨rfl, hb3⟩; have HB3 := Lib.hid (HB2.out.trans (hb3.mono HB2.out.size)); clear hb3)
              | ((with_reducible refine (RT.out _).mono ?_); rintro e w4 ⟨rfl, hb4⟩; have HB4 := Lib.hid (HB3.out.trans (hb4.mono HB3.out.size)); clear hb4))
          | (go_at_call 12; refine (CT.out _).mono ?_; rintro e w5 ⟨rfl, hb5⟩; have HB5 := Lib.hid (HB4.out.trans (hb5.mono HB4.out.size)); clear hb5)
          | (go_at_call 14; first
              | ((with_reducible refine (KT.out _).mono ?_); rintro e w6 ⟨rfl, hb6⟩; have HB6 := Lib.hid (HB5.out.trans (hb6.mono HB5.out.size)); clear hb6)
              | ((with_reducible refine (KA.out _).mono ?_); rintro e w7 ⟨rfl, hb7⟩; have HB7 := Lib.hid (HB6.out.trans (hb7.mono HB6.out.size)); clear hb7))
          | (go_at_call 9; refine (LV.out _).mono ?_; rintro e w8 ⟨rfl, hb8⟩; have HB8 := Lib.hid (HB5.out.trans (hb8.mono HB5.out.size)); clear hb8))
        go_ret
        exact ⟨rfl, HB8.out⟩
set_option maxRecDepth 100000 in
set_option maxHeartbeats 4000000 in
theorem put_no (a : ByteArray) (k c d : Int) (w : World) (hn : ¬ (a.size ≤ 3000 ∧ 0 ≤ k ∧ k ≤ (a.size : Int) ∧ (c = 9 ∨ c = 10 ∨ c = 13) ∧ d ≤ 32)) :
    Calls Tryz.prog 5 #[.agg #[.string a, .int .i64 k, .int .u8 c, .int .u8 d]] w fun e w' => e = .returned (.bool true) ∧ Below w.heap.size w w' := by
  have LV := Lib.hid live_c
  by_cases hs : a.size ≤ 3000
  · have SH := Lib.hid (fun W => short_c a true W (short_yes a hs))
    have hn2 : k < 0 ∨ (¬ k < 0 ∧ (a.size : Int) < k) ∨ (¬ k < 0 ∧ ¬ (a.size : Int) < k ∧ ¬ c = 9 ∧ ¬ c = 10 ∧ ¬ c = 13) ∨ (¬ k < 0 ∧ ¬ (a.size : Int) < k ∧ c = 9 ∧ 32 < d) ∨ (¬ k < 0 ∧ ¬ (a.size : Int) < k ∧ c = 10 ∧ 32 < d) ∨ (¬ k < 0 ∧ ¬ (a.size : Int) < k ∧ c = 13 ∧ 32 < d) := by omega
    clear hn
    rcases hn2 with h1 | ⟨h1, h2⟩ | ⟨h1, h2, h3, h4, h5⟩ | ⟨h1, h2, rfl, h4⟩ | ⟨h1, h2, rfl, h4⟩ | ⟨h1, h2, rfl, h4⟩
    all_goals
      go_enter Tryz.func5, Tryz.ntmps5
      go_upto_region 1 with fail
      go_quiet (fail)
      generalize hW0 : World.drewN (World.alloc w _) nq = w0
      have HB0 : Hid (Below w.heap.size w w0) := Lib.hid (hW0 ▸ boxed w _ _)
      clear hW0
      go_wp2_with (first
        | (go_at_call 8; refine (SH.out _).mono ?_; rintro e w1 ⟨rfl, hb1⟩; have HB1 := Lib.hid (HB0.out.trans (hb1.mono HB0.out.size)); clear hb1)
        | (go_at_call 9; refine (LV.out _).mono ?_; rintro e w2 ⟨rfl, hb2⟩; have HB2 := Lib.hid (HB1.out.trans (hb2.mono HB1.out.size)); clear hb2))
      go_ret
      exact ⟨rfl, HB2.out⟩
  · have SH := Lib.hid (fun W => short_c a false W (short_no a hs))
    clear hn
    go_enter Tryz.func5, Tryz.ntmps5
    go_upto_region 1 with fail
    go_quiet (fail)
    generalize hW0 : World.drewN (World.alloc w _) nq = w0
    have HB0 : Hid (Below w.heap.size w w0) := Lib.hid (hW0 ▸ boxed w _ _)
    clear hW0
    go_wp2_with (first
      | (go_at_call 8; refine (SH.out _).mono ?_; rintro e w1 ⟨rfl, hb1⟩; have HB1 := Lib.hid (HB0.out.trans (hb1.mono HB0.out.size)); clear hb1)
      | (go_at_call 9; refine (LV.out _).mono ?_; rintro e w2 ⟨rfl, hb2⟩; have HB2 := Lib.hid (HB1.out.trans (hb2.mono HB1.out.size)); clear hb2))
    go_ret
    exact ⟨rfl, HB2.out⟩
theorem wf_u8 {c : Int} (h : (Lit.int .u8 c).wf = true) : 0 ≤ c ∧ c ≤ 255 := by
  exact bounds_u8 h

def muslinlaw16_LinkPut.Pure : Prop := True
theorem u8_of (c : Int) (h0 : 0 ≤ c) (h1 : c ≤ 255) : ∃ x : UInt8, (x.toNat : Int) = c := by
  refine ⟨UInt8.ofNat c.toNat, ?_⟩
  rw [UInt8.toNat_ofNat']; omega
theorem muslinlaw16_LinkPut.walk (P : muslinlaw16_LinkPut.Pure) (a0 : ByteArray) (a1 a2 a3 : Int) (w : World) (h0 : a0.size ≤ maxLen) (h1 : (Lit.int .i64 a1).wf = true) (g2 : (Lit.int .u8 a2).wf = true) (g3 : (Lit.int .u8 a3).wf = true) :
    Calls Tryz.prog 5 #[.agg #[.string a0, .int .i64 a1, .int .u8 a2, .int .u8 a3]] w fun e w' => e = .returned (.bool true) ∧ Below w.heap.size w w' := by
  have h2 := wf_u8 g2
  have h3 := wf_u8 g3
  by_cases hn : a0.size ≤ 3000 ∧ 0 ≤ a1 ∧ a1 ≤ (a0.size : Int) ∧ (a2 = 9 ∨ a2 = 10 ∨ a2 = 13) ∧ a3 ≤ 32
  · obtain ⟨c, rfl⟩ := u8_of a2 h2.1 h2.2
    obtain ⟨d, rfl⟩ := u8_of a3 h3.1 h3.2
    obtain ⟨k, rfl⟩ : ∃ k : Nat, a1 = (k : Int) := ⟨a1.toNat, by omega⟩
    exact put_yes a0 k c d w hn.1 (by omega) (by omega) (by omega)
  · exact put_no a0 a1 a2 a3 w hn
end Go.Proofs.YthilhcpdbjeepaaGreatDoor.Turn16b
namespace Go.Proofs.YthilhcpdbjeepaaGreatDoor.Pure
theorem LinkPut : Turn16b.muslinlaw16_LinkPut.Pure := trivial
end Go.Proofs.YthilhcpdbjeepaaGreatDoor.Pure
