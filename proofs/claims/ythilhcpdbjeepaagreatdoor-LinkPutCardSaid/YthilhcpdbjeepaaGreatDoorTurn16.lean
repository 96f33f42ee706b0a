/- Links: LinkWeb and LinkCase, walked by hand. -/
import Derived.Test.YthilhcpdbjeepaaGreatDoorPure16d
import Derived.Deep.DeepCutAuto
namespace Go.Proofs.YthilhcpdbjeepaaGreatDoor.Pure
open Go.RowKit Go.Lib Go.Proofs.YthilhcpdbjeepaaGreatDoor Go.Proofs.YthilhcpdbjeepaaGreatDoor.P Go.Proofs.YthilhcpdbjeepaaGreatDoorW.PrintWords Go.Proofs.YthilhcpdbjeepaaGreatDoorW.PrintLast
set_option linter.unusedVariables false
set_option linter.unusedSimpArgs false
theorem kind_range (c : List UInt8) : (kindC c = 0 ∧ (schemeC c).2 = false) ∨ ((schemeC c).2 = true ∧ 1 ≤ kindC c ∧ kindC c ≤ 5) := by
  unfold kindC
  by_cases h : (schemeC c).2 = true
  · right
    refine ⟨h, ?_⟩
    rw [if_pos h]
    split
    · omega
    · split
      · omega
      · split
        · omega
        · split <;> omega
  · left
    rw [if_neg h]
    exact ⟨rfl, by simpa using h⟩
/-- An address of the web: its scheme, and what stands behind. -/
theorem kind_web (c : List UInt8) (k : Int) (h : kindC c = k) (hk : k = 1 ∨ k = 2) : (schemeC c).1 = (if k = 1 then [104, 116, 116, 112] else [104, 116, 116, 112, 115]) ∧ ∃ nm rest, c = nm ++ 58 :: 47 :: 47 :: rest ∧ nm.length = (schemeC c).1.length ∧ 1 ≤ rest.length := by
  have hs : (schemeC c).2 = true := by
    rcases kind_range c with h1 | h1
    · omega
    · exact h1.1
  obtain ⟨nm, rest, hsp, hn, hcut, hs1, hg, a, q, hnm, ha⟩ := scheme_split c hs
  have hho : hostedL c = hostL rest := by unfold hostedL; rw [hcut]
  have tail : hostedL c = true → ∃ nm rest, c = nm ++ 58 :: 47 :: 47 :: rest ∧ nm.length = (schemeC c).1.length ∧ 1 ≤ rest.length := by
    intro hh
    rw [hho] at hh
    unfold hostL at hh
    split at hh
    · rename_i x y
      exact ⟨nm, x :: y, hsp, by rw [hs1, List.length_map], by simp⟩
    · exact absurd hh Bool.false_ne_true
  unfold kindC at h
  rw [if_pos hs] at h
  by_cases c1 : (schemeC c).1 = [104, 116, 116, 112] ∧ hostedL c = true
  · rw [if_pos c1] at h
    subst h
    exact ⟨c1.1, tail c1.2⟩
  · rw [if_neg c1] at h
    by_cases c2 : (schemeC c).1 = [104, 116, 116, 112, 115] ∧ hostedL c = true
    · rw [if_pos c2] at h
      subst h
      exact ⟨c2.1, tail c2.2⟩
    · rw [if_neg c2] at h
      split at h
      · omega
      · split at h <;> omega
/-- a to z become A to Z. -/
def upC (c : UInt8) : UInt8 := if 97 ≤ c.toNat ∧ c.toNat ≤ 122 then (c.toNat - 32).toUInt8 else c
def upTo (l : List UInt8) (k : Nat) : List UInt8 := (l.take k).map upC ++ l.drop k
theorem upTo_zero (l : List UInt8) : upTo l 0 = l := by simp [upTo]
theorem upTo_length (l : List UInt8) (k : Nat) : (upTo l k).length = l.length := by simp [upTo]; omega
theorem upTo_get (l : List UInt8) (k : Nat) (h : k < l.length) : (upTo l k)[k]'(by rw [upTo_length]; exact h) = l[k] := by
  simp only [upTo]
  rw [List.getElem_append_right (by simp; omega)]
  simp [List.getElem_drop, Nat.min_eq_left (Nat.le_of_lt h)]
theorem upTo_succ (l : List UInt8) (k : Nat) (h : k < l.length) : upTo l (k + 1) = (upTo l k).set k (upC l[k]) := by
  simp only [upTo]
  rw [List.set_append_right _ _ (by simp; omega)]
  simp only [List.length_map, List.length_take, Nat.min_eq_left (Nat.le_of_lt h), Nat.sub_self]
  rw [List.take_succ_eq_append_getElem h, List.drop_eq_getElem_cons h, List.map_append, List.append_assoc]
  rfl
theorem upTo_same (l : List UInt8) (k : Nat) (h : k < l.length) (hc : upC l[k] = l[k]) : upTo l (k + 1) = upTo l k := by
  rw [upTo_succ l k h, hc, ← upTo_get l k h, List.set_getElem_self]
theorem upC_yes (c : UInt8) (h1 : 97 ≤ c.toNat) (h2 : c.toNat ≤ 122) : ((upC c).toNat : Int) = (c.toNat : Int) - 32 := by
  simp only [upC, h1, h2, and_self, if_true]
  have : ((c.toNat - 32).toUInt8).toNat = c.toNat - 32 := by
    show (UInt8.ofNat (c.toNat - 32)).toNat = _
    rw [UInt8.toNat_ofNat']; omega
  omega
theorem upC_no (c : UInt8) (h : c.toNat < 97 ∨ 122 < c.toNat) : upC c = c := by
  simp only [upC]; rw [if_neg (by omega)]
theorem up_all : ∀ c : Fin 256, lowC (upC (UInt8.ofNat c.val)) = lowC (UInt8.ofNat c.val) ∧ goodC (upC (UInt8.ofNat c.val)) = goodC (UInt8.ofNat c.val) ∧ isLb (upC (UInt8.ofNat c.val)) = isLb (UInt8.ofNat c.val) ∧ (upC (UInt8.ofNat c.val) = 58 ↔ UInt8.ofNat c.val = 58) ∧ keepC (upC (UInt8.ofNat c.val)) = keepC (UInt8.ofNat c.val) ∧ blk (upC (UInt8.ofNat c.val)) = blk (UInt8.ofNat c.val) := by decide +kernel
theorem up_is (c : UInt8) : lowC (upC c) = lowC c ∧ goodC (upC c) = goodC c ∧ isLb (upC c) = isLb c ∧ (upC c = 58 ↔ c = 58) ∧ keepC (upC c) = keepC c ∧ blk (upC c) = blk c := by
  have := up_all ⟨c.toNat, UInt8.toNat_lt c⟩
  simpa using this
/-- Large letters of a clean address's scheme. -/
theorem up_facts (c : List UInt8) (hC : Clean c) (h : (schemeC c).2 = true) : cleanL (upTo c (schemeC c).1.length) = upTo c (schemeC c).1.length ∧ schemeC (upTo c (schemeC c).1.length) = schemeC c ∧ kindC (upTo c (schemeC c).1.length) = kindC c ∧ (schemeC c).1.length ≤ c.length := by
  obtain ⟨nm, rest, hsp, hn, hcut, hs1, hg, a, q, hnm, ha⟩ := scheme_split c h
  have hl : (schemeC c).1.length = nm.length := by rw [hs1, List.length_map]
  rw [hl]
  have hu : upTo c nm.length = nm.map upC ++ 58 :: rest := by
    unfold upTo
    rw [hsp, List.take_left' rfl, List.drop_left' rfl]
  have hno : noCol (nm.map upC) := by
    intro x hx
    obtain ⟨y, hy, rfl⟩ := List.mem_map.1 hx
    exact fun e => hn y hy ((up_is y).2.2.2.1.1 e)
  have hcu := cut_at (nm.map upC) rest hno
  have hmap : ∀ x ∈ upTo c nm.length, ∃ y ∈ c, x = y ∨ x = upC y := by
    intro x hx
    rw [hu] at hx
    rcases List.mem_append.1 hx with h1 | h1
    · obtain ⟨y, hy, rfl⟩ := List.mem_map.1 h1
      exact ⟨y, by rw [hsp]; simp [hy], .inr rfl⟩
    · exact ⟨x, by rw [hsp]; exact List.mem_append_right _ h1, .inl rfl⟩
  have hCl : Clean (upTo c nm.length) := by
    refine ⟨?_, ?_, ?_⟩
    · intro x hx
      obtain ⟨y, hy, h1⟩ := hmap x hx
      rcases h1 with rfl | rfl
      · exact hC.keep _ hy
      · rw [(up_is y).2.2.2.2.1]; exact hC.keep y hy
    · intro b r e
      rw [hu, hnm, List.map_cons, List.cons_append] at e
      injection e with e1 _
      rw [← e1, (up_is a).2.2.2.2.2]
      exact hC.first a (q ++ 58 :: rest) (by rw [hsp, hnm]; rfl)
    · intro r b e
      rcases List.eq_nil_or_concat (58 :: rest) with h0 | ⟨t, z, h0⟩
      · simp at h0
      · rw [List.concat_eq_append] at h0
        rw [hu, h0, ← List.append_assoc] at e
        have := List.append_inj_right' e rfl
        injection this with e1 _
        rw [← e1]
        exact hC.last (nm ++ t) z (by rw [hsp, h0, List.append_assoc])
  have hsc : schemeC (upTo c nm.length) = schemeC c := by
    have e1 : schemeC c = (nm.map lowC, true) := Prod.ext hs1 h
    rw [e1]
    unfold schemeC
    rw [hu, hcu, hnm, List.map_cons]
    simp only [nameL]
    rw [if_pos (by rw [(up_is a).2.2.1]; exact ha), ← List.map_cons, ← hnm, if_pos (by
      rw [List.all_eq_true]
      intro x hx
      obtain ⟨y, hy, rfl⟩ := List.mem_map.1 hx
      rw [(up_is y).2.1]
      exact List.all_eq_true.1 hg y hy), List.map_map]
    congr 1
    apply List.map_congr_left
    intro x _
    exact (up_is x).1
  refine ⟨clean_same _ hCl, hsc, ?_, by rw [hsp]; simp⟩
  unfold kindC
  rw [hsc]
  have hh : hostedL (upTo c nm.length) = hostedL c := by
    unfold hostedL
    rw [hu, hcu, hcut]
  rw [hh]
end Go.Proofs.YthilhcpdbjeepaaGreatDoor.Pure
namespace Go.Proofs.YthilhcpdbjeepaaGreatDoor.Turn16
open Go.RowKit Go.Lib Go.Proofs.YthilhcpdbjeepaaGreatDoor Go.Proofs.YthilhcpdbjeepaaGreatDoor.P Go.Proofs.YthilhcpdbjeepaaGreatDoor.Pure Go.Proofs.YthilhcpdbjeepaaGreatDoor.Row
set_option linter.unusedVariables false
set_option linter.unusedSimpArgs false
theorem bdrewN {B : Nat} {w0 w : World} (h : Below B w0 w) (n : Nat) : Below B w0 (w.drewN n) := ⟨h.os, h.tape, h.output, h.size, h.block⟩
theorem live_c (w : World) : Calls Tryz.prog 9 #[] w fun e w' => e = .returned (.bool true) ∧ Below w.heap.size w w' := muslinlaw16_live.calls 2 true w live_is
theorem short_c (a : ByteArray) (r : Bool) (w : World) (h : muslinlaw16_short.f a = some r) :
    Calls Tryz.prog 8 #[.string a] w fun e w' => e = .returned (.bool r) ∧ Below w.heap.size w w' :=
  (muslinlaw16_short.calls a r w h).mono (by rintro e w' ⟨rfl, nd, rfl⟩; exact ⟨rfl, bdrewN (Below.refl _ _) _⟩)
theorem kind_c (a : ByteArray) (ha : a.size ≤ 100000000) (w : World) : Calls Tryz.prog 14 #[.string a] w fun e w' => e = .returned (.int .i64 (kindC (cleanL a.data.toList))) ∧ Below w.heap.size w w' :=
  link_Kind.calls 2 a _ w (kind_is a ha 0)
def muslinlaw16_LinkWeb.Pure : Prop := True
set_option maxRecDepth 100000 in
set_option maxHeartbeats 4000000 in
theorem muslinlaw16_LinkWeb.walk (P : muslinlaw16_LinkWeb.Pure) (a0 : ByteArray) (w : World) (w0 : a0.size ≤ 140737488351232) :
    Calls Tryz.prog 6 #[.string a0] w fun e w' => e = .returned (.bool true) ∧ Below w.heap.size w w' := by
  have LV := Lib.hid live_c
  have hnot : ∀ (x : Bool) (w : World), (Op.unary .not (.bool x)).run Tryz.prog w = .ok (.bool (!x)) w := fun _ _ => rfl
  by_cases hsh : a0.size ≤ 3000
  · have SH := Lib.hid (fun W => short_c a0 true W (short_yes a0 hsh))
    have KD := Lib.hid (fun W => kind_c a0 (by omega) W)
    have SC := Lib.hid (fun W => link_Scheme.calls a0 _ _ W (guard_of (by omega)))
    have CL := Lib.hid (fun W => link_Clean.calls a0 _ W (guard_of (by omega)))
    rw [scheme_is] at SC
    have hkr := kind_range (cleanL a0.data.toList)
    have hkw := kind_web (cleanL a0.data.toList)
    have hcl := clean_len a0.data.toList
    rw [sizeL] at hcl
    generalize cleanL a0.data.toList = c at *
    have hcz : (⟨c.toArray⟩ : ByteArray).size = c.length := mk_size c
    generalize hkk : kindC c = kd at *
    rcases hkr with ⟨rfl, hs⟩ | ⟨hs, hk1, hk2⟩
    · rw [hs] at SC
      have HKW := Lib.hid hkw
      clear hs hkk hkw hcl hcz
      go_enter Tryz.func6, Tryz.ntmps6
      go_wp2_with (first
        | (go_at_call 8; refine (SH.out _).mono ?_; rintro e w1 ⟨rfl, hb1⟩; have HB1 := Lib.hid hb1; clear hb1)
        | (go_at_call 10; refine (SC.out _).mono ?_; rintro e w2 ⟨rfl, hb2⟩; have HB2 := Lib.hid (HB1.out.trans (hb2.mono HB1.out.size)); clear hb2)
        | (go_at_call 12; refine (CL.out _).mono ?_; rintro e w3 ⟨rfl, hb3⟩; have HB3 := Lib.hid (HB2.out.trans (hb3.mono HB2.out.size)); clear hb3)
        | (go_at_call 14; refine (KD.out _).mono ?_; rintro e w4 ⟨rfl, hb4⟩; have HB4 := Lib.hid (HB3.out.trans (hb4.mono HB3.out.size)); clear hb4)
        | (go_at_call 9; refine (LV.out _).mono ?_; rintro e w5 ⟨rfl, hb5⟩; have HB5 := Lib.hid (HB4.out.trans (hb5.mono HB4.out.size)); clear hb5))
      go_ret
      exact ⟨rfl, HB5.out⟩
    · rw [hs] at SC
      by_cases hk : kd = 1 ∨ kd = 2
      · obtain ⟨hn, nm, rest, hsp, hnl, hr1⟩ := hkw kd rfl hk
        have hx : (⟨c.toArray⟩ : ByteArray).extract nm.length (nm.length + 3) = ⟨#[58, 47, 47]⟩ := by
          apply ba_ext
          rw [extract_list, mk_toList, hsp, List.drop_take, List.drop_left' rfl]
          simp
        have hcl2 : c.length = nm.length + 3 + rest.length := by rw [hsp]; simp; omega
        generalize (⟨c.toArray⟩ : ByteArray) = C at *
        rcases hk with rfl | rfl
        · rw [if_pos rfl] at hn
          rw [hn] at SC hnl
          simp only [List.length_cons, List.length_nil] at hnl
          rw [hnl] at hx
          have z1 : 7 < C.size := by omega
          have z2 : (7 : Int) < (C.size : Int) := by omega
          have z3 : 7 ≤ C.size := by omega
          have z4 : (7 : Int) ≤ (C.size : Int) := by omega
          have z5 : (⟨#[104, 116, 116, 112]⟩ : ByteArray).size = 4 := rfl
          have z6 : (⟨#[58, 47, 47]⟩ : ByteArray).toList = [58, 47, 47] := by rw [toList_eq]
          clear hs hkk hkw hcl hcz hsp hnl hcl2 hn
          go_enter Tryz.func6, Tryz.ntmps6
          go_wp2_with (first
            | (go_at_call 8; refine (SH.out _).mono ?_; rintro e w1 ⟨rfl, hb1⟩; have HB1 := Lib.hid hb1; clear hb1)
            | (go_at_call 10; refine (SC.out _).mono ?_; rintro e w2 ⟨rfl, hb2⟩; have HB2 := Lib.hid (HB1.out.trans (hb2.mono HB1.out.size)); clear hb2)
            | (go_at_call 12; refine (CL.out _).mono ?_; rintro e w3 ⟨rfl, hb3⟩; have HB3 := Lib.hid (HB2.out.trans (hb3.mono HB2.out.size)); clear hb3)
            | (go_at_call 14; refine (KD.out _).mono ?_; rintro e w4 ⟨rfl, hb4⟩; have HB4 := Lib.hid (HB3.out.trans (hb4.mono HB3.out.size)); clear hb4)
            | (go_at_call 9; refine (LV.out _).mono ?_; rintro e w5 ⟨rfl, hb5⟩; have HB5 := Lib.hid (HB4.out.trans (hb5.mono HB4.out.size)); clear hb5))
          go_ret
          exact ⟨rfl, HB5.out⟩
        · rw [if_neg (by decide)] at hn
          rw [hn] at SC hnl
          simp only [List.length_cons, List.length_nil] at hnl
          rw [hnl] at hx
          have z1 : 8 < C.size := by omega
          have z2 : (8 : Int) < (C.size : Int) := by omega
          have z3 : 8 ≤ C.size := by omega
          have z4 : (8 : Int) ≤ (C.size : Int) := by omega
          have z5 : (⟨#[104, 116, 116, 112, 115]⟩ : ByteArray).size = 5 := rfl
          have z6 : (⟨#[58, 47, 47]⟩ : ByteArray).toList = [58, 47, 47] := by rw [toList_eq]
          clear hs hkk hkw hcl hcz hsp hnl hcl2 hn
          go_enter Tryz.func6, Tryz.ntmps6
          go_wp2_with (first
            | (go_at_call 8; refine (SH.out _).mono ?_; rintro e w1 ⟨rfl, hb1⟩; have HB1 := Lib.hid hb1; clear hb1)
            | (go_at_call 10; refine (SC.out _).mono ?_; rintro e w2 ⟨rfl, hb2⟩; have HB2 := Lib.hid (HB1.out.trans (hb2.mono HB1.out.size)); clear hb2)
            | (go_at_call 12; refine (CL.out _).mono ?_; rintro e w3 ⟨rfl, hb3⟩; have HB3 := Lib.hid (HB2.out.trans (hb3.mono HB2.out.size)); clear hb3)
            | (go_at_call 14; refine (KD.out _).mono ?_; rintro e w4 ⟨rfl, hb4⟩; have HB4 := Lib.hid (HB3.out.trans (hb4.mono HB3.out.size)); clear hb4)
            | (go_at_call 9; refine (LV.out _).mono ?_; rintro e w5 ⟨rfl, hb5⟩; have HB5 := Lib.hid (HB4.out.trans (hb5.mono HB4.out.size)); clear hb5))
          go_ret
          exact ⟨rfl, HB5.out⟩
      · have hk3 : kd = 3 ∨ kd = 4 ∨ kd = 5 := by omega
        clear hs hkk hkw hcl hcz hk hk1 hk2
        rcases hk3 with rfl | rfl | rfl
        all_goals
          go_enter Tryz.func6, Tryz.ntmps6
          go_wp2_with (first
            | (go_at_call 8; refine (SH.out _).mono ?_; rintro e w1 ⟨rfl, hb1⟩; have HB1 := Lib.hid hb1; clear hb1)
            | (go_at_call 10; refine (SC.out _).mono ?_; rintro e w2 ⟨rfl, hb2⟩; have HB2 := Lib.hid (HB1.out.trans (hb2.mono HB1.out.size)); clear hb2)
            | (go_at_call 12; refine (CL.out _).mono ?_; rintro e w3 ⟨rfl, hb3⟩; have HB3 := Lib.hid (HB2.out.trans (hb3.mono HB2.out.size)); clear hb3)
            | (go_at_call 14; refine (KD.out _).mono ?_; rintro e w4 ⟨rfl, hb4⟩; have HB4 := Lib.hid (HB3.out.trans (hb4.mono HB3.out.size)); clear hb4)
            | (go_at_call 9; refine (LV.out _).mono ?_; rintro e w5 ⟨rfl, hb5⟩; have HB5 := Lib.hid (HB4.out.trans (hb5.mono HB4.out.size)); clear hb5))
          go_ret
          exact ⟨rfl, HB5.out⟩
  · have SH := Lib.hid (fun W => short_c a0 false W (short_no a0 hsh))
    go_enter Tryz.func6, Tryz.ntmps6
    go_wp2_with (first
      | (go_at_call 8; refine (SH.out _).mono ?_; rintro e w1 ⟨rfl, hb1⟩; have HB1 := Lib.hid hb1; clear hb1)
      | (go_at_call 9; refine (LV.out _).mono ?_; rintro e w2 ⟨rfl, hb2⟩; have HB2 := Lib.hid (HB1.out.trans (hb2.mono HB1.out.size)); clear hb2))
    go_ret
    exact ⟨rfl, HB2.out⟩
def muslinlaw16_LinkCase.Pure : Prop := True
set_option maxRecDepth 100000 in
set_option maxHeartbeats 4000000 in
theorem muslinlaw16_LinkCase.walk (P : muslinlaw16_LinkCase.Pure) (a0 : ByteArray) (w : World) (w0 : a0.size ≤ 140737488351232) :
    Calls Tryz.prog 7 #[.string a0] w fun e w' => e = .returned (.bool true) ∧ Below w.heap.size w w' := by
  have LV := Lib.hid live_c
  have hnot : ∀ (x : Bool) (w : World), (Op.unary .not (.bool x)).run Tryz.prog w = .ok (.bool (!x)) w := fun _ _ => rfl
  by_cases hsh : a0.size ≤ 3000
  · have SH := Lib.hid (fun W => short_c a0 true W (short_yes a0 hsh))
    have KD := Lib.hid (fun W => kind_c a0 (by omega) W)
    have SC := Lib.hid (fun W => link_Scheme.calls a0 _ _ W (guard_of (by omega)))
    have CL := Lib.hid (fun W => link_Clean.calls a0 _ W (guard_of (by omega)))
    rw [scheme_is] at SC
    have hup := up_facts (cleanL a0.data.toList) (clean_clean _)
    have hcl := clean_len a0.data.toList
    rw [sizeL] at hcl
    generalize cleanL a0.data.toList = c at *
    have hcz : (⟨c.toArray⟩ : ByteArray).size = c.length := mk_size c
    have hcd : (⟨c.toArray⟩ : ByteArray).data.toList = c := rfl
    cases hs : (schemeC c).2 with
    | false =>
      rw [hs] at SC
      clear hs hup hcl hcz hcd
      go_enter Tryz.func7, Tryz.ntmps7
      go_wp2_with (first
        | (go_at_call 8; refine (SH.out _).mono ?_; rintro e w1 ⟨rfl, hb1⟩; have HB1 := Lib.hid hb1; clear hb1)
        | (go_at_call 10; refine (SC.out _).mono ?_; rintro e w2 ⟨rfl, hb2⟩; have HB2 := Lib.hid (HB1.out.trans (hb2.mono HB1.out.size)); clear hb2)
        | (go_at_call 9; refine (LV.out _).mono ?_; rintro e w5 ⟨rfl, hb5⟩; have HB5 := Lib.hid (HB2.out.trans (hb5.mono HB2.out.size)); clear hb5))
      go_ret
      exact ⟨rfl, HB5.out⟩
    | true =>
      rw [hs] at SC
      obtain ⟨u1, u2, u3, u4⟩ := hup hs
      generalize hn : (schemeC c).1 = n at *
      have hnz : (⟨n.toArray⟩ : ByteArray).size = n.length := mk_size n
      have hul : (upTo c n.length).length = c.length := upTo_length _ _
      have SC2 := Lib.hid (fun W => link_Scheme.calls ⟨(upTo c n.length).toArray⟩ _ _ W (guard_of (by rw [mk_size, hul]; omega)))
      have KD2 := Lib.hid (fun W => kind_c ⟨(upTo c n.length).toArray⟩ (by rw [mk_size, hul]; omega) W)
      simp only [mk_toList] at SC2 KD2
      rw [scheme_is, u1, u2, hs, hn] at SC2
      rw [u1, u3] at KD2
      obtain ⟨m, hm⟩ : ∃ m, m = n.length := ⟨_, rfl⟩
      rw [← hm] at hnz u4 SC2 KD2
      generalize (⟨c.toArray⟩ : ByteArray) = C at *
      generalize (⟨n.toArray⟩ : ByteArray) = NB at *
      have HCD := Lib.hid hcd; have HCZ := Lib.hid hcz; have HNZ := Lib.hid hnz
      generalize kindC c = kd at *
      clear hs u1 u2 u3 hn hul hm hcd hnz hcz
      go_enter Tryz.func7, Tryz.ntmps7
      go_upto_region 7 with (first
        | (go_at_call 8; refine (SH.out _).mono ?_; rintro e w1 ⟨rfl, hb1⟩; have HB1 := Lib.hid hb1; clear hb1)
        | (go_at_call 10; refine (SC.out _).mono ?_; rintro e w2 ⟨rfl, hb2⟩; have HB2 := Lib.hid (HB1.out.trans (hb2.mono HB1.out.size)); clear hb2)
        | (go_at_call 12; refine (CL.out _).mono ?_; rintro e w3 ⟨rfl, hb3⟩; have HB3 := Lib.hid (HB2.out.trans (hb3.mono HB2.out.size)); clear hb3))
      obtain ⟨cap, o, hconv, hrow⟩ := Row.run_conv (P := Tryz.prog) w3 9 30 5 C Tryz.underlying9 Tryz.underlying30 Tryz.underlying5
      rw [HCZ.out] at hconv
      rw [HCD.out] at hrow
      have HR := Lib.hid hrow
      clear hrow
      go_wp2
      go_loopw [7] (fun i wr => ∃ k : Nat, k ≤ m ∧ i = .int .i64 (k : Int) ∧ Row 5 wr w3.heap.size (upTo c k) ∧ Below w3.heap.size w3 wr) (fun i _ => m - (RowKit.intOf i).toNat)
      case atStart => exact ⟨0, Nat.zero_le _, rfl, by rw [upTo_zero]; exact HR.out, ((Below.refl _ _).alloc (Nat.le_refl _) _).drew⟩
      case round =>
        obtain ⟨k, hk, rfl, hrow, hb⟩ := hrel
        by_cases hlt : k < m
        · have hlt2 : k < c.length := by omega
          have hlt3 : k < (upTo c k).length := by rw [upTo_length]; exact hlt2
          have hc := hrow.cell k hlt3
          have hf := hrow.frozen k hlt3
          have hset := hrow.set k (upC c[k]) hlt3
          rw [← upTo_succ _ _ hlt2] at hset
          rw [upTo_get _ _ hlt2] at hc
          have hsame := upTo_same c k hlt2
          have hyes := upC_yes c[k]
          have hno := upC_no c[k]
          have h256 : c[k].toNat < 256 := UInt8.toNat_lt _
          have hnbz := HNZ.out
          have hlt4 : (k : Int) < (NB.size : Int) := by omega
          have hlt5 : (k : Int) < (c.length : Int) := by omega
          generalize c[k] = d at *
          have HS := Lib.hid hset; have HY := Lib.hid hyes; have HN := Lib.hid hno; have HE := Lib.hid hsame; have HR2 := Lib.hid hrow
          clear hset hyes hno hsame hrow HR hnbz
          by_cases c1 : 97 ≤ d.toNat ∧ d.toNat ≤ 122
          · obtain ⟨c1, c2⟩ := c1
            go_wp2
            go_roundw
            case rel => exact ⟨k + 1, by omega, by go_num, by have := HS.out; rw [HY.out c1 c2] at this; exact this, hb.setCell (p := ⟨w3.heap.size, k, none⟩) (Nat.le_refl _) _⟩
            case measure => simp [RowKit.intOf]; omega
          · have hce := HN.out (by omega)
            have HS2 : Hid (upTo c (k + 1) = upTo c k) := Lib.hid (HE.out hce)
            clear HE hce HS HY HN
            have c3 : d.toNat < 97 ∨ 122 < d.toNat := by omega
            rcases c3 with c3 | c3
            all_goals
              clear c1
              go_wp2
              go_roundw
              case rel => exact ⟨k + 1, by omega, by go_num, by rw [HS2.out]; exact HR2.out, hb⟩
              case measure => simp [RowKit.intOf]; omega
        · obtain rfl : k = m := by omega
          have hnbz := HNZ.out
          have hlt4 : ¬ (k : Int) < (NB.size : Int) := by omega
          have HBK := Lib.hid (show ∀ W, Below wr.heap.size wr W → (convert 30 9 (.slice (some ⟨w3.heap.size, 0, none⟩) c.length cap)).run Tryz.prog W = .ok (.string ⟨(upTo c k).toArray⟩) W from fun W hW => by
            have := (hrow.below hW).back (P := Tryz.prog) 30 9 cap Tryz.underlying30 Tryz.underlying5 Tryz.underlying9
            rw [upTo_length] at this
            exact this)
          have hbk := HBK.out wr (Below.refl _ _)
          have HB4 := Lib.hid (HB3.out.trans (hb.mono HB3.out.size))
          have HKD := Lib.hid KD.out
          clear hrow HR hb hnbz
          generalize (⟨(upTo c k).toArray⟩ : ByteArray) = UB at *
          go_wp2_with (first
            | (go_at_call 10; refine (SC2.out _).mono ?_; rintro e w5 ⟨rfl, hb5⟩; have hbk5 := HBK.out w5 hb5; have HX5 := Lib.hid hb5; have HB5 := Lib.hid (HB4.out.trans (hb5.mono HB4.out.size)); clear hb5)
            | (go_at_call 14; first
                | ((with_reducible refine (KD2.out _).mono ?_); rintro e w6 ⟨rfl, hb6⟩; have HB6 := Lib.hid (HB5.out.trans (hb6.mono HB5.out.size)); clear hb6)
                | ((with_reducible refine (KD.out _).mono ?_); rintro e w7 ⟨rfl, hb7⟩; have HB7 := Lib.hid (HB6.out.trans (hb7.mono HB6.out.size)); clear hb7))
            | (go_at_call 9; refine (LV.out _).mono ?_; rintro e w8 ⟨rfl, hb8⟩; have HB8 := Lib.hid (HB7.out.trans (hb8.mono HB7.out.size)); clear hb8))
          go_ret
          exact ⟨rfl, HB8.out⟩
  · have SH := Lib.hid (fun W => short_c a0 false W (short_no a0 hsh))
    go_enter Tryz.func7, Tryz.ntmps7
    go_wp2_with (first
      | (go_at_call 8; refine (SH.out _).mono ?_; rintro e w1 ⟨rfl, hb1⟩; have HB1 := Lib.hid hb1; clear hb1)
      | (go_at_call 9; refine (LV.out _).mono ?_; rintro e w2 ⟨rfl, hb2⟩; have HB2 := Lib.hid (HB1.out.trans (hb2.mono HB1.out.size)); clear hb2))
    go_ret
    exact ⟨rfl, HB2.out⟩
end Go.Proofs.YthilhcpdbjeepaaGreatDoor.Turn16
namespace Go.Proofs.YthilhcpdbjeepaaGreatDoor.Pure
theorem LinkWeb : Turn16.muslinlaw16_LinkWeb.Pure := trivial
theorem LinkCase : Turn16.muslinlaw16_LinkCase.Pure := trivial
end Go.Proofs.YthilhcpdbjeepaaGreatDoor.Pure
