/- link.Scheme, walked. -/
import Derived.Test.YthilhcpdbjeepaaGreatDoorLinkA
import Derived.Deep.CutBlock
namespace Go.Proofs.YthilhcpdbjeepaaGreatDoor
open Go.RowKit Go.Shelf Go.Lib Go.Proofs.YthilhcpdbjeepaaGreatDoor.Repl Go.Proofs.YthilhcpdbjeepaaGreatDoor.Row
set_option linter.unusedVariables false
set_option linter.unusedSimpArgs false
/-- A letter of the alphabet. -/
def isLb (c : UInt8) : Bool := decide ((97 ≤ c.toNat ∧ c.toNat ≤ 122) ∨ (65 ≤ c.toNat ∧ c.toNat ≤ 90))
theorem or_32 : ∀ c : Fin 256, (if 97 ≤ bits .or .u8 (c.val : Int) 32 then decide (bits .or .u8 (c.val : Int) 32 ≤ 122) else false) = decide ((97 ≤ c.val ∧ c.val ≤ 122) ∨ (65 ≤ c.val ∧ c.val ≤ 90)) := by decide +kernel
theorem isLetter_any (c : UInt8) (w : World) : Calls Tryz.prog 17 #[.int .u8 (c.toNat : Int)] w fun e w' => e = .returned (.bool (isLb c)) ∧ w = w' := by
  have h : (if 97 ≤ bits .or .u8 (c.toNat : Int) 32 then decide (bits .or .u8 (c.toNat : Int) 32 ≤ 122) else false) = isLb c := or_32 ⟨c.toNat, UInt8.toNat_lt c⟩
  have H := Lib.hid h
  clear h
  go_enter Tryz.func17, Tryz.ntmps17
  go_wp2
  · go_ret
    rename_i h
    have := H.out
    rw [if_pos h] at this
    exact ⟨by rw [← this]; rfl, rfl⟩
  · go_ret
    rename_i h
    have := H.out
    rw [if_neg (by omega)] at this
    exact ⟨by rw [← this]; rfl, rfl⟩
def goodC (c : UInt8) : Bool := isLb c || decide (48 ≤ c.toNat ∧ c.toNat ≤ 57) || decide (c.toNat = 43 ∨ c.toNat = 45 ∨ c.toNat = 46)
/-- A scheme out of what stands ahead of the colon. -/
def nameL : List UInt8 → Bool → List UInt8 × Bool
  | c :: r, true => if isLb c = true then (if (c :: r).all goodC = true then ((c :: r).map lowC, true) else ([], false)) else ([], false)
  | _, _ => ([], false)
def schemeL (l : List UInt8) : List UInt8 × Bool := nameL (cutL 58 (cleanL l)).1 (cutL 58 (cleanL l)).2.2
def link_Scheme.f (s : ByteArray) : Option (ByteArray × Bool) := if s.size ≤ 100000000 then some (⟨(schemeL s.data.toList).1.toArray⟩, (schemeL s.data.toList).2) else none
theorem index_sign : ∀ c : Fin 256, decide (Lib.indexByte [43, 45, 46] (UInt8.ofNat c.val) < 0) = !decide (c.val = 43 ∨ c.val = 45 ∨ c.val = 46) := by decide +kernel
theorem takeWhile_le (p : UInt8 → Bool) (l : List UInt8) : (l.takeWhile p).length ≤ l.length := (List.takeWhile_sublist p).length_le
theorem cutL_len (c : UInt8) (l : List UInt8) : (cutL c l).1.length ≤ l.length ∧ (cutL c l).2.1.length ≤ l.length := by
  unfold cutL
  split
  · exact ⟨takeWhile_le _ _, by have := (List.dropWhile_sublist (p := (· != c)) (l := l)).length_le; simp only [List.length_drop]; omega⟩
  · exact ⟨Nat.le_refl _, by simp⟩
theorem clean_len (l : List UInt8) : (cleanL l).length ≤ l.length := by
  have h : ∀ l, (replL cleanPs l).length ≤ l.length := by
    intro l
    induction l with
    | nil => simp [replL]
    | cons c r ih =>
      rw [show replL cleanPs (c :: r) = repB cleanPs c ++ replL cleanPs r from rfl, List.length_append, List.length_cons]
      have : (repB cleanPs c).length ≤ 1 := by
        unfold repB
        cases hk : Repl.look cleanPs c.toNat with
        | none => simp
        | some n =>
          unfold Repl.look at hk
          obtain ⟨p, hp, rfl⟩ := Option.map_eq_some_iff.1 hk
          have := List.mem_of_find?_eq_some hp
          simp [cleanPs] at this
          rcases this with rfl | rfl | rfl <;> simp
      omega
  exact Nat.le_trans (h _) (trimS_le _ _)
def sgn (c : UInt8) : Int := Lib.indexByte [43, 45, 46] c
theorem sgn_neg (c : UInt8) : sgn c < 0 ↔ ¬ (c.toNat = 43 ∨ c.toNat = 45 ∨ c.toNat = 46) := by
  have h := index_sign ⟨c.toNat, UInt8.toNat_lt c⟩
  simp only [UInt8.ofNat_toNat] at h
  unfold sgn
  rw [Bool.eq_iff_iff] at h
  simpa using h
theorem sgn_any (c : UInt8) (w : World) : Calls Tryz.prog 18 #[.string ⟨#[43, 45, 46]⟩, .int .u8 (c.toNat : Int)] w fun e w' => e = .returned (.int .i64 (sgn c)) ∧ w = w' := by
  refine (Tryz.strings_IndexByte ⟨#[43, 45, 46]⟩ (c.toNat : Int) w).mono ?_
  rintro e w' ⟨rfl, rfl⟩
  refine ⟨?_, rfl⟩
  unfold sgn
  rw [show (c.toNat : Int).toNat.toUInt8 = c from by simp]
theorem isLb_iff (c : UInt8) : isLb c = true ↔ (97 ≤ c.toNat ∧ c.toNat ≤ 122) ∨ (65 ≤ c.toNat ∧ c.toNat ≤ 90) := decide_eq_true_iff
theorem all_snoc (l : List UInt8) (k : Nat) (h : k < l.length) : (l.take (k + 1)).all goodC = ((l.take k).all goodC && goodC l[k]) := by
  rw [List.take_succ_eq_append_getElem h, List.all_append]; simp
theorem all_not (l : List UInt8) (k : Nat) (h : k < l.length) (hb : goodC l[k] = false) : l.all goodC = false := by
  rw [List.all_eq_false]
  exact ⟨l[k], List.getElem_mem h, by simp [hb]⟩
set_option maxRecDepth 100000 in
set_option maxHeartbeats 4000000 in
theorem link_Scheme.calls (s r1 : ByteArray) (r2 : Bool) (w : World) (h : link_Scheme.f s = some (r1, r2)) :
    Calls Tryz.prog 10 #[.string s] w fun e w' => e = .returned (.tuple #[.string r1, .bool r2]) ∧ Below w.heap.size w w' := by
  obtain ⟨hs, h⟩ := of_guard h
  injection h with e1 e2
  subst e1 e2
  have hsl : s.data.toList.length = s.size := by simp
  have CL := Lib.hid (fun W => link_Clean.calls s _ W (guard_of hs))
  have hc1 := clean_len s.data.toList
  have hcz : (⟨(cleanL s.data.toList).toArray⟩ : ByteArray).size = (cleanL s.data.toList).length := by simp [ByteArray.size]
  have hl := cutL_len 58 (cleanL s.data.toList)
  unfold schemeL
  have CU := Lib.hid (fun W => strings_Cut.calls ⟨(cleanL s.data.toList).toArray⟩ ⟨#[58]⟩ ⟨(cutL 58 (cleanL s.data.toList)).1.toArray⟩ ⟨(cutL 58 (cleanL s.data.toList)).2.1.toArray⟩ (cutL 58 (cleanL s.data.toList)).2.2 W (guard_of ⟨rfl, by omega⟩))
  have hnl : (cutL 58 (cleanL s.data.toList)).1.length ≤ 100000000 := by omega
  generalize (cutL 58 (cleanL s.data.toList)).1 = nm at *
  generalize (cutL 58 (cleanL s.data.toList)).2.1 = rest at *
  generalize (cutL 58 (cleanL s.data.toList)).2.2 = has at *
  clear hl hc1 hcz
  have IL := Lib.hid isLetter_any
  have hnot : ∀ (x : Bool) (w : World), (Op.unary .not (.bool x)).run Tryz.prog w = .ok (.bool (!x)) w := fun _ _ => rfl
  go_enter Tryz.func10, Tryz.ntmps10
  go_upto_region 2 with (first
    | (go_at_call 12; refine (CL.out _).mono ?_; rintro e w1 ⟨rfl, hb1⟩; have HB1 := Lib.hid hb1; clear hb1)
    | (go_at_call 16; refine (CU.out _).mono ?_; rintro e w2 ⟨rfl, hb2⟩; have HB2 := Lib.hid (HB1.out.trans (hb2.mono HB1.out.size)); clear hb2))
  cases has with
  | false =>
    have HN : Hid (nameL nm false = ([], false)) := Lib.hid (by cases nm <;> rfl)
    go_wp2
    go_ret2
    exact ⟨by rw [HN.out]; rfl, HB2.out⟩
  | true =>
    cases nm with
    | nil =>
      have HN : Hid (nameL [] true = ([], false)) := Lib.hid rfl
      go_wp2
      go_ret2
      exact ⟨by rw [HN.out]; rfl, HB2.out⟩
    | cons c nr =>
      have hz : (⟨(c :: nr).toArray⟩ : ByteArray).size = nr.length + 1 := by simp [ByteArray.size]
      have hz0 : ∀ h, (⟨(c :: nr).toArray⟩ : ByteArray)[0]'h = c := fun _ => rfl
      have hdl : (⟨(c :: nr).toArray⟩ : ByteArray).data.toList = c :: nr := rfl
      have hne : (⟨(c :: nr).toArray⟩ : ByteArray).toList.isEmpty = false := by rw [ByteArray.toList_eq]; rfl
      have hne2 : ¬ (⟨(c :: nr).toArray⟩ : ByteArray).toList = [] := by rw [ByteArray.toList_eq]; simp
      have hpos : 0 < (⟨(c :: nr).toArray⟩ : ByteArray).size := by omega
      generalize hnb : (⟨(c :: nr).toArray⟩ : ByteArray) = nb at *
      have HDL := Lib.hid hdl; have HZ := Lib.hid hz
      clear hdl hnb hz
      cases hb : isLb c with
      | false =>
        have HN : Hid (nameL (c :: nr) true = ([], false)) := Lib.hid (by simp [nameL, hb])
        have ILc := Lib.hid (isLetter_any c)
        rw [hb] at ILc
        clear hb IL
        go_wp2_with (go_at_call 17; refine (ILc.out _).mono ?_; rintro e w' ⟨rfl, rfl⟩)
        go_ret2
        exact ⟨by rw [HN.out]; rfl, HB2.out⟩
      | true =>
        have ILc := Lib.hid (isLetter_any c)
        rw [hb] at ILc
        have HLB := Lib.hid hb
        clear hb IL
        go_upto_region 4 with (go_at_call 17; refine (ILc.out _).mono ?_; rintro e w' ⟨rfl, rfl⟩)
        have hnm : nameL (c :: nr) true = if (c :: nr).all goodC = true then ((c :: nr).map lowC, true) else ([], false) := by simp [nameL, HLB.out]
        have hnr : nr.length + 1 ≤ 100000000 := hnl
        obtain ⟨L, hL⟩ : ∃ L, c :: nr = L := ⟨_, rfl⟩
        have hll : L.length = nr.length + 1 := by rw [← hL]; rfl
        have hdl2 := HDL.out
        rw [hL] at hnm hdl2
        have HNM := Lib.hid hnm; have HDL2 := Lib.hid hdl2; have HLX := Lib.hid hL
        clear hL hnm hdl2
        obtain ⟨cap, o, hconv, hrow⟩ := Row.run_conv (P := Tryz.prog) w2 9 30 5 nb Tryz.underlying9 Tryz.underlying30 Tryz.underlying5
        rw [HZ.out] at hconv
        rw [HDL2.out] at hrow
        generalize nr.length + 1 = n at *
        have HR := Lib.hid hrow; have HLL := Lib.hid hll
        clear hrow hz0 hne hne2 hpos hll hnl HDL
        go_wp2
        go_loopw [33] (fun i wr => ∃ k : Nat, k ≤ n ∧ i = .int .i64 (k : Int) ∧ (L.take k).all goodC = true ∧ Row 5 wr w2.heap.size (lowTo L k) ∧ Below w2.heap.size w2 wr) (fun i _ => n - (RowKit.intOf i).toNat)
        case atStart => exact ⟨0, Nat.zero_le _, rfl, rfl, by rw [lowTo_zero]; exact HR.out, ((Below.refl _ _).alloc (Nat.le_refl _) _).drew⟩
        case round =>
          obtain ⟨k, hk, rfl, hall, hrow, hb⟩ := hrel
          by_cases hlt : k < n
          · have hlt2 : k < L.length := by rw [HLL.out]; exact hlt
            have hlt3 : k < (lowTo L k).length := by rw [lowTo_length]; exact hlt2
            have hc := hrow.cell k hlt3
            have hf := hrow.frozen k hlt3
            have hset := hrow.set k (lowC L[k]) hlt3
            rw [← lowTo_succ _ _ hlt2] at hset
            rw [lowTo_get _ _ hlt2] at hc
            have hsame := lowTo_same L k hlt2
            have hyes := lowC_yes L[k]
            have hno := lowC_no L[k]
            have h256 : L[k].toNat < 256 := UInt8.toNat_lt _
            have hal := all_snoc L k hlt2
            have han := all_not L k hlt2
            have IL2 := isLetter_any L[k]
            have SG2 := sgn_any L[k]
            have hsg := sgn_neg L[k]
            have hlb := isLb_iff L[k]
            have hgd : goodC L[k] = (isLb L[k] || decide (48 ≤ L[k].toNat ∧ L[k].toNat ≤ 57) || decide (L[k].toNat = 43 ∨ L[k].toNat = 45 ∨ L[k].toNat = 46)) := rfl
            generalize L[k] = d at *
            rw [hall, Bool.true_and] at hal
            have HS := Lib.hid hset; have HY := Lib.hid hyes; have HN := Lib.hid hno; have HE := Lib.hid hsame; have HR2 := Lib.hid hrow; have HAL := Lib.hid hal; have HAN := Lib.hid han; have IL := Lib.hid IL2; have SG := Lib.hid SG2; have HSG := Lib.hid hsg; have HLB2 := Lib.hid hlb; have HGD := Lib.hid hgd; have HALL := Lib.hid hall
            clear hset hyes hno hsame hrow hal han IL2 SG2 hsg hlb hgd hall HR HLB
            by_cases c1 : 65 ≤ d.toNat ∧ d.toNat ≤ 90
            · have hg : goodC d = true := by rw [HGD.out, HLB2.out.2 (.inr c1)]; rfl
              have HG := Lib.hid hg
              obtain ⟨c1, c2⟩ := c1
              clear hg
              go_wp2
              go_roundw
              case rel => exact ⟨k + 1, by omega, by go_num, by rw [HAL.out, HG.out], by have := HS.out; rw [HY.out c1 c2] at this; exact this, hb.setCell (p := ⟨w2.heap.size, k, none⟩) (Nat.le_refl _) _⟩
              case measure => simp [RowKit.intOf]; omega
            · have hce := HN.out (by omega)
              have HS2 : Hid (lowTo L (k + 1) = lowTo L k) := Lib.hid (HE.out hce)
              clear HE hce HS HY HN
              have c3 : d.toNat < 65 ∨ 90 < d.toNat := by omega
              by_cases c4 : isLb d = true
              · have hg : goodC d = true := by rw [HGD.out, c4]; rfl
                have HG := Lib.hid hg
                rw [c4] at IL
                clear hg c4 c1
                rcases c3 with c3 | c3
                all_goals
                  go_wp2_with (go_at_call 17; refine (IL.out _).mono ?_; rintro e w' ⟨rfl, rfl⟩)
                  go_roundw
                  case rel => exact ⟨k + 1, by omega, by go_num, by rw [HAL.out, HG.out], by rw [HS2.out]; exact HR2.out, hb⟩
                  case measure => simp [RowKit.intOf]; omega
              · have c4' : isLb d = false := by simpa using c4
                rw [c4'] at IL
                by_cases c5 : 48 ≤ d.toNat ∧ d.toNat ≤ 57
                · have hg : goodC d = true := by rw [HGD.out, c4', decide_eq_true c5]; rfl
                  have HG := Lib.hid hg
                  obtain ⟨c5, c6⟩ := c5
                  have a1 : d.toNat < 65 := by omega
                  clear hg c4 c4' c1 c3
                  go_wp2_with (go_at_call 17; refine (IL.out _).mono ?_; rintro e w' ⟨rfl, rfl⟩)
                  go_roundw
                  case rel => exact ⟨k + 1, by omega, by go_num, by rw [HAL.out, HG.out], by rw [HS2.out]; exact HR2.out, hb⟩
                  case measure => simp [RowKit.intOf]; omega
                · have c7 : d.toNat < 48 ∨ 57 < d.toNat := by omega
                  by_cases c6 : d.toNat = 43 ∨ d.toNat = 45 ∨ d.toNat = 46
                  · have hg : goodC d = true := by rw [HGD.out, c4', decide_eq_false c5, decide_eq_true c6]; rfl
                    have HG := Lib.hid hg
                    have hs0 : ¬ sgn d < 0 := fun h => (HSG.out.1 h) c6
                    have a1 : d.toNat < 65 := by omega
                    have a2 : d.toNat < 48 := by omega
                    clear hg c4 c4' c1 c3 c5 c6 c7
                    all_goals
                      go_wp2_with (first | (go_at_call 17; refine (IL.out _).mono ?_; rintro e w' ⟨rfl, rfl⟩) | (go_at_call 18; refine (SG.out _).mono ?_; rintro e w' ⟨rfl, rfl⟩))
                      go_roundw
                      case rel => exact ⟨k + 1, by omega, by go_num, by rw [HAL.out, HG.out], by rw [HS2.out]; exact HR2.out, hb⟩
                      case measure => simp [RowKit.intOf]; omega
                  · have hg : goodC d = false := by rw [HGD.out, c4', decide_eq_false c5, decide_eq_false c6]; rfl
                    have HG := Lib.hid (HAN.out hg)
                    have hs0 : sgn d < 0 := HSG.out.2 c6
                    have HB := Lib.hid hb
                    have c8 : (d.toNat < 65 ∧ d.toNat < 48) ∨ (57 < d.toNat ∧ d.toNat < 65) ∨ (90 < d.toNat ∧ 57 < d.toNat) := by omega
                    clear hg c4 c4' c1 c3 c5 c6 hb c7
                    rcases c8 with ⟨a1, a2⟩ | ⟨a1, a2⟩ | ⟨a1, a2⟩
                    all_goals
                      go_wp2_with (first | (go_at_call 17; refine (IL.out _).mono ?_; rintro e w' ⟨rfl, rfl⟩) | (go_at_call 18; refine (SG.out _).mono ?_; rintro e w' ⟨rfl, rfl⟩))
                      go_ret2
                      exact ⟨by rw [HLX.out, HNM.out, HG.out]; rfl, HB2.out.trans (HB.out.mono HB2.out.size)⟩
          · obtain rfl : k = n := by omega
            rw [List.take_of_length_le (by rw [HLL.out]; exact Nat.le_refl _)] at hall
            rw [lowTo_all _ _ (by rw [HLL.out]; exact Nat.le_refl _)] at hrow
            have hback := hrow.back (P := Tryz.prog) 30 9 cap Tryz.underlying30 Tryz.underlying5 Tryz.underlying9
            simp only [List.length_map] at hback
            rw [HLL.out] at hback
            have HAL2 := Lib.hid hall; have HB := Lib.hid hb
            clear hrow hall hb HR
            go_wp2
            go_ret2
            exact ⟨by rw [HLX.out, HNM.out, HAL2.out]; rfl, HB2.out.trans (HB.out.mono HB2.out.size)⟩
end Go.Proofs.YthilhcpdbjeepaaGreatDoor
