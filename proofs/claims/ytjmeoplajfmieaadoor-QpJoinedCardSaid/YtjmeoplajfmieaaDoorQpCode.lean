/- What qp.Decode and qp.Encode come to, on bytes: walks. -/
import Derived.Test.YtjmeoplajfmieaaDoorQpNext
import Derived.Test.YtjmeoplajfmieaaDoorBld
import Derived.Deep.DeepCutAuto
import Derived.Deep.DeepFit
import Derived.Shelf.Strings.MapGrows
namespace Go.Proofs.YtjmeoplajfmieaaDoor
open Go.RowKit Go.Lib Go.Proofs.YtjmeoplajfmieaaDoor.Pure
set_option linter.unusedVariables false
set_option linter.unusedSimpArgs false

def decGo : Nat → List UInt8 → List UInt8
  | 0, _ => []
  | n + 1, l => if l = [] then [] else (nextL l).1 ++ decGo n (nextL l).2
def qpDec (l : List UInt8) : List UInt8 := decGo l.length l
theorem decGo_more : ∀ (n : Nat) (l : List UInt8), l.length ≤ n → ∀ m, n ≤ m → decGo m l = decGo n l := by
  intro n
  induction n with
  | zero =>
    intro l h m _
    obtain rfl := List.eq_nil_of_length_eq_zero (by omega : l.length = 0)
    cases m <;> rfl
  | succ n ih =>
    intro l h m hm
    obtain ⟨m, rfl⟩ : ∃ k, m = k + 1 := ⟨m - 1, by omega⟩
    simp only [decGo]
    by_cases h0 : l = []
    · rw [if_pos h0, if_pos h0]
    · rw [if_neg h0, if_neg h0, ih _ (by have := (nextL_len l h0).1; omega) m (by omega)]
theorem qpDec_nil : qpDec [] = [] := rfl
theorem qpDec_step (l : List UInt8) (h : l ≠ []) : qpDec l = (nextL l).1 ++ qpDec (nextL l).2 := by
  obtain ⟨n, hn⟩ : ∃ n, l.length = n + 1 := ⟨l.length - 1, by have := List.length_pos_iff.2 h; omega⟩
  have hl := (nextL_len l h).1
  unfold qpDec
  rw [hn]
  simp only [decGo, if_neg h]
  rw [decGo_more _ _ (Nat.le_refl _) n (by omega)]
theorem qpDec_len : ∀ (n : Nat) (l : List UInt8), l.length ≤ n → (qpDec l).length ≤ l.length := by
  intro n
  induction n with
  | zero =>
    intro l h
    obtain rfl := List.eq_nil_of_length_eq_zero (by omega : l.length = 0)
    simp [qpDec_nil]
  | succ n ih =>
    intro l h
    by_cases h0 : l = []
    · subst h0; simp [qpDec_nil]
    · have hl := nextL_len l h0
      have := ih (nextL l).2 (by omega)
      rw [qpDec_step l h0, List.length_append]
      omega
def qp_Decode.f (s : ByteArray) : Option ByteArray := if s.size ≤ 35184372088832 then some ⟨(qpDec s.data.toList).toArray⟩ else none
theorem next_calls (t : ByteArray) (ht : t.size ≤ 35184372088832) (hne : t.data.toList ≠ []) (w : World) (hGl : Glob w) :
    Calls Tryd.prog 15 #[.string t] w fun e w' => e = .returned (.tuple #[.string ⟨(nextL t.data.toList).1.toArray⟩, .string ⟨(nextL t.data.toList).2.toArray⟩]) ∧ Below w.heap.size w w' := by
  obtain ⟨k, h⟩ := next_is t (by omega) hne
  exact Q.qp_next.calls k t _ _ w hGl (h k (Nat.le_refl _))
theorem not_empty {t : ByteArray} (h : t.data.toList ≠ []) : t.toList.isEmpty = false := by
  cases hh : t.toList with
  | nil => rw [ByteArray.toList_eq] at hh; exact absurd hh h
  | cons a b => rfl
set_option maxHeartbeats 4000000 in
set_option maxRecDepth 1000000 in
theorem qp_Decode.calls (s r : ByteArray) (w : World) (hGl : Glob w) (h : qp_Decode.f s = some r) :
    Calls Tryd.prog 11 #[.string s] w fun e w' => e = .returned (.string r) ∧ Below w.heap.size w w' := by
  obtain ⟨hs, rfl⟩ := of_guard h
  have GL := Lib.hid hGl
  clear h hGl
  go_enter Tryd.func11, Tryd.ntmps11
  go_wp2
  go_loopw [0] (fun v wr => ∃ (t : ByteArray) (acc : List UInt8), v = .string t ∧ t.size ≤ s.size ∧ acc ++ qpDec t.data.toList = qpDec s.data.toList ∧ Lib.IsBuilderF 30 5 w.heap.size w.heap.size (Lib.byteCells acc) wr ∧ Below w.heap.size w wr ∧ w.heap.size ≤ wr.heap.size ∧ acc.length + t.size ≤ s.size) (fun v _ => match v with | .string t => t.size | _ => 0)
  case atStart => exact ⟨s, [], rfl, Nat.le_refl _, rfl, Lib.IsBuilderF.of (Lib.fresh_isBuilder 30 5 w), (Below.refl _ w).alloc (Nat.le_refl _) _, by simp, by simp⟩
  case round =>
    obtain ⟨t, acc, rfl, hts, hacc, hI, hb, hsz, hal⟩ := hrel
    by_cases h0 : t.data.toList = []
    · rw [h0, qpDec_nil, List.append_nil] at hacc
      have HA := Lib.hid hacc
      obtain rfl : t = ByteArray.empty := by
        apply ByteArray.ext; apply Array.ext'; rw [h0]; rfl
      have HI := Lib.hid hI
      clear hacc h0 hI
      go_wp2_with (go_at_call 17; refine (Tryd.Builder_String_any_k w.heap.size w.heap.size _ _ HI.out hsz).mono ?_; rintro e W1 ⟨rfl, _, b1, _⟩)
      go_ret
      exact ⟨by rw [HA.out]; rfl, hb.trans b1⟩
    · have hnm := not_empty h0
      have NX := Lib.hid (next_calls t (by omega) h0 wr (GL.out.below hb))
      have hln := nextL_len t.data.toList h0
      have hstep := qpDec_step t.data.toList h0
      rw [hstep] at hacc
      have htl : t.data.toList.length = t.size := by simp
      rw [htl] at hln
      generalize (nextL t.data.toList).1 = ya at *
      generalize (nextL t.data.toList).2 = yb at *
      have HA := Lib.hid hacc; have HI := Lib.hid hI
      obtain ⟨l1, l2⟩ := hln
      have sa : (⟨ya.toArray⟩ : ByteArray).size = ya.length := mk_size ya
      have sb : (⟨yb.toArray⟩ : ByteArray).size = yb.length := mk_size yb
      have sc : Lib.strCells ⟨ya.toArray⟩ = Lib.byteCells ya := rfl
      have SA := Lib.hid sa; have SB := Lib.hid sb; have SC := Lib.hid sc
      clear hacc hI hstep h0 htl sa sb sc
      go_wp2_with (first
        | (go_at_call 15; refine NX.out.mono ?_; rintro e W1 ⟨rfl, b1⟩; have HI2 := Lib.hid (HI.out.below b1); have S1 := Nat.le_trans hsz b1.size; have B1 := Lib.hid (hb.trans (b1.mono hsz)); clear b1)
        | (go_at_call 16; refine (Bld.WriteString_k w.heap.size w.heap.size _ _ _ HI2.out (by rw [Lib.byteCells_length, SA.out]; omega) S1).mono ?_; rintro e W2 ⟨rfl, h2, b2, _⟩))
      go_roundw
      case rel =>
        rw [SC.out, ← Lib.byteCells_append] at h2
        exact ⟨_, acc ++ ya, rfl, by rw [SB.out]; omega, by rw [List.append_assoc]; exact HA.out, h2, B1.out.trans b2, Nat.le_trans S1 b2.size, by rw [SB.out, List.length_append]; omega⟩
      case measure => show (⟨yb.toArray⟩ : ByteArray).size < t.size; rw [SB.out]; exact l1

def hexD (n : Nat) : UInt8 := if n < 10 then UInt8.ofNat (48 + n) else UInt8.ofNat (55 + n)
def plainB (c : UInt8) (last : Bool) : Bool := decide (32 ≤ c.toNat ∧ c.toNat ≤ 126 ∧ c.toNat ≠ 61 ∧ (c.toNat ≠ 32 ∨ last = false))
def tokL (c : UInt8) (last : Bool) : List UInt8 := if plainB c last = true then [c] else [61, hexD (c.toNat / 16), hexD (c.toNat % 16)]
def shortL (row : List UInt8) : List UInt8 := if Lib.hasSuffix row [32] = true then row.take (row.length - 1) ++ [61, 50, 48] else row
def encGo : List UInt8 → List UInt8 → List UInt8
  | [], row => row
  | c :: r, row => if 75 < row.length + (tokL c r.isEmpty).length then shortL row ++ [61, 10] ++ encGo r (tokL c r.isEmpty) else encGo r (row ++ tokL c r.isEmpty)
def qpEnc (l : List UInt8) : List UInt8 := encGo l []
theorem tokL_len (c : UInt8) (b : Bool) : 1 ≤ (tokL c b).length ∧ (tokL c b).length ≤ 3 := by unfold tokL; split <;> simp
theorem shortL_len (row : List UInt8) : (shortL row).length ≤ row.length + 2 := by
  unfold shortL
  split
  · rename_i h
    have hp : 1 ≤ row.length := by
      cases row with
      | nil => simp [Lib.hasSuffix] at h
      | cons a b => simp
    simp; omega
  · omega
theorem ba_append (a b : List UInt8) : (⟨a.toArray⟩ : ByteArray) ++ ⟨b.toArray⟩ = ⟨(a ++ b).toArray⟩ := by
  apply ByteArray.ext
  rw [ByteArray.data_append]
  simp
theorem dig_at : ∀ n : Fin 16, (⟨#[48, 49, 50, 51, 52, 53, 54, 55, 56, 57, 65, 66, 67, 68, 69, 70]⟩ : ByteArray).extract n.val (n.val + 1) = ⟨#[hexD n.val]⟩ := by
  intro n
  apply ByteArray.ext
  revert n
  decide
theorem tok_eq (c : UInt8) : ((⟨#[61]⟩ : ByteArray) ++ (⟨#[48, 49, 50, 51, 52, 53, 54, 55, 56, 57, 65, 66, 67, 68, 69, 70]⟩ : ByteArray).extract (c.toNat / 16) (c.toNat / 16 + 1) ++ (⟨#[48, 49, 50, 51, 52, 53, 54, 55, 56, 57, 65, 66, 67, 68, 69, 70]⟩ : ByteArray).extract (c.toNat % 16) (c.toNat % 16 + 1)) = ⟨[61, hexD (c.toNat / 16), hexD (c.toNat % 16)].toArray⟩ := by
  have h := UInt8.toNat_lt c
  rw [dig_at ⟨c.toNat / 16, by omega⟩, dig_at ⟨c.toNat % 16, by omega⟩]
  rfl
def qp_Encode.f (s : ByteArray) : Option ByteArray := if s.size ≤ 1000000000000 then some ⟨(qpEnc s.data.toList).toArray⟩ else none
set_option maxHeartbeats 4000000 in
set_option maxRecDepth 1000000 in
theorem qp_Encode.calls (s r : ByteArray) (w : World) (h : qp_Encode.f s = some r) :
    Calls Tryd.prog 13 #[.string s] w fun e w' => e = .returned (.string r) ∧ Below w.heap.size w w' := by
  obtain ⟨hs, rfl⟩ := of_guard h
  clear h
  go_enter Tryd.func13, Tryd.ntmps13
  go_wp2
  go_loopw [4, 12] (fun v i wr => ∃ (k : Nat) (row acc : List UInt8), k ≤ s.size ∧ i = .int .i64 (k : Int) ∧ v = .string ⟨row.toArray⟩ ∧ row.length ≤ 75 ∧ acc ++ encGo (s.data.toList.drop k) row = qpEnc s.data.toList ∧ Lib.IsBuilderF 30 5 w.heap.size w.heap.size (Lib.byteCells acc) wr ∧ Below w.heap.size w wr ∧ w.heap.size ≤ wr.heap.size ∧ acc.length ≤ 100 * k) (fun _ i _ => s.size - (RowKit.intOf i).toNat)
  case atStart => exact ⟨0, [], [], Nat.zero_le _, rfl, rfl, by simp, rfl, Lib.IsBuilderF.of (Lib.fresh_isBuilder 30 5 w), (Below.refl _ w).alloc (Nat.le_refl _) _, by simp, by simp⟩
  case round =>
    obtain ⟨k, row, acc, hk, rfl, rfl, hrow, hacc, hI, hb, hsz, hal⟩ := hrel
    by_cases hlt : k < s.size
    · have hlt2 : k < s.data.toList.length := by simpa using hlt
      have hcs : s[k] = s.data.toList[k] := rfl
      rw [List.drop_eq_getElem_cons hlt2] at hacc
      have hi2 : (k : Int) < (s.size : Int) := by omega
      generalize hcc : s.data.toList[k] = c at *
      have h256 : c.toNat < 256 := UInt8.toNat_lt _
      go_wp2_with fail
      go_quiet (fail)
      rename_i nq
      rw [tok_eq c]
      go_upto_region 8 with fail
      have hl : s.data.toList.length = s.size := by simp
      have hem : (s.data.toList.drop (k + 1)).isEmpty = decide (k + 1 = s.size) := by
        have hd : (s.data.toList.drop (k + 1)).length = s.size - (k + 1) := by rw [List.length_drop, hl]
        by_cases h : k + 1 = s.size
        · rw [decide_eq_true h, List.eq_nil_of_length_eq_zero (by omega : (s.data.toList.drop (k + 1)).length = 0)]; rfl
        · rw [decide_eq_false h]
          cases hh : s.data.toList.drop (k + 1) with
          | nil => rw [hh] at hd; simp at hd; omega
          | cons a b => rfl
      go_cut [52] from 13 to 77 (fun v wc => v = .bool (plainB c (s.data.toList.drop (k + 1)).isEmpty) ∧ wc = wr.drewN nq)
      case first =>
        by_cases q1 : 32 ≤ c.toNat
        · by_cases q2 : c.toNat ≤ 126
          · by_cases q3 : c.toNat = 61
            · have hv : plainB c (decide (k + 1 = s.size)) = false := by simp [plainB, q3]
              have HV := Lib.hid (hem.symm ▸ hv)
              clear hv
              go_wp2_with fail
              go_meet
              case rel => exact ⟨by rw [HV.out], rfl⟩
            · by_cases q4 : c.toNat = 32
              · by_cases q5 : k + 1 = s.size
                · have hv : plainB c (decide (k + 1 = s.size)) = false := by simp [plainB, q4, q5]
                  have HV := Lib.hid (hem.symm ▸ hv)
                  clear hv
                  go_wp2_with fail
                  go_meet
                  case rel => exact ⟨by rw [HV.out]; exact congrArg Value.bool (decide_eq_false (by omega)), rfl⟩
                · have hv : plainB c (decide (k + 1 = s.size)) = true := by simp [plainB, q4, q5]
                  have HV := Lib.hid (hem.symm ▸ hv)
                  clear hv
                  go_wp2_with fail
                  go_meet
                  case rel => exact ⟨by rw [HV.out]; exact congrArg Value.bool (decide_eq_true (by omega)), rfl⟩
              · have hv : plainB c (decide (k + 1 = s.size)) = true := by simp [plainB, q1, q2, q3, q4]
                have HV := Lib.hid (hem.symm ▸ hv)
                clear hv
                go_wp2_with fail
                go_meet
                case rel => exact ⟨by rw [HV.out]; exact congrArg Value.bool (bne_iff_ne.2 (by omega)), rfl⟩
          · have hv : plainB c (decide (k + 1 = s.size)) = false := by simp [plainB, q2]
            have HV := Lib.hid (hem.symm ▸ hv)
            clear hv
            go_wp2_with fail
            go_meet
            case rel => exact ⟨by rw [HV.out], rfl⟩
        · have hv : plainB c (decide (k + 1 = s.size)) = false := by simp [plainB, q1]
          have HV := Lib.hid (hem.symm ▸ hv)
          clear hv
          go_wp2_with fail
          go_meet
          case rel => exact ⟨by rw [HV.out], rfl⟩
      case rest =>
        obtain ⟨rfl, rfl⟩ := hcut
        generalize hlast : (s.data.toList.drop (k + 1)).isEmpty = last at *
        have hx : s.extract k (k + 1) = ⟨[c].toArray⟩ := by
          apply ba_ext
          rw [extract_list, mk_toList, List.take_succ_eq_append_getElem hlt2, hcc, List.drop_append_of_le_length (by simp; omega)]
          simp
        have j1 : k ≤ k + 1 := by omega
        have j2 : k + 1 ≤ s.size := by omega
        have j3 : (k : Int) + 1 ≤ (s.size : Int) := by omega
        go_upto_if 52 with fail
        go_cut [7] from 13 to 77 (fun v wc => v = .string ⟨(tokL c last).toArray⟩ ∧ wc = wr.drewN nq)
        case first =>
          cases hp : plainB c last with
          | true =>
            have ht : tokL c last = [c] := by unfold tokL; rw [if_pos hp]
            go_wp2_with fail
            go_meet
            case rel => exact ⟨by rw [ht], rfl⟩
          | false =>
            have ht : tokL c last = [61, hexD (c.toNat / 16), hexD (c.toNat % 16)] := by unfold tokL; rw [if_neg (by rw [hp]; exact Bool.false_ne_true)]
            go_wp2_with fail
            go_meet
            case rel => exact ⟨by rw [ht], rfl⟩
        case rest =>
          obtain ⟨rfl, rfl⟩ := hcut
          have htk := tokL_len c last
          simp only [encGo, hlast] at hacc
          generalize tokL c last = tk at *
          have hI3 := hI.below (W' := wr.drewN nq) (below_drewN (Below.refl _ _) nq)
          have hb3 : Below w.heap.size w (wr.drewN nq) := below_drewN hb nq
          have hs3 : w.heap.size ≤ (wr.drewN nq).heap.size := hb3.size
          generalize wr.drewN nq = W0 at *
          have hrb : (⟨row.toArray⟩ : ByteArray).size = row.length := mk_size row
          have htb : (⟨tk.toArray⟩ : ByteArray).size = tk.length := mk_size tk
          have hap : (⟨row.toArray⟩ : ByteArray) ++ ⟨tk.toArray⟩ = ⟨(row ++ tk).toArray⟩ := ba_append row tk
          have hem2 : (⟨#[]⟩ : ByteArray) ++ ⟨tk.toArray⟩ = ⟨tk.toArray⟩ := ba_append [] tk
          have hem3 : ByteArray.empty ++ ⟨tk.toArray⟩ = (⟨tk.toArray⟩ : ByteArray) := ba_append [] tk
          have ws : ∀ (x : ByteArray) (y : List UInt8) (W : World), x = ⟨y.toArray⟩ → y.length ≤ 100 → Lib.IsBuilderF 30 5 w.heap.size w.heap.size (Lib.byteCells acc) W → w.heap.size ≤ W.heap.size → Calls Tryd.prog 16 #[.pointer (some ⟨w.heap.size, 0, none⟩), .string x] W fun e w' => e = .returned (.tuple #[.int .i64 x.size, .nilIface]) ∧ Lib.IsBuilderF 30 5 w.heap.size w.heap.size (Lib.byteCells (acc ++ y)) w' ∧ Below w.heap.size W w' := by
            rintro x y W rfl hy hI hW
            refine (Bld.WriteString_k w.heap.size w.heap.size _ _ W hI (by rw [Lib.byteCells_length, mk_size]; omega) hW).mono ?_
            rintro e W2 ⟨rfl, h2, b2, _⟩
            exact ⟨rfl, by rw [Lib.byteCells_append]; exact h2, b2⟩
          have WS := Lib.hid ws; have HI3 := Lib.hid hI3; have HB3 := Lib.hid hb3; have HS3 := Lib.hid hs3; have HAP := Lib.hid hap; have HE2 := Lib.hid hem2; have HE3 := Lib.hid hem3; have HX := Lib.hid hx; have HRB := Lib.hid hrb
          have hsl := shortL_len row
          clear ws hI3 hb3 hs3 hap hem2 hem3 hx hI hb hlast
          by_cases h75 : 75 < row.length + tk.length
          · rw [if_pos h75] at hacc
            have g75 : (75 : Int) < ((⟨row.toArray⟩ : ByteArray).size : Int) + ((⟨tk.toArray⟩ : ByteArray).size : Int) := by rw [hrb, htb]; omega
            have HA := Lib.hid hacc
            clear hacc
            by_cases hsuf : Lib.hasSuffix row [32] = true
            · have hsh : shortL row = row.take (row.length - 1) ++ [61, 50, 48] := by unfold shortL; rw [if_pos hsuf]
              have cs : ∀ W, Calls Tryd.prog 21 #[.string ⟨row.toArray⟩, .string ⟨#[32]⟩] W fun e w' => e = .returned (.tuple #[.string ⟨(row.take (row.length - 1)).toArray⟩, .bool true]) ∧ w' = W := by
                intro W
                refine (Tryd.strings_CutSuffix _ _ W (by rw [mk_size]; omega)).mono ?_
                rintro e W2 ⟨rfl, rfl⟩
                show Ending.returned (.tuple #[.string ⟨(Lib.trimSuffix row [32]).toArray⟩, .bool (Lib.hasSuffix row [32])]) = _ ∧ _
                rw [hsuf]
                unfold Lib.trimSuffix
                rw [if_pos hsuf]
                exact ⟨rfl, rfl⟩
              have CS := Lib.hid cs
              have f1 : (⟨(row.take (row.length - 1)).toArray⟩ : ByteArray) ++ ⟨#[61, 50, 48]⟩ ++ ⟨#[61, 10]⟩ = ⟨(shortL row ++ [61, 10]).toArray⟩ := by
                rw [hsh]
                have e1 := ba_append (row.take (row.length - 1)) [61, 50, 48]
                have e2 := ba_append (row.take (row.length - 1) ++ [61, 50, 48]) [61, 10]
                rw [← e2, ← e1]
              have F1 := Lib.hid f1; have HSH := Lib.hid hsh
              clear cs f1 hsh hsuf
              go_wp2_with (first
                | (go_at_call 21; refine (CS.out _).mono ?_; rintro e W1 ⟨rfl, rfl⟩)
                | (go_at_call 16; refine (WS.out _ (shortL row ++ [61, 10]) _ F1.out (by simp only [List.length_append, List.length_cons, List.length_nil]; omega) HI3.out HS3.out).mono ?_; rintro e W2 ⟨rfl, h2, b2⟩))
              go_roundw
              case rel => exact ⟨k + 1, tk, acc ++ (shortL row ++ [61, 10]), by omega, by go_num, by first | rw [HE2.out] | rw [HE3.out] | rfl, by omega, by rw [← HA.out]; simp [List.append_assoc], h2, HB3.out.trans b2, Nat.le_trans HS3.out b2.size, by simp only [List.length_append, List.length_cons, List.length_nil]; omega⟩
              case measure => simp [RowKit.intOf]; omega
            · have hsh : shortL row = row := by unfold shortL; rw [if_neg hsuf]
              have cs : ∀ W, Calls Tryd.prog 21 #[.string ⟨row.toArray⟩, .string ⟨#[32]⟩] W fun e w' => e = .returned (.tuple #[.string ⟨row.toArray⟩, .bool false]) ∧ w' = W := by
                intro W
                refine (Tryd.strings_CutSuffix _ _ W (by rw [mk_size]; omega)).mono ?_
                rintro e W2 ⟨rfl, rfl⟩
                show Ending.returned (.tuple #[.string ⟨(Lib.trimSuffix row [32]).toArray⟩, .bool (Lib.hasSuffix row [32])]) = _ ∧ _
                rw [Bool.eq_false_iff.2 hsuf]
                unfold Lib.trimSuffix
                rw [if_neg hsuf]
                exact ⟨rfl, rfl⟩
              have CS := Lib.hid cs
              have f1 : (⟨row.toArray⟩ : ByteArray) ++ ⟨#[61, 10]⟩ = ⟨(shortL row ++ [61, 10]).toArray⟩ := by
                rw [hsh]
                exact ba_append row [61, 10]
              have F1 := Lib.hid f1; have HSH := Lib.hid hsh
              clear cs f1 hsh hsuf
              go_wp2_with (first
                | (go_at_call 21; refine (CS.out _).mono ?_; rintro e W1 ⟨rfl, rfl⟩)
                | (go_at_call 16; refine (WS.out _ (shortL row ++ [61, 10]) _ F1.out (by simp only [List.length_append, List.length_cons, List.length_nil]; omega) HI3.out HS3.out).mono ?_; rintro e W2 ⟨rfl, h2, b2⟩))
              go_roundw
              case rel => exact ⟨k + 1, tk, acc ++ (shortL row ++ [61, 10]), by omega, by go_num, by first | rw [HE2.out] | rw [HE3.out] | rfl, by omega, by rw [← HA.out]; simp [List.append_assoc], h2, HB3.out.trans b2, Nat.le_trans HS3.out b2.size, by simp only [List.length_append, List.length_cons, List.length_nil]; omega⟩
              case measure => simp [RowKit.intOf]; omega
          · rw [if_neg h75] at hacc
            have g75 : ¬ (75 : Int) < ((⟨row.toArray⟩ : ByteArray).size : Int) + ((⟨tk.toArray⟩ : ByteArray).size : Int) := by rw [hrb, htb]; omega
            have HA := Lib.hid hacc
            clear hacc
            go_wp2_with fail
            go_roundw
            case rel => exact ⟨k + 1, row ++ tk, acc, by omega, by go_num, by rw [HAP.out], by rw [List.length_append]; omega, HA.out, HI3.out, HB3.out, HS3.out, by omega⟩
            case measure => simp [RowKit.intOf]; omega
    · have hk2 : s.data.toList.drop k = [] := List.drop_eq_nil_of_le (by simp; omega)
      rw [hk2] at hacc
      have HA := Lib.hid hacc
      have HI := Lib.hid hI
      clear hacc hI hk2
      go_wp2_with (go_at_call 17; refine (Tryd.Builder_String_any_k w.heap.size w.heap.size _ _ HI.out hsz).mono ?_; rintro e W1 ⟨rfl, _, b1, _⟩)
      go_ret
      exact ⟨by rw [← HA.out]; exact congrArg (fun x => Ending.returned (.string x)) (ba_append acc row), hb.trans b1⟩

def muslinref02_Digits.f (c : Int) : Option ByteArray := if 0 ≤ c ∧ c < 256 then some ⟨[hexD (c.toNat / 16), hexD (c.toNat % 16)].toArray⟩ else none
theorem dig_two (n : Nat) (h : n < 256) : ((⟨#[48, 49, 50, 51, 52, 53, 54, 55, 56, 57, 65, 66, 67, 68, 69, 70]⟩ : ByteArray).extract (n / 16) (n / 16 + 1) ++ (⟨#[48, 49, 50, 51, 52, 53, 54, 55, 56, 57, 65, 66, 67, 68, 69, 70]⟩ : ByteArray).extract (n % 16) (n % 16 + 1)) = ⟨[hexD (n / 16), hexD (n % 16)].toArray⟩ := by
  rw [dig_at ⟨n / 16, by omega⟩, dig_at ⟨n % 16, by omega⟩]
  rfl
theorem muslinref02_Digits.calls (c : Int) (r : ByteArray) (w : World) (h : muslinref02_Digits.f c = some r) :
    Calls Tryd.prog 22 #[.int .u8 c] w fun e w' => e = .returned (.string r) ∧ Below w.heap.size w w' := by
  obtain ⟨⟨h0, h1⟩, rfl⟩ := of_guard h
  clear h
  obtain ⟨n, rfl⟩ : ∃ n : Nat, c = (n : Int) := ⟨c.toNat, by omega⟩
  have hn : n < 256 := by omega
  go_enter Tryd.func22, Tryd.ntmps22
  go_wp2_with fail
  go_quiet (fail)
  go_wp2_with fail
  go_ret
  exact ⟨congrArg (fun x => Ending.returned (.string x)) (dig_two n hn), below_drewN (Below.refl _ _) _⟩
end Go.Proofs.YtjmeoplajfmieaaDoor
