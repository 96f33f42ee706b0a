/- What the document's encoder comes to, on bytes: a walk. -/
import Derived.Test.YtjmeoplajfmieaaDoorQpCode
namespace Go.Proofs.YtjmeoplajfmieaaDoor
open Go.RowKit Go.Lib Go.Proofs.YtjmeoplajfmieaaDoor.Pure
set_option linter.unusedVariables false
set_option linter.unusedSimpArgs false

theorem u8_32 (c : UInt8) : c.toNat = 32 ↔ c = 32 := ⟨fun h => UInt8.toNat_inj.1 h, fun h => by rw [h]; rfl⟩
theorem drop_take_one (l : List UInt8) (k : Nat) (h : k < l.length) : (l.take (k + 1)).drop k = [l[k]] := by
  rw [List.take_succ_eq_append_getElem h, List.drop_append_of_le_length (by simp; omega)]
  simp
theorem suffix_last (row : List UInt8) (h : 1 ≤ row.length) : Lib.hasSuffix row [32] = true ↔ row[row.length - 1]'(by omega) = 32 := by
  obtain ⟨a, b, rfl⟩ : ∃ a b, row = a ++ [b] := by
    have hne : row ≠ [] := by intro h'; simp [h'] at h
    exact ⟨row.dropLast, row.getLast hne, (List.dropLast_concat_getLast hne).symm⟩
  have e1 : Lib.hasSuffix (a ++ [b]) [32] = ((32 : UInt8) == b) := by
    simp only [Lib.hasSuffix, List.isSuffixOf, List.reverse_append, List.reverse_cons, List.reverse_nil, List.nil_append, List.cons_append, List.isPrefixOf, Bool.and_true]
  have e2 : (a ++ [b])[(a ++ [b]).length - 1]'(by simp) = b := by simp
  rw [e1, e2, beq_iff_eq, eq_comm]
def midL (c : UInt8) : List UInt8 := if c.toNat = 32 ∨ (33 ≤ c.toNat ∧ c.toNat ≤ 126 ∧ c.toNat ≠ 61) then [c] else [61, hexD (c.toNat / 16), hexD (c.toNat % 16)]
theorem tok_mid (c : UInt8) (last : Bool) : (if c.toNat = 32 ∧ last = true then [61, 50, 48] else midL c) = tokL c last := by
  by_cases q : c.toNat = 32
  · obtain rfl : c = 32 := (u8_32 c).1 q
    cases last <;> rfl
  · rw [if_neg (fun h => q h.1)]
    unfold midL tokL plainB
    by_cases hp : 33 ≤ c.toNat ∧ c.toNat ≤ 126 ∧ c.toNat ≠ 61
    · rw [if_pos (.inr hp), if_pos (decide_eq_true ⟨by omega, hp.2.1, hp.2.2, .inl q⟩)]
    · rw [if_neg (by omega), if_neg (by rw [decide_eq_true_eq]; omega)]
theorem last_parts (row : List UInt8) (h : 1 ≤ row.length) : ∃ (m : Nat) (x : UInt8), row.length = m + 1 ∧ (∀ hm : m < (⟨row.toArray⟩ : ByteArray).size, (⟨row.toArray⟩ : ByteArray)[m]'hm = x) ∧ (⟨row.toArray⟩ : ByteArray).extract 0 m = ⟨(row.take m).toArray⟩ ∧ (x = 32 → shortL row = row.take m ++ [61, 50, 48]) ∧ (x ≠ 32 → shortL row = row) := by
  have hs := suffix_last row h
  refine ⟨row.length - 1, row[row.length - 1]'(by omega), by omega, fun _ => rfl, ?_, fun hx => ?_, fun hx => ?_⟩
  · apply ba_ext; rw [extract_list]; rfl
  · unfold shortL; rw [if_pos (hs.2 hx)]
  · unfold shortL; rw [if_neg (fun h' => hx (hs.1 h'))]
def muslinref02_Encode.f (s : ByteArray) : Option ByteArray := if s.size ≤ 1000000000000 then some ⟨(qpEnc s.data.toList).toArray⟩ else none
theorem digits_calls (c : UInt8) (W : World) : Calls Tryd.prog 22 #[.int .u8 (c.toNat : Int)] W fun e w' => e = .returned (.string ⟨#[hexD (c.toNat / 16), hexD (c.toNat % 16)]⟩) ∧ Below W.heap.size W w' :=
  muslinref02_Digits.calls _ _ W (by
    unfold muslinref02_Digits.f
    rw [if_pos ⟨by omega, by have := UInt8.toNat_lt c; omega⟩]
    rfl)
set_option maxHeartbeats 4000000 in
set_option maxRecDepth 1000000 in
theorem muslinref02_Encode.calls (s r : ByteArray) (w : World) (h : muslinref02_Encode.f s = some r) :
    Calls Tryd.prog 14 #[.string s] w fun e w' => e = .returned (.string r) ∧ Below w.heap.size w w' := by
  obtain ⟨hs, rfl⟩ := of_guard h
  clear h
  go_enter Tryd.func14, Tryd.ntmps14
  go_wp2
  go_loopw [3, 4, 5] (fun u v i wr => ∃ (k : Nat) (row acc : List UInt8), k ≤ s.size ∧ i = .int .i64 (k : Int) ∧ u = .string ⟨acc.toArray⟩ ∧ v = .string ⟨row.toArray⟩ ∧ row.length ≤ 75 ∧ acc ++ encGo (s.data.toList.drop k) row = qpEnc s.data.toList ∧ Below w.heap.size w wr ∧ acc.length ≤ 100 * k) (fun _ _ i _ => s.size - (RowKit.intOf i).toNat)
  case atStart => exact ⟨0, [], [], Nat.zero_le _, rfl, rfl, rfl, by simp, rfl, Below.refl _ w, by simp⟩
  case round =>
    obtain ⟨k, row, acc, hk, rfl, rfl, rfl, hrow, hacc, hb, hal⟩ := hrel
    have hl : s.data.toList.length = s.size := by simp
    by_cases hlt : k < s.size
    · have hlt2 : k < s.data.toList.length := by omega
      have hcs : s[k] = s.data.toList[k] := rfl
      rw [List.drop_eq_getElem_cons hlt2] at hacc
      have hi2 : (k : Int) < (s.size : Int) := by omega
      have hem : (s.data.toList.drop (k + 1)).isEmpty = decide (k + 1 = s.size) := by
        have hd : (s.data.toList.drop (k + 1)).length = s.size - (k + 1) := by rw [List.length_drop, hl]
        by_cases h : k + 1 = s.size
        · rw [decide_eq_true h, List.eq_nil_of_length_eq_zero (by omega : (s.data.toList.drop (k + 1)).length = 0)]; rfl
        · rw [decide_eq_false h]
          cases hh : s.data.toList.drop (k + 1) with
          | nil => rw [hh] at hd; simp at hd; omega
          | cons a b => rfl
      have hx : s.extract k (k + 1) = ⟨[s.data.toList[k]].toArray⟩ := by
        apply ba_ext
        rw [extract_list, drop_take_one _ _ hlt2]
      simp only [encGo, hem] at hacc
      have htk := tokL_len s.data.toList[k] (decide (k + 1 = s.size))
      generalize hcc : s.data.toList[k] = c at *
      have h256 : c.toNat < 256 := UInt8.toNat_lt _
      have j1 : k ≤ k + 1 := by omega
      have j2 : k + 1 ≤ s.size := by omega
      have j3 : (k : Int) + 1 ≤ (s.size : Int) := by omega
      have HACC := Lib.hid hacc; have HB := Lib.hid hb; have DG := Lib.hid (digits_calls c)
      clear hacc hb hcc
      go_upto_region 7 with (go_at_call 22; refine (DG.out _).mono ?_; rintro e W1 ⟨rfl, b1⟩)
      go_cut [39] from 7 to 78 (fun v wc => v = .bool (decide (c.toNat = 32 ∨ (33 ≤ c.toNat ∧ c.toNat ≤ 126 ∧ c.toNat ≠ 61))) ∧ wc = W1)
      case first =>
        by_cases q1 : 33 ≤ c.toNat
        · by_cases q2 : c.toNat ≤ 126
          · by_cases q3 : c.toNat = 61
            · have HV := Lib.hid (show decide (c.toNat = 32 ∨ (33 ≤ c.toNat ∧ c.toNat ≤ 126 ∧ c.toNat ≠ 61)) = false by simp [q3])
              go_wp2_with fail
              go_meet
              case rel => exact ⟨by rw [HV.out] <;> first | done | exact congrArg Value.bool (beq_eq_false_iff_ne.2 (by omega)), rfl⟩
            · have HV := Lib.hid (show decide (c.toNat = 32 ∨ (33 ≤ c.toNat ∧ c.toNat ≤ 126 ∧ c.toNat ≠ 61)) = true by simp [q1, q2, q3])
              go_wp2_with fail
              go_meet
              case rel => exact ⟨by rw [HV.out] <;> first | done | exact congrArg Value.bool (beq_eq_false_iff_ne.2 (by omega)), rfl⟩
          · have HV := Lib.hid (show decide (c.toNat = 32 ∨ (33 ≤ c.toNat ∧ c.toNat ≤ 126 ∧ c.toNat ≠ 61)) = false by simp [q2]; omega)
            go_wp2_with fail
            go_meet
            case rel => exact ⟨by rw [HV.out] <;> first | done | exact congrArg Value.bool (beq_eq_false_iff_ne.2 (by omega)), rfl⟩
        · by_cases q3 : c.toNat = 32
          · have HV := Lib.hid (show decide (c.toNat = 32 ∨ (33 ≤ c.toNat ∧ c.toNat ≤ 126 ∧ c.toNat ≠ 61)) = true by simp [q3])
            go_wp2_with fail
            go_meet
            case rel => exact ⟨by rw [HV.out] <;> first | done | exact congrArg Value.bool (beq_eq_false_iff_ne.2 (by omega)), rfl⟩
          · have HV := Lib.hid (show decide (c.toNat = 32 ∨ (33 ≤ c.toNat ∧ c.toNat ≤ 126 ∧ c.toNat ≠ 61)) = false by simp [q1, q3])
            go_wp2_with fail
            go_meet
            case rel => exact ⟨by rw [HV.out] <;> first | done | exact congrArg Value.bool (beq_eq_false_iff_ne.2 (by omega)), rfl⟩
      case rest =>
        obtain ⟨rfl, rfl⟩ := hcut
        go_upto_if 39 with fail
        go_cut [6] from 7 to 78 (fun v wc' => v = .string ⟨(midL c).toArray⟩ ∧ wc' = wc)
        case first =>
          by_cases hp : c.toNat = 32 ∨ (33 ≤ c.toNat ∧ c.toNat ≤ 126 ∧ c.toNat ≠ 61)
          · have HM := Lib.hid (show midL c = [c] by unfold midL; rw [if_pos hp])
            have hpd := decide_eq_true hp
            go_wp2_with fail
            go_meet
            case rel => exact ⟨by rw [HM.out], rfl⟩
          · have HM := Lib.hid (show midL c = [61, hexD (c.toNat / 16), hexD (c.toNat % 16)] by unfold midL; rw [if_neg hp])
            have hpd := decide_eq_false hp
            go_wp2_with fail
            go_meet
            case rel => exact ⟨by rw [HM.out]; rfl, rfl⟩
        case rest =>
          obtain ⟨rfl, rfl⟩ := hcut
          go_upto_region 9 with fail
          go_cut [53] from 7 to 78 (fun v wc' => v = .bool (decide (c.toNat = 32 ∧ k + 1 = s.size)) ∧ wc' = wc)
          case first =>
            by_cases q3 : c.toNat = 32
            · obtain rfl : c = 32 := (u8_32 c).1 q3
              have hm : midL 32 = [32] := rfl
              rw [hm]
              by_cases q4 : k + 1 = s.size
              · have HV := Lib.hid (show decide ((32 : UInt8).toNat = 32 ∧ k + 1 = s.size) = true by simp [q4])
                go_wp2_with fail
                go_meet
                case rel => exact ⟨by rw [HV.out] <;> first | done | exact congrArg Value.bool (beq_iff_eq.2 (by omega)), rfl⟩
              · have HV := Lib.hid (show decide ((32 : UInt8).toNat = 32 ∧ k + 1 = s.size) = false by simp [q4])
                go_wp2_with fail
                go_meet
                case rel => exact ⟨by rw [HV.out] <;> first | done | exact congrArg Value.bool (beq_eq_false_iff_ne.2 (by omega)), rfl⟩
            · have HV := Lib.hid (show decide (c.toNat = 32 ∧ k + 1 = s.size) = false by simp [q3])
              have hne : midL c ≠ [32] := by
                unfold midL
                split
                · intro h; injection h with h; exact q3 (by rw [h]; rfl)
                · intro h; injection h with h h2; cases h2
              generalize midL c = ml at *
              have hnb : ((⟨ml.toArray⟩ : ByteArray).toList == ([32] : List UInt8)) = false := by
                rw [ByteArray.toList_eq]
                exact beq_eq_false_iff_ne.2 hne
              go_wp2_with fail
              go_meet
              case rel => exact ⟨by rw [HV.out], rfl⟩
          case rest =>
            obtain ⟨rfl, rfl⟩ := hcut
            go_upto_if 53 with fail
            go_cut [6] from 7 to 78 (fun v wc' => v = .string ⟨(tokL c (decide (k + 1 = s.size))).toArray⟩ ∧ wc' = wc)
            case first =>
              have htm := tok_mid c (decide (k + 1 = s.size))
              by_cases hp : c.toNat = 32 ∧ k + 1 = s.size
              · have HM := Lib.hid (show tokL c (decide (k + 1 = s.size)) = [61, 50, 48] by rw [← htm, if_pos (by simpa using hp)])
                have hpd := decide_eq_true hp
                go_wp2_with fail
                go_meet
                case rel => exact ⟨by rw [HM.out], rfl⟩
              · have HM := Lib.hid (show tokL c (decide (k + 1 = s.size)) = midL c by rw [← htm, if_neg (by simpa using hp)])
                have hpd := decide_eq_false hp
                go_wp2_with fail
                go_meet
                case rel => exact ⟨by rw [HM.out], rfl⟩
            case rest =>
              obtain ⟨rfl, rfl⟩ := hcut
              have hsl := shortL_len row
              have hacc := HACC.out
              have hb1 : Below w.heap.size w wc := HB.out.trans (b1.mono HB.out.size)
              generalize tokL c (decide (k + 1 = s.size)) = tk at *
              have htb : (⟨tk.toArray⟩ : ByteArray).size = tk.length := mk_size tk
              have hrb : (⟨row.toArray⟩ : ByteArray).size = row.length := mk_size row
              have hab : (⟨acc.toArray⟩ : ByteArray).size = acc.length := mk_size acc
              have HB1 := Lib.hid hb1
              clear HACC hx DG hem hi2 h256 j1 j2 j3 b1 HB hb1
              by_cases h75 : 75 < row.length + tk.length
              · rw [if_pos h75] at hacc
                obtain ⟨m, x, hm, hgetb, htake, hs1, hs2⟩ := last_parts row (by omega)
                have hem2 : ByteArray.empty ++ ⟨tk.toArray⟩ = (⟨tk.toArray⟩ : ByteArray) := ba_append [] tk
                have hem3 : (⟨#[]⟩ : ByteArray) ++ ⟨tk.toArray⟩ = (⟨tk.toArray⟩ : ByteArray) := ba_append [] tk
                have f1 : (⟨acc.toArray⟩ : ByteArray) ++ (⟨(row.take m).toArray⟩ ++ ⟨#[61, 50, 48]⟩) ++ ⟨#[61, 10]⟩ = ⟨(acc ++ (row.take m ++ [61, 50, 48]) ++ [61, 10]).toArray⟩ := by
                  have e1 := ba_append (row.take m) [61, 50, 48]
                  have e2 := ba_append acc (row.take m ++ [61, 50, 48])
                  have e3 := ba_append (acc ++ (row.take m ++ [61, 50, 48])) [61, 10]
                  rw [← e3, ← e2, ← e1]
                have f2 : (⟨acc.toArray⟩ : ByteArray) ++ ⟨row.toArray⟩ ++ ⟨#[61, 10]⟩ = ⟨(acc ++ row ++ [61, 10]).toArray⟩ := by
                  have e2 := ba_append acc row
                  have e3 := ba_append (acc ++ row) [61, 10]
                  rw [← e3, ← e2]
                have g75 : (75 : Int) < ((⟨row.toArray⟩ : ByteArray).size : Int) + ((⟨tk.toArray⟩ : ByteArray).size : Int) := by rw [hrb, htb]; omega
                have rtl : (⟨(row.take m).toArray⟩ : ByteArray).size = m := by rw [mk_size, List.length_take]; omega
                generalize (⟨row.toArray⟩ : ByteArray) = rb at *
                generalize (⟨(row.take m).toArray⟩ : ByteArray) = rt at *
                have k1 : m < rb.size := by omega
                have k2 : (m : Int) < (rb.size : Int) := by omega
                have k3 : (rb.size : Int) - 1 = (m : Int) := by omega
                have k4 : m ≤ rb.size := by omega
                have k5 : rb.size ≤ 75 := by omega
                have k6 : (⟨acc.toArray⟩ : ByteArray).size ≤ 100000000000000 := by omega
                have k7 : (⟨tk.toArray⟩ : ByteArray).size ≤ 3 := by omega
                have k8 : m ≤ 74 := by omega
                have hgx : rb[m]'k1 = x := hgetb k1
                have HF1 := Lib.hid f1; have HF2 := Lib.hid f2; have HE2 := Lib.hid hem2; have HE3 := Lib.hid hem3; have HT := Lib.hid htake; have HA := Lib.hid hacc; have HRB := Lib.hid hrb; have RTL := Lib.hid rtl
                clear f1 f2 hem2 hem3 hacc hgetb hrb rtl
                by_cases h32 : x = 32
                · have HSH := Lib.hid (hs1 h32)
                  have hx2 : (rb[m]'k1).toNat = 32 := by rw [hgx, h32]; rfl
                  clear hs1 hs2 htake
                  go_wp2_with fail
                  go_roundw
                  case rel => exact ⟨k + 1, tk, acc ++ (shortL row ++ [61, 10]), by omega, by go_num, by rw [HT.out, HF1.out, HSH.out]; simp [List.append_assoc], by first | rw [HE2.out] | rw [HE3.out] | rfl, by omega, by rw [← HA.out]; simp [List.append_assoc], HB1.out, by simp only [List.length_append, List.length_cons, List.length_nil]; omega⟩
                  case measure => simp [RowKit.intOf]; omega
                · have HSH := Lib.hid (hs2 h32)
                  have hx2 : ¬ (rb[m]'k1).toNat = 32 := by rw [hgx]; intro h; exact h32 ((u8_32 x).1 h)
                  have hx5 : ¬ ((x.toNat : Int) = 32) := by rw [hgx] at hx2; omega
                  have hx4 : ((x.toNat : Int) == 32) = false := beq_eq_false_iff_ne.2 hx5
                  clear hx2
                  clear hs1 hs2 htake
                  go_wp2_with fail
                  go_roundw
                  case rel => exact ⟨k + 1, tk, acc ++ (shortL row ++ [61, 10]), by omega, by go_num, by rw [HF2.out, HSH.out]; simp [List.append_assoc], by first | rw [HE2.out] | rw [HE3.out] | rfl, by omega, by rw [← HA.out]; simp [List.append_assoc], HB1.out, by simp only [List.length_append, List.length_cons, List.length_nil]; omega⟩
                  case measure => simp [RowKit.intOf]; omega
              · rw [if_neg h75] at hacc
                have g75 : ¬ (75 : Int) < ((⟨row.toArray⟩ : ByteArray).size : Int) + ((⟨tk.toArray⟩ : ByteArray).size : Int) := by rw [hrb, htb]; omega
                have hbd : (⟨row.toArray⟩ : ByteArray).size + (⟨tk.toArray⟩ : ByteArray).size ≤ 9223372036854775807 := by omega
                have hap := ba_append row tk
                have HAP := Lib.hid hap
                have HA := Lib.hid hacc
                clear hacc hap
                go_wp2_with fail
                go_roundw
                case rel => exact ⟨k + 1, row ++ tk, acc, by omega, by go_num, rfl, by rw [HAP.out], by rw [List.length_append]; omega, HA.out, HB1.out, by omega⟩
                case measure => simp [RowKit.intOf]; omega
    · have hk2 : s.data.toList.drop k = [] := List.drop_eq_nil_of_le (by omega)
      rw [hk2] at hacc
      have HA := Lib.hid hacc
      have hap := ba_append acc row
      have hbd : (⟨acc.toArray⟩ : ByteArray).size + (⟨row.toArray⟩ : ByteArray).size ≤ 9223372036854775807 := by rw [mk_size, mk_size]; omega
      have HAP := Lib.hid hap
      clear hacc hk2 hap
      go_wp2
      go_ret
      exact ⟨by rw [← HA.out]; exact congrArg (fun x => Ending.returned (.string x)) HAP.out, hb⟩
end Go.Proofs.YtjmeoplajfmieaaDoor
