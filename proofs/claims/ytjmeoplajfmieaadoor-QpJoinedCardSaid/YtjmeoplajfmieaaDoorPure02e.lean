/- Quoted-printable: the pure statement of QpBack: what is encoded is decoded to itself. -/
import Derived.Test.YtjmeoplajfmieaaDoorPure02d
namespace Go.Proofs.YtjmeoplajfmieaaDoor.Pure
open Go.RowKit Go.Lib Go.Proofs.YtjmeoplajfmieaaDoor Go.Proofs.YtjmeoplajfmieaaDoor.P Go.Proofs.YtjmeoplajfmieaaDoorW.PrintWords Go.Proofs.YtjmeoplajfmieaaDoorW.PrintLast
set_option linter.unusedVariables false
set_option linter.unusedSimpArgs false
/-- What may stand behind blanks that are to stay. -/
def headOK (x : List UInt8) : Prop := x.dropWhile isBl ≠ [] ∧ endedL (x.dropWhile isBl) = none
theorem headOK_bl (b : UInt8) (x : List UInt8) (hb : isBl b = true) (h : headOK x) : headOK (b :: x) := by
  unfold headOK at *
  rw [List.dropWhile_cons, if_pos hb]
  exact h
theorem headOK_cons (c : UInt8) (x : List UInt8) (hb : ¬ isBl c = true) (h10 : c ≠ 10) (h13 : c ≠ 13) : headOK (c :: x) := by
  unfold headOK
  rw [List.dropWhile_cons, if_neg hb]
  exact ⟨by simp, by simp [endedL, h10, h13]⟩
/-- A byte that is neither a blank nor the sign is itself. -/
theorem dec_cons (c : UInt8) (r : List UInt8) (hb : ¬ isBl c = true) (h61 : ¬ c = 61) : qpDec (c :: r) = c :: qpDec r := by
  have hn : nextL (c :: r) = ([c], r) := by
    unfold nextL
    rw [if_neg (by rw [List.dropWhile_cons, if_neg hb]; omega)]
    simp [signL, h61]
  rw [qpDec_step _ (by simp), hn]
  rfl
theorem isBl_61 : ¬ isBl 61 = true := by decide
theorem sign_next (r : List UInt8) : nextL (61 :: r) = signL 61 r := by
  unfold nextL
  rw [if_neg (by rw [List.dropWhile_cons, if_neg isBl_61]; omega)]
theorem dec_break (r : List UInt8) : qpDec (61 :: 10 :: r) = qpDec r := by
  have hn : nextL (61 :: 10 :: r) = ([], r) := by
    rw [sign_next]
    have h : hex2 (10 :: r) = none := by
      cases r with
      | nil => rfl
      | cons b r =>
        have h10 : hexV 10 = none := by decide
        simp [hex2, h10]
    have hb : ¬ isBl 10 = true := by decide
    simp [signL, h, afterSign, List.dropWhile_cons, hb, endedL]
  rw [qpDec_step _ (by simp), hn]
  rfl
theorem hexV_hexD : ∀ n : Fin 16, hexV (hexD n.val) = some n.val := by decide
theorem dec_hex (c : UInt8) (r : List UInt8) : qpDec (61 :: hexD (c.toNat / 16) :: hexD (c.toNat % 16) :: r) = c :: qpDec r := by
  have hc := UInt8.toNat_lt c
  have h1 := hexV_hexD ⟨c.toNat / 16, by omega⟩
  have h2 := hexV_hexD ⟨c.toNat % 16, by omega⟩
  have hn : nextL (61 :: hexD (c.toNat / 16) :: hexD (c.toNat % 16) :: r) = ([c], r) := by
    rw [sign_next]
    have e : UInt8.ofNat (16 * (c.toNat / 16) + c.toNat % 16) = c := by
      rw [Nat.div_add_mod]
      simp
    simp only at h1 h2
    simp [signL, hex2, h1, h2, e]
  rw [qpDec_step _ (by simp), hn]
  rfl
theorem dec_blank (b : UInt8) (r : List UInt8) (hb : isBl b = true) (h : headOK r) : qpDec (b :: r) = b :: qpDec r := by
  have key : ∀ x : List UInt8, headOK x → qpDec x = x.take (x.length - (x.dropWhile isBl).length) ++ qpDec (x.dropWhile isBl) := by
    intro x hx
    have hl := dropWhile_len isBl x
    by_cases hlt : (x.dropWhile isBl).length < x.length
    · have hne : x ≠ [] := by intro h0; subst h0; simp at hlt
      have hn : nextL x = (x.take (x.length - (x.dropWhile isBl).length), x.dropWhile isBl) := by
        unfold nextL
        rw [if_pos hlt]
        unfold blankL
        rw [if_neg (by simp [hx.1, hx.2])]
      rw [qpDec_step _ hne, hn]
    · have e : x.dropWhile isBl = x := (List.dropWhile_suffix isBl).eq_of_length (by omega)
      rw [e]
      simp
  rw [key _ (headOK_bl b r hb h), key _ h]
  have hl := dropWhile_len isBl r
  rw [List.dropWhile_cons, if_pos hb, List.length_cons, show r.length + 1 - (r.dropWhile isBl).length = (r.length - (r.dropWhile isBl).length) + 1 from by omega, List.take_succ_cons]
  rfl
/-- Texts of whole signs, and what they stand for. -/
inductive Toks : List UInt8 → List UInt8 → Prop
  | nil : Toks [] []
  | snoc (row m : List UInt8) (c : UInt8) (last : Bool) : Toks row m → Toks (row ++ tokL c last) (m ++ [c])
def noBlank (row : List UInt8) : Prop := ¬ Lib.hasSuffix row [32] = true
theorem plain_range {c : UInt8} {last : Bool} (h : plainB c last = true) : 32 ≤ c.toNat ∧ c.toNat ≤ 126 ∧ c.toNat ≠ 61 ∧ (c.toNat ≠ 32 ∨ last = false) := of_decide_eq_true h
theorem suffix_snoc (row : List UInt8) (c : UInt8) : Lib.hasSuffix (row ++ [c]) [32] = true ↔ c = 32 := by
  have h := suffix_last (row ++ [c]) (by simp)
  rw [h]
  simp
theorem suffix_hex (row : List UInt8) (a b c : UInt8) (h : c ≠ 32) : noBlank (row ++ [a, b, c]) := by
  unfold noBlank
  rw [show row ++ [a, b, c] = (row ++ [a, b]) ++ [c] from by simp, suffix_snoc]
  exact h
theorem hexD_32 : ∀ n : Fin 16, hexD n.val ≠ 32 := by decide
theorem toks_dec {row m : List UInt8} (h : Toks row m) : ∀ x, (headOK x ∨ noBlank row) → qpDec (row ++ x) = m ++ qpDec x := by
  induction h with
  | nil => intro x _; rfl
  | snoc row m c last _ ih =>
    intro x hx
    rw [List.append_assoc, List.append_assoc]
    by_cases hp : plainB c last = true
    · have ht : tokL c last = [c] := by unfold tokL; rw [if_pos hp]
      have hr := plain_range hp
      rw [ht] at hx ⊢
      by_cases h32 : c = 32
      · have hk : headOK x := by
          rcases hx with h | h
          · exact h
          · exact absurd ((suffix_snoc row c).2 h32) h
        have hb : isBl c = true := by rw [h32]; decide
        rw [ih ([c] ++ x) (.inl (headOK_bl c x hb hk))]
        rw [show [c] ++ x = c :: x from rfl, dec_blank c x hb hk]
        rfl
      · have hb : ¬ isBl c = true := fun hb => by
          rcases (isBl_iff c).1 hb with h1 | h1
          · exact h32 ((u8_32 c).1 h1)
          · omega
        have h10 : c ≠ 10 := fun h => by rw [h] at hr; have : (10 : UInt8).toNat = 10 := rfl; omega
        have h13 : c ≠ 13 := fun h => by rw [h] at hr; have : (13 : UInt8).toNat = 13 := rfl; omega
        have h61 : ¬ c = 61 := fun h => by rw [h] at hr; have : (61 : UInt8).toNat = 61 := rfl; omega
        rw [ih ([c] ++ x) (.inl (headOK_cons c x hb h10 h13))]
        rw [show [c] ++ x = c :: x from rfl, dec_cons c x hb h61]
        rfl
    · have ht : tokL c last = [61, hexD (c.toNat / 16), hexD (c.toNat % 16)] := by unfold tokL; rw [if_neg hp]
      rw [ht, show [61, hexD (c.toNat / 16), hexD (c.toNat % 16)] ++ x = 61 :: hexD (c.toNat / 16) :: hexD (c.toNat % 16) :: x from rfl]
      rw [ih _ (.inl (headOK_cons 61 _ isBl_61 (by decide) (by decide)))]
      show m ++ qpDec (61 :: hexD (c.toNat / 16) :: hexD (c.toNat % 16) :: x) = _
      rw [dec_hex c x]
      rfl
theorem toks_blank {row m : List UInt8} (h : Toks row m) (hb : Lib.hasSuffix row [32] = true) : ∃ row' m', row = row' ++ [32] ∧ m = m' ++ [32] ∧ Toks row' m' := by
  cases h with
  | nil => simp [Lib.hasSuffix] at hb
  | snoc row m c last h =>
    by_cases hp : plainB c last = true
    · have ht : tokL c last = [c] := by unfold tokL; rw [if_pos hp]
      rw [ht] at hb ⊢
      have := (suffix_snoc row c).1 hb
      subst this
      exact ⟨row, m, rfl, rfl, h⟩
    · have ht : tokL c last = [61, hexD (c.toNat / 16), hexD (c.toNat % 16)] := by unfold tokL; rw [if_neg hp]
      rw [ht] at hb
      have hc := UInt8.toNat_lt c
      exact absurd hb (suffix_hex row _ _ _ (hexD_32 ⟨c.toNat % 16, by omega⟩))
theorem tok_last (row : List UInt8) (c : UInt8) : noBlank (row ++ tokL c true) := by
  by_cases hp : plainB c true = true
  · have ht : tokL c true = [c] := by unfold tokL; rw [if_pos hp]
    have hr := plain_range hp
    rw [ht]
    unfold noBlank
    rw [suffix_snoc]
    intro h
    rw [h] at hr
    rcases hr.2.2.2 with h1 | h1
    · exact h1 rfl
    · exact absurd h1 (by decide)
  · have ht : tokL c true = [61, hexD (c.toNat / 16), hexD (c.toNat % 16)] := by unfold tokL; rw [if_neg hp]
    have hc := UInt8.toNat_lt c
    rw [ht]
    exact suffix_hex row _ _ _ (hexD_32 ⟨c.toNat % 16, by omega⟩)
theorem dec_enc : ∀ (l row m : List UInt8), Toks row m → (l = [] → noBlank row) → qpDec (encGo l row) = m ++ l
  | [], row, m, h, hl => by
    have := toks_dec h [] (.inr (hl rfl))
    simp only [List.append_nil, qpDec_nil] at this
    simp only [encGo, List.append_nil]
    exact this
  | c :: r, row, m, h, _ => by
    have htk : ∀ rw, r = [] → noBlank (rw ++ tokL c r.isEmpty) := by
      intro rw hr
      subst hr
      exact tok_last rw c
    simp only [encGo]
    by_cases h75 : 75 < row.length + (tokL c r.isEmpty).length
    · rw [if_pos h75]
      have h2 := dec_enc r (tokL c r.isEmpty) [c] (by simpa using Toks.snoc [] [] c r.isEmpty Toks.nil) (fun hr => by simpa using htk [] hr)
      by_cases hb : Lib.hasSuffix row [32] = true
      · obtain ⟨row', m', rfl, rfl, h'⟩ := toks_blank h hb
        have hs : shortL (row' ++ [32]) = row' ++ [61, 50, 48] := by
          unfold shortL
          rw [if_pos hb]
          simp
        rw [hs]
        rw [show row' ++ [61, 50, 48] ++ [61, 10] ++ encGo r (tokL c r.isEmpty) = row' ++ (61 :: hexD ((32 : UInt8).toNat / 16) :: hexD ((32 : UInt8).toNat % 16) :: 61 :: 10 :: encGo r (tokL c r.isEmpty)) from by simp; decide]
        rw [toks_dec h' _ (.inl (headOK_cons 61 _ isBl_61 (by decide) (by decide))), dec_hex, dec_break, h2]
        simp
      · have hs : shortL row = row := by unfold shortL; rw [if_neg hb]
        rw [hs, List.append_assoc, toks_dec h _ (.inr hb)]
        show m ++ qpDec (61 :: 10 :: encGo r (tokL c r.isEmpty)) = _
        rw [dec_break, h2]
        simp
    · rw [if_neg h75, dec_enc r (row ++ tokL c r.isEmpty) (m ++ [c]) (Toks.snoc row m c r.isEmpty h) (htk row)]
      simp
theorem dec_back (l : List UInt8) : qpDec (qpEnc l) = l := by
  have := dec_enc l [] [] Toks.nil (fun _ => by simp [noBlank, Lib.hasSuffix])
  exact this
theorem QpBack : muslinlaw02_QpBack.Pure := by
  intro a _
  unfold muslinlaw02_QpBack.f
  by_cases h : a.size ≤ 3000
  · rw [short_yes a h]
    simp only [Option.bind_some, if_true]
    have hl := enc_len4 a.data.toList [] (by simp)
    simp only [List.length_nil, sizeL] at hl
    have e1 : qp_Encode.f a = some ⟨(qpEnc a.data.toList).toArray⟩ := guard_of (by omega)
    have e2 : qp_Decode.f ⟨(qpEnc a.data.toList).toArray⟩ = some a := by
      have : qp_Decode.f ⟨(qpEnc a.data.toList).toArray⟩ = some ⟨(qpDec (qpEnc a.data.toList)).toArray⟩ := guard_of (by rw [mk_size]; unfold qpEnc; omega)
      rw [this, dec_back, mk_back]
    rw [e1]
    simp only [Option.bind_some]
    rw [e2]
    simp only [Option.bind_some, if_true]
    rw [live_is]; rfl
  · rw [short_no a h]
    simp only [Option.bind_some, Bool.false_eq_true, if_false]
    rw [live_is]; rfl
end Go.Proofs.YtjmeoplajfmieaaDoor.Pure
