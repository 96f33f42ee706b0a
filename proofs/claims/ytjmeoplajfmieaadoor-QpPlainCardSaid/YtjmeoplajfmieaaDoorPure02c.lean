/- Quoted-printable: the pure statements of QpPlain and QpLines. -/
import Derived.Test.YtjmeoplajfmieaaDoorPure02
namespace Go.Proofs.YtjmeoplajfmieaaDoor.Pure
open Go.RowKit Go.Lib Go.Proofs.YtjmeoplajfmieaaDoor Go.Proofs.YtjmeoplajfmieaaDoor.P Go.Proofs.YtjmeoplajfmieaaDoorW.PrintWords Go.Proofs.YtjmeoplajfmieaaDoorW.PrintLast
set_option linter.unusedVariables false
set_option linter.unusedSimpArgs false
theorem dec_plain : ∀ l : List UInt8, (∀ c ∈ l, c.toNat ≠ 61 ∧ c.toNat ≠ 32 ∧ c.toNat ≠ 9) → qpDec l = l
  | [], _ => rfl
  | c :: r, h => by
    have hc := h c (by simp)
    have hb : ¬ isBl c = true := fun hb => by rcases (isBl_iff c).1 hb with h1 | h1 <;> omega
    have hn : nextL (c :: r) = ([c], r) := by
      unfold nextL
      rw [if_neg (by rw [List.dropWhile_cons, if_neg hb]; omega)]
      have h61 : ¬ c = 61 := fun h1 => hc.1 (by rw [h1]; rfl)
      simp [signL, h61]
    rw [qpDec_step _ (by simp), hn, dec_plain r (fun x hx => h x (by simp [hx]))]
    rfl
theorem plain_loop (a : ByteArray) (ha : a.size ≤ 3000) : ∀ (n i : Nat), a.size - i ≤ n → i ≤ a.size → (∀ c ∈ a.data.toList.take i, c.toNat ≠ 61 ∧ c.toNat ≠ 32 ∧ c.toNat ≠ 9) → Ev (fun k => muslinlaw02_QpPlain.l0 k a (i : Int)) true := by
  have fin : ∀ i, a.size ≤ i → (∀ c ∈ a.data.toList.take i, c.toNat ≠ 61 ∧ c.toNat ≠ 32 ∧ c.toNat ≠ 9) → Ev (fun k => muslinlaw02_QpPlain.l0 k a (i : Int)) true := by
    intro i hi h
    rw [List.take_of_length_le (by rw [sizeL]; omega)] at h
    refine Ev.round (fun k => by rw [muslinlaw02_QpPlain.l0]) ?_
    refine Ev.neg (by omega) ?_
    refine Ev.got (x := qp_Decode.f a) (guard_of (by omega)) ?_
    refine Ev.pos (by rw [toList_eq, toList_eq, mk_toList, dec_plain _ h]) ?_
    exact live_end
  intro n
  induction n with
  | zero => intro i h1 h2 h3; exact fin i (by omega) h3
  | succ n ih =>
    intro i h1 h2 h3
    cases hd : a.data.toList.drop i with
    | nil => exact fin i (at_end hd) h3
    | cons c r =>
      obtain ⟨hb, hz, hr⟩ := at_drop hd
      refine Ev.round (fun k => by rw [muslinlaw02_QpPlain.l0]) ?_
      refine Ev.pos (by omega) ?_
      refine Ev.pos (by omega) ?_
      rw [hb]
      by_cases c1 : (c.toNat : Int) = 61
      · refine Ev.pos c1 ?_; exact live_end
      · refine Ev.neg c1 ?_
        by_cases c2 : (c.toNat : Int) = 32
        · refine Ev.pos c2 ?_; exact live_end
        · refine Ev.neg c2 ?_
          by_cases c3 : (c.toNat : Int) = 9
          · refine Ev.pos c3 ?_; exact live_end
          · refine Ev.neg c3 ?_
            rw [w64 (by omega) (by omega), show ((i : Int) + 1) = ((i + 1 : Nat) : Int) from by omega]
            refine ih (i + 1) (by omega) (by omega) ?_
            intro x hx
            have hi : i < a.data.toList.length := by rw [sizeL]; omega
            rw [List.take_succ_eq_append_getElem hi] at hx
            rcases List.mem_append.1 hx with h4 | h4
            · exact h3 x h4
            · have e : a.data.toList[i] = c := by
                have := List.drop_eq_getElem_cons hi
                rw [hd] at this
                injection this with h5 h6
                exact h5.symm
              simp only [List.mem_singleton] at h4
              rw [h4, e]
              omega
theorem QpPlain : muslinlaw02_QpPlain.Pure := by
  intro a _
  refine Ev.rounds (r := true) (g := fun k => muslinlaw02_QpPlain.f k a) ?_
  unfold muslinlaw02_QpPlain.f
  by_cases h : a.size ≤ 3000
  · refine Ev.got (short_yes a h) ?_
    refine Ev.pos rfl ?_
    exact plain_loop a h a.size 0 (by omega) (by omega) (by simp)
  · refine Ev.got (short_no a h) ?_
    refine Ev.neg Bool.false_ne_true ?_
    exact live_end
end Go.Proofs.YtjmeoplajfmieaaDoor.Pure
