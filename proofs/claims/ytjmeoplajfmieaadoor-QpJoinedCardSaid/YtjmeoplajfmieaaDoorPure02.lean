/- Quoted-printable: the pure statements. -/
import Derived.Test.YtjmeoplajfmieaaDoorPure02b
namespace Go.Proofs.YtjmeoplajfmieaaDoor.Pure
open Go.RowKit Go.Lib Go.Proofs.YtjmeoplajfmieaaDoor Go.Proofs.YtjmeoplajfmieaaDoor.P Go.Proofs.YtjmeoplajfmieaaDoorW.PrintWords Go.Proofs.YtjmeoplajfmieaaDoorW.PrintLast
set_option linter.unusedVariables false
set_option linter.unusedSimpArgs false
theorem live_is : muslinlaw02_live.f = some true := by kernel_rfl
theorem live_end : Ev (fun k => (muslinlaw02_live.f).bind fun t => some t) true := by rw [live_is]; exact Ev.now _
theorem short_yes (a : ByteArray) (h : a.size ≤ 3000) : muslinlaw02_short.f a = some true := by
  unfold muslinlaw02_short.f
  have : ((a.size : Int) ≤ 3000) := by omega
  simp [this]
theorem short_no (a : ByteArray) (h : ¬ a.size ≤ 3000) : muslinlaw02_short.f a = some false := by
  unfold muslinlaw02_short.f
  have : ¬ ((a.size : Int) ≤ 3000) := by omega
  simp [this]
theorem QpDecodes : muslinlaw02_QpDecodes.Pure := by
  intro a _
  refine Ev.rounds (r := true) (g := fun k => muslinlaw02_QpDecodes.f k a) ?_
  unfold muslinlaw02_QpDecodes.f
  by_cases h : a.size ≤ 3000
  · refine Ev.got (short_yes a h) ?_
    refine Ev.pos rfl ?_
    refine Ev.got (x := qp_Decode.f a) (guard_of (by omega)) ?_
    refine Ev.bind (refDecode_is a (by omega)) ?_
    refine Ev.pos rfl ?_
    exact live_end
  · refine Ev.got (short_no a h) ?_
    refine Ev.neg Bool.false_ne_true ?_
    exact live_end
theorem QpEncodes : ∀ (a0 : ByteArray), a0.size ≤ 140737488351232 → muslinlaw02_QpEncodes.f a0 = some true := by
  intro a _
  unfold muslinlaw02_QpEncodes.f
  by_cases h : a.size ≤ 3000
  · rw [short_yes a h]
    simp only [Option.bind_some, if_true]
    have e1 : qp_Encode.f a = some ⟨(qpEnc a.data.toList).toArray⟩ := guard_of (by omega)
    have e2 : muslinref02_Encode.f a = some ⟨(qpEnc a.data.toList).toArray⟩ := guard_of (by omega)
    rw [e1, e2]
    simp only [Option.bind_some, if_true]
    rw [live_is]; rfl
  · rw [short_no a h]
    simp only [Option.bind_some, Bool.false_eq_true, if_false]
    rw [live_is]; rfl
end Go.Proofs.YtjmeoplajfmieaaDoor.Pure
