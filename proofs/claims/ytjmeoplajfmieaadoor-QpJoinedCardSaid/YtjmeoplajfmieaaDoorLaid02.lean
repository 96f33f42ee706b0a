/- The listed tables: what the rows' condition gives. -/
import Derived.Test.YtjmeoplajfmieaaDoorRows
import Derived.Test.YtjmeoplajfmieaaDoorQpCode
import Derived.Test.YtjmeoplajfmieaaDoorShelf
import Derived.Lay
import Derived.PinnedBridge
import Derived.Lib.LaidU8
import Derived.Lib.LaidCase
import Derived.LaidMore
import Derived.ProofKit
namespace Go.Proofs.YtjmeoplajfmieaaDoor
open Go.RowKit Go.ChangeShapes Go.WideShapes Go.ChangeAt Go.Lib
theorem lays274b : Go.Proofs.Lays.n274 Tryd.prog Tryd.lays262_ren :=
  { mixed := Tryd.lays274.mixed, f274 := Tryd.lays274.f274, t0 := Tryd.lays274.t0, a0 := Tryd.lays274.a0, z0 := Tryd.lays274.z0, v0 := Tryd.lays274.v0, t3 := Tryd.lays274.t3, a3 := Tryd.lays274.a3, z3 := Tryd.lays274.z3, v3 := Tryd.lays274.v3, t4 := Tryd.lays274.t4, a4 := Tryd.lays274.a4, z4 := Tryd.lays274.z4, v4 := Tryd.lays274.v4, t21 := Tryd.lays274.t21, a21 := Tryd.lays274.a21, z21 := Tryd.lays274.z21, v21 := Tryd.lays274.v21, t46 := Tryd.lays274.t46, a46 := Tryd.lays274.a46, z46 := Tryd.lays274.z46, v46 := Tryd.lays274.v46, t51 := Tryd.lays274.t51, a51 := Tryd.lays274.a51, z51 := Tryd.lays274.z51, v51 := Tryd.lays274.v51, t160 := Tryd.lays274.t160, a160 := Tryd.lays274.a160, z160 := Tryd.lays274.z160, v160 := Tryd.lays274.v160, t162 := Tryd.lays274.t162, a162 := Tryd.lays274.a162, z162 := Tryd.lays274.z162, v162 := Tryd.lays274.v162, t208 := Tryd.lays274.t208, a208 := Tryd.lays274.a208, z208 := Tryd.lays274.z208, v208 := Tryd.lays274.v208 }
theorem glob_of {W : World} {a : DataW Unit} (ha : a = acceptData) (h : laidMet Tryd.prog [("unicode/utf8.acceptRanges", a), ("unicode.CaseRanges", Go.Pinned.caseRanges), ("unicode/utf8.first", Go.Pinned.utf8First)] W) : Glob W := by
  obtain ⟨ps, hl, _⟩ := h
  have rd := LaidVars_reads hl
  have r1 := rd "unicode/utf8.acceptRanges" a (by simp)
  have r2 := rd "unicode.CaseRanges" Go.Pinned.caseRanges (by simp)
  have r3 := rd "unicode/utf8.first" Go.Pinned.utf8First (by simp)
  rw [ha] at r1
  rw [Go.Pinned.caseRanges_eq] at r2
  rw [Go.Pinned.utf8First_eq] at r3
  exact ⟨utf8Tabs_of_reads Tryd.lays260 ⟨by kernel_rfl, by kernel_rfl, by kernel_rfl, by kernel_rfl, by kernel_rfl, by kernel_rfl, by kernel_rfl⟩ r3 r1, caseVar_of_reads lays274b (by kernel_rfl) ⟨by kernel_rfl, by kernel_rfl, by kernel_rfl, by kernel_rfl, by kernel_rfl, by kernel_rfl⟩ r2⟩
theorem glob_qpDecodes {W : World} (h : laidMetH Tryd.prog Rows.qpDecodesRow.laid W) : Glob W := glob_of (by kernel_rfl) h
theorem glob_qpEncodes {W : World} (h : laidMetH Tryd.prog Rows.qpEncodesRow.laid W) : Glob W := glob_of (by kernel_rfl) h
theorem glob_qpBack {W : World} (h : laidMetH Tryd.prog Rows.qpBackRow.laid W) : Glob W := glob_of (by kernel_rfl) h
theorem glob_qpLines {W : World} (h : laidMetH Tryd.prog Rows.qpLinesRow.laid W) : Glob W := glob_of (by kernel_rfl) h
theorem glob_qpPlain {W : World} (h : laidMetH Tryd.prog Rows.qpPlainRow.laid W) : Glob W := glob_of (by kernel_rfl) h
theorem glob_qpJoined {W : World} (h : laidMetH Tryd.prog Rows.qpJoinedRow.laid W) : Glob W := glob_of (by kernel_rfl) h
end Go.Proofs.YtjmeoplajfmieaaDoor
