/- The law LinkPut: for every input the call returns true, and the input reads as it did: out of the pure statement and the printed walk; the listed tables are tied to the program's text. -/
import Derived.Test.YthilhcpdbjeepaaGreatDoorRows
import Derived.Test.YthilhcpdbjeepaaGreatDoorTurn16b
import Derived.Test.YthilhcpdbjeepaaGreatDoorTurn16b
import Derived.Test.YthilhcpdbjeepaaGreatDoorStd
import Derived.Test.YthilhcpdbjeepaaGreatDoorCards
import Derived.Test.YthilhcpdbjeepaaGreatDoorTie
import Derived.WalkKit
import Derived.ProofKit
import Derived.OpenShut
import Derived.ShutString
import Derived.ChangeOld
import Derived.Below
import Derived.SizedLaws
import Derived.LaidMore
import Derived.Lay
import Derived.Lib.SmallJoins
namespace Go.Proofs.YthilhcpdbjeepaaGreatDoor.linkPut
open Go.ChangeShapes Go.WideShapes Go.ChangeAt Go.RowKit
open Go.ChangeMaps (open_string shut_string)
set_option linter.unusedVariables false
theorem own : ownKnob Tryz.prog.godebug = none := by kernel_rfl
noncomputable def laidWorld (os : Os) : World := World.laidAll Tryz.prog os Rows.linkPutRow.laid
theorem door_met (os : Os) (args : Array Value) : laidMetH Tryz.prog Rows.linkPutRow.laid ((laidWorld os).forCall (fun _ _ => 0) ⟨#[], args, []⟩).memory :=
  laidMet_laidAll args (by kernel_rfl) (by kernel_rfl)
set_option maxRecDepth 100000 in
theorem lifted (os : Os) (started : os.Started) (H : Type) (enc : TypeId × Value → H) :
    ReturnsInHanded {} Tryz.checked os 5 .any (fun w args => (Rows.linkPutSpec.pre enc Tryz.prog Tryz.f5 [] false w args ∧ laidMetH Tryz.prog Rows.linkPutRow.laid w) ∧ sizedMet enc Tryz.prog Tryz.f5 (OpenSpec.ofChange Rows.linkPutSpec) false w args)
      (Rows.linkPutSpec.post enc Tryz.prog Tryz.f5 false true false false) := by
  refine returnsInHanded_of_change_and (C := Tryz.checked) (X := fun w _ => laidMetH Tryz.prog Rows.linkPutRow.laid w) (fun _ _ _ hh h => h.of_heap hh) own started (by kernel_rfl) Tryz.func5
    (ChangeSpec.witness_shaped (enc := enc) (C := Tryz.checked) (os := os) (X := fun w _ => laidMetH Tryz.prog Rows.linkPutRow.laid w) false (laidWorld os) #[.agg #[.string ByteArray.empty, .int .i64 0, .int .u8 0, .int .u8 0]] 8 rfl (World.shaped_of_ZipB (by kernel_rfl) (by kernel_rfl)) (by kernel_rfl) (by kernel_rfl) (by kernel_rfl) (door_met os _)) ?_
  intro W base args ds gs before hval0 hW _ hsz0 hL _
  have hsz : (DataW.weightsEach Tryz.prog (Tryz.f5.params.toList ++ Rows.linkPutSpec.plain.varTypes Tryz.prog) (ds ++ gs)).all (· ≤ reachBytes) = true := hsz0
  have hval : ∀ (j : Nat) t v, Tryz.f5.params[j]? = some t → args[j]? = some v → Value.okWide Tryz.prog W .any base t v := hval0
  have hW' := hW
  obtain ⟨p, q, hA0, hV, rfl, hfz, hnd⟩ := hW
  have hA : DataW.TrodAll enc Tryz.prog W 0 (fun _ => true) true Tryz.f5.params.toList args.toList ds p := hA0
  rw [Tryz.params5] at hA hval hsz
  obtain ⟨v0, vs0, d0, ds0, p0, q0, hargs, rfl, rfl, h0, r0⟩ := trodAll_cons hA
  obtain ⟨rfl, rfl, rfl⟩ := trodAll_nil r0
  obtain rfl : args = #[v0] := by cases args; simp_all
  obtain ⟨rfl, rfl⟩ := trodVars_none hV
  obtain ⟨v0_0, v0_1, v0_2, v0_3, y0_0, y0_1, y0_2, y0_3, n0, rfl, rfl, rfl, h0_0, h0_1, h0_2, h0_3⟩ := Joins.open_agg4 Tryz.underlying29 (by kernel_rfl) (by kernel_rfl) (hval 0 29 v0 rfl rfl) h0
  obtain ⟨a0_0, e0_0, rfl, w0_0⟩ := DataW.trod_string Tryz.underlying9 h0_0
  obtain rfl := (List.cons.inj e0_0).1
  obtain ⟨a0_1, e0_1, rfl, w0_1⟩ := DataW.trod_int Tryz.underlying3 h0_1
  obtain rfl := (List.cons.inj e0_1).1
  obtain ⟨a0_2, e0_2, rfl, w0_2⟩ := DataW.trod_int Tryz.underlying5 h0_2
  obtain rfl := (List.cons.inj e0_2).1
  obtain ⟨a0_3, e0_3, rfl, w0_3⟩ := DataW.trod_int Tryz.underlying5 h0_3
  obtain rfl := (List.cons.inj e0_3).1
  clear hA0 hval0 hsz0 hsz
  refine (Turn16b.muslinlaw16_LinkPut.walk Pure.LinkPut a0_0 a0_1 a0_2 a0_3 W w0_0 w0_1 w0_2 w0_3).mono fun e W' ⟨he, bel⟩ => ?_
  subst he
  exact ⟨_, rfl, _, _, _, [], _, [], hW', trodAll_mk1 (shut_bool Tryz.underlying4 _), (trodAll_cons_mk (Joins.shut_agg4 Tryz.underlying29 (by kernel_rfl) (by kernel_rfl) (Joins.field_of_Trod (shut_string Tryz.underlying9 w0_0) rfl) (Joins.field_of_Trod (shut_int Tryz.underlying3 w0_1) rfl) (Joins.field_of_Trod (shut_int Tryz.underlying5 w0_2) rfl) (Joins.field_of_Trod (shut_int Tryz.underlying5 w0_3) rfl)) trodAll_mk0), rfl, bel.frame _, fun h => by cases h⟩
theorem said : Rows.LinkPutSaid :=
  OpenClaim.holds_of_wide 5 Tryz.f5 rfl rfl rfl rfl rfl rfl rfl ⟨rfl, rfl, rfl, rfl, rfl⟩ rfl rfl rfl rfl rfl (by kernel_rfl) Tryz.func5 (by kernel_rfl)
    (of_decide_eq_true (by kernel_rfl)) (by unfold Func.isWrapper; first | (rw [if_pos (by decide +kernel)]; kernel_rfl) | (rw [if_neg (by decide +kernel)]; exact ⟨rfl, rfl⟩))
    (fun os started H enc _ => lifted os started H enc)
theorem plain (f : FuncId) (fn : Func) (hf : Tryz.pinned.checked.prog.funcNamed Rows.linkPutRow.func = some f) (hfn : Tryz.pinned.checked.prog.funcs[f]? = some fn) :
    true = Tryz.pinned.checked.prog.looks [] ∧ ∀ (j : Nat) t, fn.params[j]? = some t → Tryz.pinned.checked.prog.wantsStandIn t = false := by
  obtain rfl : f = 5 := Option.some.inj ((show Tryz.prog.funcNamed Rows.linkPutRow.func = some 5 by kernel_rfl).symm.trans hf) |>.symm
  obtain rfl : fn = Tryz.f5 := (Option.some.inj (Tryz.func5.symm.trans hfn)).symm
  refine ⟨by kernel_rfl, fun j t ht => ?_⟩
  rw [Tryz.params5] at ht
  have hm := Array.mem_of_getElem? ht
  simp at hm
  subst hm
  exact (show Tryz.prog.wantsStandIn 29 = false by kernel_rfl)
theorem card : Rows.LinkPutCardSaid :=
  Claim7.holds_tied_plain_at .later [] _ _ _ _ said (fun _ h => by cases h) (by kernel_rfl) (fun _ h => by cases h) linkPut_row_tie rfl ⟨rfl, rfl⟩ (by kernel_rfl) rfl plain (by kernel_rfl)
end Go.Proofs.YthilhcpdbjeepaaGreatDoor.linkPut
namespace Go.Proofs.YthilhcpdbjeepaaGreatDoor
theorem linkPut_holds : Rows.LinkPutCardSaid := linkPut.card
end Go.Proofs.YthilhcpdbjeepaaGreatDoor
