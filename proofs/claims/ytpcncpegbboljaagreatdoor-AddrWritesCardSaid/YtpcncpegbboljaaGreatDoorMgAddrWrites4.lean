/- Parts of the proof of the law AddrWrites, in one text: Laid08, BoxArg. -/
import Derived.Test.YtpcncpegbboljaaGreatDoorMgAddrWrites3
import Derived.Test.YtpcncpegbboljaaGreatDoorRows
import Derived.Lay
import Derived.PinnedBridge
import Derived.Lib.LaidU8
import Derived.Stop.LaidErr
import Derived.LaidMore
import Derived.ProofKit
import Derived.HandedShaped
import Derived.Handed
import Derived.SliceStrings
import Derived.ChangeSame
set_option linter.unusedVariables false
set_option linter.unusedSimpArgs false
namespace Go.Proofs.YtpcncpegbboljaaGreatDoor
open Go.RowKit Go.ChangeShapes Go.WideShapes Go.ChangeAt Go.Lib
theorem glob_of {W : World} {a : DataW Unit} (ha : a = acceptData) (h : laidMet Tryz.prog [("unicode/utf8.acceptRanges", a), ("muslin/chars.high", Lib.tabData .i32 highTab), ("unicode/utf8.first", Go.Pinned.utf8First)] W) (hsh : W.ShapedOpen Tryz.prog) : Glob W := by
  refine ⟨Lib.tabIs_of_head (show Tryz.prog.globalNamed "muslin/chars.high" = some 3 from by kernel_rfl) (show (Tryz.prog.globals[3]?).map (·.type) = some 160 from by kernel_rfl) Tryz.underlying160 Tryz.underlying21 (by kernel_rfl) (by kernel_rfl) h.tail, ?_, ?_⟩
  · obtain ⟨ps, hl, _⟩ := h
    have rd := LaidVars_reads hl
    have r1 := rd "unicode/utf8.acceptRanges" a (by simp)
    have r3 := rd "unicode/utf8.first" Go.Pinned.utf8First (by simp)
    rw [ha] at r1
    rw [Go.Pinned.utf8First_eq] at r3
    exact utf8Tabs_of_reads Tryz.lays260 ⟨by kernel_rfl, by kernel_rfl, by kernel_rfl, by kernel_rfl, by kernel_rfl, by kernel_rfl, by kernel_rfl⟩ r3 r1
  · exact Go.Proofs.cell_of_shapedOpen_int (zero := #[.int .i64 0]) (t := 3) hsh (of_decide_eq_true (by kernel_rfl)) (by kernel_rfl) rfl (by kernel_rfl) (by kernel_rfl) Tryz.underlying3
theorem glob_addrWrites {W : World} (h : laidMetH Tryz.prog Rows.addrWritesRow.laid W) (hsh : W.ShapedOpen Tryz.prog) : Glob W := glob_of (by kernel_rfl) h hsh
theorem wrap_shaped {H : Type} {enc : TypeId × Value → H} {a : Assume} {C : Checked} {os : Os} {f : FuncId} {fn : Func} {s : ChangeSpec} {conds : List PathCond} {apart fresh handsOn again : Bool} {X : World → Array Value → Prop}
    (hX : ∀ (w w' : World) (args : Array Value), w.heap = w'.heap → X w args → X w' args)
    (own : ownKnob C.prog.godebug = none) (started : os.Started) (noInit : C.prog.inits.idxOf? f = none) (hfn : C.prog.funcs[f]? = some fn)
    (witness : ∃ (w : World) (tape : Tape) (i : Input), w.os = os ∧ (w.forCall tape i).Shaped C.prog ∧ i.vars = [] ∧ Input.okWide C.prog (w.forCall tape i) .any w.heap.size f i ∧
      ((s.pre enc C.prog fn conds apart (w.forCall tape i).memory i.args ∧ X (w.forCall tape i).memory i.args) ∧ sizedMet enc C.prog fn (OpenSpec.ofChange s) apart (w.forCall tape i).memory i.args) ∧ a.holds C.prog (lone (Frame.enter C.prog f i.args .normal) [] (w.forCall tape i)))
    (contract : ∀ (W : World) (base : Nat) (args : Array Value) (ds gs : List (DataW H)) (before : List MemPlace),
      (∀ (j : Nat) t v, fn.params[j]? = some t → args[j]? = some v → Value.okWide C.prog W .any base t v) →
      DataW.Whole enc C.prog fn.params.toList s.vars apart W args.toList ds gs before →
      conds.all (PathCond.test C.prog ⟨fn.params.toList, ds, s.plain.varTypes C.prog, gs⟩) = true →
      (DataW.weightsEach C.prog (fn.params.toList ++ s.plain.varTypes C.prog) (ds ++ gs)).all (· ≤ reachBytes) = true → X W args → W.ShapedOpen C.prog →
      a.holds C.prog (lone (Frame.enter C.prog f args .normal) [] W) →
      Calls C.prog f args W fun e W' => ∃ v, e = .returned v ∧ s.post enc C.prog fn apart fresh handsOn again W args v W') :
    ReturnsInHanded a C os f .any (fun w args => (s.pre enc C.prog fn conds apart w args ∧ X w args) ∧ sizedMet enc C.prog fn (OpenSpec.ofChange s) apart w args) (s.post enc C.prog fn apart fresh handsOn again) := by
  refine returnsInHanded_of_calls own started noInit witness ?_
  intro w tape i _ hsh _ hok hpre hholds
  obtain ⟨_, _, _, fn', hfn', _, _, _, _, hval⟩ := hok
  obtain rfl : fn' = fn := Option.some.inj (hfn'.symm.trans hfn)
  obtain ⟨⟨⟨ds, gs, before, hw, hc⟩, hx⟩, hz⟩ := hpre
  refine (contract (w.forCall tape i) w.heap.size i.args ds gs before hval (DataW.Whole.of_heap (w' := w.forCall tape i) (by rfl) hw) hc (hz.weights hw) (hX _ _ _ (by rfl) hx) hsh hholds).mono fun e W' ⟨v, he, hp⟩ => ?_
  subst he
  exact ChangeSpec.post_blind hp
end Go.Proofs.YtpcncpegbboljaaGreatDoor
namespace Go.Proofs.YtpcncpegbboljaaGreatDoor
open Go.ChangeShapes Go.WideShapes Go.ChangeAt Go.RowKit
theorem add_add8 (a : Addr) (x y : Nat) : (a.add x).add y = a.add (x + y) := by
  unfold Addr.add
  by_cases hx : x = 0
  · subst hx; simp
  · by_cases hy : y = 0
    · subst hy; simp
    · simp [hx, hy, Nat.add_assoc]
theorem boxes_arg {H : Type} {enc : TypeId × Value → H} {Pr : Program} {W : World} {base : Nat} {spare : Nat → Bool} {held : Bool} {t e : TypeId} {b : Option Addr} {len cap : Nat} {d : DataW H} {ps : List MemPlace} {f0 f1 : Field}
    (hu : Pr.underlying t = some (.slice e)) (hs : Pr.underlying e = some (.struct #[f0, f1])) (h0 : Pr.underlying f0.type = some .string) (h1 : Pr.underlying f1.type = some .string) (c0 : Pr.cellsOf f0.type = 1) (c1 : Pr.cellsOf f1.type = 1)
    (o0 : f0.offset = 0) (o1 : f1.offset = 1) (hc : Pr.cellsOf e = 2) (h : DataW.Trod enc Pr W base spare held t (.slice b len cap) d ps) :
    ∃ l : List P.S32, len = l.length ∧ l.length ≤ cap ∧ l.length ≤ maxLen ∧ Go.Proofs.YtpcncpegbboljaaGreatDoorW.PrintWords.Kd.C P.k32 W b l.length l := by
  obtain ⟨fuel, hf⟩ := h
  rcases DataW.trod_slice hu hf with ⟨hcs, _⟩ | ⟨a, l, c, elems, rest, n, _, hcs, _, _, hl, hm, hlen, hel, _, _⟩
  · simp [Value.cells] at hcs
    obtain ⟨rfl, rfl, rfl⟩ := hcs
    exact ⟨[], rfl, Nat.le_refl _, by simp [maxLen], Go.Proofs.YtpcncpegbboljaaGreatDoorW.PrintWords.Kd.C_nil _ _⟩
  · simp [Value.cells] at hcs
    obtain ⟨rfl, rfl, rfl⟩ := hcs
    have each : ∀ i, i < len → ∃ x : P.S32, W.cell? (a.add (i * 2 + 0)) = some (.string x.f0) ∧ W.cell? (a.add (i * 2 + 1)) = some (.string x.f1) := by
      intro i hi
      have hb := hel i hi
      rw [List.getElem?_eq_getElem (by omega), hc, Option.bind_eq_some_iff] at hb
      obtain ⟨cs, hcs, hy⟩ := hb
      obtain ⟨_, hlc, hcell⟩ := World.cells?_some hcs
      obtain ⟨y0, y1, m, _, _, t0, t1⟩ := trod_struct2 hs hy
      match cs, hlc with
      | [v0, v1], _ =>
        rw [c0, o0] at t0
        rw [c1, o1] at t1
        obtain ⟨s0, e0, _, _⟩ := DataW.trod_string h0 t0
        obtain ⟨s1, e1, _, _⟩ := DataW.trod_string h1 t1
        simp at e0 e1
        subst e0 e1
        refine ⟨⟨s0, s1⟩, ?_, ?_⟩
        · have := hcell 0 (by omega)
          rw [show (a.add (i * 2)).add 0 = a.add (i * 2 + 0) from add_add8 _ _ _] at this
          exact this
        · have := hcell 1 (by omega)
          rw [show (a.add (i * 2)).add 1 = a.add (i * 2 + 1) from add_add8 _ _ _] at this
          exact this
    have pick : ∀ m, m ≤ len → ∃ l : List P.S32, l.length = m ∧ ∀ j q, l[j]? = some q → W.cell? (a.add (j * 2 + 0)) = some (.string q.f0) ∧ W.cell? (a.add (j * 2 + 1)) = some (.string q.f1) := by
      intro m
      induction m with
      | zero => intro _; exact ⟨[], rfl, by simp⟩
      | succ m ih =>
        intro hm
        obtain ⟨l, e, hl⟩ := ih (by omega)
        obtain ⟨x, hx⟩ := each m (by omega)
        refine ⟨l ++ [x], by simp [e], fun j q hj => ?_⟩
        by_cases hjl : j < l.length
        · rw [List.getElem?_append_left hjl] at hj; exact hl j q hj
        · have hjm : j = m := by
            have := (List.getElem?_eq_some_iff.1 hj).1
            rw [List.length_append, List.length_singleton] at this; omega
          subst hjm
          rw [List.getElem?_append_right (by omega)] at hj
          simp [e] at hj
          subst hj; exact hx
    obtain ⟨xs, hxl, hxs⟩ := pick len (Nat.le_refl _)
    refine ⟨xs, hxl.symm, by omega, by omega, ⟨rfl, by unfold maxLen at hm; omega, fun _ => ⟨a, rfl, ?_⟩⟩⟩
    intro j q hj
    obtain ⟨k0, k1⟩ := hxs j q hj
    refine ⟨[.string q.f0, .string q.f1], rfl, P.k32_mk W q, fun i u hu => ?_⟩
    match i, hu with
    | 0, hu => obtain rfl := Option.some.inj hu; exact k0
    | 1, hu => obtain rfl := Option.some.inj hu; exact k1
    | i + 2, hu => exact absurd hu (by simp)
end Go.Proofs.YtpcncpegbboljaaGreatDoor
