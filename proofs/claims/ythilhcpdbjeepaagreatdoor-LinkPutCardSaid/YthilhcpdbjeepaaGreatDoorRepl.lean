/- strings.NewReplacer(..).Replace where each old string is one byte (and not all new ones are): what the pieces do. -/
import Derived.Test.YthilhcpdbjeepaaGreatDoorOnce
import Derived.Test.YthilhcpdbjeepaaGreatDoorRow
import Derived.WalkKit
import Derived.Lib.Hide
import Derived.Lib.SliceRun
import Derived.OwnWalk
import Derived.Laws.AppendOwn
import Derived.Laws.MakeOwn
import Derived.Laws.OwnMore
import Derived.Laws.BytesArg
import Derived.Laws.CopyOwn
import Derived.Laws.NewBlocks
import Derived.Deep.QuietTactic
import Derived.BigQuiet
import Derived.Deep.LoopGhost
import Derived.Deep.DeepCutAuto
import Derived.Deep.DeepFit
import Derived.LoopTactic
import Derived.WalkSpells
import Derived.IntWalk
namespace Go.Proofs.YthilhcpdbjeepaaGreatDoor.Repl
open Go.RowKit Go.Proofs.YthilhcpdbjeepaaGreatDoor.Row
set_option linter.unusedVariables false
set_option linter.unusedSimpArgs false

abbrev Pairs := List (UInt8 × ByteArray)
/-- What stands for a byte. -/
def look (ps : Pairs) (b : Nat) : Option ByteArray := (ps.find? fun p => p.1.toNat == b).map (·.2)
def oldnew (ps : Pairs) : List ByteArray := ps.flatMap fun p => [⟨#[p.1]⟩, p.2]
def RepCell (M : Nat) (w : World) (r : Option ByteArray) (v : Value) : Prop :=
  match r with
  | none => v = .slice none 0 0
  | some s => ∃ B c, M ≤ B ∧ v = .slice (some ⟨B, 0, none⟩) s.size c ∧ Row 5 w B s.data.toList
/-- The replacer's block, with these pairs laid. -/
def Part (M : Nat) (w : World) (R : Nat) (qs : Pairs) : Prop :=
  ∃ (C : Array Value) (tv : Value), M ≤ R ∧ w.heap[R]? = some (.cells C 86 (0, 0)) ∧ C.size = 257 ∧ C[256]? = some tv ∧
    w.ownsRow M 9 1 tv qs.length (qs.reverse.map fun p => .string ⟨#[p.1]⟩) ∧ ∀ b, b < 256 → ∃ v, C[b]? = some v ∧ RepCell M w (look qs b) v
/-- The list of the pairs lies in block g. -/
def Lies (w : World) (g : Nat) (ps : Pairs) : Prop := ∀ k, (h : k < ps.length) → w.cell? ⟨g, 2 * k, none⟩ = some (.string ⟨#[(ps[k]).1]⟩) ∧ w.cell? ⟨g, 2 * k + 1, none⟩ = some (.string (ps[k]).2)
def allNew (ps : Pairs) : Bool := ps.all fun p => p.2.size == 1
theorem allNew_snoc (ps : Pairs) (k : Nat) (h : k < ps.length) : allNew (ps.take (k + 1)) = (allNew (ps.take k) && ((ps[k]).2.size == 1)) := by
  unfold allNew
  rw [List.take_succ_eq_append_getElem h, List.all_append]
  simp
theorem infoStr : (Tryz.prog.info? 9).map (fun i => (i.zero, i.size, i.bytes)) = some (some (.string ByteArray.empty), 1, 16) := by kernel_rfl
theorem make_strs (w : World) (n : Nat) (h : n ≤ 100) : ∃ mc : Array Value, mc.size = n ∧
    (Instr.makeSlice 39 (.int .i64 0) (.int .i64 (n : Int))).run Tryz.prog w = .ok (.slice (some ⟨w.heap.size, 0, none⟩) 0 n) (w.alloc (.cells mc 9)) := by
  obtain ⟨i0, hi, hz0, hz1, hz2⟩ := info_parts infoStr
  have hr := run_make (P := Tryz.prog) w 39 9 i0 _ Tryz.underlying39 hi hz0 .i64 .i64 0 n (Int.le_refl _) (by omega) (by rw [hz2]; omega) (by omega)
  simp only [Int.toNat_zero, Int.toNat_natCast] at hr
  exact ⟨_, by rw [size_madeCells, hz1, Nat.mul_one], hr⟩
theorem zc_eq : Tryz.zeroCells86 = Array.replicate 257 (.slice none 0 0) := by kernel_rfl
theorem start_gen (w : World) (mc : Array Value) (n M : Nat) (hm : mc.size = n) (hn : n ≤ 100) : ∃ w2,
    (storeCells ⟨w.heap.size + 1, 0, none⟩ ((Array.replicate (M + 1) (Value.slice none 0 0)).toList.set M (.slice (some ⟨w.heap.size, 0, none⟩) 0 n))).run Tryz.prog ((w.alloc (.cells mc 9)).alloc (.cells (Array.replicate (M + 1) (Value.slice none 0 0)) 86)) = .ok () w2 ∧
    (∃ (C : Array Value) (tv : Value), w2.heap[w.heap.size + 1]? = some (.cells C 86 (0, 0)) ∧ C.size = M + 1 ∧ C[M]? = some tv ∧
      w2.ownsRow w.heap.size 9 1 tv 0 [] ∧ ∀ b, b < M → C[b]? = some (.slice none 0 0)) ∧ Below w.heap.size w w2 ∧ w.heap.size + 2 ≤ w2.heap.size := by
  have hs1 : (w.alloc (.cells mc 9)).heap.size = w.heap.size + 1 := by simp
  have hg : ((w.alloc (.cells mc 9)).alloc (.cells (Array.replicate (M + 1) (.slice none 0 0)) 86)).heap[w.heap.size + 1]? = some (.cells (Array.replicate (M + 1) (.slice none 0 0)) 86 (0, 0)) := by
    rw [← hs1]; exact heap_alloc_new _ _
  have hw0 : ((w.alloc (.cells mc 9)).alloc (.cells (Array.replicate (M + 1) (.slice none 0 0)) 86)).heap[w.heap.size]? = some (.cells mc 9 (0, 0)) := by
    rw [heap_alloc_old]
    · exact heap_alloc_new _ _
    · rw [hs1]; omega
  have hb : Below w.heap.size w ((w.alloc (.cells mc 9)).alloc (.cells (Array.replicate (M + 1) (.slice none 0 0)) 86)) := ((Below.refl _ w).alloc (Nat.le_refl _) _).alloc (by simp) _
  have hsz : ((w.alloc (.cells mc 9)).alloc (.cells (Array.replicate (M + 1) (.slice none 0 0)) 86)).heap.size = w.heap.size + 2 := by simp
  generalize hvs : (Array.replicate (M + 1) (Value.slice none 0 0)).toList.set M (.slice (some ⟨w.heap.size, 0, none⟩) 0 n) = vs at *
  have hlen : vs.length = M + 1 := by rw [← hvs]; simp
  have hone : ∀ v ∈ vs, v.oneCell' = true := by
    intro v hv
    rw [← hvs] at hv
    rcases List.mem_or_eq_of_mem_set hv with h | h
    · have : v = .slice none 0 0 := by simpa using h
      rw [this]; rfl
    · rw [h]; rfl
  generalize (w.alloc (.cells mc 9)).alloc (.cells (Array.replicate (M + 1) (.slice none 0 0)) 86) = W at *
  have hr := run_storeCells_at (P := Tryz.prog) (w.heap.size + 1) 0 86 vs 0 _ W hg (by rw [hlen]; simp) hone
  have e : ((Array.replicate (M + 1) (Value.slice none 0 0)).toList.take (0 + 0) ++ vs ++ (Array.replicate (M + 1) (Value.slice none 0 0)).toList.drop (0 + 0 + vs.length)).toArray = vs.toArray := by
    rw [hlen]; simp
  rw [e] at hr
  refine ⟨_, hr, ?_, below_setRow hb (by omega) _, by simp; omega⟩
  refine ⟨vs.toArray, .slice (some ⟨w.heap.size, 0, none⟩) 0 n, setRow_heap _ _ _ _ _ _ hg, by simp [hlen], ?_, ?_, ?_⟩
  · rw [← hvs]; simp
  · refine ⟨by simp, .inr ⟨w.heap.size, n, mc, rfl, Nat.le_refl _, ?_, Nat.zero_le _, by simp [maxLen]; omega, by omega, by simp⟩⟩
    rw [setRow_other _ _ _ _ (by omega)]; exact hw0
  · intro b hb
    rw [← hvs]
    simp only [List.getElem?_toArray]
    rw [List.getElem?_set_ne (by omega), Array.toList_replicate, List.getElem?_replicate, if_pos (by omega)]
theorem start_repl (w : World) (mc : Array Value) (n : Nat) (hm : mc.size = n) (hn : n ≤ 100) : ∃ w2,
    (storeCells ⟨w.heap.size + 1, 0, none⟩ (Tryz.zeroCells86.toList.set 256 (.slice (some ⟨w.heap.size, 0, none⟩) 0 n))).run Tryz.prog ((w.alloc (.cells mc 9)).alloc (.cells Tryz.zeroCells86 86)) = .ok () w2 ∧
    Part w.heap.size w2 (w.heap.size + 1) [] ∧ Below w.heap.size w w2 ∧ w.heap.size + 2 ≤ w2.heap.size := by
  rw [zc_eq]
  obtain ⟨w2, hr, ⟨C, tv, h1, h2, h3, h4, h5⟩, hb, hs⟩ := start_gen w mc n 256 hm hn
  exact ⟨w2, hr, ⟨C, tv, Nat.le_succ _, h1, h2, h3, h4, fun b hb => ⟨_, h5 b hb, rfl⟩⟩, hb, hs⟩
theorem look_none (ps : Pairs) (hnd : (ps.map (·.1)).Nodup) (k : Nat) (h : k < ps.length) : look (ps.drop (k + 1)) (ps[k]).1.toNat = none := by
  unfold look
  rw [Option.map_eq_none_iff, List.find?_eq_none]
  intro p hp
  rw [List.drop_eq_getElem_cons h |> fun e => show ps = ps.take k ++ ps[k] :: ps.drop (k + 1) by rw [← e, List.take_append_drop]] at hnd
  rw [List.map_append, List.map_cons, List.nodup_append] at hnd
  have h2 := (List.nodup_cons.1 hnd.2.1).1
  intro he
  apply h2
  rw [List.mem_map]
  exact ⟨p, hp, UInt8.toNat_inj.1 (by simpa using he)⟩
theorem below_grown {B : Nat} {w0 w w1 : World} {row : Option Nat} (hb : Below B w0 w) (hg : w.grownBy w1 row) (hr : ∀ j, row = some j → B ≤ j) (hB : B ≤ w.heap.size) : Below B w0 w1 :=
  ⟨hg.os.trans hb.os, hg.tape.trans hb.tape, hg.output.trans hb.output, Nat.le_trans hb.size hg.size, fun k hk => (hg.block k (Nat.lt_of_lt_of_le hk hB) (fun e => by have := hr k e.symm; omega)).trans (hb.block k hk)⟩
theorem Row.of_heap {e : Nat} {w w' : World} {B : Nat} {l : List UInt8} (h : Row e w B l) (hh : w'.heap[B]? = w.heap[B]?) : Row e w' B l := by
  obtain ⟨C, hC, h2⟩ := h
  exact ⟨C, by rw [hh]; exact hC, h2⟩
theorem own_apart {w : World} {M e n : Nat} {v : Value} {xs : List Value} {R : Nat} {C : Array Value} {t : TypeId} {fr : Nat × Nat} (h : w.ownsRow M e 1 v n xs) (hC : w.heap[R]? = some (.cells C t fr)) (hne : t ≠ e ∨ fr ≠ (0, 0)) : v.ownBlock ≠ some R := by
  intro hb
  rcases h.2 with ⟨rfl, _⟩ | ⟨g, cap, cur, rfl, _, hg, _⟩
  · simp [Value.ownBlock] at hb
  · simp only [Value.ownBlock, Option.some.injEq] at hb
    subst hb
    rw [hC] at hg
    injection hg with hg
    injection hg with _ h2 h3
    rcases hne with h | h
    · exact h h2
    · exact h h3
theorem own_of_heap {w w' : World} {M e n : Nat} {v : Value} {xs : List Value} (h : w.ownsRow M e 1 v n xs) (hh : ∀ k, v.ownBlock = some k → w'.heap[k]? = w.heap[k]?) : w'.ownsRow M e 1 v n xs := by
  refine ⟨h.1, ?_⟩
  rcases h.2 with hn | ⟨g, cap, cur, rfl, hb, hg, rest⟩
  · exact .inl hn
  · exact .inr ⟨g, cap, cur, rfl, hb, by rw [hh g rfl]; exact hg, rest⟩
theorem setCell_heap_at (w : World) (B j : Nat) (C : Array Value) (t : TypeId) (fr : Nat × Nat) (v : Value) (hC : w.heap[B]? = some (.cells C t fr)) : (w.setCell ⟨B, j, none⟩ v).heap[B]? = some (.cells (C.setIfInBounds j v) t fr) := by
  rw [setCell_eq_setRow w B j C t fr v hC]; exact setRow_heap _ _ _ _ _ _ hC
theorem setCell_heap_ne (w : World) (B j k : Nat) (v : Value) (h : k ≠ B) : (w.setCell ⟨B, j, none⟩ v).heap[k]? = w.heap[k]? := by
  simp only [World.setCell]
  rw [Array.getElem?_modify, if_neg (fun e => h e.symm)]
theorem part_step (M R : Nat) (wr w1 : World) (o1 o2 o : Obj) (C : Array Value) (tv v1 : Value) (qs : Pairs) (c : UInt8) (ns : ByteArray) (cap : Nat)
    (hMR : M ≤ R) (hMw : M ≤ wr.heap.size) (hC : wr.heap[R]? = some (.cells C 86 (0, 0))) (hCz : C.size = 257) (hown : wr.ownsRow M 9 1 tv qs.length (qs.reverse.map fun p => .string ⟨#[p.1]⟩))
    (hcells : ∀ b, b < 256 → ∃ v, C[b]? = some v ∧ RepCell M wr (look qs b) v)
    (hgr : ((wr.alloc o1).alloc o2).grownBy w1 tv.ownBlock) (hown1 : w1.ownsRow M 9 1 v1 (qs.length + 1) ((qs.reverse.map fun p => Value.string ⟨#[p.1]⟩) ++ [.string ⟨#[c]⟩]))
    (hrow : Row 5 ((w1.setCell ⟨R, 256, none⟩ v1).alloc o) w1.heap.size ns.data.toList) :
    Part M (((w1.setCell ⟨R, 256, none⟩ v1).alloc o).drew.setCell ⟨R, c.toNat, none⟩ (.slice (some ⟨w1.heap.size, 0, none⟩) ns.size cap)) R ((c, ns) :: qs) := by
  have h256 := UInt8.toNat_lt c
  have hRlt : R < wr.heap.size := (Array.getElem?_eq_some_iff.1 hC).1
  have hs2 : ((wr.alloc o1).alloc o2).heap.size = wr.heap.size + 2 := by simp
  have hs1 : wr.heap.size + 2 ≤ w1.heap.size := by have := hgr.size; omega
  have hold : ∀ k, k < wr.heap.size → tv.ownBlock ≠ some k → w1.heap[k]? = wr.heap[k]? := by
    intro k hk hne
    rw [hgr.block k (by omega) (fun h => hne h.symm), heap_alloc_old, heap_alloc_old]
    · exact hk
    · simp; omega
  have hC1 : w1.heap[R]? = some (.cells C 86 (0, 0)) := by
    rw [hold R hRlt (own_apart hown hC (.inl (by decide)))]; exact hC
  have hne1 : v1.ownBlock ≠ some R := own_apart hown1 hC1 (.inl (by decide))
  have hz2 : (w1.setCell ⟨R, 256, none⟩ v1).heap.size = w1.heap.size := by simp
  have hC2 := setCell_heap_at w1 R 256 C _ _ v1 hC1
  have hC3 : (((w1.setCell ⟨R, 256, none⟩ v1).alloc o).drew).heap[R]? = some (.cells (C.setIfInBounds 256 v1) 86 (0, 0)) := by
    show ((w1.setCell ⟨R, 256, none⟩ v1).alloc o).heap[R]? = _
    rw [heap_alloc_old]
    · exact hC2
    · omega
  have hC4 := setCell_heap_at _ R c.toNat _ _ _ (.slice (some ⟨w1.heap.size, 0, none⟩) ns.size cap) hC3
  have hkeep : ∀ k, k ≠ R → k < w1.heap.size → (((w1.setCell ⟨R, 256, none⟩ v1).alloc o).drew.setCell ⟨R, c.toNat, none⟩ (.slice (some ⟨w1.heap.size, 0, none⟩) ns.size cap)).heap[k]? = w1.heap[k]? := by
    intro k hk hlt
    rw [setCell_heap_ne _ _ _ _ _ hk]
    show ((w1.setCell ⟨R, 256, none⟩ v1).alloc o).heap[k]? = _
    rw [heap_alloc_old]
    · exact setCell_heap_ne _ _ _ _ _ hk
    · omega
  refine ⟨_, v1, hMR, hC4, by simp [hCz], ?_, ?_, ?_⟩
  · rw [Array.getElem?_setIfInBounds_ne (by omega), Array.getElem?_setIfInBounds_self_of_lt (by omega)]
  · have e : (((c, ns) :: qs).reverse.map fun p => Value.string ⟨#[p.1]⟩) = (qs.reverse.map fun p => Value.string ⟨#[p.1]⟩) ++ [.string ⟨#[c]⟩] := by simp
    rw [e]
    refine own_of_heap hown1 fun k hk => hkeep k ?_ (hown1.lt k hk).2
    rintro rfl
    exact hne1 hk
  · intro b hb
    by_cases hbc : b = c.toNat
    · subst hbc
      refine ⟨_, Array.getElem?_setIfInBounds_self_of_lt (by simp; omega), ?_⟩
      have hl : look ((c, ns) :: qs) c.toNat = some ns := by simp [look]
      rw [hl]
      refine ⟨w1.heap.size, cap, by omega, rfl, ?_⟩
      refine Row.of_heap hrow ?_
      rw [setCell_heap_ne _ _ _ _ _ (by omega)]
      rfl
    · obtain ⟨v, hv, hr⟩ := hcells b hb
      refine ⟨v, ?_, ?_⟩
      · rw [Array.getElem?_setIfInBounds_ne (by omega), Array.getElem?_setIfInBounds_ne (by omega)]; exact hv
      · have hl : look ((c, ns) :: qs) b = look qs b := by
          unfold look
          rw [List.find?_cons_of_neg]
          simp; omega
        rw [hl]
        cases hk : look qs b with
        | none => rw [hk] at hr; exact hr
        | some s =>
          rw [hk] at hr
          obtain ⟨B, c', hB, rfl, hrw⟩ := hr
          refine ⟨B, c', hB, rfl, Row.of_heap hrw ?_⟩
          obtain ⟨CB, hCB, _⟩ := id hrw
          have hBlt : B < wr.heap.size := hrw.lt
          have hBR : B ≠ R := by
            rintro rfl
            rw [hC] at hCB
            injection hCB with h
            injection h with _ h2
            exact absurd h2 (by decide)
          rw [hkeep B hBR (by omega)]
          exact hold B hBlt (own_apart hown hCB (.inl (by decide)))
set_option maxRecDepth 100000 in
set_option maxHeartbeats 4000000 in
theorem build_any (b g cap : Nat) (ps : Pairs) (w : World) (hn : 2 ≤ ps.length) (hn2 : ps.length ≤ 100) (hnew : allNew ps = false) (hnd : (ps.map (·.1)).Nodup)
    (hb : w.cell? ⟨b, 4, none⟩ = some (.slice (some ⟨g, 0, none⟩) (2 * ps.length) cap)) (hl : Lies w g ps) :
    Calls Tryz.prog 42 #[.pointer (some ⟨b, 0, none⟩)] w fun e w' => ∃ R, e = .returned (.iface 87 (.pointer (some ⟨R, 0, none⟩))) ∧ Part w.heap.size w' R ps ∧ Below w.heap.size w w' := by
  have HL := Lib.hid hl
  have HN := Lib.hid hnew
  have l2 : ¬ ((2 * ps.length : Nat) : Int) = 2 := by omega
  have l3 : 2 * ps.length ≤ 9223372036854775807 := by omega
  clear hl hnew
  go_enter Tryz.func42, Tryz.ntmps42
  go_wp2
  go_loop [4, 5] (fun u i => ∃ k : Nat, k ≤ ps.length ∧ i = .int .i64 ((2 * k : Nat) : Int) ∧ u = .bool (allNew (ps.take k))) (fun _ i => 2 * ps.length - (intOf i).toNat)
  case atStart => exact ⟨0, Nat.zero_le _, rfl, rfl⟩
  case round =>
    obtain ⟨k, hk, rfl, rfl⟩ := hrel
    by_cases hlt : k < ps.length
    · obtain ⟨c1, c2⟩ := HL.out k hlt
      have hsn := Lib.hid (allNew_snoc ps k hlt)
      have i1 : ((2 * k : Nat) : Int) < ((2 * ps.length : Nat) : Int) := by omega
      have i2 : 2 * k < 2 * ps.length := by omega
      have i3 : 2 * k + 1 < 2 * ps.length := by omega
      have i4 : ((2 * k : Nat) : Int) + 1 < ((2 * ps.length : Nat) : Int) := by omega
      have i5 : (2 * k : Int) + 1 < (2 * ps.length : Int) := by omega
      have i6 : (2 * k : Int) < (2 * ps.length : Int) := by omega
      by_cases h1 : (ps[k]).2.size = 1
      · have h2 : (((ps[k]).2.size : Nat) : Int) = 1 := by omega
        go_wp2
        go_round
        case rel => exact ⟨k + 1, by omega, by go_num, by rw [hsn.out]; simp [h1]⟩
        case measure => simp [intOf]; omega
      · have h2 : ¬ (((ps[k]).2.size : Nat) : Int) = 1 := by omega
        go_wp2
        go_round
        case rel => exact ⟨k + 1, by omega, by go_num, by rw [hsn.out]; simp [h1]⟩
        case measure => simp [intOf]; omega
    · obtain rfl : k = ps.length := by omega
      rw [List.take_length, HN.out]
      obtain ⟨mc, hmz, hmk⟩ := make_strs w ps.length hn2
      obtain ⟨w2, hst, hpart, hbel, hsz⟩ := start_repl w mc ps.length hmz hn2
      have HP := Lib.hid hpart; have HB := Lib.hid hbel
      have qT : ∀ (w : World) (a : Option Addr) (n c n' c' : Nat), (binOp .eql 30 (.slice a n c) (.slice none n' c')).run Tryz.prog w = .ok (.bool a.isNone) w := fun w a n c n' c' => Lib.run_eql_slice_nil w _ _ a n c n' c' Tryz.underlying30
      clear hpart hbel
      go_wp2
      go_loopw [12] (fun i wr => ∃ (k : Nat) (x : Int), k ≤ ps.length ∧ i = .int .i64 x ∧ x = 2 * (k : Int) - 2 ∧ Part w.heap.size wr (w.heap.size + 1) (ps.drop k) ∧ Below w.heap.size w wr ∧ w.heap.size + 2 ≤ wr.heap.size) (fun i _ => (intOf i + 2).toNat)
      case atStart => exact ⟨ps.length, _, Nat.le_refl _, rfl, rfl, by rw [List.drop_length]; exact HP.out, HB.out, hsz⟩
      case round =>
        obtain ⟨k, x, hk2, rfl, hx, hpart, hbel, hszr⟩ := hrel
        by_cases h0 : k = 0
        · subst h0
          have hx0 : ¬ 0 ≤ x := by omega
          have HPt := Lib.hid hpart
          clear hx hpart
          go_wp2
          go_ret
          exact ⟨_, rfl, by have := HPt.out; rw [List.drop_zero] at this; exact this, hbel⟩
        · obtain ⟨k, rfl⟩ : ∃ m, k = m + 1 := ⟨k - 1, by omega⟩
          obtain rfl : x = ((2 * k : Nat) : Int) := by omega
          have hkl : k < ps.length := by omega
          obtain ⟨c1, c2⟩ := HL.out k hkl
          have c1' := cell_later hbel c1
          have c2' := cell_later hbel c2
          have i1 : ((2 * k : Nat) : Int) < ((2 * ps.length : Nat) : Int) := by omega
          have i2 : 2 * k < 2 * ps.length := by omega
          have i3 : 2 * k + 1 < 2 * ps.length := by omega
          have i4 : ((2 * k : Nat) : Int) + 1 < ((2 * ps.length : Nat) : Int) := by omega
          have i5 : (2 * k : Int) + 1 < (2 * ps.length : Int) := by omega
          have i6 : (2 * k : Int) < (2 * ps.length : Int) := by omega
          have h256 : (ps[k]).1.toNat < 256 := UInt8.toNat_lt _
          have g0 : ∀ c : UInt8, (⟨#[c]⟩ : ByteArray).size = 1 := fun _ => rfl
          have hlk := look_none ps hnd k hkl
          obtain ⟨C, tv, hMR, hC, hCz, hC6, hown, hcells⟩ := hpart
          obtain ⟨v0, hv0, hr0⟩ := hcells (ps[k]).1.toNat h256
          rw [hlk] at hr0
          obtain rfl : v0 = .slice none 0 0 := hr0
          have d1 : wr.cell? ⟨w.heap.size + 1, (ps[k]).1.toNat, none⟩ = some (.slice none 0 0) := by rw [cell_of_row _ _ _ _ _ _ hC]; exact hv0
          have d2 : wr.cell? ⟨w.heap.size + 1, 256, none⟩ = some tv := by rw [cell_of_row _ _ _ _ _ _ hC]; exact hC6
          have fz : ∀ j, wr.frozen? ⟨w.heap.size + 1, j, none⟩ = false := fun j => by simp [World.frozen?, hC]
          generalize hcc : (ps[k]).1 = c at *
          generalize hnn : (ps[k]).2 = ns at *
          have hz1 : (⟨#[c]⟩ : ByteArray).size = 1 := rfl
          have hz2 : ∀ h, (⟨#[c]⟩ : ByteArray)[0]'h = c := fun _ => rfl
          generalize hos : (⟨#[c]⟩ : ByteArray) = os at *
          have HC := Lib.hid hC; have HCZ := Lib.hid hCz; have HC6 := Lib.hid hC6; have HOW := Lib.hid hown; have HCS := Lib.hid hcells
          have HOS := Lib.hid hos; have HCC := Lib.hid hcc; have HNN := Lib.hid hnn
          have hcv : (convert 30 9 (.slice (some ⟨wr.heap.size, 0, none⟩) 1 1)).run Tryz.prog (wr.alloc (.cells #[.int .u8 (c.toNat : Int)] 5)) = .ok (.string os) (wr.alloc (.cells #[.int .u8 (c.toNat : Int)] 5)) := by
            rw [← hos]
            exact run_convert_bytes_back (P := Tryz.prog) (wr.alloc (.cells #[.int .u8 (c.toNat : Int)] 5)) 30 9 5 ⟨wr.heap.size, 0, none⟩ 1 [c] Tryz.underlying30 Tryz.underlying5 Tryz.underlying9 (fun j hj => by
              obtain rfl : j = 0 := by simpa using hj
              rw [show (⟨wr.heap.size, 0, none⟩ : Addr).add 0 = ⟨wr.heap.size, 0, none⟩ from by unfold Addr.add; simp]
              simp)
          obtain ⟨i0, hi, hi0, hi1, hi2⟩ := info_parts infoStr
          have hlen : (ps.drop (k + 1)).length ≤ 100 := by rw [List.length_drop]; omega
          have hwr : w.heap.size ≤ wr.heap.size := by omega
          clear hC hCz hC6 hown hcells hx c1 c2 hlk hv0 hcc hnn hos
          go_wp2_with (at_builtin; refine wpList_append_own _ rfl (.tmp 119) (.tmp 123) 39 rfl w.heap.size 9 i0 _ 1 16 Tryz.underlying39 hi hi0 hi1 hi2 rfl (by decide) _ _ _ rfl ((HOW.out.alloc _).alloc _) ⟨wr.heap.size + 1, 0, none⟩ 1 1 [.string os] rfl rfl ?c1 ?c2 ?c3 ?c4 ?c5 ?_)
          case c1 =>
            intro j u hj
            cases j with
            | zero =>
              obtain rfl : Value.string os = u := Option.some.inj hj
              rw [show (⟨wr.heap.size + 1, 0, none⟩ : Addr).add 0 = ⟨wr.heap.size + 1, 0, none⟩ from by unfold Addr.add; simp]
              simp
            | succ j => exact absurd hj (by simp)
          case c2 => intro u hu; simp at hu; subst hu; rfl
          case c3 => simp only [maxLen]; omega
          case c4 => omega
          case c5 => simp; omega
          intro v1 w1 hown1 hgr1 _
          obtain ⟨a1, n1, k1, rfl⟩ : ∃ a n c, v1 = .slice a n c := by
            rcases hown1.2 with ⟨rfl, _⟩ | ⟨_, _, _, rfl, _⟩
            · exact ⟨_, _, _, rfl⟩
            · exact ⟨_, _, _, rfl⟩
          have hR1 : some (w.heap.size + 1) ≠ tv.ownBlock := fun h => own_apart HOW.out HC.out (.inl (by decide)) h.symm
          have hlt2 : w.heap.size + 1 < wr.heap.size := by omega
          have hC1 : w1.heap[w.heap.size + 1]? = some (.cells C 86 (0, 0)) := by
            rw [hgr1.block _ (by simp; omega) hR1, heap_alloc_old, heap_alloc_old]
            · exact HC.out
            · omega
            · simp; omega
          have e1 : w1.cell? ⟨w.heap.size + 1, 256, none⟩ = some tv := by rw [cell_of_row _ _ _ _ _ _ hC1]; exact HC6.out
          have e2 : ∀ j, w1.frozen? ⟨w.heap.size + 1, j, none⟩ = false := fun j => by simp [World.frozen?, hC1]
          have e3 : (w1.setCell ⟨w.heap.size + 1, 256, none⟩ (.slice a1 n1 k1)).cell? ⟨w.heap.size + 1, c.toNat, none⟩ = some (.slice none 0 0) := by
            rw [World.cell?_setCell_other _ _ _ _ (by first | (simp; done) | (simp; omega)), cell_of_row _ _ _ _ _ _ hC1]
            rw [cell_of_row _ _ _ _ _ _ HC.out] at d1
            exact d1
          obtain ⟨cap2, o2, hconv, hrow⟩ := Row.run_conv (P := Tryz.prog) (w1.setCell ⟨w.heap.size + 1, 256, none⟩ (.slice a1 n1 k1)) 9 30 5 ns Tryz.underlying9 Tryz.underlying30 Tryz.underlying5
          rw [show (w1.setCell ⟨w.heap.size + 1, 256, none⟩ (.slice a1 n1 k1)).heap.size = w1.heap.size from by simp] at hconv hrow
          have hw1 : w.heap.size + 1 < (w1.setCell ⟨w.heap.size + 1, 256, none⟩ (.slice a1 n1 k1)).heap.size := by have := hgr1.size; simp at this ⊢; omega
          have e4 : ((w1.setCell ⟨w.heap.size + 1, 256, none⟩ (.slice a1 n1 k1)).alloc o2).cell? ⟨w.heap.size + 1, c.toNat, none⟩ = some (.slice none 0 0) := by rw [World.cell?_alloc_past _ _ _ hw1]; exact e3
          have e5 : ((w1.setCell ⟨w.heap.size + 1, 256, none⟩ (.slice a1 n1 k1)).alloc o2).frozen? ⟨w.heap.size + 1, c.toNat, none⟩ = false := by
            rw [World.frozen?_alloc_past _ _ _ hw1]; simp [e2]
          have HG1 := Lib.hid hgr1; have HO1 := Lib.hid hown1; have HRW := Lib.hid hrow
          clear hgr1 hown1 hrow hC1 d1 d2 hR1
          go_wp2
          go_roundw
          case rel =>
            have hos := HOS.out
            subst hos
            refine ⟨k, _, by omega, rfl, by omega, ?_, ?_, ?_⟩
            · rw [List.drop_eq_getElem_cons hkl, show ps[k] = (c, ns) from Prod.ext HCC.out HNN.out]
              have ho1 := HO1.out
              rw [show ps.length - (k + 1) = (ps.drop (k + 1)).length from by simp, show (List.drop (k + 1) (ps.map fun p => Value.string ⟨#[p.1]⟩)).reverse = (ps.drop (k + 1)).reverse.map (fun p => Value.string ⟨#[p.1]⟩) from by simp] at ho1
              exact part_step w.heap.size (w.heap.size + 1) wr w1 _ _ o2 C tv (.slice a1 n1 k1) (ps.drop (k + 1)) c ns cap2 (by omega) (by omega) HC.out HCZ.out HOW.out HCS.out HG1.out ho1 HRW.out
            · have b1 : Below w.heap.size w ((wr.alloc (.cells #[.int .u8 (c.toNat : Int)] 5)).alloc (.cells #[.string ⟨#[c]⟩] 9)) := (hbel.alloc (by omega) _).alloc (by simp; omega) _
              have b2 := below_grown b1 HG1.out (fun j hj => (HOW.out.lt j hj).1) (by simp; omega)
              exact (((b2.setCell (by simp) _).alloc (by simp; have := b2.size; omega) _).drew).setCell (by simp) _
            · have := HG1.out.size
              simp at this ⊢
              omega
          case measure => simp [intOf]; omega
end Go.Proofs.YthilhcpdbjeepaaGreatDoor.Repl
