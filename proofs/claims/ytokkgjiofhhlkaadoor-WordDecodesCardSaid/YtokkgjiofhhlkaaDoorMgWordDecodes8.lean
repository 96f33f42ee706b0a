/- Parts of the proof of the law WordDecodes, in one text: B64, B64b, B64a, B64c, B64d, B64e, B64p, WordQ, WordL, WordQ2. -/
import Derived.Test.YtokkgjiofhhlkaaDoorMgWordDecodes7
import Derived.Deep.RegionWith
import Derived.Deep.Heap
import Derived.BigRegion
import Derived.Lib.BufferKept
import Derived.Lib.SmallJoins
import Derived.Lib.IndexMore
import Derived.Shelf.Strings.MapGrows
set_option linter.unusedVariables false
set_option linter.unusedSimpArgs false
namespace Go.Proofs.YtokkgjiofhhlkaaDoor.B64
open Go.RowKit Go.Lib Go.Proofs.YtokkgjiofhhlkaaDoor Go.Proofs.YtokkgjiofhhlkaaDoor.Row
set_option linter.unusedVariables false
set_option linter.unusedSimpArgs false
structure Gat (M : Nat) (F T : Int) (ov : Value) (all bits : Int) (w : World) : Prop where
  b0 : w.heap[M]? = some (.cells #[.int .i64 F] 3 (0, 0))
  b1 : w.heap[M + 1]? = some (.cells #[.int .i64 T] 3 (0, 0))
  b2 : w.heap[M + 2]? = some (.cells #[ov] 56 (0, 0))
  b3 : w.heap[M + 3]? = some (.cells #[.int .i64 all] 3 (0, 0))
  b4 : w.heap[M + 4]? = some (.cells #[.int .i64 bits] 3 (0, 0))
theorem Gat.kept {M : Nat} {F T : Int} {ov : Value} {all bits : Int} {w w' : World} {E : Nat} (h : Gat M F T ov all bits w) (hE : E < M) (hk : OthersKept 5 (some E) w w') : Gat M F T ov all bits w' := by
  have key : ∀ k (cs : Array Value) t, t ≠ 5 → E < k → w.heap[k]? = some (.cells cs t (0, 0)) → w'.heap[k]? = some (.cells cs t (0, 0)) := by
    intro k cs t ht hk1 h1
    refine hk k _ h1 (by simp <;> omega) ?_
    intro c fz e
    injection e with _ e2 _
    exact ht e2
  exact ⟨key _ _ _ (by decide) (by omega) h.b0, key _ _ _ (by decide) (by omega) h.b1, key _ _ _ (by decide) (by omega) h.b2, key _ _ _ (by decide) (by omega) h.b3, key _ _ _ (by decide) (by omega) h.b4⟩
theorem Gat.drewN {M : Nat} {F T : Int} {ov : Value} {all bits : Int} {w : World} (h : Gat M F T ov all bits w) (n : Nat) : Gat M F T ov all bits (w.drewN n) := ⟨h.b0, h.b1, h.b2, h.b3, h.b4⟩
abbrev gatV (M : Nat) : Value := .func (.func 82) #[] #[.pointer (some ⟨M + 3, 0, none⟩), .pointer (some ⟨M, 0, none⟩), .pointer (some ⟨M + 4, 0, none⟩), .pointer (some ⟨M + 1, 0, none⟩), .pointer (some ⟨M + 2, 0, none⟩)]
theorem al_new (w : World) (o : Obj) : (w.alloc o).heap[w.heap.size]? = some o := by
  exact Deep.blk_alloc_new w o
theorem al_new1 (w : World) (o : Obj) (k : Nat) (h : k = w.heap.size) : (w.alloc o).heap[k]? = some o := by subst h; exact al_new w o
abbrev outV (g E : Nat) : Value := .func (.func g) #[] #[.pointer (some ⟨E, 0, none⟩)]
set_option maxRecDepth 100000 in
set_option maxHeartbeats 4000000 in
theorem gather_c (F T : Int) (g E : Nat) (w : World) :
    Calls Tryd.prog 49 #[.int .i64 F, .int .i64 T, outV g E] w fun e w' => e = .returned (gatV w.heap.size) ∧ Below w.heap.size w w' ∧ Gat w.heap.size F T (outV g E) 0 0 w' ∧ OthersKept 5 none w w' ∧ w'.heap.size = w.heap.size + 5 := by
  have hmf : ∀ (fn : Fn) (first cap : Array Value) (w : World), (Instr.makeFunc fn first cap).run Tryd.prog w = .ok (.func fn first cap) w := fun _ _ _ _ => rfl
  unfold outV
  go_enter Tryd.func49, Tryd.ntmps49
  go_wp2_with fail
  go_ret
  have old : ∀ (v : World) (o : Obj) (k : Nat) x, k < v.heap.size → v.heap[k]? = some x → (v.alloc o).heap[k]? = some x := fun v o k x hk h => (Below.heap_alloc v o k hk).trans h
  refine ⟨rfl, ((((((Below.refl _ w).alloc (Nat.le_refl _) _).alloc (by simp) _).alloc (by simp <;> omega) _).alloc (by simp <;> omega) _).alloc (by simp <;> omega) _), ⟨?_, ?_, ?_, ?_, ?_⟩, ((((((OthersKept.refl _ _ w).alloc _).alloc _).alloc _).alloc _).alloc _), by simp⟩
  · exact old _ _ _ _ (by simp <;> omega) (old _ _ _ _ (by simp <;> omega) (old _ _ _ _ (by simp <;> omega) (old _ _ _ _ (by simp) (al_new1 _ _ _ rfl))))
  · exact old _ _ _ _ (by simp <;> omega) (old _ _ _ _ (by simp <;> omega) (old _ _ _ _ (by simp) (al_new1 _ _ _ (by simp))))
  · exact old _ _ _ _ (by simp <;> omega) (old _ _ _ _ (by simp) (al_new1 _ _ _ (by simp)))
  · exact old _ _ _ _ (by simp) (al_new1 _ _ _ (by simp))
  · exact al_new1 _ _ _ (by simp)
structure Sink (B E g T : Nat) (K : List Nat → World → Prop) (L : Nat) : Prop where
  call : ∀ (l : List Nat) (n : Nat) (w : World), K l w → n < 2 ^ T → l.length ≤ L → B ≤ w.heap.size →
    Calls Tryd.prog g #[.int .i64 (n : Int), .pointer (some ⟨E, 0, none⟩)] w fun e w' => e = .returned (.tuple #[]) ∧ K (l ++ [n]) w' ∧ Below B w w' ∧ OthersKept 5 (some E) w w'
  set : ∀ (l : List Nat) (w : World) (k : Nat) (cs : Array Value) (v : Value), K l w → k ≠ E → w.heap[k]? = some (.cells cs 3 (0, 0)) → K l (w.setCell ⟨k, 0, none⟩ v)
  drew : ∀ (l : List Nat) (w : World) (n : Nat), K l w → K l (w.drewN n)
theorem Gat.setAll {M : Nat} {F T : Int} {ov : Value} {all bits : Int} {w : World} (h : Gat M F T ov all bits w) (x : Int) : Gat M F T ov x bits (w.setCell ⟨M + 3, 0, none⟩ (.int .i64 x)) := by
  have ne : ∀ k, k ≠ M + 3 → (w.setCell ⟨M + 3, 0, none⟩ (.int .i64 x)).heap[k]? = w.heap[k]? := fun k hk => Deep.blk_setCell_other w ⟨M + 3, 0, none⟩ _ k hk
  refine ⟨(ne _ (by omega)).trans h.b0, (ne _ (by omega)).trans h.b1, (ne _ (by omega)).trans h.b2, ?_, (ne _ (by omega)).trans h.b4⟩
  exact Joins.block_setCell h.b3 _
theorem Gat.setBits {M : Nat} {F T : Int} {ov : Value} {all bits : Int} {w : World} (h : Gat M F T ov all bits w) (x : Int) : Gat M F T ov all x (w.setCell ⟨M + 4, 0, none⟩ (.int .i64 x)) := by
  have ne : ∀ k, k ≠ M + 4 → (w.setCell ⟨M + 4, 0, none⟩ (.int .i64 x)).heap[k]? = w.heap[k]? := fun k hk => Deep.blk_setCell_other w ⟨M + 4, 0, none⟩ _ k hk
  refine ⟨(ne _ (by omega)).trans h.b0, (ne _ (by omega)).trans h.b1, (ne _ (by omega)).trans h.b2, (ne _ (by omega)).trans h.b3, ?_⟩
  exact Joins.block_setCell h.b4 _
theorem wraps_i64 (n : Int) (h0 : 0 ≤ n) (h1 : n < 2 ^ 62) : IntKind.i64.wrap n = n := by rw [IntKind.wrap_i64]; omega
theorem orand6 (a n : Nat) (ha : a < 65536) (hn : n < 2 ^ 6) : bits BinOp.and .i64 (bits BinOp.or .i64 ((a : Int) * 64) (n : Int)) 65535 = (((a * 2 ^ 6 + n) % 65536 : Nat) : Int) := by
  have e1 : (a : Int) * 64 = ((a * 64 : Nat) : Int) := by omega
  rw [e1, (bits_nat .i64 62 (by decide) wraps_i64 (a * 64) n (by omega) (by omega)).2, nat_join 6 _ _ (by omega) (by omega)]
  have := bits_mask .i64 62 (by decide) wraps_i64 16 (by decide) ((a * 64 + n : Nat) : Int) (by omega) (by omega)
  rw [show ((2 : Int) ^ 16 - 1) = 65535 by decide] at this
  rw [this]
  omega
theorem orand8 (a n : Nat) (ha : a < 65536) (hn : n < 2 ^ 8) : bits BinOp.and .i64 (bits BinOp.or .i64 ((a : Int) * 256) (n : Int)) 65535 = (((a * 2 ^ 8 + n) % 65536 : Nat) : Int) := by
  have e1 : (a : Int) * 256 = ((a * 256 : Nat) : Int) := by omega
  rw [e1, (bits_nat .i64 62 (by decide) wraps_i64 (a * 256) n (by omega) (by omega)).2, nat_join 8 _ _ (by omega) (by omega)]
  have := bits_mask .i64 62 (by decide) wraps_i64 16 (by decide) ((a * 256 + n : Nat) : Int) (by omega) (by omega)
  rw [show ((2 : Int) ^ 16 - 1) = 65535 by decide] at this
  rw [this]
  omega
def emit (T a : Nat) : Nat → Nat → List Nat
  | 0, _ => []
  | k + 1, b => if T ≤ b then (a / 2 ^ (b - T)) % 2 ^ T :: emit T a k (b - T) else []
end Go.Proofs.YtokkgjiofhhlkaaDoor.B64
namespace Go.Proofs.YtokkgjiofhhlkaaDoor.B64
open Go.RowKit Go.Lib Go.Proofs.YtokkgjiofhhlkaaDoor Go.Proofs.YtokkgjiofhhlkaaDoor.Row
set_option linter.unusedVariables false
set_option linter.unusedSimpArgs false
set_option maxRecDepth 100000 in
set_option maxHeartbeats 8000000 in
theorem gat8_c (B E M L : Nat) (K : List Nat → World → Prop) (S : Sink B E 73 6 K (L + 2)) (l : List Nat) (a b n : Nat) (w : World)
    (hK : K l w) (hG : Gat M 8 6 (outV 73 E) a b w) (ha : a < 65536) (hb : b < 6) (hn : n < 2 ^ 8) (hl : l.length ≤ L) (hE : E < M) (hB : B ≤ E) (hBW : B ≤ w.heap.size) :
    Calls Tryd.prog 82 #[.int .i64 (n : Int), .pointer (some ⟨M + 3, 0, none⟩), .pointer (some ⟨M, 0, none⟩), .pointer (some ⟨M + 4, 0, none⟩), .pointer (some ⟨M + 1, 0, none⟩), .pointer (some ⟨M + 2, 0, none⟩)] w
      fun e w' => e = .returned (.int .i64 (((b + 8) % 6 : Nat) : Int)) ∧ K (l ++ emit 6 ((a * 2 ^ 8 + n) % 65536) 2 (b + 8)) w' ∧ Gat M 8 6 (outV 73 E) (((a * 2 ^ 8 + n) % 65536 : Nat) : Int) (((b + 8) % 6 : Nat) : Int) w' ∧ Below B w w' := by
  have hG : Gat M 8 6 (outV 73 E) a b w := hG
  have c0 := Joins.cell_of_block hG.b0 0
  have c1 := Joins.cell_of_block hG.b1 0
  have c2 := Joins.cell_of_block hG.b2 0
  have c3 := Joins.cell_of_block hG.b3 0
  have c4 := Joins.cell_of_block hG.b4 0
  have u3 := Joins.unfrozen_of_block hG.b3 0
  have u4 := Joins.unfrozen_of_block hG.b4 0
  simp at c0 c1 c2 c3 c4
  go_enter Tryd.func82, Tryd.ntmps82
  go_upto_region 1 with fail
  go_region
  rw [orand8 a n ha hn]
  generalize hAA : (a * 2 ^ 8 + n) % 65536 = A
  have hA : A < 65536 := by omega
  have G2 : Gat M 8 6 (outV 73 E) (A : Int) ((b + 8 : Nat) : Int) (((w.setCell ⟨M + 3, 0, none⟩ (.int .i64 (A : Int))).setCell ⟨M + 4, 0, none⟩ (.int .i64 ((b : Int) + 8))).drew) := by
    rw [show ((b + 8 : Nat) : Int) = (b : Int) + 8 by omega]
    exact (((hG.setAll (A : Int)).setBits ((b : Int) + 8))).drewN 1
  have K2 : K l (((w.setCell ⟨M + 3, 0, none⟩ (.int .i64 (A : Int))).setCell ⟨M + 4, 0, none⟩ (.int .i64 ((b : Int) + 8))).drew) := S.drew _ _ 1 (S.set _ _ _ _ _ (S.set _ _ _ _ _ hK (by omega) hG.b3) (by omega) (hG.setAll (A : Int)).b4)
  have B2 : Below B w (((w.setCell ⟨M + 3, 0, none⟩ (.int .i64 (A : Int))).setCell ⟨M + 4, 0, none⟩ (.int .i64 ((b : Int) + 8))).drew) := (((Below.refl B w).setCell (p := ⟨M + 3, 0, none⟩) (by show B ≤ M + 3; omega) _).setCell (p := ⟨M + 4, 0, none⟩) (by show B ≤ M + 4; omega) _).drew
  generalize World.drew _ = w2 at G2 K2 B2 ⊢
  clear c0 c1 c2 c3 c4 u3 u4 hK hG
  have HS := Lib.hid S
  clear S
  go_wp2
  go_loopw [] (fun wr => ∃ (k b' : Nat) (l' : List Nat), l' ++ emit 6 A k b' = l ++ emit 6 A 2 (b + 8) ∧ b' % 6 = (b + 8) % 6 ∧ b' < (k + 1) * 6 ∧ b' ≤ 13 ∧ l'.length + k ≤ L + 2 ∧ Gat M 8 6 (outV 73 E) (A : Int) (b' : Int) wr ∧ K l' wr ∧ Below B w wr) (fun wr => (RowKit.intOf ((wr.cell? ⟨M + 4, 0, none⟩).getD .nilFunc)).toNat)
  case atStart => exact ⟨2, b + 8, l, rfl, rfl, by omega, by omega, by omega, G2, K2, B2⟩
  case round =>
    obtain ⟨k, b', l', e1, e2, e3, e4, e5, G3, K3, B3⟩ := hrel
    have c1 := Joins.cell_of_block G3.b1 0
    have c2 := Joins.cell_of_block G3.b2 0
    have c3 := Joins.cell_of_block G3.b3 0
    have c4 := Joins.cell_of_block G3.b4 0
    have u4 := Joins.unfrozen_of_block G3.b4 0
    simp at c1 c2 c3 c4
    have HM := Lib.hid c4
    by_cases hT : 6 ≤ b'
    · obtain ⟨k, rfl⟩ : ∃ j, k = j + 1 := ⟨k - 1, by omega⟩
      have hT2 : (6 : Int) ≤ (b' : Int) := by omega
      have G4 : Gat M 8 6 (outV 73 E) (A : Int) ((b' - 6 : Nat) : Int) (wr.setCell ⟨M + 4, 0, none⟩ (.int .i64 ((b' : Int) - 6))) := by
        rw [show ((b' - 6 : Nat) : Int) = (b' : Int) - 6 by omega]
        exact G3.setBits _
      have K4 : K l' (wr.setCell ⟨M + 4, 0, none⟩ (.int .i64 ((b' : Int) - 6))) := HS.out.set _ _ _ _ _ K3 (by omega) G3.b4
      have B4 : Below B w (wr.setCell ⟨M + 4, 0, none⟩ (.int .i64 ((b' : Int) - 6))) := B3.setCell (p := ⟨M + 4, 0, none⟩) (by show B ≤ M + 4; omega) _
      go_upto_region 4 with fail
      obtain ⟨b2, hb2, hb3⟩ : ∃ b2 : Nat, b' = b2 + 6 ∧ b2 ≤ 7 := ⟨b' - 6, by omega, by omega⟩
      subst hb2
      rw [show b2 + 6 - 6 = b2 by omega] at G4
      generalize World.setCell wr _ _ = w4 at G4 K4 B4 ⊢
      clear G3 K3 B3 c1 c2 c3 c4 u4
      have c1 := Joins.cell_of_block G4.b1 0
      have c2 := Joins.cell_of_block G4.b2 0
      have c3 := Joins.cell_of_block G4.b3 0
      have c4 := Joins.cell_of_block G4.b4 0
      simp at c1 c2 c3 c4
      unfold outV at c2
      obtain ⟨q, hq⟩ : ∃ q, q = A / 2 ^ b2 := ⟨_, rfl⟩
      have hq2 : q ≤ A := by rw [hq]; exact Nat.div_le_self _ _
      have e9 : (A : Int) / 2 ^ b2 = (q : Int) := by rw [hq, Int.natCast_ediv]; simp
      have e9b : (A : Int) / 2 ^ b2 % 64 = ((q % 2 ^ 6 : Nat) : Int) := by rw [e9]; omega
      have hx : bits BinOp.and .i64 ((A : Int) / 2 ^ b2) (IntKind.i64.wrap (IntKind.i64.wrap 64 - 1)) = (A : Int) / 2 ^ b2 % 64 := by
        rw [show (IntKind.i64.wrap (IntKind.i64.wrap 64 - 1)) = (2 : Int) ^ 6 - 1 by decide, e9]
        exact bits_mask .i64 62 (by decide) wraps_i64 6 (by decide) (q : Int) (by omega) (by omega)
      have HC := Lib.hid (HS.out.call l' (q % 2 ^ 6) (w4.drew) (HS.out.drew _ _ 1 K4) (Nat.mod_lt _ (by decide)) (by omega) (Nat.le_trans hBW (by simpa using B4.size)))
      have EM : Hid ((l' ++ [q % 2 ^ 6]) ++ emit 6 A k b2 = l ++ emit 6 A 2 (b + 8)) := Lib.hid (by
        rw [← e1]
        have : emit 6 A (k + 1) (b2 + 6) = (A / 2 ^ b2) % 2 ^ 6 :: emit 6 A k b2 := by
          simp only [emit]
          rw [if_pos (by omega), show b2 + 6 - 6 = b2 by omega]
        rw [this, hq, List.append_assoc]
        rfl)
      clear e1
      have E9 := Lib.hid e9b
      have HX := Lib.hid hx
      clear e9 e9b hq hq2 hx
      go_region_with (go_at_call 73; rw [HX.out, E9.out]; refine (HC.out).mono ?_; rintro e w5 ⟨rfl, K5, B5, O5⟩)
      all_goals
        have hG5 : Gat M 8 6 (outV 73 E) (A : Int) (b2 : Int) w5 := (G4.drewN 1).kept hE O5
        have hm5 := Joins.cell_of_block hG5.b4 0
        simp at hm5
        have hm3 := HM.out
        go_wp2_with fail
        go_roundw
        case rel => exact ⟨k, b2, l' ++ [q % 2 ^ 6], EM.out, by omega, by omega, by omega, by simp; omega, hG5, K5, B4.drew.trans B5⟩
        case measure => rw [hm5, hm3]; simp [RowKit.intOf]; omega
    · have hT2 : ¬ (6 : Int) ≤ (b' : Int) := by omega
      go_wp2
      go_ret
      have e6 : emit 6 A k b' = [] := by cases k with
        | zero => rfl
        | succ k => simp only [emit]; rw [if_neg hT]
      rw [e6, List.append_nil] at e1
      subst e1
      have e7 : (b' : Int) = ((b : Int) + 8) % 6 := by omega
      rw [← e7]
      exact ⟨rfl, K3, G3, B3⟩
end Go.Proofs.YtokkgjiofhhlkaaDoor.B64
namespace Go.Proofs.YtokkgjiofhhlkaaDoor.B64
open Go.RowKit Go.Lib Go.Proofs.YtokkgjiofhhlkaaDoor Go.Proofs.YtokkgjiofhhlkaaDoor.Row
set_option linter.unusedVariables false
set_option linter.unusedSimpArgs false
set_option maxRecDepth 100000 in
set_option maxHeartbeats 8000000 in
theorem gat6_c (B E M L : Nat) (K : List Nat → World → Prop) (S : Sink B E 50 8 K (L + 2)) (l : List Nat) (a b n : Nat) (w : World)
    (hK : K l w) (hG : Gat M 6 8 (outV 50 E) a b w) (ha : a < 65536) (hb : b < 8) (hn : n < 2 ^ 6) (hl : l.length ≤ L) (hE : E < M) (hB : B ≤ E) (hBW : B ≤ w.heap.size) :
    Calls Tryd.prog 82 #[.int .i64 (n : Int), .pointer (some ⟨M + 3, 0, none⟩), .pointer (some ⟨M, 0, none⟩), .pointer (some ⟨M + 4, 0, none⟩), .pointer (some ⟨M + 1, 0, none⟩), .pointer (some ⟨M + 2, 0, none⟩)] w
      fun e w' => e = .returned (.int .i64 (((b + 6) % 8 : Nat) : Int)) ∧ K (l ++ emit 8 ((a * 2 ^ 6 + n) % 65536) 2 (b + 6)) w' ∧ Gat M 6 8 (outV 50 E) (((a * 2 ^ 6 + n) % 65536 : Nat) : Int) (((b + 6) % 8 : Nat) : Int) w' ∧ Below B w w' := by
  have hG : Gat M 6 8 (outV 50 E) a b w := hG
  have c0 := Joins.cell_of_block hG.b0 0
  have c1 := Joins.cell_of_block hG.b1 0
  have c2 := Joins.cell_of_block hG.b2 0
  have c3 := Joins.cell_of_block hG.b3 0
  have c4 := Joins.cell_of_block hG.b4 0
  have u3 := Joins.unfrozen_of_block hG.b3 0
  have u4 := Joins.unfrozen_of_block hG.b4 0
  simp at c0 c1 c2 c3 c4
  go_enter Tryd.func82, Tryd.ntmps82
  go_upto_region 1 with fail
  go_region
  rw [orand6 a n ha hn]
  generalize hAA : (a * 2 ^ 6 + n) % 65536 = A
  have hA : A < 65536 := by omega
  have G2 : Gat M 6 8 (outV 50 E) (A : Int) ((b + 6 : Nat) : Int) (((w.setCell ⟨M + 3, 0, none⟩ (.int .i64 (A : Int))).setCell ⟨M + 4, 0, none⟩ (.int .i64 ((b : Int) + 6))).drew) := by
    rw [show ((b + 6 : Nat) : Int) = (b : Int) + 6 by omega]
    exact (((hG.setAll (A : Int)).setBits ((b : Int) + 6))).drewN 1
  have K2 : K l (((w.setCell ⟨M + 3, 0, none⟩ (.int .i64 (A : Int))).setCell ⟨M + 4, 0, none⟩ (.int .i64 ((b : Int) + 6))).drew) := S.drew _ _ 1 (S.set _ _ _ _ _ (S.set _ _ _ _ _ hK (by omega) hG.b3) (by omega) (hG.setAll (A : Int)).b4)
  have B2 : Below B w (((w.setCell ⟨M + 3, 0, none⟩ (.int .i64 (A : Int))).setCell ⟨M + 4, 0, none⟩ (.int .i64 ((b : Int) + 6))).drew) := (((Below.refl B w).setCell (p := ⟨M + 3, 0, none⟩) (by show B ≤ M + 3; omega) _).setCell (p := ⟨M + 4, 0, none⟩) (by show B ≤ M + 4; omega) _).drew
  generalize World.drew _ = w2 at G2 K2 B2 ⊢
  clear c0 c1 c2 c3 c4 u3 u4 hK hG
  have HS := Lib.hid S
  clear S
  go_wp2
  go_loopw [] (fun wr => ∃ (k b' : Nat) (l' : List Nat), l' ++ emit 8 A k b' = l ++ emit 8 A 2 (b + 6) ∧ b' % 8 = (b + 6) % 8 ∧ b' < (k + 1) * 8 ∧ b' ≤ 13 ∧ l'.length + k ≤ L + 2 ∧ Gat M 6 8 (outV 50 E) (A : Int) (b' : Int) wr ∧ K l' wr ∧ Below B w wr) (fun wr => (RowKit.intOf ((wr.cell? ⟨M + 4, 0, none⟩).getD .nilFunc)).toNat)
  case atStart => exact ⟨2, b + 6, l, rfl, rfl, by omega, by omega, by omega, G2, K2, B2⟩
  case round =>
    obtain ⟨k, b', l', e1, e2, e3, e4, e5, G3, K3, B3⟩ := hrel
    have c1 := Joins.cell_of_block G3.b1 0
    have c2 := Joins.cell_of_block G3.b2 0
    have c3 := Joins.cell_of_block G3.b3 0
    have c4 := Joins.cell_of_block G3.b4 0
    have u4 := Joins.unfrozen_of_block G3.b4 0
    simp at c1 c2 c3 c4
    have HM := Lib.hid c4
    by_cases hT : 8 ≤ b'
    · obtain ⟨k, rfl⟩ : ∃ j, k = j + 1 := ⟨k - 1, by omega⟩
      have hT2 : (8 : Int) ≤ (b' : Int) := by omega
      have G4 : Gat M 6 8 (outV 50 E) (A : Int) ((b' - 8 : Nat) : Int) (wr.setCell ⟨M + 4, 0, none⟩ (.int .i64 ((b' : Int) - 8))) := by
        rw [show ((b' - 8 : Nat) : Int) = (b' : Int) - 8 by omega]
        exact G3.setBits _
      have K4 : K l' (wr.setCell ⟨M + 4, 0, none⟩ (.int .i64 ((b' : Int) - 8))) := HS.out.set _ _ _ _ _ K3 (by omega) G3.b4
      have B4 : Below B w (wr.setCell ⟨M + 4, 0, none⟩ (.int .i64 ((b' : Int) - 8))) := B3.setCell (p := ⟨M + 4, 0, none⟩) (by show B ≤ M + 4; omega) _
      go_upto_region 4 with fail
      obtain ⟨b2, hb2, hb3⟩ : ∃ b2 : Nat, b' = b2 + 8 ∧ b2 ≤ 5 := ⟨b' - 8, by omega, by omega⟩
      subst hb2
      rw [show b2 + 8 - 8 = b2 by omega] at G4
      generalize World.setCell wr _ _ = w4 at G4 K4 B4 ⊢
      clear G3 K3 B3 c1 c2 c3 c4 u4
      have c1 := Joins.cell_of_block G4.b1 0
      have c2 := Joins.cell_of_block G4.b2 0
      have c3 := Joins.cell_of_block G4.b3 0
      have c4 := Joins.cell_of_block G4.b4 0
      simp at c1 c2 c3 c4
      unfold outV at c2
      obtain ⟨q, hq⟩ : ∃ q, q = A / 2 ^ b2 := ⟨_, rfl⟩
      have hq2 : q ≤ A := by rw [hq]; exact Nat.div_le_self _ _
      have e9 : (A : Int) / 2 ^ b2 = (q : Int) := by rw [hq, Int.natCast_ediv]; simp
      have e9b : (A : Int) / 2 ^ b2 % 256 = ((q % 2 ^ 8 : Nat) : Int) := by rw [e9]; omega
      have hx : bits BinOp.and .i64 ((A : Int) / 2 ^ b2) (IntKind.i64.wrap (IntKind.i64.wrap 256 - 1)) = (A : Int) / 2 ^ b2 % 256 := by
        rw [show (IntKind.i64.wrap (IntKind.i64.wrap 256 - 1)) = (2 : Int) ^ 8 - 1 by decide, e9]
        exact bits_mask .i64 62 (by decide) wraps_i64 8 (by decide) (q : Int) (by omega) (by omega)
      have HC := Lib.hid (HS.out.call l' (q % 2 ^ 8) (w4.drew) (HS.out.drew _ _ 1 K4) (Nat.mod_lt _ (by decide)) (by omega) (Nat.le_trans hBW (by simpa using B4.size)))
      have EM : Hid ((l' ++ [q % 2 ^ 8]) ++ emit 8 A k b2 = l ++ emit 8 A 2 (b + 6)) := Lib.hid (by
        rw [← e1]
        have : emit 8 A (k + 1) (b2 + 8) = (A / 2 ^ b2) % 2 ^ 8 :: emit 8 A k b2 := by
          simp only [emit]
          rw [if_pos (by omega), show b2 + 8 - 8 = b2 by omega]
        rw [this, hq, List.append_assoc]
        rfl)
      clear e1
      have E9 := Lib.hid e9b
      have HX := Lib.hid hx
      clear e9 e9b hq hq2 hx
      go_region_with (go_at_call 50; rw [HX.out, E9.out]; refine (HC.out).mono ?_; rintro e w5 ⟨rfl, K5, B5, O5⟩)
      all_goals
        have hG5 : Gat M 6 8 (outV 50 E) (A : Int) (b2 : Int) w5 := (G4.drewN 1).kept hE O5
        have hm5 := Joins.cell_of_block hG5.b4 0
        simp at hm5
        have hm3 := HM.out
        go_wp2_with fail
        go_roundw
        case rel => exact ⟨k, b2, l' ++ [q % 2 ^ 8], EM.out, by omega, by omega, by omega, by simp; omega, hG5, K5, B4.drew.trans B5⟩
        case measure => rw [hm5, hm3]; simp [RowKit.intOf]; omega
    · have hT2 : ¬ (8 : Int) ≤ (b' : Int) := by omega
      go_wp2
      go_ret
      have e6 : emit 8 A k b' = [] := by cases k with
        | zero => rfl
        | succ k => simp only [emit]; rw [if_neg hT]
      rw [e6, List.append_nil] at e1
      subst e1
      have e7 : (b' : Int) = ((b : Int) + 6) % 8 := by omega
      rw [← e7]
      exact ⟨rfl, K3, G3, B3⟩
end Go.Proofs.YtokkgjiofhhlkaaDoor.B64
namespace Go.Proofs.YtokkgjiofhhlkaaDoor.B64
open Go.RowKit Go.Lib Go.Proofs.YtokkgjiofhhlkaaDoor Go.Proofs.YtokkgjiofhhlkaaDoor.Row
set_option linter.unusedVariables false
set_option linter.unusedSimpArgs false
def lettersB : ByteArray := ⟨#[65, 66, 67, 68, 69, 70, 71, 72, 73, 74, 75, 76, 77, 78, 79, 80, 81, 82, 83, 84, 85, 86, 87, 88, 89, 90, 97, 98, 99, 100, 101, 102, 103, 104, 105, 106, 107, 108, 109, 110, 111, 112, 113, 114, 115, 116, 117, 118, 119, 120, 121, 122, 48, 49, 50, 51, 52, 53, 54, 55, 56, 57, 43, 47]⟩
def lettersL : List UInt8 := [65, 66, 67, 68, 69, 70, 71, 72, 73, 74, 75, 76, 77, 78, 79, 80, 81, 82, 83, 84, 85, 86, 87, 88, 89, 90, 97, 98, 99, 100, 101, 102, 103, 104, 105, 106, 107, 108, 109, 110, 111, 112, 113, 114, 115, 116, 117, 118, 119, 120, 121, 122, 48, 49, 50, 51, 52, 53, 54, 55, 56, 57, 43, 47]
def letterC (n : Nat) : UInt8 := lettersL.getD n 0
theorem rowF_set {w : World} {B n k : Nat} {v x : Value} {xs : List Value} {cs : Array Value} (h : w.ownsRowF B 5 1 v n xs) (hk : w.heap[k]? = some (.cells cs 3 (0, 0))) : (w.setCell ⟨k, 0, none⟩ x).ownsRowF B 5 1 v n xs := by
  refine ⟨h.1, h.2.elim Or.inl fun ⟨g, cap, cur, fz, hv, hg, hh, r⟩ => Or.inr ⟨g, cap, cur, fz, hv, hg, ?_, r⟩⟩
  rw [Deep.blk_setCell_other w ⟨k, 0, none⟩ x g (by
    rintro rfl
    rw [hh] at hk
    injection hk with hk
    injection hk with _ e2 _
    exact absurd e2 (by decide))]
  exact hh
theorem row_set {w : World} {B n k : Nat} {v x : Value} {xs : List Value} {cs : Array Value} (h : w.ownsRow B 5 1 v n xs) (hk : w.heap[k]? = some (.cells cs 3 (0, 0))) : (w.setCell ⟨k, 0, none⟩ x).ownsRow B 5 1 v n xs := by
  refine ⟨h.1, h.2.elim Or.inl fun ⟨g, cap, cur, hv, hg, hh, r⟩ => Or.inr ⟨g, cap, cur, hv, hg, ?_, r⟩⟩
  rw [Deep.blk_setCell_other w ⟨k, 0, none⟩ x g (by
    rintro rfl
    rw [hh] at hk
    injection hk with hk
    injection hk with _ e2 _
    exact absurd e2 (by decide))]
  exact hh
def EncK (B E : Nat) (l : List Nat) (w : World) : Prop := IsBuilderF 39 5 B E (byteCells (l.map letterC)) w
theorem EncK.set {B E : Nat} {l : List Nat} {w : World} {k : Nat} {cs : Array Value} {v : Value} (h : EncK B E l w) (hne : k ≠ E) (hk : w.heap[k]? = some (.cells cs 3 (0, 0))) : EncK B E l (w.setCell ⟨k, 0, none⟩ v) := by
  have key : ∀ p, BuilderAtF 39 5 B E p (byteCells (l.map letterC)) w → BuilderAtF 39 5 B E p (byteCells (l.map letterC)) (w.setCell ⟨k, 0, none⟩ v) := by
    rintro p ⟨hB, u, hb, ho, hn⟩
    exact ⟨hB, u, (Deep.blk_setCell_other w ⟨k, 0, none⟩ v E (by show E ≠ k; omega)).trans hb, rowF_set ho hk, hn⟩
  exact h.elim (fun h => .inl (key _ h)) (fun h => .inr (key _ h))
theorem letters_get (n : Nat) (h : n < 64) (h2 : n < lettersB.size) : lettersB[n] = letterC n := by
  have key : ∀ m : Fin 64, lettersB.data.toList[m.val]? = some (letterC m.val) := by decide +kernel
  have := key ⟨n, h⟩
  have h3 : n < lettersB.data.toList.length := by simpa using h2
  rw [List.getElem?_eq_getElem h3] at this
  exact Option.some.inj this
set_option maxRecDepth 100000 in
set_option maxHeartbeats 4000000 in
theorem enc_sink (B E L : Nat) (hL : L ≤ 11000000) : Sink B E 73 6 (EncK B E) L where
  set := fun l w k cs v h hne hk => h.set hne hk
  drew := fun l w n h => h
  call := by
    intro l n w hK hn hl hB
    have hKK := Lib.hid hK
    have hlen : (byteCells (l.map letterC)).length = l.length := by simp [byteCells]
    have WB := Lib.hid (fun c => Bld.WriteByte_k B E _ c w hK (by omega) hB)
    clear hK
    have hn2 : n < 64 := hn
    go_enter Tryd.func73, Tryd.ntmps73
    go_wp2_with (go_at_call 53; refine (WB.out _).mono ?_; rintro e w1 ⟨rfl, h1, b1, k1⟩)
    go_end0
    refine ⟨rfl, ?_, b1, k1⟩
    have e : byteCells ((l ++ [n]).map letterC) = byteCells (l.map letterC) ++ [.int .u8 ((letterC n).toNat : Int)] := by simp [byteCells]
    show IsBuilderF _ _ _ _ (byteCells ((l ++ [n]).map letterC)) _
    rw [e, ← letters_get n hn2 hn2]
    exact h1
def DecK (B E : Nat) (l : List Nat) (w : World) : Prop := B ≤ E ∧ ∃ v, w.heap[E]? = some (.cells #[v] 37 (0, 0)) ∧ w.ownsRow B 5 1 v l.length (byteCells (l.map Nat.toUInt8))
theorem DecK.set {B E : Nat} {l : List Nat} {w : World} {k : Nat} {cs : Array Value} {v : Value} (h : DecK B E l w) (hne : k ≠ E) (hk : w.heap[k]? = some (.cells cs 3 (0, 0))) : DecK B E l (w.setCell ⟨k, 0, none⟩ v) := by
  obtain ⟨hB, u, h1, h2⟩ := h
  exact ⟨hB, u, (Deep.blk_setCell_other w ⟨k, 0, none⟩ v E (by show E ≠ k; omega)).trans h1, row_set h2 hk⟩
set_option maxRecDepth 100000 in
set_option maxHeartbeats 4000000 in
theorem dec_sink (B E L : Nat) (hL : L ≤ 11000000) : Sink B E 50 8 (DecK B E) L where
  set := fun l w k cs v h hne hk => h.set hne hk
  drew := fun l w n h => h
  call := by
    intro l n w hK hn hl hB
    obtain ⟨hBE, v, hv, hown⟩ := hK
    obtain ⟨i0, hi, hz0, hz1, hz2⟩ := info_parts Bld.infoByte
    have c0 := Joins.cell_of_block hv 0
    have u0 := Joins.unfrozen_of_block hv 0
    simp at c0
    have hn2 : n < 256 := hn
    have hlen : (byteCells (l.map Nat.toUInt8)).length = l.length := by simp [byteCells]
    have HO := Lib.hid hown; have HV := Lib.hid hv
    clear hown hv
    go_enter Tryd.func50, Tryd.ntmps50
    go_wp2_with (at_builtin; refine wpList_append_own _ rfl (.tmp 3) (.tmp 6) 37 rfl B 5 i0 (.int .u8 0) 1 1 Tryd.underlying37 hi hz0 hz1 hz2 rfl (by decide) _ _ _ rfl (HO.out.alloc _) ⟨w.heap.size, 0, none⟩ 1 1 [.int .u8 (n : Int)] rfl rfl ?c1 ?c2 ?c3 ?c4 ?c5 ?_)
    case c1 =>
      intro j u hj
      match j, hj with
      | 0, hj => simp at hj; subst hj; simp [Addr.add]
    case c2 => intro u hu; simp at hu; subst hu; rfl
    case c3 => simp only [maxLen]; omega
    case c4 => omega
    case c5 => simp; omega
    intro v1 w1 hown1 hgr1 _
    have hlt : E < w.heap.size := (Array.getElem?_eq_some_iff.1 HV.out).1
    have hne : some E ≠ v.ownBlock := by
      intro e
      obtain ⟨c, fz, hc⟩ := Lib.ownsRowF_kind (World.ownsRowF_of HO.out) E e.symm
      rw [HV.out] at hc
      injection hc with hc
      injection hc with _ e2 _
      exact absurd e2 (by decide)
    have hE1 : w1.heap[E]? = some (.cells #[v] 37 (0, 0)) := by
      rw [hgr1.block E (by simp; omega) hne, Lib.alloc_old w _ E hlt]
      exact HV.out
    have d0 : w1.cell? ⟨E, 0, none⟩ = some v := by rw [Joins.cell_of_block hE1]; rfl
    have f0 : w1.frozen? ⟨E, 0, none⟩ = false := Joins.unfrozen_of_block hE1 0
    obtain ⟨g, cap, rfl⟩ : ∃ g cap, v1 = .slice (some ⟨g, 0, none⟩) (l.length + 1) cap := by
      rcases hown1.2 with ⟨_, h0⟩ | ⟨g, cap, cur, hv, _⟩
      · omega
      · exact ⟨g, cap, hv⟩
    go_wp2
    go_end0
    have hb1 : Below B w w1 := (((Below.refl B w).alloc hB _).grown hgr1 (by simp; omega) (fun k hk => ((World.ownsRowF_of HO.out).lt k hk).1))
    have hset : (w1.setCell ⟨E, 0, none⟩ (.slice (some ⟨g, 0, none⟩) (l.length + 1) cap)).heap[E]? = some (.cells #[.slice (some ⟨g, 0, none⟩) (l.length + 1) cap] 37 (0, 0)) := Joins.block_setCell hE1 _
    have hgE : g ≠ E := by
      rintro rfl
      rcases hown1.2 with ⟨hv, _⟩ | ⟨g2, cap2, cur, hv, _, hh, _⟩
      · cases hv
      · cases hv
        rw [hE1] at hh
        injection hh with hc
        injection hc with _ e2 _
        exact absurd e2 (by decide)
    refine ⟨rfl, ⟨hBE, _, hset, ?_⟩, hb1.setCell (p := ⟨E, 0, none⟩) hBE _, (((OthersKept.refl _ _ w).alloc _).grown hgr1 (Lib.ownsRowF_kind (World.ownsRowF_of (HO.out.alloc _)))).setCell ⟨E, 0, none⟩ rfl _⟩
    have e : byteCells ((l ++ [n]).map Nat.toUInt8) = byteCells (l.map Nat.toUInt8) ++ [.int .u8 (n : Int)] := by
      have h1 : ((n.toUInt8).toNat : Int) = (n : Int) := by
        rw [show n.toUInt8 = UInt8.ofNat n from rfl, UInt8.toNat_ofNat']; omega
      simp [byteCells, h1]
      omega
    rw [e, List.length_append]
    refine ⟨hown1.1, hown1.2.elim Or.inl fun ⟨g2, cap2, cur, hv, hg, hh, r⟩ => Or.inr ⟨g2, cap2, cur, hv, hg, ?_, r⟩⟩
    rw [Deep.blk_setCell_other w1 ⟨E, 0, none⟩ _ g2 (by cases hv; exact hgE)]
    exact hh
end Go.Proofs.YtokkgjiofhhlkaaDoor.B64
namespace Go.Proofs.YtokkgjiofhhlkaaDoor.B64
open Go.RowKit Go.Lib Go.Proofs.YtokkgjiofhhlkaaDoor Go.Proofs.YtokkgjiofhhlkaaDoor.Row
set_option linter.unusedVariables false
set_option linter.unusedSimpArgs false
def placeC (c : UInt8) : Int := indexByte lettersB.data.toList c
theorem place_range : ∀ c : Fin 256, placeC (UInt8.ofNat c.val) = -1 ∨ (0 ≤ placeC (UInt8.ofNat c.val) ∧ placeC (UInt8.ofNat c.val) < 64) := by decide +kernel
theorem place_r (c : UInt8) : placeC c = -1 ∨ (0 ≤ placeC c ∧ placeC c < 64) := by
  have := place_range ⟨c.toNat, UInt8.toNat_lt c⟩
  simpa using this
def decGo : Nat → Nat → List UInt8 → List Nat
  | _, _, [] => []
  | a, b, c :: r => if 0 ≤ placeC c then emit 8 ((a * 2 ^ 6 + (placeC c).toNat) % 65536) 2 (b + 6) ++ decGo ((a * 2 ^ 6 + (placeC c).toNat) % 65536) ((b + 6) % 8) r else decGo a b r
def b64DecL (l : List UInt8) : List UInt8 := (decGo 0 0 (cutL 61 l).1).map Nat.toUInt8
theorem emit_len (T a k b : Nat) : (emit T a k b).length ≤ k := by
  induction k generalizing b with
  | zero => simp [emit]
  | succ k ih => simp only [emit]; split <;> simp; exact ih _
theorem dec_string {B : Nat} {l : List Nat} {w : World} {v : Value} (h : w.ownsRow B 5 1 v l.length (byteCells (l.map Nat.toUInt8))) :
    (convert 37 9 v).run Tryd.prog w = .ok (.string ⟨(l.map Nat.toUInt8).toArray⟩) w := by
  rcases h.2 with ⟨rfl, h0⟩ | ⟨g, cap, cur, rfl, hg, hh, hc, hm, hs, ht⟩
  · obtain rfl : l = [] := List.length_eq_zero_iff.1 h0
    exact run_convert_bytes_nil w 37 5 Tryd.underlying37 Tryd.underlying5 0 0 9 Tryd.underlying9
  · have := run_convert_bytes_back w 37 9 5 ⟨g, 0, none⟩ cap (l.map Nat.toUInt8) Tryd.underlying37 Tryd.underlying5 Tryd.underlying9 (fun j hj => by
      have h1 : j < (byteCells (l.map Nat.toUInt8)).length := by simpa [byteCells] using hj
      have h2 : (byteCells (l.map Nat.toUInt8))[j]? = some (.int .u8 (((l.map Nat.toUInt8)[j]).toNat : Int)) := by
        rw [List.getElem?_eq_getElem h1]; simp [byteCells]
      rw [← ht, List.getElem?_take] at h2
      have h3 : j < l.length * 1 := by simpa using hj
      rw [if_pos h3] at h2
      have h4 : w.cell? ⟨g, j, none⟩ = some (.int .u8 (((l.map Nat.toUInt8)[j]).toNat : Int)) := by
        rw [Joins.cell_of_block hh]
        simpa using h2
      unfold Addr.add
      split
      · rename_i h0; subst h0; exact h4
      · simpa using h4)
    rw [List.length_map] at this
    exact this
theorem Gat.below {M : Nat} {F T : Int} {ov : Value} {all bits : Int} {w w' : World} (h : Gat M F T ov all bits w) (hb : Below w.heap.size w w') : Gat M F T ov all bits w' := by
  have key : ∀ k x, w.heap[k]? = some x → w'.heap[k]? = some x := fun k x hk => (hb.block k (Array.getElem?_eq_some_iff.1 hk).1).trans hk
  exact ⟨key _ _ h.b0, key _ _ h.b1, key _ _ h.b2, key _ _ h.b3, key _ _ h.b4⟩
theorem DecK.below {B E : Nat} {l : List Nat} {w w' : World} (h : DecK B E l w) (hb : Below w.heap.size w w') : DecK B E l w' := by
  have key : ∀ k x, w.heap[k]? = some x → w'.heap[k]? = some x := fun k x hk => (hb.block k (Array.getElem?_eq_some_iff.1 hk).1).trans hk
  obtain ⟨hB, v, h1, h2⟩ := h
  exact ⟨hB, v, key _ _ h1, h2.1, h2.2.elim Or.inl fun ⟨g, cap, cur, hv, hg, hh, r⟩ => Or.inr ⟨g, cap, cur, hv, hg, key _ _ hh, r⟩⟩
theorem index_letters (c : UInt8) (W : World) : Calls Tryd.prog 51 #[.string (⟨#[65, 66, 67, 68, 69, 70, 71, 72, 73, 74, 75, 76, 77, 78, 79, 80, 81, 82, 83, 84, 85, 86, 87, 88, 89, 90, 97, 98, 99, 100, 101, 102, 103, 104, 105, 106, 107, 108, 109, 110, 111, 112, 113, 114, 115, 116, 117, 118, 119, 120, 121, 122, 48, 49, 50, 51, 52, 53, 54, 55, 56, 57, 43, 47]⟩ : ByteArray), .int .u8 (c.toNat : Int)] W fun e w' => e = .returned (.int .i64 (placeC c)) ∧ Below W.heap.size W w' :=
  strings_IndexByte.calls lettersB (c.toNat : Int) (placeC c) W (by
    unfold strings_IndexByte.f placeC
    rw [show ((c.toNat : Int)).toNat.toUInt8 = c by simp])
set_option maxRecDepth 100000 in
set_option maxHeartbeats 8000000 in
theorem Decode_c (s : ByteArray) (hs : s.size ≤ 1100000) (w : World) :
    Calls Tryd.prog 23 #[.string s] w fun e w' => e = .returned (.string ⟨(b64DecL s.data.toList).toArray⟩) ∧ Below w.heap.size w w' := by
  have hmf : ∀ (fn : Fn) (first cap : Array Value) (w : World), (Instr.makeFunc fn first cap).run Tryd.prog w = .ok (.func fn first cap) w := fun _ _ _ _ => rfl
  have hcu : strings_Cut.f s (⟨#[61]⟩ : ByteArray) = some (⟨(cutL 61 s.data.toList).1.toArray⟩, ⟨(cutL 61 s.data.toList).2.1.toArray⟩, (cutL 61 s.data.toList).2.2) := by
    unfold strings_Cut.f
    rw [if_pos ⟨rfl, by omega⟩]
    rfl
  have CU := Lib.hid (fun W => strings_Cut.calls s (⟨#[61]⟩ : ByteArray) _ _ _ W hcu)
  have hlen : (cutL 61 s.data.toList).1.length ≤ s.size := by
    have h1 : s.data.toList.length = s.size := by simp
    unfold cutL
    split
    · rw [← h1]; exact List.IsPrefix.length_le (List.takeWhile_prefix _)
    · rw [← h1]; exact Nat.le_refl _
  unfold b64DecL
  generalize cutL 61 s.data.toList = ct at *
  obtain ⟨p, p2, p3⟩ := ct
  simp only at CU hlen ⊢
  have hpz : (⟨p.toArray⟩ : ByteArray).size = p.length := by simp [ByteArray.size]
  have hpd : (⟨p.toArray⟩ : ByteArray).data.toList = p := rfl
  generalize (⟨p.toArray⟩ : ByteArray) = S at *
  subst hpd
  have HLE := Lib.hid hlen; have HPZ := Lib.hid hpz
  clear hcu hlen hpz
  have SK := Lib.hid (dec_sink w.heap.size w.heap.size (4400000 + 2) (by omega))
  go_enter Tryd.func23, Tryd.ntmps23
  go_upto_region 4 with (first
    | (go_at_call 49; refine (gather_c 6 8 _ _ _).mono ?_; rintro e w1 ⟨rfl, hb1, hg1, hk1, hz1⟩; have G1 := Lib.hid hg1; have B1 := Lib.hid hb1; have K1 := Lib.hid hk1; have Z1 := Lib.hid hz1; clear hg1 hb1 hk1 hz1)
    | (go_at_call 20; refine (CU.out _).mono ?_; rintro e w2 ⟨rfl, hb2⟩; have B2 := Lib.hid hb2; clear hb2))
  have hsz : (w.alloc (Obj.cells #[Value.slice none 0 0] 37)).heap.size = w.heap.size + 1 := by simp
  have hG : Gat (w.heap.size + 1) 6 8 (outV 50 w.heap.size) (0 : Nat) (0 : Nat) w2 := by
    have := G1.out
    rw [hsz] at this
    exact this.below B2.out
  have hK : DecK w.heap.size w.heap.size [] w2 := by
    refine DecK.below (w := w1) ⟨Nat.le_refl _, .slice none 0 0, ?_, rfl, .inl ⟨rfl, rfl⟩⟩ B2.out
    refine K1.out _ _ (al_new w _) (by simp) ?_
    intro c fz e
    injection e with _ e2 _
    exact absurd e2 (by decide)
  have hB : Below w.heap.size w w2 := by
    have h1 : Below w.heap.size w (w.alloc (Obj.cells #[Value.slice none 0 0] 37)) := Joins.below_alloc1 w _
    exact (h1.trans (B1.out.mono h1.size)).trans (B2.out.mono (h1.trans (B1.out.mono h1.size)).size)
  have HG := Lib.hid hG; have HK := Lib.hid hK; have HB := Lib.hid hB
  clear hG hK hB hsz G1 K1 Z1 B1 B2
  go_wp2
  go_loopw [17] (fun i wr => ∃ (k a b : Nat) (l : List Nat), i = .int .i64 (k : Int) ∧ k ≤ S.data.toList.length ∧ l ++ decGo a b (S.data.toList.drop k) = decGo 0 0 S.data.toList ∧ a < 65536 ∧ b < 8 ∧ l.length ≤ 2 * k ∧ DecK w.heap.size w.heap.size l wr ∧ Gat (w.heap.size + 1) 6 8 (outV 50 w.heap.size) (a : Int) (b : Int) wr ∧ Below w.heap.size w wr) (fun i _ => S.data.toList.length - (RowKit.intOf i).toNat)
  case atStart => exact ⟨0, 0, 0, [], rfl, Nat.zero_le _, rfl, by omega, by omega, by simp, HK.out, HG.out, HB.out⟩
  case round =>
    obtain ⟨k, a, b, l, rfl, hk, he, ha, hb, hl, K3, G3, B3⟩ := hrel
    have hpz := HPZ.out
    have hle := HLE.out
    have HE := Lib.hid he; have H3 := Lib.hid K3; have HG3 := Lib.hid G3; have HB3 := Lib.hid B3
    clear he K3 G3 B3
    by_cases hlt : k < S.data.toList.length
    · have hlt2 : k < S.size := by omega
      have hlt3 : (k : Int) < (S.size : Int) := by omega
      have hc : S.data.toList.drop k = S[k] :: S.data.toList.drop (k + 1) := List.drop_eq_getElem_cons hlt
      have hr := place_r S[k]
      have IX := Lib.hid (index_letters S[k])
      have HC := Lib.hid hc
      clear hc
      have hkb : k < 1100000 := by omega
      rcases hr with hr | ⟨hr0, hr1⟩
      · rw [hr] at IX
        have hst : decGo a b (S[k] :: S.data.toList.drop (k + 1)) = decGo a b (S.data.toList.drop (k + 1)) := by
          simp only [decGo]; rw [if_neg (by omega)]
        have HST := Lib.hid hst
        have HLT := Lib.hid hlt
        clear hst hr hlt hpz hle
        have hd := decide_eq_true hlt3
        go_wp2_with (go_at_call 51; refine (IX.out _).mono ?_; rintro e w4 ⟨rfl, hb4⟩; have HB4 := Lib.hid hb4; clear hb4)
        have hle := HLE.out
        have hlt := HLT.out
        go_roundw
        case rel => exact ⟨k + 1, a, b, l, by go_num, HLT.out, by rw [← HE.out, HC.out, HST.out], ha, hb, by omega, H3.out.below HB4.out, HG3.out.below HB4.out, HB3.out.trans (HB4.out.mono HB3.out.size)⟩
        case measure => simp [RowKit.intOf]; omega
      · obtain ⟨n, hn⟩ : ∃ n : Nat, placeC S[k] = (n : Int) := ⟨(placeC S[k]).toNat, by omega⟩
        rw [hn] at IX hr0 hr1
        have hn2 : n < 2 ^ 6 := by omega
        have hst : decGo a b (S[k] :: S.data.toList.drop (k + 1)) = emit 8 ((a * 2 ^ 6 + n) % 65536) 2 (b + 6) ++ decGo ((a * 2 ^ 6 + n) % 65536) ((b + 6) % 8) (S.data.toList.drop (k + 1)) := by
          simp only [decGo]; rw [if_pos (by omega), hn, Int.toNat_natCast]
        have HST := Lib.hid hst
        have hel := emit_len 8 ((a * 2 ^ 6 + n) % 65536) 2 (b + 6)
        have HEL := Lib.hid hel
        have HLT := Lib.hid hlt
        have hl4 : l.length ≤ 4400000 := by omega
        have HN2 := Lib.hid hn2
        clear hst hel hn hlt hpz hle hn2
        have hd := decide_eq_true hlt3
        go_wp2_with (first
          | (go_at_call 51; refine (IX.out _).mono ?_; rintro e w4 ⟨rfl, hb4⟩; have HB4 := Lib.hid (HB3.out.trans (hb4.mono HB3.out.size)); have HG4 := Lib.hid (HG3.out.below hb4); have H4 := Lib.hid (H3.out.below hb4); clear hb4)
          | (go_at_call 82; refine (gat6_c w.heap.size w.heap.size (w.heap.size + 1) 4400000 (DecK w.heap.size w.heap.size) SK.out l a b n _ H4.out HG4.out ha hb HN2.out hl4 (by omega) (Nat.le_refl _) HB4.out.size).mono ?_; rintro e w5 ⟨rfl, h5, g5, b5⟩; have H5 := Lib.hid h5; have G5 := Lib.hid g5; have B5 := Lib.hid b5; clear h5 g5 b5))
        have hle := HLE.out
        have hlt := HLT.out
        go_roundw
        case rel =>
          refine ⟨k + 1, (a * 2 ^ 6 + n) % 65536, (b + 6) % 8, _, by go_num, HLT.out, ?_, by omega, by omega, ?_, H5.out, G5.out, HB4.out.trans B5.out⟩
          · rw [← HE.out, HC.out, HST.out, List.append_assoc]
          · have := HEL.out
            rw [List.length_append]; omega
        case measure => simp [RowKit.intOf]; omega
    · have hkl : k = S.data.toList.length := by omega
      have hlt3 : ¬ (k : Int) < (S.size : Int) := by omega
      have he2 := HE.out
      rw [hkl, List.drop_length] at he2
      simp only [decGo, List.append_nil] at he2
      have HE2 := Lib.hid he2
      obtain ⟨_, v, hv, hown⟩ := H3.out
      have hcv := dec_string hown
      have c0 := Joins.cell_of_block hv 0
      simp at c0
      clear hv hown he2 hkl hpz hle hlt hk
      have hd := decide_eq_false hlt3
      go_wp2
      go_ret
      exact ⟨by rw [← HE2.out]; rfl, HB3.out⟩
end Go.Proofs.YtokkgjiofhhlkaaDoor.B64
namespace Go.Proofs.YtokkgjiofhhlkaaDoor.B64
open Go.RowKit Go.Lib Go.Proofs.YtokkgjiofhhlkaaDoor Go.Proofs.YtokkgjiofhhlkaaDoor.Row
set_option linter.unusedVariables false
set_option linter.unusedSimpArgs false
def encGo : Nat → Nat → List UInt8 → List Nat
  | _, _, [] => []
  | a, b, c :: r => emit 6 ((a * 2 ^ 8 + c.toNat) % 65536) 2 (b + 8) ++ encGo ((a * 2 ^ 8 + c.toNat) % 65536) ((b + 8) % 6) r
def encSt : Nat → Nat → List UInt8 → Nat × Nat
  | a, b, [] => (a, b)
  | a, b, c :: r => encSt ((a * 2 ^ 8 + c.toNat) % 65536) ((b + 8) % 6) r
def encAll (l : List UInt8) : List Nat :=
  if 0 < (encSt 0 0 l).2 then encGo 0 0 l ++ emit 6 (((encSt 0 0 l).1 * 2 ^ 8 + 0) % 65536) 2 ((encSt 0 0 l).2 + 8) else encGo 0 0 l
def b64EncT (l : List UInt8) : List UInt8 := ((encAll l).map letterC).take ((l.length * 8 + 5) / 6)
def b64EncL (l : List UInt8) : List UInt8 := b64EncT l ++ List.replicate ((4 - (b64EncT l).length % 4) % 4) 61
theorem emit6_len (a b : Nat) (hb : b ≤ 13) : (emit 6 a 2 b).length = b / 6 := by
  simp only [emit]
  by_cases h : 6 ≤ b
  · rw [if_pos h]
    by_cases h2 : 6 ≤ b - 6
    · rw [if_pos h2]; simp; omega
    · rw [if_neg h2]; simp; omega
  · rw [if_neg h]; simp; omega
theorem encSt_bits : ∀ (l : List UInt8) (a b : Nat), b < 6 → (encSt a b l).2 < 6 ∧ 6 * (encGo a b l).length + (encSt a b l).2 = b + 8 * l.length
  | [], a, b, h => ⟨h, by simp [encGo, encSt]⟩
  | c :: r, a, b, h => by
    have ih := encSt_bits r ((a * 2 ^ 8 + c.toNat) % 65536) ((b + 8) % 6) (by omega)
    have he := emit6_len ((a * 2 ^ 8 + c.toNat) % 65536) (b + 8) (by omega)
    simp only [encGo, encSt, List.length_append, List.length_cons]
    rw [he]
    exact ⟨ih.1, by omega⟩
theorem encAll_len (l : List UInt8) : (l.length * 8 + 5) / 6 ≤ (encAll l).length := by
  have h := encSt_bits l 0 0 (by decide)
  unfold encAll
  by_cases h0 : 0 < (encSt 0 0 l).2
  · rw [if_pos h0, List.length_append, emit6_len _ _ (by omega)]
    omega
  · rw [if_neg h0]; omega
theorem EncK.below {B E : Nat} {l : List Nat} {w w' : World} (h : EncK B E l w) (hb : Below w.heap.size w w') : EncK B E l w' := by
  have key : ∀ k x, w.heap[k]? = some x → w'.heap[k]? = some x := fun k x hk => (hb.block k (Array.getElem?_eq_some_iff.1 hk).1).trans hk
  have k2 : ∀ p, BuilderAtF 39 5 B E p (byteCells (l.map letterC)) w → BuilderAtF 39 5 B E p (byteCells (l.map letterC)) w' := by
    rintro p ⟨hB, u, h1, h2, hn⟩
    exact ⟨hB, u, key _ _ h1, ⟨h2.1, h2.2.elim Or.inl fun ⟨g, cap, cur, fz, hv, hg, hh, r⟩ => Or.inr ⟨g, cap, cur, fz, hv, hg, key _ _ hh, r⟩⟩, hn⟩
  exact h.elim (fun h => .inl (k2 _ h)) (fun h => .inr (k2 _ h))
theorem repeat_pads (n : Nat) (h : n ≤ 3) (w : World) : Calls Tryd.prog 74 #[.string (⟨#[61]⟩ : ByteArray), .int .i64 (n : Int)] w fun e w' => e = .returned (.string ⟨(List.replicate n (61 : UInt8)).toArray⟩) ∧ Below w.heap.size w w' := by
  match n, h with
  | 0, _ => exact (Tryd.strings_Repeat_zero _ w).mono (by rintro e w' ⟨rfl, rfl⟩; exact ⟨rfl, Below.refl _ _⟩)
  | 1, _ => exact (Tryd.strings_Repeat_one _ w).mono (by rintro e w' ⟨rfl, rfl⟩; exact ⟨rfl, Below.refl _ _⟩)
  | 2, _ => exact (Tryd.strings_Repeat_main _ 2 w (by decide) (by decide) (by decide) (by decide)).mono (by rintro e w' ⟨rfl, h⟩; exact ⟨rfl, h⟩)
  | 3, _ => exact (Tryd.strings_Repeat_main _ 3 w (by decide) (by decide) (by decide) (by decide)).mono (by rintro e w' ⟨rfl, h⟩; exact ⟨rfl, h⟩)
theorem pads_int (n p : Nat) (hp : p = (4 - ((n * 8 + 5) / 6) % 4) % 4) : -(((n : Int) * 8 + 5) / 6 % 4) % 4 = (p : Int) := by
  obtain ⟨m, hm⟩ : ∃ m : Nat, m = (n * 8 + 5) / 6 := ⟨_, rfl⟩
  rw [← hm] at hp
  have e : ((n : Int) * 8 + 5) / 6 = (m : Int) := by omega
  rw [e]
  have h4 : m % 4 = 0 ∨ m % 4 = 1 ∨ m % 4 = 2 ∨ m % 4 = 3 := by omega
  rcases h4 with h | h | h | h <;> rw [h] at hp <;> simp at hp <;> omega
theorem enc_out (s : ByteArray) (L : List Nat) (h : encAll s.data.toList = L) (p : Nat) (hp : p = (4 - ((s.size * 8 + 5) / 6) % 4) % 4) :
    (⟨(L.map letterC).toArray⟩ : ByteArray).extract 0 ((s.size * 8 + 6 - 1) / 6) ++ (⟨(List.replicate p (61 : UInt8)).toArray⟩ : ByteArray) = ⟨(b64EncL s.data.toList).toArray⟩ := by
  have hz : s.data.toList.length = s.size := by simp
  have hl := encAll_len s.data.toList
  rw [h, hz] at hl
  have ht : (b64EncT s.data.toList).length = (s.size * 8 + 5) / 6 := by
    unfold b64EncT; rw [h, hz, List.length_take, List.length_map]; omega
  unfold b64EncL
  rw [ht, ← hp]
  unfold b64EncT
  rw [h, hz, extract_l]
  have e : (s.size * 8 + 6 - 1) / 6 = (s.size * 8 + 5) / 6 := by omega
  rw [e]
  rfl
set_option maxRecDepth 100000 in
set_option maxHeartbeats 8000000 in
theorem Encode_c (s : ByteArray) (hs : s.size ≤ 1100000) (w : World) :
    Calls Tryd.prog 40 #[.string s] w fun e w' => e = .returned (.string ⟨(b64EncL s.data.toList).toArray⟩) ∧ Below w.heap.size w w' := by
  have hmf : ∀ (fn : Fn) (first cap : Array Value) (w : World), (Instr.makeFunc fn first cap).run Tryd.prog w = .ok (.func fn first cap) w := fun _ _ _ _ => rfl
  have SK := Lib.hid (enc_sink w.heap.size w.heap.size (4400000 + 2) (by omega))
  have hsz0 : s.data.toList.length = s.size := by simp
  have HSZ := Lib.hid hsz0
  clear hsz0
  go_enter Tryd.func40, Tryd.ntmps40
  go_upto_region 4 with (first
    | (go_at_call 49; refine (gather_c 8 6 _ _ _).mono ?_; rintro e w1 ⟨rfl, hb1, hg1, hk1, hz1⟩; have G1 := Lib.hid hg1; have B1 := Lib.hid hb1; have K1 := Lib.hid hk1; have Z1 := Lib.hid hz1; clear hg1 hb1 hk1 hz1))
  have hsz : (w.alloc (Obj.cells #[Value.pointer none, Value.slice none 0 0] 39)).heap.size = w.heap.size + 1 := by simp
  have hG : Gat (w.heap.size + 1) 8 6 (outV 73 w.heap.size) (0 : Nat) (0 : Nat) w1 := by
    have := G1.out
    rw [hsz] at this
    exact this
  have hK : EncK w.heap.size w.heap.size [] w1 := by
    exact EncK.below (w := w.alloc (Obj.cells #[Value.pointer none, Value.slice none 0 0] 39)) (IsBuilderF.of (Lib.fresh_isBuilder 39 5 w)) B1.out
  have hB : Below w.heap.size w w1 := by
    have h1 : Below w.heap.size w (w.alloc (Obj.cells #[Value.pointer none, Value.slice none 0 0] 39)) := Joins.below_alloc1 w _
    exact h1.trans (B1.out.mono h1.size)
  have HG := Lib.hid hG; have HK := Lib.hid hK; have HB := Lib.hid hB
  clear hG hK hB hsz G1 K1 Z1 B1
  go_wp2
  go_loopw [5, 12] (fun lv i wr => ∃ (k a b : Nat) (l : List Nat), lv = .int .i64 (b : Int) ∧ i = .int .i64 (k : Int) ∧ k ≤ s.data.toList.length ∧ l ++ encGo a b (s.data.toList.drop k) = encGo 0 0 s.data.toList ∧ encSt a b (s.data.toList.drop k) = encSt 0 0 s.data.toList ∧ a < 65536 ∧ b < 6 ∧ l.length ≤ 2 * k ∧ EncK w.heap.size w.heap.size l wr ∧ Gat (w.heap.size + 1) 8 6 (outV 73 w.heap.size) (a : Int) (b : Int) wr ∧ Below w.heap.size w wr) (fun _ i _ => s.data.toList.length - (RowKit.intOf i).toNat)
  case atStart => exact ⟨0, 0, 0, [], rfl, rfl, Nat.zero_le _, rfl, rfl, by omega, by omega, by simp, HK.out, HG.out, HB.out⟩
  case round =>
    obtain ⟨k, a, b, l, rfl, rfl, hk, he, hst0, ha, hb, hl, K3, G3, B3⟩ := hrel
    have hsz1 := HSZ.out
    have HE := Lib.hid he; have H3 := Lib.hid K3; have HG3 := Lib.hid G3; have HB3 := Lib.hid B3; have HS0 := Lib.hid hst0
    clear he K3 G3 B3 hst0
    by_cases hlt : k < s.data.toList.length
    · have hlt2 : k < s.size := by omega
      have hlt3 : (k : Int) < (s.size : Int) := by omega
      have hc : s.data.toList.drop k = s[k] :: s.data.toList.drop (k + 1) := List.drop_eq_getElem_cons hlt
      have HC := Lib.hid hc
      have hkb : k < 1100000 := by omega
      have hn2 : (s[k]).toNat < 2 ^ 8 := UInt8.toNat_lt _
      have HN2 := Lib.hid hn2
      have HW := Lib.hid (show wrap64 ((s[k]).toNat : Int) = ((s[k]).toNat : Int) by unfold wrap64; omega)
      have HLT := Lib.hid hlt
      have hl4 : l.length ≤ 4400000 := by omega
      have hel := emit_len 6 ((a * 2 ^ 8 + (s[k]).toNat) % 65536) 2 (b + 8)
      have HEL := Lib.hid hel
      clear hc hn2 hel hlt hk
      have hd := decide_eq_true hlt3
      have HSZ1 := Lib.hid hsz1
      clear hsz1
      go_wp2_with (go_at_call 82; rw [HW.out]; refine (gat8_c w.heap.size w.heap.size (w.heap.size + 1) 4400000 (EncK w.heap.size w.heap.size) SK.out l a b (s[k]).toNat _ H3.out HG3.out ha hb HN2.out hl4 (by omega) (Nat.le_refl _) HB3.out.size).mono ?_; rintro e w5 ⟨rfl, h5, g5, b5⟩; have H5 := Lib.hid h5; have G5 := Lib.hid g5; have B5 := Lib.hid b5; clear h5 g5 b5)
      have hlt := HLT.out
      have hsz1 := HSZ1.out
      go_roundw
      case rel =>
        refine ⟨k + 1, (a * 2 ^ 8 + (s[k]).toNat) % 65536, (b + 8) % 6, _, rfl, by go_num, hlt, ?_, ?_, by omega, by omega, ?_, H5.out, G5.out, HB3.out.trans B5.out⟩
        · rw [← HE.out, HC.out, List.append_assoc]; rfl
        · rw [← HS0.out, HC.out]; rfl
        · have := HEL.out
          rw [List.length_append]; omega
      case measure => simp [RowKit.intOf]; omega
    · have hkl : k = s.data.toList.length := by omega
      have hlt3 : ¬ (k : Int) < (s.size : Int) := by omega
      have he2 := HE.out
      have hs2 := HS0.out
      rw [hkl, List.drop_length] at he2 hs2
      simp only [encGo, encSt, List.append_nil] at he2 hs2
      have hl5 : l.length ≤ 4400000 := by omega
      have HE2 := Lib.hid he2; have HS2 := Lib.hid hs2
      clear he2 hs2 hkl hlt hk hsz1
      have hd := decide_eq_false hlt3
      have hal : encAll s.data.toList = if 0 < b then l ++ emit 6 ((a * 2 ^ 8 + 0) % 65536) 2 (b + 8) else l := by
        unfold encAll; rw [← HS2.out, ← HE2.out]
      have hll := encAll_len s.data.toList
      by_cases hb0 : 0 < b
      · rw [if_pos hb0] at hal
        obtain ⟨LG, hLG⟩ : ∃ LG, LG = l ++ emit 6 ((a * 2 ^ 8 + 0) % 65536) 2 (b + 8) := ⟨_, rfl⟩
        rw [← hLG] at hal
        have HLG := Lib.hid hLG
        clear hLG
        rw [hal] at hll
        have hb1 : (0 : Int) < (b : Int) := by omega
        have htz : (⟨(LG.map letterC).toArray⟩ : ByteArray).size = LG.length := by simp [ByteArray.size]
        rw [HSZ.out] at hll
        have hout := enc_out s LG hal
        have HAL := Lib.hid hout
        generalize hT : (⟨(LG.map letterC).toArray⟩ : ByteArray) = T at htz
        have HT := Lib.hid hT
        clear hT hal hout
        have hq : ((s.size : Int) * 8 + 6 - 1) / 6 ≤ (T.size : Int) := by omega
        obtain ⟨p, hp⟩ : ∃ p : Nat, p = (4 - ((s.size * 8 + 5) / 6) % 4) % 4 := ⟨_, rfl⟩
        have hp3 : p ≤ 3 := by omega
        have HP := Lib.hid (pads_int s.size p hp)
        have hPz : (⟨(List.replicate p (61 : UInt8)).toArray⟩ : ByteArray).size = p := by simp [ByteArray.size]
        have RP := Lib.hid (repeat_pads p hp3)
        have HPP := Lib.hid hp
        clear hp
        generalize hPP : (⟨(List.replicate p (61 : UInt8)).toArray⟩ : ByteArray) = PP at hPz RP
        have HPB := Lib.hid hPP
        clear hPP
        go_wp2_with (first
          | (go_at_call 82; refine (gat8_c w.heap.size w.heap.size (w.heap.size + 1) 4400000 (EncK w.heap.size w.heap.size) SK.out l a b 0 _ H3.out HG3.out ha hb (by decide) hl5 (by omega) (Nat.le_refl _) HB3.out.size).mono ?_; rintro e w5 ⟨rfl, h5, g5, b5⟩; rw [← HLG.out] at h5; have HK5 := Lib.hid h5; have HBX := Lib.hid (HB3.out.trans b5); clear h5 g5 b5)
          | (go_at_call 34; refine (Tryd.Builder_String_any_k w.heap.size w.heap.size (LG.map letterC) _ HK5.out HBX.out.size).mono ?_; rintro e W1 ⟨rfl, _, b1, _⟩; rw [HT.out]; have HB4 := Lib.hid b1; clear b1)
          | (go_at_call 74; rw [HP.out]; refine (RP.out _).mono ?_; rintro e W2 ⟨rfl, b2⟩; have HB5 := Lib.hid b2; clear b2))
        go_ret
        refine ⟨?_, (HBX.out.trans HB4.out).trans (HB5.out.mono (HBX.out.trans HB4.out).size)⟩
        rw [← HAL.out p HPP.out, HT.out, HPB.out]
        rfl
      · rw [if_neg hb0] at hal
        obtain rfl : b = 0 := by omega
        rw [hal] at hll
        have htz : (⟨(l.map letterC).toArray⟩ : ByteArray).size = l.length := by simp [ByteArray.size]
        rw [HSZ.out] at hll
        have hout := enc_out s l hal
        have HAL := Lib.hid hout
        generalize hT : (⟨(l.map letterC).toArray⟩ : ByteArray) = T at htz
        have HT := Lib.hid hT
        clear hT hal hout
        have hq : ((s.size : Int) * 8 + 6 - 1) / 6 ≤ (T.size : Int) := by omega
        obtain ⟨p, hp⟩ : ∃ p : Nat, p = (4 - ((s.size * 8 + 5) / 6) % 4) % 4 := ⟨_, rfl⟩
        have hp3 : p ≤ 3 := by omega
        have HP := Lib.hid (pads_int s.size p hp)
        have hPz : (⟨(List.replicate p (61 : UInt8)).toArray⟩ : ByteArray).size = p := by simp [ByteArray.size]
        have RP := Lib.hid (repeat_pads p hp3)
        have HPP := Lib.hid hp
        clear hp
        generalize hPP : (⟨(List.replicate p (61 : UInt8)).toArray⟩ : ByteArray) = PP at hPz RP
        have HPB := Lib.hid hPP
        clear hPP
        go_wp2_with (first
          | (go_at_call 34; refine (Tryd.Builder_String_any_k w.heap.size w.heap.size (l.map letterC) _ H3.out HB3.out.size).mono ?_; rintro e W1 ⟨rfl, _, b1, _⟩; rw [HT.out]; have HB4 := Lib.hid b1; clear b1)
          | (go_at_call 74; rw [HP.out]; refine (RP.out _).mono ?_; rintro e W2 ⟨rfl, b2⟩; have HB5 := Lib.hid b2; clear b2))
        go_ret
        refine ⟨?_, (HB3.out.trans HB4.out).trans (HB5.out.mono (HB3.out.trans HB4.out).size)⟩
        rw [← HAL.out p HPP.out, HT.out, HPB.out]
        rfl
end Go.Proofs.YtokkgjiofhhlkaaDoor.B64
namespace Go.Proofs.YtokkgjiofhhlkaaDoor.B64
open Go.RowKit Go.Lib Go.Proofs.YtokkgjiofhhlkaaDoor
set_option linter.unusedVariables false
set_option linter.unusedSimpArgs false
def encC : List UInt8 → List Nat
  | [] => []
  | [x] => [x.toNat / 4, x.toNat % 4 * 16]
  | [x, y] => [x.toNat / 4, x.toNat % 4 * 16 + y.toNat / 16, y.toNat % 16 * 4]
  | x :: y :: z :: r => [x.toNat / 4, x.toNat % 4 * 16 + y.toNat / 16, y.toNat % 16 * 4 + z.toNat / 64, z.toNat % 64] ++ encC r
theorem encC_len : ∀ (n : Nat) (l : List UInt8), l.length ≤ n → (encC l).length = (l.length * 8 + 5) / 6
  | _, [], _ => rfl
  | _, [x], _ => by simp [encC]
  | _, [x, y], _ => by simp [encC]
  | 0, x :: y :: z :: r, hl => by simp at hl
  | n + 1, x :: y :: z :: r, hl => by
    simp only [encC, List.length_append, List.length_cons, List.length_nil] at hl ⊢
    rw [encC_len n r (by omega)]; omega
def encFrom (a : Nat) (l : List UInt8) : List Nat :=
  if 0 < (encSt a 0 l).2 then encGo a 0 l ++ emit 6 (((encSt a 0 l).1 * 2 ^ 8 + 0) % 65536) 2 ((encSt a 0 l).2 + 8) else encGo a 0 l
theorem em8 (T : Nat) : emit 6 T 2 8 = [T / 4 % 64] := by simp [emit]
theorem em10 (T : Nat) : emit 6 T 2 10 = [T / 16 % 64] := by simp [emit]
theorem em12 (T : Nat) : emit 6 T 2 12 = [T / 64 % 64, T % 64] := by simp [emit]
theorem encFrom_is : ∀ (n : Nat) (l : List UInt8) (a : Nat), l.length ≤ n → (encFrom a l).take ((l.length * 8 + 5) / 6) = encC l
  | _, [], a, _ => by simp [encFrom, encSt, encGo, encC]
  | _, [x], a, _ => by
    have := UInt8.toNat_lt x
    simp only [encFrom, encSt, encGo, encC, em8, em10, Nat.zero_add, List.append_nil, List.length_cons, List.length_nil]
    simp only [show (8 : Nat) % 6 = 2 from rfl, show (0 : Nat) < 2 from by decide, if_true, show 2 + 8 = 10 from rfl, em10, List.cons_append, List.nil_append, show ((0 + 1) * 8 + 5) / 6 = 2 from rfl, List.take_succ_cons, List.take_zero]
    congr 1
    · omega
    · congr 1; omega
  | _, [x, y], a, _ => by
    have := UInt8.toNat_lt x; have := UInt8.toNat_lt y
    simp only [encFrom, encSt, encGo, encC, em8, em10, Nat.zero_add, List.append_nil, List.length_cons, List.length_nil]
    simp only [show (8 : Nat) % 6 = 2 from rfl, show (2 + 8 : Nat) % 6 = 4 from rfl, show (0 : Nat) < 4 from by decide, if_true, show 2 + 8 = 10 from rfl, show 4 + 8 = 12 from rfl, em10, em12, List.cons_append, List.nil_append, show ((1 + 1) * 8 + 5) / 6 = 3 from rfl, List.take_succ_cons, List.take_zero]
    congr 1
    · omega
    · congr 1
      · omega
      · congr 1; omega
  | 0, x :: y :: z :: r, a, hl => by simp at hl
  | n + 1, x :: y :: z :: r, a, hl => by
    have := UInt8.toNat_lt x; have := UInt8.toNat_lt y; have := UInt8.toNat_lt z
    have ih := encFrom_is n r ((((a * 2 ^ 8 + x.toNat) % 65536 * 2 ^ 8 + y.toNat) % 65536 * 2 ^ 8 + z.toNat) % 65536) (by simp only [List.length_cons] at hl; omega)
    have e : encFrom a (x :: y :: z :: r) = [x.toNat / 4, x.toNat % 4 * 16 + y.toNat / 16, y.toNat % 16 * 4 + z.toNat / 64, z.toNat % 64] ++ encFrom ((((a * 2 ^ 8 + x.toNat) % 65536 * 2 ^ 8 + y.toNat) % 65536 * 2 ^ 8 + z.toNat) % 65536) r := by
      simp only [encFrom, encSt, encGo, Nat.zero_add, show (8 : Nat) % 6 = 2 from rfl, show 2 + 8 = 10 from rfl, show (10 : Nat) % 6 = 4 from rfl, show 4 + 8 = 12 from rfl, show (12 : Nat) % 6 = 0 from rfl, em8, em10, em12]
      obtain ⟨p, hp⟩ : ∃ p, p = (a * 2 ^ 8 + x.toNat) % 65536 := ⟨_, rfl⟩
      have p1 : p % 256 = x.toNat := by omega
      have e1 : p / 4 % 64 = x.toNat / 4 := by omega
      rw [← hp]
      clear hp
      obtain ⟨q, hq⟩ : ∃ q, q = (p * 2 ^ 8 + y.toNat) % 65536 := ⟨_, rfl⟩
      have q1 : q = x.toNat * 256 + y.toNat := by omega
      have e2 : q / 16 % 64 = x.toNat % 4 * 16 + y.toNat / 16 := by omega
      rw [← hq]
      clear hq
      obtain ⟨u, hu⟩ : ∃ u, u = (q * 2 ^ 8 + z.toNat) % 65536 := ⟨_, rfl⟩
      have u1 : u = y.toNat * 256 + z.toNat := by omega
      have e3 : u / 64 % 64 = y.toNat % 16 * 4 + z.toNat / 64 := by omega
      have e4 : u % 64 = z.toNat % 64 := by omega
      rw [← hu, e1, e2, e3, e4]
      split <;> simp
    rw [e, encC, ← ih]
    simp only [List.length_cons]
    rw [show ((r.length + 1 + 1 + 1) * 8 + 5) / 6 = (r.length * 8 + 5) / 6 + 4 by omega]
    simp
theorem encT_is (l : List UInt8) : b64EncT l = (encC l).map letterC := by
  have := encFrom_is l.length l 0 (Nat.le_refl _)
  unfold b64EncT
  rw [← List.map_take]
  exact congrArg (List.map letterC) this
theorem b64_len (l : List UInt8) : (b64EncL l).length = (l.length + 2) / 3 * 4 := by
  unfold b64EncL
  rw [encT_is, List.length_append, List.length_replicate, List.length_map, encC_len _ _ (Nat.le_refl _)]
  obtain ⟨m, hm⟩ : ∃ m : Nat, m = (l.length * 8 + 5) / 6 := ⟨_, rfl⟩
  rw [← hm]; omega
end Go.Proofs.YtokkgjiofhhlkaaDoor.B64
namespace Go.Proofs.YtokkgjiofhhlkaaDoor.WordQ
open Go.RowKit Go.Lib Go.Proofs.YtokkgjiofhhlkaaDoor
set_option linter.unusedVariables false
def upW (c : UInt8) : UInt8 := if 97 ≤ c.toNat ∧ c.toNat ≤ 102 then UInt8.ofNat (c.toNat - 32) else c
theorem upper_e (c : UInt8) (w : World) : Calls Tryd.prog 52 #[.int .u8 (c.toNat : Int)] w fun e w' => e = .returned (.int .u8 ((upW c).toNat : Int)) ∧ w' = w := by
  have hc : c.toNat < 256 := UInt8.toNat_lt _
  by_cases h1 : 97 ≤ c.toNat
  · by_cases h2 : c.toNat ≤ 102
    · have e : (upW c).toNat = c.toNat - 32 := by
        unfold upW; rw [if_pos ⟨h1, h2⟩, UInt8.toNat_ofNat']; omega
      have HE := Lib.hid (show ((upW c).toNat : Int) = (c.toNat : Int) - 32 by omega)
      clear e
      go_enter Tryd.func52, Tryd.ntmps52
      go_wp2
      go_ret
      refine ⟨?_, rfl⟩
      rw [HE.out]
      refine congrArg (fun x => Ending.returned (Value.int IntKind.u8 x)) ?_
      first | (simp; done) | omega
    · have HE := Lib.hid (show upW c = c by unfold upW; rw [if_neg (by omega)])
      go_enter Tryd.func52, Tryd.ntmps52
      go_wp2
      go_ret
      exact ⟨by rw [HE.out]; rfl, rfl⟩
  · have HE := Lib.hid (show upW c = c by unfold upW; rw [if_neg (by omega)])
    go_enter Tryd.func52, Tryd.ntmps52
    go_wp2
    go_ret
    exact ⟨by rw [HE.out]; rfl, rfl⟩
def digitsB : ByteArray := ⟨#[48, 49, 50, 51, 52, 53, 54, 55, 56, 57, 65, 66, 67, 68, 69, 70]⟩
def hexW (c : UInt8) : Int := indexByte digitsB.data.toList (upW c)
theorem hexW_all : ∀ c : Fin 256, hexW (UInt8.ofNat c.val) = -1 ∨ (0 ≤ hexW (UInt8.ofNat c.val) ∧ hexW (UInt8.ofNat c.val) < 16) := by decide +kernel
theorem hexW_r (c : UInt8) : hexW c = -1 ∨ (0 ≤ hexW c ∧ hexW c < 16) := by
  have := hexW_all ⟨c.toNat, UInt8.toNat_lt c⟩
  simpa using this
theorem index_digits (c : UInt8) (W : World) : Calls Tryd.prog 51 #[.string (⟨#[48, 49, 50, 51, 52, 53, 54, 55, 56, 57, 65, 66, 67, 68, 69, 70]⟩ : ByteArray), .int .u8 ((upW c).toNat : Int)] W fun e w' => e = .returned (.int .i64 (hexW c)) ∧ w' = W :=
  (Tryd.strings_IndexByte digitsB ((upW c).toNat : Int) W).mono (by
    rintro e w' ⟨rfl, rfl⟩
    refine ⟨?_, rfl⟩
    unfold hexW
    rw [show (((upW c).toNat : Int)).toNat.toUInt8 = upW c by simp])
theorem hex_or : ∀ a b : Fin 16, bits .or .i64 (wrap64 ((a.val : Int) * 16)) (b.val : Int) = ((16 * a.val + b.val : Nat) : Int) := by decide +kernel
def quotedL : List UInt8 → List UInt8
  | [] => []
  | [c] => [if c = 95 then 32 else c]
  | [c, d] => (if c = 95 then 32 else c) :: quotedL [d]
  | c :: a :: b :: r =>
    if c = 61 ∧ 0 ≤ hexW a ∧ 0 ≤ hexW b then UInt8.ofNat (16 * (hexW a).toNat + (hexW b).toNat) :: quotedL r
    else (if c = 95 then 32 else c) :: quotedL (a :: b :: r)
theorem quoted_len : ∀ (n : Nat) (l : List UInt8), l.length ≤ n → (quotedL l).length ≤ l.length
  | 0, l, h => by
    obtain rfl : l = [] := List.length_eq_zero_iff.1 (by omega)
    simp [quotedL]
  | n + 1, [], h => by simp [quotedL]
  | n + 1, [c], h => by simp [quotedL]
  | n + 1, [c, d], h => by simp [quotedL]
  | n + 1, c :: a :: b :: r, h => by
    simp only [quotedL]
    simp only [List.length_cons] at h
    split
    · have := quoted_len n r (by omega)
      simp only [List.length_cons]; omega
    · have := quoted_len n (a :: b :: r) (by simp only [List.length_cons]; omega)
      simp only [List.length_cons] at this ⊢; omega
end Go.Proofs.YtokkgjiofhhlkaaDoor.WordQ
namespace Go.Proofs.YtokkgjiofhhlkaaDoor.WordL
open Go.RowKit Go.Lib Go.Proofs.YtokkgjiofhhlkaaDoor Go.Proofs.YtokkgjiofhhlkaaDoor.Pure
set_option linter.unusedVariables false
set_option linter.unusedSimpArgs false
def white (c : UInt8) : Bool := [32, 9, 10, 13].contains c
def begins (l : List UInt8) : Bool := hasPrefix l [61, 63]
def oneL (l : List UInt8) : List UInt8 × Nat :=
  if begins l = true ∧ (cutL 63 (l.drop 2)).2.2 = true ∧ (cutL 63 (cutL 63 (l.drop 2)).2.1).2.2 = true ∧ (cutL 63 (cutL 63 (cutL 63 (l.drop 2)).2.1).2.1).2.2 = true
      ∧ hasPrefix (cutL 63 (cutL 63 (cutL 63 (l.drop 2)).2.1).2.1).2.1 [61] = true ∧ 1 ≤ (cutL 63 (l.drop 2)).1.length ∧ (cutL 63 (l.drop 2)).1.length ≤ 40
      ∧ ((cutL 63 (l.drop 2)).1 ++ (cutL 63 (cutL 63 (l.drop 2)).2.1).1 ++ (cutL 63 (cutL 63 (cutL 63 (l.drop 2)).2.1).2.1).1).any white = false
      ∧ (knownL (labelL ⟨(cutL 42 (cutL 63 (l.drop 2)).1).1.toArray⟩)).2 = true then
    if (cutL 63 (cutL 63 (l.drop 2)).2.1).1 = [66] ∨ (cutL 63 (cutL 63 (l.drop 2)).2.1).1 = [98] then
      (decL (knownL (labelL ⟨(cutL 42 (cutL 63 (l.drop 2)).1).1.toArray⟩)).1 (B64.b64DecL (cutL 63 (cutL 63 (cutL 63 (l.drop 2)).2.1).2.1).1), l.length - ((cutL 63 (cutL 63 (cutL 63 (l.drop 2)).2.1).2.1).2.1.length - 1))
    else if (cutL 63 (cutL 63 (l.drop 2)).2.1).1 = [81] ∨ (cutL 63 (cutL 63 (l.drop 2)).2.1).1 = [113] then
      (decL (knownL (labelL ⟨(cutL 42 (cutL 63 (l.drop 2)).1).1.toArray⟩)).1 (WordQ.quotedL (cutL 63 (cutL 63 (cutL 63 (l.drop 2)).2.1).2.1).1), l.length - ((cutL 63 (cutL 63 (cutL 63 (l.drop 2)).2.1).2.1).2.1.length - 1))
    else ([], 0)
  else ([], 0)
theorem one_none (l : List UInt8) (h : begins l = false) : oneL l = ([], 0) := by
  unfold oneL; rw [if_neg (by rw [h]; simp)]
theorem one_le (l : List UInt8) : (oneL l).2 ≤ l.length := by
  unfold oneL; split
  · split
    · exact Nat.sub_le _ _
    · split
      · exact Nat.sub_le _ _
      · exact Nat.zero_le _
  · exact Nat.zero_le _
theorem begins_cons (a b : UInt8) (r : List UInt8) : begins (a :: b :: r) = (a == 61 && b == 63) := by
  simp only [begins, hasPrefix, List.isPrefixOf]
  rw [Bool.beq_comm (a := (61 : UInt8)), Bool.beq_comm (a := (63 : UInt8))]; simp
theorem begins_one (a : UInt8) : begins [a] = false := by simp [begins, hasPrefix, List.isPrefixOf]
theorem begins_split {l : List UInt8} (h : begins l = true) : ∃ r, l = 61 :: 63 :: r := by
  match l with
  | [] => simp [begins, hasPrefix, List.isPrefixOf] at h
  | [a] => rw [begins_one] at h; simp at h
  | a :: b :: r =>
    rw [begins_cons] at h; simp at h
    exact ⟨r, by rw [h.1, h.2]⟩
def wordGo : Nat → List UInt8 → Bool → List UInt8 → List UInt8
  | 0, p, _, _ => vl p
  | n + 1, p, b, l =>
    match l with
    | [] => vl p
    | c :: r => if (oneL (c :: r)).2 = 0 then wordGo n (p ++ [c]) b r
      else (if (b && p.all white) = true then [] else vl p) ++ (oneL (c :: r)).1 ++ wordGo n [] true ((c :: r).drop (oneL (c :: r)).2)
theorem wordGo_more : ∀ (n : Nat) (p : List UInt8) (b : Bool) (l : List UInt8), l.length ≤ n → ∀ m, n ≤ m → wordGo m p b l = wordGo n p b l := by
  intro n
  induction n with
  | zero =>
    intro p b l h m _
    obtain rfl := List.eq_nil_of_length_eq_zero (by omega : l.length = 0)
    cases m <;> rfl
  | succ n ih =>
    intro p b l h m hm
    obtain ⟨m, rfl⟩ : ∃ k, m = k + 1 := ⟨m - 1, by omega⟩
    match l with
    | [] => rfl
    | c :: r =>
      simp only [List.length_cons] at h
      simp only [wordGo]
      by_cases h0 : (oneL (c :: r)).2 = 0
      · rw [if_pos h0, if_pos h0, ih _ _ _ (by omega) m (by omega)]
      · rw [if_neg h0, if_neg h0, ih _ _ _ (by simp only [List.length_drop, List.length_cons]; omega) m (by omega)]
def wordF (p : List UInt8) (b : Bool) (l : List UInt8) : List UInt8 := wordGo l.length p b l
def wordL (l : List UInt8) : List UInt8 := wordF [] false l
theorem wordF_nil (p : List UInt8) (b : Bool) : wordF p b [] = vl p := rfl
theorem wordF_no (p : List UInt8) (b : Bool) (c : UInt8) (r : List UInt8) (h : (oneL (c :: r)).2 = 0) : wordF p b (c :: r) = wordF (p ++ [c]) b r := by
  simp only [wordF, List.length_cons, wordGo]; rw [if_pos h]
theorem wordF_yes (p : List UInt8) (b : Bool) (l : List UInt8) (h : ¬ (oneL l).2 = 0) :
    wordF p b l = (if (b && p.all white) = true then [] else vl p) ++ (oneL l).1 ++ wordF [] true (l.drop (oneL l).2) := by
  match l with
  | [] => exact absurd (by have := one_le []; simpa using this) h
  | c :: r =>
    simp only [wordF, List.length_cons, wordGo]
    rw [if_neg h, wordGo_more ((c :: r).drop (oneL (c :: r)).2).length _ _ _ (Nat.le_refl _) r.length (by simp only [List.length_drop, List.length_cons]; omega)]
theorem wordF_skip : ∀ (i : Nat) (p : List UInt8) (b : Bool) (l : List UInt8), i ≤ l.length → (∀ j, j < i → begins (l.drop j) = false) → wordF p b l = wordF (p ++ l.take i) b (l.drop i)
  | 0, p, b, l, _, _ => by simp
  | i + 1, p, b, [], h, _ => by simp at h
  | i + 1, p, b, c :: r, h, hn => by
    rw [wordF_no p b c r (by rw [one_none _ (by simpa using hn 0 (by omega))])]
    rw [wordF_skip i (p ++ [c]) b r (by simp only [List.length_cons] at h; omega) (fun j hj => by have := hn (j + 1) (by omega); simpa using this)]
    simp
theorem wordF_plain (p : List UInt8) (b : Bool) (l : List UInt8) (h : ∀ j, j < l.length → begins (l.drop j) = false) : wordF p b l = vl (p ++ l) := by
  rw [wordF_skip l.length p b l (Nat.le_refl _) h]; simp [wordF_nil]
theorem index_begins : ∀ l : List UInt8, (∀ i : Nat, index l [61, 63] = (i : Int) → i < l.length ∧ begins (l.drop i) = true ∧ ∀ j, j < i → begins (l.drop j) = false) ∧ (index l [61, 63] < 0 → ∀ j, j < l.length → begins (l.drop j) = false)
  | [] => by
    constructor
    · intro i h
      have e : index [] [61, 63] = -1 := by decide
      rw [e] at h; omega
    · intro _ j hj; simp at hj
  | c :: r => by
    obtain ⟨h1, h2⟩ := index_begins r
    by_cases hb : begins (c :: r) = true
    · have e : index (c :: r) [61, 63] = 0 := by
        have : [61, 63].isPrefixOf (c :: r) = true := hb
        simp only [index, this, if_true]
      refine ⟨fun i hi => ?_, fun h => by omega⟩
      obtain rfl : i = 0 := by omega
      exact ⟨by simp, by simpa using hb, fun j hj => by omega⟩
    · have hb2 : [61, 63].isPrefixOf (c :: r) = false := Bool.eq_false_iff.2 hb
      have hb3 : begins (c :: r) = false := hb2
      by_cases hr : index r [61, 63] = -1
      · have e : index (c :: r) [61, 63] = -1 := by
          simp only [index, hb2, hr]; simp
        refine ⟨fun i hi => by omega, fun _ j hj => ?_⟩
        cases j with
        | zero => simpa using hb3
        | succ j => simpa using h2 (by omega) j (by simp only [List.length_cons] at hj; omega)
      · have e : index (c :: r) [61, 63] = index r [61, 63] + 1 := by
          simp only [index, hb2]; simp [hr]
        have hge : -1 ≤ index r [61, 63] := index_ge _ _
        refine ⟨fun i hi => ?_, fun h => by omega⟩
        obtain ⟨k, rfl⟩ : ∃ k, i = k + 1 := ⟨i - 1, by omega⟩
        obtain ⟨a1, a2, a3⟩ := h1 k (by omega)
        refine ⟨by simp only [List.length_cons]; omega, by simpa using a2, fun j hj => ?_⟩
        cases j with
        | zero => simpa using hb3
        | succ j => simpa using a3 j (by omega)
def okC (c : UInt8) : Bool := decide (32 ≤ c.toNat ∧ c.toNat ≤ 126)
def plainE (l : List UInt8) : Bool := decide (index l [61, 63] < 0) && l.all okC
def chunk : Nat → List UInt8 → Nat → Nat
  | 0, _, n => n
  | f + 1, l, n => if l = [] then n else if 30 < n + (uDec l).2 then n else chunk f (l.drop (uDec l).2) (n + (uDec l).2)
theorem chunk_more : ∀ (f : Nat) (l : List UInt8) (n : Nat), l.length ≤ f → ∀ g, f ≤ g → chunk g l n = chunk f l n := by
  intro f
  induction f with
  | zero =>
    intro l n h g _
    obtain rfl := List.eq_nil_of_length_eq_zero (by omega : l.length = 0)
    cases g <;> simp [chunk]
  | succ f ih =>
    intro l n h g hg
    obtain ⟨g, rfl⟩ : ∃ k, g = k + 1 := ⟨g - 1, by omega⟩
    simp only [chunk]
    by_cases h0 : l = []
    · rw [if_pos h0, if_pos h0]
    · rw [if_neg h0, if_neg h0]
      have := dec_width l h0
      rw [ih _ _ (by rw [List.length_drop]; omega) g (by omega)]
theorem chunk_bd : ∀ (f : Nat) (l : List UInt8) (n : Nat), n ≤ chunk f l n ∧ chunk f l n ≤ n + l.length
  | 0, l, n => by simp [chunk]
  | f + 1, l, n => by
    simp only [chunk]
    split
    · omega
    · rename_i h0
      split
      · omega
      · have := dec_width l h0
        have ih := chunk_bd f (l.drop (uDec l).2) (n + (uDec l).2)
        rw [List.length_drop] at ih
        omega
theorem width4 (l : List UInt8) (h : l ≠ []) : (uDec l).2 ≤ 4 := by
  rcases dec_cases l h with ⟨_, h, _⟩ | ⟨_, _, h, _⟩
  · rw [h]; decide
  · exact h
theorem chunk_pos (f : Nat) (l : List UInt8) (h : l ≠ []) (hf : l.length ≤ f) : 1 ≤ chunk f l 0 := by
  obtain ⟨g, rfl⟩ : ∃ k, f = k + 1 := ⟨f - 1, by have := List.length_pos_iff.2 h; omega⟩
  have := width4 l h
  have hw := dec_width l h
  simp only [chunk]
  rw [if_neg h, if_neg (by omega)]
  have := (chunk_bd g (l.drop (uDec l).2) (0 + (uDec l).2)).1
  omega
def chunks : Nat → List UInt8 → List (List UInt8)
  | 0, _ => []
  | f + 1, l => if l = [] then [] else l.take (chunk l.length l 0) :: chunks f (l.drop (chunk l.length l 0))
theorem chunks_more : ∀ (f : Nat) (l : List UInt8), l.length ≤ f → ∀ g, f ≤ g → chunks g l = chunks f l := by
  intro f
  induction f with
  | zero =>
    intro l h g _
    obtain rfl := List.eq_nil_of_length_eq_zero (by omega : l.length = 0)
    cases g <;> simp [chunks]
  | succ f ih =>
    intro l h g hg
    obtain ⟨g, rfl⟩ : ∃ k, g = k + 1 := ⟨g - 1, by omega⟩
    simp only [chunks]
    by_cases h0 : l = []
    · rw [if_pos h0, if_pos h0]
    · rw [if_neg h0, if_neg h0]
      have := chunk_pos l.length l h0 (Nat.le_refl _)
      rw [ih _ (by rw [List.length_drop]; omega) g (by omega)]
def wordOf (x : List UInt8) : List UInt8 := [61, 63, 117, 116, 102, 45, 56, 63, 66, 63] ++ B64.b64EncL x ++ [63, 61]
def wordsL (l : List UInt8) : List (List UInt8) := (chunks l.length l).map wordOf
def encL (l : List UInt8) : List UInt8 := if plainE l = true then l else [32].intercalate (wordsL (vl l))
theorem cut_at (c : UInt8) (a r : List UInt8) (h : c ∉ a) : cutL c (a ++ c :: r) = (a, r, true) := by
  unfold cutL
  rw [if_pos (by simp)]
  have ht : (a ++ c :: r).takeWhile (· != c) = a := by
    rw [List.takeWhile_append_of_pos (fun x hx => by simp only [bne_iff_ne]; rintro rfl; exact h hx)]
    simp
  have hd : (a ++ c :: r).dropWhile (· != c) = c :: r := by
    rw [List.dropWhile_append_of_pos (fun x hx => by simp only [bne_iff_ne]; rintro rfl; exact h hx)]
    simp
  rw [ht, hd]; rfl
theorem wordOf_len (x : List UInt8) : (wordOf x).length = 12 + (B64.b64EncL x).length := by
  unfold wordOf; simp only [List.length_append, List.length_cons, List.length_nil]; omega
theorem inter_cons (w v : List UInt8) (r : List (List UInt8)) : [32].intercalate (w :: v :: r) = w ++ 32 :: [32].intercalate (v :: r) := by
  simp [List.intercalate]
theorem inter_one (w : List UInt8) : [32].intercalate [w] = w := by simp [List.intercalate]
theorem inter_nil : [32].intercalate ([] : List (List UInt8)) = [] := by simp [List.intercalate]
theorem vl_ne (l : List UInt8) (h : l ≠ []) : vl l ≠ [] := by
  intro e
  have hp := List.length_pos_iff.2 h
  unfold vl at e
  obtain ⟨n, hn⟩ : ∃ n, l.length = n + 1 := ⟨l.length - 1, by omega⟩
  rw [hn] at e
  simp only [valL, if_neg h] at e
  exact enc_ne _ (List.append_eq_nil_iff.1 e).1
theorem plainE_not {l : List UInt8} (h : ¬ plainE l = true) : l ≠ [] := by
  rintro rfl
  exact h (by decide)
end Go.Proofs.YtokkgjiofhhlkaaDoor.WordL
namespace Go.Proofs.YtokkgjiofhhlkaaDoor.WordQ
open Go.RowKit Go.Lib Go.Proofs.YtokkgjiofhhlkaaDoor Go.Proofs.YtokkgjiofhhlkaaDoor.Pure
set_option linter.unusedVariables false
set_option linter.unusedSimpArgs false
theorem drop1 (t : ByteArray) : (t.extract 1 t.size).data.toList = t.data.toList.drop 1 := by
  rw [extract_list, List.take_of_length_le (by simp)]
set_option maxRecDepth 100000 in
set_option maxHeartbeats 8000000 in
theorem quoted_c (s : ByteArray) (hs : s.size ≤ 1100000) (w : World) :
    Calls Tryd.prog 24 #[.string s] w fun e w' => e = .returned (.string ⟨(quotedL s.data.toList).toArray⟩) ∧ Below w.heap.size w w' := by
  have WB : ∀ (acc : List UInt8) (x : UInt8) (W : World), IsBuilderF 39 5 w.heap.size w.heap.size (byteCells acc) W → acc.length ≤ 2200000 → w.heap.size ≤ W.heap.size →
      Calls Tryd.prog 53 #[.pointer (some ⟨w.heap.size, 0, none⟩), .int .u8 (x.toNat : Int)] W fun e w' => e = .returned .nilIface ∧ (IsBuilderF 39 5 w.heap.size w.heap.size (byteCells (acc ++ [x])) w' ∧ Below w.heap.size W w') := by
    intro acc x W h h1 h2
    refine (Bld.WriteByte_k _ _ _ (x.toNat : Int) W h (by simp [byteCells]; omega) h2).mono ?_
    rintro e w' ⟨rfl, k1, k2, _⟩
    exact ⟨rfl, by simpa [byteCells] using k1, k2⟩
  have HWB := Lib.hid WB
  clear WB
  go_enter Tryd.func24, Tryd.ntmps24
  go_wp2
  go_loopw [0] (fun v wr => ∃ (t : ByteArray) (acc : List UInt8), v = .string t ∧ t.size ≤ s.size ∧ acc ++ quotedL t.data.toList = quotedL s.data.toList ∧ acc.length + t.size ≤ s.size ∧ IsBuilderF 39 5 w.heap.size w.heap.size (byteCells acc) wr ∧ Below w.heap.size w wr) (fun v _ => match v with | .string t => t.size | _ => 0)
  case atStart => exact ⟨s, [], rfl, Nat.le_refl _, rfl, by simp, IsBuilderF.of (Lib.fresh_isBuilder 39 5 w), (Below.refl _ w).alloc (Nat.le_refl _) _⟩
  case round =>
    obtain ⟨t, acc, rfl, hts, he, hal, hI, hB⟩ := hrel
    have HI := Lib.hid hI; have HB := Lib.hid hB; have HE := Lib.hid he
    clear hI hB he
    have hlt : t.data.toList.length = t.size := by simp
    have HLT := Lib.hid hlt
    clear hlt
    by_cases ht : t.size = 0
    · have hnil : t.data.toList = [] := List.length_eq_zero_iff.1 (by rw [HLT.out]; exact ht)
      have htl : t.toList = [] := by rw [toList_eq]; exact hnil
      have he2 : acc = quotedL s.data.toList := by have := HE.out; rw [hnil] at this; simpa [quotedL] using this
      have HE2 := Lib.hid he2
      have hsz : w.heap.size ≤ wr.heap.size := HB.out.size
      clear he2 hnil
      go_wp2_with (go_at_call 34; refine (Tryd.Builder_String_any_k w.heap.size w.heap.size acc _ HI.out hsz).mono ?_; rintro e W1 ⟨rfl, _, b1, _⟩; have HB1 := Lib.hid b1; clear b1)
      go_ret
      exact ⟨by rw [← HE2.out]; rfl, HB.out.trans HB1.out⟩
    · have hne : ¬ t.toList = [] := by
        rw [toList_eq]; intro e; have := HLT.out; rw [e] at this; simp at this; omega
      have hem : t.toList.isEmpty = false := by cases h : t.toList with
        | nil => exact absurd h hne
        | cons x y => rfl
      have hsz : w.heap.size ≤ wr.heap.size := HB.out.size
      obtain ⟨c, r, hcr⟩ : ∃ c r, t.data.toList = c :: r := by
        cases h : t.data.toList with
        | nil => have := HLT.out; rw [h] at this; simp at this; omega
        | cons c r => exact ⟨c, r, rfl⟩
      have hr : (t.extract 1 t.size).data.toList = r := by rw [drop1, hcr]; rfl
      have hrz : (t.extract 1 t.size).size = t.size - 1 := by simp
      have hp0 : 0 < t.size := by omega
      have hp1 : 1 ≤ t.size := by omega
      have h0 : t[0] = c := by
        have h1 : t.data.toList[0]'(by rw [hcr]; simp) = c := by simp [hcr]
        exact h1
      have HCR := Lib.hid hcr; have HR := Lib.hid hr
      clear hcr hr
      have hc : c.toNat < 256 := UInt8.toNat_lt _
      by_cases h95 : c.toNat = 95
      · have hq : quotedL (c :: r) = 32 :: quotedL r := by
          have e : c = 95 := UInt8.toNat_inj.1 h95
          subst e
          match r with
          | [] => rfl
          | [d] => rfl
          | a :: b :: r' => simp only [quotedL]; rw [if_neg (by simp)]; rfl
        have HQ := Lib.hid hq
        clear hq
        go_wp2_with (go_at_call 53; refine (HWB.out acc 32 _ HI.out (by omega) HB.out.size).mono ?_; rintro e W1 ⟨rfl, k1, k2⟩; have HK1 := Lib.hid k1; have HK2 := Lib.hid k2; clear k1 k2)
        go_roundw
        case rel =>
          refine ⟨_, acc ++ [32], rfl, by omega, ?_, by rw [List.length_append, hrz]; simp; omega, HK1.out, HB.out.trans HK2.out⟩
          rw [← HE.out, HCR.out, HQ.out, HR.out]; simp
        case measure => simp only [hrz]; omega
      · have hc95 : ¬ c = 95 := fun e => h95 (by rw [e]; rfl)
        by_cases h61 : c.toNat = 61
        · obtain rfl : c = 61 := UInt8.toNat_inj.1 h61
          clear h61 hc h95
          have w61 : ∀ (W : World), IsBuilderF 39 5 w.heap.size w.heap.size (byteCells acc) W → w.heap.size ≤ W.heap.size → Calls Tryd.prog 53 #[.pointer (some ⟨w.heap.size, 0, none⟩), .int .u8 61] W fun e w' => e = .returned .nilIface ∧ (IsBuilderF 39 5 w.heap.size w.heap.size (byteCells (acc ++ [61])) w' ∧ Below w.heap.size W w') := fun W h1 h2 => HWB.out acc 61 W h1 (by omega) h2
          have W61 := Lib.hid w61
          clear w61
          obtain ⟨u, hu⟩ : ∃ u, t.extract 1 t.size = u := ⟨_, rfl⟩
          have hrl : r.length = u.size := by rw [← HR.out, hu]; simp
          have hts2 : t.size = u.size + 1 := by rw [← hu]; simp; omega
          have HRL := Lib.hid hrl; have HTS := Lib.hid hts2
          have hru : u.data.toList = r := by rw [← hu]; exact HR.out
          have HRU := Lib.hid hru
          clear hrl hts2 hru HR hrz
          by_cases hl2 : u.size ≤ 1
          · have hq : quotedL (61 :: r) = 61 :: quotedL r := by
              match r, HRL.out with
              | [], _ => simp [quotedL, hc95]
              | [d], _ => simp [quotedL, hc95]
              | a :: b :: r', h => simp only [List.length_cons] at h; omega
            have HQ := Lib.hid hq
            have hg : ¬ (1 : Int) < (u.size : Int) := by omega
            have hg2 : ¬ 1 < u.size := by omega
            clear hq
            go_wp2_with (go_at_call 53; refine (W61.out _ HI.out HB.out.size).mono ?_; rintro e W1 ⟨rfl, k1, k2⟩; have HK1 := Lib.hid k1; have HK2 := Lib.hid k2; clear k1 k2)
            go_roundw
            case rel =>
              have := HTS.out
              refine ⟨_, acc ++ [61], rfl, by omega, ?_, by rw [List.length_append]; simp; omega, HK1.out, HB.out.trans HK2.out⟩
              rw [← HE.out, HCR.out, HQ.out, HRU.out]; simp
            case measure => have := HTS.out; simp only; omega
          · obtain ⟨a, b, r', rfl⟩ : ∃ a b r', r = a :: b :: r' := by
              match r, HRL.out with
              | [], h => simp only [List.length_nil] at h; omega
              | [d], h => simp only [List.length_cons, List.length_nil] at h; omega
              | a :: b :: r', _ => exact ⟨a, b, r', rfl⟩
            have hg : (1 : Int) < (u.size : Int) := by omega
            have hg2 : 1 < u.size := by omega
            have hg3 : 0 < u.size := by omega
            have hg4 : 2 ≤ u.size := by omega
            have hg5 : (2 : Int) ≤ (u.size : Int) := by omega
            have hg6 : (0 : Int) < (u.size : Int) := by omega
            have u0 : u[0] = a := by
              have h1 : u.data.toList[0]'(by rw [HRU.out]; simp) = a := by simp [HRU.out]
              exact h1
            have u1 : u[1] = b := by
              have h1 : u.data.toList[1]'(by rw [HRU.out]; simp) = b := by simp [HRU.out]
              exact h1
            have UA := Lib.hid (upper_e a); have UB := Lib.hid (upper_e b)
            have IA := Lib.hid (index_digits a); have IB := Lib.hid (index_digits b)
            have hxa := hexW_r a; have hxb := hexW_r b
            have hqq : quotedL (61 :: a :: b :: r') = if 0 ≤ hexW a ∧ 0 ≤ hexW b then UInt8.ofNat (16 * (hexW a).toNat + (hexW b).toNat) :: quotedL r' else 61 :: quotedL (a :: b :: r') := by
              simp only [quotedL]
              by_cases hh : 0 ≤ hexW a ∧ 0 ≤ hexW b
              · rw [if_pos ⟨trivial, hh⟩, if_pos hh]
              · rw [if_neg (fun h => hh h.2), if_neg hh, if_neg hc95]
            have HQQ := Lib.hid hqq
            clear hqq
            generalize hexW a = xa at *
            generalize hexW b = xb at *
            go_upto_region 8 with fail
            go_quiet ((first
              | (go_at_call 52; first | ((with_reducible refine (UA.out _).mono ?_); rintro e W ⟨rfl, rfl⟩; exact ⟨rfl, _, rfl⟩) | ((with_reducible refine (UB.out _).mono ?_); rintro e W ⟨rfl, rfl⟩; exact ⟨rfl, _, rfl⟩))
              | (go_at_call 51; first | ((with_reducible refine (IA.out _).mono ?_); rintro e W ⟨rfl, rfl⟩; exact ⟨rfl, _, rfl⟩) | ((with_reducible refine (IB.out _).mono ?_); rintro e W ⟨rfl, rfl⟩; exact ⟨rfl, _, rfl⟩))))
            rename_i nq
            have hI4 := IsBuilderF.below (W' := wr.drewN nq) HI.out (bdrewN (Below.refl _ _) nq)
            have hB4 : Below w.heap.size w (wr.drewN nq) := bdrewN HB.out nq
            have hS4 : w.heap.size ≤ (wr.drewN nq).heap.size := hB4.size
            generalize wr.drewN nq = W0 at *
            have HI4 := Lib.hid hI4; have HB4 := Lib.hid hB4
            clear hI4 hB4
            have key : ¬ (0 ≤ xa ∧ 0 ≤ xb) → acc ++ [61] ++ quotedL u.data.toList = quotedL s.data.toList := by
              intro hn
              rw [← HE.out, HCR.out, HQQ.out, if_neg hn, HRU.out]; simp
            have KEY := Lib.hid key
            clear key
            rcases hxa with rfl | ⟨hxa0, hxa1⟩
            · go_wp2_with (go_at_call 53; refine (W61.out _ HI4.out HB4.out.size).mono ?_; rintro e W1 ⟨rfl, k1, k2⟩; have HK1 := Lib.hid k1; have HK2 := Lib.hid k2; clear k1 k2)
              go_roundw
              case rel =>
                have := HTS.out
                exact ⟨_, acc ++ [61], rfl, by omega, KEY.out (by omega), by rw [List.length_append]; simp; omega, HK1.out, HB4.out.trans HK2.out⟩
              case measure => have := HTS.out; simp only; omega
            · rcases hxb with rfl | ⟨hxb0, hxb1⟩
              · go_wp2_with (go_at_call 53; refine (W61.out _ HI4.out HB4.out.size).mono ?_; rintro e W1 ⟨rfl, k1, k2⟩; have HK1 := Lib.hid k1; have HK2 := Lib.hid k2; clear k1 k2)
                go_roundw
                case rel =>
                  have := HTS.out
                  exact ⟨_, acc ++ [61], rfl, by omega, KEY.out (by omega), by rw [List.length_append]; simp; omega, HK1.out, HB4.out.trans HK2.out⟩
                case measure => have := HTS.out; simp only; omega
              · obtain ⟨p, rfl⟩ : ∃ p : Nat, xa = (p : Int) := ⟨xa.toNat, by omega⟩
                obtain ⟨q, rfl⟩ : ∃ q : Nat, xb = (q : Int) := ⟨xb.toNat, by omega⟩
                have hor : bits .or .i64 (wrap64 ((p : Int) * 16)) (q : Int) = ((16 * p + q : Nat) : Int) := hex_or ⟨p, by omega⟩ ⟨q, by omega⟩
                have hpq : ((16 * p + q : Nat) : Int) < 256 := by omega
                have hpq0 : (0 : Int) ≤ ((16 * p + q : Nat) : Int) := by omega
                obtain ⟨x, hx⟩ : ∃ x : UInt8, x.toNat = 16 * p + q := ⟨UInt8.ofNat (16 * p + q), by rw [UInt8.toNat_ofNat']; omega⟩
                have hqe : acc ++ [x] ++ quotedL r' = quotedL s.data.toList := by
                  have e : UInt8.ofNat (16 * ((p : Int)).toNat + ((q : Int)).toNat) = x := by
                    apply UInt8.toNat_inj.1
                    rw [hx, UInt8.toNat_ofNat']; simp only [Int.toNat_natCast]; omega
                  rw [← HE.out, HCR.out, HQQ.out, if_pos ⟨hxa0, hxb0⟩, e]; simp
                have HQE := Lib.hid hqe
                clear hqe
                have HC : Hid (bits .or .i64 ((p : Int) * 16) (q : Int) % 256 = (x.toNat : Int)) := Lib.hid (by rw [show ((p : Int) * 16) = wrap64 ((p : Int) * 16) by unfold wrap64; omega, hor, hx]; omega)
                clear hor hpq hpq0
                have HX := Lib.hid hx
                clear hx
                go_upto_region 10 with fail
                go_quiet (fail)
                have hdr : (u.extract 2 u.size).data.toList = r' := by
                  rw [extract_list, List.take_of_length_le (by simp), HRU.out]; rfl
                have hdz : (u.extract 2 u.size).size = u.size - 2 := by simp
                go_wp2_with fail
                rw [HC.out]
                refine (HWB.out acc x _ (IsBuilderF.below HI4.out (bdrewN (Below.refl _ _) nq)) (by omega) HB4.out.size).mono ?_
                rintro e W1 ⟨rfl, k1, k2⟩
                have HK1 := Lib.hid k1; have HK2 := Lib.hid k2
                clear k1 k2
                go_wp2_with fail
                go_roundw
                case rel =>
                  have := HTS.out
                  exact ⟨_, acc ++ [x], rfl, by omega, by rw [hdr]; exact HQE.out, by rw [List.length_append, hdz]; simp; omega, HK1.out, HB4.out.trans (bdrewN (Below.refl _ _) nq |>.trans HK2.out)⟩
                case measure => have := HTS.out; simp only; omega
        · have hq : quotedL (c :: r) = c :: quotedL r := by
            have e : ¬ c = 61 := fun e => h61 (by rw [e]; rfl)
            match r with
            | [] => simp [quotedL, hc95]
            | [d] => simp [quotedL, hc95]
            | a :: b :: r' => simp only [quotedL]; rw [if_neg (fun h => e h.1), if_neg hc95]
          have HQ := Lib.hid hq
          clear hq
          go_wp2_with (go_at_call 53; refine (HWB.out acc c _ HI.out (by omega) HB.out.size).mono ?_; rintro e W1 ⟨rfl, k1, k2⟩; have HK1 := Lib.hid k1; have HK2 := Lib.hid k2; clear k1 k2)
          go_roundw
          case rel =>
            refine ⟨_, acc ++ [c], rfl, by omega, ?_, by rw [List.length_append, hrz]; simp; omega, HK1.out, HB.out.trans HK2.out⟩
            rw [← HE.out, HCR.out, HQ.out, HR.out]; simp
          case measure => simp only [hrz]; omega
end Go.Proofs.YtokkgjiofhhlkaaDoor.WordQ
