/- Parts of the proof of the law AddrBack, in one text: B64a, B64c, B64d, B64e, B64p, WordQ, C0, C1, PureChars, PureKnown, PureDec, WordL, WordQ2, Alph, WordO, WordD, WordE, AddrH, AddrI. -/
import Derived.Test.YtpcncpegbboljaaGreatDoorMgAddrBack0
import Derived.Lib.IndexMore
import Derived.Shelf.Spec.BytesMap
set_option linter.unusedVariables false
set_option linter.unusedSimpArgs false
namespace Go.Proofs.YtpcncpegbboljaaGreatDoor.B64
open Go.RowKit Go.Lib Go.Proofs.YtpcncpegbboljaaGreatDoor Go.Proofs.YtpcncpegbboljaaGreatDoor.Row
set_option linter.unusedVariables false
set_option linter.unusedSimpArgs false
set_option maxRecDepth 100000 in
set_option maxHeartbeats 8000000 in
theorem gat6_c (B E M L : Nat) (K : List Nat → World → Prop) (S : Sink B E 123 8 K (L + 2)) (l : List Nat) (a b n : Nat) (w : World)
    (hK : K l w) (hG : Gat M 6 8 (outV 123 E) a b w) (ha : a < 65536) (hb : b < 8) (hn : n < 2 ^ 6) (hl : l.length ≤ L) (hE : E < M) (hB : B ≤ E) (hBW : B ≤ w.heap.size) :
    Calls Tryz.prog 110 #[.int .i64 (n : Int), .pointer (some ⟨M + 3, 0, none⟩), .pointer (some ⟨M, 0, none⟩), .pointer (some ⟨M + 4, 0, none⟩), .pointer (some ⟨M + 1, 0, none⟩), .pointer (some ⟨M + 2, 0, none⟩)] w
      fun e w' => e = .returned (.int .i64 (((b + 6) % 8 : Nat) : Int)) ∧ K (l ++ emit 8 ((a * 2 ^ 6 + n) % 65536) 2 (b + 6)) w' ∧ Gat M 6 8 (outV 123 E) (((a * 2 ^ 6 + n) % 65536 : Nat) : Int) (((b + 6) % 8 : Nat) : Int) w' ∧ Below B w w' := by
  have hG : Gat M 6 8 (outV 123 E) a b w := hG
  have c0 := Joins.cell_of_block hG.b0 0
  have c1 := Joins.cell_of_block hG.b1 0
  have c2 := Joins.cell_of_block hG.b2 0
  have c3 := Joins.cell_of_block hG.b3 0
  have c4 := Joins.cell_of_block hG.b4 0
  have u3 := Joins.unfrozen_of_block hG.b3 0
  have u4 := Joins.unfrozen_of_block hG.b4 0
  simp at c0 c1 c2 c3 c4
  go_enter Tryz.func110, Tryz.ntmps110
  go_upto_region 1 with fail
  go_region
  rw [orand6 a n ha hn]
  generalize hAA : (a * 2 ^ 6 + n) % 65536 = A
  have hA : A < 65536 := by omega
  have G2 : Gat M 6 8 (outV 123 E) (A : Int) ((b + 6 : Nat) : Int) (((w.setCell ⟨M + 3, 0, none⟩ (.int .i64 (A : Int))).setCell ⟨M + 4, 0, none⟩ (.int .i64 ((b : Int) + 6))).drew) := by
    rw [show ((b + 6 : Nat) : Int) = (b : Int) + 6 by omega]
    exact (((hG.setAll (A : Int)).setBits ((b : Int) + 6))).drewN 1
  have K2 : K l (((w.setCell ⟨M + 3, 0, none⟩ (.int .i64 (A : Int))).setCell ⟨M + 4, 0, none⟩ (.int .i64 ((b : Int) + 6))).drew) := S.drew _ _ 1 (S.set _ _ _ _ _ (S.set _ _ _ _ _ hK (by omega) hG.b3) (by omega) (hG.setAll (A : Int)).b4)
  have B2 : Below B w (((w.setCell ⟨M + 3, 0, none⟩ (.int .i64 (A : Int))).setCell ⟨M + 4, 0, none⟩ (.int .i64 ((b : Int) + 6))).drew) := (((Below.refl B w).setCell (p := ⟨M + 3, 0, none⟩) (by show B ≤ M + 3; omega) _).setCell (p := ⟨M + 4, 0, none⟩) (by show B ≤ M + 4; omega) _).drew
  generalize World.drew _ = w2 at G2 K2 B2 ⊢
  clear c0 c1 c2 c3 c4 u3 u4 hK hG
  have HS := Lib.hid S
  clear S
  go_wp2
  go_loopw [] (fun wr => ∃ (k b' : Nat) (l' : List Nat), l' ++ emit 8 A k b' = l ++ emit 8 A 2 (b + 6) ∧ b' % 8 = (b + 6) % 8 ∧ b' < (k + 1) * 8 ∧ b' ≤ 13 ∧ l'.length + k ≤ L + 2 ∧ Gat M 6 8 (outV 123 E) (A : Int) (b' : Int) wr ∧ K l' wr ∧ Below B w wr) (fun wr => (RowKit.intOf ((wr.cell? ⟨M + 4, 0, none⟩).getD .nilFunc)).toNat)
  case atStart => exact ⟨2, b + 6, l, rfl, rfl, by omega, by omega, by omega, G2, K2, B2⟩
  case round =>
    obtain ⟨k, b', l', e1, e2, e3, e4, e5, G3, K3, B3⟩ := hrel
    have c1 := Joins.cell_of_block G3.b1 0
    have c2 := Joins.cell_of_block G3.b2 0
    have c3 := Joins.cell_of_block G3.b3 0
    have c4 := Joins.cell_of_block G3.b4 0
    have u4 := Joins.unfrozen_of_block G3.b4 0
    simp at c1 c2 c3 c4
    have HM := Lib.hid c4
    by_cases hT : 8 ≤ b'
    · obtain ⟨k, rfl⟩ : ∃ j, k = j + 1 := ⟨k - 1, by omega⟩
      have hT2 : (8 : Int) ≤ (b' : Int) := by omega
      have G4 : Gat M 6 8 (outV 123 E) (A : Int) ((b' - 8 : Nat) : Int) (wr.setCell ⟨M + 4, 0, none⟩ (.int .i64 ((b' : Int) - 8))) := by
        rw [show ((b' - 8 : Nat) : Int) = (b' : Int) - 8 by omega]
        exact G3.setBits _
      have K4 : K l' (wr.setCell ⟨M + 4, 0, none⟩ (.int .i64 ((b' : Int) - 8))) := HS.out.set _ _ _ _ _ K3 (by omega) G3.b4
      have B4 : Below B w (wr.setCell ⟨M + 4, 0, none⟩ (.int .i64 ((b' : Int) - 8))) := B3.setCell (p := ⟨M + 4, 0, none⟩) (by show B ≤ M + 4; omega) _
      go_upto_region 4 with fail
      obtain ⟨b2, hb2, hb3⟩ : ∃ b2 : Nat, b' = b2 + 8 ∧ b2 ≤ 5 := ⟨b' - 8, by omega, by omega⟩
      subst hb2
      rw [show b2 + 8 - 8 = b2 by omega] at G4
      generalize World.setCell wr _ _ = w4 at G4 K4 B4 ⊢
      clear G3 K3 B3 c1 c2 c3 c4 u4
      have c1 := Joins.cell_of_block G4.b1 0
      have c2 := Joins.cell_of_block G4.b2 0
      have c3 := Joins.cell_of_block G4.b3 0
      have c4 := Joins.cell_of_block G4.b4 0
      simp at c1 c2 c3 c4
      unfold outV at c2
      obtain ⟨q, hq⟩ : ∃ q, q = A / 2 ^ b2 := ⟨_, rfl⟩
      have hq2 : q ≤ A := by rw [hq]; exact Nat.div_le_self _ _
      have e9 : (A : Int) / 2 ^ b2 = (q : Int) := by rw [hq, Int.natCast_ediv]; simp
      have e9b : (A : Int) / 2 ^ b2 % 256 = ((q % 2 ^ 8 : Nat) : Int) := by rw [e9]; omega
      have hx : bits BinOp.and .i64 ((A : Int) / 2 ^ b2) (IntKind.i64.wrap (IntKind.i64.wrap 256 - 1)) = (A : Int) / 2 ^ b2 % 256 := by
        rw [show (IntKind.i64.wrap (IntKind.i64.wrap 256 - 1)) = (2 : Int) ^ 8 - 1 by decide, e9]
        exact bits_mask .i64 62 (by decide) wraps_i64 8 (by decide) (q : Int) (by omega) (by omega)
      have HC := Lib.hid (HS.out.call l' (q % 2 ^ 8) (w4.drew) (HS.out.drew _ _ 1 K4) (Nat.mod_lt _ (by decide)) (by omega) (Nat.le_trans hBW (by simpa using B4.size)))
      have EM : Hid ((l' ++ [q % 2 ^ 8]) ++ emit 8 A k b2 = l ++ emit 8 A 2 (b + 6)) := Lib.hid (by
        rw [← e1]
        have : emit 8 A (k + 1) (b2 + 8) = (A / 2 ^ b2) % 2 ^ 8 :: emit 8 A k b2 := by
          simp only [emit]
          rw [if_pos (by omega), show b2 + 8 - 8 = b2 by omega]
        rw [this, hq, List.append_assoc]
        rfl)
      clear e1
      have E9 := Lib.hid e9b
      have HX := Lib.hid hx
      clear e9 e9b hq hq2 hx
      go_region_with (go_at_call 123; rw [HX.out, E9.out]; refine (HC.out).mono ?_; rintro e w5 ⟨rfl, K5, B5, O5⟩)
      all_goals
        have hG5 : Gat M 6 8 (outV 123 E) (A : Int) (b2 : Int) w5 := (G4.drewN 1).kept hE O5
        have hm5 := Joins.cell_of_block hG5.b4 0
        simp at hm5
        have hm3 := HM.out
        go_wp2_with fail
        go_roundw
        case rel => exact ⟨k, b2, l' ++ [q % 2 ^ 8], EM.out, by omega, by omega, by omega, by simp; omega, hG5, K5, B4.drew.trans B5⟩
        case measure => rw [hm5, hm3]; simp [RowKit.intOf]; omega
    · have hT2 : ¬ (8 : Int) ≤ (b' : Int) := by omega
      go_wp2
      go_ret
      have e6 : emit 8 A k b' = [] := by cases k with
        | zero => rfl
        | succ k => simp only [emit]; rw [if_neg hT]
      rw [e6, List.append_nil] at e1
      subst e1
      have e7 : (b' : Int) = ((b : Int) + 6) % 8 := by omega
      rw [← e7]
      exact ⟨rfl, K3, G3, B3⟩
end Go.Proofs.YtpcncpegbboljaaGreatDoor.B64
namespace Go.Proofs.YtpcncpegbboljaaGreatDoor.B64
open Go.RowKit Go.Lib Go.Proofs.YtpcncpegbboljaaGreatDoor Go.Proofs.YtpcncpegbboljaaGreatDoor.Row
set_option linter.unusedVariables false
set_option linter.unusedSimpArgs false
def lettersB : ByteArray := ⟨#[65, 66, 67, 68, 69, 70, 71, 72, 73, 74, 75, 76, 77, 78, 79, 80, 81, 82, 83, 84, 85, 86, 87, 88, 89, 90, 97, 98, 99, 100, 101, 102, 103, 104, 105, 106, 107, 108, 109, 110, 111, 112, 113, 114, 115, 116, 117, 118, 119, 120, 121, 122, 48, 49, 50, 51, 52, 53, 54, 55, 56, 57, 43, 47]⟩
def lettersL : List UInt8 := [65, 66, 67, 68, 69, 70, 71, 72, 73, 74, 75, 76, 77, 78, 79, 80, 81, 82, 83, 84, 85, 86, 87, 88, 89, 90, 97, 98, 99, 100, 101, 102, 103, 104, 105, 106, 107, 108, 109, 110, 111, 112, 113, 114, 115, 116, 117, 118, 119, 120, 121, 122, 48, 49, 50, 51, 52, 53, 54, 55, 56, 57, 43, 47]
def letterC (n : Nat) : UInt8 := lettersL.getD n 0
theorem rowF_set {w : World} {B n k : Nat} {v x : Value} {xs : List Value} {cs : Array Value} (h : w.ownsRowF B 5 1 v n xs) (hk : w.heap[k]? = some (.cells cs 3 (0, 0))) : (w.setCell ⟨k, 0, none⟩ x).ownsRowF B 5 1 v n xs := by
  refine ⟨h.1, h.2.elim Or.inl fun ⟨g, cap, cur, fz, hv, hg, hh, r⟩ => Or.inr ⟨g, cap, cur, fz, hv, hg, ?_, r⟩⟩
  rw [Deep.blk_setCell_other w ⟨k, 0, none⟩ x g (by
    rintro rfl
    rw [hh] at hk
    injection hk with hk
    injection hk with _ e2 _
    exact absurd e2 (by decide))]
  exact hh
theorem row_set {w : World} {B n k : Nat} {v x : Value} {xs : List Value} {cs : Array Value} (h : w.ownsRow B 5 1 v n xs) (hk : w.heap[k]? = some (.cells cs 3 (0, 0))) : (w.setCell ⟨k, 0, none⟩ x).ownsRow B 5 1 v n xs := by
  refine ⟨h.1, h.2.elim Or.inl fun ⟨g, cap, cur, hv, hg, hh, r⟩ => Or.inr ⟨g, cap, cur, hv, hg, ?_, r⟩⟩
  rw [Deep.blk_setCell_other w ⟨k, 0, none⟩ x g (by
    rintro rfl
    rw [hh] at hk
    injection hk with hk
    injection hk with _ e2 _
    exact absurd e2 (by decide))]
  exact hh
def EncK (B E : Nat) (l : List Nat) (w : World) : Prop := IsBuilderF 48 5 B E (byteCells (l.map letterC)) w
theorem EncK.set {B E : Nat} {l : List Nat} {w : World} {k : Nat} {cs : Array Value} {v : Value} (h : EncK B E l w) (hne : k ≠ E) (hk : w.heap[k]? = some (.cells cs 3 (0, 0))) : EncK B E l (w.setCell ⟨k, 0, none⟩ v) := by
  have key : ∀ p, BuilderAtF 48 5 B E p (byteCells (l.map letterC)) w → BuilderAtF 48 5 B E p (byteCells (l.map letterC)) (w.setCell ⟨k, 0, none⟩ v) := by
    rintro p ⟨hB, u, hb, ho, hn⟩
    exact ⟨hB, u, (Deep.blk_setCell_other w ⟨k, 0, none⟩ v E (by show E ≠ k; omega)).trans hb, rowF_set ho hk, hn⟩
  exact h.elim (fun h => .inl (key _ h)) (fun h => .inr (key _ h))
theorem letters_get (n : Nat) (h : n < 64) (h2 : n < lettersB.size) : lettersB[n] = letterC n := by
  have key : ∀ m : Fin 64, lettersB.data.toList[m.val]? = some (letterC m.val) := by decide +kernel
  have := key ⟨n, h⟩
  have h3 : n < lettersB.data.toList.length := by simpa using h2
  rw [List.getElem?_eq_getElem h3] at this
  exact Option.some.inj this
set_option maxRecDepth 100000 in
set_option maxHeartbeats 4000000 in
theorem enc_sink (B E L : Nat) (hL : L ≤ 11000000) : Sink B E 87 6 (EncK B E) L where
  set := fun l w k cs v h hne hk => h.set hne hk
  drew := fun l w n h => h
  call := by
    intro l n w hK hn hl hB
    have hKK := Lib.hid hK
    have hlen : (byteCells (l.map letterC)).length = l.length := by simp [byteCells]
    have WB := Lib.hid (fun c => Bld.WriteByte_k B E _ c w hK (by omega) hB)
    clear hK
    have hn2 : n < 64 := hn
    go_enter Tryz.func87, Tryz.ntmps87
    go_wp2_with (go_at_call 67; refine (WB.out _).mono ?_; rintro e w1 ⟨rfl, h1, b1, k1⟩)
    go_end0
    refine ⟨rfl, ?_, b1, k1⟩
    have e : byteCells ((l ++ [n]).map letterC) = byteCells (l.map letterC) ++ [.int .u8 ((letterC n).toNat : Int)] := by simp [byteCells]
    show IsBuilderF _ _ _ _ (byteCells ((l ++ [n]).map letterC)) _
    rw [e, ← letters_get n hn2 hn2]
    exact h1
def DecK (B E : Nat) (l : List Nat) (w : World) : Prop := B ≤ E ∧ ∃ v, w.heap[E]? = some (.cells #[v] 45 (0, 0)) ∧ w.ownsRow B 5 1 v l.length (byteCells (l.map Nat.toUInt8))
theorem DecK.set {B E : Nat} {l : List Nat} {w : World} {k : Nat} {cs : Array Value} {v : Value} (h : DecK B E l w) (hne : k ≠ E) (hk : w.heap[k]? = some (.cells cs 3 (0, 0))) : DecK B E l (w.setCell ⟨k, 0, none⟩ v) := by
  obtain ⟨hB, u, h1, h2⟩ := h
  exact ⟨hB, u, (Deep.blk_setCell_other w ⟨k, 0, none⟩ v E (by show E ≠ k; omega)).trans h1, row_set h2 hk⟩
set_option maxRecDepth 100000 in
set_option maxHeartbeats 4000000 in
theorem dec_sink (B E L : Nat) (hL : L ≤ 11000000) : Sink B E 123 8 (DecK B E) L where
  set := fun l w k cs v h hne hk => h.set hne hk
  drew := fun l w n h => h
  call := by
    intro l n w hK hn hl hB
    obtain ⟨hBE, v, hv, hown⟩ := hK
    obtain ⟨i0, hi, hz0, hz1, hz2⟩ := info_parts Bld.infoByte
    have c0 := Joins.cell_of_block hv 0
    have u0 := Joins.unfrozen_of_block hv 0
    simp at c0
    have hn2 : n < 256 := hn
    have hlen : (byteCells (l.map Nat.toUInt8)).length = l.length := by simp [byteCells]
    have HO := Lib.hid hown; have HV := Lib.hid hv
    clear hown hv
    go_enter Tryz.func123, Tryz.ntmps123
    go_wp2_with (at_builtin; refine wpList_append_own _ rfl (.tmp 3) (.tmp 6) 45 rfl B 5 i0 (.int .u8 0) 1 1 Tryz.underlying45 hi hz0 hz1 hz2 rfl (by decide) _ _ _ rfl (HO.out.alloc _) ⟨w.heap.size, 0, none⟩ 1 1 [.int .u8 (n : Int)] rfl rfl ?c1 ?c2 ?c3 ?c4 ?c5 ?_)
    case c1 =>
      intro j u hj
      match j, hj with
      | 0, hj => simp at hj; subst hj; simp [Addr.add]
    case c2 => intro u hu; simp at hu; subst hu; rfl
    case c3 => simp only [maxLen]; omega
    case c4 => omega
    case c5 => simp; omega
    intro v1 w1 hown1 hgr1 _
    have hlt : E < w.heap.size := (Array.getElem?_eq_some_iff.1 HV.out).1
    have hne : some E ≠ v.ownBlock := by
      intro e
      obtain ⟨c, fz, hc⟩ := Lib.ownsRowF_kind (World.ownsRowF_of HO.out) E e.symm
      rw [HV.out] at hc
      injection hc with hc
      injection hc with _ e2 _
      exact absurd e2 (by decide)
    have hE1 : w1.heap[E]? = some (.cells #[v] 45 (0, 0)) := by
      rw [hgr1.block E (by simp; omega) hne, Lib.alloc_old w _ E hlt]
      exact HV.out
    have d0 : w1.cell? ⟨E, 0, none⟩ = some v := by rw [Joins.cell_of_block hE1]; rfl
    have f0 : w1.frozen? ⟨E, 0, none⟩ = false := Joins.unfrozen_of_block hE1 0
    obtain ⟨g, cap, rfl⟩ : ∃ g cap, v1 = .slice (some ⟨g, 0, none⟩) (l.length + 1) cap := by
      rcases hown1.2 with ⟨_, h0⟩ | ⟨g, cap, cur, hv, _⟩
      · omega
      · exact ⟨g, cap, hv⟩
    go_wp2
    go_end0
    have hb1 : Below B w w1 := (((Below.refl B w).alloc hB _).grown hgr1 (by simp; omega) (fun k hk => ((World.ownsRowF_of HO.out).lt k hk).1))
    have hset : (w1.setCell ⟨E, 0, none⟩ (.slice (some ⟨g, 0, none⟩) (l.length + 1) cap)).heap[E]? = some (.cells #[.slice (some ⟨g, 0, none⟩) (l.length + 1) cap] 45 (0, 0)) := Joins.block_setCell hE1 _
    have hgE : g ≠ E := by
      rintro rfl
      rcases hown1.2 with ⟨hv, _⟩ | ⟨g2, cap2, cur, hv, _, hh, _⟩
      · cases hv
      · cases hv
        rw [hE1] at hh
        injection hh with hc
        injection hc with _ e2 _
        exact absurd e2 (by decide)
    refine ⟨rfl, ⟨hBE, _, hset, ?_⟩, hb1.setCell (p := ⟨E, 0, none⟩) hBE _, (((OthersKept.refl _ _ w).alloc _).grown hgr1 (Lib.ownsRowF_kind (World.ownsRowF_of (HO.out.alloc _)))).setCell ⟨E, 0, none⟩ rfl _⟩
    have e : byteCells ((l ++ [n]).map Nat.toUInt8) = byteCells (l.map Nat.toUInt8) ++ [.int .u8 (n : Int)] := by
      have h1 : ((n.toUInt8).toNat : Int) = (n : Int) := by
        rw [show n.toUInt8 = UInt8.ofNat n from rfl, UInt8.toNat_ofNat']; omega
      simp [byteCells, h1]
      omega
    rw [e, List.length_append]
    refine ⟨hown1.1, hown1.2.elim Or.inl fun ⟨g2, cap2, cur, hv, hg, hh, r⟩ => Or.inr ⟨g2, cap2, cur, hv, hg, ?_, r⟩⟩
    rw [Deep.blk_setCell_other w1 ⟨E, 0, none⟩ _ g2 (by cases hv; exact hgE)]
    exact hh
end Go.Proofs.YtpcncpegbboljaaGreatDoor.B64
namespace Go.Proofs.YtpcncpegbboljaaGreatDoor.B64
open Go.RowKit Go.Lib Go.Proofs.YtpcncpegbboljaaGreatDoor Go.Proofs.YtpcncpegbboljaaGreatDoor.Row
set_option linter.unusedVariables false
set_option linter.unusedSimpArgs false
def placeC (c : UInt8) : Int := indexByte lettersB.data.toList c
theorem place_range : ∀ c : Fin 256, placeC (UInt8.ofNat c.val) = -1 ∨ (0 ≤ placeC (UInt8.ofNat c.val) ∧ placeC (UInt8.ofNat c.val) < 64) := by decide +kernel
theorem place_r (c : UInt8) : placeC c = -1 ∨ (0 ≤ placeC c ∧ placeC c < 64) := by
  have := place_range ⟨c.toNat, UInt8.toNat_lt c⟩
  simpa using this
def decGo : Nat → Nat → List UInt8 → List Nat
  | _, _, [] => []
  | a, b, c :: r => if 0 ≤ placeC c then emit 8 ((a * 2 ^ 6 + (placeC c).toNat) % 65536) 2 (b + 6) ++ decGo ((a * 2 ^ 6 + (placeC c).toNat) % 65536) ((b + 6) % 8) r else decGo a b r
def b64DecL (l : List UInt8) : List UInt8 := (decGo 0 0 (cutL 61 l).1).map Nat.toUInt8
theorem emit_len (T a k b : Nat) : (emit T a k b).length ≤ k := by
  induction k generalizing b with
  | zero => simp [emit]
  | succ k ih => simp only [emit]; split <;> simp; exact ih _
theorem dec_string {B : Nat} {l : List Nat} {w : World} {v : Value} (h : w.ownsRow B 5 1 v l.length (byteCells (l.map Nat.toUInt8))) :
    (convert 45 9 v).run Tryz.prog w = .ok (.string ⟨(l.map Nat.toUInt8).toArray⟩) w := by
  rcases h.2 with ⟨rfl, h0⟩ | ⟨g, cap, cur, rfl, hg, hh, hc, hm, hs, ht⟩
  · obtain rfl : l = [] := List.length_eq_zero_iff.1 h0
    exact run_convert_bytes_nil w 45 5 Tryz.underlying45 Tryz.underlying5 0 0 9 Tryz.underlying9
  · have := run_convert_bytes_back w 45 9 5 ⟨g, 0, none⟩ cap (l.map Nat.toUInt8) Tryz.underlying45 Tryz.underlying5 Tryz.underlying9 (fun j hj => by
      have h1 : j < (byteCells (l.map Nat.toUInt8)).length := by simpa [byteCells] using hj
      have h2 : (byteCells (l.map Nat.toUInt8))[j]? = some (.int .u8 (((l.map Nat.toUInt8)[j]).toNat : Int)) := by
        rw [List.getElem?_eq_getElem h1]; simp [byteCells]
      rw [← ht, List.getElem?_take] at h2
      have h3 : j < l.length * 1 := by simpa using hj
      rw [if_pos h3] at h2
      have h4 : w.cell? ⟨g, j, none⟩ = some (.int .u8 (((l.map Nat.toUInt8)[j]).toNat : Int)) := by
        rw [Joins.cell_of_block hh]
        simpa using h2
      unfold Addr.add
      split
      · rename_i h0; subst h0; exact h4
      · simpa using h4)
    rw [List.length_map] at this
    exact this
theorem Gat.below {M : Nat} {F T : Int} {ov : Value} {all bits : Int} {w w' : World} (h : Gat M F T ov all bits w) (hb : Below w.heap.size w w') : Gat M F T ov all bits w' := by
  have key : ∀ k x, w.heap[k]? = some x → w'.heap[k]? = some x := fun k x hk => (hb.block k (Array.getElem?_eq_some_iff.1 hk).1).trans hk
  exact ⟨key _ _ h.b0, key _ _ h.b1, key _ _ h.b2, key _ _ h.b3, key _ _ h.b4⟩
theorem DecK.below {B E : Nat} {l : List Nat} {w w' : World} (h : DecK B E l w) (hb : Below w.heap.size w w') : DecK B E l w' := by
  have key : ∀ k x, w.heap[k]? = some x → w'.heap[k]? = some x := fun k x hk => (hb.block k (Array.getElem?_eq_some_iff.1 hk).1).trans hk
  obtain ⟨hB, v, h1, h2⟩ := h
  exact ⟨hB, v, key _ _ h1, h2.1, h2.2.elim Or.inl fun ⟨g, cap, cur, hv, hg, hh, r⟩ => Or.inr ⟨g, cap, cur, hv, hg, key _ _ hh, r⟩⟩
theorem index_letters (c : UInt8) (W : World) : Calls Tryz.prog 108 #[.string (⟨#[65, 66, 67, 68, 69, 70, 71, 72, 73, 74, 75, 76, 77, 78, 79, 80, 81, 82, 83, 84, 85, 86, 87, 88, 89, 90, 97, 98, 99, 100, 101, 102, 103, 104, 105, 106, 107, 108, 109, 110, 111, 112, 113, 114, 115, 116, 117, 118, 119, 120, 121, 122, 48, 49, 50, 51, 52, 53, 54, 55, 56, 57, 43, 47]⟩ : ByteArray), .int .u8 (c.toNat : Int)] W fun e w' => e = .returned (.int .i64 (placeC c)) ∧ Below W.heap.size W w' :=
  strings_IndexByte.calls lettersB (c.toNat : Int) (placeC c) W (by
    unfold strings_IndexByte.f placeC
    rw [show ((c.toNat : Int)).toNat.toUInt8 = c by simp])
set_option maxRecDepth 100000 in
set_option maxHeartbeats 8000000 in
theorem Decode_c (s : ByteArray) (hs : s.size ≤ 1100000) (w : World) :
    Calls Tryz.prog 98 #[.string s] w fun e w' => e = .returned (.string ⟨(b64DecL s.data.toList).toArray⟩) ∧ Below w.heap.size w w' := by
  have hmf : ∀ (fn : Fn) (first cap : Array Value) (w : World), (Instr.makeFunc fn first cap).run Tryz.prog w = .ok (.func fn first cap) w := fun _ _ _ _ => rfl
  have hcu : strings_Cut.f s (⟨#[61]⟩ : ByteArray) = some (⟨(cutL 61 s.data.toList).1.toArray⟩, ⟨(cutL 61 s.data.toList).2.1.toArray⟩, (cutL 61 s.data.toList).2.2) := by
    unfold strings_Cut.f
    rw [if_pos ⟨rfl, by omega⟩]
    rfl
  have CU := Lib.hid (fun W => strings_Cut.calls s (⟨#[61]⟩ : ByteArray) _ _ _ W hcu)
  have hlen : (cutL 61 s.data.toList).1.length ≤ s.size := by
    have h1 : s.data.toList.length = s.size := by simp
    unfold cutL
    split
    · rw [← h1]; exact List.IsPrefix.length_le (List.takeWhile_prefix _)
    · rw [← h1]; exact Nat.le_refl _
  unfold b64DecL
  generalize cutL 61 s.data.toList = ct at *
  obtain ⟨p, p2, p3⟩ := ct
  simp only at CU hlen ⊢
  have hpz : (⟨p.toArray⟩ : ByteArray).size = p.length := by simp [ByteArray.size]
  have hpd : (⟨p.toArray⟩ : ByteArray).data.toList = p := rfl
  generalize (⟨p.toArray⟩ : ByteArray) = S at *
  subst hpd
  have HLE := Lib.hid hlen; have HPZ := Lib.hid hpz
  clear hcu hlen hpz
  have SK := Lib.hid (dec_sink w.heap.size w.heap.size (4400000 + 2) (by omega))
  go_enter Tryz.func98, Tryz.ntmps98
  go_upto_region 4 with (first
    | (go_at_call 86; refine (gather_c 6 8 _ _ _).mono ?_; rintro e w1 ⟨rfl, hb1, hg1, hk1, hz1⟩; have G1 := Lib.hid hg1; have B1 := Lib.hid hb1; have K1 := Lib.hid hk1; have Z1 := Lib.hid hz1; clear hg1 hb1 hk1 hz1)
    | (go_at_call 23; refine (CU.out _).mono ?_; rintro e w2 ⟨rfl, hb2⟩; have B2 := Lib.hid hb2; clear hb2))
  have hsz : (w.alloc (Obj.cells #[Value.slice none 0 0] 45)).heap.size = w.heap.size + 1 := by simp
  have hG : Gat (w.heap.size + 1) 6 8 (outV 123 w.heap.size) (0 : Nat) (0 : Nat) w2 := by
    have := G1.out
    rw [hsz] at this
    exact this.below B2.out
  have hK : DecK w.heap.size w.heap.size [] w2 := by
    refine DecK.below (w := w1) ⟨Nat.le_refl _, .slice none 0 0, ?_, rfl, .inl ⟨rfl, rfl⟩⟩ B2.out
    refine K1.out _ _ (al_new w _) (by simp) ?_
    intro c fz e
    injection e with _ e2 _
    exact absurd e2 (by decide)
  have hB : Below w.heap.size w w2 := by
    have h1 : Below w.heap.size w (w.alloc (Obj.cells #[Value.slice none 0 0] 45)) := Joins.below_alloc1 w _
    exact (h1.trans (B1.out.mono h1.size)).trans (B2.out.mono (h1.trans (B1.out.mono h1.size)).size)
  have HG := Lib.hid hG; have HK := Lib.hid hK; have HB := Lib.hid hB
  clear hG hK hB hsz G1 K1 Z1 B1 B2
  go_wp2
  go_loopw [17] (fun i wr => ∃ (k a b : Nat) (l : List Nat), i = .int .i64 (k : Int) ∧ k ≤ S.data.toList.length ∧ l ++ decGo a b (S.data.toList.drop k) = decGo 0 0 S.data.toList ∧ a < 65536 ∧ b < 8 ∧ l.length ≤ 2 * k ∧ DecK w.heap.size w.heap.size l wr ∧ Gat (w.heap.size + 1) 6 8 (outV 123 w.heap.size) (a : Int) (b : Int) wr ∧ Below w.heap.size w wr) (fun i _ => S.data.toList.length - (RowKit.intOf i).toNat)
  case atStart => exact ⟨0, 0, 0, [], rfl, Nat.zero_le _, rfl, by omega, by omega, by simp, HK.out, HG.out, HB.out⟩
  case round =>
    obtain ⟨k, a, b, l, rfl, hk, he, ha, hb, hl, K3, G3, B3⟩ := hrel
    have hpz := HPZ.out
    have hle := HLE.out
    have HE := Lib.hid he; have H3 := Lib.hid K3; have HG3 := Lib.hid G3; have HB3 := Lib.hid B3
    clear he K3 G3 B3
    by_cases hlt : k < S.data.toList.length
    · have hlt2 : k < S.size := by omega
      have hlt3 : (k : Int) < (S.size : Int) := by omega
      have hc : S.data.toList.drop k = S[k] :: S.data.toList.drop (k + 1) := List.drop_eq_getElem_cons hlt
      have hr := place_r S[k]
      have IX := Lib.hid (index_letters S[k])
      have HC := Lib.hid hc
      clear hc
      have hkb : k < 1100000 := by omega
      rcases hr with hr | ⟨hr0, hr1⟩
      · rw [hr] at IX
        have hst : decGo a b (S[k] :: S.data.toList.drop (k + 1)) = decGo a b (S.data.toList.drop (k + 1)) := by
          simp only [decGo]; rw [if_neg (by omega)]
        have HST := Lib.hid hst
        have HLT := Lib.hid hlt
        clear hst hr hlt hpz hle
        have hd := decide_eq_true hlt3
        go_wp2_with (go_at_call 108; refine (IX.out _).mono ?_; rintro e w4 ⟨rfl, hb4⟩; have HB4 := Lib.hid hb4; clear hb4)
        have hle := HLE.out
        have hlt := HLT.out
        go_roundw
        case rel => exact ⟨k + 1, a, b, l, by go_num, HLT.out, by rw [← HE.out, HC.out, HST.out], ha, hb, by omega, H3.out.below HB4.out, HG3.out.below HB4.out, HB3.out.trans (HB4.out.mono HB3.out.size)⟩
        case measure => simp [RowKit.intOf]; omega
      · obtain ⟨n, hn⟩ : ∃ n : Nat, placeC S[k] = (n : Int) := ⟨(placeC S[k]).toNat, by omega⟩
        rw [hn] at IX hr0 hr1
        have hn2 : n < 2 ^ 6 := by omega
        have hst : decGo a b (S[k] :: S.data.toList.drop (k + 1)) = emit 8 ((a * 2 ^ 6 + n) % 65536) 2 (b + 6) ++ decGo ((a * 2 ^ 6 + n) % 65536) ((b + 6) % 8) (S.data.toList.drop (k + 1)) := by
          simp only [decGo]; rw [if_pos (by omega), hn, Int.toNat_natCast]
        have HST := Lib.hid hst
        have hel := emit_len 8 ((a * 2 ^ 6 + n) % 65536) 2 (b + 6)
        have HEL := Lib.hid hel
        have HLT := Lib.hid hlt
        have hl4 : l.length ≤ 4400000 := by omega
        have HN2 := Lib.hid hn2
        clear hst hel hn hlt hpz hle hn2
        have hd := decide_eq_true hlt3
        go_wp2_with (first
          | (go_at_call 108; refine (IX.out _).mono ?_; rintro e w4 ⟨rfl, hb4⟩; have HB4 := Lib.hid (HB3.out.trans (hb4.mono HB3.out.size)); have HG4 := Lib.hid (HG3.out.below hb4); have H4 := Lib.hid (H3.out.below hb4); clear hb4)
          | (go_at_call 110; refine (gat6_c w.heap.size w.heap.size (w.heap.size + 1) 4400000 (DecK w.heap.size w.heap.size) SK.out l a b n _ H4.out HG4.out ha hb HN2.out hl4 (by omega) (Nat.le_refl _) HB4.out.size).mono ?_; rintro e w5 ⟨rfl, h5, g5, b5⟩; have H5 := Lib.hid h5; have G5 := Lib.hid g5; have B5 := Lib.hid b5; clear h5 g5 b5))
        have hle := HLE.out
        have hlt := HLT.out
        go_roundw
        case rel =>
          refine ⟨k + 1, (a * 2 ^ 6 + n) % 65536, (b + 6) % 8, _, by go_num, HLT.out, ?_, by omega, by omega, ?_, H5.out, G5.out, HB4.out.trans B5.out⟩
          · rw [← HE.out, HC.out, HST.out, List.append_assoc]
          · have := HEL.out
            rw [List.length_append]; omega
        case measure => simp [RowKit.intOf]; omega
    · have hkl : k = S.data.toList.length := by omega
      have hlt3 : ¬ (k : Int) < (S.size : Int) := by omega
      have he2 := HE.out
      rw [hkl, List.drop_length] at he2
      simp only [decGo, List.append_nil] at he2
      have HE2 := Lib.hid he2
      obtain ⟨_, v, hv, hown⟩ := H3.out
      have hcv := dec_string hown
      have c0 := Joins.cell_of_block hv 0
      simp at c0
      clear hv hown he2 hkl hpz hle hlt hk
      have hd := decide_eq_false hlt3
      go_wp2
      go_ret
      exact ⟨by rw [← HE2.out]; rfl, HB3.out⟩
end Go.Proofs.YtpcncpegbboljaaGreatDoor.B64
namespace Go.Proofs.YtpcncpegbboljaaGreatDoor.B64
open Go.RowKit Go.Lib Go.Proofs.YtpcncpegbboljaaGreatDoor Go.Proofs.YtpcncpegbboljaaGreatDoor.Row
set_option linter.unusedVariables false
set_option linter.unusedSimpArgs false
def encGo : Nat → Nat → List UInt8 → List Nat
  | _, _, [] => []
  | a, b, c :: r => emit 6 ((a * 2 ^ 8 + c.toNat) % 65536) 2 (b + 8) ++ encGo ((a * 2 ^ 8 + c.toNat) % 65536) ((b + 8) % 6) r
def encSt : Nat → Nat → List UInt8 → Nat × Nat
  | a, b, [] => (a, b)
  | a, b, c :: r => encSt ((a * 2 ^ 8 + c.toNat) % 65536) ((b + 8) % 6) r
def encAll (l : List UInt8) : List Nat :=
  if 0 < (encSt 0 0 l).2 then encGo 0 0 l ++ emit 6 (((encSt 0 0 l).1 * 2 ^ 8 + 0) % 65536) 2 ((encSt 0 0 l).2 + 8) else encGo 0 0 l
def b64EncT (l : List UInt8) : List UInt8 := ((encAll l).map letterC).take ((l.length * 8 + 5) / 6)
def b64EncL (l : List UInt8) : List UInt8 := b64EncT l ++ List.replicate ((4 - (b64EncT l).length % 4) % 4) 61
theorem emit6_len (a b : Nat) (hb : b ≤ 13) : (emit 6 a 2 b).length = b / 6 := by
  simp only [emit]
  by_cases h : 6 ≤ b
  · rw [if_pos h]
    by_cases h2 : 6 ≤ b - 6
    · rw [if_pos h2]; simp; omega
    · rw [if_neg h2]; simp; omega
  · rw [if_neg h]; simp; omega
theorem encSt_bits : ∀ (l : List UInt8) (a b : Nat), b < 6 → (encSt a b l).2 < 6 ∧ 6 * (encGo a b l).length + (encSt a b l).2 = b + 8 * l.length
  | [], a, b, h => ⟨h, by simp [encGo, encSt]⟩
  | c :: r, a, b, h => by
    have ih := encSt_bits r ((a * 2 ^ 8 + c.toNat) % 65536) ((b + 8) % 6) (by omega)
    have he := emit6_len ((a * 2 ^ 8 + c.toNat) % 65536) (b + 8) (by omega)
    simp only [encGo, encSt, List.length_append, List.length_cons]
    rw [he]
    exact ⟨ih.1, by omega⟩
theorem encAll_len (l : List UInt8) : (l.length * 8 + 5) / 6 ≤ (encAll l).length := by
  have h := encSt_bits l 0 0 (by decide)
  unfold encAll
  by_cases h0 : 0 < (encSt 0 0 l).2
  · rw [if_pos h0, List.length_append, emit6_len _ _ (by omega)]
    omega
  · rw [if_neg h0]; omega
theorem EncK.below {B E : Nat} {l : List Nat} {w w' : World} (h : EncK B E l w) (hb : Below w.heap.size w w') : EncK B E l w' := by
  have key : ∀ k x, w.heap[k]? = some x → w'.heap[k]? = some x := fun k x hk => (hb.block k (Array.getElem?_eq_some_iff.1 hk).1).trans hk
  have k2 : ∀ p, BuilderAtF 48 5 B E p (byteCells (l.map letterC)) w → BuilderAtF 48 5 B E p (byteCells (l.map letterC)) w' := by
    rintro p ⟨hB, u, h1, h2, hn⟩
    exact ⟨hB, u, key _ _ h1, ⟨h2.1, h2.2.elim Or.inl fun ⟨g, cap, cur, fz, hv, hg, hh, r⟩ => Or.inr ⟨g, cap, cur, fz, hv, hg, key _ _ hh, r⟩⟩, hn⟩
  exact h.elim (fun h => .inl (k2 _ h)) (fun h => .inr (k2 _ h))
theorem repeat_pads (n : Nat) (h : n ≤ 3) (w : World) : Calls Tryz.prog 88 #[.string (⟨#[61]⟩ : ByteArray), .int .i64 (n : Int)] w fun e w' => e = .returned (.string ⟨(List.replicate n (61 : UInt8)).toArray⟩) ∧ Below w.heap.size w w' := by
  match n, h with
  | 0, _ => exact (Tryz.strings_Repeat_zero _ w).mono (by rintro e w' ⟨rfl, rfl⟩; exact ⟨rfl, Below.refl _ _⟩)
  | 1, _ => exact (Tryz.strings_Repeat_one _ w).mono (by rintro e w' ⟨rfl, rfl⟩; exact ⟨rfl, Below.refl _ _⟩)
  | 2, _ => exact (Tryz.strings_Repeat_main _ 2 w (by decide) (by decide) (by decide) (by decide)).mono (by rintro e w' ⟨rfl, h⟩; exact ⟨rfl, h⟩)
  | 3, _ => exact (Tryz.strings_Repeat_main _ 3 w (by decide) (by decide) (by decide) (by decide)).mono (by rintro e w' ⟨rfl, h⟩; exact ⟨rfl, h⟩)
theorem pads_int (n p : Nat) (hp : p = (4 - ((n * 8 + 5) / 6) % 4) % 4) : -(((n : Int) * 8 + 5) / 6 % 4) % 4 = (p : Int) := by
  obtain ⟨m, hm⟩ : ∃ m : Nat, m = (n * 8 + 5) / 6 := ⟨_, rfl⟩
  rw [← hm] at hp
  have e : ((n : Int) * 8 + 5) / 6 = (m : Int) := by omega
  rw [e]
  have h4 : m % 4 = 0 ∨ m % 4 = 1 ∨ m % 4 = 2 ∨ m % 4 = 3 := by omega
  rcases h4 with h | h | h | h <;> rw [h] at hp <;> simp at hp <;> omega
theorem enc_out (s : ByteArray) (L : List Nat) (h : encAll s.data.toList = L) (p : Nat) (hp : p = (4 - ((s.size * 8 + 5) / 6) % 4) % 4) :
    (⟨(L.map letterC).toArray⟩ : ByteArray).extract 0 ((s.size * 8 + 6 - 1) / 6) ++ (⟨(List.replicate p (61 : UInt8)).toArray⟩ : ByteArray) = ⟨(b64EncL s.data.toList).toArray⟩ := by
  have hz : s.data.toList.length = s.size := by simp
  have hl := encAll_len s.data.toList
  rw [h, hz] at hl
  have ht : (b64EncT s.data.toList).length = (s.size * 8 + 5) / 6 := by
    unfold b64EncT; rw [h, hz, List.length_take, List.length_map]; omega
  unfold b64EncL
  rw [ht, ← hp]
  unfold b64EncT
  rw [h, hz, extract_l]
  have e : (s.size * 8 + 6 - 1) / 6 = (s.size * 8 + 5) / 6 := by omega
  rw [e]
  rfl
set_option maxRecDepth 100000 in
set_option maxHeartbeats 8000000 in
theorem Encode_c (s : ByteArray) (hs : s.size ≤ 1100000) (w : World) :
    Calls Tryz.prog 57 #[.string s] w fun e w' => e = .returned (.string ⟨(b64EncL s.data.toList).toArray⟩) ∧ Below w.heap.size w w' := by
  have hmf : ∀ (fn : Fn) (first cap : Array Value) (w : World), (Instr.makeFunc fn first cap).run Tryz.prog w = .ok (.func fn first cap) w := fun _ _ _ _ => rfl
  have SK := Lib.hid (enc_sink w.heap.size w.heap.size (4400000 + 2) (by omega))
  have hsz0 : s.data.toList.length = s.size := by simp
  have HSZ := Lib.hid hsz0
  clear hsz0
  go_enter Tryz.func57, Tryz.ntmps57
  go_upto_region 4 with (first
    | (go_at_call 86; refine (gather_c 8 6 _ _ _).mono ?_; rintro e w1 ⟨rfl, hb1, hg1, hk1, hz1⟩; have G1 := Lib.hid hg1; have B1 := Lib.hid hb1; have K1 := Lib.hid hk1; have Z1 := Lib.hid hz1; clear hg1 hb1 hk1 hz1))
  have hsz : (w.alloc (Obj.cells #[Value.pointer none, Value.slice none 0 0] 48)).heap.size = w.heap.size + 1 := by simp
  have hG : Gat (w.heap.size + 1) 8 6 (outV 87 w.heap.size) (0 : Nat) (0 : Nat) w1 := by
    have := G1.out
    rw [hsz] at this
    exact this
  have hK : EncK w.heap.size w.heap.size [] w1 := by
    exact EncK.below (w := w.alloc (Obj.cells #[Value.pointer none, Value.slice none 0 0] 48)) (IsBuilderF.of (Lib.fresh_isBuilder 48 5 w)) B1.out
  have hB : Below w.heap.size w w1 := by
    have h1 : Below w.heap.size w (w.alloc (Obj.cells #[Value.pointer none, Value.slice none 0 0] 48)) := Joins.below_alloc1 w _
    exact h1.trans (B1.out.mono h1.size)
  have HG := Lib.hid hG; have HK := Lib.hid hK; have HB := Lib.hid hB
  clear hG hK hB hsz G1 K1 Z1 B1
  go_wp2
  go_loopw [5, 12] (fun lv i wr => ∃ (k a b : Nat) (l : List Nat), lv = .int .i64 (b : Int) ∧ i = .int .i64 (k : Int) ∧ k ≤ s.data.toList.length ∧ l ++ encGo a b (s.data.toList.drop k) = encGo 0 0 s.data.toList ∧ encSt a b (s.data.toList.drop k) = encSt 0 0 s.data.toList ∧ a < 65536 ∧ b < 6 ∧ l.length ≤ 2 * k ∧ EncK w.heap.size w.heap.size l wr ∧ Gat (w.heap.size + 1) 8 6 (outV 87 w.heap.size) (a : Int) (b : Int) wr ∧ Below w.heap.size w wr) (fun _ i _ => s.data.toList.length - (RowKit.intOf i).toNat)
  case atStart => exact ⟨0, 0, 0, [], rfl, rfl, Nat.zero_le _, rfl, rfl, by omega, by omega, by simp, HK.out, HG.out, HB.out⟩
  case round =>
    obtain ⟨k, a, b, l, rfl, rfl, hk, he, hst0, ha, hb, hl, K3, G3, B3⟩ := hrel
    have hsz1 := HSZ.out
    have HE := Lib.hid he; have H3 := Lib.hid K3; have HG3 := Lib.hid G3; have HB3 := Lib.hid B3; have HS0 := Lib.hid hst0
    clear he K3 G3 B3 hst0
    by_cases hlt : k < s.data.toList.length
    · have hlt2 : k < s.size := by omega
      have hlt3 : (k : Int) < (s.size : Int) := by omega
      have hc : s.data.toList.drop k = s[k] :: s.data.toList.drop (k + 1) := List.drop_eq_getElem_cons hlt
      have HC := Lib.hid hc
      have hkb : k < 1100000 := by omega
      have hn2 : (s[k]).toNat < 2 ^ 8 := UInt8.toNat_lt _
      have HN2 := Lib.hid hn2
      have HW := Lib.hid (show wrap64 ((s[k]).toNat : Int) = ((s[k]).toNat : Int) by unfold wrap64; omega)
      have HLT := Lib.hid hlt
      have hl4 : l.length ≤ 4400000 := by omega
      have hel := emit_len 6 ((a * 2 ^ 8 + (s[k]).toNat) % 65536) 2 (b + 8)
      have HEL := Lib.hid hel
      clear hc hn2 hel hlt hk
      have hd := decide_eq_true hlt3
      have HSZ1 := Lib.hid hsz1
      clear hsz1
      go_wp2_with (go_at_call 110; rw [HW.out]; refine (gat8_c w.heap.size w.heap.size (w.heap.size + 1) 4400000 (EncK w.heap.size w.heap.size) SK.out l a b (s[k]).toNat _ H3.out HG3.out ha hb HN2.out hl4 (by omega) (Nat.le_refl _) HB3.out.size).mono ?_; rintro e w5 ⟨rfl, h5, g5, b5⟩; have H5 := Lib.hid h5; have G5 := Lib.hid g5; have B5 := Lib.hid b5; clear h5 g5 b5)
      have hlt := HLT.out
      have hsz1 := HSZ1.out
      go_roundw
      case rel =>
        refine ⟨k + 1, (a * 2 ^ 8 + (s[k]).toNat) % 65536, (b + 8) % 6, _, rfl, by go_num, hlt, ?_, ?_, by omega, by omega, ?_, H5.out, G5.out, HB3.out.trans B5.out⟩
        · rw [← HE.out, HC.out, List.append_assoc]; rfl
        · rw [← HS0.out, HC.out]; rfl
        · have := HEL.out
          rw [List.length_append]; omega
      case measure => simp [RowKit.intOf]; omega
    · have hkl : k = s.data.toList.length := by omega
      have hlt3 : ¬ (k : Int) < (s.size : Int) := by omega
      have he2 := HE.out
      have hs2 := HS0.out
      rw [hkl, List.drop_length] at he2 hs2
      simp only [encGo, encSt, List.append_nil] at he2 hs2
      have hl5 : l.length ≤ 4400000 := by omega
      have HE2 := Lib.hid he2; have HS2 := Lib.hid hs2
      clear he2 hs2 hkl hlt hk hsz1
      have hd := decide_eq_false hlt3
      have hal : encAll s.data.toList = if 0 < b then l ++ emit 6 ((a * 2 ^ 8 + 0) % 65536) 2 (b + 8) else l := by
        unfold encAll; rw [← HS2.out, ← HE2.out]
      have hll := encAll_len s.data.toList
      by_cases hb0 : 0 < b
      · rw [if_pos hb0] at hal
        obtain ⟨LG, hLG⟩ : ∃ LG, LG = l ++ emit 6 ((a * 2 ^ 8 + 0) % 65536) 2 (b + 8) := ⟨_, rfl⟩
        rw [← hLG] at hal
        have HLG := Lib.hid hLG
        clear hLG
        rw [hal] at hll
        have hb1 : (0 : Int) < (b : Int) := by omega
        have htz : (⟨(LG.map letterC).toArray⟩ : ByteArray).size = LG.length := by simp [ByteArray.size]
        rw [HSZ.out] at hll
        have hout := enc_out s LG hal
        have HAL := Lib.hid hout
        generalize hT : (⟨(LG.map letterC).toArray⟩ : ByteArray) = T at htz
        have HT := Lib.hid hT
        clear hT hal hout
        have hq : ((s.size : Int) * 8 + 6 - 1) / 6 ≤ (T.size : Int) := by omega
        obtain ⟨p, hp⟩ : ∃ p : Nat, p = (4 - ((s.size * 8 + 5) / 6) % 4) % 4 := ⟨_, rfl⟩
        have hp3 : p ≤ 3 := by omega
        have HP := Lib.hid (pads_int s.size p hp)
        have hPz : (⟨(List.replicate p (61 : UInt8)).toArray⟩ : ByteArray).size = p := by simp [ByteArray.size]
        have RP := Lib.hid (repeat_pads p hp3)
        have HPP := Lib.hid hp
        clear hp
        generalize hPP : (⟨(List.replicate p (61 : UInt8)).toArray⟩ : ByteArray) = PP at hPz RP
        have HPB := Lib.hid hPP
        clear hPP
        go_wp2_with (first
          | (go_at_call 110; refine (gat8_c w.heap.size w.heap.size (w.heap.size + 1) 4400000 (EncK w.heap.size w.heap.size) SK.out l a b 0 _ H3.out HG3.out ha hb (by decide) hl5 (by omega) (Nat.le_refl _) HB3.out.size).mono ?_; rintro e w5 ⟨rfl, h5, g5, b5⟩; rw [← HLG.out] at h5; have HK5 := Lib.hid h5; have HBX := Lib.hid (HB3.out.trans b5); clear h5 g5 b5)
          | (go_at_call 36; refine (Tryz.Builder_String_any_k w.heap.size w.heap.size (LG.map letterC) _ HK5.out HBX.out.size).mono ?_; rintro e W1 ⟨rfl, _, b1, _⟩; rw [HT.out]; have HB4 := Lib.hid b1; clear b1)
          | (go_at_call 88; rw [HP.out]; refine (RP.out _).mono ?_; rintro e W2 ⟨rfl, b2⟩; have HB5 := Lib.hid b2; clear b2))
        go_ret
        refine ⟨?_, (HBX.out.trans HB4.out).trans (HB5.out.mono (HBX.out.trans HB4.out).size)⟩
        rw [← HAL.out p HPP.out, HT.out, HPB.out]
        rfl
      · rw [if_neg hb0] at hal
        obtain rfl : b = 0 := by omega
        rw [hal] at hll
        have htz : (⟨(l.map letterC).toArray⟩ : ByteArray).size = l.length := by simp [ByteArray.size]
        rw [HSZ.out] at hll
        have hout := enc_out s l hal
        have HAL := Lib.hid hout
        generalize hT : (⟨(l.map letterC).toArray⟩ : ByteArray) = T at htz
        have HT := Lib.hid hT
        clear hT hal hout
        have hq : ((s.size : Int) * 8 + 6 - 1) / 6 ≤ (T.size : Int) := by omega
        obtain ⟨p, hp⟩ : ∃ p : Nat, p = (4 - ((s.size * 8 + 5) / 6) % 4) % 4 := ⟨_, rfl⟩
        have hp3 : p ≤ 3 := by omega
        have HP := Lib.hid (pads_int s.size p hp)
        have hPz : (⟨(List.replicate p (61 : UInt8)).toArray⟩ : ByteArray).size = p := by simp [ByteArray.size]
        have RP := Lib.hid (repeat_pads p hp3)
        have HPP := Lib.hid hp
        clear hp
        generalize hPP : (⟨(List.replicate p (61 : UInt8)).toArray⟩ : ByteArray) = PP at hPz RP
        have HPB := Lib.hid hPP
        clear hPP
        go_wp2_with (first
          | (go_at_call 36; refine (Tryz.Builder_String_any_k w.heap.size w.heap.size (l.map letterC) _ H3.out HB3.out.size).mono ?_; rintro e W1 ⟨rfl, _, b1, _⟩; rw [HT.out]; have HB4 := Lib.hid b1; clear b1)
          | (go_at_call 88; rw [HP.out]; refine (RP.out _).mono ?_; rintro e W2 ⟨rfl, b2⟩; have HB5 := Lib.hid b2; clear b2))
        go_ret
        refine ⟨?_, (HB3.out.trans HB4.out).trans (HB5.out.mono (HB3.out.trans HB4.out).size)⟩
        rw [← HAL.out p HPP.out, HT.out, HPB.out]
        rfl
end Go.Proofs.YtpcncpegbboljaaGreatDoor.B64
namespace Go.Proofs.YtpcncpegbboljaaGreatDoor.B64
open Go.RowKit Go.Lib Go.Proofs.YtpcncpegbboljaaGreatDoor
set_option linter.unusedVariables false
set_option linter.unusedSimpArgs false
def encC : List UInt8 → List Nat
  | [] => []
  | [x] => [x.toNat / 4, x.toNat % 4 * 16]
  | [x, y] => [x.toNat / 4, x.toNat % 4 * 16 + y.toNat / 16, y.toNat % 16 * 4]
  | x :: y :: z :: r => [x.toNat / 4, x.toNat % 4 * 16 + y.toNat / 16, y.toNat % 16 * 4 + z.toNat / 64, z.toNat % 64] ++ encC r
theorem encC_lt : ∀ (n : Nat) (l : List UInt8), l.length ≤ n → ∀ g ∈ encC l, g < 64
  | _, [], _, g, h => by simp [encC] at h
  | _, [x], _, g, h => by
    have := UInt8.toNat_lt x
    simp [encC] at h; omega
  | _, [x, y], _, g, h => by
    have := UInt8.toNat_lt x; have := UInt8.toNat_lt y
    simp [encC] at h; omega
  | 0, x :: y :: z :: r, hl, g, h => by simp at hl
  | n + 1, x :: y :: z :: r, hl, g, h => by
    have := UInt8.toNat_lt x; have := UInt8.toNat_lt y; have := UInt8.toNat_lt z
    simp only [encC, List.mem_append] at h
    rcases h with h | h
    · simp at h; omega
    · exact encC_lt n r (by simp only [List.length_cons] at hl; omega) g h
theorem encC_len : ∀ (n : Nat) (l : List UInt8), l.length ≤ n → (encC l).length = (l.length * 8 + 5) / 6
  | _, [], _ => rfl
  | _, [x], _ => by simp [encC]
  | _, [x, y], _ => by simp [encC]
  | 0, x :: y :: z :: r, hl => by simp at hl
  | n + 1, x :: y :: z :: r, hl => by
    simp only [encC, List.length_append, List.length_cons, List.length_nil] at hl ⊢
    rw [encC_len n r (by omega)]; omega
def encFrom (a : Nat) (l : List UInt8) : List Nat :=
  if 0 < (encSt a 0 l).2 then encGo a 0 l ++ emit 6 (((encSt a 0 l).1 * 2 ^ 8 + 0) % 65536) 2 ((encSt a 0 l).2 + 8) else encGo a 0 l
theorem em8 (T : Nat) : emit 6 T 2 8 = [T / 4 % 64] := by simp [emit]
theorem em10 (T : Nat) : emit 6 T 2 10 = [T / 16 % 64] := by simp [emit]
theorem em12 (T : Nat) : emit 6 T 2 12 = [T / 64 % 64, T % 64] := by simp [emit]
theorem encFrom_is : ∀ (n : Nat) (l : List UInt8) (a : Nat), l.length ≤ n → (encFrom a l).take ((l.length * 8 + 5) / 6) = encC l
  | _, [], a, _ => by simp [encFrom, encSt, encGo, encC]
  | _, [x], a, _ => by
    have := UInt8.toNat_lt x
    simp only [encFrom, encSt, encGo, encC, em8, em10, Nat.zero_add, List.append_nil, List.length_cons, List.length_nil]
    simp only [show (8 : Nat) % 6 = 2 from rfl, show (0 : Nat) < 2 from by decide, if_true, show 2 + 8 = 10 from rfl, em10, List.cons_append, List.nil_append, show ((0 + 1) * 8 + 5) / 6 = 2 from rfl, List.take_succ_cons, List.take_zero]
    congr 1
    · omega
    · congr 1; omega
  | _, [x, y], a, _ => by
    have := UInt8.toNat_lt x; have := UInt8.toNat_lt y
    simp only [encFrom, encSt, encGo, encC, em8, em10, Nat.zero_add, List.append_nil, List.length_cons, List.length_nil]
    simp only [show (8 : Nat) % 6 = 2 from rfl, show (2 + 8 : Nat) % 6 = 4 from rfl, show (0 : Nat) < 4 from by decide, if_true, show 2 + 8 = 10 from rfl, show 4 + 8 = 12 from rfl, em10, em12, List.cons_append, List.nil_append, show ((1 + 1) * 8 + 5) / 6 = 3 from rfl, List.take_succ_cons, List.take_zero]
    congr 1
    · omega
    · congr 1
      · omega
      · congr 1; omega
  | 0, x :: y :: z :: r, a, hl => by simp at hl
  | n + 1, x :: y :: z :: r, a, hl => by
    have := UInt8.toNat_lt x; have := UInt8.toNat_lt y; have := UInt8.toNat_lt z
    have ih := encFrom_is n r ((((a * 2 ^ 8 + x.toNat) % 65536 * 2 ^ 8 + y.toNat) % 65536 * 2 ^ 8 + z.toNat) % 65536) (by simp only [List.length_cons] at hl; omega)
    have e : encFrom a (x :: y :: z :: r) = [x.toNat / 4, x.toNat % 4 * 16 + y.toNat / 16, y.toNat % 16 * 4 + z.toNat / 64, z.toNat % 64] ++ encFrom ((((a * 2 ^ 8 + x.toNat) % 65536 * 2 ^ 8 + y.toNat) % 65536 * 2 ^ 8 + z.toNat) % 65536) r := by
      simp only [encFrom, encSt, encGo, Nat.zero_add, show (8 : Nat) % 6 = 2 from rfl, show 2 + 8 = 10 from rfl, show (10 : Nat) % 6 = 4 from rfl, show 4 + 8 = 12 from rfl, show (12 : Nat) % 6 = 0 from rfl, em8, em10, em12]
      obtain ⟨p, hp⟩ : ∃ p, p = (a * 2 ^ 8 + x.toNat) % 65536 := ⟨_, rfl⟩
      have p1 : p % 256 = x.toNat := by omega
      have e1 : p / 4 % 64 = x.toNat / 4 := by omega
      rw [← hp]
      clear hp
      obtain ⟨q, hq⟩ : ∃ q, q = (p * 2 ^ 8 + y.toNat) % 65536 := ⟨_, rfl⟩
      have q1 : q = x.toNat * 256 + y.toNat := by omega
      have e2 : q / 16 % 64 = x.toNat % 4 * 16 + y.toNat / 16 := by omega
      rw [← hq]
      clear hq
      obtain ⟨u, hu⟩ : ∃ u, u = (q * 2 ^ 8 + z.toNat) % 65536 := ⟨_, rfl⟩
      have u1 : u = y.toNat * 256 + z.toNat := by omega
      have e3 : u / 64 % 64 = y.toNat % 16 * 4 + z.toNat / 64 := by omega
      have e4 : u % 64 = z.toNat % 64 := by omega
      rw [← hu, e1, e2, e3, e4]
      split <;> simp
    rw [e, encC, ← ih]
    simp only [List.length_cons]
    rw [show ((r.length + 1 + 1 + 1) * 8 + 5) / 6 = (r.length * 8 + 5) / 6 + 4 by omega]
    simp
theorem encT_is (l : List UInt8) : b64EncT l = (encC l).map letterC := by
  have := encFrom_is l.length l 0 (Nat.le_refl _)
  unfold b64EncT
  rw [← List.map_take]
  exact congrArg (List.map letterC) this
theorem place_letter : ∀ n : Fin 64, placeC (letterC n.val) = n.val := by decide +kernel
theorem letter_ne : ∀ n : Fin 64, letterC n.val ≠ 61 := by decide +kernel
theorem place_letter' (n : Nat) (h : n < 64) : placeC (letterC n) = n := place_letter ⟨n, h⟩
theorem dm6 (T : Nat) : emit 8 T 2 6 = [] := by simp [emit]
theorem dm12 (T : Nat) : emit 8 T 2 12 = [T / 16 % 256] := by simp [emit]
theorem dm10 (T : Nat) : emit 8 T 2 10 = [T / 4 % 256] := by simp [emit]
theorem dm8 (T : Nat) : emit 8 T 2 8 = [T % 256] := by simp [emit]
theorem decGo_letter (a b n : Nat) (h : n < 64) (r : List UInt8) : decGo a b (letterC n :: r) = emit 8 ((a * 2 ^ 6 + n) % 65536) 2 (b + 6) ++ decGo ((a * 2 ^ 6 + n) % 65536) ((b + 6) % 8) r := by
  simp only [decGo]; rw [place_letter' n h, if_pos (by omega), Int.toNat_natCast]
theorem dec_encC : ∀ (n : Nat) (l : List UInt8) (a : Nat), l.length ≤ n → (decGo a 0 ((encC l).map letterC)).map Nat.toUInt8 = l
  | _, [], a, _ => by simp [encC, decGo]
  | _, [x], a, _ => by
    have := UInt8.toNat_lt x
    simp only [encC, List.map_cons, List.map_nil]
    rw [decGo_letter _ _ _ (by omega), decGo_letter _ _ _ (by omega)]
    simp only [decGo, Nat.zero_add, dm6, dm12, show (6 : Nat) % 8 = 6 from rfl, show 6 + 6 = 12 from rfl, List.nil_append, List.append_nil, List.map_cons, List.map_nil]
    congr 1
    have e : ((a * 2 ^ 6 + x.toNat / 4) % 65536 * 2 ^ 6 + x.toNat % 4 * 16) % 65536 / 16 % 256 = x.toNat := by omega
    rw [e]; simp
  | _, [x, y], a, _ => by
    have := UInt8.toNat_lt x; have := UInt8.toNat_lt y
    simp only [encC, List.map_cons, List.map_nil]
    rw [decGo_letter _ _ _ (by omega), decGo_letter _ _ _ (by omega), decGo_letter _ _ _ (by omega)]
    simp only [decGo, Nat.zero_add, dm6, dm12, dm10, show (6 : Nat) % 8 = 6 from rfl, show 6 + 6 = 12 from rfl, show (12 : Nat) % 8 = 4 from rfl, show 4 + 6 = 10 from rfl, List.nil_append, List.append_nil, List.map_cons, List.map_nil, List.cons_append]
    have e : ((a * 2 ^ 6 + x.toNat / 4) % 65536 * 2 ^ 6 + (x.toNat % 4 * 16 + y.toNat / 16)) % 65536 / 16 % 256 = x.toNat := by omega
    have e2 : (((a * 2 ^ 6 + x.toNat / 4) % 65536 * 2 ^ 6 + (x.toNat % 4 * 16 + y.toNat / 16)) % 65536 * 2 ^ 6 + y.toNat % 16 * 4) % 65536 / 4 % 256 = y.toNat := by omega
    rw [e, e2]; simp
  | 0, x :: y :: z :: r, a, hl => by simp at hl
  | n + 1, x :: y :: z :: r, a, hl => by
    have := UInt8.toNat_lt x; have := UInt8.toNat_lt y; have := UInt8.toNat_lt z
    simp only [encC, List.map_append, List.map_cons, List.map_nil, List.cons_append, List.nil_append]
    rw [decGo_letter _ _ _ (by omega), decGo_letter _ _ _ (by omega), decGo_letter _ _ _ (by omega), decGo_letter _ _ _ (by omega)]
    simp only [Nat.zero_add, dm6, dm12, dm10, dm8, show (6 : Nat) % 8 = 6 from rfl, show 6 + 6 = 12 from rfl, show (12 : Nat) % 8 = 4 from rfl, show 4 + 6 = 10 from rfl, show (10 : Nat) % 8 = 2 from rfl, show 2 + 6 = 8 from rfl, show (8 : Nat) % 8 = 0 from rfl, List.nil_append, List.append_nil, List.map_cons, List.map_nil, List.cons_append]
    rw [dec_encC n r _ (by simp only [List.length_cons] at hl; omega)]
    have e : ((a * 2 ^ 6 + x.toNat / 4) % 65536 * 2 ^ 6 + (x.toNat % 4 * 16 + y.toNat / 16)) % 65536 / 16 % 256 = x.toNat := by omega
    have e2 : (((a * 2 ^ 6 + x.toNat / 4) % 65536 * 2 ^ 6 + (x.toNat % 4 * 16 + y.toNat / 16)) % 65536 * 2 ^ 6 + (y.toNat % 16 * 4 + z.toNat / 64)) % 65536 / 4 % 256 = y.toNat := by omega
    have e3 : ((((a * 2 ^ 6 + x.toNat / 4) % 65536 * 2 ^ 6 + (x.toNat % 4 * 16 + y.toNat / 16)) % 65536 * 2 ^ 6 + (y.toNat % 16 * 4 + z.toNat / 64)) % 65536 * 2 ^ 6 + z.toNat % 64) % 65536 % 256 = z.toNat := by omega
    rw [e, e2, e3]; simp
theorem cut_pads (l : List UInt8) (n : Nat) (h : ∀ c ∈ l, c ≠ 61) : (cutL 61 (l ++ List.replicate n 61)).1 = l := by
  unfold cutL
  have ht : l.takeWhile (· != 61) = l := by
    have := List.takeWhile_append_of_pos (l₁ := l) (l₂ := []) (p := (· != 61)) (fun c hc => by simpa using h c hc)
    simpa using this
  split
  · show List.takeWhile _ _ = _
    rw [List.takeWhile_append, ht, if_pos rfl]
    cases n <;> simp [List.replicate_succ]
  · rename_i hn
    cases n with
    | zero => simp
    | succ n => exact absurd (by simp [List.replicate_succ]) hn
theorem enc_letters (l : List UInt8) : ∀ c ∈ (encC l).map letterC, c ≠ 61 := by
  intro c hc
  obtain ⟨g, hg, rfl⟩ := List.mem_map.1 hc
  exact letter_ne ⟨g, encC_lt _ _ (Nat.le_refl _) g hg⟩
theorem b64_back (l : List UInt8) : b64DecL (b64EncL l) = l := by
  unfold b64DecL b64EncL
  rw [encT_is, cut_pads _ _ (enc_letters l)]
  exact dec_encC _ _ _ (Nat.le_refl _)
theorem b64_len (l : List UInt8) : (b64EncL l).length = (l.length + 2) / 3 * 4 := by
  unfold b64EncL
  rw [encT_is, List.length_append, List.length_replicate, List.length_map, encC_len _ _ (Nat.le_refl _)]
  obtain ⟨m, hm⟩ : ∃ m : Nat, m = (l.length * 8 + 5) / 6 := ⟨_, rfl⟩
  rw [← hm]; omega
end Go.Proofs.YtpcncpegbboljaaGreatDoor.B64
namespace Go.Proofs.YtpcncpegbboljaaGreatDoor.WordQ
open Go.RowKit Go.Lib Go.Proofs.YtpcncpegbboljaaGreatDoor
set_option linter.unusedVariables false
def upW (c : UInt8) : UInt8 := if 97 ≤ c.toNat ∧ c.toNat ≤ 102 then UInt8.ofNat (c.toNat - 32) else c
theorem upper_e (c : UInt8) (w : World) : Calls Tryz.prog 124 #[.int .u8 (c.toNat : Int)] w fun e w' => e = .returned (.int .u8 ((upW c).toNat : Int)) ∧ w' = w := by
  have hc : c.toNat < 256 := UInt8.toNat_lt _
  by_cases h1 : 97 ≤ c.toNat
  · by_cases h2 : c.toNat ≤ 102
    · have e : (upW c).toNat = c.toNat - 32 := by
        unfold upW; rw [if_pos ⟨h1, h2⟩, UInt8.toNat_ofNat']; omega
      have HE := Lib.hid (show ((upW c).toNat : Int) = (c.toNat : Int) - 32 by omega)
      clear e
      go_enter Tryz.func124, Tryz.ntmps124
      go_wp2
      go_ret
      refine ⟨?_, rfl⟩
      rw [HE.out]
      refine congrArg (fun x => Ending.returned (Value.int IntKind.u8 x)) ?_
      first | (simp; done) | omega
    · have HE := Lib.hid (show upW c = c by unfold upW; rw [if_neg (by omega)])
      go_enter Tryz.func124, Tryz.ntmps124
      go_wp2
      go_ret
      exact ⟨by rw [HE.out]; rfl, rfl⟩
  · have HE := Lib.hid (show upW c = c by unfold upW; rw [if_neg (by omega)])
    go_enter Tryz.func124, Tryz.ntmps124
    go_wp2
    go_ret
    exact ⟨by rw [HE.out]; rfl, rfl⟩
def digitsB : ByteArray := ⟨#[48, 49, 50, 51, 52, 53, 54, 55, 56, 57, 65, 66, 67, 68, 69, 70]⟩
def hexW (c : UInt8) : Int := indexByte digitsB.data.toList (upW c)
theorem hexW_all : ∀ c : Fin 256, hexW (UInt8.ofNat c.val) = -1 ∨ (0 ≤ hexW (UInt8.ofNat c.val) ∧ hexW (UInt8.ofNat c.val) < 16) := by decide +kernel
theorem hexW_r (c : UInt8) : hexW c = -1 ∨ (0 ≤ hexW c ∧ hexW c < 16) := by
  have := hexW_all ⟨c.toNat, UInt8.toNat_lt c⟩
  simpa using this
theorem index_digits (c : UInt8) (W : World) : Calls Tryz.prog 108 #[.string (⟨#[48, 49, 50, 51, 52, 53, 54, 55, 56, 57, 65, 66, 67, 68, 69, 70]⟩ : ByteArray), .int .u8 ((upW c).toNat : Int)] W fun e w' => e = .returned (.int .i64 (hexW c)) ∧ w' = W :=
  (Tryz.strings_IndexByte digitsB ((upW c).toNat : Int) W).mono (by
    rintro e w' ⟨rfl, rfl⟩
    refine ⟨?_, rfl⟩
    unfold hexW
    rw [show (((upW c).toNat : Int)).toNat.toUInt8 = upW c by simp])
theorem hex_or : ∀ a b : Fin 16, bits .or .i64 (wrap64 ((a.val : Int) * 16)) (b.val : Int) = ((16 * a.val + b.val : Nat) : Int) := by decide +kernel
def quotedL : List UInt8 → List UInt8
  | [] => []
  | [c] => [if c = 95 then 32 else c]
  | [c, d] => (if c = 95 then 32 else c) :: quotedL [d]
  | c :: a :: b :: r =>
    if c = 61 ∧ 0 ≤ hexW a ∧ 0 ≤ hexW b then UInt8.ofNat (16 * (hexW a).toNat + (hexW b).toNat) :: quotedL r
    else (if c = 95 then 32 else c) :: quotedL (a :: b :: r)
theorem quoted_len : ∀ (n : Nat) (l : List UInt8), l.length ≤ n → (quotedL l).length ≤ l.length
  | 0, l, h => by
    obtain rfl : l = [] := List.length_eq_zero_iff.1 (by omega)
    simp [quotedL]
  | n + 1, [], h => by simp [quotedL]
  | n + 1, [c], h => by simp [quotedL]
  | n + 1, [c, d], h => by simp [quotedL]
  | n + 1, c :: a :: b :: r, h => by
    simp only [quotedL]
    simp only [List.length_cons] at h
    split
    · have := quoted_len n r (by omega)
      simp only [List.length_cons]; omega
    · have := quoted_len n (a :: b :: r) (by simp only [List.length_cons]; omega)
      simp only [List.length_cons] at this ⊢; omega
end Go.Proofs.YtpcncpegbboljaaGreatDoor.WordQ
namespace Go.Proofs.YtpcncpegbboljaaGreatDoor.C
open Go.RowKit Go.Proofs.YtpcncpegbboljaaGreatDoorW.PrintWords Go.Proofs.YtpcncpegbboljaaGreatDoorW.PrintLast Go.Proofs.YtpcncpegbboljaaGreatDoorW.PrintMore
attribute [local go_sem] max2_int min2_int max_two min_two max_three min_three max_four min_four
set_option linter.unusedVariables false
set_option linter.unusedSimpArgs false
def errW : Option Int → Value
  | none => .nilIface
  | some c => .iface 0 (.int .i64 c)
theorem errW_none : errW none = .nilIface := rfl
theorem errW_some (c : Int) : errW (some c) = .iface 0 (.int .i64 c) := rfl
end Go.Proofs.YtpcncpegbboljaaGreatDoor.C
namespace Go.Proofs.YtpcncpegbboljaaGreatDoor.C
open Go.RowKit Go.Proofs.YtpcncpegbboljaaGreatDoorW.PrintWords Go.Proofs.YtpcncpegbboljaaGreatDoorW.PrintLast Go.Proofs.YtpcncpegbboljaaGreatDoorW.PrintMore
attribute [local go_sem] max2_int min2_int max_two min_two max_three min_three max_four min_four
set_option linter.unusedVariables false
set_option linter.unusedSimpArgs false
mutual
def chars_Known.j0 : Nat → ByteArray → Bool → Option (ByteArray × Bool)
  | 0, _, _ => none
  | k + 1, x6, x7 => if x7 = true then (some ((⟨#[117, 116, 102, 45, 56]⟩ : ByteArray), true)) else (if x6.toList = ([119, 105, 110, 100, 111, 119, 115, 45, 49, 50, 53, 50] : List UInt8) then (chars_Known.j1 k x6 (x6.toList == ([119, 105, 110, 100, 111, 119, 115, 45, 49, 50, 53, 50] : List UInt8))) else (if x6.toList = ([99, 112, 49, 50, 53, 50] : List UInt8) then (chars_Known.j1 k x6 (x6.toList == ([99, 112, 49, 50, 53, 50] : List UInt8))) else (if x6.toList = ([117, 115, 45, 97, 115, 99, 105, 105] : List UInt8) then (chars_Known.j1 k x6 (x6.toList == ([117, 115, 45, 97, 115, 99, 105, 105] : List UInt8))) else (if x6.toList = ([97, 115, 99, 105, 105] : List UInt8) then (chars_Known.j1 k x6 (x6.toList == ([97, 115, 99, 105, 105] : List UInt8))) else (if x6.toList = ([105, 115, 111, 45, 56, 56, 53, 57, 45, 49] : List UInt8) then (chars_Known.j1 k x6 (x6.toList == ([105, 115, 111, 45, 56, 56, 53, 57, 45, 49] : List UInt8))) else (if x6.toList = ([105, 115, 111, 56, 56, 53, 57, 45, 49] : List UInt8) then (chars_Known.j1 k x6 (x6.toList == ([105, 115, 111, 56, 56, 53, 57, 45, 49] : List UInt8))) else (if x6.toList = ([108, 97, 116, 105, 110, 49] : List UInt8) then (chars_Known.j1 k x6 (x6.toList == ([108, 97, 116, 105, 110, 49] : List UInt8))) else (chars_Known.j1 k x6 (x6.toList == ([108, 49] : List UInt8))))))))))
def chars_Known.j1 : Nat → ByteArray → Bool → Option (ByteArray × Bool)
  | 0, _, _ => none
  | k + 1, x6, x11 => if x11 = true then (some ((⟨#[119, 105, 110, 100, 111, 119, 115, 45, 49, 50, 53, 50]⟩ : ByteArray), true)) else (if x6.toList = ([117, 116, 102, 45, 49, 54, 108, 101] : List UInt8) then (chars_Known.j2 k x6 (x6.toList == ([117, 116, 102, 45, 49, 54, 108, 101] : List UInt8))) else (if x6.toList = ([117, 116, 102, 45, 49, 54] : List UInt8) then (chars_Known.j2 k x6 (x6.toList == ([117, 116, 102, 45, 49, 54] : List UInt8))) else (if x6.toList = ([117, 110, 105, 99, 111, 100, 101] : List UInt8) then (chars_Known.j2 k x6 (x6.toList == ([117, 110, 105, 99, 111, 100, 101] : List UInt8))) else (chars_Known.j2 k x6 (x6.toList == ([117, 99, 115, 45, 50] : List UInt8))))))
def chars_Known.j2 : Nat → ByteArray → Bool → Option (ByteArray × Bool)
  | 0, _, _ => none
  | k + 1, x6, x20 => if x20 = true then (some ((⟨#[117, 116, 102, 45, 49, 54, 108, 101]⟩ : ByteArray), true)) else (if x6.toList = ([117, 116, 102, 45, 49, 54, 98, 101] : List UInt8) then (some ((⟨#[117, 116, 102, 45, 49, 54, 98, 101]⟩ : ByteArray), true)) else (if x6.toList = ([117, 110, 105, 99, 111, 100, 101, 102, 102, 102, 101] : List UInt8) then (some ((⟨#[117, 116, 102, 45, 49, 54, 98, 101]⟩ : ByteArray), true)) else (some ((⟨#[]⟩ : ByteArray), false))))
end
def chars_Known.f (k : Nat) (a0 : ByteArray) : Option (ByteArray × Bool) := (strings_Trim.f a0 (⟨#[32, 9, 10, 12, 13]⟩ : ByteArray)).bind fun t101 => ((chars_small.f t101).bind fun t102 => (if t102.toList = ([117, 116, 102, 45, 56] : List UInt8) then (chars_Known.j0 k t102 (t102.toList == ([117, 116, 102, 45, 56] : List UInt8))) else (if t102.toList = ([117, 116, 102, 56] : List UInt8) then (chars_Known.j0 k t102 (t102.toList == ([117, 116, 102, 56] : List UInt8))) else (chars_Known.j0 k t102 (t102.toList == ([117, 110, 105, 99, 111, 100, 101, 45, 49, 45, 49, 45, 117, 116, 102, 45, 56] : List UInt8))))))
theorem chars_Known.mono_l : ∀ k, (∀ y0 y1, LeO (chars_Known.j0 k y0 y1) (chars_Known.j0 (k + 1) y0 y1)) ∧ (∀ y0 y1, LeO (chars_Known.j1 k y0 y1) (chars_Known.j1 (k + 1) y0 y1)) ∧ (∀ y0 y1, LeO (chars_Known.j2 k y0 y1) (chars_Known.j2 (k + 1) y0 y1))
  | 0 => ⟨fun _ _ r h => by simp [chars_Known.j0] at h, fun _ _ r h => by simp [chars_Known.j1] at h, fun _ _ r h => by simp [chars_Known.j2] at h⟩
  | k + 1 => by
    obtain ⟨ih0, ih1, ih2⟩ := chars_Known.mono_l k
    refine ⟨?_, ?_, ?_⟩
    · intro y0 y1
      unfold chars_Known.j0
      repeat' first
      | (with_reducible exact ih0 _ _)
      | (with_reducible exact ih1 _ _)
      | (with_reducible exact ih2 _ _)
      | (with_reducible exact LeO.refl _)
      | (with_reducible exact LeO.none _)
      | (with_reducible refine LeO.ite ?_ ?_)
      | (with_reducible refine LeO.bind ?_ (fun _ => ?_))
      | exact ih0 _ _
      | exact ih1 _ _
      | exact ih2 _ _
      | exact LeO.none _
      | refine LeO.ite ?_ ?_
      | refine LeO.bind ?_ (fun _ => ?_)
    · intro y0 y1
      unfold chars_Known.j1
      repeat' first
      | (with_reducible exact ih0 _ _)
      | (with_reducible exact ih1 _ _)
      | (with_reducible exact ih2 _ _)
      | (with_reducible exact LeO.refl _)
      | (with_reducible exact LeO.none _)
      | (with_reducible refine LeO.ite ?_ ?_)
      | (with_reducible refine LeO.bind ?_ (fun _ => ?_))
      | exact ih0 _ _
      | exact ih1 _ _
      | exact ih2 _ _
      | exact LeO.none _
      | refine LeO.ite ?_ ?_
      | refine LeO.bind ?_ (fun _ => ?_)
    · intro y0 y1
      unfold chars_Known.j2
      repeat' first
      | (with_reducible exact ih0 _ _)
      | (with_reducible exact ih1 _ _)
      | (with_reducible exact ih2 _ _)
      | (with_reducible exact LeO.refl _)
      | (with_reducible exact LeO.none _)
      | (with_reducible refine LeO.ite ?_ ?_)
      | (with_reducible refine LeO.bind ?_ (fun _ => ?_))
      | exact ih0 _ _
      | exact ih1 _ _
      | exact ih2 _ _
      | exact LeO.none _
      | refine LeO.ite ?_ ?_
      | refine LeO.bind ?_ (fun _ => ?_)
set_option maxHeartbeats 8000000 in
set_option maxRecDepth 100000 in
theorem chars_Known.calls (k : Nat) (a0 : ByteArray) (r1 : ByteArray) (r2 : Bool) (w : World) (h : chars_Known.f k a0 = some (r1, r2)) :
    Calls Tryz.prog 97 #[.string a0] w fun e w' => e = .returned (.tuple #[.string r1, .bool r2]) ∧ Below w.heap.size w w' := by
  have HB := Aside0.mk (Below.refl w.heap.size w); have H : ((strings_Trim.f a0 (⟨#[32, 9, 10, 12, 13]⟩ : ByteArray)).bind fun t101 => ((chars_small.f t101).bind fun t102 => (if t102.toList = ([117, 116, 102, 45, 56] : List UInt8) then (chars_Known.j0 k t102 (t102.toList == ([117, 116, 102, 45, 56] : List UInt8))) else (if t102.toList = ([117, 116, 102, 56] : List UInt8) then (chars_Known.j0 k t102 (t102.toList == ([117, 116, 102, 56] : List UInt8))) else (chars_Known.j0 k t102 (t102.toList == ([117, 110, 105, 99, 111, 100, 101, 45, 49, 45, 49, 45, 117, 116, 102, 45, 56] : List UInt8))))))) = some (r1, r2) := h; clear h; replace H := Option.bind_eq_some_iff.mp H; obtain ⟨t101, A20, H⟩ := H; replace H : ((chars_small.f t101).bind fun t102 => (if t102.toList = ([117, 116, 102, 45, 56] : List UInt8) then (chars_Known.j0 k t102 (t102.toList == ([117, 116, 102, 45, 56] : List UInt8))) else (if t102.toList = ([117, 116, 102, 56] : List UInt8) then (chars_Known.j0 k t102 (t102.toList == ([117, 116, 102, 56] : List UInt8))) else (chars_Known.j0 k t102 (t102.toList == ([117, 110, 105, 99, 111, 100, 101, 45, 49, 45, 49, 45, 117, 116, 102, 45, 56] : List UInt8)))))) = some (r1, r2) := H; have A2 := Aside0.mk A20; clear A20; replace H := Option.bind_eq_some_iff.mp H; obtain ⟨t102, A30, H⟩ := H; replace H : (if t102.toList = ([117, 116, 102, 45, 56] : List UInt8) then (chars_Known.j0 k t102 (t102.toList == ([117, 116, 102, 45, 56] : List UInt8))) else (if t102.toList = ([117, 116, 102, 56] : List UInt8) then (chars_Known.j0 k t102 (t102.toList == ([117, 116, 102, 56] : List UInt8))) else (chars_Known.j0 k t102 (t102.toList == ([117, 110, 105, 99, 111, 100, 101, 45, 49, 45, 49, 45, 117, 116, 102, 45, 56] : List UInt8))))) = some (r1, r2) := H; have A3 := Aside0.mk A30; clear A30; have HC4 := Aside0.mk H; clear H
  go_enter Tryz.func97, Tryz.ntmps97
  go_upto_if 7 with (first | ((with_reducible refine gate_callee (f := 43) rfl ?_); refine goesL_ (some 5) rfl rfl Tryz.func43 (by kernel_rfl) rfl #[.string a0, .string (⟨#[32, 9, 10, 12, 13]⟩ : ByteArray)] rfl (by (try simp only [List.map_toArray, List.map_cons, List.map_nil]); first | done | rfl | (simp only [List.length_drop, List.length_take]; rfl)) ?_; (with_reducible refine (strings_Trim.calls a0 (⟨#[32, 9, 10, 12, 13]⟩ : ByteArray) t101 _ A2.out).mono ?_); rintro e w5 ⟨rfl, hb⟩; refine ⟨_, rfl, ?_⟩; have n0_ := Aside0.mk (below_step (by repeat (first | (with_reducible first | exact HB.out | apply below_alloc | apply pw_below_drewN | apply below_drew1) | exact HB.out)) hb); clear HB; have HB := n0_; clear n0_; (try clear hb); (try clear hb2); (try clear hk); (try clear hi)) | ((with_reducible refine gate_callee (f := 122) rfl ?_); refine goesL_ (some 6) rfl rfl Tryz.func122 (by kernel_rfl) rfl #[.string t101] rfl (by (try simp only [List.map_toArray, List.map_cons, List.map_nil]); first | done | rfl | (simp only [List.length_drop, List.length_take]; rfl)) ?_; (with_reducible refine (chars_small.calls t101 t102 _ A3.out).mono ?_); rintro e w6 ⟨rfl, hb⟩; refine ⟨_, rfl, ?_⟩; have n0_ := Aside0.mk (below_step (by repeat (first | (with_reducible first | exact HB.out | apply below_alloc | apply pw_below_drewN | apply below_drew1) | exact HB.out)) hb); clear HB; have HB := n0_; clear n0_; (try clear hb); (try clear hb2); (try clear hk); (try clear hi)))
  (try simp only [Act.put, List.setIfInBounds_toArray, List.set_cons_zero, List.set_cons_succ])
  go_cut [7] (fun v7 wc => ∃ (kq : Nat) (x7_3 : Bool), v7 = .bool x7_3 ∧ Aside0 (chars_Known.j0 kq t102 x7_3 = some (r1, r2)) ∧ Aside0 (kq ≤ k) ∧ Aside0 (Below w.heap.size w wc))
  case first =>
    have H := HC4.out; clear HC4
    by_cases c7 : t102.toList = ([117, 116, 102, 45, 56] : List UInt8)
    case pos =>
      rw [if_pos c7] at H; have c7b0 : (t102.toList == ([117, 116, 102, 45, 56] : List UInt8)) = true := beq_iff_eq.mpr c7; have c7b1 : (t102.toList != ([117, 116, 102, 45, 56] : List UInt8)) = false := bne_eq_false_iff_eq.mpr c7; clear c7
      (first | rw [c7b0] | (simp only [i64_w, i32_w]; rw [c7b0]) | skip)
      have H' := Aside0.mk H; clear H
      go_wp2
      go_meet
      case rel => exact ⟨_, ((t102.toList == ([117, 116, 102, 45, 56] : List UInt8))), (by first | rfl | (simp; done) | (simp [*]; done)), H', ⟨by first | omega | exact Nat.le_refl _⟩, ⟨by repeat (first | (with_reducible first | exact HB.out | apply below_alloc | apply pw_below_drewN | apply below_drew1) | exact HB.out)⟩⟩
    rw [if_neg c7] at H; have c7b0 : (t102.toList == ([117, 116, 102, 45, 56] : List UInt8)) = false := beq_eq_false_iff_ne.mpr c7; have c7b1 : (t102.toList != ([117, 116, 102, 45, 56] : List UInt8)) = true := bne_iff_ne.mpr c7
    (first | rw [c7b0] | (simp only [i64_w, i32_w]; rw [c7b0]) | skip)
    by_cases c8 : t102.toList = ([117, 116, 102, 56] : List UInt8)
    case pos =>
      rw [if_pos c8] at H; have c8b0 : (t102.toList == ([117, 116, 102, 56] : List UInt8)) = true := beq_iff_eq.mpr c8; have c8b1 : (t102.toList != ([117, 116, 102, 56] : List UInt8)) = false := bne_eq_false_iff_eq.mpr c8; clear c8; have H' := Aside0.mk H; clear H
      go_wp2
      go_meet
      case rel => exact ⟨_, ((t102.toList == ([117, 116, 102, 56] : List UInt8))), (by first | rfl | (simp; done) | (simp [*]; done)), H', ⟨by first | omega | exact Nat.le_refl _⟩, ⟨by repeat (first | (with_reducible first | exact HB.out | apply below_alloc | apply pw_below_drewN | apply below_drew1) | exact HB.out)⟩⟩
    rw [if_neg c8] at H; have c8b0 : (t102.toList == ([117, 116, 102, 56] : List UInt8)) = false := beq_eq_false_iff_ne.mpr c8; have c8b1 : (t102.toList != ([117, 116, 102, 56] : List UInt8)) = true := bne_iff_ne.mpr c8; have H' := Aside0.mk H; clear H
    go_wp2
    go_meet
    case rel => exact ⟨_, ((t102.toList == ([117, 110, 105, 99, 111, 100, 101, 45, 49, 45, 49, 45, 117, 116, 102, 45, 56] : List UInt8))), (by first | rfl | (simp; done) | (simp [*]; done)), H', ⟨by first | omega | exact Nat.le_refl _⟩, ⟨by repeat (first | (with_reducible first | exact HB.out | apply below_alloc | apply pw_below_drewN | apply below_drew1) | exact HB.out)⟩⟩
  case rest =>
    clear HC4; (try clear c1); (try clear p2); (try clear c4); (try clear c7); (try clear c7b0); (try clear c7b1); (try clear c8); (try clear c8b0); (try clear c8b1); obtain ⟨kq, x7_3, rfl, HA, HJ3, HB⟩ := hcut
    cases kq with
    | zero => exact absurd HA.out (by simp [chars_Known.j0])
    | succ kj3 =>
      have H := HA.out; clear HA; simp only [chars_Known.j0] at H
      by_cases c9 : x7_3 = true
      case pos =>
        subst c9
        have H1 : (some ((⟨#[117, 116, 102, 45, 56]⟩ : ByteArray), true)) = some (r1, r2) := by rw [if_pos rfl] at H; exact H
        clear H; have H := H1; clear H1; simp only [Option.some.injEq, Prod.mk.injEq] at H; obtain ⟨rfl, rfl⟩ := H
        go_wp2
        go_ret2
        exact ⟨by first | rfl | (simp [errW_none, errW_some] <;> rfl) | (simp [*, errW_none, errW_some] <;> rfl), by repeat (first | (with_reducible first | exact HB.out | apply below_alloc | apply pw_below_drewN | apply below_drew1) | exact HB.out)⟩
      replace c9 := Bool.eq_false_iff.mpr c9; subst c9
      have H1 : (if t102.toList = ([119, 105, 110, 100, 111, 119, 115, 45, 49, 50, 53, 50] : List UInt8) then (chars_Known.j1 kj3 t102 (t102.toList == ([119, 105, 110, 100, 111, 119, 115, 45, 49, 50, 53, 50] : List UInt8))) else (if t102.toList = ([99, 112, 49, 50, 53, 50] : List UInt8) then (chars_Known.j1 kj3 t102 (t102.toList == ([99, 112, 49, 50, 53, 50] : List UInt8))) else (if t102.toList = ([117, 115, 45, 97, 115, 99, 105, 105] : List UInt8) then (chars_Known.j1 kj3 t102 (t102.toList == ([117, 115, 45, 97, 115, 99, 105, 105] : List UInt8))) else (if t102.toList = ([97, 115, 99, 105, 105] : List UInt8) then (chars_Known.j1 kj3 t102 (t102.toList == ([97, 115, 99, 105, 105] : List UInt8))) else (if t102.toList = ([105, 115, 111, 45, 56, 56, 53, 57, 45, 49] : List UInt8) then (chars_Known.j1 kj3 t102 (t102.toList == ([105, 115, 111, 45, 56, 56, 53, 57, 45, 49] : List UInt8))) else (if t102.toList = ([105, 115, 111, 56, 56, 53, 57, 45, 49] : List UInt8) then (chars_Known.j1 kj3 t102 (t102.toList == ([105, 115, 111, 56, 56, 53, 57, 45, 49] : List UInt8))) else (if t102.toList = ([108, 97, 116, 105, 110, 49] : List UInt8) then (chars_Known.j1 kj3 t102 (t102.toList == ([108, 97, 116, 105, 110, 49] : List UInt8))) else (chars_Known.j1 kj3 t102 (t102.toList == ([108, 49] : List UInt8)))))))))) = some (r1, r2) := by rw [if_neg (show ¬ (false = true) by decide)] at H; exact H
      clear H; have H := H1; clear H1; have HC10 := Aside0.mk H; clear H
      go_upto_if 11 with (fail)
      go_cut [11] (fun v11 wc => ∃ (kq : Nat) (x11_9 : Bool), v11 = .bool x11_9 ∧ Aside0 (chars_Known.j1 kq t102 x11_9 = some (r1, r2)) ∧ Aside0 (kq ≤ kj3) ∧ Aside0 (Below w.heap.size w wc))
      case first =>
        have H := HC10.out; clear HC10
        by_cases c11 : t102.toList = ([119, 105, 110, 100, 111, 119, 115, 45, 49, 50, 53, 50] : List UInt8)
        case pos =>
          rw [if_pos c11] at H; have c11b0 : (t102.toList == ([119, 105, 110, 100, 111, 119, 115, 45, 49, 50, 53, 50] : List UInt8)) = true := beq_iff_eq.mpr c11; have c11b1 : (t102.toList != ([119, 105, 110, 100, 111, 119, 115, 45, 49, 50, 53, 50] : List UInt8)) = false := bne_eq_false_iff_eq.mpr c11; clear c11
          (first | rw [c11b0] | (simp only [i64_w, i32_w]; rw [c11b0]) | skip)
          have H' := Aside0.mk H; clear H
          go_wp2
          go_meet
          case rel => exact ⟨_, ((t102.toList == ([119, 105, 110, 100, 111, 119, 115, 45, 49, 50, 53, 50] : List UInt8))), (by first | rfl | (simp; done) | (simp [*]; done)), H', ⟨by have := HJ3.out; first | omega | exact Nat.le_refl _⟩, ⟨by repeat (first | (with_reducible first | exact HB.out | apply below_alloc | apply pw_below_drewN | apply below_drew1) | exact HB.out)⟩⟩
        rw [if_neg c11] at H; have c11b0 : (t102.toList == ([119, 105, 110, 100, 111, 119, 115, 45, 49, 50, 53, 50] : List UInt8)) = false := beq_eq_false_iff_ne.mpr c11; have c11b1 : (t102.toList != ([119, 105, 110, 100, 111, 119, 115, 45, 49, 50, 53, 50] : List UInt8)) = true := bne_iff_ne.mpr c11
        (first | rw [c11b0] | (simp only [i64_w, i32_w]; rw [c11b0]) | skip)
        by_cases c12 : t102.toList = ([99, 112, 49, 50, 53, 50] : List UInt8)
        case pos =>
          rw [if_pos c12] at H; have c12b0 : (t102.toList == ([99, 112, 49, 50, 53, 50] : List UInt8)) = true := beq_iff_eq.mpr c12; have c12b1 : (t102.toList != ([99, 112, 49, 50, 53, 50] : List UInt8)) = false := bne_eq_false_iff_eq.mpr c12; clear c12; have H' := Aside0.mk H; clear H
          go_wp2
          go_meet
          case rel => exact ⟨_, ((t102.toList == ([99, 112, 49, 50, 53, 50] : List UInt8))), (by first | rfl | (simp; done) | (simp [*]; done)), H', ⟨by have := HJ3.out; first | omega | exact Nat.le_refl _⟩, ⟨by repeat (first | (with_reducible first | exact HB.out | apply below_alloc | apply pw_below_drewN | apply below_drew1) | exact HB.out)⟩⟩
        rw [if_neg c12] at H; have c12b0 : (t102.toList == ([99, 112, 49, 50, 53, 50] : List UInt8)) = false := beq_eq_false_iff_ne.mpr c12; have c12b1 : (t102.toList != ([99, 112, 49, 50, 53, 50] : List UInt8)) = true := bne_iff_ne.mpr c12
        by_cases c13 : t102.toList = ([117, 115, 45, 97, 115, 99, 105, 105] : List UInt8)
        case pos =>
          rw [if_pos c13] at H; have c13b0 : (t102.toList == ([117, 115, 45, 97, 115, 99, 105, 105] : List UInt8)) = true := beq_iff_eq.mpr c13; have c13b1 : (t102.toList != ([117, 115, 45, 97, 115, 99, 105, 105] : List UInt8)) = false := bne_eq_false_iff_eq.mpr c13; clear c13; have H' := Aside0.mk H; clear H
          go_wp2
          go_meet
          case rel => exact ⟨_, ((t102.toList == ([117, 115, 45, 97, 115, 99, 105, 105] : List UInt8))), (by first | rfl | (simp; done) | (simp [*]; done)), H', ⟨by have := HJ3.out; first | omega | exact Nat.le_refl _⟩, ⟨by repeat (first | (with_reducible first | exact HB.out | apply below_alloc | apply pw_below_drewN | apply below_drew1) | exact HB.out)⟩⟩
        rw [if_neg c13] at H; have c13b0 : (t102.toList == ([117, 115, 45, 97, 115, 99, 105, 105] : List UInt8)) = false := beq_eq_false_iff_ne.mpr c13; have c13b1 : (t102.toList != ([117, 115, 45, 97, 115, 99, 105, 105] : List UInt8)) = true := bne_iff_ne.mpr c13
        by_cases c14 : t102.toList = ([97, 115, 99, 105, 105] : List UInt8)
        case pos =>
          rw [if_pos c14] at H; have c14b0 : (t102.toList == ([97, 115, 99, 105, 105] : List UInt8)) = true := beq_iff_eq.mpr c14; have c14b1 : (t102.toList != ([97, 115, 99, 105, 105] : List UInt8)) = false := bne_eq_false_iff_eq.mpr c14; clear c14; have H' := Aside0.mk H; clear H
          go_wp2
          go_meet
          case rel => exact ⟨_, ((t102.toList == ([97, 115, 99, 105, 105] : List UInt8))), (by first | rfl | (simp; done) | (simp [*]; done)), H', ⟨by have := HJ3.out; first | omega | exact Nat.le_refl _⟩, ⟨by repeat (first | (with_reducible first | exact HB.out | apply below_alloc | apply pw_below_drewN | apply below_drew1) | exact HB.out)⟩⟩
        rw [if_neg c14] at H; have c14b0 : (t102.toList == ([97, 115, 99, 105, 105] : List UInt8)) = false := beq_eq_false_iff_ne.mpr c14; have c14b1 : (t102.toList != ([97, 115, 99, 105, 105] : List UInt8)) = true := bne_iff_ne.mpr c14
        by_cases c15 : t102.toList = ([105, 115, 111, 45, 56, 56, 53, 57, 45, 49] : List UInt8)
        case pos =>
          rw [if_pos c15] at H; have c15b0 : (t102.toList == ([105, 115, 111, 45, 56, 56, 53, 57, 45, 49] : List UInt8)) = true := beq_iff_eq.mpr c15; have c15b1 : (t102.toList != ([105, 115, 111, 45, 56, 56, 53, 57, 45, 49] : List UInt8)) = false := bne_eq_false_iff_eq.mpr c15; clear c15; have H' := Aside0.mk H; clear H
          go_wp2
          go_meet
          case rel => exact ⟨_, ((t102.toList == ([105, 115, 111, 45, 56, 56, 53, 57, 45, 49] : List UInt8))), (by first | rfl | (simp; done) | (simp [*]; done)), H', ⟨by have := HJ3.out; first | omega | exact Nat.le_refl _⟩, ⟨by repeat (first | (with_reducible first | exact HB.out | apply below_alloc | apply pw_below_drewN | apply below_drew1) | exact HB.out)⟩⟩
        rw [if_neg c15] at H; have c15b0 : (t102.toList == ([105, 115, 111, 45, 56, 56, 53, 57, 45, 49] : List UInt8)) = false := beq_eq_false_iff_ne.mpr c15; have c15b1 : (t102.toList != ([105, 115, 111, 45, 56, 56, 53, 57, 45, 49] : List UInt8)) = true := bne_iff_ne.mpr c15
        by_cases c16 : t102.toList = ([105, 115, 111, 56, 56, 53, 57, 45, 49] : List UInt8)
        case pos =>
          rw [if_pos c16] at H; have c16b0 : (t102.toList == ([105, 115, 111, 56, 56, 53, 57, 45, 49] : List UInt8)) = true := beq_iff_eq.mpr c16; have c16b1 : (t102.toList != ([105, 115, 111, 56, 56, 53, 57, 45, 49] : List UInt8)) = false := bne_eq_false_iff_eq.mpr c16; clear c16; have H' := Aside0.mk H; clear H
          go_wp2
          go_meet
          case rel => exact ⟨_, ((t102.toList == ([105, 115, 111, 56, 56, 53, 57, 45, 49] : List UInt8))), (by first | rfl | (simp; done) | (simp [*]; done)), H', ⟨by have := HJ3.out; first | omega | exact Nat.le_refl _⟩, ⟨by repeat (first | (with_reducible first | exact HB.out | apply below_alloc | apply pw_below_drewN | apply below_drew1) | exact HB.out)⟩⟩
        rw [if_neg c16] at H; have c16b0 : (t102.toList == ([105, 115, 111, 56, 56, 53, 57, 45, 49] : List UInt8)) = false := beq_eq_false_iff_ne.mpr c16; have c16b1 : (t102.toList != ([105, 115, 111, 56, 56, 53, 57, 45, 49] : List UInt8)) = true := bne_iff_ne.mpr c16
        by_cases c17 : t102.toList = ([108, 97, 116, 105, 110, 49] : List UInt8)
        case neg =>
          rw [if_neg c17] at H; have c17b0 : (t102.toList == ([108, 97, 116, 105, 110, 49] : List UInt8)) = false := beq_eq_false_iff_ne.mpr c17; have c17b1 : (t102.toList != ([108, 97, 116, 105, 110, 49] : List UInt8)) = true := bne_iff_ne.mpr c17; have H' := Aside0.mk H; clear H
          go_wp2
          go_meet
          case rel => exact ⟨_, ((t102.toList == ([108, 49] : List UInt8))), (by first | rfl | (simp; done) | (simp [*]; done)), H', ⟨by have := HJ3.out; first | omega | exact Nat.le_refl _⟩, ⟨by repeat (first | (with_reducible first | exact HB.out | apply below_alloc | apply pw_below_drewN | apply below_drew1) | exact HB.out)⟩⟩
        rw [if_pos c17] at H; have c17b0 : (t102.toList == ([108, 97, 116, 105, 110, 49] : List UInt8)) = true := beq_iff_eq.mpr c17; have c17b1 : (t102.toList != ([108, 97, 116, 105, 110, 49] : List UInt8)) = false := bne_eq_false_iff_eq.mpr c17; clear c17; have H' := Aside0.mk H; clear H
        go_wp2
        go_meet
        case rel => exact ⟨_, ((t102.toList == ([108, 97, 116, 105, 110, 49] : List UInt8))), (by first | rfl | (simp; done) | (simp [*]; done)), H', ⟨by have := HJ3.out; first | omega | exact Nat.le_refl _⟩, ⟨by repeat (first | (with_reducible first | exact HB.out | apply below_alloc | apply pw_below_drewN | apply below_drew1) | exact HB.out)⟩⟩
      case rest =>
        clear HC10; (try clear c1); (try clear p2); (try clear c4); (try clear c7); (try clear c7b0); (try clear c7b1); (try clear c8); (try clear c8b0); (try clear c8b1); (try clear c9); (try clear c11); (try clear c11b0); (try clear c11b1); (try clear c12); (try clear c12b0); (try clear c12b1); (try clear c13); (try clear c13b0); (try clear c13b1); (try clear c14); (try clear c14b0); (try clear c14b1); (try clear c15); (try clear c15b0); (try clear c15b1); (try clear c16); (try clear c16b0); (try clear c16b1); (try clear c17); (try clear c17b0); (try clear c17b1); (try clear p2); obtain ⟨kq, x11_9, rfl, HA, HJ9, HB⟩ := hcut
        cases kq with
        | zero => exact absurd HA.out (by simp [chars_Known.j1])
        | succ kj9 =>
          have H := HA.out; clear HA; simp only [chars_Known.j1] at H
          by_cases c18 : x11_9 = true
          case pos =>
            subst c18
            have H1 : (some ((⟨#[119, 105, 110, 100, 111, 119, 115, 45, 49, 50, 53, 50]⟩ : ByteArray), true)) = some (r1, r2) := by rw [if_pos rfl] at H; exact H
            clear H; have H := H1; clear H1; simp only [Option.some.injEq, Prod.mk.injEq] at H; obtain ⟨rfl, rfl⟩ := H
            go_wp2
            go_ret2
            exact ⟨by first | rfl | (simp [errW_none, errW_some] <;> rfl) | (simp [*, errW_none, errW_some] <;> rfl), by repeat (first | (with_reducible first | exact HB.out | apply below_alloc | apply pw_below_drewN | apply below_drew1) | exact HB.out)⟩
          replace c18 := Bool.eq_false_iff.mpr c18; subst c18
          have H1 : (if t102.toList = ([117, 116, 102, 45, 49, 54, 108, 101] : List UInt8) then (chars_Known.j2 kj9 t102 (t102.toList == ([117, 116, 102, 45, 49, 54, 108, 101] : List UInt8))) else (if t102.toList = ([117, 116, 102, 45, 49, 54] : List UInt8) then (chars_Known.j2 kj9 t102 (t102.toList == ([117, 116, 102, 45, 49, 54] : List UInt8))) else (if t102.toList = ([117, 110, 105, 99, 111, 100, 101] : List UInt8) then (chars_Known.j2 kj9 t102 (t102.toList == ([117, 110, 105, 99, 111, 100, 101] : List UInt8))) else (chars_Known.j2 kj9 t102 (t102.toList == ([117, 99, 115, 45, 50] : List UInt8)))))) = some (r1, r2) := by rw [if_neg (show ¬ (false = true) by decide)] at H; exact H
          clear H; have H := H1; clear H1; have HC19 := Aside0.mk H; clear H
          go_upto_if 20 with (fail)
          go_cut [20] (fun v20 wc => ∃ (kq : Nat) (x20_18 : Bool), v20 = .bool x20_18 ∧ Aside0 (chars_Known.j2 kq t102 x20_18 = some (r1, r2)) ∧ Aside0 (kq ≤ kj9) ∧ Aside0 (Below w.heap.size w wc))
          case first =>
            have H := HC19.out; clear HC19
            by_cases c20 : t102.toList = ([117, 116, 102, 45, 49, 54, 108, 101] : List UInt8)
            case pos =>
              rw [if_pos c20] at H; have c20b0 : (t102.toList == ([117, 116, 102, 45, 49, 54, 108, 101] : List UInt8)) = true := beq_iff_eq.mpr c20; have c20b1 : (t102.toList != ([117, 116, 102, 45, 49, 54, 108, 101] : List UInt8)) = false := bne_eq_false_iff_eq.mpr c20; clear c20
              (first | rw [c20b0] | (simp only [i64_w, i32_w]; rw [c20b0]) | skip)
              have H' := Aside0.mk H; clear H
              go_wp2
              go_meet
              case rel => exact ⟨_, ((t102.toList == ([117, 116, 102, 45, 49, 54, 108, 101] : List UInt8))), (by first | rfl | (simp; done) | (simp [*]; done)), H', ⟨by have := HJ3.out; have := HJ9.out; first | omega | exact Nat.le_refl _⟩, ⟨by repeat (first | (with_reducible first | exact HB.out | apply below_alloc | apply pw_below_drewN | apply below_drew1) | exact HB.out)⟩⟩
            rw [if_neg c20] at H; have c20b0 : (t102.toList == ([117, 116, 102, 45, 49, 54, 108, 101] : List UInt8)) = false := beq_eq_false_iff_ne.mpr c20; have c20b1 : (t102.toList != ([117, 116, 102, 45, 49, 54, 108, 101] : List UInt8)) = true := bne_iff_ne.mpr c20
            (first | rw [c20b0] | (simp only [i64_w, i32_w]; rw [c20b0]) | skip)
            by_cases c21 : t102.toList = ([117, 116, 102, 45, 49, 54] : List UInt8)
            case pos =>
              rw [if_pos c21] at H; have c21b0 : (t102.toList == ([117, 116, 102, 45, 49, 54] : List UInt8)) = true := beq_iff_eq.mpr c21; have c21b1 : (t102.toList != ([117, 116, 102, 45, 49, 54] : List UInt8)) = false := bne_eq_false_iff_eq.mpr c21; clear c21; have H' := Aside0.mk H; clear H
              go_wp2
              go_meet
              case rel => exact ⟨_, ((t102.toList == ([117, 116, 102, 45, 49, 54] : List UInt8))), (by first | rfl | (simp; done) | (simp [*]; done)), H', ⟨by have := HJ3.out; have := HJ9.out; first | omega | exact Nat.le_refl _⟩, ⟨by repeat (first | (with_reducible first | exact HB.out | apply below_alloc | apply pw_below_drewN | apply below_drew1) | exact HB.out)⟩⟩
            rw [if_neg c21] at H; have c21b0 : (t102.toList == ([117, 116, 102, 45, 49, 54] : List UInt8)) = false := beq_eq_false_iff_ne.mpr c21; have c21b1 : (t102.toList != ([117, 116, 102, 45, 49, 54] : List UInt8)) = true := bne_iff_ne.mpr c21
            by_cases c22 : t102.toList = ([117, 110, 105, 99, 111, 100, 101] : List UInt8)
            case neg =>
              rw [if_neg c22] at H; have c22b0 : (t102.toList == ([117, 110, 105, 99, 111, 100, 101] : List UInt8)) = false := beq_eq_false_iff_ne.mpr c22; have c22b1 : (t102.toList != ([117, 110, 105, 99, 111, 100, 101] : List UInt8)) = true := bne_iff_ne.mpr c22; have H' := Aside0.mk H; clear H
              go_wp2
              go_meet
              case rel => exact ⟨_, ((t102.toList == ([117, 99, 115, 45, 50] : List UInt8))), (by first | rfl | (simp; done) | (simp [*]; done)), H', ⟨by have := HJ3.out; have := HJ9.out; first | omega | exact Nat.le_refl _⟩, ⟨by repeat (first | (with_reducible first | exact HB.out | apply below_alloc | apply pw_below_drewN | apply below_drew1) | exact HB.out)⟩⟩
            rw [if_pos c22] at H; have c22b0 : (t102.toList == ([117, 110, 105, 99, 111, 100, 101] : List UInt8)) = true := beq_iff_eq.mpr c22; have c22b1 : (t102.toList != ([117, 110, 105, 99, 111, 100, 101] : List UInt8)) = false := bne_eq_false_iff_eq.mpr c22; clear c22; have H' := Aside0.mk H; clear H
            go_wp2
            go_meet
            case rel => exact ⟨_, ((t102.toList == ([117, 110, 105, 99, 111, 100, 101] : List UInt8))), (by first | rfl | (simp; done) | (simp [*]; done)), H', ⟨by have := HJ3.out; have := HJ9.out; first | omega | exact Nat.le_refl _⟩, ⟨by repeat (first | (with_reducible first | exact HB.out | apply below_alloc | apply pw_below_drewN | apply below_drew1) | exact HB.out)⟩⟩
          case rest =>
            clear HC19; (try clear c1); (try clear c2); (try clear p2); (try clear c4); (try clear c7); (try clear c7b0); (try clear c7b1); (try clear c8); (try clear c8b0); (try clear c8b1); (try clear c9); (try clear c11); (try clear c11b0); (try clear c11b1); (try clear c12); (try clear c12b0); (try clear c12b1); (try clear c13); (try clear c13b0); (try clear c13b1); (try clear c14); (try clear c14b0); (try clear c14b1); (try clear c15); (try clear c15b0); (try clear c15b1); (try clear c16); (try clear c16b0); (try clear c16b1); (try clear c17); (try clear c17b0); (try clear c17b1); (try clear c18); (try clear c20); (try clear c20b0); (try clear c20b1); (try clear c21); (try clear c21b0); (try clear c21b1); (try clear c22); (try clear c22b0); (try clear c22b1); (try clear p2); obtain ⟨kq, x20_18, rfl, HA, HJ18, HB⟩ := hcut
            cases kq with
            | zero => exact absurd HA.out (by simp [chars_Known.j2])
            | succ kj18 =>
              have H := HA.out; clear HA; simp only [chars_Known.j2] at H
              by_cases c23 : x20_18 = true
              case pos =>
                subst c23
                have H1 : (some ((⟨#[117, 116, 102, 45, 49, 54, 108, 101]⟩ : ByteArray), true)) = some (r1, r2) := by rw [if_pos rfl] at H; exact H
                clear H; have H := H1; clear H1; simp only [Option.some.injEq, Prod.mk.injEq] at H; obtain ⟨rfl, rfl⟩ := H
                go_wp2
                go_ret2
                exact ⟨by first | rfl | (simp [errW_none, errW_some] <;> rfl) | (simp [*, errW_none, errW_some] <;> rfl), by repeat (first | (with_reducible first | exact HB.out | apply below_alloc | apply pw_below_drewN | apply below_drew1) | exact HB.out)⟩
              replace c23 := Bool.eq_false_iff.mpr c23; subst c23
              have H1 : (if t102.toList = ([117, 116, 102, 45, 49, 54, 98, 101] : List UInt8) then (some ((⟨#[117, 116, 102, 45, 49, 54, 98, 101]⟩ : ByteArray), true)) else (if t102.toList = ([117, 110, 105, 99, 111, 100, 101, 102, 102, 102, 101] : List UInt8) then (some ((⟨#[117, 116, 102, 45, 49, 54, 98, 101]⟩ : ByteArray), true)) else (some ((⟨#[]⟩ : ByteArray), false)))) = some (r1, r2) := by rw [if_neg (show ¬ (false = true) by decide)] at H; exact H
              clear H; have H := H1; clear H1
              by_cases c24 : t102.toList = ([117, 116, 102, 45, 49, 54, 98, 101] : List UInt8)
              case pos =>
                rw [if_pos c24] at H; have c24b0 : (t102.toList == ([117, 116, 102, 45, 49, 54, 98, 101] : List UInt8)) = true := beq_iff_eq.mpr c24; have c24b1 : (t102.toList != ([117, 116, 102, 45, 49, 54, 98, 101] : List UInt8)) = false := bne_eq_false_iff_eq.mpr c24; clear c24; simp only [Option.some.injEq, Prod.mk.injEq] at H; obtain ⟨rfl, rfl⟩ := H
                go_wp2
                go_ret2
                exact ⟨by first | rfl | (simp [errW_none, errW_some] <;> rfl) | (simp [*, errW_none, errW_some] <;> rfl), by repeat (first | (with_reducible first | exact HB.out | apply below_alloc | apply pw_below_drewN | apply below_drew1) | exact HB.out)⟩
              rw [if_neg c24] at H; have c24b0 : (t102.toList == ([117, 116, 102, 45, 49, 54, 98, 101] : List UInt8)) = false := beq_eq_false_iff_ne.mpr c24; have c24b1 : (t102.toList != ([117, 116, 102, 45, 49, 54, 98, 101] : List UInt8)) = true := bne_iff_ne.mpr c24
              by_cases c25 : t102.toList = ([117, 110, 105, 99, 111, 100, 101, 102, 102, 102, 101] : List UInt8)
              case neg =>
                rw [if_neg c25] at H; have c25b0 : (t102.toList == ([117, 110, 105, 99, 111, 100, 101, 102, 102, 102, 101] : List UInt8)) = false := beq_eq_false_iff_ne.mpr c25; have c25b1 : (t102.toList != ([117, 110, 105, 99, 111, 100, 101, 102, 102, 102, 101] : List UInt8)) = true := bne_iff_ne.mpr c25; simp only [Option.some.injEq, Prod.mk.injEq] at H; obtain ⟨rfl, rfl⟩ := H
                go_wp2
                go_ret2
                exact ⟨by first | rfl | (simp [errW_none, errW_some] <;> rfl) | (simp [*, errW_none, errW_some] <;> rfl), by repeat (first | (with_reducible first | exact HB.out | apply below_alloc | apply pw_below_drewN | apply below_drew1) | exact HB.out)⟩
              rw [if_pos c25] at H; have c25b0 : (t102.toList == ([117, 110, 105, 99, 111, 100, 101, 102, 102, 102, 101] : List UInt8)) = true := beq_iff_eq.mpr c25; have c25b1 : (t102.toList != ([117, 110, 105, 99, 111, 100, 101, 102, 102, 102, 101] : List UInt8)) = false := bne_eq_false_iff_eq.mpr c25; clear c25; simp only [Option.some.injEq, Prod.mk.injEq] at H; obtain ⟨rfl, rfl⟩ := H
              go_wp2
              go_ret2
              exact ⟨by first | rfl | (simp [errW_none, errW_some] <;> rfl) | (simp [*, errW_none, errW_some] <;> rfl), by repeat (first | (with_reducible first | exact HB.out | apply below_alloc | apply pw_below_drewN | apply below_drew1) | exact HB.out)⟩
def chars_Decode.f (k : Nat) (a0 : ByteArray) (a1 : ByteArray) : Option (ByteArray × Bool) := (chars_Known.f k a0).bind fun bt103 => (if bt103.1.toList = ([119, 105, 110, 100, 111, 119, 115, 45, 49, 50, 53, 50] : List UInt8) then ((chars_singles.f a1).bind fun t105 => (some (t105, bt103.2))) else (if bt103.1.toList = ([117, 116, 102, 45, 49, 54, 108, 101] : List UInt8) then ((chars_doubles.f a1 0 8).bind fun t106 => (some (t106, bt103.2))) else (if bt103.1.toList = ([117, 116, 102, 45, 49, 54, 98, 101] : List UInt8) then ((chars_doubles.f a1 8 0).bind fun t107 => (some (t107, bt103.2))) else ((chars_Valid.f a1).bind fun t108 => (some (t108, bt103.2))))))
set_option maxHeartbeats 8000000 in
set_option maxRecDepth 100000 in
theorem chars_Decode.calls (k : Nat) (a0 : ByteArray) (a1 : ByteArray) (r1 : ByteArray) (r2 : Bool) (w : World) (hGl : Glob w) (h : chars_Decode.f k a0 a1 = some (r1, r2)) :
    Calls Tryz.prog 100 #[.string a0, .string a1] w fun e w' => e = .returned (.tuple #[.string r1, .bool r2]) ∧ Below w.heap.size w w' := by
  have HGl := Aside0.mk hGl; clear hGl; have HB := Aside0.mk (Below.refl w.heap.size w); have H : ((chars_Known.f k a0).bind fun bt103 => (if bt103.1.toList = ([119, 105, 110, 100, 111, 119, 115, 45, 49, 50, 53, 50] : List UInt8) then ((chars_singles.f a1).bind fun t105 => (some (t105, bt103.2))) else (if bt103.1.toList = ([117, 116, 102, 45, 49, 54, 108, 101] : List UInt8) then ((chars_doubles.f a1 0 8).bind fun t106 => (some (t106, bt103.2))) else (if bt103.1.toList = ([117, 116, 102, 45, 49, 54, 98, 101] : List UInt8) then ((chars_doubles.f a1 8 0).bind fun t107 => (some (t107, bt103.2))) else ((chars_Valid.f a1).bind fun t108 => (some (t108, bt103.2))))))) = some (r1, r2) := h; clear h; replace H := Option.bind_eq_some_iff.mp H; obtain ⟨⟨t103, t104⟩, A30, H⟩ := H; replace H : (if t103.toList = ([119, 105, 110, 100, 111, 119, 115, 45, 49, 50, 53, 50] : List UInt8) then ((chars_singles.f a1).bind fun t105 => (some (t105, t104))) else (if t103.toList = ([117, 116, 102, 45, 49, 54, 108, 101] : List UInt8) then ((chars_doubles.f a1 0 8).bind fun t106 => (some (t106, t104))) else (if t103.toList = ([117, 116, 102, 45, 49, 54, 98, 101] : List UInt8) then ((chars_doubles.f a1 8 0).bind fun t107 => (some (t107, t104))) else ((chars_Valid.f a1).bind fun t108 => (some (t108, t104)))))) = some (r1, r2) := H; have A3 := Aside0.mk A30; clear A30
  by_cases c4 : t103.toList = ([119, 105, 110, 100, 111, 119, 115, 45, 49, 50, 53, 50] : List UInt8)
  case pos =>
    rw [if_pos c4] at H; have c4b0 : (t103.toList == ([119, 105, 110, 100, 111, 119, 115, 45, 49, 50, 53, 50] : List UInt8)) = true := beq_iff_eq.mpr c4; have c4b1 : (t103.toList != ([119, 105, 110, 100, 111, 119, 115, 45, 49, 50, 53, 50] : List UInt8)) = false := bne_eq_false_iff_eq.mpr c4; clear c4; replace H := Option.bind_eq_some_iff.mp H; obtain ⟨t105, A50, H⟩ := H; replace H : (some (t105, t104)) = some (r1, r2) := H; have A5 := Aside0.mk A50; clear A50; simp only [Option.some.injEq, Prod.mk.injEq] at H; obtain ⟨rfl, rfl⟩ := H
    go_enter Tryz.func100, Tryz.ntmps100
    go_wp2_with (first | ((with_reducible refine gate_callee (f := 97) rfl ?_); refine goesL_ (some 10) rfl rfl Tryz.func97 (by kernel_rfl) rfl #[.string a0] rfl (by (try simp only [List.map_toArray, List.map_cons, List.map_nil]); first | done | rfl | (simp only [List.length_drop, List.length_take]; rfl)) ?_; (with_reducible refine (chars_Known.calls k a0 t103 t104 _ A3.out).mono ?_); rintro e w6 ⟨rfl, hb⟩; refine ⟨_, rfl, ?_⟩; have n0_ := Aside0.mk (below_step (by repeat (first | (with_reducible first | exact HB.out | apply below_alloc | apply pw_below_drewN | apply below_drew1) | exact HB.out)) hb); clear HB; have HB := n0_; clear n0_; (try clear hb); (try clear hb2); (try clear hk); (try clear hi)) | ((with_reducible refine gate_callee (f := 125) rfl ?_); refine goesL_ (some 17) rfl rfl Tryz.func125 (by kernel_rfl) rfl #[.string a1] rfl (by (try simp only [List.map_toArray, List.map_cons, List.map_nil]); first | done | rfl | (simp only [List.length_drop, List.length_take]; rfl)) ?_; (with_reducible refine (chars_singles.calls a1 t105 _ ?sideGl A5.out).mono ?_); (case sideGl => exact HGl.out.below (by repeat (first | (with_reducible first | exact HB.out | apply below_alloc | apply pw_below_drewN | apply below_drew1) | exact HB.out))); rintro e w7 ⟨rfl, hb⟩; refine ⟨_, rfl, ?_⟩; have n0_ := Aside0.mk (below_step (by repeat (first | (with_reducible first | exact HB.out | apply below_alloc | apply pw_below_drewN | apply below_drew1) | exact HB.out)) hb); clear HB; have HB := n0_; clear n0_; (try clear hb); (try clear hb2); (try clear hk); (try clear hi)))
    go_ret2
    exact ⟨by first | rfl | (simp [errW_none, errW_some] <;> rfl) | (simp [*, errW_none, errW_some] <;> rfl), by repeat (first | (with_reducible first | exact HB.out | apply below_alloc | apply pw_below_drewN | apply below_drew1) | exact HB.out)⟩
  rw [if_neg c4] at H; have c4b0 : (t103.toList == ([119, 105, 110, 100, 111, 119, 115, 45, 49, 50, 53, 50] : List UInt8)) = false := beq_eq_false_iff_ne.mpr c4; have c4b1 : (t103.toList != ([119, 105, 110, 100, 111, 119, 115, 45, 49, 50, 53, 50] : List UInt8)) = true := bne_iff_ne.mpr c4
  by_cases c8 : t103.toList = ([117, 116, 102, 45, 49, 54, 108, 101] : List UInt8)
  case pos =>
    rw [if_pos c8] at H; have c8b0 : (t103.toList == ([117, 116, 102, 45, 49, 54, 108, 101] : List UInt8)) = true := beq_iff_eq.mpr c8; have c8b1 : (t103.toList != ([117, 116, 102, 45, 49, 54, 108, 101] : List UInt8)) = false := bne_eq_false_iff_eq.mpr c8; clear c8; replace H := Option.bind_eq_some_iff.mp H; obtain ⟨t106, A90, H⟩ := H; replace H : (some (t106, t104)) = some (r1, r2) := H; have A9 := Aside0.mk A90; clear A90; simp only [Option.some.injEq, Prod.mk.injEq] at H; obtain ⟨rfl, rfl⟩ := H
    go_enter Tryz.func100, Tryz.ntmps100
    go_wp2_with (first | ((with_reducible refine gate_callee (f := 97) rfl ?_); refine goesL_ (some 10) rfl rfl Tryz.func97 (by kernel_rfl) rfl #[.string a0] rfl (by (try simp only [List.map_toArray, List.map_cons, List.map_nil]); first | done | rfl | (simp only [List.length_drop, List.length_take]; rfl)) ?_; (with_reducible refine (chars_Known.calls k a0 t103 t104 _ A3.out).mono ?_); rintro e w10 ⟨rfl, hb⟩; refine ⟨_, rfl, ?_⟩; have n0_ := Aside0.mk (below_step (by repeat (first | (with_reducible first | exact HB.out | apply below_alloc | apply pw_below_drewN | apply below_drew1) | exact HB.out)) hb); clear HB; have HB := n0_; clear n0_; (try clear hb); (try clear hb2); (try clear hk); (try clear hi)) | ((with_reducible refine gate_callee (f := 126) rfl ?_); refine goesL_ (some 22) rfl rfl Tryz.func126 (by kernel_rfl) rfl #[.string a1, .int .i64 0, .int .i64 8] rfl (by (try simp only [List.map_toArray, List.map_cons, List.map_nil]); first | done | rfl | (simp only [List.length_drop, List.length_take]; rfl)) ?_; (with_reducible refine (chars_doubles.calls a1 0 8 t106 _ A9.out).mono ?_); rintro e w11 ⟨rfl, hb⟩; refine ⟨_, rfl, ?_⟩; have n0_ := Aside0.mk (below_step (by repeat (first | (with_reducible first | exact HB.out | apply below_alloc | apply pw_below_drewN | apply below_drew1) | exact HB.out)) hb); clear HB; have HB := n0_; clear n0_; (try clear hb); (try clear hb2); (try clear hk); (try clear hi)))
    go_ret2
    exact ⟨by first | rfl | (simp [errW_none, errW_some] <;> rfl) | (simp [*, errW_none, errW_some] <;> rfl), by repeat (first | (with_reducible first | exact HB.out | apply below_alloc | apply pw_below_drewN | apply below_drew1) | exact HB.out)⟩
  rw [if_neg c8] at H; have c8b0 : (t103.toList == ([117, 116, 102, 45, 49, 54, 108, 101] : List UInt8)) = false := beq_eq_false_iff_ne.mpr c8; have c8b1 : (t103.toList != ([117, 116, 102, 45, 49, 54, 108, 101] : List UInt8)) = true := bne_iff_ne.mpr c8
  by_cases c12 : t103.toList = ([117, 116, 102, 45, 49, 54, 98, 101] : List UInt8)
  case neg =>
    rw [if_neg c12] at H; have c12b0 : (t103.toList == ([117, 116, 102, 45, 49, 54, 98, 101] : List UInt8)) = false := beq_eq_false_iff_ne.mpr c12; have c12b1 : (t103.toList != ([117, 116, 102, 45, 49, 54, 98, 101] : List UInt8)) = true := bne_iff_ne.mpr c12; replace H := Option.bind_eq_some_iff.mp H; obtain ⟨t108, A160, H⟩ := H; replace H : (some (t108, t104)) = some (r1, r2) := H; have A16 := Aside0.mk A160; clear A160; simp only [Option.some.injEq, Prod.mk.injEq] at H; obtain ⟨rfl, rfl⟩ := H
    go_enter Tryz.func100, Tryz.ntmps100
    go_wp2_with (first | ((with_reducible refine gate_callee (f := 97) rfl ?_); refine goesL_ (some 10) rfl rfl Tryz.func97 (by kernel_rfl) rfl #[.string a0] rfl (by (try simp only [List.map_toArray, List.map_cons, List.map_nil]); first | done | rfl | (simp only [List.length_drop, List.length_take]; rfl)) ?_; (with_reducible refine (chars_Known.calls k a0 t103 t104 _ A3.out).mono ?_); rintro e w17 ⟨rfl, hb⟩; refine ⟨_, rfl, ?_⟩; have n0_ := Aside0.mk (below_step (by repeat (first | (with_reducible first | exact HB.out | apply below_alloc | apply pw_below_drewN | apply below_drew1) | exact HB.out)) hb); clear HB; have HB := n0_; clear n0_; (try clear hb); (try clear hb2); (try clear hk); (try clear hi)) | ((with_reducible refine gate_callee (f := 18) rfl ?_); refine goesL_ (some 30) rfl rfl Tryz.func18 (by kernel_rfl) rfl #[.string a1] rfl (by (try simp only [List.map_toArray, List.map_cons, List.map_nil]); first | done | rfl | (simp only [List.length_drop, List.length_take]; rfl)) ?_; (with_reducible refine (chars_Valid.calls a1 t108 _ A16.out).mono ?_); rintro e w18 ⟨rfl, hb⟩; refine ⟨_, rfl, ?_⟩; have n0_ := Aside0.mk (below_step (by repeat (first | (with_reducible first | exact HB.out | apply below_alloc | apply pw_below_drewN | apply below_drew1) | exact HB.out)) hb); clear HB; have HB := n0_; clear n0_; (try clear hb); (try clear hb2); (try clear hk); (try clear hi)))
    go_ret2
    exact ⟨by first | rfl | (simp [errW_none, errW_some] <;> rfl) | (simp [*, errW_none, errW_some] <;> rfl), by repeat (first | (with_reducible first | exact HB.out | apply below_alloc | apply pw_below_drewN | apply below_drew1) | exact HB.out)⟩
  rw [if_pos c12] at H; have c12b0 : (t103.toList == ([117, 116, 102, 45, 49, 54, 98, 101] : List UInt8)) = true := beq_iff_eq.mpr c12; have c12b1 : (t103.toList != ([117, 116, 102, 45, 49, 54, 98, 101] : List UInt8)) = false := bne_eq_false_iff_eq.mpr c12; clear c12; replace H := Option.bind_eq_some_iff.mp H; obtain ⟨t107, A130, H⟩ := H; replace H : (some (t107, t104)) = some (r1, r2) := H; have A13 := Aside0.mk A130; clear A130; simp only [Option.some.injEq, Prod.mk.injEq] at H; obtain ⟨rfl, rfl⟩ := H
  go_enter Tryz.func100, Tryz.ntmps100
  go_wp2_with (first | ((with_reducible refine gate_callee (f := 97) rfl ?_); refine goesL_ (some 10) rfl rfl Tryz.func97 (by kernel_rfl) rfl #[.string a0] rfl (by (try simp only [List.map_toArray, List.map_cons, List.map_nil]); first | done | rfl | (simp only [List.length_drop, List.length_take]; rfl)) ?_; (with_reducible refine (chars_Known.calls k a0 t103 t104 _ A3.out).mono ?_); rintro e w14 ⟨rfl, hb⟩; refine ⟨_, rfl, ?_⟩; have n0_ := Aside0.mk (below_step (by repeat (first | (with_reducible first | exact HB.out | apply below_alloc | apply pw_below_drewN | apply below_drew1) | exact HB.out)) hb); clear HB; have HB := n0_; clear n0_; (try clear hb); (try clear hb2); (try clear hk); (try clear hi)) | ((with_reducible refine gate_callee (f := 126) rfl ?_); refine goesL_ (some 27) rfl rfl Tryz.func126 (by kernel_rfl) rfl #[.string a1, .int .i64 8, .int .i64 0] rfl (by (try simp only [List.map_toArray, List.map_cons, List.map_nil]); first | done | rfl | (simp only [List.length_drop, List.length_take]; rfl)) ?_; (with_reducible refine (chars_doubles.calls a1 8 0 t107 _ A13.out).mono ?_); rintro e w15 ⟨rfl, hb⟩; refine ⟨_, rfl, ?_⟩; have n0_ := Aside0.mk (below_step (by repeat (first | (with_reducible first | exact HB.out | apply below_alloc | apply pw_below_drewN | apply below_drew1) | exact HB.out)) hb); clear HB; have HB := n0_; clear n0_; (try clear hb); (try clear hb2); (try clear hk); (try clear hi)))
  go_ret2
  exact ⟨by first | rfl | (simp [errW_none, errW_some] <;> rfl) | (simp [*, errW_none, errW_some] <;> rfl), by repeat (first | (with_reducible first | exact HB.out | apply below_alloc | apply pw_below_drewN | apply below_drew1) | exact HB.out)⟩
end Go.Proofs.YtpcncpegbboljaaGreatDoor.C
namespace Go.Proofs.YtpcncpegbboljaaGreatDoor.Pure
open Go.RowKit Go.Proofs.YtpcncpegbboljaaGreatDoor.C Go.Proofs.YtpcncpegbboljaaGreatDoorW.PrintWords Go.Proofs.YtpcncpegbboljaaGreatDoorW.PrintLast
set_option linter.unusedVariables false
set_option linter.unusedSimpArgs false
section whole
variable (s : ByteArray) (hs : s.size ≤ 140737488351232)
include hs
end whole
theorem validFrom_valL (s : ByteArray) : ∀ (fuel pos : Nat), validFrom s fuel pos = valL fuel (s.data.toList.drop pos) := by
  intro fuel
  induction fuel with
  | zero => intro pos; rfl
  | succ n ih =>
    intro pos
    simp only [validFrom, valL]
    by_cases h : pos < s.size
    · rw [if_pos h, if_neg (by intro h2; have := congrArg List.length h2; simp at this; omega), decode_list, ih, List.drop_drop]
    · rw [if_neg h, if_pos (List.drop_eq_nil_of_le (by rw [sizeL]; omega))]
def vl (l : List UInt8) : List UInt8 := valL l.length l
theorem validS_eq (s : ByteArray) : validS s = ⟨(vl s.data.toList).toArray⟩ := by
  unfold validS vl
  rw [validFrom_valL, List.drop_zero, sizeL]
theorem vl_nil : vl [] = [] := rfl
end Go.Proofs.YtpcncpegbboljaaGreatDoor.Pure
namespace Go.Proofs.YtpcncpegbboljaaGreatDoor.Pure
open Go.RowKit Go.Proofs.YtpcncpegbboljaaGreatDoor.C Go.Proofs.YtpcncpegbboljaaGreatDoorW.PrintWords Go.Proofs.YtpcncpegbboljaaGreatDoorW.PrintLast
set_option linter.unusedVariables false
set_option linter.unusedSimpArgs false
def knownL (t : List UInt8) : ByteArray × Bool :=
  if t = [117, 116, 102, 45, 56] ∨ t = [117, 116, 102, 56] ∨ t = [117, 110, 105, 99, 111, 100, 101, 45, 49, 45, 49, 45, 117, 116, 102, 45, 56] then ((⟨#[117, 116, 102, 45, 56]⟩ : ByteArray), true)
  else if t = [119, 105, 110, 100, 111, 119, 115, 45, 49, 50, 53, 50] ∨ t = [99, 112, 49, 50, 53, 50] ∨ t = [117, 115, 45, 97, 115, 99, 105, 105] ∨ t = [97, 115, 99, 105, 105] ∨ t = [105, 115, 111, 45, 56, 56, 53, 57, 45, 49] ∨ t = [105, 115, 111, 56, 56, 53, 57, 45, 49] ∨ t = [108, 97, 116, 105, 110, 49] ∨ t = [108, 49] then ((⟨#[119, 105, 110, 100, 111, 119, 115, 45, 49, 50, 53, 50]⟩ : ByteArray), true)
  else if t = [117, 116, 102, 45, 49, 54, 108, 101] ∨ t = [117, 116, 102, 45, 49, 54] ∨ t = [117, 110, 105, 99, 111, 100, 101] ∨ t = [117, 99, 115, 45, 50] then ((⟨#[117, 116, 102, 45, 49, 54, 108, 101]⟩ : ByteArray), true)
  else if t = [117, 116, 102, 45, 49, 54, 98, 101] ∨ t = [117, 110, 105, 99, 111, 100, 101, 102, 102, 102, 101] then ((⟨#[117, 116, 102, 45, 49, 54, 98, 101]⟩ : ByteArray), true)
  else ((⟨#[]⟩ : ByteArray), false)
set_option maxHeartbeats 1000000 in
theorem chars_Known_tail (t : ByteArray) : Ev (fun k => if t.toList = ([117, 116, 102, 45, 56] : List UInt8) then chars_Known.j0 k t (t.toList == ([117, 116, 102, 45, 56] : List UInt8)) else if t.toList = ([117, 116, 102, 56] : List UInt8) then chars_Known.j0 k t (t.toList == ([117, 116, 102, 56] : List UInt8)) else chars_Known.j0 k t (t.toList == ([117, 110, 105, 99, 111, 100, 101, 45, 49, 45, 49, 45, 117, 116, 102, 45, 56] : List UInt8))) (knownL t.data.toList) := by
  rw [← toList_eq]
  refine Ev.of (k := 3) (fun k => ?_) ?_
  · intro r h
    have m := fun x y => (chars_Known.mono_l k).1 x y
    split at h
    · rename_i c; rw [if_pos c]; exact m _ _ _ h
    · rename_i c; rw [if_neg c]
      split at h
      · rename_i c2; rw [if_pos c2]; exact m _ _ _ h
      · rename_i c2; rw [if_neg c2]; exact m _ _ _ h
  by_cases h0 : t.toList = [117, 116, 102, 45, 56]
  · simp [chars_Known.j0, chars_Known.j1, chars_Known.j2, h0, knownL]
  by_cases h1 : t.toList = [117, 116, 102, 56]
  · simp [chars_Known.j0, chars_Known.j1, chars_Known.j2, h1, knownL]
  by_cases h2 : t.toList = [117, 110, 105, 99, 111, 100, 101, 45, 49, 45, 49, 45, 117, 116, 102, 45, 56]
  · simp [chars_Known.j0, chars_Known.j1, chars_Known.j2, h2, knownL]
  by_cases h3 : t.toList = [119, 105, 110, 100, 111, 119, 115, 45, 49, 50, 53, 50]
  · simp [chars_Known.j0, chars_Known.j1, chars_Known.j2, h3, knownL]
  by_cases h4 : t.toList = [99, 112, 49, 50, 53, 50]
  · simp [chars_Known.j0, chars_Known.j1, chars_Known.j2, h4, knownL]
  by_cases h5 : t.toList = [117, 115, 45, 97, 115, 99, 105, 105]
  · simp [chars_Known.j0, chars_Known.j1, chars_Known.j2, h5, knownL]
  by_cases h6 : t.toList = [97, 115, 99, 105, 105]
  · simp [chars_Known.j0, chars_Known.j1, chars_Known.j2, h6, knownL]
  by_cases h7 : t.toList = [105, 115, 111, 45, 56, 56, 53, 57, 45, 49]
  · simp [chars_Known.j0, chars_Known.j1, chars_Known.j2, h7, knownL]
  by_cases h8 : t.toList = [105, 115, 111, 56, 56, 53, 57, 45, 49]
  · simp [chars_Known.j0, chars_Known.j1, chars_Known.j2, h8, knownL]
  by_cases h9 : t.toList = [108, 97, 116, 105, 110, 49]
  · simp [chars_Known.j0, chars_Known.j1, chars_Known.j2, h9, knownL]
  by_cases h10 : t.toList = [108, 49]
  · simp [chars_Known.j0, chars_Known.j1, chars_Known.j2, h10, knownL]
  by_cases h11 : t.toList = [117, 116, 102, 45, 49, 54, 108, 101]
  · simp [chars_Known.j0, chars_Known.j1, chars_Known.j2, h11, knownL]
  by_cases h12 : t.toList = [117, 116, 102, 45, 49, 54]
  · simp [chars_Known.j0, chars_Known.j1, chars_Known.j2, h12, knownL]
  by_cases h13 : t.toList = [117, 110, 105, 99, 111, 100, 101]
  · simp [chars_Known.j0, chars_Known.j1, chars_Known.j2, h13, knownL]
  by_cases h14 : t.toList = [117, 99, 115, 45, 50]
  · simp [chars_Known.j0, chars_Known.j1, chars_Known.j2, h14, knownL]
  by_cases h15 : t.toList = [117, 116, 102, 45, 49, 54, 98, 101]
  · simp [chars_Known.j0, chars_Known.j1, chars_Known.j2, h15, knownL]
  by_cases h16 : t.toList = [117, 110, 105, 99, 111, 100, 101, 102, 102, 102, 101]
  · simp [chars_Known.j0, chars_Known.j1, chars_Known.j2, h16, knownL]
  simp [chars_Known.j0, chars_Known.j1, chars_Known.j2, knownL, h0, h1, h2, h3, h4, h5, h6, h7, h8, h9, h10, h11, h12, h13, h14, h15, h16]
def rdrop (p : UInt8 → Bool) (l : List UInt8) : List UInt8 := (l.reverse.dropWhile p).reverse
theorem rdrop_cons (p : UInt8 → Bool) (x : UInt8) (xs : List UInt8) : rdrop p (x :: xs) = if rdrop p xs = [] then (if p x then [] else [x]) else x :: rdrop p xs := by
  unfold rdrop
  rw [List.reverse_cons, List.dropWhile_append]
  by_cases h : xs.reverse.dropWhile p = []
  · simp only [h, List.isEmpty_nil, if_true, List.reverse_nil]
    by_cases hx : p x = true
    · simp [hx]
    · simp [hx]
  · have h2 : (xs.reverse.dropWhile p).isEmpty = false := by
      cases hh : xs.reverse.dropWhile p with
      | nil => exact absurd hh h
      | cons a b => rfl
    simp [h2, h]
theorem drop_rdrop (p : UInt8 → Bool) : ∀ l : List UInt8, (rdrop p l).dropWhile p = rdrop p (l.dropWhile p) := by
  intro l
  induction l with
  | nil => rfl
  | cons x xs ih =>
    rw [rdrop_cons]
    by_cases hx : p x = true
    · rw [List.dropWhile_cons_of_pos hx, ← ih]
      by_cases h : rdrop p xs = []
      · rw [if_pos h, if_pos hx, h]
      · rw [if_neg h, List.dropWhile_cons_of_pos hx]
    · rw [List.dropWhile_cons_of_neg hx, rdrop_cons]
      by_cases h : rdrop p xs = []
      · rw [if_pos h, if_neg hx, List.dropWhile_cons_of_neg hx]
      · rw [if_neg h, List.dropWhile_cons_of_neg hx]
def isSp (c : UInt8) : Bool := [32, 9, 10, 12, 13].contains c
theorem trimS_sp (l : List UInt8) : Lib.trimS l [32, 9, 10, 12, 13] = rdrop isSp (l.dropWhile isSp) := by
  rw [← drop_rdrop]; rfl
def labelL (a : ByteArray) : List UInt8 := (rdrop isSp (a.data.toList.dropWhile isSp)).map lowC
theorem trim_got (a : ByteArray) (h : a.size ≤ 9223372036854775000) : strings_Trim.f a (⟨#[32, 9, 10, 12, 13]⟩ : ByteArray) = some ⟨(rdrop isSp (a.data.toList.dropWhile isSp)).toArray⟩ := by
  unfold strings_Trim.f
  rw [if_pos ⟨by omega, by decide, by decide⟩]
  rw [show (⟨#[32, 9, 10, 12, 13]⟩ : ByteArray).data.toList = [32, 9, 10, 12, 13] from rfl, trimS_sp]
theorem rdrop_len (p : UInt8 → Bool) (l : List UInt8) : (rdrop p l).length ≤ l.length := by
  unfold rdrop
  rw [List.length_reverse]
  have := (List.dropWhile_sublist (p := p) (l := l.reverse)).length_le
  simpa using this
theorem known_is (a : ByteArray) (h : a.size ≤ 5000) : Ev (fun k => chars_Known.f k a) (knownL (labelL a)) := by
  unfold chars_Known.f
  refine Ev.got (trim_got a (by omega)) ?_
  have h1 := rdrop_len isSp (a.data.toList.dropWhile isSp)
  have h2 := (List.dropWhile_sublist (p := isSp) (l := a.data.toList)).length_le
  rw [sizeL] at h2
  refine Ev.got (x := chars_small.f _) (guard_of (by rw [mk_size]; omega)) ?_
  exact chars_Known_tail _
end Go.Proofs.YtpcncpegbboljaaGreatDoor.Pure
namespace Go.Proofs.YtpcncpegbboljaaGreatDoor.Pure
open Go.RowKit Go.Proofs.YtpcncpegbboljaaGreatDoor.C Go.Proofs.YtpcncpegbboljaaGreatDoorW.PrintWords Go.Proofs.YtpcncpegbboljaaGreatDoorW.PrintLast
set_option linter.unusedVariables false
set_option linter.unusedSimpArgs false
def nUtf : ByteArray := ⟨#[117, 116, 102, 45, 56]⟩
def nLat : ByteArray := ⟨#[119, 105, 110, 100, 111, 119, 115, 45, 49, 50, 53, 50]⟩
def nLe : ByteArray := ⟨#[117, 116, 102, 45, 49, 54, 108, 101]⟩
def nBe : ByteArray := ⟨#[117, 116, 102, 45, 49, 54, 98, 101]⟩
def nNone : ByteArray := ⟨#[]⟩
theorem known_cases (t : List UInt8) : knownL t = (nUtf, true) ∨ knownL t = (nLat, true) ∨ knownL t = (nLe, true) ∨ knownL t = (nBe, true) ∨ knownL t = (nNone, false) := by
  unfold knownL
  split
  · exact .inl rfl
  · split
    · exact .inr (.inl rfl)
    · split
      · exact .inr (.inr (.inl rfl))
      · split
        · exact .inr (.inr (.inr (.inl rfl)))
        · exact .inr (.inr (.inr (.inr rfl)))
def decL (n : ByteArray) (l : List UInt8) : List UInt8 :=
  if n.data.toList = nLat.data.toList then singlesL l else if n.data.toList = nLe.data.toList then dblL uLE l else if n.data.toList = nBe.data.toList then dblL uBE l else vl l
theorem nameEq {n : ByteArray} {l : List UInt8} (h : n.data.toList = l) : n.toList = l := by rw [toList_eq]; exact h
theorem nameNe {n : ByteArray} {l : List UInt8} (h : n.data.toList ≠ l) : ¬ n.toList = l := by rw [toList_eq]; exact h
theorem decode_is (a s : ByteArray) (ha : a.size ≤ 5000) (hs : s.size ≤ 11000000) : Ev (fun k => chars_Decode.f k a s) ((⟨(decL (knownL (labelL a)).1 s.data.toList).toArray⟩ : ByteArray), (knownL (labelL a)).2) := by
  unfold chars_Decode.f
  refine Ev.bind (known_is a ha) ?_
  have h5 : s.size ≤ 35184372088832 := by omega
  have hv : Ev (fun _ => (chars_Valid.f s).bind fun t => some (t, (knownL (labelL a)).2)) ((⟨(vl s.data.toList).toArray⟩ : ByteArray), (knownL (labelL a)).2) := by
    refine Ev.got (x := chars_Valid.f s) (guard_of h5) ?_
    rw [validS_eq]; exact Ev.now _
  rcases known_cases (labelL a) with h | h | h | h | h
  · rw [h] at hv ⊢
    refine Ev.neg (nameNe (by decide)) ?_
    refine Ev.neg (nameNe (by decide)) ?_
    refine Ev.neg (nameNe (by decide)) ?_
    exact hv
  · rw [h]
    refine Ev.pos (nameEq (by decide)) ?_
    refine Ev.got (x := chars_singles.f s) (guard_of h5) ?_
    exact Ev.now _
  · rw [h]
    refine Ev.neg (nameNe (by decide)) ?_
    refine Ev.pos (nameEq (by decide)) ?_
    refine Ev.got (x := chars_doubles.f s 0 8) (guard_of ⟨h5, .inl ⟨rfl, rfl⟩⟩) ?_
    exact Ev.now _
  · rw [h]
    refine Ev.neg (nameNe (by decide)) ?_
    refine Ev.neg (nameNe (by decide)) ?_
    refine Ev.pos (nameEq (by decide)) ?_
    refine Ev.got (x := chars_doubles.f s 8 0) (guard_of ⟨h5, .inr ⟨rfl, rfl⟩⟩) ?_
    exact Ev.now _
  · rw [h] at hv ⊢
    refine Ev.neg (nameNe (by decide)) ?_
    refine Ev.neg (nameNe (by decide)) ?_
    refine Ev.neg (nameNe (by decide)) ?_
    exact hv
theorem vl_Val (l : List UInt8) : Val (vl l) := valL_Val _ _
theorem enc_len3 (r : Int) (h : r ≤ 65535) : (Lib.encodeRune r).length ≤ 3 := by
  simp only [Lib.encodeRune, List.length_map, Lib.encodeRuneZ]
  split
  · simp
  · split
    · simp
    · split
      · simp
      · split
        · omega
        · simp
theorem singles_len (l : List UInt8) : (singlesL l).length ≤ 3 * l.length := by
  induction l with
  | nil => simp [singlesL]
  | cons c r ih =>
    have h := enc_len3 (hiC c) (hiC_range c).2
    have e : singlesL (c :: r) = Lib.encodeRune (hiC c) ++ singlesL r := by simp [singlesL]
    rw [e, List.length_append, List.length_cons]; omega
theorem dblL_len (u : UInt8 → UInt8 → Int) (hu : ∀ a b, u a b ≤ 65535) : ∀ (n : Nat) (l : List UInt8), l.length ≤ n → (dblL u l).length ≤ 3 * l.length := by
  intro n
  induction n with
  | zero => intro l h; obtain rfl : l = [] := List.eq_nil_of_length_eq_zero (by omega); simp [dblL]
  | succ n ih =>
    intro l h
    match l with
    | [] => simp [dblL]
    | [a] => simp only [dblL]; exact enc_len3 _ (by omega)
    | [a, b] => simp only [dblL]; have := enc_len3 _ (hu a b); simp; omega
    | [a, b, c] => simp only [dblL]; have := enc_len3 _ (hu a b); have := enc_len3 65533 (by omega); simp; omega
    | a :: b :: c :: d :: r =>
      simp only [dblL]
      split
      · have := ih r (by simp at h; omega)
        have := (enc_len (65536 + (u a b - 55296) * 1024 + u c d - 56320)).2
        rw [List.length_append]; simp only [List.length_cons]; omega
      · have := ih (c :: d :: r) (by simp at h ⊢; omega)
        have := enc_len3 _ (hu a b)
        rw [List.length_append]; simp only [List.length_cons] at *; omega
theorem decL_len (n : ByteArray) (l : List UInt8) : (decL n l).length ≤ 3 * l.length := by
  unfold decL
  split
  · exact singles_len _
  · split
    · exact dblL_len _ (fun a b => (uLE_range a b).2) _ _ (Nat.le_refl _)
    · split
      · exact dblL_len _ (fun a b => (uBE_range a b).2) _ _ (Nat.le_refl _)
      · exact valL_len _ _
end Go.Proofs.YtpcncpegbboljaaGreatDoor.Pure
namespace Go.Proofs.YtpcncpegbboljaaGreatDoor.WordL
open Go.RowKit Go.Lib Go.Proofs.YtpcncpegbboljaaGreatDoor Go.Proofs.YtpcncpegbboljaaGreatDoor.Pure
set_option linter.unusedVariables false
set_option linter.unusedSimpArgs false
theorem known_utf8 : knownL (labelL nUtf) = (nUtf, true) := by decide +kernel
theorem decL_utf (l : List UInt8) : decL nUtf l = vl l := by
  unfold decL
  rw [if_neg (by decide), if_neg (by decide), if_neg (by decide)]
def white (c : UInt8) : Bool := [32, 9, 10, 13].contains c
def begins (l : List UInt8) : Bool := hasPrefix l [61, 63]
def oneL (l : List UInt8) : List UInt8 × Nat :=
  if begins l = true ∧ (cutL 63 (l.drop 2)).2.2 = true ∧ (cutL 63 (cutL 63 (l.drop 2)).2.1).2.2 = true ∧ (cutL 63 (cutL 63 (cutL 63 (l.drop 2)).2.1).2.1).2.2 = true
      ∧ hasPrefix (cutL 63 (cutL 63 (cutL 63 (l.drop 2)).2.1).2.1).2.1 [61] = true ∧ 1 ≤ (cutL 63 (l.drop 2)).1.length ∧ (cutL 63 (l.drop 2)).1.length ≤ 40
      ∧ ((cutL 63 (l.drop 2)).1 ++ (cutL 63 (cutL 63 (l.drop 2)).2.1).1 ++ (cutL 63 (cutL 63 (cutL 63 (l.drop 2)).2.1).2.1).1).any white = false
      ∧ (knownL (labelL ⟨(cutL 42 (cutL 63 (l.drop 2)).1).1.toArray⟩)).2 = true then
    if (cutL 63 (cutL 63 (l.drop 2)).2.1).1 = [66] ∨ (cutL 63 (cutL 63 (l.drop 2)).2.1).1 = [98] then
      (decL (knownL (labelL ⟨(cutL 42 (cutL 63 (l.drop 2)).1).1.toArray⟩)).1 (B64.b64DecL (cutL 63 (cutL 63 (cutL 63 (l.drop 2)).2.1).2.1).1), l.length - ((cutL 63 (cutL 63 (cutL 63 (l.drop 2)).2.1).2.1).2.1.length - 1))
    else if (cutL 63 (cutL 63 (l.drop 2)).2.1).1 = [81] ∨ (cutL 63 (cutL 63 (l.drop 2)).2.1).1 = [113] then
      (decL (knownL (labelL ⟨(cutL 42 (cutL 63 (l.drop 2)).1).1.toArray⟩)).1 (WordQ.quotedL (cutL 63 (cutL 63 (cutL 63 (l.drop 2)).2.1).2.1).1), l.length - ((cutL 63 (cutL 63 (cutL 63 (l.drop 2)).2.1).2.1).2.1.length - 1))
    else ([], 0)
  else ([], 0)
theorem one_none (l : List UInt8) (h : begins l = false) : oneL l = ([], 0) := by
  unfold oneL; rw [if_neg (by rw [h]; simp)]
theorem one_le (l : List UInt8) : (oneL l).2 ≤ l.length := by
  unfold oneL; split
  · split
    · exact Nat.sub_le _ _
    · split
      · exact Nat.sub_le _ _
      · exact Nat.zero_le _
  · exact Nat.zero_le _
theorem begins_cons (a b : UInt8) (r : List UInt8) : begins (a :: b :: r) = (a == 61 && b == 63) := by
  simp only [begins, hasPrefix, List.isPrefixOf]
  rw [Bool.beq_comm (a := (61 : UInt8)), Bool.beq_comm (a := (63 : UInt8))]; simp
theorem begins_one (a : UInt8) : begins [a] = false := by simp [begins, hasPrefix, List.isPrefixOf]
def wordGo : Nat → List UInt8 → Bool → List UInt8 → List UInt8
  | 0, p, _, _ => vl p
  | n + 1, p, b, l =>
    match l with
    | [] => vl p
    | c :: r => if (oneL (c :: r)).2 = 0 then wordGo n (p ++ [c]) b r
      else (if (b && p.all white) = true then [] else vl p) ++ (oneL (c :: r)).1 ++ wordGo n [] true ((c :: r).drop (oneL (c :: r)).2)
theorem wordGo_more : ∀ (n : Nat) (p : List UInt8) (b : Bool) (l : List UInt8), l.length ≤ n → ∀ m, n ≤ m → wordGo m p b l = wordGo n p b l := by
  intro n
  induction n with
  | zero =>
    intro p b l h m _
    obtain rfl := List.eq_nil_of_length_eq_zero (by omega : l.length = 0)
    cases m <;> rfl
  | succ n ih =>
    intro p b l h m hm
    obtain ⟨m, rfl⟩ : ∃ k, m = k + 1 := ⟨m - 1, by omega⟩
    match l with
    | [] => rfl
    | c :: r =>
      simp only [List.length_cons] at h
      simp only [wordGo]
      by_cases h0 : (oneL (c :: r)).2 = 0
      · rw [if_pos h0, if_pos h0, ih _ _ _ (by omega) m (by omega)]
      · rw [if_neg h0, if_neg h0, ih _ _ _ (by simp only [List.length_drop, List.length_cons]; omega) m (by omega)]
def wordF (p : List UInt8) (b : Bool) (l : List UInt8) : List UInt8 := wordGo l.length p b l
def wordL (l : List UInt8) : List UInt8 := wordF [] false l
theorem wordF_nil (p : List UInt8) (b : Bool) : wordF p b [] = vl p := rfl
theorem wordF_no (p : List UInt8) (b : Bool) (c : UInt8) (r : List UInt8) (h : (oneL (c :: r)).2 = 0) : wordF p b (c :: r) = wordF (p ++ [c]) b r := by
  simp only [wordF, List.length_cons, wordGo]; rw [if_pos h]
theorem wordF_yes (p : List UInt8) (b : Bool) (l : List UInt8) (h : ¬ (oneL l).2 = 0) :
    wordF p b l = (if (b && p.all white) = true then [] else vl p) ++ (oneL l).1 ++ wordF [] true (l.drop (oneL l).2) := by
  match l with
  | [] => exact absurd (by have := one_le []; simpa using this) h
  | c :: r =>
    simp only [wordF, List.length_cons, wordGo]
    rw [if_neg h, wordGo_more ((c :: r).drop (oneL (c :: r)).2).length _ _ _ (Nat.le_refl _) r.length (by simp only [List.length_drop, List.length_cons]; omega)]
theorem wordF_skip : ∀ (i : Nat) (p : List UInt8) (b : Bool) (l : List UInt8), i ≤ l.length → (∀ j, j < i → begins (l.drop j) = false) → wordF p b l = wordF (p ++ l.take i) b (l.drop i)
  | 0, p, b, l, _, _ => by simp
  | i + 1, p, b, [], h, _ => by simp at h
  | i + 1, p, b, c :: r, h, hn => by
    rw [wordF_no p b c r (by rw [one_none _ (by simpa using hn 0 (by omega))])]
    rw [wordF_skip i (p ++ [c]) b r (by simp only [List.length_cons] at h; omega) (fun j hj => by have := hn (j + 1) (by omega); simpa using this)]
    simp
theorem wordF_plain (p : List UInt8) (b : Bool) (l : List UInt8) (h : ∀ j, j < l.length → begins (l.drop j) = false) : wordF p b l = vl (p ++ l) := by
  rw [wordF_skip l.length p b l (Nat.le_refl _) h]; simp [wordF_nil]
theorem index_begins : ∀ l : List UInt8, (∀ i : Nat, index l [61, 63] = (i : Int) → i < l.length ∧ begins (l.drop i) = true ∧ ∀ j, j < i → begins (l.drop j) = false) ∧ (index l [61, 63] < 0 → ∀ j, j < l.length → begins (l.drop j) = false)
  | [] => by
    constructor
    · intro i h
      have e : index [] [61, 63] = -1 := by decide
      rw [e] at h; omega
    · intro _ j hj; simp at hj
  | c :: r => by
    obtain ⟨h1, h2⟩ := index_begins r
    by_cases hb : begins (c :: r) = true
    · have e : index (c :: r) [61, 63] = 0 := by
        have : [61, 63].isPrefixOf (c :: r) = true := hb
        simp only [index, this, if_true]
      refine ⟨fun i hi => ?_, fun h => by omega⟩
      obtain rfl : i = 0 := by omega
      exact ⟨by simp, by simpa using hb, fun j hj => by omega⟩
    · have hb2 : [61, 63].isPrefixOf (c :: r) = false := Bool.eq_false_iff.2 hb
      have hb3 : begins (c :: r) = false := hb2
      by_cases hr : index r [61, 63] = -1
      · have e : index (c :: r) [61, 63] = -1 := by
          simp only [index, hb2, hr]; simp
        refine ⟨fun i hi => by omega, fun _ j hj => ?_⟩
        cases j with
        | zero => simpa using hb3
        | succ j => simpa using h2 (by omega) j (by simp only [List.length_cons] at hj; omega)
      · have e : index (c :: r) [61, 63] = index r [61, 63] + 1 := by
          simp only [index, hb2]; simp [hr]
        have hge : -1 ≤ index r [61, 63] := index_ge _ _
        refine ⟨fun i hi => ?_, fun h => by omega⟩
        obtain ⟨k, rfl⟩ : ∃ k, i = k + 1 := ⟨i - 1, by omega⟩
        obtain ⟨a1, a2, a3⟩ := h1 k (by omega)
        refine ⟨by simp only [List.length_cons]; omega, by simpa using a2, fun j hj => ?_⟩
        cases j with
        | zero => simpa using hb3
        | succ j => simpa using a3 j (by omega)
def okC (c : UInt8) : Bool := decide (32 ≤ c.toNat ∧ c.toNat ≤ 126)
def plainE (l : List UInt8) : Bool := decide (index l [61, 63] < 0) && l.all okC
def chunk : Nat → List UInt8 → Nat → Nat
  | 0, _, n => n
  | f + 1, l, n => if l = [] then n else if 30 < n + (uDec l).2 then n else chunk f (l.drop (uDec l).2) (n + (uDec l).2)
theorem chunk_more : ∀ (f : Nat) (l : List UInt8) (n : Nat), l.length ≤ f → ∀ g, f ≤ g → chunk g l n = chunk f l n := by
  intro f
  induction f with
  | zero =>
    intro l n h g _
    obtain rfl := List.eq_nil_of_length_eq_zero (by omega : l.length = 0)
    cases g <;> simp [chunk]
  | succ f ih =>
    intro l n h g hg
    obtain ⟨g, rfl⟩ : ∃ k, g = k + 1 := ⟨g - 1, by omega⟩
    simp only [chunk]
    by_cases h0 : l = []
    · rw [if_pos h0, if_pos h0]
    · rw [if_neg h0, if_neg h0]
      have := dec_width l h0
      rw [ih _ _ (by rw [List.length_drop]; omega) g (by omega)]
theorem chunk_bd : ∀ (f : Nat) (l : List UInt8) (n : Nat), n ≤ chunk f l n ∧ chunk f l n ≤ n + l.length
  | 0, l, n => by simp [chunk]
  | f + 1, l, n => by
    simp only [chunk]
    split
    · omega
    · rename_i h0
      split
      · omega
      · have := dec_width l h0
        have ih := chunk_bd f (l.drop (uDec l).2) (n + (uDec l).2)
        rw [List.length_drop] at ih
        omega
theorem width4 (l : List UInt8) (h : l ≠ []) : (uDec l).2 ≤ 4 := by
  rcases dec_cases l h with ⟨_, h, _⟩ | ⟨_, _, h, _⟩
  · rw [h]; decide
  · exact h
theorem chunk_pos (f : Nat) (l : List UInt8) (h : l ≠ []) (hf : l.length ≤ f) : 1 ≤ chunk f l 0 := by
  obtain ⟨g, rfl⟩ : ∃ k, f = k + 1 := ⟨f - 1, by have := List.length_pos_iff.2 h; omega⟩
  have := width4 l h
  have hw := dec_width l h
  simp only [chunk]
  rw [if_neg h, if_neg (by omega)]
  have := (chunk_bd g (l.drop (uDec l).2) (0 + (uDec l).2)).1
  omega
def chunks : Nat → List UInt8 → List (List UInt8)
  | 0, _ => []
  | f + 1, l => if l = [] then [] else l.take (chunk l.length l 0) :: chunks f (l.drop (chunk l.length l 0))
theorem chunks_more : ∀ (f : Nat) (l : List UInt8), l.length ≤ f → ∀ g, f ≤ g → chunks g l = chunks f l := by
  intro f
  induction f with
  | zero =>
    intro l h g _
    obtain rfl := List.eq_nil_of_length_eq_zero (by omega : l.length = 0)
    cases g <;> simp [chunks]
  | succ f ih =>
    intro l h g hg
    obtain ⟨g, rfl⟩ : ∃ k, g = k + 1 := ⟨g - 1, by omega⟩
    simp only [chunks]
    by_cases h0 : l = []
    · rw [if_pos h0, if_pos h0]
    · rw [if_neg h0, if_neg h0]
      have := chunk_pos l.length l h0 (Nat.le_refl _)
      rw [ih _ (by rw [List.length_drop]; omega) g (by omega)]
def wordOf (x : List UInt8) : List UInt8 := [61, 63, 117, 116, 102, 45, 56, 63, 66, 63] ++ B64.b64EncL x ++ [63, 61]
def wordsL (l : List UInt8) : List (List UInt8) := (chunks l.length l).map wordOf
def encL (l : List UInt8) : List UInt8 := if plainE l = true then l else [32].intercalate (wordsL (vl l))
theorem chunk_Val : ∀ (f : Nat) (v : List UInt8) (n : Nat), Val v → v.length ≤ f → ∃ a b, v = a ++ b ∧ Val a ∧ Val b ∧ chunk f v n = n + a.length ∧ (n + a.length ≤ 30 ∨ a = []) := by
  intro f
  induction f with
  | zero =>
    intro v n hv h
    obtain rfl := List.eq_nil_of_length_eq_zero (by omega : v.length = 0)
    exact ⟨[], [], rfl, Val.nil, Val.nil, by simp [chunk], .inr rfl⟩
  | succ f ih =>
    intro v n hv h
    obtain ⟨rs, rfl⟩ := hv
    match rs with
    | [] => exact ⟨[], [], rfl, Val.nil, Val.nil, by simp [chunk], .inr rfl⟩
    | r :: rs =>
      rw [List.flatMap_cons] at h ⊢
      have hd := dec_enc r (rs.flatMap Lib.encodeRune)
      have hne : Lib.encodeRune r ++ rs.flatMap Lib.encodeRune ≠ [] := by
        intro e; exact enc_ne r (List.append_eq_nil_iff.1 e).1
      have hl := enc_len r
      rw [List.length_append] at h
      simp only [chunk]
      rw [if_neg hne, hd]
      simp only
      by_cases h30 : 30 < n + (Lib.encodeRune r).length
      · rw [if_pos h30]
        exact ⟨[], _, rfl, Val.nil, (Val.enc r).append ⟨rs, rfl⟩, by simp, .inr rfl⟩
      · rw [if_neg h30]
        obtain ⟨a, b, e1, e2, e3, e4, e5⟩ := ih (rs.flatMap Lib.encodeRune) (n + (Lib.encodeRune r).length) ⟨rs, rfl⟩ (by omega)
        refine ⟨Lib.encodeRune r ++ a, b, by rw [e1, List.append_assoc], (Val.enc r).append e2, e3, ?_, .inl ?_⟩
        · rw [List.drop_left, e4, List.length_append]; omega
        · rw [List.length_append]
          rcases e5 with e5 | e5
          · omega
          · rw [e5, List.length_nil]; omega
theorem chunks_Val : ∀ (f : Nat) (v : List UInt8), Val v → v.length ≤ f → (chunks f v).flatten = v ∧ ∀ x ∈ chunks f v, Val x ∧ x.length ≤ 30 := by
  intro f
  induction f with
  | zero =>
    intro v hv h
    obtain rfl := List.eq_nil_of_length_eq_zero (by omega : v.length = 0)
    exact ⟨rfl, by simp [chunks]⟩
  | succ f ih =>
    intro v hv h
    simp only [chunks]
    by_cases h0 : v = []
    · subst h0; exact ⟨rfl, by simp⟩
    · rw [if_neg h0]
      obtain ⟨a, b, e1, e2, e3, e4, e5⟩ := chunk_Val v.length v 0 hv (Nat.le_refl _)
      have hp := chunk_pos v.length v h0 (Nat.le_refl _)
      rw [e4, Nat.zero_add] at hp ⊢
      have ha : a.length ≤ 30 := by
        rcases e5 with e5 | e5
        · omega
        · rw [e5]; decide
      subst e1
      rw [List.take_left, List.drop_left]
      rw [List.length_append] at h
      obtain ⟨h1, h2⟩ := ih b e3 (by omega)
      refine ⟨by rw [List.flatten_cons, h1], fun x hx => ?_⟩
      rcases List.mem_cons.1 hx with rfl | hx
      · exact ⟨e2, ha⟩
      · exact h2 x hx
def letterOk (c : UInt8) : Bool := c != 63 && !white c && okC c
theorem letter_ok : ∀ n : Fin 64, letterOk (B64.letterC n.val) = true := by decide +kernel
theorem enc_chars (x : List UInt8) : ∀ c ∈ B64.b64EncL x, letterOk c = true := by
  intro c hc
  unfold B64.b64EncL at hc
  rw [B64.encT_is] at hc
  rcases List.mem_append.1 hc with h | h
  · obtain ⟨g, hg, rfl⟩ := List.mem_map.1 h
    exact letter_ok ⟨g, B64.encC_lt _ _ (Nat.le_refl _) g hg⟩
  · rw [(List.mem_replicate.1 h).2]; decide
theorem letterOk_split {c : UInt8} (h : letterOk c = true) : c ≠ 63 ∧ white c = false ∧ okC c = true ∧ c ≠ 32 := by
  unfold letterOk at h
  simp only [Bool.and_eq_true, bne_iff_ne, Bool.not_eq_true'] at h
  refine ⟨h.1.1, h.1.2, h.2, ?_⟩
  rintro rfl
  exact absurd h.1.2 (by decide)
theorem cut_at (c : UInt8) (a r : List UInt8) (h : c ∉ a) : cutL c (a ++ c :: r) = (a, r, true) := by
  unfold cutL
  rw [if_pos (by simp)]
  have ht : (a ++ c :: r).takeWhile (· != c) = a := by
    rw [List.takeWhile_append_of_pos (fun x hx => by simp only [bne_iff_ne]; rintro rfl; exact h hx)]
    simp
  have hd : (a ++ c :: r).dropWhile (· != c) = c :: r := by
    rw [List.dropWhile_append_of_pos (fun x hx => by simp only [bne_iff_ne]; rintro rfl; exact h hx)]
    simp
  rw [ht, hd]; rfl
theorem wordOf_len (x : List UInt8) : (wordOf x).length = 12 + (B64.b64EncL x).length := by
  unfold wordOf; simp only [List.length_append, List.length_cons, List.length_nil]; omega
theorem one_word (x r : List UInt8) (hx : Val x) : oneL (wordOf x ++ r) = (x, (wordOf x).length) := by
  have e0 : (wordOf x ++ r).drop 2 = [117, 116, 102, 45, 56] ++ 63 :: ([66] ++ 63 :: (B64.b64EncL x ++ 63 :: (61 :: r))) := by simp [wordOf]
  have hno : (63 : UInt8) ∉ B64.b64EncL x := fun h => (letterOk_split (enc_chars x _ h)).1 rfl
  have e1 := cut_at 63 [117, 116, 102, 45, 56] ([66] ++ 63 :: (B64.b64EncL x ++ 63 :: (61 :: r))) (by decide)
  have e2 := cut_at 63 [66] (B64.b64EncL x ++ 63 :: (61 :: r)) (by decide)
  have e3 := cut_at 63 (B64.b64EncL x) (61 :: r) hno
  have e4 : (cutL 42 [117, 116, 102, 45, 56]).1 = [117, 116, 102, 45, 56] := by decide
  have hb : begins (wordOf x ++ r) = true := by simp [begins, hasPrefix, wordOf, List.isPrefixOf]
  unfold oneL
  rw [e0, e1]
  simp only
  rw [e2]
  simp only
  rw [e3]
  simp only
  rw [e4, show (⟨([117, 116, 102, 45, 56] : List UInt8).toArray⟩ : ByteArray) = nUtf from rfl, known_utf8]
  have hp : hasPrefix (61 :: r) [61] = true := by simp [hasPrefix, List.isPrefixOf]
  have hw : ([117, 116, 102, 45, 56] ++ [66] ++ B64.b64EncL x).any white = false := by
    rw [List.any_append, Bool.or_eq_false_iff]
    refine ⟨by decide, List.any_eq_false.2 fun c hc => ?_⟩
    rw [(letterOk_split (enc_chars x c hc)).2.1]; exact Bool.false_ne_true
  rw [if_pos ⟨hb, trivial, trivial, trivial, hp, by decide, by decide, hw, rfl⟩, if_pos (.inl trivial)]
  rw [decL_utf, B64.b64_back, show vl x = x from valL_stays _ _ hx (Nat.le_refl _)]
  refine Prod.ext rfl ?_
  simp only [List.length_append, List.length_cons]
  omega
theorem inter_cons (w v : List UInt8) (r : List (List UInt8)) : [32].intercalate (w :: v :: r) = w ++ 32 :: [32].intercalate (v :: r) := by
  simp [List.intercalate]
theorem inter_one (w : List UInt8) : [32].intercalate [w] = w := by simp [List.intercalate]
theorem inter_nil : [32].intercalate ([] : List (List UInt8)) = [] := by simp [List.intercalate]
theorem wordF_word (p : List UInt8) (b : Bool) (x r : List UInt8) (hx : Val x) (hp : p = [] ∨ (b = true ∧ p.all white = true)) : wordF p b (wordOf x ++ r) = x ++ wordF [] true r := by
  have h1 := one_word x r hx
  have hl := wordOf_len x
  rw [wordF_yes _ _ _ (by rw [h1]; simp only; omega), h1]
  simp only
  rw [List.drop_left]
  have : (if (b && p.all white) = true then [] else vl p) = [] := by
    rcases hp with rfl | ⟨rfl, h⟩
    · rw [vl_nil]; split <;> rfl
    · rw [h]; rfl
  rw [this]; rfl
theorem words_back : ∀ (cs : List (List UInt8)) (p : List UInt8) (b : Bool), cs ≠ [] → (∀ x ∈ cs, Val x) → (p = [] ∨ (b = true ∧ p.all white = true)) → wordF p b ([32].intercalate (cs.map wordOf)) = cs.flatten
  | [], _, _, h, _, _ => absurd rfl h
  | [x], p, b, _, hv, hp => by
    rw [List.map_cons, List.map_nil, inter_one]
    have := wordF_word p b x [] (hv x (by simp)) hp
    rw [List.append_nil] at this
    rw [this]; simp [wordF_nil, vl_nil]
  | x :: y :: cs, p, b, _, hv, hp => by
    rw [List.map_cons, List.map_cons, inter_cons, wordF_word p b x _ (hv x (by simp)) hp]
    rw [wordF_no [] true 32 _ (by rw [one_none _ (by rw [← List.map_cons]; cases h : [32].intercalate ((y :: cs).map wordOf) with
      | nil => exact begins_one _
      | cons q qs => rw [begins_cons]; rfl)])]
    have ih := words_back (y :: cs) ([] ++ [32]) true (by simp) (fun z hz => hv z (List.mem_cons_of_mem _ hz)) (.inr ⟨rfl, by decide⟩)
    rw [List.map_cons] at ih
    rw [ih]; simp
theorem inter_all (q : UInt8 → Bool) (h32 : q 32 = true) : ∀ ws : List (List UInt8), (∀ w ∈ ws, ∀ c ∈ w, q c = true) → ∀ c ∈ [32].intercalate ws, q c = true
  | [], _, c, hc => by rw [inter_nil] at hc; simp at hc
  | [w], h, c, hc => by rw [inter_one] at hc; exact h w (by simp) c hc
  | w :: v :: r, h, c, hc => by
    rw [inter_cons] at hc
    rcases List.mem_append.1 hc with hc | hc
    · exact h w (by simp) c hc
    · rcases List.mem_cons.1 hc with rfl | hc
      · exact h32
      · exact inter_all q h32 (v :: r) (fun w hw => h w (List.mem_cons_of_mem _ hw)) c hc
theorem vl_ne (l : List UInt8) (h : l ≠ []) : vl l ≠ [] := by
  intro e
  have hp := List.length_pos_iff.2 h
  unfold vl at e
  obtain ⟨n, hn⟩ : ∃ n, l.length = n + 1 := ⟨l.length - 1, by omega⟩
  rw [hn] at e
  simp only [valL, if_neg h] at e
  exact enc_ne _ (List.append_eq_nil_iff.1 e).1
theorem plainE_not {l : List UInt8} (h : ¬ plainE l = true) : l ≠ [] := by
  rintro rfl
  exact h (by decide)
theorem chunks_ne (v : List UInt8) (h : v ≠ []) : chunks v.length v ≠ [] := by
  obtain ⟨n, hn⟩ : ∃ n, v.length = n + 1 := ⟨v.length - 1, by have := List.length_pos_iff.2 h; omega⟩
  have : chunks (n + 1) v ≠ [] := by simp only [chunks]; rw [if_neg h]; simp
  rw [hn]; exact this
theorem enc_back (l : List UInt8) : wordL (encL l) = vl l := by
  unfold encL
  by_cases hp : plainE l = true
  · rw [if_pos hp]
    unfold plainE at hp
    rw [Bool.and_eq_true, decide_eq_true_eq] at hp
    have := wordF_plain [] false l ((index_begins l).2 hp.1)
    simpa [wordL] using this
  · rw [if_neg hp]
    have hv : vl l ≠ [] := vl_ne l (plainE_not hp)
    obtain ⟨h1, h2⟩ := chunks_Val (vl l).length (vl l) (vl_Val l) (Nat.le_refl _)
    unfold wordL wordsL
    rw [words_back _ [] false (chunks_ne _ hv) (fun x hx => (h2 x hx).1) (.inl rfl), h1]
end Go.Proofs.YtpcncpegbboljaaGreatDoor.WordL
namespace Go.Proofs.YtpcncpegbboljaaGreatDoor.WordQ
open Go.RowKit Go.Lib Go.Proofs.YtpcncpegbboljaaGreatDoor Go.Proofs.YtpcncpegbboljaaGreatDoor.Pure
set_option linter.unusedVariables false
set_option linter.unusedSimpArgs false
theorem drop1 (t : ByteArray) : (t.extract 1 t.size).data.toList = t.data.toList.drop 1 := by
  rw [extract_list, List.take_of_length_le (by simp)]
set_option maxRecDepth 100000 in
set_option maxHeartbeats 8000000 in
theorem quoted_c (s : ByteArray) (hs : s.size ≤ 1100000) (w : World) :
    Calls Tryz.prog 99 #[.string s] w fun e w' => e = .returned (.string ⟨(quotedL s.data.toList).toArray⟩) ∧ Below w.heap.size w w' := by
  have WB : ∀ (acc : List UInt8) (x : UInt8) (W : World), IsBuilderF 48 5 w.heap.size w.heap.size (byteCells acc) W → acc.length ≤ 2200000 → w.heap.size ≤ W.heap.size →
      Calls Tryz.prog 67 #[.pointer (some ⟨w.heap.size, 0, none⟩), .int .u8 (x.toNat : Int)] W fun e w' => e = .returned .nilIface ∧ (IsBuilderF 48 5 w.heap.size w.heap.size (byteCells (acc ++ [x])) w' ∧ Below w.heap.size W w') := by
    intro acc x W h h1 h2
    refine (Bld.WriteByte_k _ _ _ (x.toNat : Int) W h (by simp [byteCells]; omega) h2).mono ?_
    rintro e w' ⟨rfl, k1, k2, _⟩
    exact ⟨rfl, by simpa [byteCells] using k1, k2⟩
  have HWB := Lib.hid WB
  clear WB
  go_enter Tryz.func99, Tryz.ntmps99
  go_wp2
  go_loopw [0] (fun v wr => ∃ (t : ByteArray) (acc : List UInt8), v = .string t ∧ t.size ≤ s.size ∧ acc ++ quotedL t.data.toList = quotedL s.data.toList ∧ acc.length + t.size ≤ s.size ∧ IsBuilderF 48 5 w.heap.size w.heap.size (byteCells acc) wr ∧ Below w.heap.size w wr) (fun v _ => match v with | .string t => t.size | _ => 0)
  case atStart => exact ⟨s, [], rfl, Nat.le_refl _, rfl, by simp, IsBuilderF.of (Lib.fresh_isBuilder 48 5 w), (Below.refl _ w).alloc (Nat.le_refl _) _⟩
  case round =>
    obtain ⟨t, acc, rfl, hts, he, hal, hI, hB⟩ := hrel
    have HI := Lib.hid hI; have HB := Lib.hid hB; have HE := Lib.hid he
    clear hI hB he
    have hlt : t.data.toList.length = t.size := by simp
    have HLT := Lib.hid hlt
    clear hlt
    by_cases ht : t.size = 0
    · have hnil : t.data.toList = [] := List.length_eq_zero_iff.1 (by rw [HLT.out]; exact ht)
      have htl : t.toList = [] := by rw [toList_eq]; exact hnil
      have he2 : acc = quotedL s.data.toList := by have := HE.out; rw [hnil] at this; simpa [quotedL] using this
      have HE2 := Lib.hid he2
      have hsz : w.heap.size ≤ wr.heap.size := HB.out.size
      clear he2 hnil
      go_wp2_with (go_at_call 36; refine (Tryz.Builder_String_any_k w.heap.size w.heap.size acc _ HI.out hsz).mono ?_; rintro e W1 ⟨rfl, _, b1, _⟩; have HB1 := Lib.hid b1; clear b1)
      go_ret
      exact ⟨by rw [← HE2.out]; rfl, HB.out.trans HB1.out⟩
    · have hne : ¬ t.toList = [] := by
        rw [toList_eq]; intro e; have := HLT.out; rw [e] at this; simp at this; omega
      have hem : t.toList.isEmpty = false := by cases h : t.toList with
        | nil => exact absurd h hne
        | cons x y => rfl
      have hsz : w.heap.size ≤ wr.heap.size := HB.out.size
      obtain ⟨c, r, hcr⟩ : ∃ c r, t.data.toList = c :: r := by
        cases h : t.data.toList with
        | nil => have := HLT.out; rw [h] at this; simp at this; omega
        | cons c r => exact ⟨c, r, rfl⟩
      have hr : (t.extract 1 t.size).data.toList = r := by rw [drop1, hcr]; rfl
      have hrz : (t.extract 1 t.size).size = t.size - 1 := by simp
      have hp0 : 0 < t.size := by omega
      have hp1 : 1 ≤ t.size := by omega
      have h0 : t[0] = c := by
        have h1 : t.data.toList[0]'(by rw [hcr]; simp) = c := by simp [hcr]
        exact h1
      have HCR := Lib.hid hcr; have HR := Lib.hid hr
      clear hcr hr
      have hc : c.toNat < 256 := UInt8.toNat_lt _
      by_cases h95 : c.toNat = 95
      · have hq : quotedL (c :: r) = 32 :: quotedL r := by
          have e : c = 95 := UInt8.toNat_inj.1 h95
          subst e
          match r with
          | [] => rfl
          | [d] => rfl
          | a :: b :: r' => simp only [quotedL]; rw [if_neg (by simp)]; rfl
        have HQ := Lib.hid hq
        clear hq
        go_wp2_with (go_at_call 67; refine (HWB.out acc 32 _ HI.out (by omega) HB.out.size).mono ?_; rintro e W1 ⟨rfl, k1, k2⟩; have HK1 := Lib.hid k1; have HK2 := Lib.hid k2; clear k1 k2)
        go_roundw
        case rel =>
          refine ⟨_, acc ++ [32], rfl, by omega, ?_, by rw [List.length_append, hrz]; simp; omega, HK1.out, HB.out.trans HK2.out⟩
          rw [← HE.out, HCR.out, HQ.out, HR.out]; simp
        case measure => simp only [hrz]; omega
      · have hc95 : ¬ c = 95 := fun e => h95 (by rw [e]; rfl)
        by_cases h61 : c.toNat = 61
        · obtain rfl : c = 61 := UInt8.toNat_inj.1 h61
          clear h61 hc h95
          have w61 : ∀ (W : World), IsBuilderF 48 5 w.heap.size w.heap.size (byteCells acc) W → w.heap.size ≤ W.heap.size → Calls Tryz.prog 67 #[.pointer (some ⟨w.heap.size, 0, none⟩), .int .u8 61] W fun e w' => e = .returned .nilIface ∧ (IsBuilderF 48 5 w.heap.size w.heap.size (byteCells (acc ++ [61])) w' ∧ Below w.heap.size W w') := fun W h1 h2 => HWB.out acc 61 W h1 (by omega) h2
          have W61 := Lib.hid w61
          clear w61
          obtain ⟨u, hu⟩ : ∃ u, t.extract 1 t.size = u := ⟨_, rfl⟩
          have hrl : r.length = u.size := by rw [← HR.out, hu]; simp
          have hts2 : t.size = u.size + 1 := by rw [← hu]; simp; omega
          have HRL := Lib.hid hrl; have HTS := Lib.hid hts2
          have hru : u.data.toList = r := by rw [← hu]; exact HR.out
          have HRU := Lib.hid hru
          clear hrl hts2 hru HR hrz
          by_cases hl2 : u.size ≤ 1
          · have hq : quotedL (61 :: r) = 61 :: quotedL r := by
              match r, HRL.out with
              | [], _ => simp [quotedL, hc95]
              | [d], _ => simp [quotedL, hc95]
              | a :: b :: r', h => simp only [List.length_cons] at h; omega
            have HQ := Lib.hid hq
            have hg : ¬ (1 : Int) < (u.size : Int) := by omega
            have hg2 : ¬ 1 < u.size := by omega
            clear hq
            go_wp2_with (go_at_call 67; refine (W61.out _ HI.out HB.out.size).mono ?_; rintro e W1 ⟨rfl, k1, k2⟩; have HK1 := Lib.hid k1; have HK2 := Lib.hid k2; clear k1 k2)
            go_roundw
            case rel =>
              have := HTS.out
              refine ⟨_, acc ++ [61], rfl, by omega, ?_, by rw [List.length_append]; simp; omega, HK1.out, HB.out.trans HK2.out⟩
              rw [← HE.out, HCR.out, HQ.out, HRU.out]; simp
            case measure => have := HTS.out; simp only; omega
          · obtain ⟨a, b, r', rfl⟩ : ∃ a b r', r = a :: b :: r' := by
              match r, HRL.out with
              | [], h => simp only [List.length_nil] at h; omega
              | [d], h => simp only [List.length_cons, List.length_nil] at h; omega
              | a :: b :: r', _ => exact ⟨a, b, r', rfl⟩
            have hg : (1 : Int) < (u.size : Int) := by omega
            have hg2 : 1 < u.size := by omega
            have hg3 : 0 < u.size := by omega
            have hg4 : 2 ≤ u.size := by omega
            have hg5 : (2 : Int) ≤ (u.size : Int) := by omega
            have hg6 : (0 : Int) < (u.size : Int) := by omega
            have u0 : u[0] = a := by
              have h1 : u.data.toList[0]'(by rw [HRU.out]; simp) = a := by simp [HRU.out]
              exact h1
            have u1 : u[1] = b := by
              have h1 : u.data.toList[1]'(by rw [HRU.out]; simp) = b := by simp [HRU.out]
              exact h1
            have UA := Lib.hid (upper_e a); have UB := Lib.hid (upper_e b)
            have IA := Lib.hid (index_digits a); have IB := Lib.hid (index_digits b)
            have hxa := hexW_r a; have hxb := hexW_r b
            have hqq : quotedL (61 :: a :: b :: r') = if 0 ≤ hexW a ∧ 0 ≤ hexW b then UInt8.ofNat (16 * (hexW a).toNat + (hexW b).toNat) :: quotedL r' else 61 :: quotedL (a :: b :: r') := by
              simp only [quotedL]
              by_cases hh : 0 ≤ hexW a ∧ 0 ≤ hexW b
              · rw [if_pos ⟨trivial, hh⟩, if_pos hh]
              · rw [if_neg (fun h => hh h.2), if_neg hh, if_neg hc95]
            have HQQ := Lib.hid hqq
            clear hqq
            generalize hexW a = xa at *
            generalize hexW b = xb at *
            go_upto_region 8 with fail
            go_quiet ((first
              | (go_at_call 124; first | ((with_reducible refine (UA.out _).mono ?_); rintro e W ⟨rfl, rfl⟩; exact ⟨rfl, _, rfl⟩) | ((with_reducible refine (UB.out _).mono ?_); rintro e W ⟨rfl, rfl⟩; exact ⟨rfl, _, rfl⟩))
              | (go_at_call 108; first | ((with_reducible refine (IA.out _).mono ?_); rintro e W ⟨rfl, rfl⟩; exact ⟨rfl, _, rfl⟩) | ((with_reducible refine (IB.out _).mono ?_); rintro e W ⟨rfl, rfl⟩; exact ⟨rfl, _, rfl⟩))))
            rename_i nq
            have hI4 := IsBuilderF.below (W' := wr.drewN nq) HI.out (bdrewN (Below.refl _ _) nq)
            have hB4 : Below w.heap.size w (wr.drewN nq) := bdrewN HB.out nq
            have hS4 : w.heap.size ≤ (wr.drewN nq).heap.size := hB4.size
            generalize wr.drewN nq = W0 at *
            have HI4 := Lib.hid hI4; have HB4 := Lib.hid hB4
            clear hI4 hB4
            have key : ¬ (0 ≤ xa ∧ 0 ≤ xb) → acc ++ [61] ++ quotedL u.data.toList = quotedL s.data.toList := by
              intro hn
              rw [← HE.out, HCR.out, HQQ.out, if_neg hn, HRU.out]; simp
            have KEY := Lib.hid key
            clear key
            rcases hxa with rfl | ⟨hxa0, hxa1⟩
            · go_wp2_with (go_at_call 67; refine (W61.out _ HI4.out HB4.out.size).mono ?_; rintro e W1 ⟨rfl, k1, k2⟩; have HK1 := Lib.hid k1; have HK2 := Lib.hid k2; clear k1 k2)
              go_roundw
              case rel =>
                have := HTS.out
                exact ⟨_, acc ++ [61], rfl, by omega, KEY.out (by omega), by rw [List.length_append]; simp; omega, HK1.out, HB4.out.trans HK2.out⟩
              case measure => have := HTS.out; simp only; omega
            · rcases hxb with rfl | ⟨hxb0, hxb1⟩
              · go_wp2_with (go_at_call 67; refine (W61.out _ HI4.out HB4.out.size).mono ?_; rintro e W1 ⟨rfl, k1, k2⟩; have HK1 := Lib.hid k1; have HK2 := Lib.hid k2; clear k1 k2)
                go_roundw
                case rel =>
                  have := HTS.out
                  exact ⟨_, acc ++ [61], rfl, by omega, KEY.out (by omega), by rw [List.length_append]; simp; omega, HK1.out, HB4.out.trans HK2.out⟩
                case measure => have := HTS.out; simp only; omega
              · obtain ⟨p, rfl⟩ : ∃ p : Nat, xa = (p : Int) := ⟨xa.toNat, by omega⟩
                obtain ⟨q, rfl⟩ : ∃ q : Nat, xb = (q : Int) := ⟨xb.toNat, by omega⟩
                have hor : bits .or .i64 (wrap64 ((p : Int) * 16)) (q : Int) = ((16 * p + q : Nat) : Int) := hex_or ⟨p, by omega⟩ ⟨q, by omega⟩
                have hpq : ((16 * p + q : Nat) : Int) < 256 := by omega
                have hpq0 : (0 : Int) ≤ ((16 * p + q : Nat) : Int) := by omega
                obtain ⟨x, hx⟩ : ∃ x : UInt8, x.toNat = 16 * p + q := ⟨UInt8.ofNat (16 * p + q), by rw [UInt8.toNat_ofNat']; omega⟩
                have hqe : acc ++ [x] ++ quotedL r' = quotedL s.data.toList := by
                  have e : UInt8.ofNat (16 * ((p : Int)).toNat + ((q : Int)).toNat) = x := by
                    apply UInt8.toNat_inj.1
                    rw [hx, UInt8.toNat_ofNat']; simp only [Int.toNat_natCast]; omega
                  rw [← HE.out, HCR.out, HQQ.out, if_pos ⟨hxa0, hxb0⟩, e]; simp
                have HQE := Lib.hid hqe
                clear hqe
                have HC : Hid (bits .or .i64 ((p : Int) * 16) (q : Int) % 256 = (x.toNat : Int)) := Lib.hid (by rw [show ((p : Int) * 16) = wrap64 ((p : Int) * 16) by unfold wrap64; omega, hor, hx]; omega)
                clear hor hpq hpq0
                have HX := Lib.hid hx
                clear hx
                go_upto_region 10 with fail
                go_quiet (fail)
                have hdr : (u.extract 2 u.size).data.toList = r' := by
                  rw [extract_list, List.take_of_length_le (by simp), HRU.out]; rfl
                have hdz : (u.extract 2 u.size).size = u.size - 2 := by simp
                go_wp2_with fail
                rw [HC.out]
                refine (HWB.out acc x _ (IsBuilderF.below HI4.out (bdrewN (Below.refl _ _) nq)) (by omega) HB4.out.size).mono ?_
                rintro e W1 ⟨rfl, k1, k2⟩
                have HK1 := Lib.hid k1; have HK2 := Lib.hid k2
                clear k1 k2
                go_wp2_with fail
                go_roundw
                case rel =>
                  have := HTS.out
                  exact ⟨_, acc ++ [x], rfl, by omega, by rw [hdr]; exact HQE.out, by rw [List.length_append, hdz]; simp; omega, HK1.out, HB4.out.trans (bdrewN (Below.refl _ _) nq |>.trans HK2.out)⟩
                case measure => have := HTS.out; simp only; omega
        · have hq : quotedL (c :: r) = c :: quotedL r := by
            have e : ¬ c = 61 := fun e => h61 (by rw [e]; rfl)
            match r with
            | [] => simp [quotedL, hc95]
            | [d] => simp [quotedL, hc95]
            | a :: b :: r' => simp only [quotedL]; rw [if_neg (fun h => e h.1), if_neg hc95]
          have HQ := Lib.hid hq
          clear hq
          go_wp2_with (go_at_call 67; refine (HWB.out acc c _ HI.out (by omega) HB.out.size).mono ?_; rintro e W1 ⟨rfl, k1, k2⟩; have HK1 := Lib.hid k1; have HK2 := Lib.hid k2; clear k1 k2)
          go_roundw
          case rel =>
            refine ⟨_, acc ++ [c], rfl, by omega, ?_, by rw [List.length_append, hrz]; simp; omega, HK1.out, HB.out.trans HK2.out⟩
            rw [← HE.out, HCR.out, HQ.out, HR.out]; simp
          case measure => simp only [hrz]; omega
end Go.Proofs.YtpcncpegbboljaaGreatDoor.WordQ
namespace Go.Proofs.YtpcncpegbboljaaGreatDoor.Alph
open Go.RowKit Go.Lib Go.Proofs.YtpcncpegbboljaaGreatDoor Go.Proofs.YtpcncpegbboljaaGreatDoor.C Go.Proofs.YtpcncpegbboljaaGreatDoor.Pure
set_option linter.unusedVariables false
theorem known_c (a : ByteArray) (ha : a.size ≤ 5000) (w : World) : Calls Tryz.prog 97 #[.string a] w fun e w' => e = .returned (.tuple #[.string (knownL (labelL a)).1, .bool (knownL (labelL a)).2]) ∧ Below w.heap.size w w' := by
  obtain ⟨r, h⟩ := known_is a ha
  exact chars_Known.calls r a _ _ w (h r (Nat.le_refl _))
theorem decode_c (a s : ByteArray) (ha : a.size ≤ 5000) (hs : s.size ≤ 11000000) (w : World) (hGl : Glob w) : Calls Tryz.prog 100 #[.string a, .string s] w fun e w' => e = .returned (.tuple #[.string ⟨(decL (knownL (labelL a)).1 s.data.toList).toArray⟩, .bool (knownL (labelL a)).2]) ∧ Below w.heap.size w w' := by
  obtain ⟨r, h⟩ := decode_is a s ha hs
  exact chars_Decode.calls r a s _ _ w hGl (h r (Nat.le_refl _))
end Go.Proofs.YtpcncpegbboljaaGreatDoor.Alph
namespace Go.Proofs.YtpcncpegbboljaaGreatDoor
open Go.RowKit Go.Lib Go.Proofs.YtpcncpegbboljaaGreatDoor.Pure
set_option linter.unusedVariables false
def chars_Known.f (a : ByteArray) : Option (ByteArray × Bool) := if a.size ≤ 5000 then some (knownL (labelL a)) else none
theorem chars_Known.calls (a r1 : ByteArray) (r2 : Bool) (w : World) (h : chars_Known.f a = some (r1, r2)) :
    Calls Tryz.prog 97 #[.string a] w fun e w' => e = .returned (.tuple #[.string r1, .bool r2]) ∧ Below w.heap.size w w' := by
  obtain ⟨h1, h2⟩ := of_guard h
  have := Alph.known_c a h1 w
  rw [h2] at this; exact this
def chars_Decode.f (a s : ByteArray) : Option (ByteArray × Bool) := if a.size ≤ 5000 ∧ s.size ≤ 11000000 then some (⟨(decL (knownL (labelL a)).1 s.data.toList).toArray⟩, (knownL (labelL a)).2) else none
theorem chars_Decode.calls (a s r1 : ByteArray) (r2 : Bool) (w : World) (hGl : Glob w) (h : chars_Decode.f a s = some (r1, r2)) :
    Calls Tryz.prog 100 #[.string a, .string s] w fun e w' => e = .returned (.tuple #[.string r1, .bool r2]) ∧ Below w.heap.size w w' := by
  obtain ⟨⟨h1, h2⟩, h3⟩ := of_guard h
  injection h3 with h4 h5
  subst h4 h5
  exact Alph.decode_c a s h1 h2 w hGl
end Go.Proofs.YtpcncpegbboljaaGreatDoor
namespace Go.Proofs.YtpcncpegbboljaaGreatDoor.WordL
open Go.RowKit Go.Lib Go.Proofs.YtpcncpegbboljaaGreatDoor Go.Proofs.YtpcncpegbboljaaGreatDoor.Pure
set_option linter.unusedVariables false
set_option linter.unusedSimpArgs false
theorem cut_len (c : UInt8) (l : List UInt8) : (cutL c l).1.length ≤ l.length ∧ (cutL c l).2.1.length ≤ l.length := by
  unfold cutL
  split
  · refine ⟨List.IsPrefix.length_le (List.takeWhile_prefix _), ?_⟩
    have := List.IsSuffix.length_le (List.dropWhile_suffix (l := l) (· != c))
    simp only [List.length_drop]; omega
  · exact ⟨Nat.le_refl _, by simp⟩
theorem trim_len (l p : List UInt8) : (trimPrefix l p).length ≤ l.length := by
  unfold trimPrefix; split
  · simp
  · exact Nat.le_refl _
theorem mk_l (l : List UInt8) : (⟨l.toArray⟩ : ByteArray).data.toList = l := rfl
theorem cut_got (s : ByteArray) (c : UInt8) (hs : s.size ≤ 1100000) : strings_Cut.f s ⟨#[c]⟩ = some (⟨(cutL c s.data.toList).1.toArray⟩, ⟨(cutL c s.data.toList).2.1.toArray⟩, (cutL c s.data.toList).2.2) := by
  unfold strings_Cut.f
  rw [if_pos ⟨rfl, by omega⟩]; rfl
theorem one_split (s : ByteArray) (hs : s.size ≤ 1100000) : ∃ (R0 N1 R1 N2 R2 N3 R3 R4 NM X5 : ByteArray) (is f1 f2 f3 f4 f5 : Bool),
    strings_CutPrefix.f s ⟨#[61, 63]⟩ = some (R0, is) ∧ strings_Cut.f R0 ⟨#[63]⟩ = some (N1, R1, f1) ∧ strings_Cut.f R1 ⟨#[63]⟩ = some (N2, R2, f2) ∧ strings_Cut.f R2 ⟨#[63]⟩ = some (N3, R3, f3)
    ∧ strings_CutPrefix.f R3 ⟨#[61]⟩ = some (R4, f4) ∧ strings_Cut.f N1 ⟨#[42]⟩ = some (NM, X5, f5)
    ∧ N1.size ≤ s.size ∧ N2.size ≤ s.size ∧ N3.size ≤ s.size ∧ R4.size ≤ s.size ∧ NM.size ≤ N1.size
    ∧ (is = false ∨ f1 = false ∨ f2 = false ∨ f3 = false ∨ f4 = false ∨ N1.size < 1 ∨ 40 < N1.size ∨ (N1 ++ N2 ++ N3).data.toList.any white = true ∨ (knownL (labelL NM)).2 = false → oneL s.data.toList = ([], 0))
    ∧ (is = true → f1 = true → f2 = true → f3 = true → f4 = true → 1 ≤ N1.size → N1.size ≤ 40 → (N1 ++ N2 ++ N3).data.toList.any white = false → (knownL (labelL NM)).2 = true →
        ((N2.data.toList = [66] ∨ N2.data.toList = [98]) → oneL s.data.toList = (decL (knownL (labelL NM)).1 (B64.b64DecL N3.data.toList), s.size - R4.size))
        ∧ (¬ N2.data.toList = [66] → ¬ N2.data.toList = [98] → (N2.data.toList = [81] ∨ N2.data.toList = [113]) → oneL s.data.toList = (decL (knownL (labelL NM)).1 (WordQ.quotedL N3.data.toList), s.size - R4.size))
        ∧ (¬ N2.data.toList = [66] → ¬ N2.data.toList = [98] → ¬ N2.data.toList = [81] → ¬ N2.data.toList = [113] → oneL s.data.toList = ([], 0))) := by
  have hl : s.data.toList.length = s.size := by simp
  have d0 := trim_len s.data.toList [61, 63]
  have d1 := cut_len 63 (trimPrefix s.data.toList [61, 63])
  have d2 := cut_len 63 (cutL 63 (trimPrefix s.data.toList [61, 63])).2.1
  have d3 := cut_len 63 (cutL 63 (cutL 63 (trimPrefix s.data.toList [61, 63])).2.1).2.1
  have d4 := trim_len (cutL 63 (cutL 63 (cutL 63 (trimPrefix s.data.toList [61, 63])).2.1).2.1).2.1 [61]
  have d5 := cut_len 42 (cutL 63 (trimPrefix s.data.toList [61, 63])).1
  refine ⟨_, _, _, _, _, _, _, _, _, _, _, _, _, _, _, _, rfl, cut_got _ 63 ?_, cut_got _ 63 ?_, cut_got _ 63 ?_, rfl, cut_got _ 42 ?_, ?_, ?_, ?_, ?_, ?_, ?_, ?_⟩
  any_goals (simp only [mk_l, mk_size]; omega)
  · simp only [mk_l, mk_size]
    intro h
    unfold oneL
    refine if_neg ?_
    rintro ⟨c1, c2, c3, c4, c5, c6, c7, c8, c9⟩
    have e0 : trimPrefix s.data.toList [61, 63] = s.data.toList.drop 2 := by
      unfold trimPrefix
      rw [if_pos (show hasPrefix s.data.toList [61, 63] = true from c1)]; rfl
    have c1' : hasPrefix s.data.toList [61, 63] = true := c1
    rw [e0] at h
    simp only [ByteArray.data_append, Array.toList_append] at h
    rcases h with h | h | h | h | h | h | h | h | h
    · rw [c1'] at h; simp at h
    · rw [c2] at h; simp at h
    · rw [c3] at h; simp at h
    · rw [c4] at h; simp at h
    · rw [c5] at h; simp at h
    · omega
    · omega
    · rw [c8] at h; simp at h
    · rw [c9] at h; simp at h
  · simp only [mk_l, mk_size]
    intro h1 h2 h3 h4 h5 h6 h7 h8 h9
    have e0 : trimPrefix s.data.toList [61, 63] = s.data.toList.drop 2 := by
      unfold trimPrefix
      rw [if_pos h1]; rfl
    simp only [ByteArray.data_append, Array.toList_append] at h8
    rw [e0] at h2 h3 h4 h5 h6 h7 h8 h9 ⊢
    have e4 : (trimPrefix (cutL 63 (cutL 63 (cutL 63 (s.data.toList.drop 2)).2.1).2.1).2.1 [61]).length = (cutL 63 (cutL 63 (cutL 63 (s.data.toList.drop 2)).2.1).2.1).2.1.length - 1 := by
      unfold trimPrefix; rw [if_pos h5]; simp
    rw [e4, ← hl]
    refine ⟨fun hb => ?_, fun n1 n2 hq => ?_, fun n1 n2 n3 n4 => ?_⟩
    · unfold oneL; rw [if_pos ⟨h1, h2, h3, h4, h5, h6, h7, h8, h9⟩, if_pos hb]
    · unfold oneL; rw [if_pos ⟨h1, h2, h3, h4, h5, h6, h7, h8, h9⟩, if_neg (fun h => h.elim n1 n2), if_pos hq]
    · unfold oneL; rw [if_pos ⟨h1, h2, h3, h4, h5, h6, h7, h8, h9⟩, if_neg (fun h => h.elim n1 n2), if_neg (fun h => h.elim n3 n4)]
theorem decGo_len : ∀ (l : List UInt8) (a b : Nat), (B64.decGo a b l).length ≤ 2 * l.length
  | [], _, _ => by simp [B64.decGo]
  | c :: r, a, b => by
    simp only [B64.decGo, List.length_cons]
    split
    · rw [List.length_append]
      have := B64.emit_len 8 ((a * 2 ^ 6 + (B64.placeC c).toNat) % 65536) 2 (b + 6)
      have := decGo_len r ((a * 2 ^ 6 + (B64.placeC c).toNat) % 65536) ((b + 6) % 8)
      omega
    · have := decGo_len r a b; omega
theorem b64Dec_len (l : List UInt8) : (B64.b64DecL l).length ≤ 2 * l.length := by
  unfold B64.b64DecL
  rw [List.length_map]
  have := decGo_len (cutL 61 l).1 0 0
  have := (cut_len 61 l).1
  omega
theorem white_any (N : ByteArray) : N.data.toList.any (⟨#[32, 9, 10, 13]⟩ : ByteArray).data.toList.contains = N.data.toList.any white := rfl
set_option maxRecDepth 100000 in
set_option maxHeartbeats 8000000 in
theorem one_c (s : ByteArray) (hs : s.size ≤ 1100000) (w : World) (hGl : Glob w) :
    Calls Tryz.prog 68 #[.string s] w fun e w' => e = .returned (.tuple #[.string ⟨(oneL s.data.toList).1.toArray⟩, .int .i64 ((oneL s.data.toList).2 : Int)]) ∧ Below w.heap.size w w' := by
  obtain ⟨R0, N1, R1, N2, R2, N3, R3, R4, NM, X5, is, f1, f2, f3, f4, f5, g0, g1, g2, g3, g4, g5, z1, z2, z3, z4, z5, hno, hyes⟩ := one_split s hs
  have HNO := Lib.hid hno; have HYES := Lib.hid hyes; have GL := Lib.hid hGl
  have CP0 := Lib.hid (fun W => strings_CutPrefix.calls s _ _ _ W g0)
  have CU0 := Lib.hid (fun W => strings_Cut.calls R0 _ _ _ _ W g1)
  have CU1 := Lib.hid (fun W => strings_Cut.calls R1 _ _ _ _ W g2)
  have CU2 := Lib.hid (fun W => strings_Cut.calls R2 _ _ _ _ W g3)
  have CP3 := Lib.hid (fun W => strings_CutPrefix.calls R3 _ _ _ W g4)
  have CU4 := Lib.hid (fun W => strings_Cut.calls N1 _ _ _ _ W g5)
  have hcat : (N1 ++ N2 ++ N3).size = N1.size + N2.size + N3.size := by rw [ByteArray.size_append, ByteArray.size_append]
  have CA := Lib.hid (fun W => containsAny_c (N1 ++ N2 ++ N3) (⟨#[32, 9, 10, 13]⟩ : ByteArray) (by decide) (by decide) (by decide) (by rw [hcat]; omega) W)
  rw [white_any] at CA
  have DB := Lib.hid (fun W => B64.Decode_c N3 (by omega) W)
  have DQ := Lib.hid (fun W => WordQ.quoted_c N3 (by omega) W)
  have tb : (⟨(B64.b64DecL N3.data.toList).toArray⟩ : ByteArray).size ≤ 11000000 := by
    rw [mk_size]; have := b64Dec_len N3.data.toList; have : N3.data.toList.length = N3.size := by simp
    omega
  have tq : (⟨(WordQ.quotedL N3.data.toList).toArray⟩ : ByteArray).size ≤ 11000000 := by
    rw [mk_size]; have := WordQ.quoted_len _ N3.data.toList (Nat.le_refl _); have : N3.data.toList.length = N3.size := by simp
    omega
  generalize hwh : (N1 ++ N2 ++ N3).data.toList.any white = wh at *
  clear hno hyes g0 g1 g2 g3 g4 g5 hGl hwh
  have s1 : N1.size + N2.size ≤ 11000000 := by omega
  go_enter Tryz.func68, Tryz.ntmps68
  go_upto_region 6 with (first
    | (go_at_call 96; first
        | ((with_reducible refine (CP0.out _).mono ?_); rintro e w1 ⟨rfl, hb1⟩; have HB1 := Lib.hid hb1; clear hb1)
        | ((with_reducible refine (CP3.out _).mono ?_); rintro e w5 ⟨rfl, hb5⟩; have HB5 := Lib.hid (HB4.out.trans (hb5.mono HB4.out.size)); clear hb5))
    | (go_at_call 23; first
        | ((with_reducible refine (CU0.out _).mono ?_); rintro e w2 ⟨rfl, hb2⟩; have HB2 := Lib.hid (HB1.out.trans (hb2.mono HB1.out.size)); clear hb2)
        | ((with_reducible refine (CU1.out _).mono ?_); rintro e w3 ⟨rfl, hb3⟩; have HB3 := Lib.hid (HB2.out.trans (hb3.mono HB2.out.size)); clear hb3)
        | ((with_reducible refine (CU2.out _).mono ?_); rintro e w4 ⟨rfl, hb4⟩; have HB4 := Lib.hid (HB3.out.trans (hb4.mono HB3.out.size)); clear hb4)))
  cases is with
  | false =>
    have HE := Lib.hid (HNO.out (by simp))
    go_wp2_with fail
    go_ret2
    exact ⟨by rw [HE.out]; rfl, HB5.out⟩
  | true =>
  cases f1 with
  | false =>
    have HE := Lib.hid (HNO.out (by simp))
    go_wp2_with fail
    go_ret2
    exact ⟨by rw [HE.out]; rfl, HB5.out⟩
  | true =>
  cases f2 with
  | false =>
    have HE := Lib.hid (HNO.out (by simp))
    go_wp2_with fail
    go_ret2
    exact ⟨by rw [HE.out]; rfl, HB5.out⟩
  | true =>
  cases f3 with
  | false =>
    have HE := Lib.hid (HNO.out (by simp))
    go_wp2_with fail
    go_ret2
    exact ⟨by rw [HE.out]; rfl, HB5.out⟩
  | true =>
  cases f4 with
  | false =>
    have HE := Lib.hid (HNO.out (by simp))
    go_wp2_with fail
    go_ret2
    exact ⟨by rw [HE.out]; rfl, HB5.out⟩
  | true =>
  by_cases m1 : N1.size < 1
  · have m1i : (N1.size : Int) < 1 := by omega
    have HE := Lib.hid (HNO.out (by simp [m1]))
    go_wp2_with fail
    go_ret2
    exact ⟨by rw [HE.out]; rfl, HB5.out⟩
  · have m1i : ¬ (N1.size : Int) < 1 := by omega
    have m1j : ¬ N1.size = 0 := by omega
    by_cases m2 : 40 < N1.size
    · have m2i : (40 : Int) < (N1.size : Int) := by omega
      have HE := Lib.hid (HNO.out (by simp [m2]))
      go_wp2_with fail
      go_ret2
      exact ⟨by rw [HE.out]; rfl, HB5.out⟩
    · have m2i : ¬ (40 : Int) < (N1.size : Int) := by omega
      have KN := Lib.hid (fun W => Alph.known_c NM (by omega) W)
      have hnm : NM.size ≤ 5000 := by omega
      cases wh with
      | true =>
        have HE := Lib.hid (HNO.out (by simp))
        go_wp2_with (go_at_call 25; refine (CA.out _).mono ?_; rintro e w6 ⟨rfl, hb6⟩; have HB6 := Lib.hid (HB5.out.trans (hb6.mono HB5.out.size)); clear hb6)
        go_ret2
        exact ⟨by rw [HE.out]; rfl, HB6.out⟩
      | false =>
        have DC1 := Lib.hid (fun W g => Alph.decode_c NM _ hnm tb W g)
        have DC2 := Lib.hid (fun W g => Alph.decode_c NM _ hnm tq W g)
        simp only [mk_l] at DC1 DC2
        generalize knownL (labelL NM) = kn at *
        obtain ⟨K1, k2⟩ := kn
        simp only at HNO HYES KN DC1 DC2
        cases k2 with
        | false =>
          have HE := Lib.hid (HNO.out (by simp))
          go_wp2_with (first
            | (go_at_call 25; refine (CA.out _).mono ?_; rintro e w6 ⟨rfl, hb6⟩; have HB6 := Lib.hid (HB5.out.trans (hb6.mono HB5.out.size)); clear hb6)
            | (go_at_call 23; refine (CU4.out _).mono ?_; rintro e w7 ⟨rfl, hb7⟩; have HB7 := Lib.hid (HB6.out.trans (hb7.mono HB6.out.size)); clear hb7)
            | (go_at_call 97; refine (KN.out _).mono ?_; rintro e w8 ⟨rfl, hb8⟩; have HB8 := Lib.hid (HB7.out.trans (hb8.mono HB7.out.size)); clear hb8))
          go_ret2
          exact ⟨by rw [HE.out]; rfl, HB8.out⟩
        | true =>
          obtain ⟨yb, yq, yn⟩ := HYES.out (by simp) (by simp) (by simp) (by simp) (by simp) (by omega) (by omega) (by simp) (by simp)
          have HSUB := Lib.hid (show ((s.size - R4.size : Nat) : Int) = (s.size : Int) - (R4.size : Int) by omega)
          clear HYES HNO
          generalize B64.b64DecL N3.data.toList = TB at *
          generalize WordQ.quotedL N3.data.toList = TQ at *
          by_cases n66 : N2.data.toList = [66]
          · have HY := Lib.hid (yb (.inl n66))
            obtain rfl : N2 = ⟨#[66]⟩ := ba_ext n66
            clear yb yq yn n66
            go_wp2_with (first
              | (go_at_call 25; refine (CA.out _).mono ?_; rintro e w6 ⟨rfl, hb6⟩; have HB6 := Lib.hid (HB5.out.trans (hb6.mono HB5.out.size)); clear hb6)
              | (go_at_call 23; refine (CU4.out _).mono ?_; rintro e w7 ⟨rfl, hb7⟩; have HB7 := Lib.hid (HB6.out.trans (hb7.mono HB6.out.size)); clear hb7)
              | (go_at_call 97; refine (KN.out _).mono ?_; rintro e w8 ⟨rfl, hb8⟩; have HB8 := Lib.hid (HB7.out.trans (hb8.mono HB7.out.size)); clear hb8)
              | (go_at_call 98; refine (DB.out _).mono ?_; rintro e w9 ⟨rfl, hb9⟩; have HB9 := Lib.hid (HB8.out.trans (hb9.mono HB8.out.size)); clear hb9)
              | (go_at_call 100; refine (DC1.out _ (GL.out.below HB9.out)).mono ?_; rintro e wA ⟨rfl, hbA⟩; have HBA := Lib.hid (HB9.out.trans (hbA.mono HB9.out.size)); clear hbA))
            go_ret2
            refine ⟨?_, HBA.out⟩
            rw [HY.out]
            show _ = Ending.returned (.tuple #[.string _, .int .i64 ((s.size - R4.size : Nat) : Int)])
            rw [HSUB.out]
            rfl
          by_cases n98 : N2.data.toList = [98]
          · have HY := Lib.hid (yb (.inr n98))
            obtain rfl : N2 = ⟨#[98]⟩ := ba_ext n98
            clear yb yq yn n98 n66
            go_wp2_with (first
              | (go_at_call 25; refine (CA.out _).mono ?_; rintro e w6 ⟨rfl, hb6⟩; have HB6 := Lib.hid (HB5.out.trans (hb6.mono HB5.out.size)); clear hb6)
              | (go_at_call 23; refine (CU4.out _).mono ?_; rintro e w7 ⟨rfl, hb7⟩; have HB7 := Lib.hid (HB6.out.trans (hb7.mono HB6.out.size)); clear hb7)
              | (go_at_call 97; refine (KN.out _).mono ?_; rintro e w8 ⟨rfl, hb8⟩; have HB8 := Lib.hid (HB7.out.trans (hb8.mono HB7.out.size)); clear hb8)
              | (go_at_call 98; refine (DB.out _).mono ?_; rintro e w9 ⟨rfl, hb9⟩; have HB9 := Lib.hid (HB8.out.trans (hb9.mono HB8.out.size)); clear hb9)
              | (go_at_call 100; refine (DC1.out _ (GL.out.below HB9.out)).mono ?_; rintro e wA ⟨rfl, hbA⟩; have HBA := Lib.hid (HB9.out.trans (hbA.mono HB9.out.size)); clear hbA))
            go_ret2
            refine ⟨?_, HBA.out⟩
            rw [HY.out]
            show _ = Ending.returned (.tuple #[.string _, .int .i64 ((s.size - R4.size : Nat) : Int)])
            rw [HSUB.out]
            rfl
          by_cases n81 : N2.data.toList = [81]
          · have HY := Lib.hid (yq n66 n98 (.inl n81))
            obtain rfl : N2 = ⟨#[81]⟩ := ba_ext n81
            clear yb yq yn n81 n66 n98
            go_wp2_with (first
              | (go_at_call 25; refine (CA.out _).mono ?_; rintro e w6 ⟨rfl, hb6⟩; have HB6 := Lib.hid (HB5.out.trans (hb6.mono HB5.out.size)); clear hb6)
              | (go_at_call 23; refine (CU4.out _).mono ?_; rintro e w7 ⟨rfl, hb7⟩; have HB7 := Lib.hid (HB6.out.trans (hb7.mono HB6.out.size)); clear hb7)
              | (go_at_call 97; refine (KN.out _).mono ?_; rintro e w8 ⟨rfl, hb8⟩; have HB8 := Lib.hid (HB7.out.trans (hb8.mono HB7.out.size)); clear hb8)
              | (go_at_call 99; refine (DQ.out _).mono ?_; rintro e w9 ⟨rfl, hb9⟩; have HB9 := Lib.hid (HB8.out.trans (hb9.mono HB8.out.size)); clear hb9)
              | (go_at_call 100; refine (DC2.out _ (GL.out.below HB9.out)).mono ?_; rintro e wA ⟨rfl, hbA⟩; have HBA := Lib.hid (HB9.out.trans (hbA.mono HB9.out.size)); clear hbA))
            go_ret2
            refine ⟨?_, HBA.out⟩
            rw [HY.out]
            show _ = Ending.returned (.tuple #[.string _, .int .i64 ((s.size - R4.size : Nat) : Int)])
            rw [HSUB.out]
            rfl
          by_cases n113 : N2.data.toList = [113]
          · have HY := Lib.hid (yq n66 n98 (.inr n113))
            obtain rfl : N2 = ⟨#[113]⟩ := ba_ext n113
            clear yb yq yn n113 n66 n98 n81
            go_wp2_with (first
              | (go_at_call 25; refine (CA.out _).mono ?_; rintro e w6 ⟨rfl, hb6⟩; have HB6 := Lib.hid (HB5.out.trans (hb6.mono HB5.out.size)); clear hb6)
              | (go_at_call 23; refine (CU4.out _).mono ?_; rintro e w7 ⟨rfl, hb7⟩; have HB7 := Lib.hid (HB6.out.trans (hb7.mono HB6.out.size)); clear hb7)
              | (go_at_call 97; refine (KN.out _).mono ?_; rintro e w8 ⟨rfl, hb8⟩; have HB8 := Lib.hid (HB7.out.trans (hb8.mono HB7.out.size)); clear hb8)
              | (go_at_call 99; refine (DQ.out _).mono ?_; rintro e w9 ⟨rfl, hb9⟩; have HB9 := Lib.hid (HB8.out.trans (hb9.mono HB8.out.size)); clear hb9)
              | (go_at_call 100; refine (DC2.out _ (GL.out.below HB9.out)).mono ?_; rintro e wA ⟨rfl, hbA⟩; have HBA := Lib.hid (HB9.out.trans (hbA.mono HB9.out.size)); clear hbA))
            go_ret2
            refine ⟨?_, HBA.out⟩
            rw [HY.out]
            show _ = Ending.returned (.tuple #[.string _, .int .i64 ((s.size - R4.size : Nat) : Int)])
            rw [HSUB.out]
            rfl
          have HY := Lib.hid (yn n66 n98 n81 n113)
          clear yb yq yn
          have p66 : ¬ N2.toList = [66] := by rw [toList_eq]; exact n66
          have q66 : (N2.toList == [66]) = false := by simpa using p66
          clear n66
          have p98 : ¬ N2.toList = [98] := by rw [toList_eq]; exact n98
          have q98 : (N2.toList == [98]) = false := by simpa using p98
          clear n98
          have p81 : ¬ N2.toList = [81] := by rw [toList_eq]; exact n81
          have q81 : (N2.toList == [81]) = false := by simpa using p81
          clear n81
          have p113 : ¬ N2.toList = [113] := by rw [toList_eq]; exact n113
          have q113 : (N2.toList == [113]) = false := by simpa using p113
          clear n113
          go_wp2_with (first
            | (go_at_call 25; refine (CA.out _).mono ?_; rintro e w6 ⟨rfl, hb6⟩; have HB6 := Lib.hid (HB5.out.trans (hb6.mono HB5.out.size)); clear hb6)
            | (go_at_call 23; refine (CU4.out _).mono ?_; rintro e w7 ⟨rfl, hb7⟩; have HB7 := Lib.hid (HB6.out.trans (hb7.mono HB6.out.size)); clear hb7)
            | (go_at_call 97; refine (KN.out _).mono ?_; rintro e w8 ⟨rfl, hb8⟩; have HB8 := Lib.hid (HB7.out.trans (hb8.mono HB7.out.size)); clear hb8))
          go_ret2
          exact ⟨by rw [HY.out]; rfl, HB8.out⟩
end Go.Proofs.YtpcncpegbboljaaGreatDoor.WordL
namespace Go.Proofs.YtpcncpegbboljaaGreatDoor.WordL
open Go.RowKit Go.Lib Go.Proofs.YtpcncpegbboljaaGreatDoor Go.Proofs.YtpcncpegbboljaaGreatDoor.Pure
set_option linter.unusedVariables false
set_option linter.unusedSimpArgs false
def pc (L : List UInt8) (f a : Nat) : List UInt8 := (L.take a).drop f
theorem pc_add (L : List UInt8) (f a i : Nat) (h : f ≤ a) (h2 : a ≤ L.length) : pc L f (a + i) = pc L f a ++ (L.drop a).take i := by
  unfold pc
  rw [List.take_add, List.drop_append_of_le_length (by rw [List.length_take]; omega)]
theorem pc_self (L : List UInt8) (a : Nat) : pc L a a = [] := by
  unfold pc; exact List.drop_eq_nil_of_le (by rw [List.length_take]; omega)
theorem dec_end (L : List UInt8) (f a : Nat) (b : Bool) (h : f ≤ a) (h2 : a ≤ L.length) (hi : index (L.drop a) [61, 63] < 0) : wordF (pc L f a) b (L.drop a) = vl (L.drop f) := by
  rw [wordF_plain _ _ _ ((index_begins (L.drop a)).2 hi)]
  congr 1
  have := pc_add L f a (L.length - a) h h2
  rw [show a + (L.length - a) = L.length by omega, List.take_of_length_le (l := L.drop a) (by simp)] at this
  rw [← this]; unfold pc; rw [List.take_length]
theorem dec_fin (L : List UInt8) (f a : Nat) (b : Bool) (h2 : a = L.length) : wordF (pc L f a) b (L.drop a) = vl (L.drop f) := by
  subst h2
  rw [List.drop_length, wordF_nil]; unfold pc; rw [List.take_length]
theorem dec_skip (L : List UInt8) (f a i : Nat) (b : Bool) (h : f ≤ a) (h2 : a ≤ L.length) (hi : index (L.drop a) [61, 63] = (i : Int)) :
    a + i < L.length ∧ wordF (pc L f a) b (L.drop a) = wordF (pc L f (a + i)) b (L.drop (a + i)) := by
  obtain ⟨h3, h4, h5⟩ := (index_begins (L.drop a)).1 i hi
  rw [List.length_drop] at h3
  refine ⟨by omega, ?_⟩
  rw [wordF_skip i _ _ _ (by rw [List.length_drop]; omega) h5, pc_add L f a i h h2, List.drop_drop]
theorem dec_no (L : List UInt8) (f a : Nat) (b : Bool) (h : f ≤ a) (h2 : a < L.length) (h0 : (oneL (L.drop a)).2 = 0) :
    wordF (pc L f a) b (L.drop a) = wordF (pc L f (a + 1)) b (L.drop (a + 1)) := by
  have hc : L.drop a = L[a] :: L.drop (a + 1) := List.drop_eq_getElem_cons h2
  rw [pc_add L f a 1 h (by omega), hc, wordF_no _ _ _ _ (by rw [← hc]; exact h0)]
  rfl
theorem dec_yes (L : List UInt8) (f a : Nat) (b : Bool) (h0 : ¬ (oneL (L.drop a)).2 = 0) :
    wordF (pc L f a) b (L.drop a) = (if (b && (pc L f a).all white) = true then [] else vl (pc L f a)) ++ (oneL (L.drop a)).1 ++ wordF (pc L (a + (oneL (L.drop a)).2) (a + (oneL (L.drop a)).2)) true (L.drop (a + (oneL (L.drop a)).2)) := by
  rw [wordF_yes _ _ _ h0, pc_self, List.drop_drop]
theorem one_len1 (l : List UInt8) : (oneL l).1.length ≤ 6 * l.length := by
  have d1 := cut_len 63 (l.drop 2)
  have d2 := cut_len 63 (cutL 63 (l.drop 2)).2.1
  have d3 := cut_len 63 (cutL 63 (cutL 63 (l.drop 2)).2.1).2.1
  rw [List.length_drop] at d1
  unfold oneL
  split
  · split
    · have := decL_len (knownL (labelL ⟨(cutL 42 (cutL 63 (l.drop 2)).1).1.toArray⟩)).1 (B64.b64DecL (cutL 63 (cutL 63 (cutL 63 (l.drop 2)).2.1).2.1).1)
      have := b64Dec_len (cutL 63 (cutL 63 (cutL 63 (l.drop 2)).2.1).2.1).1
      simp only; omega
    · split
      · have := decL_len (knownL (labelL ⟨(cutL 42 (cutL 63 (l.drop 2)).1).1.toArray⟩)).1 (WordQ.quotedL (cutL 63 (cutL 63 (cutL 63 (l.drop 2)).2.1).2.1).1)
        have := WordQ.quoted_len _ (cutL 63 (cutL 63 (cutL 63 (l.drop 2)).2.1).2.1).1 (Nat.le_refl _)
        simp only; omega
      · simp
  · simp
theorem trim_white (l : List UInt8) : Lib.trimS l [32, 9, 10, 13] = [] ↔ l.all white = true := by
  have e : Lib.trimS l [32, 9, 10, 13] = rdrop white (l.dropWhile white) := by
    rw [← drop_rdrop]; rfl
  have key : ∀ l : List UInt8, rdrop white l = [] ↔ l.all white = true := by
    intro l
    induction l with
    | nil => simp [rdrop]
    | cons x xs ih =>
      rw [rdrop_cons, List.all_cons]
      by_cases hx : rdrop white xs = []
      · rw [if_pos hx, ih.1 hx]
        cases white x <;> simp
      · rw [if_neg hx]
        have : xs.all white = false := Bool.eq_false_iff.2 (fun h => hx (ih.2 h))
        simp [this]
  rw [e, key]
  clear e
  induction l with
  | nil => simp
  | cons x xs ih =>
    rw [List.dropWhile_cons, List.all_cons]
    cases hx : white x with
    | true => rw [if_pos rfl]; simp only [Bool.true_and]; exact ih
    | false => simp [hx]
theorem valid_c (V : ByteArray) (hV : V.size ≤ 11000000) (W : World) : Calls Tryz.prog 18 #[.string V] W fun e w' => e = .returned (.string ⟨(vl V.data.toList).toArray⟩) ∧ Below W.heap.size W w' := by
  have := chars_Valid.calls V (validS V) W (guard_of (by omega))
  rw [validS_eq] at this
  exact this
theorem trim_c (P : ByteArray) (hP : P.size ≤ 11000000) (W : World) : Calls Tryz.prog 43 #[.string P, .string (⟨#[32, 9, 10, 13]⟩ : ByteArray)] W fun e w' => e = .returned (.string ⟨(Lib.trimS P.data.toList [32, 9, 10, 13]).toArray⟩) ∧ Below W.heap.size W w' :=
  strings_Trim.calls P _ _ W (guard_of ⟨by omega, by decide, by decide⟩)
theorem vl_len (l : List UInt8) : (vl l).length ≤ 3 * l.length := valL_len _ _
set_option maxRecDepth 100000 in
set_option maxHeartbeats 8000000 in
theorem Decode_c (s : ByteArray) (hs : s.size ≤ 1100000) (w : World) (hGl : Glob w) :
    Calls Tryz.prog 42 #[.string s] w fun e w' => e = .returned (.string ⟨(wordL s.data.toList).toArray⟩) ∧ Below w.heap.size w w' := by
  have WS : ∀ (acc : List UInt8) (x : ByteArray) (W : World), IsBuilderF 48 5 w.heap.size w.heap.size (byteCells acc) W → acc.length + x.size ≤ 100000000000000 → w.heap.size ≤ W.heap.size →
      Calls Tryz.prog 41 #[.pointer (some ⟨w.heap.size, 0, none⟩), .string x] W fun e w' => e = .returned (.tuple #[.int .i64 x.size, .nilIface]) ∧ (IsBuilderF 48 5 w.heap.size w.heap.size (byteCells (acc ++ x.data.toList)) w' ∧ Below w.heap.size W w') := by
    intro acc x W h h1 h2
    refine (Bld.WriteString_k _ _ _ x W h (by rw [byteCells_length]; omega) h2).mono ?_
    rintro e w' ⟨rfl, k1, k2, _⟩
    exact ⟨rfl, by rw [byteCells_append]; exact k1, k2⟩
  have HWS := Lib.hid WS
  have GL := Lib.hid hGl
  clear WS hGl
  have hl : s.data.toList.length = s.size := by simp
  have HL := Lib.hid hl
  clear hl
  go_enter Tryz.func42, Tryz.ntmps42
  go_wp2
  go_step3
  go_wp2_with fail
  go_step3
  go_wp2_with fail
  go_loopw [4, 5, 6] (fun fv bv av wr => ∃ (f a : Nat) (b : Bool) (acc : List UInt8), fv = .int .i64 (f : Int) ∧ bv = .bool b ∧ av = .int .i64 (a : Int) ∧ f ≤ a ∧ a ≤ s.size ∧ acc ++ wordF (pc s.data.toList f a) b (s.data.toList.drop a) = wordL s.data.toList ∧ acc.length ≤ 11000000 * a ∧ IsBuilderF 48 5 w.heap.size w.heap.size (byteCells acc) wr ∧ Below w.heap.size w wr) (fun _ _ av _ => s.size - (RowKit.intOf av).toNat)
  case atStart => exact ⟨0, 0, false, [], rfl, rfl, rfl, Nat.le_refl _, Nat.zero_le _, rfl, by simp, IsBuilderF.of (Lib.fresh_isBuilder 48 5 w), (Below.refl _ w).alloc (Nat.le_refl _) _⟩
  case round =>
    obtain ⟨f, a, b, acc, rfl, rfl, rfl, hfa, has, he, hal, hI, hB⟩ := hrel
    have HE := Lib.hid he; have HI := Lib.hid hI; have HB := Lib.hid hB; have HAL := Lib.hid hal
    clear he hI hB hal
    by_cases hlt : a < s.size
    · have hlti : (a : Int) < (s.size : Int) := by omega
      have hasi : (a : Int) ≤ (s.size : Int) := by omega
      obtain ⟨U, hU⟩ : ∃ U, s.extract a s.size = U := ⟨_, rfl⟩
      have hUd : U.data.toList = s.data.toList.drop a := by rw [← hU, extract_list, List.take_of_length_le (by rw [HL.out]; exact Nat.le_refl _)]
      have hUz : U.size ≤ 1100000 := by rw [← hU]; simp; omega
      obtain ⟨m, hm⟩ := (GL.out.below HB.out).maxl
      have IX := Lib.hid (fun (W : World) (h : W.cell? ⟨0, 0, none⟩ = some (.int .i64 m)) => Tryz.strings_Index U (⟨#[61, 63]⟩ : ByteArray) m W (by omega) h)
      have HM := Lib.hid hm
      rw [hUd, show (⟨#[61, 63]⟩ : ByteArray).data.toList = [61, 63] from rfl] at IX
      clear hm
      by_cases hneg : index (s.data.toList.drop a) [61, 63] < 0
      · have he2 : acc ++ vl (s.data.toList.drop f) = wordL s.data.toList := by rw [← HE.out, dec_end _ _ _ _ hfa (by rw [HL.out]; omega) hneg]
        generalize index (s.data.toList.drop a) [61, 63] = ix at *
        obtain ⟨V, hV⟩ : ∃ V, s.extract f s.size = V := ⟨_, rfl⟩
        have hVd : V.data.toList = s.data.toList.drop f := by rw [← hV, extract_list, List.take_of_length_le (by rw [HL.out]; exact Nat.le_refl _)]
        have hVz : V.size ≤ 1100000 := by rw [← hV]; simp; omega
        have VC := Lib.hid (fun W => valid_c V (by omega) W)
        have hvl : (vl V.data.toList).length ≤ 3300000 := by (have := vl_len V.data.toList; have h3 : V.data.toList.length = V.size := (by simp); omega)
        rw [← hVd] at he2
        have HE2 := Lib.hid he2; have HVL := Lib.hid hvl
        clear he2 hVd hvl
        have hfi : (f : Int) ≤ (s.size : Int) := by omega
        have hfs : f ≤ s.size := by omega
        generalize vl V.data.toList = vv at *
        go_wp2_with (first
          | (go_at_call 52; refine (IX.out _ HM.out).mono ?_; rintro e W0 ⟨rfl, rfl⟩)
          | (go_at_call 18; refine (VC.out _).mono ?_; rintro e W1 ⟨rfl, b1⟩; have B1 := Lib.hid b1; clear b1)
          | (go_at_call 41; refine (HWS.out acc _ _ (IsBuilderF.below HI.out B1.out) (by rw [mk_size]; have := HVL.out; have := HAL.out; omega) (HB.out.trans (B1.out.mono HB.out.size)).size).mono ?_; rintro e W2 ⟨rfl, k1, k2⟩; have K1 := Lib.hid k1; have K2 := Lib.hid ((HB.out.trans (B1.out.mono HB.out.size)).trans k2); clear k1 k2)
          | (go_at_call 36; refine (Tryz.Builder_String_any_k w.heap.size w.heap.size _ _ K1.out K2.out.size).mono ?_; rintro e W3 ⟨rfl, _, b3, _⟩; have B3 := Lib.hid b3; clear b3))
        first | go_ret | (rw [Exit.noGoto_ret]; go_ret) | (rw [Exit.noGoto_ret]; change Exit.noGoto _ Exit.ret _ _; rw [Exit.noGoto_ret]; go_ret)
        exact ⟨by rw [← HE2.out]; rfl, K2.out.trans B3.out⟩
      · obtain ⟨i, hi⟩ : ∃ i : Nat, index (s.data.toList.drop a) [61, 63] = (i : Int) := ⟨(index (s.data.toList.drop a) [61, 63]).toNat, by omega⟩
        obtain ⟨hcl, hsk⟩ := dec_skip _ f a i b hfa (by rw [HL.out]; omega) hi
        rw [HL.out] at hcl
        rw [hi] at IX
        clear hneg hi
        obtain ⟨c, hc⟩ : ∃ c, a + i = c := ⟨_, rfl⟩
        rw [hc] at hcl hsk
        have hac : (a : Int) + (i : Int) = (c : Int) := by omega
        have hfc : f ≤ c := by omega
        have hcs : c ≤ s.size := by omega
        have hcsi : (c : Int) ≤ (s.size : Int) := by omega
        have hfci : (f : Int) ≤ (c : Int) := by omega
        obtain ⟨U2, hU2⟩ : ∃ U, s.extract c s.size = U := ⟨_, rfl⟩
        have hUd2 : U2.data.toList = s.data.toList.drop c := by rw [← hU2, extract_list, List.take_of_length_le (by rw [HL.out]; exact Nat.le_refl _)]
        have hUz2 : U2.size ≤ 1100000 := by rw [← hU2]; simp; omega
        have ONE := Lib.hid (fun W g => one_c U2 hUz2 W g)
        rw [hUd2] at ONE
        have hn1 := one_len1 (s.data.toList.drop c)
        have hn2 := one_le (s.data.toList.drop c)
        rw [List.length_drop, HL.out] at hn1 hn2
        have hno := dec_no s.data.toList f c b hfc (by rw [HL.out]; omega)
        have hye := dec_yes s.data.toList f c b
        have HSK := Lib.hid hsk; have HAC := Lib.hid hc
        clear hsk hUd2 hc hUd
        generalize oneL (s.data.toList.drop c) = d at *
        obtain ⟨tt, n⟩ := d
        simp only at ONE hn1 hn2 hno hye
        have hai : a ≤ c := by have := HAC.out; omega
        have HNO := Lib.hid hno; have HYE := Lib.hid hye
        clear hno hye
        by_cases hn : n = 0
        · subst hn
          go_wp2_with (first
            | (go_at_call 52; refine (IX.out _ HM.out).mono ?_; rintro e W0 ⟨rfl, rfl⟩)
            | (go_at_call 68; refine (ONE.out _ (GL.out.below HB.out)).mono ?_; rintro e W1 ⟨rfl, b1⟩; have B1 := Lib.hid b1; clear b1))
          go_roundw
          case rel =>
            have := HAL.out
            exact ⟨f, c + 1, b, acc, rfl, rfl, by go_num, by omega, by omega, by rw [← HNO.out (by simp), ← HSK.out]; exact HE.out, by omega, IsBuilderF.below HI.out B1.out, HB.out.trans (B1.out.mono HB.out.size)⟩
          case measure => simp [RowKit.intOf]; omega
        · have hni : ¬ (n : Int) = 0 := by omega
          obtain ⟨P, hP⟩ : ∃ P, s.extract f c = P := ⟨_, rfl⟩
          have hPd : P.data.toList = pc s.data.toList f c := by rw [← hP, extract_list]; rfl
          have hPz : P.size ≤ 1100000 := by rw [← hP]; simp; omega
          have VP := Lib.hid (fun W => valid_c P (by omega) W)
          have TP := Lib.hid (fun W => trim_c P (by omega) W)
          have hvl : (vl P.data.toList).length ≤ 3300000 := by (have := vl_len P.data.toList; have h3 : P.data.toList.length = P.size := (by simp); omega)
          have htz : (⟨tt.toArray⟩ : ByteArray).size = tt.length := mk_size tt
          have htl : tt.length ≤ 6600000 := by omega
          have hte := trim_white P.data.toList
          have hye := HYE.out hn
          rw [← hPd] at hye
          have HPD := Lib.hid hPd; have HYE2 := Lib.hid hye; have HVL := Lib.hid hvl; have HTZ := Lib.hid htz
          clear HNO HYE hPd hvl hye htz hn1
          have hcn : c + n ≤ s.size := by omega
          have hcni : (c : Int) + (n : Int) ≤ (s.size : Int) := by omega
          have hxs : (⟨(Lib.trimS P.data.toList [32, 9, 10, 13]).toArray⟩ : ByteArray).data.toList = Lib.trimS P.data.toList [32, 9, 10, 13] := rfl
          generalize (⟨(Lib.trimS P.data.toList [32, 9, 10, 13]).toArray⟩ : ByteArray) = TT at *
          generalize Lib.trimS P.data.toList [32, 9, 10, 13] = tl at *
          have HVV : Hid ((⟨(vl P.data.toList).toArray⟩ : ByteArray).data.toList = vl P.data.toList) := Lib.hid rfl
          have HTX : Hid ((⟨tt.toArray⟩ : ByteArray).data.toList = tt) := Lib.hid rfl
          have hvz : (⟨(vl P.data.toList).toArray⟩ : ByteArray).size ≤ 3300000 := by rw [mk_size]; exact HVL.out
          generalize (⟨(vl P.data.toList).toArray⟩ : ByteArray) = VV at *
          generalize (⟨tt.toArray⟩ : ByteArray) = TX at *
          cases b with
          | false =>
            go_wp2_with (first
              | (go_at_call 52; refine (IX.out _ HM.out).mono ?_; rintro e W0 ⟨rfl, rfl⟩)
              | (go_at_call 68; refine (ONE.out _ (GL.out.below HB.out)).mono ?_; rintro e W1 ⟨rfl, b1⟩; have B1 := Lib.hid (HB.out.trans (b1.mono HB.out.size)); have I1 := Lib.hid (IsBuilderF.below HI.out b1); clear b1)
              | (go_at_call 18; refine (VP.out _).mono ?_; rintro e W2 ⟨rfl, b2⟩; have B2 := Lib.hid (B1.out.trans (b2.mono B1.out.size)); have I2 := Lib.hid (IsBuilderF.below I1.out b2); clear b2)
              | (go_at_call 41; first
                | ((with_reducible refine (HWS.out acc VV _ I2.out (by have := HVL.out; have := HAL.out; omega) B2.out.size).mono ?_); rintro e W3 ⟨rfl, k1, k2⟩; have I3 := Lib.hid k1; have B3 := Lib.hid (B2.out.trans k2); clear k1 k2)
                | ((with_reducible refine (HWS.out (acc ++ VV.data.toList) TX _ I3.out (by have := HVL.out; have := HAL.out; have := HTZ.out; rw [List.length_append, HVV.out]; omega) B3.out.size).mono ?_); rintro e W4 ⟨rfl, k1, k2⟩; have I4 := Lib.hid k1; have B4 := Lib.hid (B3.out.trans k2); clear k1 k2)))
            go_roundw
            case rel =>
              have hal := HAL.out; have hvl := HVL.out
              exact ⟨c + n, c + n, true, acc ++ VV.data.toList ++ TX.data.toList, by go_num, rfl, by go_num, Nat.le_refl _, hcn, by rw [← HE.out, HSK.out, ← HPD.out, HYE2.out, if_neg (by simp), HTX.out, HVV.out]; simp, by rw [List.length_append, List.length_append, HVV.out, HTX.out]; omega, I4.out, B4.out⟩
            case measure => simp [RowKit.intOf]; omega
          | true =>
            by_cases hw : P.data.toList.all white = true
            · have ht0 : TT.toList = [] := by rw [toList_eq, hxs, hte.2 hw]
              have ht1 : TT.toList.isEmpty = true := by rw [ht0]; rfl
              go_wp2_with (first
                | (go_at_call 52; refine (IX.out _ HM.out).mono ?_; rintro e W0 ⟨rfl, rfl⟩)
                | (go_at_call 68; refine (ONE.out _ (GL.out.below HB.out)).mono ?_; rintro e W1 ⟨rfl, b1⟩; have B1 := Lib.hid (HB.out.trans (b1.mono HB.out.size)); have I1 := Lib.hid (IsBuilderF.below HI.out b1); clear b1)
                | (go_at_call 43; refine (TP.out _).mono ?_; rintro e W5 ⟨rfl, b5⟩; have B5 := Lib.hid (B1.out.trans (b5.mono B1.out.size)); have I5 := Lib.hid (IsBuilderF.below I1.out b5); clear b5)
                | (go_at_call 41; (refine (HWS.out acc TX _ I5.out (by have := HAL.out; have := HTZ.out; omega) B5.out.size).mono ?_; rintro e W4 ⟨rfl, k1, k2⟩; have I4 := Lib.hid k1; have B4 := Lib.hid (B5.out.trans k2); clear k1 k2)))
              go_roundw
              case rel =>
                have hal := HAL.out; have hvl := HVL.out
                exact ⟨c + n, c + n, true, acc ++ TX.data.toList, by go_num, rfl, by go_num, Nat.le_refl _, hcn, by rw [← HE.out, HSK.out, ← HPD.out, HYE2.out, if_pos (by simp [hw]), HTX.out]; simp, by rw [List.length_append, HTX.out]; omega, I4.out, B4.out⟩
              case measure => simp [RowKit.intOf]; omega
            · have ht0 : ¬ TT.toList = [] := by rw [toList_eq, hxs]; exact fun h => hw (hte.1 h)
              have ht1 : TT.toList.isEmpty = false := by
                cases h : TT.toList with
                | nil => exact absurd h ht0
                | cons x y => rfl
              go_wp2_with (first
                | (go_at_call 52; refine (IX.out _ HM.out).mono ?_; rintro e W0 ⟨rfl, rfl⟩)
                | (go_at_call 68; refine (ONE.out _ (GL.out.below HB.out)).mono ?_; rintro e W1 ⟨rfl, b1⟩; have B1 := Lib.hid (HB.out.trans (b1.mono HB.out.size)); have I1 := Lib.hid (IsBuilderF.below HI.out b1); clear b1)
                | (go_at_call 43; refine (TP.out _).mono ?_; rintro e W5 ⟨rfl, b5⟩; have B5 := Lib.hid (B1.out.trans (b5.mono B1.out.size)); have I5 := Lib.hid (IsBuilderF.below I1.out b5); clear b5)
                | (go_at_call 18; refine (VP.out _).mono ?_; rintro e W2 ⟨rfl, b2⟩; have B2 := Lib.hid (B5.out.trans (b2.mono B5.out.size)); have I2 := Lib.hid (IsBuilderF.below I5.out b2); clear b2)
                | (go_at_call 41; first
                  | ((with_reducible refine (HWS.out acc VV _ I2.out (by have := HVL.out; have := HAL.out; omega) B2.out.size).mono ?_); rintro e W3 ⟨rfl, k1, k2⟩; have I3 := Lib.hid k1; have B3 := Lib.hid (B2.out.trans k2); clear k1 k2)
                  | ((with_reducible refine (HWS.out (acc ++ VV.data.toList) TX _ I3.out (by have := HVL.out; have := HAL.out; have := HTZ.out; rw [List.length_append, HVV.out]; omega) B3.out.size).mono ?_); rintro e W4 ⟨rfl, k1, k2⟩; have I4 := Lib.hid k1; have B4 := Lib.hid (B3.out.trans k2); clear k1 k2)))
              go_roundw
              case rel =>
                have hal := HAL.out; have hvl := HVL.out
                exact ⟨c + n, c + n, true, acc ++ VV.data.toList ++ TX.data.toList, by go_num, rfl, by go_num, Nat.le_refl _, hcn, by rw [← HE.out, HSK.out, ← HPD.out, HYE2.out, if_neg (by simp [hw]), HTX.out, HVV.out]; simp, by rw [List.length_append, List.length_append, HVV.out, HTX.out]; omega, I4.out, B4.out⟩
              case measure => simp [RowKit.intOf]; omega
    · have he2 : acc ++ vl (s.data.toList.drop f) = wordL s.data.toList := by rw [← HE.out, dec_fin _ _ _ _ (by rw [HL.out]; omega)]
      have hlti : ¬ (a : Int) < (s.size : Int) := by omega
      obtain ⟨V, hV⟩ : ∃ V, s.extract f s.size = V := ⟨_, rfl⟩
      have hVd : V.data.toList = s.data.toList.drop f := by rw [← hV, extract_list, List.take_of_length_le (by rw [HL.out]; exact Nat.le_refl _)]
      have hVz : V.size ≤ 1100000 := by rw [← hV]; simp; omega
      have VC := Lib.hid (fun W => valid_c V (by omega) W)
      have hvl : (vl V.data.toList).length ≤ 3300000 := by (have := vl_len V.data.toList; have h3 : V.data.toList.length = V.size := (by simp); omega)
      rw [← hVd] at he2
      have HE2 := Lib.hid he2; have HVL := Lib.hid hvl
      clear he2 hVd hvl
      have hfi : (f : Int) ≤ (s.size : Int) := by omega
      have hfs : f ≤ s.size := by omega
      generalize vl V.data.toList = vv at *
      go_wp2_with (first
        | (go_at_call 18; refine (VC.out _).mono ?_; rintro e W1 ⟨rfl, b1⟩; have B1 := Lib.hid b1; clear b1)
        | (go_at_call 41; refine (HWS.out acc _ _ (IsBuilderF.below HI.out B1.out) (by rw [mk_size]; have := HVL.out; have := HAL.out; omega) (HB.out.trans (B1.out.mono HB.out.size)).size).mono ?_; rintro e W2 ⟨rfl, k1, k2⟩; have K1 := Lib.hid k1; have K2 := Lib.hid ((HB.out.trans (B1.out.mono HB.out.size)).trans k2); clear k1 k2)
        | (go_at_call 36; refine (Tryz.Builder_String_any_k w.heap.size w.heap.size _ _ K1.out K2.out.size).mono ?_; rintro e W3 ⟨rfl, _, b3, _⟩; have B3 := Lib.hid b3; clear b3))
      first | go_ret | (rw [Exit.noGoto_ret]; go_ret) | (rw [Exit.noGoto_ret]; change Exit.noGoto _ Exit.ret _ _; rw [Exit.noGoto_ret]; go_ret)
      exact ⟨by rw [← HE2.out]; rfl, K2.out.trans B3.out⟩
end Go.Proofs.YtpcncpegbboljaaGreatDoor.WordL
namespace Go.Proofs.YtpcncpegbboljaaGreatDoor.WordL
open Go.RowKit Go.Lib Go.Proofs.YtpcncpegbboljaaGreatDoor Go.Proofs.YtpcncpegbboljaaGreatDoor.Pure
set_option linter.unusedVariables false
set_option linter.unusedSimpArgs false
theorem okC_low (c : UInt8) : okC c = true → c.toNat < 128 := by
  unfold okC; intro h; have := of_decide_eq_true h; omega
def badR (x : Nat) : Bool := decide ((x : Int) < 32) || decide (126 < (x : Int))
theorem idx_ok (s : ByteArray) : ∀ (f pos : Nat), s.size ≤ pos + f → decide (0 ≤ idxFuncFrom badR true s f pos) = !((s.data.toList.drop pos).all okC)
  | 0, pos, h => by
    rw [List.drop_eq_nil_of_le (by simp; omega)]; rfl
  | f + 1, pos, h => by
    have hl : s.data.toList.length = s.size := by simp
    unfold idxFuncFrom
    by_cases hp : pos < s.size
    · rw [if_pos hp, decode_list]
      have hc : s.data.toList.drop pos = s.data.toList[pos] :: s.data.toList.drop (pos + 1) := List.drop_eq_getElem_cons (by rw [hl]; exact hp)
      generalize s.data.toList[pos]'(by rw [hl]; exact hp) = c at hc
      have hb : byteAt (s.data.toList.drop pos) 0 = c.toNat := by rw [hc]; rfl
      by_cases h1 : c.toNat < 128
      · have hd : uDec (s.data.toList.drop pos) = (c.toNat, 1) := by unfold uDec; rw [hb, if_pos h1]
        rw [hd, hc, List.all_cons]
        simp only
        have ih := idx_ok s f (pos + 1) (by omega)
        by_cases hk : okC c = true
        · have hn : ¬ badR c.toNat = true := by
            unfold okC at hk; have := of_decide_eq_true hk
            unfold badR; simp; omega
          rw [if_neg hn, ih, hk, Bool.true_and]
        · have hn : badR c.toNat = true := by
            unfold okC at hk
            have : ¬ (32 ≤ c.toNat ∧ c.toNat ≤ 126) := fun h => hk (decide_eq_true h)
            unfold badR; simp; omega
          rw [if_pos hn, Bool.eq_false_iff.2 hk]
          simp
      · have hd := (dec_highs (s.data.toList.drop pos) (by rw [hc]; simp) (by rw [hb]; omega)).1
        have hn : badR (uDec (s.data.toList.drop pos)).1 = true := by unfold badR; simp; omega
        rw [if_pos hn, hc, List.all_cons]
        have hk : okC c = false := by
          rw [Bool.eq_false_iff]; intro h; exact h1 (okC_low c h)
        rw [hk]; simp
    · rw [if_neg hp, List.drop_eq_nil_of_le (by rw [hl]; omega)]; rfl
theorem idx_all (s : ByteArray) : decide (0 ≤ idxFunc badR true s) = !(s.data.toList.all okC) := by
  have := idx_ok s s.size 0 (by omega)
  rw [List.drop_zero] at this
  exact this
theorem bad_c (W : World) (x : Nat) (hx : x ≤ 1114111) : Calls Tryz.prog 55 #[.int .i32 (x : Int)] W fun e w' => e = .returned (.bool (badR x)) ∧ Below W.heap.size W w' := by
  unfold badR
  by_cases h1 : (x : Int) < 32
  · have h1' : x < 32 := by omega
    go_enter Tryz.func55, Tryz.ntmps55
    go_wp2
    go_ret
    refine ⟨?_, Below.refl _ _⟩
    simp [h1']
    try omega
  · have h1' : ¬ x < 32 := by omega
    go_enter Tryz.func55, Tryz.ntmps55
    go_wp2
    go_ret
    refine ⟨?_, Below.refl _ _⟩
    simp [h1']
    try omega
theorem containsF_c (s : ByteArray) (W : World) : Calls Tryz.prog 26 #[.string s, .func (.func 55) #[] #[]] W fun e w' => e = .returned (.bool (!(s.data.toList.all okC))) ∧ Below W.heap.size W w' := by
  have h := Tryz.strings_ContainsFunc_grows 55 #[] (enters_of Tryz.func55 (by kernel_rfl) rfl) badR s W (fun W2 x hx _ => bad_c W2 x hx)
  rw [idx_all] at h
  exact h
theorem words_step (v : List UInt8) (h : v ≠ []) : wordsL v = wordOf (v.take (chunk v.length v 0)) :: wordsL (v.drop (chunk v.length v 0)) := by
  obtain ⟨n, hn⟩ : ∃ n, v.length = n + 1 := ⟨v.length - 1, by have := List.length_pos_iff.2 h; omega⟩
  have hp := chunk_pos v.length v h (Nat.le_refl _)
  have e : chunks (n + 1) v = v.take (chunk v.length v 0) :: chunks n (v.drop (chunk v.length v 0)) := by
    simp only [chunks]; rw [if_neg h]
  unfold wordsL
  rw [hn, e, List.map_cons, chunks_more _ _ (Nat.le_refl _) n (by rw [List.length_drop]; omega), ← hn]
theorem words_nil : wordsL [] = [] := rfl
theorem wordOf_52 (x : List UInt8) (h : x.length ≤ 30) : (wordOf x).length ≤ 52 := by
  rw [wordOf_len, B64.b64_len]; omega
theorem inter_len : ∀ ws : List (List UInt8), (∀ w ∈ ws, w.length ≤ 52) → ([32].intercalate ws).length ≤ 53 * ws.length
  | [], _ => by rw [inter_nil]; simp
  | [w], h => by rw [inter_one]; have := h w (by simp); simp only [List.length_cons, List.length_nil]; omega
  | w :: v :: r, h => by
    have := h w (by simp)
    have ih := inter_len (v :: r) (fun w hw => h w (List.mem_cons_of_mem _ hw))
    rw [inter_cons, List.length_append, List.length_cons]
    simp only [List.length_cons] at ih ⊢; omega
theorem infoStr : (Tryz.prog.info? 9).map (fun i => (i.zero, i.size, i.bytes)) = some (some (.string ⟨#[]⟩), 1, 16) := by kernel_rfl
set_option maxRecDepth 100000 in
set_option maxHeartbeats 8000000 in
theorem Encode_c (s : ByteArray) (hs : s.size ≤ 1100000) (w : World) (hGl : Glob w) :
    Calls Tryz.prog 30 #[.string s] w fun e w' => e = .returned (.string ⟨(encL s.data.toList).toArray⟩) ∧ Below w.heap.size w w' := by
  obtain ⟨m, hm⟩ := hGl.maxl
  have CO := Lib.hid (Tryz.strings_Contains s (⟨#[61, 63]⟩ : ByteArray) m w (by omega) hm)
  have CF := Lib.hid (fun W => containsF_c s W)
  have GL := Lib.hid hGl
  clear hm hGl
  rw [show Lib.contains s.data.toList (⟨#[61, 63]⟩ : ByteArray).data.toList = decide (0 ≤ index s.data.toList [61, 63]) from rfl] at CO
  have hpl : plainE s.data.toList = (!(decide (0 ≤ index s.data.toList [61, 63])) && s.data.toList.all okC) := by
    unfold plainE
    congr 1
    rw [← decide_not]; exact decide_eq_decide.2 (by omega)
  have HPL := Lib.hid hpl
  clear hpl
  generalize decide (0 ≤ index s.data.toList [61, 63]) = cb at *
  generalize s.data.toList.all okC = fb at *
  have VS := Lib.hid (fun W => valid_c s (by omega) W)
  have hvz : (⟨(vl s.data.toList).toArray⟩ : ByteArray).size ≤ 3300000 := by
    rw [mk_size]; have := vl_len s.data.toList; have : s.data.toList.length = s.size := by simp
    omega
  have hvd : (⟨(vl s.data.toList).toArray⟩ : ByteArray).data.toList = vl s.data.toList := rfl
  have HVD := Lib.hid hvd
  clear hvd
  generalize (⟨(vl s.data.toList).toArray⟩ : ByteArray) = V0 at *
  go_enter Tryz.func30, Tryz.ntmps30
  go_upto_region 1 with fail
  go_cut [15] (fun v wc => v = .bool (plainE s.data.toList) ∧ Below w.heap.size w wc)
  case first =>
    cases cb with
    | true =>
      go_wp2_with (go_at_call 24; refine CO.out.mono ?_; rintro e w1 ⟨rfl, rfl⟩)
      go_meet
      case rel => exact ⟨by rw [HPL.out]; rfl, Below.refl _ _⟩
    | false =>
      cases fb with
      | true =>
        go_wp2_with (first
          | (go_at_call 24; refine CO.out.mono ?_; rintro e w1 ⟨rfl, rfl⟩)
          | (go_at_call 26; refine (CF.out _).mono ?_; rintro e w2 ⟨rfl, b2⟩; have B2 := Lib.hid b2; clear b2))
        go_meet
        case rel => exact ⟨by rw [HPL.out]; rfl, B2.out⟩
      | false =>
        go_wp2_with (first
          | (go_at_call 24; refine CO.out.mono ?_; rintro e w1 ⟨rfl, rfl⟩)
          | (go_at_call 26; refine (CF.out _).mono ?_; rintro e w2 ⟨rfl, b2⟩; have B2 := Lib.hid b2; clear b2))
        go_meet
        case rel => exact ⟨by rw [HPL.out]; rfl, B2.out⟩
  case rest =>
    obtain ⟨rfl, hbc⟩ := hcut
    have HBC := Lib.hid hbc
    clear hbc CO CF HPL
    have HE1 : Hid (plainE s.data.toList = true → encL s.data.toList = s.data.toList) := Lib.hid (fun hp => by unfold encL; rw [if_pos hp])
    have HE2 : Hid (plainE s.data.toList = false → encL s.data.toList = [32].intercalate (wordsL V0.data.toList) ∧ V0.data.toList ≠ []) := Lib.hid (fun hp => by
      rw [HVD.out]
      exact ⟨by unfold encL; rw [if_neg (by rw [hp]; exact Bool.false_ne_true)], vl_ne _ (plainE_not (by rw [hp]; exact Bool.false_ne_true))⟩)
    generalize plainE s.data.toList = pb at *
    cases pb with
    | true =>
      have HP := Lib.hid (HE1.out rfl)
      go_wp2
      go_ret
      exact ⟨by rw [HP.out, mk_back]; rfl, HBC.out⟩
    | false =>
      have HP := Lib.hid (HE2.out rfl).1
      have HV0 := Lib.hid (HE2.out rfl).2
      clear HE1 HE2
      go_wp2_with (go_at_call 18; refine (VS.out _).mono ?_; rintro e w2 ⟨rfl, b2⟩; have HB2 := Lib.hid (HBC.out.trans (b2.mono HBC.out.size)); clear b2)
      go_loopw [3, 4] (fun sv vv wr => ∃ (x : Value) (v : ByteArray) (ws : List ByteArray), x = sv ∧ vv = .string v ∧ v.size ≤ 3300000 ∧ ws.length + v.size ≤ 3300000 ∧ ws.map (·.data.toList) ++ wordsL v.data.toList = wordsL V0.data.toList ∧ (∀ x ∈ ws, x.size ≤ 52) ∧ wr.ownsRow w.heap.size 9 1 x ws.length (ws.map Value.string) ∧ Below w.heap.size w wr) (fun _ vv _ => match vv with | .string t => t.size | _ => 0)
      case atStart => exact ⟨_, V0, [], rfl, rfl, by omega, by simpa using hvz, rfl, by simp, World.ownsRow_nil _ _ _ _, HB2.out⟩
      case round =>
        obtain ⟨x, v, ws, rfl, rfl, hvz2, hwv, hw, hle, hown, hbw⟩ := hrel
        have HW := Lib.hid hw; have HLE := Lib.hid hle; have HO := Lib.hid hown; have HB := Lib.hid hbw
        clear hw hle hown hbw hvz
        have hvl : v.data.toList.length = v.size := by simp
        by_cases hv : v.size = 0
        · have hnil : v.data.toList = [] := List.length_eq_zero_iff.1 (by rw [hvl]; exact hv)
          have hve : v.toList = [] := by rw [toList_eq]; exact hnil
          have hve2 : v.toList.isEmpty = true := by rw [hve]; rfl
          have hwe : ws.map (·.data.toList) = wordsL V0.data.toList := by have := HW.out; rw [hnil, words_nil, List.append_nil] at this; exact this
          have hwn : ws.length ≠ 0 := by
            intro h0
            have h1 : ws = [] := List.length_eq_zero_iff.1 h0
            rw [h1, words_step _ HV0.out] at hwe
            simp at hwe
          have hjl := inter_len (wordsL V0.data.toList) (by
            rw [← hwe]; intro y hy; obtain ⟨z, hz, rfl⟩ := List.mem_map.1 hy
            have := HLE.out z hz; simpa using this)
          rw [← hwe, List.length_map] at hjl
          rw [← hwe] at HP
          have JO : ∀ (g cap : Nat) (W : World), W.ownsRow w.heap.size 9 1 (.slice (some ⟨g, 0, none⟩) ws.length cap) ws.length (ws.map Value.string) → ws.length ≤ cap → Calls Tryz.prog 33 #[.slice (some ⟨g, 0, none⟩) ws.length cap, .string (⟨#[32]⟩ : ByteArray)] W fun e w' => e = .returned (.string ⟨([32].intercalate (ws.map (·.data.toList))).toArray⟩) ∧ Below W.heap.size W w' := by
            intro g cap W hown hcap
            have h := Tryz.strings_Join g 0 cap ws (⟨#[32]⟩ : ByteArray) W (fun j y hj => by
              have := hown.cells (g := g) rfl j (.string y) (by rw [List.getElem?_map, hj]; rfl)
              have e : (⟨g, 0, none⟩ : Addr).add j = ⟨g, 0 + j, none⟩ := by unfold Addr.add; split <;> simp_all
              rw [e] at this
              exact this) (hown.lt g rfl).2 (by omega) hcap (by
                show ([32].intercalate (ws.map (·.data.toList))).length ≤ _
                omega)
            exact h
          have HJO := Lib.hid JO
          have HWN := Lib.hid hwn
          clear JO hwe hjl hnil hwn
          rcases HO.out.2 with ⟨hx, h0⟩ | ⟨g, cap, cur, hx, hg, hh, hcp, hrest⟩
          · exact absurd h0 HWN.out
          · have HO2 := Lib.hid HO.out
            subst hx
            have HCP := Lib.hid hcp
            clear hg hh hcp hrest
            go_wp2_with (go_at_call 33; refine (HJO.out _ _ _ HO2.out (by have := HCP.out; omega)).mono ?_; rintro e w9 ⟨rfl, b9⟩; have B9 := Lib.hid b9; clear b9)
            go_ret
            exact ⟨by rw [HP.out]; rfl, HB.out.trans (B9.out.mono HB.out.size)⟩
        · have hne : v.data.toList ≠ [] := by intro e; rw [e] at hvl; simp at hvl; omega
          have HNE := Lib.hid hne
          have hve : ¬ v.toList = [] := by rw [toList_eq]; exact hne
          have hve2 : v.toList.isEmpty = false := by
            cases h : v.toList with
            | nil => exact absurd h hve
            | cons x y => rfl
          have HVL := Lib.hid hvl
          clear hne hvl
          go_wp2
          go_loopw [5] (fun nv wq => ∃ n : Nat, nv = .int .i64 (n : Int) ∧ n ≤ v.size ∧ n ≤ 30 ∧ chunk (v.data.toList.drop n).length (v.data.toList.drop n) n = chunk v.data.toList.length v.data.toList 0 ∧ wq.ownsRow w.heap.size 9 1 x ws.length (ws.map Value.string) ∧ Below w.heap.size w wq) (fun nv _ => v.size - (RowKit.intOf nv).toNat)
          case atStart => exact ⟨0, rfl, Nat.zero_le _, by omega, rfl, HO.out, HB.out⟩
          case round =>
            obtain ⟨n, rfl, hn1, hn2, hch, hown3, hb3⟩ := hrel
            have HO3 := Lib.hid hown3; have HB3 := Lib.hid hb3
            have HNZ0 := Lib.hid hch
            clear hown3 hb3
            by_cases hlt : n < v.size
            · have hlti : (n : Int) < (v.size : Int) := by omega
              have hni : (n : Int) ≤ (v.size : Int) := by omega
              obtain ⟨U, hU⟩ : ∃ U, v.extract n v.size = U := ⟨_, rfl⟩
              have hUd : U.data.toList = v.data.toList.drop n := by rw [← hU, extract_list, List.take_of_length_le (by simp)]
              have hUz : ¬ U.size = 0 := by rw [← hU]; simp; omega
              have hdne : v.data.toList.drop n ≠ [] := by intro e; have := congrArg List.length e; rw [List.length_drop, HVL.out] at this; simp at this; omega
              have hdg : Lib.decodeGo U = uDec (v.data.toList.drop n) := by
                unfold Lib.decodeGo
                rw [if_neg hUz, decode_list, List.drop_zero, hUd]
              have DR := Lib.hid (fun W g => Tryz.utf8_DecodeRuneInString U W g)
              rw [hdg] at DR
              have hw4 := width4 _ hdne
              have hwd := dec_width _ hdne
              rw [List.length_drop, HVL.out] at hwd
              have hstep : chunk (v.data.toList.drop n).length (v.data.toList.drop n) n = if 30 < n + (uDec (v.data.toList.drop n)).2 then n else chunk (v.data.toList.drop (n + (uDec (v.data.toList.drop n)).2)).length (v.data.toList.drop (n + (uDec (v.data.toList.drop n)).2)) (n + (uDec (v.data.toList.drop n)).2) := by
                obtain ⟨q, hq⟩ : ∃ q, (v.data.toList.drop n).length = q + 1 := ⟨(v.data.toList.drop n).length - 1, by have := List.length_pos_iff.2 hdne; omega⟩
                rw [hq]
                simp only [chunk]
                rw [if_neg hdne, List.drop_drop]
                split
                · rfl
                · exact chunk_more _ _ _ (Nat.le_refl _) q (by rw [List.length_drop] at hq ⊢; omega)
              rw [hch] at hstep
              have HST := Lib.hid hstep
              clear hstep hdg hUd hUz hdne hch HNZ0
              generalize uDec (v.data.toList.drop n) = d at *
              obtain ⟨r, k⟩ := d
              simp only at DR hw4 hwd HST
              by_cases h30 : 30 < n + k
              · have h30i : (30 : Int) < (n : Int) + (k : Int) := by omega
                have hch : chunk v.data.toList.length v.data.toList 0 = n := by rw [HST.out, if_pos h30]
                have HNZ : Hid (1 ≤ n) := Lib.hid (by omega)
                clear HST
                obtain ⟨T, hT⟩ : ∃ T, v.extract 0 n = T := ⟨_, rfl⟩
                have hTd : T.data.toList = v.data.toList.take n := by rw [← hT, extract_list, List.drop_zero]
                have hTz : T.size ≤ 1100000 := by rw [← hT]; simp; omega
                have EC := Lib.hid (fun W => B64.Encode_c T hTz W)
                rw [hTd] at EC
                obtain ⟨Y, hY⟩ : ∃ Y, v.extract n v.size = Y := ⟨_, rfl⟩
                have hUY : Y = U := hY.symm.trans hU
                subst hUY
                clear hU
                have hYd : Y.data.toList = v.data.toList.drop n := by rw [← hY, extract_list, List.take_of_length_le (by simp)]
                have hYz : Y.size = v.size - n := by rw [← hY]; simp
                have hnv : n ≤ v.size := by omega
                have hnvi : (n : Int) ≤ (v.size : Int) := by omega
                have hws : ws.map (·.data.toList) ++ wordOf (v.data.toList.take n) :: wordsL Y.data.toList = wordsL V0.data.toList := by
                  rw [← HW.out, words_step _ (HNE.out), hch, hYd]
                have hwl : (wordOf (v.data.toList.take n)).length ≤ 52 := wordOf_52 _ (by rw [List.length_take]; omega)
                have HWS := Lib.hid hws; have HWL := Lib.hid hwl; have HYZ := Lib.hid hYz
                have hwx : ((⟨#[61, 63, 117, 116, 102, 45, 56, 63, 66, 63]⟩ : ByteArray) ++ (⟨(B64.b64EncL (v.data.toList.take n)).toArray⟩ : ByteArray) ++ (⟨#[63, 61]⟩ : ByteArray)).data.toList = wordOf (v.data.toList.take n) := by
                  simp [wordOf]
                have HWX := Lib.hid hwx
                clear hws hwl hYz hwx hYd hTd hch
                have hXz : (⟨(B64.b64EncL (v.data.toList.take n)).toArray⟩ : ByteArray).size ≤ 100 := by rw [mk_size, B64.b64_len, List.length_take]; omega
                generalize hX : (⟨(B64.b64EncL (v.data.toList.take n)).toArray⟩ : ByteArray) = X at *
                generalize wordOf (v.data.toList.take n) = wx at *
                clear hX
                obtain ⟨i0, hi, hi0, hi1, hi2⟩ := info_parts infoStr
                have hwl2 : ws.length ≤ 3300000 := by omega
                go_wp2_with (first
                  | (go_at_call 56; refine (DR.out _ (GL.out.below HB3.out).tabs).mono ?_; rintro e w4 ⟨rfl, b4⟩; have HB4 := Lib.hid (HB3.out.trans (b4.mono HB3.out.size)); have HO4 := Lib.hid (ownsRow_below HO3.out b4); clear b4)
                  | (go_at_call 57; refine (EC.out _).mono ?_; rintro e w5 ⟨rfl, b5⟩; have HB5 := Lib.hid (HB4.out.trans (b5.mono HB4.out.size)); have HO5 := Lib.hid (ownsRow_below HO4.out b5); clear b5)
                  | (at_builtin; refine wpList_append_own _ rfl (.tmp 39) (.tmp 46) 34 rfl w.heap.size 9 i0 _ 1 16 Tryz.underlying34 hi hi0 hi1 hi2 rfl (by decide) _ _ _ rfl (HO5.out.alloc _) ⟨w5.heap.size, 0, none⟩ 1 1 [.string (⟨#[61, 63, 117, 116, 102, 45, 56, 63, 66, 63]⟩ ++ X ++ ⟨#[63, 61]⟩)] rfl rfl ?c1 ?c2 ?c3 ?c4 ?c5 ?_))
                case c1 =>
                  intro j u hj
                  cases j with
                  | zero =>
                    obtain rfl := Option.some.inj hj
                    rw [show (⟨w5.heap.size, 0, none⟩ : Addr).add 0 = ⟨w5.heap.size, 0, none⟩ from by unfold Addr.add; simp]
                    simp
                  | succ j => exact absurd hj (by simp)
                case c2 => intro u hu; simp at hu; subst hu; rfl
                case c3 => simp only [maxLen]; omega
                case c4 => omega
                case c5 => have := HB5.out.size; simp; omega
                intro v1 w6 hown1 hgr1 _
                have hw5 : w.heap.size ≤ w5.heap.size := HB5.out.size
                have HO6 := Lib.hid hown1
                have HB6 := Lib.hid ((HB5.out.alloc HB5.out.size _).grown hgr1 (by simp; omega) (fun k hk => (HO5.out.lt k hk).1))
                obtain ⟨a1, n1, k1, rfl⟩ : ∃ a n c, v1 = .slice a n c := by
                  rcases HO6.out.2 with ⟨rfl, _⟩ | ⟨_, _, _, rfl, _⟩
                  · exact ⟨_, _, _, rfl⟩
                  · exact ⟨_, _, _, rfl⟩
                clear hown1 hgr1
                go_wp2
                go_roundw
                case rel =>
                  have := HYZ.out; have hz := HNZ.out
                  refine ⟨_, Y, ws ++ [⟨#[61, 63, 117, 116, 102, 45, 56, 63, 66, 63]⟩ ++ X ++ ⟨#[63, 61]⟩], rfl, rfl, by omega, by rw [List.length_append]; simp only [List.length_cons, List.length_nil]; omega, ?_, ?_, ?_, HB6.out⟩
                  · rw [List.map_append, List.map_cons, List.map_nil, HWX.out, List.append_assoc]; exact HWS.out
                  · intro x hx
                    rcases List.mem_append.1 hx with hx | hx
                    · exact HLE.out x hx
                    · rw [List.mem_singleton.1 hx]
                      have h1 := congrArg List.length HWX.out
                      have h2 := HWL.out
                      rw [Array.length_toList] at h1
                      have h3 : ((⟨#[61, 63, 117, 116, 102, 45, 56, 63, 66, 63]⟩ ++ X ++ ⟨#[63, 61]⟩) : ByteArray).size = wx.length := h1
                      omega
                  · have := HO6.out
                    simpa using this
                case measure => have := HYZ.out; have hz := HNZ.out; simp only; omega
              · have h30i : ¬ (30 : Int) < (n : Int) + (k : Int) := by omega
                go_wp2_with (go_at_call 56; refine (DR.out _ (GL.out.below HB3.out).tabs).mono ?_; rintro e w4 ⟨rfl, b4⟩; have HB4 := Lib.hid (HB3.out.trans (b4.mono HB3.out.size)); have HO4 := Lib.hid (ownsRow_below HO3.out b4); clear b4)
                go_roundw
                case rel => exact ⟨n + k, by go_num, by omega, by omega, by rw [HST.out, if_neg h30], HO4.out, HB4.out⟩
                case measure => simp [RowKit.intOf]; omega
            · have hlti : ¬ (n : Int) < (v.size : Int) := by omega
              have hch2 : chunk v.data.toList.length v.data.toList 0 = n := by
                rw [← hch, List.drop_eq_nil_of_le (by rw [HVL.out]; omega)]; rfl
              have HNZ : Hid (1 ≤ n) := Lib.hid (by omega)
              clear hch HNZ0
              have hch := hch2
              clear hch2
              have HB4 := HB3; have HO4 := HO3
              obtain ⟨T, hT⟩ : ∃ T, v.extract 0 n = T := ⟨_, rfl⟩
              have hTd : T.data.toList = v.data.toList.take n := by rw [← hT, extract_list, List.drop_zero]
              have hTz : T.size ≤ 1100000 := by rw [← hT]; simp; omega
              have EC := Lib.hid (fun W => B64.Encode_c T hTz W)
              rw [hTd] at EC
              obtain ⟨Y, hY⟩ : ∃ Y, v.extract n v.size = Y := ⟨_, rfl⟩
              have hYd : Y.data.toList = v.data.toList.drop n := by rw [← hY, extract_list, List.take_of_length_le (by simp)]
              have hYz : Y.size = v.size - n := by rw [← hY]; simp
              have hnv : n ≤ v.size := by omega
              have hnvi : (n : Int) ≤ (v.size : Int) := by omega
              have hws : ws.map (·.data.toList) ++ wordOf (v.data.toList.take n) :: wordsL Y.data.toList = wordsL V0.data.toList := by
                rw [← HW.out, words_step _ (HNE.out), hch, hYd]
              have hwl : (wordOf (v.data.toList.take n)).length ≤ 52 := wordOf_52 _ (by rw [List.length_take]; omega)
              have HWS := Lib.hid hws; have HWL := Lib.hid hwl; have HYZ := Lib.hid hYz
              have hwx : ((⟨#[61, 63, 117, 116, 102, 45, 56, 63, 66, 63]⟩ : ByteArray) ++ (⟨(B64.b64EncL (v.data.toList.take n)).toArray⟩ : ByteArray) ++ (⟨#[63, 61]⟩ : ByteArray)).data.toList = wordOf (v.data.toList.take n) := by
                simp [wordOf]
              have HWX := Lib.hid hwx
              clear hws hwl hYz hwx hYd hTd hch
              have hXz : (⟨(B64.b64EncL (v.data.toList.take n)).toArray⟩ : ByteArray).size ≤ 100 := by rw [mk_size, B64.b64_len, List.length_take]; omega
              generalize hX : (⟨(B64.b64EncL (v.data.toList.take n)).toArray⟩ : ByteArray) = X at *
              generalize wordOf (v.data.toList.take n) = wx at *
              clear hX
              obtain ⟨i0, hi, hi0, hi1, hi2⟩ := info_parts infoStr
              have hwl2 : ws.length ≤ 3300000 := by omega
              go_wp2_with (first
                | (go_at_call 57; refine (EC.out _).mono ?_; rintro e w5 ⟨rfl, b5⟩; have HB5 := Lib.hid (HB4.out.trans (b5.mono HB4.out.size)); have HO5 := Lib.hid (ownsRow_below HO4.out b5); clear b5)
                | (at_builtin; refine wpList_append_own _ rfl (.tmp 39) (.tmp 46) 34 rfl w.heap.size 9 i0 _ 1 16 Tryz.underlying34 hi hi0 hi1 hi2 rfl (by decide) _ _ _ rfl (HO5.out.alloc _) ⟨w5.heap.size, 0, none⟩ 1 1 [.string (⟨#[61, 63, 117, 116, 102, 45, 56, 63, 66, 63]⟩ ++ X ++ ⟨#[63, 61]⟩)] rfl rfl ?c1 ?c2 ?c3 ?c4 ?c5 ?_))
              case c1 =>
                intro j u hj
                cases j with
                | zero =>
                  obtain rfl := Option.some.inj hj
                  rw [show (⟨w5.heap.size, 0, none⟩ : Addr).add 0 = ⟨w5.heap.size, 0, none⟩ from by unfold Addr.add; simp]
                  simp
                | succ j => exact absurd hj (by simp)
              case c2 => intro u hu; simp at hu; subst hu; rfl
              case c3 => simp only [maxLen]; omega
              case c4 => omega
              case c5 => have := HB5.out.size; simp; omega
              intro v1 w6 hown1 hgr1 _
              have hw5 : w.heap.size ≤ w5.heap.size := HB5.out.size
              have HO6 := Lib.hid hown1
              have HB6 := Lib.hid ((HB5.out.alloc HB5.out.size _).grown hgr1 (by simp; omega) (fun k hk => (HO5.out.lt k hk).1))
              obtain ⟨a1, n1, k1, rfl⟩ : ∃ a n c, v1 = .slice a n c := by
                rcases HO6.out.2 with ⟨rfl, _⟩ | ⟨_, _, _, rfl, _⟩
                · exact ⟨_, _, _, rfl⟩
                · exact ⟨_, _, _, rfl⟩
              clear hown1 hgr1
              go_wp2
              go_roundw
              case rel =>
                have := HYZ.out; have hz := HNZ.out
                refine ⟨_, Y, ws ++ [⟨#[61, 63, 117, 116, 102, 45, 56, 63, 66, 63]⟩ ++ X ++ ⟨#[63, 61]⟩], rfl, rfl, by omega, by rw [List.length_append]; simp only [List.length_cons, List.length_nil]; omega, ?_, ?_, ?_, HB6.out⟩
                · rw [List.map_append, List.map_cons, List.map_nil, HWX.out, List.append_assoc]; exact HWS.out
                · intro x hx
                  rcases List.mem_append.1 hx with hx | hx
                  · exact HLE.out x hx
                  · rw [List.mem_singleton.1 hx]
                    have h1 := congrArg List.length HWX.out
                    have h2 := HWL.out
                    rw [Array.length_toList] at h1
                    have h3 : ((⟨#[61, 63, 117, 116, 102, 45, 56, 63, 66, 63]⟩ ++ X ++ ⟨#[63, 61]⟩) : ByteArray).size = wx.length := h1
                    omega
                · have := HO6.out
                  simpa using this
              case measure => have := HYZ.out; have hz := HNZ.out; simp only; omega
end Go.Proofs.YtpcncpegbboljaaGreatDoor.WordL
namespace Go.Proofs.YtpcncpegbboljaaGreatDoor.Addr
open Go.RowKit Go.Lib Go.Proofs.YtpcncpegbboljaaGreatDoor Go.Proofs.YtpcncpegbboljaaGreatDoor.Pure Go.Proofs.YtpcncpegbboljaaGreatDoorW.PrintWords
set_option linter.unusedVariables false
set_option linter.unusedSimpArgs false
def trimW (l : List UInt8) : List UInt8 := Lib.trimS l [32, 9, 10, 13]
theorem dropWhile_le8 (p : UInt8 → Bool) : ∀ (l : List UInt8), (l.dropWhile p).length ≤ l.length
  | [] => by simp
  | c :: r => by
    rw [List.dropWhile_cons]
    split
    · have := dropWhile_le8 p r; simp only [List.length_cons]; omega
    · exact Nat.le_refl _
theorem trimW_le (l : List UInt8) : (trimW l).length ≤ l.length := by
  unfold trimW Lib.trimS Lib.trimLeftS Lib.trimRightS
  refine Nat.le_trans (dropWhile_le8 _ _) ?_
  rw [List.length_reverse]
  refine Nat.le_trans (dropWhile_le8 _ _) ?_
  rw [List.length_reverse]
  exact Nat.le_refl _
theorem trimW_c (s : ByteArray) (hs : s.size ≤ 11000000) (T : ByteArray) (hT : T.data.toList = trimW s.data.toList) (W : World) :
    Calls Tryz.prog 43 #[.string s, .string (⟨#[32, 9, 10, 13]⟩ : ByteArray)] W fun e w' => e = .returned (.string T) ∧ Below W.heap.size W w' := by
  refine (WordL.trim_c s hs W).mono ?_
  rintro e w' ⟨rfl, h⟩
  refine ⟨?_, h⟩
  rw [show T = ⟨(Lib.trimS s.data.toList [32, 9, 10, 13]).toArray⟩ from ba_ext hT]
def calledL (l : List UInt8) : List UInt8 :=
  match trimW l with
  | [] => WordL.wordL []
  | c :: r => if c = 34 then WordL.wordL (innerL ((c :: r).take (stretchL (c :: r)).1) (stretchL (c :: r)).2) else WordL.wordL (c :: r)
set_option maxRecDepth 100000 in
set_option maxHeartbeats 8000000 in
theorem called_c (s : ByteArray) (hs : s.size ≤ 1100000) (w : World) (hGl : Glob w) :
    Calls Tryz.prog 44 #[.string s] w fun e w' => e = .returned (.string ⟨(calledL s.data.toList).toArray⟩) ∧ Below w.heap.size w w' := by
  obtain ⟨T, hT⟩ : ∃ T : ByteArray, T.data.toList = trimW s.data.toList := ⟨⟨(trimW s.data.toList).toArray⟩, rfl⟩
  have hTz : T.size ≤ s.size := by
    have := trimW_le s.data.toList
    rw [← hT] at this
    simpa using this
  have hTl : T.data.toList.length = T.size := by simp
  have TR := Lib.hid (fun W => trimW_c s (by omega) T hT W)
  have GL := Lib.hid hGl
  have WD := Lib.hid (fun W h => WordL.Decode_c T (by omega) W h)
  have hcl : calledL s.data.toList = match T.data.toList with
    | [] => WordL.wordL []
    | c :: r => if c = 34 then WordL.wordL (innerL ((c :: r).take (stretchL (c :: r)).1) (stretchL (c :: r)).2) else WordL.wordL (c :: r) := by rw [hT]; rfl
  have hTT : T.toList = T.data.toList := toList_eq _
  clear hT hGl
  cases hd : T.data.toList with
  | nil =>
    rw [hd] at hcl hTT hTl
    have HE : Hid (calledL s.data.toList = WordL.wordL T.data.toList) := Lib.hid (by rw [hcl, hd])
    have x1 : T.toList.isEmpty = true := by rw [hTT]; rfl
    clear hcl hd hTT hTl
    go_enter Tryz.func44, Tryz.ntmps44
    go_wp2_with (first
      | (go_at_call 43; refine (TR.out _).mono ?_; rintro e w1 ⟨rfl, b1⟩; have B1 := Lib.hid b1; clear b1)
      | (go_at_call 42; refine (WD.out _ (GL.out.below B1.out)).mono ?_; rintro e w2 ⟨rfl, b2⟩; have B2 := Lib.hid (B1.out.trans (b2.mono B1.out.size)); clear b2))
    go_ret
    exact ⟨by rw [HE.out]; rfl, B2.out⟩
  | cons c r =>
    rw [hd] at hcl hTT hTl
    simp only [List.length_cons] at hTl
    have x1 : T.toList.isEmpty = false := by rw [hTT]; rfl
    have x2 : ¬ T.toList = [] := by rw [hTT]; simp
    have h0 : 0 < T.size := by omega
    have hsc : T[0] = c := by
      have hd0 : T.data.toList.drop 0 = c :: r := hd
      have e := List.drop_eq_getElem_cons (l := T.data.toList) (i := 0) (by rw [hd]; simp)
      rw [hd0] at e
      injection e with e1 _
      exact e1.symm
    by_cases h34 : c = 34
    · subst h34
      have hst : T.data.toList = 34 :: r := hd
      have SC := Lib.hid (fun W => stretch_c T (by omega) _ _ hst (.inl rfl) W)
      have hln := stretchL_len 34 r
      have htwo := itemL_two 34 r
      have hitem : itemL (34 :: r) = stretchL (34 :: r) := by simp only [itemL]; rw [if_pos (.inl trivial)]
      rw [hitem] at htwo
      rw [hd] at SC
      simp only at hcl
      rw [if_pos trivial] at hcl
      generalize stretchL (34 :: r) = it at *
      obtain ⟨n, b⟩ := it
      simp only at SC hln htwo hcl
      obtain ⟨X, hX⟩ : ∃ X, T.extract 0 n = X := ⟨_, rfl⟩
      have hXd : X.data.toList = (34 :: r).take n := by rw [← hX, extract_list, hd, List.drop_zero]
      have hXz : X.size = n := by rw [← hX]; simp; omega
      have IN := Lib.hid (fun W => inner_c X b (by omega) (by omega) (by rw [hXz]; exact htwo) W)
      have hil := innerL_len X.data.toList b
      obtain ⟨Y, hY⟩ : ∃ Y : ByteArray, (⟨(innerL X.data.toList b).toArray⟩ : ByteArray) = Y := ⟨_, rfl⟩
      have hYd : Y.data.toList = innerL X.data.toList b := by rw [← hY]
      have hYz : Y.size ≤ n := by
        have e1 : Y.data.toList.length = Y.size := by simp
        have e2 : X.data.toList.length = X.size := by simp
        rw [hYd] at e1
        omega
      have WD2 := Lib.hid (fun W h => WordL.Decode_c Y (by omega) W h)
      have HE : Hid (calledL s.data.toList = WordL.wordL Y.data.toList) := Lib.hid (by rw [hcl, hYd, hXd])
      have hn : (n : Int) ≤ (T.size : Int) := by omega
      rw [hY] at IN
      clear hcl hd hTT hTl hst hln htwo hitem hXd hXz hil hY hYd hYz
      go_enter Tryz.func44, Tryz.ntmps44
      go_wp2_with (first
        | (go_at_call 43; refine (TR.out _).mono ?_; rintro e w1 ⟨rfl, b1⟩; have B1 := Lib.hid b1; clear b1)
        | (go_at_call 66; refine (SC.out _).mono ?_; rintro e w2 ⟨rfl, q, rfl⟩; have B2 := Lib.hid (bdrewN B1.out q))
        | (go_at_call 40; refine (IN.out _).mono ?_; rintro e w3 ⟨rfl, b3⟩; have B3 := Lib.hid (B2.out.trans (b3.mono B2.out.size)); clear b3)
        | (go_at_call 42; refine (WD2.out _ (GL.out.below B3.out)).mono ?_; rintro e w4 ⟨rfl, b4⟩; have B4 := Lib.hid (B3.out.trans (b4.mono B3.out.size)); clear b4))
      go_ret
      exact ⟨by rw [HE.out]; rfl, B4.out⟩
    · have HE : Hid (calledL s.data.toList = WordL.wordL T.data.toList) := Lib.hid (by rw [hcl]; simp only; rw [if_neg h34, hd])
      have hb1 : (((T[0]).toNat : Int) == 34) = false := by rw [hsc]; exact u8f h34 (by decide)
      have hb2 : ¬ ((T[0]).toNat : Int) = 34 := beq_eq_false_iff_ne.1 hb1
      clear hcl hd hTT hTl hsc h34
      go_enter Tryz.func44, Tryz.ntmps44
      go_wp2_with (first
        | (go_at_call 43; refine (TR.out _).mono ?_; rintro e w1 ⟨rfl, b1⟩; have B1 := Lib.hid b1; clear b1)
        | (go_at_call 42; refine (WD.out _ (GL.out.below B1.out)).mono ?_; rintro e w2 ⟨rfl, b2⟩; have B2 := Lib.hid (B1.out.trans (b2.mono B1.out.size)); clear b2))
      go_ret
      exact ⟨by rw [HE.out]; rfl, B2.out⟩
def boxS (s : ByteArray) : BxSt := foldA (bxStep s) 0 s.data.toList ⟨-1, -1, [], false, []⟩
def boxN (s : ByteArray) : List UInt8 := if (boxS s).a < 0 then WordL.wordL (trimW (boxS s).remark) else calledL (s.data.toList.take (boxS s).a.toNat)
def boxM (s : ByteArray) : List UInt8 := if (boxS s).a < 0 then trimW (boxS s).rest else trimW ((s.data.toList.take (if (boxS s).z < 0 then s.size else (boxS s).z.toNat)).drop ((boxS s).a.toNat + 1))
theorem infoBox : (Tryz.prog.info? 32).map (·.size) = some 2 := by kernel_rfl
theorem start7 (w : World) (s : ByteArray) : ∃ W, W = (((((((w.alloc (.cells #[.string s] 9)).alloc (.cells #[.string ⟨#[]⟩, .string ⟨#[]⟩] 32)).alloc (.cells #[.int .i64 (-1)] 3)).alloc (.cells #[.int .i64 (-1)] 3)).alloc (.cells #[.string ⟨#[]⟩] 9)).alloc (.cells #[.bool false] 4)).alloc (.cells #[.pointer none, .slice none 0 0] 48)) ∧ BxK w.heap.size s 0 ⟨-1, -1, [], false, []⟩ W ∧ Below w.heap.size w W := by
  obtain ⟨V, hV, b0, b1, b2, b3, hz, hb⟩ := start4 w (.cells #[.string s] 9) (.cells #[.string ⟨#[]⟩, .string ⟨#[]⟩] 32) (.cells #[.int .i64 (-1)] 3) (.cells #[.int .i64 (-1)] 3)
  rw [← hV]
  have old : ∀ (v : World) (o : Obj) (k : Nat) x, k < v.heap.size → v.heap[k]? = some x → (v.alloc o).heap[k]? = some x := fun v o k x hk h => (Below.heap_alloc v o k hk).trans h
  have z1 : (V.alloc (.cells #[.string ⟨#[]⟩] 9)).heap.size = w.heap.size + 5 := by simp [hz]
  have z2 : ((V.alloc (.cells #[.string ⟨#[]⟩] 9)).alloc (.cells #[.bool false] 4)).heap.size = w.heap.size + 6 := by simp [hz]
  have n4 := heap_alloc_new V (.cells #[.string ⟨#[]⟩] 9)
  have n5 := heap_alloc_new (V.alloc (.cells #[.string ⟨#[]⟩] 9)) (.cells #[.bool false] 4)
  have n6 := Lib.fresh_isBuilder 48 5 ((V.alloc (.cells #[.string ⟨#[]⟩] 9)).alloc (.cells #[.bool false] 4))
  rw [hz] at n4
  rw [z1] at n5
  rw [z2] at n6
  have up : ∀ (k : Nat) x, k < w.heap.size + 4 → V.heap[k]? = some x → (((V.alloc (.cells #[.string ⟨#[]⟩] 9)).alloc (.cells #[.bool false] 4)).alloc (.cells #[.pointer none, .slice none 0 0] 48)).heap[k]? = some x := fun k x hk h =>
    old _ _ _ _ (by omega) (old _ _ _ _ (by omega) (old _ _ _ _ (by omega) h))
  refine ⟨_, rfl, ⟨⟨by simp [hz], up _ _ (by omega) b0, up _ _ (by omega) b1, up _ _ (by omega) b2, up _ _ (by omega) b3, old _ _ _ _ (by omega) (old _ _ _ _ (by omega) n4), old _ _ _ _ (by omega) n5, IsBuilderF.of n6⟩, .inl rfl, .inl rfl, by simp, by simp⟩, ((hb.alloc (by omega) _).alloc (by omega) _).alloc (by omega) _⟩
set_option maxRecDepth 100000 in
set_option maxHeartbeats 8000000 in
theorem out_box (s : ByteArray) (hs : s.size ≤ 11000000) (M : Nat) (W : World) (h0 : BxK M s 0 ⟨-1, -1, [], false, []⟩ W) (hM : M ≤ W.heap.size) :
    Calls Tryz.prog 37 #[.string s, .func (.func 39) #[] #[.pointer (some ⟨M, 0, none⟩), .pointer (some ⟨M + 2, 0, none⟩), .pointer (some ⟨M + 3, 0, none⟩), .pointer (some ⟨M + 5, 0, none⟩), .pointer (some ⟨M + 4, 0, none⟩), .pointer (some ⟨M + 6, 0, none⟩)]] W fun e w' => e = .returned (.tuple #[]) ∧ BxK M s s.size (boxS s) w' ∧ Below M W w' := by
  refine outside_c s hs 39 _ (enters_of Tryz.func39 (by kernel_rfl) rfl) M (BxK M s) (bxStep s) (fun _ _ _ n h => h.draws n) ?_ _ W h0 hM
  intro st i c r W2 hc hK hB
  exact box1_c M s hs i st c r _ _ (itemL_len c r).1 (itemL_len c r).2 (itemL_two c r) W2 hc hK
structure BxJ (w : World) (s : ByteArray) (st : BxSt) (W : World) : Prop where
  c : BxC w.heap.size s st W
  g : Glob W
  b : Below w.heap.size w W
theorem BxJ.below {w : World} {s : ByteArray} {st : BxSt} {W W' : World} (h : BxJ w s st W) (hb : Below W.heap.size W W') : BxJ w s st W' := ⟨h.c.below hb, h.g.below hb, h.b.trans (hb.mono h.b.size)⟩
theorem BxJ.draw {w : World} {s : ByteArray} {st : BxSt} {W : World} (h : BxJ w s st W) : BxJ w s st W.drew := h.below (Below.refl _ _).drew
set_option maxRecDepth 100000 in
set_option maxHeartbeats 8000000 in
theorem box_c (s : ByteArray) (hs : s.size ≤ 1100000) (w : World) (hGl : Glob w) :
    Calls Tryz.prog 20 #[.string s] w fun e w' => e = .returned (.agg #[.string ⟨(boxN s).toArray⟩, .string ⟨(boxM s).toArray⟩]) ∧ Below w.heap.size w w' := by
  obtain ⟨W, hW, hK, hb⟩ := start7 w s
  have HC := Lib.hid (out_box s (by omega) w.heap.size W hK hb.size)
  have HW := Lib.hid hW; have HB := Lib.hid hb; have GL := Lib.hid hGl
  clear hW hK hb hGl
  have hN : boxN s = if (boxS s).a < 0 then WordL.wordL (trimW (boxS s).remark) else calledL (s.data.toList.take (boxS s).a.toNat) := rfl
  have hMl : boxM s = if (boxS s).a < 0 then trimW (boxS s).rest else trimW ((s.data.toList.take (if (boxS s).z < 0 then s.size else (boxS s).z.toNat)).drop ((boxS s).a.toNat + 1)) := rfl
  generalize boxS s = st at *
  have HN := Lib.hid hN; have HM := Lib.hid hMl
  clear hN hMl
  go_enter Tryz.func20, Tryz.ntmps20
  go_upto_region 5 with (go_at_call 37; rw [← HW.out]; refine HC.out.mono ?_; rintro e w1 ⟨rfl, hk, hb1⟩; have HK := Lib.hid hk; have HB1 := Lib.hid (HB.out.trans hb1); clear hk hb1)
  obtain ⟨hC, hI⟩ := HK.out
  have hrm := hI.remark
  have hrs := hI.rest
  have hia := hI.a
  have hiz := hI.z
  have c0 := Joins.cell_of_block hC.b0 0
  have c10 := Joins.cell_of_block hC.b1 0
  have c11 := Joins.cell_of_block hC.b1 1
  have c2 := Joins.cell_of_block hC.b2 0
  have c3 := Joins.cell_of_block hC.b3 0
  have c4 := Joins.cell_of_block hC.b4 0
  have u10 := Joins.unfrozen_of_block hC.b1 0
  have u11 := Joins.unfrozen_of_block hC.b1 1
  have u3 := Joins.unfrozen_of_block hC.b3 0
  simp at c0 c10 c11 c2 c3 c4
  have HC1 := Lib.hid hC; have HI := Lib.hid hI
  clear hC hI HK
  have hsz := HB1.out.size
  by_cases ha : st.a < 0
  ·
    obtain ⟨T, hT⟩ : ∃ T : ByteArray, T.data.toList = trimW st.remark := ⟨⟨(trimW st.remark).toArray⟩, rfl⟩
    obtain ⟨U, hU⟩ : ∃ U : ByteArray, U.data.toList = trimW st.rest := ⟨⟨(trimW st.rest).toArray⟩, rfl⟩
    have hTz : T.size ≤ 1100000 := by
      have h1 := trimW_le st.remark
      rw [← hT] at h1
      have h2 : T.data.toList.length = T.size := by simp
      omega
    have hrz : (⟨st.remark.toArray⟩ : ByteArray).size = st.remark.length := mk_size _
    have hrz2 : (⟨st.rest.toArray⟩ : ByteArray).size = st.rest.length := mk_size _
    have TR := Lib.hid (fun W => trimW_c ⟨st.remark.toArray⟩ (by omega) T hT W)
    have TR2 := Lib.hid (fun W => trimW_c ⟨st.rest.toArray⟩ (by omega) U hU W)
    have WD := Lib.hid (fun W h => WordL.Decode_c T hTz W h)
    have HE : Hid (boxN s = WordL.wordL T.data.toList ∧ boxM s = U.data.toList) := Lib.hid ⟨by rw [HN.out, if_pos ha, hT], by rw [HM.out, if_pos ha, hU]⟩
    clear hT hU hTz hrz hrz2 hia hiz
    go_wp2_with (first
      | (go_at_call 43; first
          | (with_reducible refine (TR.out _).mono ?_; rintro e w2 ⟨rfl, b2⟩; have D2 := Lib.hid (HC1.out.below b2); have B2 := Lib.hid (HB1.out.trans (b2.mono HB1.out.size)); clear b2)
          | (with_reducible refine (TR2.out _).mono ?_; rintro e w5 ⟨rfl, b5⟩; have C5 := D4.out.below b5; have B5 := Lib.hid (B4.out.trans (b5.mono B4.out.size)); have e10 := Joins.cell_of_block C5.b1 0; have e11 := Joins.cell_of_block C5.b1 1; have v10 := Joins.unfrozen_of_block C5.b1 0; have v11 := Joins.unfrozen_of_block C5.b1 1; simp at e10 e11; have D5 := Lib.hid C5; clear b5 C5))
      | (go_at_call 42; refine (WD.out _ (GL.out.below B2.out)).mono ?_; rintro e w3 ⟨rfl, b3⟩; have D3 := Lib.hid (D2.out.below b3); have B3 := Lib.hid (B2.out.trans (b3.mono B2.out.size)); clear b3)
      | (go_at_call 36; refine (Tryz.Builder_String_any_k _ _ st.rest _ D3.out.b6 (by have := D3.out.size; omega)).mono ?_; rintro e w4 ⟨rfl, i4, b4, _⟩; have D4 := Lib.hid (D3.out.write b4 i4); have B4 := Lib.hid (B3.out.trans (b4.mono (by omega))); clear i4 b4))
    refine bodyPost_ret_by (v := .agg #[.string ⟨(WordL.wordL T.data.toList).toArray⟩, .string U]) ?_ rfl ?_
    · exact results_cell_row rfl _ _ (w.heap.size + 1) _ #[.string ⟨(WordL.wordL T.data.toList).toArray⟩, .string U] _ _ rfl (Joins.block_setCell (Joins.block_setCell D5.out.b1 _) _) Tryz.underlying32 rfl infoBox
    · exact ⟨by rw [HE.out.1, HE.out.2], (B5.out.setCell (p := ⟨w.heap.size + 1, 0, none⟩) (by show w.heap.size ≤ w.heap.size + 1; omega) _).setCell (p := ⟨w.heap.size + 1, 1, none⟩) (by show w.heap.size ≤ w.heap.size + 1; omega) _⟩
  ·
    obtain ⟨f, hfa, hf1, hf2⟩ : ∃ f : Nat, st.a = (f : Int) ∧ f < s.size ∧ f < s.size := by
      rcases hia with h | ⟨f, h, h2, h3⟩
      · omega
      · exact ⟨f, h, h3, h3⟩
    obtain ⟨t, ht1, ht2, htz⟩ : ∃ t : Nat, f < t ∧ t ≤ s.size ∧ t = (if st.z < 0 then s.size else st.z.toNat) := by
      rcases hiz with h | ⟨f2, t, h, h2, h3, h4, h5⟩
      · exact ⟨s.size, hf1, Nat.le_refl _, by rw [if_pos (by omega)]⟩
      · exact ⟨t, by omega, by omega, by rw [if_neg (by omega), h2]; rfl⟩
    obtain ⟨X, hX⟩ : ∃ X, s.extract 0 f = X := ⟨_, rfl⟩
    obtain ⟨Y, hY⟩ : ∃ Y, s.extract (f + 1) t = Y := ⟨_, rfl⟩
    have hXd : X.data.toList = s.data.toList.take f := by rw [← hX, extract_list, List.drop_zero]
    have hYd : Y.data.toList = (s.data.toList.take t).drop (f + 1) := by rw [← hY, extract_list]
    have hXz : X.size ≤ 1100000 := by rw [← hX]; simp; omega
    have hYz : Y.size ≤ 11000000 := by rw [← hY]; simp; omega
    obtain ⟨U, hU⟩ : ∃ U : ByteArray, U.data.toList = trimW Y.data.toList := ⟨⟨(trimW Y.data.toList).toArray⟩, rfl⟩
    have TR := Lib.hid (fun W => trimW_c Y hYz U hU W)
    have CL := Lib.hid (fun W h => called_c X hXz W h)
    have HE : Hid (boxN s = calledL X.data.toList ∧ boxM s = U.data.toList) := Lib.hid ⟨by rw [HN.out, if_neg ha, hXd, hfa]; rfl, by rw [HM.out, if_neg ha, hU, hYd, ← htz, hfa]; rfl⟩
    rw [hfa] at c2 ha
    have hfn : (f : Int) ≤ (s.size : Int) := by omega
    have hft : (f : Int) + 1 ≤ (t : Int) := by omega
    have htn : (t : Int) ≤ (s.size : Int) := by omega
    have hf1n : ((f : Int) + 1).toNat = f + 1 := by omega
    have hf10 : (0 : Int) ≤ (f : Int) + 1 := by omega
    have hf00 : (0 : Int) ≤ (f : Int) := by omega
    have hfb : f ≤ 1100000 := by omega
    by_cases hz : st.z < 0
    · have hts : t = s.size := by rw [htz, if_pos hz]
      subst hts
      clear htz hXd hYd hXz hYz hU hia hiz
      have hb3 : Below w.heap.size w (w1.setCell ⟨w.heap.size + 3, 0, none⟩ (.int .i64 (s.size : Int))) := HB1.out.setCell (p := ⟨w.heap.size + 3, 0, none⟩) (by show w.heap.size ≤ w.heap.size + 3; omega) _
      have J0 : BxJ w s { st with z := (s.size : Int) } (w1.setCell ⟨w.heap.size + 3, 0, none⟩ (.int .i64 (s.size : Int))) := ⟨HC1.out.set_z (s.size : Int), GL.out.below hb3, hb3⟩
      have CLJ : Hid (∀ W, BxJ w s { st with z := (s.size : Int) } W → Calls Tryz.prog 44 #[.string X] W fun e w' => e = .returned (.string ⟨(calledL X.data.toList).toArray⟩) ∧ BxJ w s { st with z := (s.size : Int) } w') := Lib.hid fun W h => (CL.out W h.g).mono (by rintro e w' ⟨rfl, b⟩; exact ⟨rfl, h.below b⟩)
      have TRJ : Hid (∀ W, BxJ w s { st with z := (s.size : Int) } W → Calls Tryz.prog 43 #[.string Y, .string (⟨#[32, 9, 10, 13]⟩ : ByteArray)] W fun e w' => e = .returned (.string U) ∧ BxJ w s { st with z := (s.size : Int) } w') := Lib.hid fun W h => (TR.out W).mono (by rintro e w' ⟨rfl, b⟩; exact ⟨rfl, h.below b⟩)
      have HJ := Lib.hid J0.draw
      have p0 : (w1.setCell ⟨w.heap.size + 1 + 1 + 1, 0, none⟩ (.int .i64 (s.size : Int))).cell? ⟨w.heap.size, 0, none⟩ = some (.string s) := (Joins.cell_of_block J0.c.b0 0).trans rfl
      have p3 : (w1.setCell ⟨w.heap.size + 1 + 1 + 1, 0, none⟩ (.int .i64 (s.size : Int))).cell? ⟨w.heap.size + 1 + 1 + 1, 0, none⟩ = some (.int .i64 (s.size : Int)) := (Joins.cell_of_block J0.c.b3 0).trans rfl
      have p0d : (w1.setCell ⟨w.heap.size + 1 + 1 + 1, 0, none⟩ (.int .i64 (s.size : Int))).drew.cell? ⟨w.heap.size, 0, none⟩ = some (.string s) := p0
      have p3d : (w1.setCell ⟨w.heap.size + 1 + 1 + 1, 0, none⟩ (.int .i64 (s.size : Int))).drew.cell? ⟨w.heap.size + 1 + 1 + 1, 0, none⟩ = some (.int .i64 (s.size : Int)) := p3
      clear J0 hb3
      go_wp2_with fail
      have hw1 : IntKind.i64.wrap ((f : Int) + 1) = (f : Int) + 1 := by rw [IntWalk.i64_left, IntWalk.wrap64_in _ (by omega)]
      go_region_held3 (fun w' => w'.cell? ⟨w.heap.size, 0, none⟩ = some (.string s) ∧ w'.cell? ⟨w.heap.size + 1 + 1, 0, none⟩ = some (.int .i64 (f : Int)) ∧ w'.cell? ⟨w.heap.size + 1 + 1 + 1, 0, none⟩ = some (.int .i64 (s.size : Int))) (go_keep) (first
        | (go_at_call 44; first
            | (with_reducible refine (CLJ.out _ HJ.out).mono ?_; rintro e w2 ⟨rfl, j2⟩; have J2 := Lib.hid j2; have q0 := Joins.cell_of_block j2.c.b0 0; have q2 := Joins.cell_of_block j2.c.b2 0; have q3 := Joins.cell_of_block j2.c.b3 0; have q10 := Joins.cell_of_block j2.c.b1 0; have q11 := Joins.cell_of_block j2.c.b1 1; have qv0 := Joins.unfrozen_of_block j2.c.b1 0; have qv1 := Joins.unfrozen_of_block j2.c.b1 1; simp [hfa] at q0 q2 q3 q10 q11; clear j2)
            | (with_reducible refine (CLJ.out _ J3.out).mono ?_; rintro e w2 ⟨rfl, j2⟩; have J2 := Lib.hid j2; have q0 := Joins.cell_of_block j2.c.b0 0; have q2 := Joins.cell_of_block j2.c.b2 0; have q3 := Joins.cell_of_block j2.c.b3 0; have q10 := Joins.cell_of_block j2.c.b1 0; have q11 := Joins.cell_of_block j2.c.b1 1; have qv0 := Joins.unfrozen_of_block j2.c.b1 0; have qv1 := Joins.unfrozen_of_block j2.c.b1 1; simp [hfa] at q0 q2 q3 q10 q11; clear j2))
        | (go_at_call 43; first
            | (with_reducible refine (TRJ.out _ HJ.out).mono ?_; rintro e w3 ⟨rfl, j3⟩; have J3 := Lib.hid j3; have r0 := Joins.cell_of_block j3.c.b0 0; have r2 := Joins.cell_of_block j3.c.b2 0; have r3 := Joins.cell_of_block j3.c.b3 0; have r10 := Joins.cell_of_block j3.c.b1 0; have r11 := Joins.cell_of_block j3.c.b1 1; have rv0 := Joins.unfrozen_of_block j3.c.b1 0; have rv1 := Joins.unfrozen_of_block j3.c.b1 1; simp [hfa] at r0 r2 r3 r10 r11; clear j3)
            | (with_reducible refine (TRJ.out _ J2.out).mono ?_; rintro e w3 ⟨rfl, j3⟩; have J3 := Lib.hid j3; have r0 := Joins.cell_of_block j3.c.b0 0; have r2 := Joins.cell_of_block j3.c.b2 0; have r3 := Joins.cell_of_block j3.c.b3 0; have r10 := Joins.cell_of_block j3.c.b1 0; have r11 := Joins.cell_of_block j3.c.b1 1; have rv0 := Joins.unfrozen_of_block j3.c.b1 0; have rv1 := Joins.unfrozen_of_block j3.c.b1 1; simp [hfa] at r0 r2 r3 r10 r11; clear j3)))
      all_goals go_wp2_with fail
      all_goals first
        | (refine bodyPost_ret_by (v := .agg #[.string ⟨(calledL X.data.toList).toArray⟩, .string U]) (results_cell_row rfl _ _ (w.heap.size + 1) _ #[.string ⟨(calledL X.data.toList).toArray⟩, .string U] _ _ rfl (Joins.block_setCell (Joins.block_setCell J3.out.c.b1 _) _) Tryz.underlying32 rfl infoBox) rfl ?_
           exact ⟨by rw [HE.out.1, HE.out.2], (J3.out.b.setCell (p := ⟨w.heap.size + 1, 0, none⟩) (by show w.heap.size ≤ w.heap.size + 1; omega) _).setCell (p := ⟨w.heap.size + 1, 1, none⟩) (by show w.heap.size ≤ w.heap.size + 1; omega) _⟩)
        | (refine bodyPost_ret_by (v := .agg #[.string ⟨(calledL X.data.toList).toArray⟩, .string U]) (results_cell_row rfl _ _ (w.heap.size + 1) _ #[.string ⟨(calledL X.data.toList).toArray⟩, .string U] _ _ rfl (Joins.block_setCell (Joins.block_setCell J2.out.c.b1 _) _) Tryz.underlying32 rfl infoBox) rfl ?_
           exact ⟨by rw [HE.out.1, HE.out.2], (J2.out.b.setCell (p := ⟨w.heap.size + 1, 0, none⟩) (by show w.heap.size ≤ w.heap.size + 1; omega) _).setCell (p := ⟨w.heap.size + 1, 1, none⟩) (by show w.heap.size ≤ w.heap.size + 1; omega) _⟩)
    · have hzt : st.z = (t : Int) := by rw [htz, if_neg hz]; omega
      rw [hzt] at c3 hz
      clear htz hXd hYd hXz hYz hU hia hiz
      have HC2 := HC1
      have J0 : BxJ w s st w1 := ⟨HC1.out, GL.out.below HB1.out, HB1.out⟩
      have CLJ : Hid (∀ W, BxJ w s st W → Calls Tryz.prog 44 #[.string X] W fun e w' => e = .returned (.string ⟨(calledL X.data.toList).toArray⟩) ∧ BxJ w s st w') := Lib.hid fun W h => (CL.out W h.g).mono (by rintro e w' ⟨rfl, b⟩; exact ⟨rfl, h.below b⟩)
      have TRJ : Hid (∀ W, BxJ w s st W → Calls Tryz.prog 43 #[.string Y, .string (⟨#[32, 9, 10, 13]⟩ : ByteArray)] W fun e w' => e = .returned (.string U) ∧ BxJ w s st w') := Lib.hid fun W h => (TR.out W).mono (by rintro e w' ⟨rfl, b⟩; exact ⟨rfl, h.below b⟩)
      have HJ := Lib.hid J0.draw
      clear J0
      go_wp2_with fail
      have hw1 : IntKind.i64.wrap ((f : Int) + 1) = (f : Int) + 1 := by rw [IntWalk.i64_left, IntWalk.wrap64_in _ (by omega)]
      go_region_held3 (fun w' => w'.cell? ⟨w.heap.size, 0, none⟩ = some (.string s) ∧ w'.cell? ⟨w.heap.size + 1 + 1, 0, none⟩ = some (.int .i64 (f : Int)) ∧ w'.cell? ⟨w.heap.size + 1 + 1 + 1, 0, none⟩ = some (.int .i64 (t : Int))) (go_keep) (first
        | (go_at_call 44; first
            | (with_reducible refine (CLJ.out _ HJ.out).mono ?_; rintro e w2 ⟨rfl, j2⟩; have J2 := Lib.hid j2; have q0 := Joins.cell_of_block j2.c.b0 0; have q2 := Joins.cell_of_block j2.c.b2 0; have q3 := Joins.cell_of_block j2.c.b3 0; have q10 := Joins.cell_of_block j2.c.b1 0; have q11 := Joins.cell_of_block j2.c.b1 1; have qv0 := Joins.unfrozen_of_block j2.c.b1 0; have qv1 := Joins.unfrozen_of_block j2.c.b1 1; simp [hfa, hzt] at q0 q2 q3 q10 q11; clear j2)
            | (with_reducible refine (CLJ.out _ J3.out).mono ?_; rintro e w2 ⟨rfl, j2⟩; have J2 := Lib.hid j2; have q0 := Joins.cell_of_block j2.c.b0 0; have q2 := Joins.cell_of_block j2.c.b2 0; have q3 := Joins.cell_of_block j2.c.b3 0; have q10 := Joins.cell_of_block j2.c.b1 0; have q11 := Joins.cell_of_block j2.c.b1 1; have qv0 := Joins.unfrozen_of_block j2.c.b1 0; have qv1 := Joins.unfrozen_of_block j2.c.b1 1; simp [hfa, hzt] at q0 q2 q3 q10 q11; clear j2))
        | (go_at_call 43; first
            | (with_reducible refine (TRJ.out _ HJ.out).mono ?_; rintro e w3 ⟨rfl, j3⟩; have J3 := Lib.hid j3; have r0 := Joins.cell_of_block j3.c.b0 0; have r2 := Joins.cell_of_block j3.c.b2 0; have r3 := Joins.cell_of_block j3.c.b3 0; have r10 := Joins.cell_of_block j3.c.b1 0; have r11 := Joins.cell_of_block j3.c.b1 1; have rv0 := Joins.unfrozen_of_block j3.c.b1 0; have rv1 := Joins.unfrozen_of_block j3.c.b1 1; simp [hfa, hzt] at r0 r2 r3 r10 r11; clear j3)
            | (with_reducible refine (TRJ.out _ J2.out).mono ?_; rintro e w3 ⟨rfl, j3⟩; have J3 := Lib.hid j3; have r0 := Joins.cell_of_block j3.c.b0 0; have r2 := Joins.cell_of_block j3.c.b2 0; have r3 := Joins.cell_of_block j3.c.b3 0; have r10 := Joins.cell_of_block j3.c.b1 0; have r11 := Joins.cell_of_block j3.c.b1 1; have rv0 := Joins.unfrozen_of_block j3.c.b1 0; have rv1 := Joins.unfrozen_of_block j3.c.b1 1; simp [hfa, hzt] at r0 r2 r3 r10 r11; clear j3)))
      all_goals go_wp2_with fail
      all_goals first
        | (refine bodyPost_ret_by (v := .agg #[.string ⟨(calledL X.data.toList).toArray⟩, .string U]) (results_cell_row rfl _ _ (w.heap.size + 1) _ #[.string ⟨(calledL X.data.toList).toArray⟩, .string U] _ _ rfl (Joins.block_setCell (Joins.block_setCell J3.out.c.b1 _) _) Tryz.underlying32 rfl infoBox) rfl ?_
           exact ⟨by rw [HE.out.1, HE.out.2], (J3.out.b.setCell (p := ⟨w.heap.size + 1, 0, none⟩) (by show w.heap.size ≤ w.heap.size + 1; omega) _).setCell (p := ⟨w.heap.size + 1, 1, none⟩) (by show w.heap.size ≤ w.heap.size + 1; omega) _⟩)
        | (refine bodyPost_ret_by (v := .agg #[.string ⟨(calledL X.data.toList).toArray⟩, .string U]) (results_cell_row rfl _ _ (w.heap.size + 1) _ #[.string ⟨(calledL X.data.toList).toArray⟩, .string U] _ _ rfl (Joins.block_setCell (Joins.block_setCell J2.out.c.b1 _) _) Tryz.underlying32 rfl infoBox) rfl ?_
           exact ⟨by rw [HE.out.1, HE.out.2], (J2.out.b.setCell (p := ⟨w.heap.size + 1, 0, none⟩) (by show w.heap.size ≤ w.heap.size + 1; omega) _).setCell (p := ⟨w.heap.size + 1, 1, none⟩) (by show w.heap.size ≤ w.heap.size + 1; omega) _⟩)
end Go.Proofs.YtpcncpegbboljaaGreatDoor.Addr
namespace Go.Proofs.YtpcncpegbboljaaGreatDoor.Addr
open Go.RowKit Go.Lib Go.Proofs.YtpcncpegbboljaaGreatDoor Go.Proofs.YtpcncpegbboljaaGreatDoor.Pure Go.Proofs.YtpcncpegbboljaaGreatDoorW.PrintWords
set_option linter.unusedVariables false
set_option linter.unusedSimpArgs false
theorem infoBoxes : (Tryz.prog.info? 32).map (fun i => (i.zero, i.size, i.bytes)) = some (some (.agg #[.string ⟨#[]⟩, .string ⟨#[]⟩]), 2, 32) := by kernel_rfl
def mailL (t : ByteArray) : List UInt8 := if goodL (boxM t) = true then boxM t else []
def parseStep (acc : List (List UInt8 × List UInt8)) (t : ByteArray) : List (List UInt8 × List UInt8) :=
  if boxN t = [] ∧ mailL t = [] then acc else acc ++ [(boxN t, mailL t)]
def parseL (s : ByteArray) : List (List UInt8 × List UInt8) := (textsL s).foldl parseStep []
def boxesV (l : List (List UInt8 × List UInt8)) : List Value := l.flatMap fun x => [.string ⟨x.1.toArray⟩, .string ⟨x.2.toArray⟩]
theorem own_below {w w' : World} {B n size : Nat} {e : TypeId} {v : Value} {xs : List Value} (h : w.ownsRow B e size v n xs) (hb : Below w.heap.size w w') : w'.ownsRow B e size v n xs := by
  have key : ∀ k x, w.heap[k]? = some x → w'.heap[k]? = some x := fun k x hk => (hb.block k (Array.getElem?_eq_some_iff.1 hk).1).trans hk
  exact ⟨h.1, h.2.elim Or.inl fun ⟨g, cap, cur, hv, hg, hh, r⟩ => Or.inr ⟨g, cap, cur, hv, hg, key _ _ hh, r⟩⟩
theorem good_ne {l : List UInt8} (h : goodL l = true) : l ≠ [] := by
  rintro rfl
  exact absurd h (by decide)
theorem boxesV_snoc (l : List (List UInt8 × List UInt8)) (x : List UInt8 × List UInt8) : boxesV (l ++ [x]) = boxesV l ++ [.string ⟨x.1.toArray⟩, .string ⟨x.2.toArray⟩] := by
  unfold boxesV; simp
theorem foldA_inv {σ : Type} (s : ByteArray) (step : σ → Nat → Nat → Bool → σ) (P : Nat → σ → Prop)
    (hstep : ∀ (st : σ) (i : Nat) (c : UInt8) (r : List UInt8), s.data.toList.drop i = c :: r → i + (itemL (c :: r)).1 ≤ s.size → 1 ≤ (itemL (c :: r)).1 → P i st → P (i + (itemL (c :: r)).1) (step st i (itemL (c :: r)).1 (itemL (c :: r)).2)) :
    ∀ (n i : Nat) (st : σ), s.size - i ≤ n → i ≤ s.size → P i st → P s.size (foldA step i (s.data.toList.drop i) st) := by
  have hl : s.data.toList.length = s.size := by simp
  intro n
  induction n with
  | zero =>
    intro i st h1 h2 h
    rw [List.drop_eq_nil_of_le (by rw [hl]; omega), foldA_nil]
    have e : i = s.size := by omega
    rw [← e]; exact h
  | succ n ih =>
    intro i st h1 h2 h
    cases hd : s.data.toList.drop i with
    | nil =>
      have := at_end hd
      have e : i = s.size := by omega
      rw [foldA_nil, ← e]; exact h
    | cons c r =>
      have hz := congrArg List.length hd
      rw [List.length_drop, hl, List.length_cons] at hz
      have hit := itemL_len c r
      rw [foldA_cons _ _ _ _ (by simp), ← hd, List.drop_drop, hd]
      have hn : i + (itemL (c :: r)).1 ≤ s.size := by omega
      exact ih _ _ (by omega) hn (hstep st i c r hd hn hit.1 h)
theorem boxS_len (s : ByteArray) : (boxS s).rest.length ≤ s.size ∧ (boxS s).remark.length ≤ s.size := by
  have h := foldA_inv s (bxStep s) (fun i st => st.rest.length ≤ i ∧ st.remark.length ≤ i) ?_ s.size 0 ⟨-1, -1, [], false, []⟩ (by omega) (by omega) ⟨by simp, by simp⟩
  · exact h
  · intro st i c r hd hn h1 ⟨p1, p2⟩
    unfold bxStep
    rw [hd]
    have ht : ((c :: r).take (itemL (c :: r)).1).length ≤ (itemL (c :: r)).1 := by rw [List.length_take]; omega
    have hi := innerL_len ((c :: r).take (itemL (c :: r)).1) (itemL (c :: r)).2
    simp only
    split
    · exact ⟨by show (st.rest ++ List.take (itemL (c :: r)).1 (c :: r)).length ≤ _; rw [List.length_append]; omega, by show st.remark.length ≤ _; omega⟩
    · split
      · exact ⟨by show (st.rest ++ List.take (itemL (c :: r)).1 (c :: r)).length ≤ _; rw [List.length_append]; omega, by show st.remark.length ≤ _; omega⟩
      · split
        · split
          · exact ⟨by omega, by omega⟩
          · exact ⟨by show st.rest.length ≤ _; omega, by show (innerL _ _).length ≤ _; omega⟩
        · exact ⟨by show (st.rest ++ List.take (itemL (c :: r)).1 (c :: r)).length ≤ _; rw [List.length_append]; omega, by show st.remark.length ≤ _; omega⟩
theorem boxM_len (s : ByteArray) : (boxM s).length ≤ s.size := by
  have hl : s.data.toList.length = s.size := by simp
  unfold boxM
  split
  · exact Nat.le_trans (trimW_le _) (boxS_len s).1
  · refine Nat.le_trans (trimW_le _) ?_
    rw [List.length_drop, List.length_take]; omega
theorem textsS_len (s : ByteArray) : (textsS s).from_ ≤ s.size ∧ (textsS s).l.length ≤ s.size ∧ ∀ t ∈ (textsS s).l, t.size ≤ s.size := by
  have h := foldA_inv s (txStep s) (fun i st => st.from_ ≤ i ∧ st.l.length ≤ i ∧ ∀ t ∈ st.l, t.size ≤ s.size) ?_ s.size 0 ⟨[], 0, false⟩ (by omega) (by omega) ⟨by simp, by simp, by simp⟩
  · exact h
  · intro st i c r hd hn h1 ⟨p1, p2, p3⟩
    unfold txStep
    rw [hd]
    simp only
    split
    · exact ⟨by show st.from_ ≤ _; omega, by show st.l.length ≤ _; omega, p3⟩
    · split
      · exact ⟨by show st.from_ ≤ _; omega, by show st.l.length ≤ _; omega, p3⟩
      · split
        · refine ⟨by show i + 1 ≤ _; omega, by show (st.l ++ [_]).length ≤ _; simp; omega, ?_⟩
          intro t ht
          rcases List.mem_append.1 ht with ht | ht
          · exact p3 t ht
          · simp at ht
            rw [ht]; simp; omega
        · exact ⟨by omega, by omega, p3⟩
theorem textsL_len (s : ByteArray) : (textsL s).length ≤ s.size + 1 ∧ ∀ t ∈ textsL s, t.size ≤ s.size := by
  obtain ⟨h1, h2, h3⟩ := textsS_len s
  unfold textsL
  refine ⟨by simp; omega, ?_⟩
  intro t ht
  rcases List.mem_append.1 ht with ht | ht
  · exact h3 t ht
  · simp at ht
    rw [ht]; simp
set_option maxRecDepth 100000 in
set_option maxHeartbeats 8000000 in
theorem Parse_c (s : ByteArray) (hs : s.size ≤ 1100000) (w : World) (hGl : Glob w) :
    Calls Tryz.prog 11 #[.string s] w fun e w' => ∃ v, e = .returned v ∧ w'.ownsRow w.heap.size 32 2 v (parseL s).length (boxesV (parseL s)) ∧ Below w.heap.size w w' := by
  have TX := Lib.hid (fun W => texts_c s (by omega) W)
  have hsl : ∀ t ∈ textsL s, t.size ≤ 1100000 := fun t h => Nat.le_trans ((textsL_len s).2 t h) hs
  have hln : (textsL s).length ≤ 1100001 := Nat.le_trans (textsL_len s).1 (by omega)
  have hpos : 0 < (textsL s).length := by unfold textsL; simp
  have hp : parseL s = (textsL s).foldl parseStep [] := rfl
  generalize textsL s = xs at *
  have HP := Lib.hid hp; have GL := Lib.hid hGl; have HSL := Lib.hid hsl
  clear hp hGl hsl
  go_enter Tryz.func11, Tryz.ntmps11
  go_wp2_with (go_at_call 19; refine (TX.out _).mono ?_; rintro e w1 ⟨v, rfl, hown, hb⟩; obtain ⟨g, cap, rfl⟩ := Joins.ownsRow_form hown hpos; have HO := Lib.hid hown; have HB := Lib.hid hb; clear hown hb)
  go_loopw [3, 10] (fun lv iv wr => ∃ (i : Nat) (acc : List (List UInt8 × List UInt8)), iv = .int .i64 (i : Int) ∧ i ≤ xs.length ∧ acc.length ≤ i ∧ (xs.drop i).foldl parseStep acc = parseL s ∧ wr.ownsRow w1.heap.size 32 2 lv acc.length (boxesV acc) ∧ Below w1.heap.size w1 wr) (fun _ iv _ => xs.length - (RowKit.intOf iv).toNat)
  case atStart => exact ⟨0, [], rfl, Nat.zero_le _, Nat.zero_le _, by rw [HP.out]; rfl, World.ownsRow_nil _ _ _ _, Below.refl _ _⟩
  case round =>
    obtain ⟨i, acc, rfl, hi, hal, he, hown, hb⟩ := hrel
    have HE := Lib.hid he; have HN := Lib.hid hown; have HB2 := Lib.hid hb
    clear he hown hb
    by_cases hlt : i < xs.length
    · have hlti : (i : Int) < (xs.length : Int) := by omega
      obtain ⟨t, ht⟩ : ∃ t, xs[i] = t := ⟨_, rfl⟩
      have hm : t ∈ xs := ht ▸ List.getElem_mem hlt
      have BX := Lib.hid (fun W h => box_c t (HSL.out t hm) W h)
      obtain ⟨N, hN⟩ : ∃ N : ByteArray, (⟨(boxN t).toArray⟩ : ByteArray) = N := ⟨_, rfl⟩
      obtain ⟨M, hM⟩ : ∃ M : ByteArray, (⟨(boxM t).toArray⟩ : ByteArray) = M := ⟨_, rfl⟩
      rw [hN, hM] at BX
      have hMd : M.data.toList = boxM t := by rw [← hM]
      have hNd : N.data.toList = boxN t := by rw [← hN]
      have hMz : M.size ≤ 11000000 := by
        have h1 := boxM_len t
        have h2 := HSL.out t hm
        rw [← hMd] at h1
        have h3 : M.data.toList.length = M.size := by simp
        omega
      have GD := Lib.hid (fun W => Good_c M hMz W)
      rw [hMd] at GD
      have hcell : wr.cell? ⟨g, i, none⟩ = some (.string t) := by
        have h1 := HO.out.cellAt i (by omega)
        rw [List.getElem?_map, List.getElem?_eq_getElem hlt, ht] at h1
        exact (HB2.out.cell (World.block_lt_of_cell? _ _ h1)).trans h1
      have hstep : (xs.drop (i + 1)).foldl parseStep (parseStep acc t) = parseL s := by
        rw [← HE.out, List.drop_eq_getElem_cons hlt, List.foldl_cons, ht]
      have HST := Lib.hid hstep
      have hps : parseStep acc t = if boxN t = [] ∧ mailL t = [] then acc else acc ++ [(boxN t, mailL t)] := rfl
      have hml : mailL t = if goodL (boxM t) = true then boxM t else [] := rfl
      have HPS := Lib.hid hps; have HML := Lib.hid hml; have HMD := Lib.hid hMd; have HND := Lib.hid hNd; have HT := Lib.hid ht
      have hgn := fun h => good_ne (l := boxM t) h
      have hMe : boxM t ≠ [] → ¬ M = ⟨#[]⟩ := fun h e => h (by rw [← hMd, e])
      have HM := Lib.hid hM; have HNN := Lib.hid hN
      clear hstep hps hml hMd hNd hM hN hm ht hMz
      generalize goodL (boxM t) = q at *
      cases q with
      | true =>
        have hMe := hMe (hgn rfl)
        have hMt : ¬ M.toList = [] := fun h => hMe (ba_ext (by rw [← toList_eq, h]))
        have hNt : N.toList = [] ∨ ¬ N.toList = [] := Classical.em _
        have hPS : Hid (parseStep acc t = acc ++ [(boxN t, boxM t)]) := Lib.hid (by rw [HPS.out, HML.out, if_pos rfl, if_neg (fun h => hgn rfl h.2)])
        obtain ⟨i0, hi0, hz0, hz1, hz2⟩ := info_parts infoBoxes
        have HI0 := Lib.hid hi0
        clear hgn
        go_wp2_with (first
          | (go_at_call 20; refine (BX.out _ (GL.out.below (HB.out.trans (HB2.out.mono HB.out.size)))).mono ?_; rintro e w2 ⟨rfl, b2⟩; have B2 := Lib.hid b2; clear b2)
          | (go_at_call 13; refine (GD.out _).mono ?_; rintro e w3 ⟨rfl, b3⟩; have k3 := (b3.block w2.heap.size (by simp)).trans (heap_alloc_new w2 _); have k0 := Joins.cell_of_block k3 0; have k1 := Joins.cell_of_block k3 1; have k2 := Joins.unfrozen_of_block k3 0; have k4 := Joins.unfrozen_of_block k3 1; simp at k0 k1; have K3 := Lib.hid k3; have B3 := Lib.hid ((B2.out.trans (((Below.refl _ w2).alloc B2.out.size _))).trans (b3.mono (by have := B2.out.size; simp; omega))); clear b3 k3)
          | (at_builtin; refine wpList_append_own _ rfl (.tmp 24) (.tmp 26) 25 rfl w1.heap.size 32 i0 _ 2 32 Tryz.underlying25 HI0.out hz0 hz1 hz2 rfl (by decide) _ _ _ rfl ((own_below HN.out B3.out).alloc _) ⟨w3.heap.size, 0, none⟩ 1 1 [.string N, .string M] rfl rfl ?c1 ?c2 ?c3 ?c4 ?c5 ?_))
        case c1 =>
          intro j u hj
          match j, hj with
          | 0, hj =>
            obtain rfl : Value.string N = u := Option.some.inj hj
            rw [show (⟨w3.heap.size, 0, none⟩ : Addr).add 0 = ⟨w3.heap.size, 0, none⟩ from by unfold Addr.add; simp]
            simp
          | 1, hj =>
            obtain rfl : Value.string M = u := Option.some.inj hj
            rw [show (⟨w3.heap.size, 0, none⟩ : Addr).add 1 = ⟨w3.heap.size, 1, none⟩ from by unfold Addr.add; simp]
            simp
          | j + 2, hj => exact absurd hj (by simp)
        case c2 => intro u hu; simp at hu; rcases hu with rfl | rfl <;> rfl
        case c3 => simp only [maxLen]; omega
        case c4 => omega
        case c5 => have h1 := HB2.out.size; have h2 := B3.out.size; simp; omega
        intro v' w4 hown4 hgr4 _
        have hb4 : Below w1.heap.size w1 w4 := (((HB2.out.trans (B3.out.mono HB2.out.size)).alloc (by have h1 := HB2.out.size; have h2 := B3.out.size; omega) _).grown hgr4 (by have h1 := HB2.out.size; have h2 := B3.out.size; simp; omega) (own_base HN.out))
        have H4 := Lib.hid hown4; have B4 := Lib.hid hb4
        clear hown4 hgr4 hb4
        go_wp2_with fail
        go_roundw
        case rel => exact ⟨i + 1, _, by go_num, by omega, by rw [hPS.out]; simp; omega, HST.out, by rw [hPS.out, boxesV_snoc, List.length_append, HNN.out, HM.out]; exact H4.out, B4.out⟩
        case measure => simp [RowKit.intOf]; omega
      | false =>
        have hml0 : Hid (mailL t = []) := Lib.hid (by rw [HML.out, if_neg (by decide)])
        obtain ⟨i0, hi0, hz0, hz1, hz2⟩ := info_parts infoBoxes
        have HI0 := Lib.hid hi0
        have HEM : Hid ((⟨#[]⟩ : ByteArray) = ⟨(mailL t).toArray⟩) := Lib.hid (by rw [hml0.out])
        clear hgn hMe
        by_cases hNt : N.toList = []
        · have hPS : Hid (parseStep acc t = acc) := Lib.hid (by rw [HPS.out, if_pos ⟨by rw [← HND.out, ← toList_eq, hNt], hml0.out⟩])
          go_wp2_with (first
            | (go_at_call 20; refine (BX.out _ (GL.out.below (HB.out.trans (HB2.out.mono HB.out.size)))).mono ?_; rintro e w2 ⟨rfl, b2⟩; have B2 := Lib.hid b2; clear b2)
            | (go_at_call 13; refine (GD.out _).mono ?_; rintro e w3 ⟨rfl, b3⟩; have k3 := (b3.block w2.heap.size (by simp)).trans (heap_alloc_new w2 _); have k0 := Joins.cell_of_block k3 0; have k1 := Joins.cell_of_block k3 1; have k2 := Joins.unfrozen_of_block k3 0; have k4 := Joins.unfrozen_of_block k3 1; simp at k0 k1; have K3 := Lib.hid k3; have b33 := (B2.out.trans (((Below.refl _ w2).alloc B2.out.size _))).trans (b3.mono (by have := B2.out.size; simp; omega)); have B3 := Lib.hid b33; have H3 := Lib.hid (ownsRow_setCell_other (a := ⟨w2.heap.size, 1, none⟩) (own_below HN.out b33) (fun e => by have h1 := (HN.out.lt _ e).2; have h2 := B2.out.size; simp only at h1; omega) (.string ⟨#[]⟩)); have B5 := Lib.hid ((HB2.out.trans (b33.mono HB2.out.size)).setCell (p := ⟨w2.heap.size, 1, none⟩) (by have := B2.out.size; have := HB2.out.size; show w1.heap.size ≤ w2.heap.size; omega) (.string ⟨#[]⟩)); clear b3 k3 b33))
          go_roundw
          case rel => exact ⟨i + 1, acc, by go_num, by omega, by omega, by rw [← HST.out, hPS.out], H3.out, B5.out⟩
          case measure => simp [RowKit.intOf]; omega
        · have hPS : Hid (parseStep acc t = acc ++ [(boxN t, mailL t)]) := Lib.hid (by rw [HPS.out, if_neg (fun h => hNt (by rw [toList_eq, HND.out, h.1]))])
          go_wp2_with (first
            | (go_at_call 20; refine (BX.out _ (GL.out.below (HB.out.trans (HB2.out.mono HB.out.size)))).mono ?_; rintro e w2 ⟨rfl, b2⟩; have B2 := Lib.hid b2; clear b2)
            | (go_at_call 13; refine (GD.out _).mono ?_; rintro e w3 ⟨rfl, b3⟩; have k3 := (b3.block w2.heap.size (by simp)).trans (heap_alloc_new w2 _); have k0 := Joins.cell_of_block k3 0; have k1 := Joins.cell_of_block k3 1; have k2 := Joins.unfrozen_of_block k3 0; have k4 := Joins.unfrozen_of_block k3 1; simp at k0 k1; have K3 := Lib.hid k3; have b33 := (B2.out.trans (((Below.refl _ w2).alloc B2.out.size _))).trans (b3.mono (by have := B2.out.size; simp; omega)); have B3 := Lib.hid b33; have H3 := Lib.hid (ownsRow_setCell_other (a := ⟨w2.heap.size, 1, none⟩) (own_below HN.out b33) (fun e => by have h1 := (HN.out.lt _ e).2; have h2 := B2.out.size; simp only at h1; omega) (.string ⟨#[]⟩)); have B5 := Lib.hid ((HB2.out.trans (b33.mono HB2.out.size)).setCell (p := ⟨w2.heap.size, 1, none⟩) (by have := B2.out.size; have := HB2.out.size; show w1.heap.size ≤ w2.heap.size; omega) (.string ⟨#[]⟩)); clear b3 k3 b33)
            | (at_builtin; refine wpList_append_own _ rfl (.tmp 24) (.tmp 26) 25 rfl w1.heap.size 32 i0 _ 2 32 Tryz.underlying25 HI0.out hz0 hz1 hz2 rfl (by decide) _ _ _ rfl (H3.out.alloc _) ⟨w3.heap.size, 0, none⟩ 1 1 [.string N, .string ⟨#[]⟩] rfl rfl ?c1 ?c2 ?c3 ?c4 ?c5 ?_))
          case c1 =>
            intro j u hj
            match j, hj with
            | 0, hj =>
              obtain rfl : Value.string N = u := Option.some.inj hj
              rw [show (⟨w3.heap.size, 0, none⟩ : Addr).add 0 = ⟨w3.heap.size, 0, none⟩ from by unfold Addr.add; simp]
              rw [World.cell?_alloc_at (hn := by simp)]; rfl
            | 1, hj =>
              obtain rfl : Value.string (⟨#[]⟩ : ByteArray) = u := Option.some.inj hj
              rw [show (⟨w3.heap.size, 0, none⟩ : Addr).add 1 = ⟨w3.heap.size, 1, none⟩ from by unfold Addr.add; simp]
              rw [World.cell?_alloc_at (hn := by simp)]; rfl
            | j + 2, hj => exact absurd hj (by simp)
          case c2 => intro u hu; simp at hu; rcases hu with rfl | rfl <;> rfl
          case c3 => simp only [maxLen]; omega
          case c4 => omega
          case c5 => have h1 := HB2.out.size; have h2 := B3.out.size; simp; omega
          intro v' w4 hown4 hgr4 _
          have hb4 : Below w1.heap.size w1 w4 := ((B5.out.alloc (by have h2 := B5.out.size; exact h2) _).grown hgr4 (by have h2 := B5.out.size; simp at h2 ⊢; omega) (own_base HN.out))
          have H4 := Lib.hid hown4; have B4 := Lib.hid hb4
          clear hown4 hgr4 hb4
          go_wp2_with fail
          go_roundw
          case rel => exact ⟨i + 1, _, by go_num, by omega, by rw [hPS.out]; simp; omega, HST.out, by rw [hPS.out, boxesV_snoc, List.length_append, HNN.out, ← HEM.out]; exact H4.out, B4.out⟩
          case measure => simp [RowKit.intOf]; omega
    · have hlti : ¬ (i : Int) < (xs.length : Int) := by omega
      have he := HE.out
      rw [List.drop_eq_nil_of_le (by omega)] at he
      have HE2 : Hid (acc = parseL s) := Lib.hid he
      clear he
      go_wp2
      go_ret
      refine ⟨_, rfl, ?_, HB.out.trans (HB2.out.mono HB.out.size)⟩
      rw [← HE2.out]
      exact Joins.ownsRow_le HN.out HB.out.size
end Go.Proofs.YtpcncpegbboljaaGreatDoor.Addr
