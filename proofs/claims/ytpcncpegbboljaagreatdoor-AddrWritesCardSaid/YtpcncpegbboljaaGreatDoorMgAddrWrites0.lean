/- Parts of the proof of the law AddrWrites, in one text: WWords, WLast, WApart, WFoot, WKept, WShare, WN, WEqStruct, WRepsOne, WInv, WInvWords, WMore, PS, Row, Low, Shelf, Std, Utf, Any, Bld, Chars, Glob05, Ev, AddrA, A0, A1. -/
import Derived.Below
import Derived.Deep.Draws
import Derived.Deep.AppendLies
import Derived.Maps.AppendAt
import Derived.OwnWalk
import Derived.Laws.BytesArg
import Derived.Laws.MakeOwn
import Derived.Laws.OwnMore
import Derived.Deep.OwnRows
import Derived.Tactics
import Derived.Lib.ConvBytes
import Derived.Laws.Slices
import Derived.WalkKit
import Derived.KernelRfl
import Derived.RowKit3
import Derived.Deep.LoopGhost
import Derived.Deep.QuietTactic
import Derived.BigQuiet
import Derived.WideLaws
import Derived.Deep.DeepCutAuto
import Derived.Deep.CutBlock
import Derived.Deep.RegionHeld3
import Derived.Laws.Rows
import Derived.Lib.AppendStr
import Derived.ArgAppend
import Derived.Laws.IdiomCopy
import Derived.RowKit
import Derived.OrdersHeld
import Derived.Laws.BitsLemmas
import Derived.Laws.StructEq
import Derived.Test.YtpcncpegbboljaaGreatDoorProg
import Derived.Laws.IdiomStrings
import Derived.Lib.UnsafeStr
import Derived.Lib.Builder
import Derived.WalkSpells
import Derived.LoopTactic
import Derived.Lib.Hide
import Derived.Shelf.Strings.Builder1
import Derived.Shelf.Strings.Builder2
import Derived.Shelf.Strings.OnBuilder
import Derived.Shelf.Strings.Trim
import Derived.Shelf.Small.Utf8
import Derived.Shelf.Small.Strs
import Derived.Shelf.Small.Wraps
import Derived.Shelf.Strings.BuilderF
import Derived.Shelf.Strings.BuilderK
import Derived.Shelf.Strings.BuilderRune
import Derived.Shelf.Utf8.AppendRune
import Derived.Shelf.Utf8.AppendRunePlain
import Derived.Shelf.Utf8.RuneCount
import Derived.Shelf.Strings.Builder2Cap
import Derived.Shelf.Strings.Search1
import Derived.Shelf.Strings.Search2
import Derived.Shelf.Strings.Search3
import Derived.Shelf.Strings.Cut
import Derived.Shelf.Strings.Count
import Derived.Shelf.LaysM
import Derived.Shelf.Strings.Shaped
import Derived.Shelf.GgClosure.StringsIndexFunc
import Derived.Ground.GgwProg
import Derived.Shelf.GgClosure.StringsIndexFuncTop
import Derived.Shelf.GgClosure.StringsRunes
import Derived.Shelf.Strings.Prefix
import Derived.Shelf.Strings.Split
import Derived.Shelf.Unicode.Decode
import Derived.Shelf.Strings.Runes
import Derived.Shelf.Strings.RuneCount
import Derived.Shelf.Strings.IndexAny
import Derived.Shelf.Strings.AsciiSet
import Derived.Shelf.Strings.IndexAnyAll
import Derived.Shelf.Bits.Mul64
import Derived.Shelf.Strings.Repeat
import Derived.Shelf.Unicode.DecodeSlow
import Derived.Shelf.Unicode.DecodeAny
import Derived.Shelf.Unicode.DecodeLast
import Derived.Shelf.Strings.FuncGrows
import Derived.Shelf.Strings.BuilderCap
import Derived.Shelf.Strings.SlTrimAscii
import Derived.Lib.IndexLaws
import Derived.IntWalk
import Derived.Lib.RuneBytes
import Derived.Lib.OthersKept
import Derived.Laws.RangeAny
import Derived.WalkMore
import Derived.BigCall
import Derived.Lib.LaidTab
import Derived.WalkSmall
import Derived.Laws.BitsAllLaws
import Derived.Shelf.Strings.MapGrows
set_option linter.unusedVariables false
set_option linter.unusedSimpArgs false
set_option linter.unusedVariables false
set_option linter.unusedSimpArgs false
namespace Go.Proofs.YtpcncpegbboljaaGreatDoorW.PrintWords
open Go.RowKit
structure Aside0 (p : Prop) : Prop where mk :: (out : p)
structure Drawn0 (w w' : World) : Prop where mk :: (out : ∃ n, w' = w.drewN n)
theorem Drawn0.refl (w : World) : Drawn0 w w := ⟨⟨0, rfl⟩⟩
theorem Drawn0.step {w w' : World} (h : Drawn0 w w') (n : Nat) : Drawn0 w (w'.drewN n) := by
  obtain ⟨m, rfl⟩ := h
  exact ⟨⟨m + n, World.drewN_drewN ..⟩⟩
theorem Drawn0.grown {w w' : World} (h : Drawn0 w w') : Grown w w' := by
  obtain ⟨n, rfl⟩ := h
  induction n with
  | zero => exact Grown.refl _
  | succ n ih => rw [← World.drew_drewN]; exact Grown.drew ih
theorem Drawn0.below {w w' : World} (h : Drawn0 w w') : Below w.heap.size w w' := by
  obtain ⟨n, rfl⟩ := h
  induction n with
  | zero => exact Below.refl _ _
  | succ n ih => rw [← World.drew_drewN]; exact ih.drew
def rd (xs : List Int) (i : Int) : Int := xs.getD i.toNat 0
def bt (s : ByteArray) (i : Int) : Int := if h : i.toNat < s.size then ((s[i.toNat]'h).toNat : Int) else 0
theorem bt_at (s : ByteArray) (i : Int) : ∀ h : i.toNat < s.size, ((s[i.toNat]'h).toNat : Int) = bt s i := fun h => by simp [bt, h]
theorem bt_range (s : ByteArray) (i : Int) : 0 ≤ bt s i ∧ bt s i ≤ 255 := by
  unfold bt
  split
  · rename_i h
    have := (s[i.toNat]'h).toNat_lt
    omega
  · omega
def nums (k : IntKind) (xs : List Int) : List Value := xs.map fun x => .int k x
theorem nums_append (k : IntKind) (xs ys : List Int) : nums k (xs ++ ys) = nums k xs ++ nums k ys := by simp [nums]
theorem below_alloc {w W : World} (h : Below w.heap.size w W) (o : Obj) : Below w.heap.size w (W.alloc o) := h.alloc h.size o
theorem below_drew {B : Nat} {w W : World} (h : Below B w W) : Below B w W.drew := ⟨h.os, h.tape, h.output, h.size, h.block⟩
theorem pw_below_drewN {B : Nat} {w W : World} (h : Below B w W) (n : Nat) : Below B w (W.drewN n) := ⟨h.os, h.tape, h.output, h.size, h.block⟩
theorem below_then {B : Nat} {w w1 w2 : World} (h : Below B w w1) (hB : B ≤ w1.heap.size) (k : Below w1.heap.size w1 w2) : Below B w w2 :=
  h.trans ⟨k.os, k.tape, k.output, k.size, fun i hi => k.block i (Nat.lt_of_lt_of_le hi hB)⟩
theorem grown_of_below {w w1 : World} (h : Below w.heap.size w w1) (row : Option Nat) : w.grownBy w1 row := ⟨h.os, h.tape, h.output, h.size, fun i hi _ => h.block i hi⟩
theorem pw_cell_below {w w1 : World} (h : Below w.heap.size w w1) {a : Addr} {v : Value} (hc : w.cell? a = some v) : w1.cell? a = some v := (h.cell (World.block_lt_of_cell? w a hc)).trans hc
def ReadsInt (w : World) (k : IntKind) (A : Option Addr) (n : Nat) (xs : List Int) : Prop :=
  xs.length = n ∧ n ≤ 9223372036854775807 ∧ (0 < n → ∃ ad, A = some ad ∧ ∀ j, j < n → w.cell? (ad.add j) = some (.int k (xs.getD j 0)))
theorem ReadsInt.below {w w1 : World} {k : IntKind} {A : Option Addr} {n : Nat} {xs : List Int} (h : ReadsInt w k A n xs) (hb : Below w.heap.size w w1) : ReadsInt w1 k A n xs :=
  ⟨h.1, h.2.1, fun hn => by
    obtain ⟨ad, e, hc⟩ := h.2.2 hn
    exact ⟨ad, e, fun j hj => pw_cell_below hb (hc j hj)⟩⟩
theorem own_nil (W : World) (base : Nat) (e : TypeId) (size : Nat) : W.ownsRow base e size (.slice none 0 0) 0 [] := ⟨by simp, .inl ⟨rfl, rfl⟩⟩
theorem own_base {w : World} {base : Nat} {e : TypeId} {size n : Nat} {v : Value} {xs : List Value} (h : w.ownsRow base e size v n xs) (k : Nat) (hk : v.ownBlock = some k) : base ≤ k := by
  rcases h.2 with ⟨rfl, _⟩ | ⟨g, cap, cur, rfl, hb, _⟩
  · simp [Value.ownBlock] at hk
  · have : g = k := by simpa [Value.ownBlock] using hk
    omega
theorem own_lt {w : World} {base : Nat} {e : TypeId} {size n : Nat} {v : Value} {xs : List Value} (h : w.ownsRow base e size v n xs) (k : Nat) (hk : v.ownBlock = some k) : k < w.heap.size := by
  rcases h.2 with ⟨rfl, _⟩ | ⟨g, cap, cur, rfl, hb, hh, _⟩
  · simp [Value.ownBlock] at hk
  · have : g = k := by simpa [Value.ownBlock] using hk
    subst this
    exact (Array.getElem?_eq_some_iff.1 hh).1
theorem pw_own_below {w w1 : World} {base : Nat} {e : TypeId} {size n : Nat} {v : Value} {xs : List Value} (h : w.ownsRow base e size v n xs) (hb : Below w.heap.size w w1) : w1.ownsRow base e size v n xs :=
  h.kept (grown_of_below hb none) (by cases v.ownBlock <;> simp)
theorem own_string {P : Program} {w : World} {base n : Nat} {e' src dst e : TypeId} {v : Value} {xs : List Int} (hs : P.underlying src = some (.slice e)) (he : P.underlying e = some (.int .u8)) (hd : P.underlying dst = some .string)
    (h : w.ownsRow base e' 1 v n (nums .u8 xs)) : (convert src dst v).run P w = .ok (.string (strOfNums xs)) w := by
  have hl : xs.length = n := by have := h.1; simp [nums] at this; exact this
  rcases h.2 with ⟨rfl, rfl⟩ | ⟨g, cap, cur, rfl, _⟩
  · obtain rfl : xs = [] := List.eq_nil_of_length_eq_zero hl
    exact run_convert_bytes_nil w src e hs he 0 0 dst hd
  · refine run_convert_bytes_arg w src e hs he g 0 n cap xs hl (fun i hi => ?_) dst hd
    have hc := h.cells (g := g) rfl i (.int .u8 (xs.getD i 0)) (by simp [nums, List.getElem?_eq_getElem (show i < xs.length by omega), List.getD_eq_getElem?_getD])
    have ha : (⟨g, 0, none⟩ : Addr).add i = ⟨g, 0 + i, none⟩ := by unfold Addr.add; split <;> simp_all
    rwa [ha] at hc
section
variable {P : Program} {ops : Array Oper} {rest : List Oper} {o : Oper} {a : Act} {Q : Exit → Act → World → Prop}
end
section
variable {P : Program}
end
section
variable {P : Program} {ops : Array Oper} {rest : List Oper} {o : Oper} {a : Act} {Q : Exit → Act → World → Prop}
end
def bytesOf (s : ByteArray) : List Int := s.data.toList.map fun b => (b.toNat : Int)
theorem data_length (s : ByteArray) : s.data.toList.length = s.size := by rw [Array.length_toList]; rfl
theorem bytesOf_length (s : ByteArray) : (bytesOf s).length = s.size := by rw [bytesOf, List.length_map, data_length]
def LeO {α : Type} (a b : Option α) : Prop := ∀ r, a = some r → b = some r
theorem LeO.refl {α : Type} (a : Option α) : LeO a a := fun _ h => h
theorem LeO.none {α : Type} (b : Option α) : LeO Option.none b := fun _ h => by cases h
theorem LeO.trans {α : Type} {a b c : Option α} (h : LeO a b) (k : LeO b c) : LeO a c := fun r hr => k r (h r hr)
theorem LeO.ite {α : Type} {c : Prop} [Decidable c] {a a' b b' : Option α} (h : LeO a a') (k : LeO b b') : LeO (if c then a else b) (if c then a' else b') := by
  split
  · exact h
  · exact k
theorem LeO.bind {α β : Type} {a a' : Option α} {f f' : α → Option β} (h : LeO a a') (k : ∀ x, LeO (f x) (f' x)) : LeO (a.bind f) (a'.bind f') := by
  intro r hr
  obtain ⟨x, hx, hf⟩ := Option.bind_eq_some_iff.1 hr
  exact Option.bind_eq_some_iff.2 ⟨x, h x hx, k x r hf⟩
theorem LeO.map {α β : Type} {a a' : Option α} (f : α → β) (h : LeO a a') : LeO (a.map f) (a'.map f) := by
  intro r hr
  obtain ⟨x, hx, hf⟩ := Option.map_eq_some_iff.1 hr
  exact Option.map_eq_some_iff.2 ⟨x, h x hx, hf⟩
theorem more_rounds {α : Type} {g : Nat → Option α} (h : ∀ k, LeO (g k) (g (k + 1))) (k : Nat) : ∀ j, LeO (g k) (g (k + j))
  | 0 => LeO.refl _
  | j + 1 => (more_rounds h k j).trans (h (k + j))
theorem at_rounds {α : Type} {g : Nat → Option α} (h : ∀ k, LeO (g k) (g (k + 1))) {k k' : Nat} (hk : k ≤ k') {r : α} (hr : g k = some r) : g k' = some r := by
  have := more_rounds h k (k' - k) r hr
  rwa [Nat.add_sub_cancel' hk] at this
def Reps {α : Type} (R : α → List Value → Prop) (size : Nat) (ps : List α) (cs : List Value) : Prop :=
  cs.length = ps.length * size ∧ ∀ j p, ps[j]? = some p → R p ((cs.drop (j * size)).take size)
theorem Reps.none {α : Type} (R : α → List Value → Prop) (size : Nat) : Reps R size [] [] := ⟨by simp, fun j p h => by simp at h⟩
theorem Reps.snoc {α : Type} {R : α → List Value → Prop} {size : Nat} {ps : List α} {cs c : List Value} {p : α} (h : Reps R size ps cs) (hp : R p c) (hc : c.length = size) : Reps R size (ps ++ [p]) (cs ++ c) := by
  refine ⟨by rw [List.length_append, h.1, hc, List.length_append, List.length_singleton, Nat.add_mul, Nat.one_mul], fun j q hq => ?_⟩
  rcases Nat.lt_or_ge j ps.length with hj | hj
  · rw [List.getElem?_append_left hj] at hq
    have h1 : j * size + size ≤ cs.length := by rw [h.1, ← Nat.succ_mul]; exact Nat.mul_le_mul_right _ hj
    have h2 := h.2 j q hq
    rw [List.drop_append_of_le_length (by omega), List.take_append_of_le_length (by rw [List.length_drop]; omega)]
    exact h2
  · have hj' : j = ps.length := by
      have := (List.getElem?_eq_some_iff.1 hq).1
      rw [List.length_append, List.length_singleton] at this
      omega
    subst hj'
    have hq' : p = q := by simpa using hq
    subst hq'
    rw [← h.1, List.drop_left, ← hc, List.take_length]
    exact hp
theorem Reps.imp_ {α : Type} {R R' : α → List Value → Prop} {size : Nat} {ps : List α} {cs : List Value} (h : Reps R size ps cs) (hR : ∀ p c, R p c → R' p c) : Reps R' size ps cs := ⟨h.1, fun j p hj => hR _ _ (h.2 j p hj)⟩
def ReadsRow {α : Type} (R : α → List Value → Prop) (size : Nat) (w : World) (A : Option Addr) (n : Nat) (ps : List α) : Prop :=
  ps.length = n ∧ n ≤ 9223372036854775807 ∧ (0 < n → ∃ ad, A = some ad ∧ ∀ j p, ps[j]? = some p → ∃ c, c.length = size ∧ R p c ∧ ∀ i u, c[i]? = some u → w.cell? (ad.add (j * size + i)) = some u)
theorem ReadsRow.get_ {α : Type} {R : α → List Value → Prop} {size : Nat} {w : World} {A : Option Addr} {n : Nat} {ps : List α} (h : ReadsRow R size w A n ps) (d : α) (i : Int) (h0 : 0 ≤ i) (h1 : i < n) :
    ∃ ad c, A = some ad ∧ c.length = size ∧ R (ps.getD i.toNat d) c ∧ ∀ j u, c[j]? = some u → w.cell? (ad.add (i.toNat * size + j)) = some u := by
  obtain ⟨ad, e, hc⟩ := h.2.2 (by omega)
  have hl : i.toNat < ps.length := by have := h.1; omega
  obtain ⟨c, hs, hr, hcell⟩ := hc i.toNat _ (List.getElem?_eq_getElem hl)
  refine ⟨ad, c, e, hs, ?_, hcell⟩
  rw [List.getD_eq_getElem?_getD, List.getElem?_eq_getElem hl]
  exact hr
theorem ReadsRow.imp_ {α : Type} {R R' : α → List Value → Prop} {size : Nat} {w w1 : World} {A : Option Addr} {n : Nat} {ps : List α} (h : ReadsRow R size w A n ps) (hb : Below w.heap.size w w1) (hR : ∀ p c, R p c → R' p c) : ReadsRow R' size w1 A n ps :=
  ⟨h.1, h.2.1, fun hn => by
    obtain ⟨ad, e, hc⟩ := h.2.2 hn
    refine ⟨ad, e, fun j p hj => ?_⟩
    obtain ⟨c, hs, hr, hcell⟩ := hc j p hj
    exact ⟨c, hs, hR _ _ hr, fun i u hu => pw_cell_below hb (hcell i u hu)⟩⟩
theorem own_reads_row {α : Type} {R : α → List Value → Prop} {w : World} {base n size : Nat} {e : TypeId} {v : Value} {ps : List α} {cs : List Value} (h : w.ownsRow base e size v n cs) (hR : Reps R size ps cs) (hn : ps.length = n) :
    ∃ A c, v = .slice A n c ∧ ReadsRow R size w A n ps := by
  rcases Nat.eq_zero_or_pos n with h0 | h0
  · rcases h.2 with ⟨rfl, rfl⟩ | ⟨g, cap, cur, rfl, _⟩
    · exact ⟨none, 0, rfl, hn, by omega, fun hp => absurd hp (by omega)⟩
    · exact ⟨_, cap, rfl, hn, by omega, fun hp => absurd hp (by omega)⟩
  · obtain ⟨g, cap, rfl, _, _⟩ := h.form h0
    have hm : n ≤ 9223372036854775807 := by
      rcases h.2 with ⟨_, h1⟩ | ⟨g', cap', cur, he, _, _, h1, h2, _⟩
      · omega
      · simp only [maxLen] at h2
        omega
    refine ⟨_, cap, rfl, hn, hm, fun _ => ⟨_, rfl, fun j p hj => ⟨(cs.drop (j * size)).take size, ?_, hR.2 j p hj, fun i u hu => ?_⟩⟩⟩
    · have hjl := (List.getElem?_eq_some_iff.1 hj).1
      have h1 : j * size + size ≤ cs.length := by rw [hR.1, ← Nat.succ_mul]; exact Nat.mul_le_mul_right _ hjl
      rw [List.length_take, List.length_drop]
      omega
    · refine h.cells (g := g) rfl _ u ?_
      rw [List.getElem?_take] at hu
      split at hu
      · rw [List.getElem?_drop] at hu
        exact hu
      · cases hu
theorem add_field (ad : Addr) (m j : Nat) (hj : 0 < j) : ad.add (m + j) = ⟨(ad.add m).block, (ad.add m).off + j, none⟩ := by
  unfold Addr.add
  by_cases hm : m = 0
  · subst hm
    simp [Nat.ne_of_gt hj]
  · simp [hm, Nat.add_assoc]
section
variable {P : Program} {ops : Array Oper} {rest : List Oper} {o : Oper} {a : Act} {Q : Exit → Act → World → Prop}
theorem print_append_cells {w0 W : World} (base : Nat) (hgd : o.guard = none) (s x : Operand) (t e : TypeId) (z : Value) (size bytes : Nat)
    (ho : o.op = .call { callee := .builtin .append, args := #[s, x], argTypes := #[t, t] })
    (ht : P.underlying t = some (.slice e)) (hinfo : (P.info? e).map (fun i => (i.zero, i.size, i.bytes)) = some (some z, size, bytes)) (hz : z.cells.size = size) (hs0 : 0 < size) (hb0 : 0 < bytes)
    (v : Value) (n : Nat) (xs ys : List Value) (hs : a.eval s = v) (hx : a.eval x = .slice (some ⟨W.heap.size, 0, none⟩) 1 1) (hys : ys.length = size) (h1 : ∀ u ∈ ys, u.oneCell' = true)
    (HO : W.ownsRow base e size v n xs) (HB : Below base w0 W) (hbase : base ≤ W.heap.size) (hl : (n + 1) * bytes ≤ 140737488355328)
    (h : ∀ v1 w1, w1.ownsRow base e size v1 (n + 1) (xs ++ ys) → Below base w0 w1 → W.grownBy w1 v.ownBlock → (v1.ownBlock = v.ownBlock ∨ ∃ b, v1.ownBlock = some b ∧ W.heap.size ≤ b) → wpList P ops Q rest (a.put o.dst v1) w1) :
    wpList P ops Q (o :: rest) a (W.alloc (.cells ys.toArray e)) := by
  obtain ⟨i0, hi, hzz⟩ := Option.map_eq_some_iff.1 hinfo
  simp only [Prod.mk.injEq] at hzz
  obtain ⟨hz0, hz1, hz2⟩ := hzz
  have hlen : n + 1 ≤ 140737488355328 := Nat.le_trans (Nat.le_mul_of_pos_right _ hb0) hl
  refine wpList_append_own_at (W.alloc (.cells ys.toArray e)) hgd s x t ho base e i0 z size bytes ht hi hz0 hz1 hz2 hz hs0 v n xs hs (HO.alloc _) ⟨W.heap.size, 0, none⟩ 1 1 ys hx (by rw [hys]; simp)
    (by simpa using World.news_of_block (cs := ys.toArray) (t := e) (fr := (0, 0)) (heap_alloc_new W (.cells ys.toArray e))) h1 (by simp only [maxLen]; omega) hl (by simp; omega) ?_
  intro v1 w1 hown hg _ hat
  refine h v1 w1 hown ((HB.alloc hbase _).grown hg (by simp; omega) (own_base HO)) (World.grownBy.trans (World.grownBy_alloc W _ _) hg) ?_
  rcases hat with hat | hat
  · exact .inl hat
  · exact .inr ⟨_, hat, by simp⟩
end
theorem blk_lt {w : World} {g : Nat} {o : Obj} (h : w.heap[g]? = some o) : g < w.heap.size := (Array.getElem?_eq_some_iff.1 h).1
def KeepBut (w w' : World) (g : Nat) (row : Option Nat) : Prop := w.heap.size ≤ w'.heap.size ∧ ∀ i, i < w.heap.size → i ≠ g → some i ≠ row → w'.heap[i]? = w.heap[i]?
theorem KeepBut.refl (w : World) (g : Nat) (row : Option Nat) : KeepBut w w g row := ⟨Nat.le_refl _, fun _ _ _ _ => rfl⟩
theorem KeepBut.of_below {w w1 : World} (h : Below w.heap.size w w1) (g : Nat) (row : Option Nat) : KeepBut w w1 g row := ⟨h.size, fun i hi _ _ => h.block i hi⟩
theorem KeepBut.trans {w w1 w2 : World} {g : Nat} {row row1 : Option Nat} (h : KeepBut w w1 g row) (k : KeepBut w1 w2 g row1) (hr : row1 = row ∨ ∃ b, row1 = some b ∧ w.heap.size ≤ b) : KeepBut w w2 g row :=
  ⟨Nat.le_trans h.1 k.1, fun i hi hg hn => by
    refine (k.2 i (Nat.lt_of_lt_of_le hi h.1) hg ?_).trans (h.2 i hi hg hn)
    rcases hr with rfl | ⟨b, rfl, hb⟩
    · exact hn
    · intro e
      injection e with e
      omega⟩
theorem KeepBut.blk {w w1 : World} {g g' : Nat} {row : Option Nat} {o : Obj} (h : KeepBut w w1 g row) (hb : w.heap[g']? = some o) (hg : g' ≠ g) (hr : some g' ≠ row) : w1.heap[g']? = some o := (h.2 g' (blk_lt hb) hg hr).trans hb
theorem KeepBut.own {w w1 : World} {g : Nat} {row : Option Nat} {base : Nat} {e : TypeId} {size n : Nat} {v : Value} {xs : List Value} (h : KeepBut w w1 g row) (ho : w.ownsRow base e size v n xs) (hg : v.ownBlock ≠ some g) (hr : v.ownBlock = none ∨ v.ownBlock ≠ row) : w1.ownsRow base e size v n xs := by
  obtain ⟨h1, h2⟩ := ho
  refine ⟨h1, ?_⟩
  rcases h2 with h2 | ⟨b, cap, cur, rfl, hb, hh, r⟩
  · exact .inl h2
  · refine .inr ⟨b, cap, cur, rfl, hb, h.blk hh ?_ ?_, r⟩
    · intro e
      exact hg (by rw [← e]; rfl)
    · rcases hr with hr | hr
      · simp [Value.ownBlock] at hr
      · exact hr
def Ev {α : Type} (g : Nat → Option α) (r : α) : Prop := ∃ K, ∀ k, K ≤ k → g k = some r
theorem Ev.of {α : Type} {g : Nat → Option α} {r : α} (hg : ∀ k, LeO (g k) (g (k + 1))) {k : Nat} (h : g k = some r) : Ev g r := ⟨k, fun _ hk => at_rounds hg hk h⟩
theorem Ev.now {α : Type} (r : α) : Ev (fun _ => some r) r := ⟨0, fun _ _ => rfl⟩
theorem Ev.rounds {α : Type} {g : Nat → Option α} {r : α} (h : Ev g r) : ∃ k, g k = some r := by
  obtain ⟨K, h⟩ := h
  exact ⟨K, h K (Nat.le_refl _)⟩
theorem Ev.bind {α β : Type} {g : Nat → Option α} {f : Nat → α → Option β} {a : α} {r : β} (h : Ev g a) (k : Ev (fun n => f n a) r) : Ev (fun n => (g n).bind (f n)) r := by
  obtain ⟨K, h⟩ := h
  obtain ⟨K', k⟩ := k
  refine ⟨max K K', fun n hn => ?_⟩
  have h1 := h n (by omega)
  have h2 := k n (by omega)
  simp only [h1, Option.bind_some]
  exact h2
theorem Ev.step {α : Type} {g f : Nat → Option α} {r : α} (h : ∀ k, g (k + 1) = f k) (k : Ev f r) : Ev g r := by
  obtain ⟨K, k⟩ := k
  refine ⟨K + 1, fun n hn => ?_⟩
  obtain ⟨m, rfl⟩ : ∃ m, n = m + 1 := ⟨n - 1, by omega⟩
  rw [h]
  exact k m (by omega)
theorem Ev.congr {α : Type} {g f : Nat → Option α} {r : α} (h : ∀ k, g k = f k) (k : Ev f r) : Ev g r := by
  obtain ⟨K, k⟩ := k
  exact ⟨K, fun n hn => (h n).trans (k n hn)⟩
section
variable {P : Program} {ops : Array Oper} {o : Oper} {a : Act} {Q : Exit → Act → World → Prop} {K : Act → World → Prop}
theorem step_append_cells {w0 W : World} (base : Nat) (hw : Region.wanted o (yielded ops a.tmps) = true) (s x : Operand) (t e : TypeId) (z : Value) (size bytes : Nat)
    (ho : o.op = .call { callee := .builtin .append, args := #[s, x], argTypes := #[t, t] })
    (ht : P.underlying t = some (.slice e)) (hinfo : (P.info? e).map (fun i => (i.zero, i.size, i.bytes)) = some (some z, size, bytes)) (hz : z.cells.size = size) (hs0 : 0 < size) (hb0 : 0 < bytes)
    (v : Value) (n : Nat) (xs ys : List Value) (hs : a.eval s = v) (hx : a.eval x = .slice (some ⟨W.heap.size, 0, none⟩) 1 1) (hys : ys.length = size) (h1 : ∀ u ∈ ys, u.oneCell' = true)
    (HO : W.ownsRow base e size v n xs) (HB : Below base w0 W) (hbase : base ≤ W.heap.size) (hl : (n + 1) * bytes ≤ 140737488355328)
    (h : ∀ v1 w1, w1.ownsRow base e size v1 (n + 1) (xs ++ ys) → Below base w0 w1 → W.grownBy w1 v.ownBlock → (v1.ownBlock = v.ownBlock ∨ ∃ b, v1.ownBlock = some b ∧ W.heap.size ≤ b) → K (a.put o.dst v1) w1) :
    if Region.wanted o (yielded ops a.tmps) = true then Oper.wp P o a (W.alloc (.cells ys.toArray e)) K Q else K (a.put o.dst undef) (W.alloc (.cells ys.toArray e)) := by
  obtain ⟨i0, hi, hzz⟩ := Option.map_eq_some_iff.1 hinfo
  simp only [Prod.mk.injEq] at hzz
  obtain ⟨hz0, hz1, hz2⟩ := hzz
  have hlen : n + 1 ≤ 140737488355328 := Nat.le_trans (Nat.le_mul_of_pos_right _ hb0) hl
  rw [if_pos hw]
  obtain ⟨v1, w1, hr, hown, hg, _, hat⟩ := run_append_own_at (P := P) (W.alloc (.cells ys.toArray e)) base t o.type e i0 z size bytes ht hi hz0 hz1 hz2 hz hs0 v n xs (HO.alloc _) ⟨W.heap.size, 0, none⟩ 1 1 ys (by rw [hys]; simp)
    (by simpa using World.news_of_block (cs := ys.toArray) (t := e) (fr := (0, 0)) (heap_alloc_new W (.cells ys.toArray e))) h1 (by simp only [maxLen]; omega) hl (by simp; omega)
  unfold Oper.wp execOp
  simp only [ho, resolve, invoke, builtin, Sem.run_bind, Sem.run_pure, Result.andThen_ok, List.map_toArray, List.map_cons, List.map_nil, hs, hx, hr]
  refine h v1 w1 hown ((HB.alloc hbase _).grown hg (by simp; omega) (own_base HO)) (World.grownBy.trans (World.grownBy_alloc W _ _) hg) ?_
  rcases hat with hat | hat
  · exact .inl hat
  · exact .inr ⟨_, hat, by simp⟩
end
theorem own_weaken {w : World} {base base' : Nat} {e : TypeId} {size n : Nat} {v : Value} {xs : List Value} (h : w.ownsRow base e size v n xs) (hb : base' ≤ base) : w.ownsRow base' e size v n xs := by
  obtain ⟨h1, h2⟩ := h
  refine ⟨h1, ?_⟩
  rcases h2 with h2 | ⟨g, cap, cur, rfl, hg, r⟩
  · exact .inl h2
  · exact .inr ⟨g, cap, cur, rfl, Nat.le_trans hb hg, r⟩
section
variable {α : Type} {enc : α → Value} {d : α}
def encs (enc : α → Value) (xs : List α) : List Value := xs.map enc
theorem encs_length (xs : List α) : (encs enc xs).length = xs.length := by simp [encs]
def ReadsOf (enc : α → Value) (d : α) (w : World) (A : Option Addr) (n : Nat) (xs : List α) : Prop :=
  xs.length = n ∧ n ≤ 9223372036854775807 ∧ (0 < n → ∃ ad, A = some ad ∧ ∀ j, j < n → w.cell? (ad.add j) = some (enc (xs.getD j d)))
theorem ReadsOf.below {w w1 : World} {A : Option Addr} {n : Nat} {xs : List α} (h : ReadsOf enc d w A n xs) (hb : Below w.heap.size w w1) : ReadsOf enc d w1 A n xs :=
  ⟨h.1, h.2.1, fun hn => by
    obtain ⟨ad, e, hc⟩ := h.2.2 hn
    exact ⟨ad, e, fun j hj => pw_cell_below hb (hc j hj)⟩⟩
end
section
variable {α : Type} {P : Program} {ops : Array Oper} {rest : List Oper} {o : Oper} {a : Act} {Q : Exit → Act → World → Prop}
end
section
variable {P : Program}
end
theorem own_le {w : World} {base n m c size : Nat} {e : TypeId} {A : Option Addr} {xs : List Value} (h : w.ownsRow base e size (.slice A m c) n xs) : m ≤ c := by
  rcases h.2 with ⟨he, _⟩ | ⟨g, cap, cur, he, _, _, hnc, _⟩
  · injection he with _ h2 h3
    omega
  · injection he with _ h2 h3
    omega
def OwnRow {α : Type} (R : α → List Value → Prop) (e : TypeId) (size : Nat) (w : World) (base : Nat) (v : Value) (ps : List α) : Prop :=
  ∃ inner, w.ownsRow base e size v ps.length inner ∧ Reps R size ps inner
section
variable {α : Type} {R R' : α → List Value → Prop} {e : TypeId} {size : Nat} {w w1 : World} {base : Nat} {v : Value} {ps : List α}
theorem OwnRow.none_ (R : α → List Value → Prop) (e : TypeId) (size : Nat) (w : World) (base : Nat) : OwnRow R e size w base (.slice none 0 0) [] := ⟨[], own_nil _ _ _ _, Reps.none _ _⟩
theorem OwnRow.imp_ (h : OwnRow R e size w base v ps) (hR : ∀ p c, R p c → R' p c) : OwnRow R' e size w base v ps := by
  obtain ⟨inner, ho, hr⟩ := h
  exact ⟨inner, ho, hr.imp_ hR⟩
theorem OwnRow.below (h : OwnRow R e size w base v ps) (hb : Below w.heap.size w w1) : OwnRow R e size w1 base v ps := by
  obtain ⟨inner, ho, hr⟩ := h
  exact ⟨inner, pw_own_below ho hb, hr⟩
theorem OwnRow.reads (h : OwnRow R e size w base v ps) : ∃ A c, v = .slice A ps.length c ∧ ps.length ≤ c ∧ ReadsRow R size w A ps.length ps := by
  obtain ⟨inner, ho, hr⟩ := h
  obtain ⟨A, c, rfl, hrow⟩ := own_reads_row ho hr rfl
  exact ⟨A, c, rfl, own_le ho, hrow⟩
end
section
variable {P : Program} {ops : Array Oper} {rest : List Oper} {o : Oper} {a : Act} {Q : Exit → Act → World → Prop} {α : Type} {R : α → List Value → Prop}
theorem OwnRow.append {w0 W : World} (base : Nat) (hgd : o.guard = none) (s x : Operand) (t e : TypeId) (z : Value) (size bytes : Nat)
    (ho : o.op = .call { callee := .builtin .append, args := #[s, x], argTypes := #[t, t] })
    (ht : P.underlying t = some (.slice e)) (hinfo : (P.info? e).map (fun i => (i.zero, i.size, i.bytes)) = some (some z, size, bytes)) (hz : z.cells.size = size) (hs0 : 0 < size) (hb0 : 0 < bytes)
    (v : Value) (ps : List α) (p : α) (cs : List Value) (hs : a.eval s = v) (hx : a.eval x = .slice (some ⟨W.heap.size, 0, none⟩) 1 1) (hp : R p cs) (hcs : cs.length = size) (h1 : ∀ u ∈ cs, u.oneCell' = true)
    (HO : OwnRow R e size W base v ps) (HB : Below base w0 W) (hbase : base ≤ W.heap.size) (hl : (ps.length + 1) * bytes ≤ 140737488355328)
    (h : ∀ v1 w1, OwnRow R e size w1 base v1 (ps ++ [p]) → Below base w0 w1 → W.grownBy w1 v.ownBlock → (v1.ownBlock = v.ownBlock ∨ ∃ b, v1.ownBlock = some b ∧ W.heap.size ≤ b) → wpList P ops Q rest (a.put o.dst v1) w1) :
    wpList P ops Q (o :: rest) a (W.alloc (.cells cs.toArray e)) := by
  obtain ⟨inner, hown, hr⟩ := HO
  refine print_append_cells base hgd s x t e z size bytes ho ht hinfo hz hs0 hb0 v ps.length inner cs hs hx hcs h1 hown HB hbase hl ?_
  intro v1 w1 hown1 hb1 hg1 hat1
  exact h v1 w1 ⟨inner ++ cs, by rw [List.length_append, List.length_singleton]; exact hown1, hr.snoc hp hcs⟩ hb1 hg1 hat1
end
section
variable {P : Program} {ops : Array Oper} {o : Oper} {a : Act} {Q : Exit → Act → World → Prop} {K : Act → World → Prop} {α : Type} {R : α → List Value → Prop}
end
section
variable {α : Type} {P : Program}
end
section
variable {P : Program} {ops : Array Oper} {rest : List Oper} {o : Oper} {a : Act} {Q : Exit → Act → World → Prop}
theorem print_append_str {w0 W : World} (base : Nat) (hgd : o.guard = none) (s x : Operand) (t u e : TypeId)
    (ho : o.op = .call { callee := .builtin .append, args := #[s, x], argTypes := #[t, u] })
    (ht : P.underlying t = some (.slice e)) (hu : P.underlying u = some .string) (hinfo : (P.info? e).map (fun i => (i.zero, i.size, i.bytes)) = some (some (.int .u8 0), 1, 1))
    (v : Value) (xs : List Int) (y : ByteArray) (hs : a.eval s = v) (hx : a.eval x = .string y)
    (HO : W.ownsRow base e 1 v xs.length (nums .u8 xs)) (HB : Below base w0 W) (hbase : base ≤ W.heap.size) (hl : xs.length + y.size ≤ 140737488355328)
    (h : ∀ v1 w1, w1.ownsRow base e 1 v1 (xs ++ bytesOf y).length (nums .u8 (xs ++ bytesOf y)) → Below base w0 w1 → W.grownBy w1 v.ownBlock → wpList P ops Q rest (a.put o.dst v1) w1) :
    wpList P ops Q (o :: rest) a W := by
  obtain ⟨i0, hi, hzz⟩ := Option.map_eq_some_iff.1 hinfo
  simp only [Prod.mk.injEq] at hzz
  obtain ⟨hz0, hz1, hz2⟩ := hzz
  refine Lib.wpList_append_own_string W hgd s x t u ho base e i0 ht hu hi hz0 hz1 hz2 v xs.length (nums .u8 xs) hs HO y hx (by simp only [maxLen]; omega) hl hbase ?_
  intro v1 w1 hown hg _
  have hl2 : (xs ++ bytesOf y).length = xs.length + y.size := by rw [List.length_append, bytesOf_length]
  have hc : nums .u8 (xs ++ bytesOf y) = nums .u8 xs ++ Lib.strCells y := by
    rw [nums_append]
    congr 1
    simp [nums, bytesOf, Lib.strCells]
  exact h v1 w1 (by rw [hl2, hc]; exact hown) (HB.grown hg hbase (own_base HO)) hg
end
structure Kd (α : Type) where
  sz : Nat
  E : List Nat
  K : World → α → List Value → Prop
  M : World → Nat → (Nat → Prop) → α → List Value → Prop
  K_len : ∀ {w x cs}, K w x cs → cs.length = sz
  K_one : ∀ {w x cs}, K w x cs → ∀ u ∈ cs, u.oneCell' = true
  K_below : ∀ {w w1 : World} {x cs}, Below w.heap.size w w1 → K w x cs → K w1 x cs
  K_of_M : ∀ {w base ok x cs}, M w base ok x cs → K w x cs
  M_mono : ∀ {w base ok ok' x cs}, (∀ k, ok k → ok' k) → M w base ok x cs → M w base ok' x cs
  M_bound : ∀ {w : World} {base ok x cs}, M w base ok x cs → M w base (fun k => ok k ∧ base ≤ k ∧ k < w.heap.size ∧ ∃ q, q ∈ E ∧ ∃ cells, w.heap[k]? = some (.cells cells q (0, 0))) x cs
  M_move : ∀ {w w1 : World} {base ok x cs}, (∀ k, ok k → w1.heap[k]? = w.heap[k]?) → M w base ok x cs → M w1 base ok x cs
  M_lower : ∀ {w base base' ok x cs}, base' ≤ base → M w base ok x cs → M w base' ok x cs
theorem own_move {w w1 : World} {base : Nat} {e : TypeId} {size n : Nat} {v : Value} {xs : List Value} (h : w.ownsRow base e size v n xs) (hm : ∀ k, v.ownBlock = some k → w1.heap[k]? = w.heap[k]?) : w1.ownsRow base e size v n xs := by
  obtain ⟨h1, h2⟩ := h
  refine ⟨h1, ?_⟩
  rcases h2 with h2 | ⟨g, cap, cur, rfl, hg, hh, r⟩
  · exact .inl h2
  · exact .inr ⟨g, cap, cur, rfl, hg, (hm g (by simp [Value.ownBlock])).trans hh, r⟩
theorem own_typed {w : World} {base : Nat} {e : TypeId} {size n : Nat} {v : Value} {xs : List Value} (h : w.ownsRow base e size v n xs) (k : Nat) (hk : v.ownBlock = some k) : ∃ cells, w.heap[k]? = some (.cells cells e (0, 0)) := by
  rcases h.2 with ⟨rfl, _⟩ | ⟨g, cap, cur, rfl, hg, hh, r⟩
  · simp [Value.ownBlock] at hk
  · have : g = k := by simpa [Value.ownBlock] using hk
    subst this
    exact ⟨cur, hh⟩
namespace Kd
def C {α : Type} (d : Kd α) (w : World) (A : Option Addr) (n : Nat) (xs : List α) : Prop := ReadsRow (d.K w) d.sz w A n xs
def R {α : Type} (d : Kd α) (e : Nat) (w : World) (base : Nat) (ok : Nat → Prop) (v : Value) (xs : List α) : Prop :=
  (∀ k, v.ownBlock = some k → ok k) ∧ OwnRow (d.M w base (fun k => ok k ∧ some k ≠ v.ownBlock)) e d.sz w base v xs
section
variable {α : Type} {d : Kd α} {e : Nat} {w w1 : World} {base : Nat} {ok ok' : Nat → Prop} {v : Value} {xs : List α}
theorem C_below {A : Option Addr} {n : Nat} (h : d.C w A n xs) (hb : Below w.heap.size w w1) : d.C w1 A n xs := ReadsRow.imp_ h hb (fun _ _ hp => d.K_below hb hp)
theorem R_nil (d : Kd α) (e : Nat) (w : World) (base : Nat) (ok : Nat → Prop) : d.R e w base ok (.slice none 0 0) [] := ⟨fun k hk => by simp [Value.ownBlock] at hk, OwnRow.none_ _ _ _ _ _⟩
theorem R_mono (h : d.R e w base ok v xs) (hok : ∀ k, ok k → ok' k) : d.R e w base ok' v xs := ⟨fun k hk => hok k (h.1 k hk), h.2.imp_ (fun _ _ hp => d.M_mono (fun k hk => ⟨hok k hk.1, hk.2⟩) hp)⟩
theorem R_bound (h : d.R e w base ok v xs) : d.R e w base (fun k => ok k ∧ base ≤ k ∧ k < w.heap.size ∧ ∃ q, q ∈ e :: d.E ∧ ∃ cells, w.heap[k]? = some (.cells cells q (0, 0))) v xs := by
  obtain ⟨h0, inner, ho, hr⟩ := h
  refine ⟨fun k hk => ?_, inner, ho, hr.imp_ (fun _ _ hp => d.M_mono (fun k hk => ?_) (d.M_bound hp))⟩
  · obtain ⟨cells, hc⟩ := own_typed ho k hk
    exact ⟨h0 k hk, own_base ho k hk, own_lt ho k hk, e, List.mem_cons_self, cells, hc⟩
  · obtain ⟨⟨h1, h2⟩, h3, h4, q, hq, hc⟩ := hk
    exact ⟨⟨h1, h3, h4, q, List.mem_cons_of_mem _ hq, hc⟩, h2⟩
theorem R_move (h : d.R e w base ok v xs) (hm : ∀ k, ok k → w1.heap[k]? = w.heap[k]?) : d.R e w1 base ok v xs := by
  obtain ⟨h0, inner, ho, hr⟩ := h
  exact ⟨h0, inner, own_move ho (fun k hk => hm k (h0 k hk)), hr.imp_ (fun _ _ hp => d.M_move (fun k hk => hm k hk.1) hp)⟩
theorem R_lower {base' : Nat} (h : d.R e w base ok v xs) (hb : base' ≤ base) : d.R e w base' ok v xs := by
  obtain ⟨h0, inner, ho, hr⟩ := h
  exact ⟨h0, inner, own_weaken ho hb, hr.imp_ (fun _ _ hp => d.M_lower hb hp)⟩
theorem R_step (h : d.R e w base ok v xs) (hm : ∀ k, ok k → k < w.heap.size → w1.heap[k]? = w.heap[k]?) : d.R e w1 base ok v xs :=
  R_mono (R_move (R_bound h) (fun k hk => hm k hk.1 hk.2.2.1)) (fun _ hk => hk.1)
theorem M_step {x : α} {cs : List Value} (h : d.M w base ok x cs) (hm : ∀ k, ok k → k < w.heap.size → w1.heap[k]? = w.heap[k]?) : d.M w1 base ok x cs :=
  d.M_mono (fun _ hk => hk.1) (d.M_move (fun k hk => hm k hk.1 hk.2.2.1) (d.M_bound h))
theorem R_below (h : d.R e w base ok v xs) (hb : Below w.heap.size w w1) : d.R e w1 base ok v xs := R_step h (fun k _ hk => hb.block k hk)
theorem M_below {x : α} {cs : List Value} (h : d.M w base ok x cs) (hb : Below w.heap.size w w1) : d.M w1 base ok x cs := M_step h (fun k _ hk => hb.block k hk)
theorem R_reads (h : d.R e w base ok v xs) : ∃ A c, v = .slice A xs.length c ∧ xs.length ≤ c ∧ d.C w A xs.length xs := by
  obtain ⟨A, c, he, hl, hr⟩ := OwnRow.reads h.2
  exact ⟨A, c, he, hl, hr.imp_ (Below.refl _ _) (fun _ _ hp => d.K_of_M hp)⟩
theorem R_slice (h : d.R e w base ok v xs) : ∃ A c, v = .slice A xs.length c := by
  obtain ⟨A, c, he, _⟩ := R_reads h
  exact ⟨A, c, he⟩
theorem R_own (h : d.R e w base ok v xs) : ∃ inner, w.ownsRow base e d.sz v xs.length inner := by
  obtain ⟨_, inner, ho, _⟩ := h
  exact ⟨inner, ho⟩
end
def scalar {α : Type} (enc : α → Value) (h1 : ∀ x, (enc x).oneCell' = true) : Kd α where
  sz := 1
  E := []
  K := fun _ x cs => cs = [enc x]
  M := fun _ _ _ x cs => cs = [enc x]
  K_len := fun h => by rw [h]; rfl
  K_one := fun h u hu => by
    rw [h] at hu
    rw [List.mem_singleton.1 hu]
    exact h1 _
  K_below := fun _ h => h
  K_of_M := fun h => h
  M_mono := fun _ h => h
  M_bound := fun h => h
  M_move := fun _ h => h
  M_lower := fun _ h => h
def int (k : IntKind) : Kd Int := scalar (Value.int k) (fun _ => rfl)
def bool : Kd Bool := scalar Value.bool (fun _ => rfl)
def string : Kd ByteArray := scalar Value.string (fun _ => rfl)
def slice {α : Type} (e : Nat) (d : Kd α) : Kd (List α) where
  sz := 1
  E := e :: d.E
  K := fun w xs cs => ∃ A c, cs = [.slice A xs.length c] ∧ xs.length ≤ c ∧ d.C w A xs.length xs
  M := fun w base ok xs cs => ∃ v, cs = [v] ∧ d.R e w base ok v xs
  K_len := by
    rintro w x cs ⟨A, c, rfl, _⟩
    rfl
  K_one := by
    rintro w x cs ⟨A, c, rfl, _⟩ u hu
    rw [List.mem_singleton.1 hu]
    rfl
  K_below := by
    rintro w w1 x cs hb ⟨A, c, rfl, hl, hr⟩
    exact ⟨A, c, rfl, hl, C_below hr hb⟩
  K_of_M := by
    rintro w base ok x cs ⟨v, rfl, h⟩
    obtain ⟨A, c, rfl, hl, hr⟩ := R_reads h
    exact ⟨A, c, rfl, hl, hr⟩
  M_mono := by
    rintro w base ok ok' x cs hok ⟨v, rfl, h⟩
    exact ⟨v, rfl, R_mono h hok⟩
  M_bound := by
    rintro w base ok x cs ⟨v, rfl, h⟩
    exact ⟨v, rfl, R_bound h⟩
  M_move := by
    rintro w w1 base ok x cs hm ⟨v, rfl, h⟩
    exact ⟨v, rfl, R_move h hm⟩
  M_lower := by
    rintro w base base' ok x cs hb ⟨v, rfl, h⟩
    exact ⟨v, rfl, R_lower h hb⟩
def pair {α β : Type} (a : Kd α) (b : Kd β) : Kd (α × β) where
  sz := a.sz + b.sz
  E := a.E ++ b.E
  K := fun w x cs => ∃ c0 c1, cs = c0 ++ c1 ∧ a.K w x.1 c0 ∧ b.K w x.2 c1
  M := fun w base ok x cs => ∃ c0 c1, cs = c0 ++ c1 ∧ a.M w base ok x.1 c0 ∧ b.M w base ok x.2 c1
  K_len := by
    rintro w x cs ⟨c0, c1, rfl, h0, h1⟩
    rw [List.length_append, a.K_len h0, b.K_len h1]
  K_one := by
    rintro w x cs ⟨c0, c1, rfl, h0, h1⟩ u hu
    rcases List.mem_append.1 hu with hu | hu
    · exact a.K_one h0 u hu
    · exact b.K_one h1 u hu
  K_below := by
    rintro w w1 x cs hb ⟨c0, c1, rfl, h0, h1⟩
    exact ⟨c0, c1, rfl, a.K_below hb h0, b.K_below hb h1⟩
  K_of_M := by
    rintro w base ok x cs ⟨c0, c1, rfl, h0, h1⟩
    exact ⟨c0, c1, rfl, a.K_of_M h0, b.K_of_M h1⟩
  M_mono := by
    rintro w base ok ok' x cs hok ⟨c0, c1, rfl, h0, h1⟩
    exact ⟨c0, c1, rfl, a.M_mono hok h0, b.M_mono hok h1⟩
  M_bound := by
    rintro w base ok x cs ⟨c0, c1, rfl, h0, h1⟩
    refine ⟨c0, c1, rfl, a.M_mono ?_ (a.M_bound h0), b.M_mono ?_ (b.M_bound h1)⟩
    · rintro k ⟨h2, h3, h4, q, hq, hc⟩
      exact ⟨h2, h3, h4, q, List.mem_append_left _ hq, hc⟩
    · rintro k ⟨h2, h3, h4, q, hq, hc⟩
      exact ⟨h2, h3, h4, q, List.mem_append_right _ hq, hc⟩
  M_move := by
    rintro w w1 base ok x cs hm ⟨c0, c1, rfl, h0, h1⟩
    exact ⟨c0, c1, rfl, a.M_move hm h0, b.M_move hm h1⟩
  M_lower := by
    rintro w base base' ok x cs hb ⟨c0, c1, rfl, h0, h1⟩
    exact ⟨c0, c1, rfl, a.M_lower hb h0, b.M_lower hb h1⟩
def iso {α β : Type} (d : Kd α) (f : β → α) : Kd β where
  sz := d.sz
  E := d.E
  K := fun w x cs => d.K w (f x) cs
  M := fun w base ok x cs => d.M w base ok (f x) cs
  K_len := d.K_len
  K_one := d.K_one
  K_below := d.K_below
  K_of_M := d.K_of_M
  M_mono := d.M_mono
  M_bound := d.M_bound
  M_move := d.M_move
  M_lower := d.M_lower
def bot {α : Type} (sz : Nat) (E : List Nat) : Kd α where
  sz := sz
  E := E
  K := fun _ _ _ => False
  M := fun _ _ _ _ _ => False
  K_len := fun h => h.elim
  K_one := fun h => h.elim
  K_below := fun _ h => h
  K_of_M := fun h => h
  M_mono := fun _ h => h
  M_bound := fun h => h
  M_move := fun _ h => h
  M_lower := fun _ h => h
def upto {α : Type} (F : Kd α → Kd α) (sz : Nat) (E : List Nat) : Nat → Kd α
  | 0 => bot sz E
  | n + 1 => F (upto F sz E n)
theorem C_get {α : Type} {d : Kd α} {w : World} {A : Option Addr} {n : Nat} {xs : List α} (h : d.C w A n xs) (z : α) (i : Int) (h0 : 0 ≤ i) (h1 : i < n) :
    ∃ ad c, A = some ad ∧ c.length = d.sz ∧ d.K w (xs.getD i.toNat z) c ∧ ∀ j u, c[j]? = some u → w.cell? (ad.add (i.toNat * d.sz + j)) = some u := ReadsRow.get_ h z i h0 h1
theorem R_appended {α : Type} {d : Kd α} {e base : Nat} {ok okp : Nat → Prop} {W w1 : World} {v v1 : Value} {xs : List α} {p : α} {inner cs : List Value} (h0 : ∀ k, v.ownBlock = some k → ok k) (hr : Reps (d.M W base (fun k => ok k ∧ some k ≠ v.ownBlock)) d.sz xs inner) (hp : d.M W base okp p cs) (hokp : ∀ k, okp k → ok k ∧ some k ≠ v.ownBlock) (hfresh : ∀ k, W.heap.size ≤ k → ok k)
    (hown : w1.ownsRow base e d.sz v1 (xs.length + 1) (inner ++ cs)) (hg : W.grownBy w1 v.ownBlock) (hat : v1.ownBlock = v.ownBlock ∨ ∃ b, v1.ownBlock = some b ∧ W.heap.size ≤ b) : d.R e w1 base ok v1 (xs ++ [p]) := by
  have hne : ∀ k, some k ≠ v.ownBlock → k < W.heap.size → some k ≠ v1.ownBlock := by
    intro k hk hlt
    rcases hat with hat | ⟨b, hb, hle⟩
    · rw [hat]; exact hk
    · rw [hb]
      intro he
      injection he with he
      omega
  have step : ∀ {q : α} {c : List Value} {o : Nat → Prop}, d.M W base o q c → (∀ k, o k → ok k ∧ some k ≠ v.ownBlock) → d.M w1 base (fun k => ok k ∧ some k ≠ v1.ownBlock) q c := by
    intro q c o hq ho
    have h1 := d.M_move (w1 := w1) (fun k hk => hg.block k hk.2.2.1 (ho k hk.1).2) (d.M_bound hq)
    exact d.M_mono (fun k hk => ⟨(ho k hk.1).1, hne k (ho k hk.1).2 hk.2.2.1⟩) h1
  refine ⟨fun k hk => ?_, inner ++ cs, by rw [List.length_append, List.length_singleton]; exact hown, ?_⟩
  · rcases hat with hat | ⟨b, hb, hle⟩
    · exact h0 k (hat ▸ hk)
    · rw [hb] at hk
      injection hk with hk
      exact hfresh k (by omega)
  · exact (hr.imp_ (fun _ _ hq => step hq (fun _ hk => hk))).snoc (step hp hokp) (d.K_len (d.K_of_M hp))
section
variable {P : Program} {ops : Array Oper} {rest : List Oper} {o : Oper} {a : Act} {Q : Exit → Act → World → Prop} {α : Type}
theorem R_append (d : Kd α) {w0 W : World} (base : Nat) (hgd : o.guard = none) (s x : Operand) (t e : TypeId) (z : Value) (bytes : Nat)
    (ho : o.op = .call { callee := .builtin .append, args := #[s, x], argTypes := #[t, t] })
    (ht : P.underlying t = some (.slice e)) (hinfo : (P.info? e).map (fun i => (i.zero, i.size, i.bytes)) = some (some z, d.sz, bytes)) (hz : z.cells.size = d.sz) (hs0 : 0 < d.sz) (hb0 : 0 < bytes)
    (v : Value) (xs : List α) (p : α) (cs : List Value) (ok okp : Nat → Prop) (hs : a.eval s = v) (hx : a.eval x = .slice (some ⟨W.heap.size, 0, none⟩) 1 1) (hp : d.M W base okp p cs) (hokp : ∀ k, okp k → ok k ∧ some k ≠ v.ownBlock) (hfresh : ∀ k, W.heap.size ≤ k → ok k)
    (HO : d.R e W base ok v xs) (HB : Below base w0 W) (hbase : base ≤ W.heap.size) (hl : (xs.length + 1) * bytes ≤ 140737488355328)
    (h : ∀ v1 w1, d.R e w1 base ok v1 (xs ++ [p]) → Below base w0 w1 → W.grownBy w1 v.ownBlock → (v1.ownBlock = v.ownBlock ∨ ∃ b, v1.ownBlock = some b ∧ W.heap.size ≤ b) → wpList P ops Q rest (a.put o.dst v1) w1) :
    wpList P ops Q (o :: rest) a (W.alloc (.cells cs.toArray e)) := by
  obtain ⟨h0, inner, hown, hr⟩ := HO
  refine print_append_cells base hgd s x t e z d.sz bytes ho ht hinfo hz hs0 hb0 v xs.length inner cs hs hx (d.K_len (d.K_of_M hp)) (d.K_one (d.K_of_M hp)) hown HB hbase hl ?_
  intro v1 w1 hown1 hb1 hg1 hat1
  exact h v1 w1 (R_appended h0 hr hp hokp hfresh hown1 hg1 hat1) hb1 hg1 hat1
end
section
variable {P : Program} {ops : Array Oper} {o : Oper} {a : Act} {Q : Exit → Act → World → Prop} {Kc : Act → World → Prop} {α : Type}
end
theorem reps_scalar {α : Type} {enc : α → Value} (xs : List α) : Reps (fun (x : α) (cs : List Value) => cs = [enc x]) 1 xs (encs enc xs) := by
  refine ⟨by simp [encs], fun j p hj => ?_⟩
  obtain ⟨hl, hp⟩ := List.getElem?_eq_some_iff.1 hj
  have hl' : j < (encs enc xs).length := by rw [encs_length]; exact hl
  rw [Nat.mul_one, List.drop_eq_getElem_cons hl']
  simp [encs, hp]
theorem R_of_own {α : Type} {enc : α → Value} {h1 : ∀ x, (enc x).oneCell' = true} {e : Nat} {w : World} {base : Nat} {ok : Nat → Prop} {v : Value} {xs : List α} (ho : w.ownsRow base e 1 v xs.length (encs enc xs)) (hok : ∀ k, v.ownBlock = some k → ok k) : (scalar enc h1).R e w base ok v xs := ⟨hok, encs enc xs, ho, reps_scalar xs⟩
theorem own_of_R {α : Type} {enc : α → Value} {h1 : ∀ x, (enc x).oneCell' = true} {e : Nat} {w : World} {base : Nat} {ok : Nat → Prop} {v : Value} {xs : List α} (h : (scalar enc h1).R e w base ok v xs) : w.ownsRow base e 1 v xs.length (encs enc xs) := by
  obtain ⟨_, inner, ho, hr⟩ := h
  have : inner = encs enc xs := by
    apply List.ext_getElem?
    intro j
    rcases Nat.lt_or_ge j xs.length with hj | hj
    · have h2 := hr.2 j _ (List.getElem?_eq_getElem hj)
      have hl : j < inner.length := by have := hr.1; simp [scalar] at this; omega
      have h3 : (inner.drop (j * 1)).take 1 = [enc xs[j]] := h2
      rw [Nat.mul_one, List.drop_eq_getElem_cons hl] at h3
      have h4 : inner[j] = enc xs[j] := by
        have h5 := congrArg List.head? h3
        rw [List.take_succ_cons] at h5
        exact Option.some.inj h5
      rw [List.getElem?_eq_getElem hl, h4]
      simp [encs, List.getElem?_eq_getElem hj]
    · have h3 : inner.length = xs.length := by have := hr.1; simp [scalar] at this; omega
      rw [List.getElem?_eq_none (by omega), List.getElem?_eq_none (by rw [encs_length]; omega)]
  rw [← this]
  exact ho
end Kd
namespace Kd
section
variable {α : Type} {F : Kd α → Kd α} {sz : Nat} {E : List Nat} {hs : ∀ n, (upto F sz E n).sz = sz} {hE : ∀ n q, q ∈ (upto F sz E n).E → q ∈ E}
end
end Kd
namespace Kd
end Kd
namespace Kd
section
variable {α β : Type} {d : Kd α} {d' : Kd β} {e e' : Nat} {w w1 W : World} {base b b' : Nat} {ok ok' okv oku : Nat → Prop} {v u : Value} {xs : List α} {ys : List β}
theorem R_alloc (h : d.R e w base ok v xs) (o : Obj) : d.R e (w.alloc o) base ok v xs := R_below h (below_alloc (Below.refl _ _) o)
theorem R_drew (h : d.R e w base ok v xs) : d.R e w.drew base ok v xs := R_below h (below_drew (Below.refl _ _))
theorem R_drewN (h : d.R e w base ok v xs) (m : Nat) : d.R e (w.drewN m) base ok v xs := R_below h (pw_below_drewN (Below.refl _ _) m)
theorem C_alloc {A : Option Addr} {n : Nat} (h : d.C w A n xs) (o : Obj) : d.C (w.alloc o) A n xs := C_below h (below_alloc (Below.refl _ _) o)
theorem C_drew {A : Option Addr} {n : Nat} (h : d.C w A n xs) : d.C w.drew A n xs := C_below h (below_drew (Below.refl _ _))
theorem C_drewN {A : Option Addr} {n : Nat} (h : d.C w A n xs) (m : Nat) : d.C (w.drewN m) A n xs := C_below h (pw_below_drewN (Below.refl _ _) m)
theorem C_nil (d : Kd α) (w : World) : d.C w none ([] : List α).length [] := ⟨rfl, by simp, fun h => absurd h (Nat.lt_irrefl 0)⟩
theorem R_reads' {A : Option Addr} {n c : Nat} (h : d.R e w base ok (.slice A n c) xs) : n = xs.length ∧ n ≤ c ∧ d.C w A xs.length xs := by
  obtain ⟨A', c', he, hl, hr⟩ := R_reads h
  injection he with h1 h2 h3
  subst h1
  exact ⟨h2, by omega, hr⟩
theorem R_lt (h : d.R e w base ok v xs) : ∀ k, v.ownBlock = some k → k < w.heap.size := by
  obtain ⟨inner, ho⟩ := R_own h
  exact own_lt ho
theorem R_base (h : d.R e w base ok v xs) : ∀ k, v.ownBlock = some k → base ≤ k := by
  obtain ⟨inner, ho⟩ := R_own h
  exact own_base ho
end
section
variable {w W : World} {A : Option Addr} {n : Nat}
variable {α : Type} {enc : α → Value} {h1 : ∀ x, (enc x).oneCell' = true} {e base g cap : Nat} {ok : Nat → Prop} {xs : List α}
end
section
variable {P : Program} {ops : Array Oper} {rest : List Oper} {o : Oper} {a : Act} {Q : Exit → Act → World → Prop}
theorem event_run {W w1 : World} {v : Value} (hgd : o.guard = none) (hrun : (execOp a.eval o).run P W = .ok (.value v) w1) (h : wpList P ops Q rest (a.put o.dst v) w1) : wpList P ops Q (o :: rest) a W := by
  refine wpList_plain hgd fun K hK => ?_
  unfold Oper.wp
  rw [hrun]
  exact hK _ _ h
variable {α : Type}
theorem R_lit (d : Kd α) {w0 W : World} (base e : Nat) (hgd : o.guard = none) {N : Tmp} (_hd : o.dst = some N) {xs : List α} {inner : List Value} {ok okp : Nat → Prop}
    (hrun : (execOp a.eval o).run P W = .ok (.value (.slice (some ⟨W.heap.size, 0, none⟩) xs.length xs.length)) (W.alloc (.cells inner.toArray e)))
    (hrep : Reps (d.M W base okp) d.sz xs inner) (hok : ∀ k, okp k → ok k) (hfresh : ok W.heap.size) (HB : Below base w0 W) (hbase : base ≤ W.heap.size) (hm : xs.length ≤ 9223372036854775807)
    (h : ∀ v1 w1, d.R e w1 base ok v1 xs → Below base w0 w1 → W.grownBy w1 none → (∃ b, v1.ownBlock = some b ∧ W.heap.size ≤ b) → wpList P ops Q rest (a.put o.dst v1) w1) : wpList P ops Q (o :: rest) a W := by
  refine event_run hgd hrun (h _ _ ⟨fun k hk => ?_, inner, ?_, ?_⟩ (HB.alloc hbase _) (World.grownBy_alloc W _ none) ⟨W.heap.size, by simp [Value.ownBlock], Nat.le_refl _⟩)
  · have : W.heap.size = k := by simpa [Value.ownBlock] using hk
    subst this
    exact hfresh
  · have h2 := World.ownsRow_lit (base := base) (e := e) (size := d.sz) W inner.toArray xs.length hbase (by simpa [maxLen] using hm) (by simpa using hrep.1)
    simpa using h2
  · refine hrep.imp_ (fun p c hp => d.M_mono (fun k hk => ⟨hok k hk.1, fun he => ?_⟩) (M_below (d.M_bound hp) (below_alloc (Below.refl _ _) _)))
    have h3 : k = W.heap.size := by simpa [Value.ownBlock] using he
    have := hk.2.2.1
    omega
end
end Kd
section
variable {P : Program}
end
def QRow (w : World) (base : Nat) (e : TypeId) (size : Nat) (v : Value) (n : Nat) (xs : List Value) : Prop :=
  xs.length = n * size ∧
  ((n = 0 ∧ ∃ A, v = .slice A 0 0 ∧ ∀ a, A = some a → base ≤ a.block ∧ ∃ cur, w.heap[a.block]? = some (.cells cur e (0, 0))) ∨
   ∃ g off cap cur, v = .slice (some ⟨g, off * size, none⟩) n cap ∧ base ≤ g ∧ w.heap[g]? = some (.cells cur e (0, 0)) ∧ n ≤ cap ∧ off + cap ≤ maxLen ∧ cur.size = (off + cap) * size ∧ (cur.toList.drop (off * size)).take (n * size) = xs)
section
variable {w w1 : World} {base n size : Nat} {e : TypeId} {v : Value} {xs : List Value}
theorem q_of_own (h : w.ownsRow base e size v n xs) : QRow w base e size v n xs := by
  obtain ⟨h1, h2⟩ := h
  refine ⟨h1, ?_⟩
  rcases h2 with ⟨rfl, h0⟩ | ⟨g, cap, cur, rfl, hb, hh, hnc, hcm, hcs, ht⟩
  · exact .inl ⟨h0, none, rfl, fun a ha => by cases ha⟩
  · exact .inr ⟨g, 0, cap, cur, by rw [Nat.zero_mul], hb, hh, hnc, by rw [Nat.zero_add]; exact hcm, by rw [Nat.zero_add]; exact hcs, by rw [Nat.zero_mul, List.drop_zero]; exact ht⟩
end
section
variable {P : Program}
end
namespace Kd
def Q {α : Type} (d : Kd α) (e : Nat) (w : World) (base : Nat) (ok : Nat → Prop) (v : Value) (xs : List α) : Prop :=
  (∀ k, v.ownBlock = some k → ok k) ∧ ∃ inner, QRow w base e d.sz v xs.length inner ∧ Reps (d.M w base (fun k => ok k ∧ some k ≠ v.ownBlock)) d.sz xs inner
section
variable {α : Type} {d : Kd α} {e : Nat} {w w1 W : World} {base : Nat} {ok ok' : Nat → Prop} {v : Value} {xs : List α}
theorem Q_of_R (h : d.R e w base ok v xs) : d.Q e w base ok v xs := by
  obtain ⟨h0, inner, ho, hr⟩ := h
  exact ⟨h0, inner, q_of_own ho, hr⟩
theorem Q_nil (d : Kd α) (e : Nat) (w : World) (base : Nat) (ok : Nat → Prop) : d.Q e w base ok (.slice none 0 0) [] := Q_of_R (R_nil d e w base ok)
end
section
variable {P : Program} {ops : Array Oper} {rest : List Oper} {o : Oper} {a : Act} {Q' : Exit → Act → World → Prop} {Kc : Act → World → Prop} {α : Type}
end
end Kd
namespace Kd
section
variable {α : Type} {d : Kd α} {e e' : Nat} {w w1 W : World} {base : Nat} {ok : Nat → Prop} {u v : Value} {xs : List α}
theorem R_elder' (hu : d.R e W base ok u xs) (hbase : ∀ k, v.ownBlock = some k → W.heap.size ≤ k) (hb : Below W.heap.size W w1) : d.R e w1 base (fun k => ok k ∧ some k ≠ v.ownBlock) u xs :=
  R_mono (R_move (R_bound hu) (fun k hk => hb.block k hk.2.2.1)) (fun k hk => ⟨hk.1, fun he => by have := hbase k he.symm; have := hk.2.2.1; omega⟩)
theorem R_new' (h : d.R e w1 W.heap.size ok v xs) (hlt : ∀ k, u.ownBlock = some k → k < W.heap.size) : d.R e w1 W.heap.size (fun k => ok k ∧ some k ≠ u.ownBlock) v xs :=
  R_mono (R_bound h) (fun k hk => ⟨hk.1, fun he => by have := hlt k he.symm; have := hk.2.1; omega⟩)
end
end Kd
namespace Kd
section
variable {α : Type} {d : Kd α} {e base g n cap : Nat} {ok okp : Nat → Prop} {W : World} {xs : List α}
end
end Kd
namespace Kd
section
variable {α : Type} {F : Kd α → Kd α} {sz : Nat} {E : List Nat} {hs : ∀ n, (upto F sz E n).sz = sz} {hE : ∀ n q, q ∈ (upto F sz E n).E → q ∈ E}
end
end Kd
namespace Kd
section
variable {P : Program} {ops : Array Oper} {rest : List Oper} {o : Oper} {a : Act} {Q : Exit → Act → World → Prop} {α : Type}
end
end Kd
namespace Kd
section
variable {P : Program} {ops : Array Oper} {rest : List Oper} {o : Oper} {a : Act} {Q : Exit → Act → World → Prop} {α : Type}
end
end Kd
namespace Kd
section
variable {α : Type} {k : Kd α} {w : World} {A : Option Addr} {xs : List α} {m c : Nat}
end
end Kd
section
variable {P : Program}
end
theorem below_size {w W : World} (h : Below w.heap.size w W) : w.heap.size ≤ W.heap.size := h.size
theorem below_step {w W w2 : World} (h : Below w.heap.size w W) (k : Below W.heap.size W w2) : Below w.heap.size w w2 := below_then h h.size k
theorem ReadsInt.nil (W : World) (k : IntKind) : ReadsInt W k none ([] : List Int).length [] := ⟨rfl, by simp, fun h => absurd h (Nat.lt_irrefl 0)⟩
theorem ReadsInt.drewN {W : World} {k : IntKind} {A : Option Addr} {n : Nat} {xs : List Int} (h : ReadsInt W k A n xs) (m : Nat) : ReadsInt (W.drewN m) k A n xs := h
theorem ReadsOf.nil {α : Type} (enc : α → Value) (d : α) (W : World) : ReadsOf enc d W none ([] : List α).length [] := ⟨rfl, by simp, fun h => absurd h (Nat.lt_irrefl 0)⟩
theorem ReadsOf.drewN {α : Type} {enc : α → Value} {d : α} {W : World} {A : Option Addr} {n : Nat} {xs : List α} (h : ReadsOf enc d W A n xs) (m : Nat) : ReadsOf enc d (W.drewN m) A n xs := h
theorem below_drew1 {base : Nat} {w W : World} (h : Below base w W) : Below base w W.drew := h.drew
namespace Kd
section
variable {α β : Type} {d : Kd α} {d' : Kd β} {e e' base base' n : Nat} {ok ok' : Nat → Prop} {w W w1 W1 : World} {v u : Value} {xs : List α} {ys : List β} {A : Option Addr} {c : Nat}
end
section
variable {α : Type} {enc : α → Value} {h1 : ∀ x, (enc x).oneCell' = true} {w W : World} {A : Option Addr} {n g : Nat} {xs : List α}
end
end Kd
namespace Kd
section
variable {α : Type} {d : Kd α} {e base g : Nat} {ok : Nat → Prop} {w w1 : World} {v : Value} {xs : List α} {o : Obj}
end
end Kd
section
variable {P : Program} {ops : Array Oper} {rest : List Oper} {o : Oper} {a : Act} {Q : Exit → Act → World → Prop}
end
namespace Kd
section
variable {α : Type} {enc : α → Value} {h1 : ∀ x, (enc x).oneCell' = true} {e base g n cap : Nat} {ok : Nat → Prop} {W : World} {xs : List α}
end
end Kd
section
variable {P : Program} {ops : Array Oper} {rest : List Oper} {o : Oper} {a : Act} {Q : Exit → Act → World → Prop}
end
namespace Kd
section
variable {α : Type} {enc : α → Value} {h1 : ∀ x, (enc x).oneCell' = true} {e base g n cap : Nat} {ok : Nat → Prop} {W : World} {xs : List α}
end
end Kd
section
variable {P : Program} {ops : Array Oper} {rest : List Oper} {o : Oper} {a : Act} {Q : Exit → Act → World → Prop} {W : World}
theorem gate_dst {N : Tmp} (_hN : o.dst = some N) (h : wpList P ops Q (o :: rest) a W) : wpList P ops Q (o :: rest) a W := h
end
section
variable {P : Program} {ops : Array Oper} {o : Oper} {a : Act} {Q : Exit → Act → World → Prop} {Kc : Act → World → Prop}
namespace Kd
variable {α : Type}
end Kd
end
section
variable {P : Program} {tmps : Array Value} {w : World}
end
namespace Kd
section
variable {P : Program} {α : Type}
end
section
variable {P : Program} {ops : Array Oper} {rest : List Oper} {o : Oper} {a : Act} {Q : Exit → Act → World → Prop} {Kc : Act → World → Prop} {α : Type}
end
end Kd
end Go.Proofs.YtpcncpegbboljaaGreatDoorW.PrintWords
namespace Go.Proofs.YtpcncpegbboljaaGreatDoorW.PrintLast
section
variable {P : Program} {ops : Array Oper} {Q : Exit → Act → World → Prop} {md : Region.Mode} {S : World → Prop} {ds : List Nat}
def ListedClosed (md : Region.Mode) (ops : Array Oper) (listed : Array Bool) : Prop :=
  ∀ j oj, ops[j]? = some oj → listed.getD j false = true → ∀ e ∈ oj.after, Region.binds md e = true → listed.getD e.on false = true
theorem ListedClosed.set {listed : Array Bool} {i : Nat} (h : ListedClosed md ops listed) (hi : i ∈ Region.ready md ops listed) : ListedClosed md ops (listed.setIfInBounds i true) := by
  obtain ⟨_, oi, hoi, hall⟩ := mem_ready.1 hi
  intro j oj hj hl e he hb
  by_cases hij : i = j
  · subst hij
    have : oj = oi := Option.some.inj (hj.symm.trans hoi)
    subst this
    exact getD_set_true (hall e he hb)
  · rw [getD_set_ne false hij] at hl
    exact getD_set_true (h j oj hj hl e he hb)
def wpAnyLast (P : Program) (md : Region.Mode) (ops : Array Oper) (Q : Exit → Act → World → Prop) (S : World → Prop) (ds : List Nat) : Nat → Array Bool → Act → World → Prop
  | 0, listed, a, w => Region.ready md ops listed = [] ∧ Q .normal a w
  | fuel + 1, listed, a, w =>
    (Region.ready md ops listed = [] → Q .normal a w) ∧
    ∀ i ∈ Region.ready md ops listed, wpOp P ops Q i (fun a' w' => (i ∉ ds → S w → S w') ∧ wpAnyLast P md ops Q S ds fuel (listed.setIfInBounds i true) a' w') a w
end
section
variable {P : Program} {ops : Array Oper} {Q : Exit → Act → World → Prop} {md : Region.Mode} {S : World → Prop} {ds : List Nat}
def AllReadyL (P : Program) (md : Region.Mode) (ops : Array Oper) (Q : Exit → Act → World → Prop) (S : World → Prop) (ds : List Nat) (fuel : Nat) (listed : Array Bool) (a : Act) (w : World) (rs : List Nat) : Prop :=
  ∀ i ∈ rs, wpOp P ops Q i (fun a' w' => (i ∉ ds → S w → S w') ∧ wpAnyLast P md ops Q S ds fuel (listed.setIfInBounds i true) a' w') a w
theorem AllReadyL.nil {fuel : Nat} {listed : Array Bool} {a : Act} {w : World} : AllReadyL P md ops Q S ds fuel listed a w [] := fun _ h => by cases h
theorem enters_ {f : FuncId} {fn : Func} (hf : P.funcs[f]? = some fn) (hname : (fn.name == "runtime.NumGoroutine") = false) (hb : fn.body.isSome = true) (args : Array Value) (w : World) : (callFunc f args).run P w = .ok (.enter f args) w := by
  have h1 : fn.name ≠ "runtime.NumGoroutine" := by simpa using hname
  obtain ⟨c, hc⟩ := Option.isSome_iff_exists.1 hb
  simp [callFunc, hf, h1, hc]
theorem goesL_ {rest : List Oper} {oi : Oper} {a : Act} {w : World} (N : Option Tmp) (hd : oi.dst = N) (hg : oi.guard = none) {f : FuncId} {fn : Func} {as0 : Array Operand} {ts : Array TypeId} (hf : P.funcs[f]? = some fn) (hname : (fn.name == "runtime.NumGoroutine") = false) (hb : fn.body.isSome = true) (args : Array Value)
    (hop : oi.op = .call { callee := .value (.func f), args := as0, argTypes := ts }) (hargs : as0.map a.eval = args)
    (h : Calls P f args w fun e w' => ∃ v, e = .returned v ∧ wpList P ops Q rest (a.put N v) w') : wpList P ops Q (oi :: rest) a w := by
  refine wpList_plain hg fun K hK => ?_
  have he := enters_ hf hname hb args w
  have hrun : (execOp a.eval oi).run P w = .ok (.enter f args) w := by
    unfold execOp
    simp [hop, resolve, Deferred.ofValue, invoke, Act.eval, hargs, he]
  unfold Oper.wp
  rw [hrun, Oper.upon_enter]
  refine h.mono fun e w'' hh => ?_
  obtain ⟨v, rfl, hk⟩ := hh
  subst hd
  exact hK _ _ hk
theorem i64_w (n : Int) : IntKind.i64.wrap n = Go.RowKit.wrap64 n := by unfold Go.RowKit.wrap64; exact IntKind.wrap_i64 n
theorem i32_w (n : Int) : IntKind.i32.wrap n = Go.RowKit.wrap32 n := by unfold Go.RowKit.wrap32; exact IntKind.wrap_i32 n
end
end Go.Proofs.YtpcncpegbboljaaGreatDoorW.PrintLast
namespace Go.Proofs.YtpcncpegbboljaaGreatDoorW.PrintWords
open Go.RowKit
namespace Kd
def tag {α : Type} (f : Nat → Nat) (d : Kd α) : Kd (α × Nat) where
  sz := d.sz
  E := d.E
  K := fun w x cs => d.K w x.1 cs
  M := fun w base ok x cs => d.M w base (fun k => ok k ∧ f k = x.2) x.1 cs
  K_len := fun h => d.K_len h
  K_one := fun h => d.K_one h
  K_below := fun hb h => d.K_below hb h
  K_of_M := fun h => d.K_of_M h
  M_mono := fun hok h => d.M_mono (fun k hk => ⟨hok k hk.1, hk.2⟩) h
  M_bound := fun h => d.M_mono (fun _ hk => ⟨⟨hk.1.1, hk.2⟩, hk.1.2⟩) (d.M_bound h)
  M_move := fun hm h => d.M_move (fun k hk => hm k hk.1) h
  M_lower := fun hb h => d.M_lower hb h
def raw (sz : Nat) : Kd (List Value) where
  sz := sz
  E := []
  K := fun _ x cs => cs = x ∧ cs.length = sz ∧ ∀ u ∈ cs, u.oneCell' = true
  M := fun _ _ _ x cs => cs = x ∧ cs.length = sz ∧ ∀ u ∈ cs, u.oneCell' = true
  K_len := fun h => h.2.1
  K_one := fun h => h.2.2
  K_below := fun _ h => h
  K_of_M := fun h => h
  M_mono := fun _ h => h
  M_bound := fun h => h
  M_move := fun _ h => h
  M_lower := fun _ h => h
def S {α : Type} (d : Kd α) (e : Nat) (w : World) (base : Nat) (ok : Nat → Prop) (v : Value) (xs : List α) : Prop := ∃ f, (tag f d).R e w base ok v xs.zipIdx
section
variable {α β : Type} {d : Kd α} {d' : Kd β} {e e' : Nat} {w w1 W : World} {base b : Nat} {ok ok' okv oku : Nat → Prop} {u v : Value} {xs : List α} {ys : List β}
theorem S_nil (d : Kd α) (e : Nat) (w : World) (base : Nat) (ok : Nat → Prop) : S d e w base ok (.slice none 0 0) [] := ⟨fun _ => 0, R_nil _ _ _ _ _⟩
end
section
variable {α β : Type} {d : Kd α} {d' : Kd β} {e e' g : Nat} {w w1 W : World} {base b : Nat} {ok ok' okv oku : Nat → Prop} {u v : Value} {xs : List α} {ys : List β}
end
section
variable {P : Program} {ops : Array Oper} {rest : List Oper} {o : Oper} {a : Act} {Q : Exit → Act → World → Prop} {Kc : Act → World → Prop} {α : Type}
end
def gap {α : Type} (f : Nat → Nat) (d : Kd α) (i : Nat) (c : List Value) : Kd (α × Nat) where
  sz := d.sz
  E := d.E
  K := fun w x cs => (x.2 = i → cs = c ∧ cs.length = d.sz ∧ ∀ u ∈ cs, u.oneCell' = true) ∧ (x.2 ≠ i → d.K w x.1 cs)
  M := fun w base ok x cs => (x.2 = i → cs = c ∧ cs.length = d.sz ∧ ∀ u ∈ cs, u.oneCell' = true) ∧ (x.2 ≠ i → d.M w base (fun k => ok k ∧ f k = x.2) x.1 cs)
  K_len := fun {w x cs} h => by
    by_cases hx : x.2 = i
    · exact (h.1 hx).2.1
    · exact d.K_len (h.2 hx)
  K_one := fun {w x cs} h => by
    by_cases hx : x.2 = i
    · exact (h.1 hx).2.2
    · exact d.K_one (h.2 hx)
  K_below := fun hb h => ⟨h.1, fun hx => d.K_below hb (h.2 hx)⟩
  K_of_M := fun h => ⟨h.1, fun hx => d.K_of_M (h.2 hx)⟩
  M_mono := fun hok h => ⟨h.1, fun hx => d.M_mono (fun k hk => ⟨hok k hk.1, hk.2⟩) (h.2 hx)⟩
  M_bound := fun h => ⟨h.1, fun hx => d.M_mono (fun _ hk => ⟨⟨hk.1.1, hk.2⟩, hk.1.2⟩) (d.M_bound (h.2 hx))⟩
  M_move := fun hm h => ⟨h.1, fun hx => d.M_move (fun k hk => hm k hk.1) (h.2 hx)⟩
  M_lower := fun hb h => ⟨h.1, fun hx => d.M_lower hb (h.2 hx)⟩
def H {α : Type} (d : Kd α) (e : Nat) (w : World) (base : Nat) (ok : Nat → Prop) (v : Value) (xs : List α) (i : Int) (oki : Nat → Prop) (c : List Value) : Prop :=
  (∀ k, oki k → ok k) ∧ ∃ f, (gap f d i.toNat c).R e w base (fun k => ok k ∧ ¬ oki k) v xs.zipIdx
section
variable {α β : Type} {d : Kd α} {e e' g n cap : Nat} {w w1 W : World} {base : Nat} {ok ok' oki okp : Nat → Prop} {u v : Value} {xs : List α} {i : Int} {c : List Value}
end
section
variable {P : Program} {ops : Array Oper} {rest : List Oper} {o : Oper} {a : Act} {Q : Exit → Act → World → Prop} {α : Type}
end
end Kd
end Go.Proofs.YtpcncpegbboljaaGreatDoorW.PrintWords
namespace Go.Proofs.YtpcncpegbboljaaGreatDoorW.PrintWords
open Go.RowKit
namespace Kd
structure Heap {α : Type} (d : Kd α) : Prop where
  K : ∀ {w w1 : World} {x : α} {cs : List Value}, (∀ k, k < w.heap.size → w1.heap[k]? = w.heap[k]?) → d.K w x cs → d.K w1 x cs
theorem cell_heap {w w1 : World} (hb : ∀ k, k < w.heap.size → w1.heap[k]? = w.heap[k]?) {a : Addr} {v : Value} (h : w.cell? a = some v) : w1.cell? a = some v := by
  have := hb a.block (World.block_lt_of_cell? w a h)
  simpa [World.cell?, this] using h
theorem Heap.C {α : Type} {d : Kd α} (hd : Heap d) {w w1 : World} {A : Option Addr} {n : Nat} {xs : List α} (hb : ∀ k, k < w.heap.size → w1.heap[k]? = w.heap[k]?) (h : d.C w A n xs) : d.C w1 A n xs :=
  ⟨h.1, h.2.1, fun hn => by
    obtain ⟨ad, e, hc⟩ := h.2.2 hn
    refine ⟨ad, e, fun j p hj => ?_⟩
    obtain ⟨c, hs, hr, hcell⟩ := hc j p hj
    exact ⟨c, hs, hd.K hb hr, fun i u hu => cell_heap hb (hcell i u hu)⟩⟩
section
variable {α : Type} {d : Kd α} {e base g n c : Nat} {ok : Nat → Prop} {w w0 W : World} {A : Option Addr} {xs : List α}
end
end Kd
end Go.Proofs.YtpcncpegbboljaaGreatDoorW.PrintWords
namespace Go.Proofs.YtpcncpegbboljaaGreatDoorW.PrintWords
open Go.RowKit
def Kept (w W : World) (S : Nat → Prop) : Prop := w.heap.size ≤ W.heap.size ∧ ∀ i, i < w.heap.size → ¬ S i → W.heap[i]? = w.heap[i]?
section
variable {w W W2 : World} {S S2 S' : Nat → Prop}
theorem Kept.refl (w : World) (S : Nat → Prop) : Kept w w S := ⟨Nat.le_refl _, fun _ _ _ => rfl⟩
theorem Kept.of_below (h : Below w.heap.size w W) (S : Nat → Prop) : Kept w W S := ⟨h.size, fun i hi _ => h.block i hi⟩
theorem Kept.then_ (h : Kept w W S) (k : Kept W W2 S2) (hs : ∀ k, S2 k → S k ∨ w.heap.size ≤ k) : Kept w W2 S :=
  ⟨Nat.le_trans h.1 k.1, fun i hi hn => (k.2 i (Nat.lt_of_lt_of_le hi h.1) (fun h2 => (hs i h2).elim hn (fun h3 => by omega))).trans (h.2 i hi hn)⟩
theorem Kept.below (h : Kept w W S) (hb : Below W.heap.size W W2) : Kept w W2 S := h.then_ (Kept.of_below hb (fun _ => False)) (fun _ hk => hk.elim)
theorem Kept.alloc (h : Kept w W S) (o : Obj) : Kept w (W.alloc o) S := h.below (below_alloc (Below.refl _ _) o)
theorem Kept.drew (h : Kept w W S) : Kept w W.drew S := h
theorem Kept.drewN (h : Kept w W S) (m : Nat) : Kept w (W.drewN m) S := h
theorem Kept.setCell (h : Kept w W S) {p : Addr} (hp : S p.block ∨ w.heap.size ≤ p.block) (u : Value) : Kept w (W.setCell p u) S :=
  h.then_ (S2 := fun k => k = p.block) ⟨by simp [World.setCell], fun i _ hn => Below.heap_setCell W p u i hn⟩ (fun k hk => by rw [hk]; exact hp)
end
namespace Kd
section
variable {α : Type} {d : Kd α} {e base n c : Nat} {ok oki S S2 : Nat → Prop} {w w0 W W1 W2 : World} {v : Value} {A : Option Addr} {xs : List α} {i : Int} {cs : List Value}
end
end Kd
end Go.Proofs.YtpcncpegbboljaaGreatDoorW.PrintWords
namespace Go.Proofs.YtpcncpegbboljaaGreatDoorW.PrintWords
open Go.RowKit
def Foot (P : World → Prop) (W : World) (ok : Nat → Prop) : Prop := ∀ W' : World, (∀ k, ok k → k < W.heap.size → W'.heap[k]? = W.heap[k]?) → P W'
theorem heap_lt {W W1 : World} {k : Nat} (h : W1.heap[k]? = W.heap[k]?) (hlt : k < W.heap.size) : k < W1.heap.size := by
  rw [Array.getElem?_eq_getElem hlt] at h
  exact (Array.getElem?_eq_some_iff.1 h).1
namespace Foot
variable {P Q : World → Prop} {W W1 : World} {ok ok' : Nat → Prop}
theorem now (h : Foot P W ok) : P W := h W (fun _ _ _ => rfl)
theorem mono (h : Foot P W ok) (hok : ∀ k, ok k → ok' k) : Foot P W ok' := fun W' hW => h W' (fun k hk hlt => hW k (hok k hk) hlt)
theorem bound (h : Foot P W ok) : Foot P W (fun k => ok k ∧ k < W.heap.size) := fun W' hW => h W' (fun k hk hlt => hW k ⟨hk, hlt⟩ hlt)
theorem step (h : Foot P W ok) (hm : ∀ k, ok k → k < W.heap.size → W1.heap[k]? = W.heap[k]?) : Foot P W1 ok := fun W' hW => h W' (fun k hk hlt => (hW k hk (heap_lt (hm k hk hlt) hlt)).trans (hm k hk hlt))
theorem imp (h : Foot P W ok) (hi : ∀ W', P W' → Q W') : Foot Q W ok := fun W' hW => hi W' (h W' hW)
theorem old (h : Foot P W ok) (hb : Below W.heap.size W W1) : Foot P W1 (fun k => ok k ∧ k < W.heap.size) := (h.bound).step (fun k _ hlt => hb.block k hlt)
end Foot
namespace Kd
def F {α : Type} (d : Kd α) (W : World) (ok : Nat → Prop) (A : Option Addr) (n : Nat) (xs : List α) : Prop := Foot (fun W => d.C W A n xs) W ok
def FK {α : Type} (d : Kd α) (W : World) (ok : Nat → Prop) (x : α) (c : List Value) : Prop := Foot (fun W => d.K W x c) W ok
section
variable {α β : Type} {d : Kd α} {e base n n' cc g N : Nat} {ok ok' okp S : Nat → Prop} {w w0 w1 W W1 : World} {A A' : Option Addr} {u v v1 : Value} {xs : List α} {xs' : List β} {d' : Kd β} {x : α} {c : List Value}
theorem F_nil (d : Kd α) (W : World) (ok : Nat → Prop) : F d W ok none ([] : List α).length [] := fun W' _ => C_nil d W'
theorem FK_of_M (h : d.M W base ok x c) : FK d W ok x c := fun _ hW => d.K_of_M (M_step h hW)
end
end Kd
end Go.Proofs.YtpcncpegbboljaaGreatDoorW.PrintWords
namespace Go.Proofs.YtpcncpegbboljaaGreatDoorW.PrintWords
open Go.RowKit
namespace Kd
def chunks (sz : Nat) (n : Nat) (inner : List Value) : List (List Value) := (List.range n).map fun j => (inner.drop (j * sz)).take sz
theorem chunks_length (sz n : Nat) (inner : List Value) : (chunks sz n inner).length = n := by simp [chunks]
theorem chunks_at {sz n : Nat} {inner : List Value} {j : Nat} (hj : j < n) : (chunks sz n inner)[j]? = some ((inner.drop (j * sz)).take sz) := by simp [chunks, hj]
theorem chunks_get {sz n : Nat} {inner : List Value} {j : Nat} {c : List Value} (h : (chunks sz n inner)[j]? = some c) : c = (inner.drop (j * sz)).take sz := by
  have hj : j < n := by have := (List.getElem?_eq_some_iff.1 h).1; rwa [chunks_length] at this
  rw [chunks_at hj] at h
  injection h with h
  exact h.symm
theorem reps_raw {α : Type} {Rr : α → List Value → Prop} {sz : Nat} {xs : List α} {inner : List Value} (h : Reps Rr sz xs inner) (hR : ∀ x c, Rr x c → c.length = sz ∧ ∀ u ∈ c, u.oneCell' = true) : Reps (fun x cs => cs = x ∧ cs.length = sz ∧ ∀ u ∈ cs, u.oneCell' = true) sz (chunks sz xs.length inner) inner := by
  refine ⟨by rw [chunks_length]; exact h.1, fun j p hj => ?_⟩
  have hjl : j < xs.length := by have := (List.getElem?_eq_some_iff.1 hj).1; rwa [chunks_length] at this
  have hp := chunks_get hj
  exact ⟨hp.symm, hR _ _ (h.2 j _ (List.getElem?_eq_getElem hjl))⟩
section
variable {α : Type} {d : Kd α} {e base n cc g : Nat} {ok ok' okp S : Nat → Prop} {w w1 W W1 : World} {A : Option Addr} {u v v1 : Value} {xs : List α} {x : α} {c : List Value}
def N {α : Type} (d : Kd α) (e : Nat) (w : World) (base : Nat) (ok : Nat → Prop) (v : Value) (xs : List α) : Prop :=
  (∀ k, v.ownBlock = some k → ok k) ∧ ∃ rows : List (List Value), rows.length = xs.length ∧ (raw d.sz).R e w base (fun k => some k = v.ownBlock) v rows ∧ ∀ (j : Nat) (x : α) (c : List Value), xs[j]? = some x → rows[j]? = some c → FK d w (fun k => ok k ∧ some k ≠ v.ownBlock) x c
theorem R_N (h : d.R e w base ok v xs) : N d e w base ok v xs := by
  obtain ⟨h0, inner, ho, hr⟩ := h
  refine ⟨h0, chunks d.sz xs.length inner, chunks_length _ _ _, ⟨fun k hk => hk.symm, inner, by rw [chunks_length]; exact ho, reps_raw hr (fun x c hp => ⟨d.K_len (d.K_of_M hp), d.K_one (d.K_of_M hp)⟩)⟩, fun j x c hx hc => ?_⟩
  rw [chunks_get hc]
  exact FK_of_M (hr.2 j x hx)
theorem N_nil (d : Kd α) (e : Nat) (w : World) (base : Nat) (ok : Nat → Prop) : N d e w base ok (.slice none 0 0) [] := R_N (R_nil _ _ _ _ _)
end
end Kd
end Go.Proofs.YtpcncpegbboljaaGreatDoorW.PrintWords
namespace Go.Proofs.YtpcncpegbboljaaGreatDoorW.PrintWords
open Go.RowKit
section
variable {P : Program} {d : Nat} {xs ys : Array Value} {f : Field} {fs : List Field} {a b : Value} {r s : Bool} {w : World}
theorem eqf_last (hn : (f.name == "_") = false) (ha : (part f.type xs f.offset).run P w = .ok a w) (hb : (part f.type ys f.offset).run P w = .ok b w) (he : (Op.equalIn d f.type a b).run P w = .ok r w) : (Op.eqFields d xs ys [f]).run P w = .ok r w := by
  have hn' : f.name ≠ "_" := by simpa using hn
  simp only [Op.eqFields, if_pos hn', Sem.run_bind, ha, hb, he, Result.andThen_ok]
  cases r <;> simp
theorem eqf_cons (hn : (f.name == "_") = false) (ha : (part f.type xs f.offset).run P w = .ok a w) (hb : (part f.type ys f.offset).run P w = .ok b w) (he : (Op.equalIn d f.type a b).run P w = .ok r w) (hr : (Op.eqFields d xs ys fs).run P w = .ok s w) : (Op.eqFields d xs ys (f :: fs)).run P w = .ok (r && s) w := by
  have hn' : f.name ≠ "_" := by simpa using hn
  rw [Op.eqFields]
  simp only [if_pos hn', Sem.run_bind, ha, hb, he, Result.andThen_ok]
  cases r
  · simp
  · simpa using hr
theorem eqA_of {t : TypeId} {fs : Array Field} (hu : P.underlying t = some (.struct fs)) (hp : P.stoodInHeld t = false) (h : (Op.eqFields d xs ys fs.toList).run P w = .ok r w) : (Op.equalIn (d + 1) t (.agg xs) (.agg ys)).run P w = .ok r w := by
  have hf : P.fieldsOf t = fs := by simp [Program.fieldsOf, hu]
  rw [run_equalIn_struct (P := P) w d t xs ys (by rw [hf]; exact hu) hp, hf]
  exact h
end
end Go.Proofs.YtpcncpegbboljaaGreatDoorW.PrintWords
namespace Go.Proofs.YtpcncpegbboljaaGreatDoorW.PrintWords
theorem Reps.front {α : Type} {R : α → List Value → Prop} {size : Nat} {ps : List α} {cs c all : List Value} {p : α} (hp : R p c) (hc : c.length = size) (h : Reps R size ps cs) (ha : c ++ cs = all) : Reps R size (p :: ps) all := by
  subst ha
  refine ⟨by rw [List.length_append, hc, h.1, List.length_cons, Nat.succ_mul, Nat.add_comm], fun j q hq => ?_⟩
  cases j with
  | zero =>
    simp only [List.getElem?_cons_zero, Option.some.injEq] at hq
    subst hq
    rw [Nat.zero_mul, List.drop_zero, List.take_append_of_le_length (by omega), List.take_of_length_le (by omega)]
    exact hp
  | succ j =>
    simp only [List.getElem?_cons_succ] at hq
    have h1 := h.2 j q hq
    rw [Nat.succ_mul, List.drop_append, List.drop_of_length_le (by rw [hc]; exact Nat.le_add_left _ _), List.nil_append, hc, Nat.add_sub_cancel]
    exact h1
theorem Reps.c2 {α : Type} {R : α → List Value → Prop} {ps : List α} {cs : List Value} {p : α} {va vb : Value} (hp : R p [va, vb]) (h : Reps R 2 ps cs) : Reps R 2 (p :: ps) (va :: vb :: cs) := Reps.front hp rfl h rfl
end Go.Proofs.YtpcncpegbboljaaGreatDoorW.PrintWords
namespace Go.Proofs.YtpcncpegbboljaaGreatDoorW.PrintLast
def up (b : Nat → Bool) (i : Nat) : Nat → Bool := fun j => if j = i then true else b j
section
variable {P : Program} {ops : Array Oper} {Q : Exit → Act → World → Prop} {md : Region.Mode} {T : Bool × List (List Nat × List Nat)} {B : List Nat} {O : List Nat} {b : Nat → Bool} {i j n : Nat}
end
end Go.Proofs.YtpcncpegbboljaaGreatDoorW.PrintLast
namespace Go.Proofs.YtpcncpegbboljaaGreatDoorW.PrintWords
open Go.RowKit
theorem own_apart {v1 v2 : Value} {n : Nat} (hlt : ∀ k, v1.ownBlock = some k → k < n) (hge : ∀ k, v2.ownBlock = some k → n ≤ k) : v1.ownBlock = none ∨ v1.ownBlock ≠ v2.ownBlock := by
  cases h : v1.ownBlock with
  | none => exact .inl rfl
  | some k => exact .inr (fun e => by have := hlt k h; have := hge k e.symm; omega)
end Go.Proofs.YtpcncpegbboljaaGreatDoorW.PrintWords
namespace Go.Proofs.YtpcncpegbboljaaGreatDoorW.PrintLast
section
variable {ops : Array Oper} {a : Act} {o og : Oper} {g : Nat} {t : Tmp} {u : Bool}
end
end Go.Proofs.YtpcncpegbboljaaGreatDoorW.PrintLast
namespace Go.Proofs.YtpcncpegbboljaaGreatDoorW.PrintMore
open Go.RowKit Go.Proofs.YtpcncpegbboljaaGreatDoorW.PrintWords
namespace Kd
open Go.Proofs.YtpcncpegbboljaaGreatDoorW.PrintWords.Kd
end Kd
namespace Kd
open Go.Proofs.YtpcncpegbboljaaGreatDoorW.PrintWords.Kd
section
variable {α : Type} {d : Kd α} {e base g N : Nat} {ok : Nat → Prop} {W w1 : World} {u v : Value} {xs : List α}
end
end Kd
theorem max2_int (k k' : IntKind) (x y : Int) : Builtin.max2 (.int k x) (.int k' y) = pure (.int k (if x < y then y else x)) := by simp only [Builtin.max2, gt_iff_lt]
theorem min2_int (k k' : IntKind) (x y : Int) : Builtin.min2 (.int k x) (.int k' y) = pure (.int k (if y < x then y else x)) := by simp only [Builtin.min2]
theorem max_two (ats : Array TypeId) (ty : TypeId) (a b : Value) : Builtin.max_ ats ty #[a, b] = (Builtin.max2 a b >>= fun s => pure s) := by simp only [Builtin.max_, List.foldlM_cons, List.foldlM_nil]
theorem min_two (ats : Array TypeId) (ty : TypeId) (a b : Value) : Builtin.min_ ats ty #[a, b] = (Builtin.min2 a b >>= fun s => pure s) := by simp only [Builtin.min_, List.foldlM_cons, List.foldlM_nil]
theorem max_three (ats : Array TypeId) (ty : TypeId) (a b c : Value) : Builtin.max_ ats ty #[a, b, c] = (Builtin.max2 a b >>= fun s => Builtin.max2 s c >>= fun s => pure s) := by simp only [Builtin.max_, List.foldlM_cons, List.foldlM_nil]
theorem min_three (ats : Array TypeId) (ty : TypeId) (a b c : Value) : Builtin.min_ ats ty #[a, b, c] = (Builtin.min2 a b >>= fun s => Builtin.min2 s c >>= fun s => pure s) := by simp only [Builtin.min_, List.foldlM_cons, List.foldlM_nil]
theorem max_four (ats : Array TypeId) (ty : TypeId) (a b c d : Value) : Builtin.max_ ats ty #[a, b, c, d] = (Builtin.max2 a b >>= fun s => Builtin.max2 s c >>= fun s => Builtin.max2 s d >>= fun s => pure s) := by simp only [Builtin.max_, List.foldlM_cons, List.foldlM_nil]
theorem min_four (ats : Array TypeId) (ty : TypeId) (a b c d : Value) : Builtin.min_ ats ty #[a, b, c, d] = (Builtin.min2 a b >>= fun s => Builtin.min2 s c >>= fun s => Builtin.min2 s d >>= fun s => pure s) := by simp only [Builtin.min_, List.foldlM_cons, List.foldlM_nil]
end Go.Proofs.YtpcncpegbboljaaGreatDoorW.PrintMore
namespace Go.Proofs.YtpcncpegbboljaaGreatDoorW.PrintWords
open Go.RowKit
section
variable {P : Program} {ops : Array Oper} {rest : List Oper} {o : Oper} {a : Act} {Q : Exit → Act → World → Prop} {W : World}
theorem gate_callee {f : FuncId} {as0 : Array Operand} {ts : Array TypeId} (_ho : o.op = .call { callee := .value (.func f), args := as0, argTypes := ts }) (h : wpList P ops Q (o :: rest) a W) : wpList P ops Q (o :: rest) a W := h
theorem gate_builtin {b : Builtin} {xs : Array Operand} {ts : Array TypeId} (_ho : o.op = .call { callee := .builtin b, args := xs, argTypes := ts }) (h : wpList P ops Q (o :: rest) a W) : wpList P ops Q (o :: rest) a W := h
end
def shr (k : IntKind) (x y : Int) : Int := x / 2 ^ min y.toNat k.bits
theorem shr_small {k : IntKind} {x y j : Int} (h : shr k x y = j) (hy : y ≤ k.bits) : x / 2 ^ y.toNat = j := by rw [← h]; unfold shr; rw [Nat.min_eq_left (by omega)]
namespace Kd
section
variable {α : Type} {d : Kd α} {e base : Nat} {ok : Nat → Prop} {W w1 : World} {v : Value} {xs : List α}
end
section
variable {α : Type} {d : Kd α} {e base g n cap : Nat} {ok oki okp : Nat → Prop} {W : World} {xs : List α} {i : Int} {c : List Value}
end
section
variable {α : Type} {d : Kd α} {e base b b' g N : Nat} {ok ok1 : Nat → Prop} {W W2 w1 : World} {u v : Value} {xs ys : List α} {S : Nat → Prop}
end
end Kd
end Go.Proofs.YtpcncpegbboljaaGreatDoorW.PrintWords
namespace Go.Proofs.YtpcncpegbboljaaGreatDoorW.PrintWords
open Go.RowKit
namespace Kd
def V {α : Type} (d : Kd α) (_e : Nat) (W : World) (_base : Nat) (ok : Nat → Prop) (v : Value) (xs : List α) : Prop := ∃ A c, v = .slice A xs.length c ∧ xs.length ≤ c ∧ F d W ok A xs.length xs
section
variable {α β : Type} {d : Kd α} {e base base' n m c g N' lo hi : Nat} {ok ok' S : Nat → Prop} {w W w1 : World} {A : Option Addr} {ad : Addr} {u v v1 : Value} {xs : List α}
theorem V_nil (d : Kd α) (e : Nat) (W : World) (base : Nat) (ok : Nat → Prop) : V d e W base ok (.slice none 0 0) [] := ⟨none, 0, rfl, Nat.le_refl _, F_nil d W ok⟩
end
end Kd
end Go.Proofs.YtpcncpegbboljaaGreatDoorW.PrintWords
namespace Go.Proofs.YtpcncpegbboljaaGreatDoor.P
open Go.RowKit Go.Proofs.YtpcncpegbboljaaGreatDoorW.PrintWords Go.Proofs.YtpcncpegbboljaaGreatDoorW.PrintLast Go.Proofs.YtpcncpegbboljaaGreatDoorW.PrintMore
attribute [local go_sem] max2_int min2_int max_two min_two max_three min_three max_four min_four
set_option linter.unusedVariables false
set_option linter.unusedSimpArgs false
def errW : Option Int → Value
  | none => .nilIface
  | some c => .iface 0 (.int .i64 c)
theorem errW_none : errW none = .nilIface := rfl
theorem errW_some (c : Int) : errW (some c) = .iface 0 (.int .i64 c) := rfl
structure S32 where
  f0 : ByteArray
  f1 : ByteArray
def z32 : S32 := ⟨(⟨#[]⟩ : ByteArray), (⟨#[]⟩ : ByteArray)⟩
def k32 : Kd S32 := Kd.iso (Kd.pair Kd.string Kd.string) (fun x : S32 => (x.f0, x.f1))
theorem k32_open {w : World} {x : S32} {cs : List Value} (h : k32.K w x cs) : cs = [.string x.f0, .string x.f1] := by
  obtain ⟨_, _, rfl, rfl, rfl⟩ := h
  exact rfl
theorem k32_mk (w : World) (x : S32)  : k32.K w x [.string x.f0, .string x.f1] := ⟨[.string x.f0], [.string x.f1], rfl, rfl, rfl⟩
theorem k32_mkM (w : World) (base : Nat) (ok : Nat → Prop) (x : S32)  : k32.M w base ok x [.string x.f0, .string x.f1] := ⟨[.string x.f0], [.string x.f1], rfl, rfl, rfl⟩
def rd_T32 (xs : List S32) (i : Int) : S32 := xs.getD i.toNat z32
theorem at_T32 {w : World} {A : Option Addr} {n : Nat} {xs : List S32} (h : Kd.C k32 w A n xs) (i : Int) (h0 : 0 ≤ i) (h1 : i < n) : ∃ ad , A = some ad ∧ w.cell? (ad.add (i.toNat * 2)) = some (.string (rd_T32 xs i).f0) ∧ w.cell? ⟨(ad.add (i.toNat * 2)).block, (ad.add (i.toNat * 2)).off + 1, none⟩ = some (.string (rd_T32 xs i).f1) := by
  obtain ⟨ad, c, e, _, hK, hc0⟩ := Kd.C_get h z32 i h0 h1
  have hc : ∀ j u, c[j]? = some u → w.cell? (ad.add (i.toNat * 2 + j)) = some u := hc0
  obtain rfl := k32_open hK
  exact ⟨ad, e, hc 0 _ rfl, by rw [← add_field _ _ 1 (by omega)]; exact hc 1 _ rfl⟩
end Go.Proofs.YtpcncpegbboljaaGreatDoor.P
namespace Go.Proofs.YtpcncpegbboljaaGreatDoor.Row
open Go.RowKit
variable {P : Program}
def Row (e : Nat) (w : World) (B : Nat) (l : List UInt8) : Prop :=
  ∃ C : Array Value, w.heap[B]? = some (.cells C e (C.size, C.size + 1)) ∧ l.length ≤ C.size ∧ C.toList.take l.length = Lib.byteCells l
theorem Row.drew {e : Nat} {w : World} {B : Nat} {l : List UInt8} (h : Row e w B l) : Row e w.drew B l := h
theorem Row.drewN {e : Nat} {w : World} {B : Nat} {l : List UInt8} (h : Row e w B l) (n : Nat) : Row e (w.drewN n) B l := h
theorem Row.lt {e : Nat} {w : World} {B : Nat} {l : List UInt8} (h : Row e w B l) : B < w.heap.size := by
  obtain ⟨C, hC, _⟩ := h
  exact (Array.getElem?_eq_some_iff.1 hC).1
theorem Row.below {e : Nat} {w w1 : World} {B : Nat} {l : List UInt8} (h : Row e w B l) (hb : Below w.heap.size w w1) : Row e w1 B l := by
  have hlt := h.lt
  obtain ⟨C, hC, h2⟩ := h
  exact ⟨C, by rw [hb.block B hlt]; exact hC, h2⟩
theorem row_get {C : Array Value} {l : List UInt8} (h2 : C.toList.take l.length = Lib.byteCells l) (j : Nat) (hj : j < l.length) :
    C[j]? = some (.int .u8 (l[j].toNat : Int)) := by
  have h3 : (C.toList.take l.length)[j]? = (Lib.byteCells l)[j]? := by rw [h2]
  rw [List.getElem?_take_of_lt hj] at h3
  simp [Lib.byteCells, List.getElem?_eq_getElem hj] at h3
  simpa using h3
theorem Row.cell {e : Nat} {w : World} {B : Nat} {l : List UInt8} (h : Row e w B l) (j : Nat) (hj : j < l.length) :
    w.cell? ⟨B, j, none⟩ = some (.int .u8 (l[j].toNat : Int)) := by
  obtain ⟨C, hC, h1, h2⟩ := h
  rw [Lib.cell_of_heap hC]
  exact row_get h2 j hj
theorem Row.frozen {e : Nat} {w : World} {B : Nat} {l : List UInt8} (h : Row e w B l) (j : Nat) (hj : j < l.length) :
    w.frozen? ⟨B, j, none⟩ = false := by
  obtain ⟨C, hC, h1, h2⟩ := h
  simp [World.frozen?, hC]
  omega
theorem Row.set {e : Nat} {w : World} {B : Nat} {l : List UInt8} (h : Row e w B l) (j : Nat) (x : UInt8) (hj : j < l.length) :
    Row e (w.setCell ⟨B, j, none⟩ (.int .u8 (x.toNat : Int))) B (l.set j x) := by
  obtain ⟨C, hC, h1, h2⟩ := h
  refine ⟨C.setIfInBounds j (.int .u8 (x.toNat : Int)), ?_, by simpa using h1, ?_⟩
  · rw [setCell_eq_setRow w B j C e _ _ hC, setRow_heap w B C _ e _ hC, Array.size_setIfInBounds]
  · rw [Array.toList_setIfInBounds, List.length_set]
    have : Lib.byteCells (l.set j x) = (Lib.byteCells l).set j (.int .u8 (x.toNat : Int)) := by
      simp [Lib.byteCells, List.map_set]
    rw [this, ← h2, List.take_set]
theorem Row.made (e : Nat) (w : World) (s : ByteArray) (cap : Nat) :
    Row e (w.alloc (.cells (bytesRow s cap) e ((bytesRow s cap).size, (bytesRow s cap).size + 1))) w.heap.size s.data.toList := by
  refine ⟨bytesRow s cap, ?_, ?_, ?_⟩
  · show (w.heap.push _)[w.heap.size]? = _
    simp
  · simp [bytesRow]
  · simp [bytesRow, Lib.byteCells]
theorem run_conv (w : World) (src dst e : TypeId) (s : ByteArray) (hs : P.underlying src = some .string) (hd : P.underlying dst = some (.slice e)) (he : P.underlying e = some (.int .u8)) :
    ∃ cap o, (convert src dst (.string s)).run P w = .ok (.slice (some ⟨w.heap.size, 0, none⟩) s.size cap) (w.alloc o).drew ∧ Row e (w.alloc o) w.heap.size s.data.toList :=
  ⟨_, _, run_bytes_of_string w src dst e s hs hd he, Row.made e w s _⟩
theorem Row.back {e : Nat} {w : World} {B : Nat} {l : List UInt8} (h : Row e w B l) (src dst cap : Nat) (hs : P.underlying src = some (.slice e)) (he : P.underlying e = some (.int .u8)) (hd : P.underlying dst = some .string) :
    (convert src dst (.slice (some ⟨B, 0, none⟩) l.length cap)).run P w = .ok (.string ⟨l.toArray⟩) w :=
  run_convert_bytes_back w src dst e ⟨B, 0, none⟩ cap l hs he hd (fun j hj => by
    have h1 := h.cell j hj
    unfold Addr.add
    split
    · rename_i h0; subst h0; exact h1
    · simpa using h1)
end Go.Proofs.YtpcncpegbboljaaGreatDoor.Row
namespace Go.Proofs.YtpcncpegbboljaaGreatDoor
open Go.RowKit Go.Proofs.YtpcncpegbboljaaGreatDoor.Row
set_option linter.unusedVariables false
set_option linter.unusedSimpArgs false
theorem of_guard {α : Type} {c : Prop} [Decidable c] {x r : α} (h : (if c then some x else none) = some r) : c ∧ x = r := by
  split at h
  · rename_i hc; exact ⟨hc, Option.some.inj h⟩
  · cases h
theorem guard_of {α : Type} {c : Prop} [Decidable c] {x : α} (h : c) : (if c then some x else none) = some x := if_pos h
def lowC (c : UInt8) : UInt8 := if 65 ≤ c.toNat ∧ c.toNat ≤ 90 then (c.toNat + 32).toUInt8 else c
def lowS (s : ByteArray) : ByteArray := ⟨(s.data.toList.map lowC).toArray⟩
def lowTo (l : List UInt8) (k : Nat) : List UInt8 := (l.take k).map lowC ++ l.drop k
theorem lowTo_zero (l : List UInt8) : lowTo l 0 = l := by simp [lowTo]
theorem lowTo_length (l : List UInt8) (k : Nat) : (lowTo l k).length = l.length := by simp [lowTo]; omega
theorem lowTo_all (l : List UInt8) (k : Nat) (h : l.length ≤ k) : lowTo l k = l.map lowC := by simp [lowTo, List.take_of_length_le h, List.drop_eq_nil_of_le h]
theorem lowTo_get (l : List UInt8) (k : Nat) (h : k < l.length) : (lowTo l k)[k]'(by rw [lowTo_length]; exact h) = l[k] := by
  simp only [lowTo]
  rw [List.getElem_append_right (by simp; omega)]
  simp [List.getElem_drop, Nat.min_eq_left (Nat.le_of_lt h)]
theorem lowTo_succ (l : List UInt8) (k : Nat) (h : k < l.length) : lowTo l (k + 1) = (lowTo l k).set k (lowC l[k]) := by
  simp only [lowTo]
  rw [List.set_append_right _ _ (by simp; omega)]
  simp only [List.length_map, List.length_take, Nat.min_eq_left (Nat.le_of_lt h), Nat.sub_self]
  rw [List.take_succ_eq_append_getElem h, List.drop_eq_getElem_cons h, List.map_append, List.append_assoc]
  rfl
theorem lowTo_same (l : List UInt8) (k : Nat) (h : k < l.length) (hc : lowC l[k] = l[k]) : lowTo l (k + 1) = lowTo l k := by
  rw [lowTo_succ l k h, hc, ← lowTo_get l k h, List.set_getElem_self]
theorem lowC_yes (c : UInt8) (h1 : 65 ≤ c.toNat) (h2 : c.toNat ≤ 90) : ((lowC c).toNat : Int) = (c.toNat : Int) - 65 + 97 := by
  simp only [lowC, h1, h2, and_self, if_true]
  have : ((c.toNat + 32).toUInt8).toNat = c.toNat + 32 := by
    show (UInt8.ofNat (c.toNat + 32)).toNat = _
    rw [UInt8.toNat_ofNat']; omega
  omega
theorem lowC_no (c : UInt8) (h : c.toNat < 65 ∨ 90 < c.toNat) : lowC c = c := by
  simp only [lowC]; rw [if_neg (by omega)]
def chars_small.f (s : ByteArray) : Option ByteArray := if s.size ≤ 9223372036854775807 then some (lowS s) else none
set_option maxRecDepth 100000 in
set_option maxHeartbeats 1000000 in
theorem chars_small.calls (s r : ByteArray) (w : World) (h : chars_small.f s = some r) :
    Calls Tryz.prog 122 #[.string s] w fun e w' => e = .returned (.string r) ∧ Below w.heap.size w w' := by
  obtain ⟨hs, rfl⟩ := of_guard h
  obtain ⟨cap, o, hconv, hrow⟩ := Row.run_conv (P := Tryz.prog) w 9 45 5 s Tryz.underlying9 Tryz.underlying45 Tryz.underlying5
  have HR := Lib.hid hrow; clear hrow h
  go_enter Tryz.func122, Tryz.ntmps122
  go_wp2
  go_loopw [10] (fun i wr => ∃ k : Nat, k ≤ s.size ∧ i = .int .i64 k ∧ Row 5 wr w.heap.size (lowTo s.data.toList k) ∧ Below w.heap.size w wr) (fun i _ => s.size - (intOf i).toNat)
  case atStart => exact ⟨0, Nat.zero_le _, rfl, by rw [lowTo_zero]; exact HR.out, ((Below.refl _ _).alloc (Nat.le_refl _) _).drew⟩
  case round =>
    obtain ⟨k, hk, rfl, hrow, hb⟩ := hrel
    have hl : s.data.toList.length = s.size := by simp
    by_cases hlt : k < s.size
    · have hlt2 : k < s.data.toList.length := by omega
      have hlt3 : k < (lowTo s.data.toList k).length := by rw [lowTo_length]; exact hlt2
      have hc := hrow.cell k hlt3
      have hf := hrow.frozen k hlt3
      have hset := hrow.set k (lowC s.data.toList[k]) hlt3
      rw [← lowTo_succ _ _ hlt2] at hset
      rw [lowTo_get _ _ hlt2] at hc
      have hsame := lowTo_same s.data.toList k hlt2
      have hyes := lowC_yes s.data.toList[k]
      have hno := lowC_no s.data.toList[k]
      have h256 : s.data.toList[k].toNat < 256 := UInt8.toNat_lt _
      generalize hcc : s.data.toList[k] = c at *
      have HS := Lib.hid hset; have HY := Lib.hid hyes; have HN := Lib.hid hno; have HE := Lib.hid hsame; have HR2 := Lib.hid hrow; have HL := Lib.hid hl
      clear hset hyes hno hsame hrow hl hcc HR
      by_cases c1 : 65 ≤ c.toNat ∧ c.toNat ≤ 90
      · obtain ⟨c1, c2⟩ := c1
        go_wp2
        go_roundw
        case rel => exact ⟨k + 1, by omega, by go_num, by have := HS.out; rw [HY.out c1 c2] at this; exact this, hb.setCell (p := ⟨w.heap.size, k, none⟩) (Nat.le_refl _) _⟩
        case measure => simp [intOf]; omega
      · have hce := HN.out (by omega)
        have HS2 : Hid (lowTo s.data.toList (k + 1) = lowTo s.data.toList k) := Lib.hid (HE.out hce)
        clear HE hce HS HY HN
        have c3 : c.toNat < 65 ∨ 90 < c.toNat := by omega
        rcases c3 with c3 | c3
        all_goals
          clear c1
          go_wp2
          go_roundw
          case rel => exact ⟨k + 1, by omega, by go_num, by rw [HS2.out]; exact HR2.out, hb⟩
          case measure => simp [intOf]; omega
    · have hk2 : k = s.size := by omega
      subst hk2
      rw [lowTo_all _ _ (by omega)] at hrow
      have hback := hrow.back (P := Tryz.prog) 45 9 cap Tryz.underlying45 Tryz.underlying5 Tryz.underlying9
      simp only [List.length_map] at hback
      rw [hl] at hback
      clear hrow HR hl
      go_wp2
      go_ret
      exact ⟨rfl, hb⟩
end Go.Proofs.YtpcncpegbboljaaGreatDoor
namespace Go.Proofs
open Go.Shelf
def Tryz.lays169_ren : Go.Shelf.Ren := ⟨fun | 169 => 36 | n => n, fun | 70 => 46 | 9 => 9 | 0 => 0 | 72 => 48 | 37 => 45 | 127 => 86 | 3 => 3 | 5 => 5 | n => n, fun | n => n⟩
theorem Tryz.lays169 : Go.Proofs.Lays.n169 Tryz.prog Tryz.lays169_ren := {
  mixed := by kernel_rfl
  f169 := Tryz.func36.trans (congrArg some (by kernel_rfl))
  t0 := Tryz.underlying0
  a0 := Tryz.isAgg0
  z0 := Tryz.sizeOf0
  v0 := Tryz.zeroValue0
  t3 := Tryz.underlying3
  a3 := Tryz.isAgg3
  z3 := Tryz.sizeOf3
  v3 := Tryz.zeroValue3
  t9 := Tryz.underlying9
  a9 := Tryz.isAgg9
  z9 := Tryz.sizeOf9
  v9 := Tryz.zeroValue9
  t37 := Tryz.underlying45
  a37 := Tryz.isAgg45
  z37 := Tryz.sizeOf45
  v37 := Tryz.zeroValue45
  t70 := Tryz.underlying46
  a70 := Tryz.isAgg46
  z70 := Tryz.sizeOf46
  v70 := Tryz.zeroValue46
  t72 := Tryz.underlying48
  a72 := Tryz.isAgg48
  z72 := Tryz.sizeOf48
  v72 := Tryz.zeroValue48
  t127 := Tryz.underlying86
  a127 := Tryz.isAgg86
  z127 := Tryz.sizeOf86
  v127 := Tryz.zeroValue86 }
theorem Tryz.Builder_Extra_169 : Builder.Extra Tryz.prog Tryz.lays169_ren := {
  sizeBuilder := by kernel_rfl
  liesBuilder := by kernel_rfl
  t5 := Tryz.underlying5
  a5 := Tryz.isAgg5
  z5 := Tryz.sizeOf5
  v5 := Tryz.zeroValue5
  infoByte := by kernel_rfl
  cellsByte := by kernel_rfl
  sizeByte := by kernel_rfl
  neB5 := by decide }
def Tryz.lays156_ren : Go.Shelf.Ren := ⟨fun | 156 => 33 | 165 => 60 | 166 => 41 | 169 => 36 | 240 => 64 | 241 => 92 | 276 => 94 | 277 => 120 | n => n, fun | 31 => 34 | 9 => 9 | 3 => 3 | 4 => 4 | 0 => 0 | 20 => 20 | 72 => 48 | 76 => 51 | 70 => 46 | 37 => 45 | 75 => 50 | 127 => 86 | 164 => 108 | 5 => 5 | 80 => 53 | n => n, fun | n => n⟩
theorem Tryz.lays156 : Go.Proofs.Lays.n156 Tryz.prog Tryz.lays156_ren := {
  mixed := by kernel_rfl
  f156 := Tryz.func33.trans (congrArg some (by kernel_rfl))
  f165 := Tryz.func60.trans (congrArg some (by kernel_rfl))
  f166 := Tryz.func41.trans (congrArg some (by kernel_rfl))
  f169 := Tryz.func36.trans (congrArg some (by kernel_rfl))
  f240 := Tryz.func64.trans (congrArg some (by kernel_rfl))
  f241 := Tryz.func92.trans (congrArg some (by kernel_rfl))
  f276 := Tryz.func94.trans (congrArg some (by kernel_rfl))
  f277 := Tryz.func120.trans (congrArg some (by kernel_rfl))
  t0 := Tryz.underlying0
  a0 := Tryz.isAgg0
  z0 := Tryz.sizeOf0
  v0 := Tryz.zeroValue0
  t3 := Tryz.underlying3
  a3 := Tryz.isAgg3
  z3 := Tryz.sizeOf3
  v3 := Tryz.zeroValue3
  t4 := Tryz.underlying4
  a4 := Tryz.isAgg4
  z4 := Tryz.sizeOf4
  v4 := Tryz.zeroValue4
  t9 := Tryz.underlying9
  a9 := Tryz.isAgg9
  z9 := Tryz.sizeOf9
  v9 := Tryz.zeroValue9
  t20 := Tryz.underlying20
  a20 := Tryz.isAgg20
  z20 := Tryz.sizeOf20
  v20 := Tryz.zeroValue20
  t31 := Tryz.underlying34
  a31 := Tryz.isAgg34
  z31 := Tryz.sizeOf34
  v31 := Tryz.zeroValue34
  t37 := Tryz.underlying45
  a37 := Tryz.isAgg45
  z37 := Tryz.sizeOf45
  v37 := Tryz.zeroValue45
  t70 := Tryz.underlying46
  a70 := Tryz.isAgg46
  z70 := Tryz.sizeOf46
  v70 := Tryz.zeroValue46
  t72 := Tryz.underlying48
  a72 := Tryz.isAgg48
  z72 := Tryz.sizeOf48
  v72 := Tryz.zeroValue48
  t75 := Tryz.underlying50
  a75 := Tryz.isAgg50
  z75 := Tryz.sizeOf50
  v75 := Tryz.zeroValue50
  t76 := Tryz.underlying51
  a76 := Tryz.isAgg51
  z76 := Tryz.sizeOf51
  v76 := Tryz.zeroValue51
  t127 := Tryz.underlying86
  a127 := Tryz.isAgg86
  z127 := Tryz.sizeOf86
  v127 := Tryz.zeroValue86
  t164 := Tryz.underlying108
  a164 := Tryz.isAgg108
  z164 := Tryz.sizeOf108
  v164 := Tryz.zeroValue108 }
theorem Tryz.Builder_Extra_156 : Builder.Extra Tryz.prog Tryz.lays156_ren := {
  sizeBuilder := by kernel_rfl
  liesBuilder := by kernel_rfl
  t5 := Tryz.underlying5
  a5 := Tryz.isAgg5
  z5 := Tryz.sizeOf5
  v5 := Tryz.zeroValue5
  infoByte := by kernel_rfl
  cellsByte := by kernel_rfl
  sizeByte := by kernel_rfl
  neB5 := by decide }
open Go.RowKit in
theorem Tryz.strings_Join_none (a : Option Addr) (c : Nat) (sep : ByteArray) (w : World) :
    Calls Tryz.prog 33 #[.slice a 0 c, .string sep] w fun e w' => e = .returned (.string ⟨#[]⟩) ∧ w' = w := Any.strings_Join_none Tryz.lays156 Tryz.Builder_Extra_156 a c sep w
open Go.RowKit in
theorem Tryz.strings_Join (bk o c : Nat) (xs : List ByteArray) (sep : ByteArray) (w : World) (hcells : ∀ (j : Nat) x, xs[j]? = some x → w.cell? ⟨bk, o + j, none⟩ = some (.string x)) (hbk : bk < w.heap.size) (hN : xs.length ≤ 140737488355328) (hcap : xs.length ≤ c) (hlen : (Lib.join (xs.map (·.data.toList)) sep.data.toList).length ≤ 140737488355328) :
    Calls Tryz.prog 33 #[.slice (some ⟨bk, o, none⟩) xs.length c, .string sep] w fun e w' => e = .returned (.string ⟨(Lib.join (xs.map (·.data.toList)) sep.data.toList).toArray⟩) ∧ Below w.heap.size w w' := Any.strings_Join Tryz.lays156 Tryz.Builder_Extra_156 bk o c xs sep w hcells hbk hN hcap hlen
def Tryz.lays160_ren : Go.Shelf.Ren := ⟨fun | 160 => 43 | 232 => 70 | 231 => 69 | 227 => 71 | 234 => 73 | 233 => 72 | 236 => 75 | 235 => 74 | 228 => 83 | 271 => 102 | 151 => 101 | 197 => 56 | 120 => 127 | 152 => 81 | 260 => 85 | 137 => 108 | 119 => 109 | 224 => 106 | 225 => 105 | 217 => 104 | 266 => 133 | n => n, fun | 9 => 9 | 4 => 4 | 3 => 3 | 5 => 5 | 117 => 95 | 116 => 94 | 0 => 0 | 124 => 98 | 21 => 21 | 105 => 64 | 46 => 115 | 119 => 116 | 139 => 119 | 138 => 118 | n => n, fun | 3 => 1 | 4 => 2 | n => n⟩
theorem Tryz.lays160 : Go.Proofs.Lays.n160 Tryz.prog Tryz.lays160_ren := {
  mixed := by kernel_rfl
  f119 := Tryz.func109.trans (congrArg some (by kernel_rfl))
  f120 := Tryz.func127.trans (congrArg some (by kernel_rfl))
  f137 := Tryz.func108.trans (congrArg some (by kernel_rfl))
  f151 := Tryz.func101.trans (congrArg some (by kernel_rfl))
  f152 := Tryz.func81.trans (congrArg some (by kernel_rfl))
  f160 := Tryz.func43.trans (congrArg some (by kernel_rfl))
  f197 := Tryz.func56.trans (congrArg some (by kernel_rfl))
  f217 := Tryz.func104.trans (congrArg some (by kernel_rfl))
  f224 := Tryz.func106.trans (congrArg some (by kernel_rfl))
  f225 := Tryz.func105.trans (congrArg some (by kernel_rfl))
  f227 := Tryz.func71.trans (congrArg some (by kernel_rfl))
  f228 := Tryz.func83.trans (congrArg some (by kernel_rfl))
  f231 := Tryz.func69.trans (congrArg some (by kernel_rfl))
  f232 := Tryz.func70.trans (congrArg some (by kernel_rfl))
  f233 := Tryz.func72.trans (congrArg some (by kernel_rfl))
  f234 := Tryz.func73.trans (congrArg some (by kernel_rfl))
  f235 := Tryz.func74.trans (congrArg some (by kernel_rfl))
  f236 := Tryz.func75.trans (congrArg some (by kernel_rfl))
  f260 := Tryz.func85.trans (congrArg some (by kernel_rfl))
  f266 := Tryz.func133.trans (congrArg some (by kernel_rfl))
  f271 := Tryz.func102.trans (congrArg some (by kernel_rfl))
  t0 := Tryz.underlying0
  a0 := Tryz.isAgg0
  z0 := Tryz.sizeOf0
  v0 := Tryz.zeroValue0
  t3 := Tryz.underlying3
  a3 := Tryz.isAgg3
  z3 := Tryz.sizeOf3
  v3 := Tryz.zeroValue3
  t4 := Tryz.underlying4
  a4 := Tryz.isAgg4
  z4 := Tryz.sizeOf4
  v4 := Tryz.zeroValue4
  t5 := Tryz.underlying5
  a5 := Tryz.isAgg5
  z5 := Tryz.sizeOf5
  v5 := Tryz.zeroValue5
  t9 := Tryz.underlying9
  a9 := Tryz.isAgg9
  z9 := Tryz.sizeOf9
  v9 := Tryz.zeroValue9
  t21 := Tryz.underlying21
  a21 := Tryz.isAgg21
  z21 := Tryz.sizeOf21
  v21 := Tryz.zeroValue21
  t46 := Tryz.underlying115
  a46 := Tryz.isAgg115
  z46 := Tryz.sizeOf115
  v46 := Tryz.zeroValue115
  t105 := Tryz.underlying64
  a105 := Tryz.isAgg64
  z105 := Tryz.sizeOf64
  v105 := Tryz.zeroValue64
  t116 := Tryz.underlying94
  a116 := Tryz.isAgg94
  z116 := Tryz.sizeOf94
  t117 := Tryz.underlying95
  a117 := Tryz.isAgg95
  z117 := Tryz.sizeOf95
  v117 := Tryz.zeroValue95
  t119 := Tryz.underlying116
  a119 := Tryz.isAgg116
  z119 := Tryz.sizeOf116
  t124 := Tryz.underlying98
  a124 := Tryz.isAgg98
  z124 := Tryz.sizeOf98
  v124 := Tryz.zeroValue98
  t138 := Tryz.underlying118
  a138 := Tryz.isAgg118
  z138 := Tryz.sizeOf118
  v138 := Tryz.zeroValue118
  t139 := Tryz.underlying119
  a139 := Tryz.isAgg119
  z139 := Tryz.sizeOf119
  v139 := Tryz.zeroValue119
  g3 := by kernel_rfl
  g4 := by kernel_rfl }
def Tryz.lays119_ren : Go.Shelf.Ren := ⟨fun | 119 => 109 | n => n, fun | 21 => 21 | 4 => 4 | n => n, fun | n => n⟩
theorem Tryz.lays119 : Go.Proofs.Lays.n119 Tryz.prog Tryz.lays119_ren := {
  mixed := by kernel_rfl
  f119 := Tryz.func109.trans (congrArg some (by kernel_rfl))
  t4 := Tryz.underlying4
  a4 := Tryz.isAgg4
  z4 := Tryz.sizeOf4
  v4 := Tryz.zeroValue4
  t21 := Tryz.underlying21
  a21 := Tryz.isAgg21
  z21 := Tryz.sizeOf21
  v21 := Tryz.zeroValue21 }
theorem Tryz.utf8_ValidRune (r : Int) (w : World) :
    Calls Tryz.prog 109 #[.int .i32 r] w fun e w' => e = .returned (.bool (Lib.validRune r)) ∧ w' = w := Any.utf8_ValidRune Tryz.lays119 r w
def Tryz.lays137_ren : Go.Shelf.Ren := ⟨fun | 137 => 108 | 217 => 104 | 266 => 133 | n => n, fun | 9 => 9 | 5 => 5 | 3 => 3 | n => n, fun | n => n⟩
theorem Tryz.lays137 : Go.Proofs.Lays.n137 Tryz.prog Tryz.lays137_ren := {
  mixed := by kernel_rfl
  f137 := Tryz.func108.trans (congrArg some (by kernel_rfl))
  f217 := Tryz.func104.trans (congrArg some (by kernel_rfl))
  f266 := Tryz.func133.trans (congrArg some (by kernel_rfl))
  t3 := Tryz.underlying3
  a3 := Tryz.isAgg3
  z3 := Tryz.sizeOf3
  v3 := Tryz.zeroValue3
  t5 := Tryz.underlying5
  a5 := Tryz.isAgg5
  z5 := Tryz.sizeOf5
  v5 := Tryz.zeroValue5
  t9 := Tryz.underlying9
  a9 := Tryz.isAgg9
  z9 := Tryz.sizeOf9
  v9 := Tryz.zeroValue9 }
open Go.RowKit in
theorem Tryz.strings_IndexByte (s : ByteArray) (c : Int) (w : World) :
    Calls Tryz.prog 108 #[.string s, .int .u8 c] w fun e w' => e = .returned (.int .i64 (Lib.indexByte s.data.toList c.toNat.toUInt8)) ∧ w' = w := Any.strings_IndexByte Tryz.lays137 s c w
def Tryz.lays103_ren : Go.Shelf.Ren := ⟨fun | 103 => 96 | 210 => 121 | 206 => 137 | n => n, fun | 9 => 9 | 4 => 4 | 24 => 110 | 3 => 3 | n => n, fun | n => n⟩
theorem Tryz.lays103 : Go.Proofs.Lays.n103 Tryz.prog Tryz.lays103_ren := {
  mixed := by kernel_rfl
  f103 := Tryz.func96.trans (congrArg some (by kernel_rfl))
  f206 := Tryz.func137.trans (congrArg some (by kernel_rfl))
  f210 := Tryz.func121.trans (congrArg some (by kernel_rfl))
  t3 := Tryz.underlying3
  a3 := Tryz.isAgg3
  z3 := Tryz.sizeOf3
  v3 := Tryz.zeroValue3
  t4 := Tryz.underlying4
  a4 := Tryz.isAgg4
  z4 := Tryz.sizeOf4
  v4 := Tryz.zeroValue4
  t9 := Tryz.underlying9
  a9 := Tryz.isAgg9
  z9 := Tryz.sizeOf9
  v9 := Tryz.zeroValue9
  t24 := Tryz.underlying110
  a24 := Tryz.isAgg110
  z24 := Tryz.sizeOf110
  v24 := Tryz.zeroValue110 }
open Go.RowKit in
theorem Tryz.strings_CutPrefix (s p : ByteArray) (w : World) :
    Calls Tryz.prog 96 #[.string s, .string p] w fun e w' => e = .returned (.tuple #[.string ⟨(Lib.trimPrefix s.data.toList p.data.toList).toArray⟩, .bool (Lib.hasPrefix s.data.toList p.data.toList)]) ∧ w' = w := Any.strings_CutPrefix Tryz.lays103 s p w
open Go.RowKit in
theorem Tryz.Builder_String_any_k (B b : Nat) (l : List UInt8) (w : World) (h : Lib.IsBuilderF 48 5 B b (Lib.byteCells l) w) (hBw : B ≤ w.heap.size) :
    Calls Tryz.prog 36 #[.pointer (some ⟨b, 0, none⟩)] w fun e w' => e = .returned (.string ⟨l.toArray⟩) ∧ (Lib.IsBuilderF 48 5 B b (Lib.byteCells l) w' ∧ Below B w w' ∧ Lib.OthersKept 5 (some b) w w') := Any.Builder_String_any_k Tryz.lays169 Tryz.Builder_Extra_169 B b l w h hBw
def Tryz.lays242_ren : Go.Shelf.Ren := ⟨fun | 242 => 65 | 278 => 95 | n => n, fun | 37 => 45 | 21 => 21 | 51 => 69 | 4 => 4 | 5 => 5 | 46 => 115 | n => n, fun | n => n⟩
theorem Tryz.lays242 : Go.Proofs.Lays.n242 Tryz.prog Tryz.lays242_ren := {
  mixed := by kernel_rfl
  f242 := Tryz.func65.trans (congrArg some (by kernel_rfl))
  f278 := Tryz.func95.trans (congrArg some (by kernel_rfl))
  t4 := Tryz.underlying4
  a4 := Tryz.isAgg4
  z4 := Tryz.sizeOf4
  v4 := Tryz.zeroValue4
  t5 := Tryz.underlying5
  a5 := Tryz.isAgg5
  z5 := Tryz.sizeOf5
  v5 := Tryz.zeroValue5
  t21 := Tryz.underlying21
  a21 := Tryz.isAgg21
  z21 := Tryz.sizeOf21
  v21 := Tryz.zeroValue21
  t37 := Tryz.underlying45
  a37 := Tryz.isAgg45
  z37 := Tryz.sizeOf45
  v37 := Tryz.zeroValue45
  t46 := Tryz.underlying115
  a46 := Tryz.isAgg115
  z46 := Tryz.sizeOf115
  v46 := Tryz.zeroValue115
  t51 := Tryz.underlying69
  a51 := Tryz.isAgg69
  z51 := Tryz.sizeOf69
  v51 := Tryz.zeroValue69 }
open Go.RowKit in
theorem Tryz.utf8_AppendRune_row (B : Nat) (v : Value) (n : Nat) (xs : List Value) (r : Int) (hr0 : -2147483648 ≤ r) (hr1 : r ≤ 2147483647) (w : World) (hown : w.ownsRowF B 5 1 v n xs) (hlen : n + 4 ≤ 140737488355328) (hBw : B ≤ w.heap.size) :
    Calls Tryz.prog 65 #[v, .int .i32 r] w fun e w' => ∃ v', e = .returned v' ∧ w'.ownsRowF B 5 1 v' (n + (Lib.runeCells r).length) (xs ++ Lib.runeCells r) ∧ ∃ o, (w.alloc o).grownBy w' v.ownBlock := Any.utf8_AppendRune_row Tryz.lays242 (by kernel_rfl) B v n xs r hr0 hr1 w hown hlen hBw
def Tryz.lays219_ren : Go.Shelf.Ren := ⟨fun | 219 => 80 | 217 => 104 | 225 => 105 | 224 => 106 | 267 => 107 | 266 => 133 | 314 => 134 | n => n, fun | 9 => 9 | 3 => 3 | 4 => 4 | 5 => 5 | 46 => 115 | 146 => 140 | 51 => 69 | n => n, fun | 1 => 0 | n => n⟩
theorem Tryz.lays219 : Go.Proofs.Lays.n219 Tryz.prog Tryz.lays219_ren := {
  mixed := by kernel_rfl
  f217 := Tryz.func104.trans (congrArg some (by kernel_rfl))
  f219 := Tryz.func80.trans (congrArg some (by kernel_rfl))
  f224 := Tryz.func106.trans (congrArg some (by kernel_rfl))
  f225 := Tryz.func105.trans (congrArg some (by kernel_rfl))
  f266 := Tryz.func133.trans (congrArg some (by kernel_rfl))
  f267 := Tryz.func107.trans (congrArg some (by kernel_rfl))
  f314 := Tryz.func134.trans (congrArg some (by kernel_rfl))
  t3 := Tryz.underlying3
  a3 := Tryz.isAgg3
  z3 := Tryz.sizeOf3
  v3 := Tryz.zeroValue3
  t4 := Tryz.underlying4
  a4 := Tryz.isAgg4
  z4 := Tryz.sizeOf4
  v4 := Tryz.zeroValue4
  t5 := Tryz.underlying5
  a5 := Tryz.isAgg5
  z5 := Tryz.sizeOf5
  v5 := Tryz.zeroValue5
  t9 := Tryz.underlying9
  a9 := Tryz.isAgg9
  z9 := Tryz.sizeOf9
  v9 := Tryz.zeroValue9
  t46 := Tryz.underlying115
  a46 := Tryz.isAgg115
  z46 := Tryz.sizeOf115
  v46 := Tryz.zeroValue115
  t51 := Tryz.underlying69
  a51 := Tryz.isAgg69
  z51 := Tryz.sizeOf69
  v51 := Tryz.zeroValue69
  t146 := Tryz.underlying140
  a146 := Tryz.isAgg140
  z146 := Tryz.sizeOf140
  v146 := Tryz.zeroValue140
  g1 := by kernel_rfl }
open Go.RowKit Go.Lib in
theorem Tryz.stringslite_Index_one (s : ByteArray) (c : UInt8) (w : World) :
    Calls Tryz.prog 80 #[.string s, .string ⟨#[c]⟩] w fun e w' => e = .returned (.int .i64 (Lib.indexByte s.data.toList c)) ∧ w' = w := Any.stringslite_Index_one Tryz.lays219 s c w
def Tryz.lays143_ren : Go.Shelf.Ren := ⟨fun | 143 => 52 | 219 => 80 | 217 => 104 | 225 => 105 | 224 => 106 | 267 => 107 | 266 => 133 | 314 => 134 | n => n, fun | 9 => 9 | 3 => 3 | 4 => 4 | 5 => 5 | 46 => 115 | 146 => 140 | 51 => 69 | n => n, fun | 1 => 0 | n => n⟩
theorem Tryz.lays143 : Go.Proofs.Lays.n143 Tryz.prog Tryz.lays143_ren := {
  mixed := by kernel_rfl
  f143 := Tryz.func52.trans (congrArg some (by kernel_rfl))
  f217 := Tryz.func104.trans (congrArg some (by kernel_rfl))
  f219 := Tryz.func80.trans (congrArg some (by kernel_rfl))
  f224 := Tryz.func106.trans (congrArg some (by kernel_rfl))
  f225 := Tryz.func105.trans (congrArg some (by kernel_rfl))
  f266 := Tryz.func133.trans (congrArg some (by kernel_rfl))
  f267 := Tryz.func107.trans (congrArg some (by kernel_rfl))
  f314 := Tryz.func134.trans (congrArg some (by kernel_rfl))
  t3 := Tryz.underlying3
  a3 := Tryz.isAgg3
  z3 := Tryz.sizeOf3
  v3 := Tryz.zeroValue3
  t4 := Tryz.underlying4
  a4 := Tryz.isAgg4
  z4 := Tryz.sizeOf4
  v4 := Tryz.zeroValue4
  t5 := Tryz.underlying5
  a5 := Tryz.isAgg5
  z5 := Tryz.sizeOf5
  v5 := Tryz.zeroValue5
  t9 := Tryz.underlying9
  a9 := Tryz.isAgg9
  z9 := Tryz.sizeOf9
  v9 := Tryz.zeroValue9
  t46 := Tryz.underlying115
  a46 := Tryz.isAgg115
  z46 := Tryz.sizeOf115
  v46 := Tryz.zeroValue115
  t51 := Tryz.underlying69
  a51 := Tryz.isAgg69
  z51 := Tryz.sizeOf69
  v51 := Tryz.zeroValue69
  t146 := Tryz.underlying140
  a146 := Tryz.isAgg140
  z146 := Tryz.sizeOf140
  v146 := Tryz.zeroValue140
  g1 := by kernel_rfl }
open Go.RowKit Go.Lib in
theorem Tryz.strings_Index (s sub : ByteArray) (m : Int) (w : World) (hs : s.size < 4294967281) (hm : w.cell? ⟨0, 0, none⟩ = some (.int .i64 m)) :
    Calls Tryz.prog 52 #[.string s, .string sub] w fun e w' => e = .returned (.int .i64 (Lib.index s.data.toList sub.data.toList)) ∧ w' = w := Any.strings_Index Tryz.lays143 s sub m w hs hm
def Tryz.lays144_ren : Go.Shelf.Ren := ⟨fun | 144 => 24 | 143 => 52 | 219 => 80 | 217 => 104 | 225 => 105 | 224 => 106 | 267 => 107 | 266 => 133 | 314 => 134 | n => n, fun | 9 => 9 | 4 => 4 | 3 => 3 | 5 => 5 | 46 => 115 | 146 => 140 | 51 => 69 | n => n, fun | 1 => 0 | n => n⟩
theorem Tryz.lays144 : Go.Proofs.Lays.n144 Tryz.prog Tryz.lays144_ren := {
  mixed := by kernel_rfl
  f143 := Tryz.func52.trans (congrArg some (by kernel_rfl))
  f144 := Tryz.func24.trans (congrArg some (by kernel_rfl))
  f217 := Tryz.func104.trans (congrArg some (by kernel_rfl))
  f219 := Tryz.func80.trans (congrArg some (by kernel_rfl))
  f224 := Tryz.func106.trans (congrArg some (by kernel_rfl))
  f225 := Tryz.func105.trans (congrArg some (by kernel_rfl))
  f266 := Tryz.func133.trans (congrArg some (by kernel_rfl))
  f267 := Tryz.func107.trans (congrArg some (by kernel_rfl))
  f314 := Tryz.func134.trans (congrArg some (by kernel_rfl))
  t3 := Tryz.underlying3
  a3 := Tryz.isAgg3
  z3 := Tryz.sizeOf3
  v3 := Tryz.zeroValue3
  t4 := Tryz.underlying4
  a4 := Tryz.isAgg4
  z4 := Tryz.sizeOf4
  v4 := Tryz.zeroValue4
  t5 := Tryz.underlying5
  a5 := Tryz.isAgg5
  z5 := Tryz.sizeOf5
  v5 := Tryz.zeroValue5
  t9 := Tryz.underlying9
  a9 := Tryz.isAgg9
  z9 := Tryz.sizeOf9
  v9 := Tryz.zeroValue9
  t46 := Tryz.underlying115
  a46 := Tryz.isAgg115
  z46 := Tryz.sizeOf115
  v46 := Tryz.zeroValue115
  t51 := Tryz.underlying69
  a51 := Tryz.isAgg69
  z51 := Tryz.sizeOf69
  v51 := Tryz.zeroValue69
  t146 := Tryz.underlying140
  a146 := Tryz.isAgg140
  z146 := Tryz.sizeOf140
  v146 := Tryz.zeroValue140
  g1 := by kernel_rfl }
open Go.RowKit Go.Lib in
theorem Tryz.strings_Contains_one (s : ByteArray) (c : UInt8) (w : World) :
    Calls Tryz.prog 24 #[.string s, .string ⟨#[c]⟩] w fun e w' => e = .returned (.bool (decide (0 ≤ Lib.indexByte s.data.toList c))) ∧ w' = w := Any.strings_Contains_one Tryz.lays144 s c w
open Go.RowKit Go.Lib in
theorem Tryz.strings_Contains (s sub : ByteArray) (m : Int) (w : World) (hs : s.size < 4294967281) (hm : w.cell? ⟨0, 0, none⟩ = some (.int .i64 m)) :
    Calls Tryz.prog 24 #[.string s, .string sub] w fun e w' => e = .returned (.bool (Lib.contains s.data.toList sub.data.toList)) ∧ w' = w := Any.strings_Contains Tryz.lays144 s sub m w hs hm
def Tryz.lays138_ren : Go.Shelf.Ren := ⟨fun | 138 => 195 | 195 => 196 | 218 => 197 | 143 => 52 | 219 => 80 | 217 => 104 | 225 => 105 | 224 => 106 | 267 => 107 | 266 => 133 | 314 => 134 | n => n, fun | 9 => 9 | 3 => 3 | 4 => 4 | 5 => 5 | 0 => 0 | 46 => 115 | 146 => 140 | 51 => 69 | n => n, fun | 1 => 0 | n => n⟩
theorem Tryz.lays138 : Go.Proofs.Lays.n138 Tryz.prog Tryz.lays138_ren := {
  mixed := by kernel_rfl
  f138 := Tryz.func195.trans (congrArg some (by kernel_rfl))
  f143 := Tryz.func52.trans (congrArg some (by kernel_rfl))
  f195 := Tryz.func196.trans (congrArg some (by kernel_rfl))
  f217 := Tryz.func104.trans (congrArg some (by kernel_rfl))
  f218 := Tryz.func197.trans (congrArg some (by kernel_rfl))
  f219 := Tryz.func80.trans (congrArg some (by kernel_rfl))
  f224 := Tryz.func106.trans (congrArg some (by kernel_rfl))
  f225 := Tryz.func105.trans (congrArg some (by kernel_rfl))
  f266 := Tryz.func133.trans (congrArg some (by kernel_rfl))
  f267 := Tryz.func107.trans (congrArg some (by kernel_rfl))
  f314 := Tryz.func134.trans (congrArg some (by kernel_rfl))
  t0 := Tryz.underlying0
  a0 := Tryz.isAgg0
  z0 := Tryz.sizeOf0
  v0 := Tryz.zeroValue0
  t3 := Tryz.underlying3
  a3 := Tryz.isAgg3
  z3 := Tryz.sizeOf3
  v3 := Tryz.zeroValue3
  t4 := Tryz.underlying4
  a4 := Tryz.isAgg4
  z4 := Tryz.sizeOf4
  v4 := Tryz.zeroValue4
  t5 := Tryz.underlying5
  a5 := Tryz.isAgg5
  z5 := Tryz.sizeOf5
  v5 := Tryz.zeroValue5
  t9 := Tryz.underlying9
  a9 := Tryz.isAgg9
  z9 := Tryz.sizeOf9
  v9 := Tryz.zeroValue9
  t46 := Tryz.underlying115
  a46 := Tryz.isAgg115
  z46 := Tryz.sizeOf115
  v46 := Tryz.zeroValue115
  t51 := Tryz.underlying69
  a51 := Tryz.isAgg69
  z51 := Tryz.sizeOf69
  v51 := Tryz.zeroValue69
  t146 := Tryz.underlying140
  a146 := Tryz.isAgg140
  z146 := Tryz.sizeOf140
  v146 := Tryz.zeroValue140
  g1 := by kernel_rfl }
open Go.RowKit Go.Lib in
theorem Tryz.strings_Count_one (s : ByteArray) (c : UInt8) (w : World) :
    Calls Tryz.prog 195 #[.string s, .string ⟨#[c]⟩] w fun e w' => e = .returned (.int .i64 (Lib.countByte s.data.toList c)) ∧ w' = w := Any.strings_Count_one Tryz.lays138 s c w
def Tryz.laysGw17_ren : Go.Shelf.Ren := ⟨fun | 17 => 26 | 15 => 54 | 20 => 84 | n => n, fun | 9 => 9 | 23 => 41 | 4 => 4 | 3 => 3 | 0 => 0 | 21 => 21 | n => n, fun | n => n⟩
theorem Tryz.laysGw17 : Go.Proofs.LaysGw.n17 Tryz.prog Tryz.laysGw17_ren := {
  mixed := by kernel_rfl
  f15 := Tryz.func54.trans (congrArg some (by kernel_rfl))
  f17 := Tryz.func26.trans (congrArg some (by kernel_rfl))
  f20 := Tryz.func84.trans (congrArg some (by kernel_rfl))
  t0 := Tryz.underlying0
  a0 := Tryz.isAgg0
  z0 := Tryz.sizeOf0
  v0 := Tryz.zeroValue0
  i0 := by kernel_rfl
  t3 := Tryz.underlying3
  a3 := Tryz.isAgg3
  z3 := Tryz.sizeOf3
  v3 := Tryz.zeroValue3
  i3 := by kernel_rfl
  t4 := Tryz.underlying4
  a4 := Tryz.isAgg4
  z4 := Tryz.sizeOf4
  v4 := Tryz.zeroValue4
  i4 := by kernel_rfl
  t9 := Tryz.underlying9
  a9 := Tryz.isAgg9
  z9 := Tryz.sizeOf9
  v9 := Tryz.zeroValue9
  i9 := by kernel_rfl
  t21 := Tryz.underlying21
  a21 := Tryz.isAgg21
  z21 := Tryz.sizeOf21
  v21 := Tryz.zeroValue21
  i21 := by kernel_rfl
  t23 := Tryz.underlying41
  a23 := Tryz.isAgg41
  z23 := Tryz.sizeOf41
  v23 := Tryz.zeroValue41
  i23 := by kernel_rfl }
def Tryz.lays197_ren : Go.Shelf.Ren := ⟨fun | 197 => 56 | 260 => 85 | n => n, fun | 9 => 9 | 21 => 21 | 3 => 3 | 4 => 4 | 5 => 5 | 105 => 64 | 119 => 116 | 0 => 0 | 46 => 115 | 139 => 119 | 138 => 118 | n => n, fun | 3 => 1 | 4 => 2 | n => n⟩
theorem Tryz.lays197 : Go.Proofs.Lays.n197 Tryz.prog Tryz.lays197_ren := {
  mixed := by kernel_rfl
  f197 := Tryz.func56.trans (congrArg some (by kernel_rfl))
  f260 := Tryz.func85.trans (congrArg some (by kernel_rfl))
  t0 := Tryz.underlying0
  a0 := Tryz.isAgg0
  z0 := Tryz.sizeOf0
  v0 := Tryz.zeroValue0
  t3 := Tryz.underlying3
  a3 := Tryz.isAgg3
  z3 := Tryz.sizeOf3
  v3 := Tryz.zeroValue3
  t4 := Tryz.underlying4
  a4 := Tryz.isAgg4
  z4 := Tryz.sizeOf4
  v4 := Tryz.zeroValue4
  t5 := Tryz.underlying5
  a5 := Tryz.isAgg5
  z5 := Tryz.sizeOf5
  v5 := Tryz.zeroValue5
  t9 := Tryz.underlying9
  a9 := Tryz.isAgg9
  z9 := Tryz.sizeOf9
  v9 := Tryz.zeroValue9
  t21 := Tryz.underlying21
  a21 := Tryz.isAgg21
  z21 := Tryz.sizeOf21
  v21 := Tryz.zeroValue21
  t46 := Tryz.underlying115
  a46 := Tryz.isAgg115
  z46 := Tryz.sizeOf115
  v46 := Tryz.zeroValue115
  t105 := Tryz.underlying64
  a105 := Tryz.isAgg64
  z105 := Tryz.sizeOf64
  v105 := Tryz.zeroValue64
  t119 := Tryz.underlying116
  a119 := Tryz.isAgg116
  z119 := Tryz.sizeOf116
  t138 := Tryz.underlying118
  a138 := Tryz.isAgg118
  z138 := Tryz.sizeOf118
  v138 := Tryz.zeroValue118
  t139 := Tryz.underlying119
  a139 := Tryz.isAgg119
  z139 := Tryz.sizeOf119
  v139 := Tryz.zeroValue119
  g3 := by kernel_rfl
  g4 := by kernel_rfl }
def Tryz.lays152_ren : Go.Shelf.Ren := ⟨fun | 152 => 81 | 137 => 108 | 119 => 109 | 224 => 106 | 225 => 105 | 217 => 104 | 266 => 133 | n => n, fun | 9 => 9 | 21 => 21 | 3 => 3 | 4 => 4 | 5 => 5 | 0 => 0 | 46 => 115 | n => n, fun | n => n⟩
theorem Tryz.lays152 : Go.Proofs.Lays.n152 Tryz.prog Tryz.lays152_ren := {
  mixed := by kernel_rfl
  f119 := Tryz.func109.trans (congrArg some (by kernel_rfl))
  f137 := Tryz.func108.trans (congrArg some (by kernel_rfl))
  f152 := Tryz.func81.trans (congrArg some (by kernel_rfl))
  f217 := Tryz.func104.trans (congrArg some (by kernel_rfl))
  f224 := Tryz.func106.trans (congrArg some (by kernel_rfl))
  f225 := Tryz.func105.trans (congrArg some (by kernel_rfl))
  f266 := Tryz.func133.trans (congrArg some (by kernel_rfl))
  t0 := Tryz.underlying0
  a0 := Tryz.isAgg0
  z0 := Tryz.sizeOf0
  v0 := Tryz.zeroValue0
  t3 := Tryz.underlying3
  a3 := Tryz.isAgg3
  z3 := Tryz.sizeOf3
  v3 := Tryz.zeroValue3
  t4 := Tryz.underlying4
  a4 := Tryz.isAgg4
  z4 := Tryz.sizeOf4
  v4 := Tryz.zeroValue4
  t5 := Tryz.underlying5
  a5 := Tryz.isAgg5
  z5 := Tryz.sizeOf5
  v5 := Tryz.zeroValue5
  t9 := Tryz.underlying9
  a9 := Tryz.isAgg9
  z9 := Tryz.sizeOf9
  v9 := Tryz.zeroValue9
  t21 := Tryz.underlying21
  a21 := Tryz.isAgg21
  z21 := Tryz.sizeOf21
  v21 := Tryz.zeroValue21
  t46 := Tryz.underlying115
  a46 := Tryz.isAgg115
  z46 := Tryz.sizeOf115
  v46 := Tryz.zeroValue115 }
open Go.RowKit Go.Lib in
theorem Tryz.strings_IndexRune_ascii (s : ByteArray) (r : Int) (w : World) (h0 : 0 ≤ r) (h1 : r < 128) :
    Calls Tryz.prog 81 #[.string s, .int .i32 r] w fun e w' => e = .returned (.int .i64 (Lib.indexByte s.data.toList r.toNat.toUInt8)) ∧ w' = w := Any.strings_IndexRune_ascii Tryz.lays152 s r w h0 h1
def Tryz.lays226_ren : Go.Shelf.Ren := ⟨fun | 226 => 82 | n => n, fun | 3 => 3 | 4 => 4 | n => n, fun | n => n⟩
theorem Tryz.lays226 : Go.Proofs.Lays.n226 Tryz.prog Tryz.lays226_ren := {
  mixed := by kernel_rfl
  f226 := Tryz.func82.trans (congrArg some (by kernel_rfl))
  t3 := Tryz.underlying3
  a3 := Tryz.isAgg3
  z3 := Tryz.sizeOf3
  v3 := Tryz.zeroValue3
  t4 := Tryz.underlying4
  a4 := Tryz.isAgg4
  z4 := Tryz.sizeOf4
  v4 := Tryz.zeroValue4 }
open Go.RowKit Go.Lib in
theorem Tryz.strings_shouldUseASCIISet (n : Int) (w : World) :
    Calls Tryz.prog 82 #[.int .i64 n] w fun e w' => e = .returned (.bool (decide (8 < n))) ∧ w' = w := Any.strings_shouldUseASCIISet Tryz.lays226 n w
def Tryz.lays153_ren : Go.Shelf.Ren := ⟨fun | 153 => 53 | 152 => 81 | 226 => 82 | 227 => 71 | 228 => 83 | 137 => 108 | 119 => 109 | 224 => 106 | 225 => 105 | 217 => 104 | 266 => 133 | n => n, fun | 9 => 9 | 3 => 3 | 4 => 4 | 5 => 5 | 21 => 21 | 117 => 95 | 116 => 94 | 0 => 0 | 46 => 115 | 124 => 98 | n => n, fun | n => n⟩
theorem Tryz.lays153 : Go.Proofs.Lays.n153 Tryz.prog Tryz.lays153_ren := {
  mixed := by kernel_rfl
  f119 := Tryz.func109.trans (congrArg some (by kernel_rfl))
  f137 := Tryz.func108.trans (congrArg some (by kernel_rfl))
  f152 := Tryz.func81.trans (congrArg some (by kernel_rfl))
  f153 := Tryz.func53.trans (congrArg some (by kernel_rfl))
  f217 := Tryz.func104.trans (congrArg some (by kernel_rfl))
  f224 := Tryz.func106.trans (congrArg some (by kernel_rfl))
  f225 := Tryz.func105.trans (congrArg some (by kernel_rfl))
  f226 := Tryz.func82.trans (congrArg some (by kernel_rfl))
  f227 := Tryz.func71.trans (congrArg some (by kernel_rfl))
  f228 := Tryz.func83.trans (congrArg some (by kernel_rfl))
  f266 := Tryz.func133.trans (congrArg some (by kernel_rfl))
  t0 := Tryz.underlying0
  a0 := Tryz.isAgg0
  z0 := Tryz.sizeOf0
  v0 := Tryz.zeroValue0
  t3 := Tryz.underlying3
  a3 := Tryz.isAgg3
  z3 := Tryz.sizeOf3
  v3 := Tryz.zeroValue3
  t4 := Tryz.underlying4
  a4 := Tryz.isAgg4
  z4 := Tryz.sizeOf4
  v4 := Tryz.zeroValue4
  t5 := Tryz.underlying5
  a5 := Tryz.isAgg5
  z5 := Tryz.sizeOf5
  v5 := Tryz.zeroValue5
  t9 := Tryz.underlying9
  a9 := Tryz.isAgg9
  z9 := Tryz.sizeOf9
  v9 := Tryz.zeroValue9
  t21 := Tryz.underlying21
  a21 := Tryz.isAgg21
  z21 := Tryz.sizeOf21
  v21 := Tryz.zeroValue21
  t46 := Tryz.underlying115
  a46 := Tryz.isAgg115
  z46 := Tryz.sizeOf115
  v46 := Tryz.zeroValue115
  t116 := Tryz.underlying94
  a116 := Tryz.isAgg94
  z116 := Tryz.sizeOf94
  t117 := Tryz.underlying95
  a117 := Tryz.isAgg95
  z117 := Tryz.sizeOf95
  v117 := Tryz.zeroValue95
  t124 := Tryz.underlying98
  a124 := Tryz.isAgg98
  z124 := Tryz.sizeOf98
  v124 := Tryz.zeroValue98 }
open Go.RowKit Go.Lib in
theorem Tryz.strings_IndexAny_long (hv116 : ∀ w, (zeroValue 94).run Tryz.prog w = .ok (.agg (Array.replicate 256 (.bool false))) w) (s chars : ByteArray) (w : World) (h2 : 2 ≤ chars.size) (h8 : 8 < s.size) (hs : s.size < 4294967281) (hcs : chars.size < 4294967281) (hascii : ∀ (j : Nat) b, chars.data.toList[j]? = some b → b.toNat < 128) :
    Calls Tryz.prog 53 #[.string s, .string chars] w fun e w' => e = .returned (.int .i64 (Lib.indexAny s.data.toList chars.data.toList)) ∧ w' = ((w.alloc (.cells (Lib.setCells chars.data.toList) 94)).alloc (.cells (Lib.setCells chars.data.toList) 94)) := Any.strings_IndexAny_long Tryz.lays153 hv116 (by kernel_rfl) s chars w h2 h8 hs hcs hascii
def Tryz.lays105_ren : Go.Shelf.Ren := ⟨fun | 105 => 88 | 212 => 111 | 99 => 112 | 165 => 60 | 166 => 41 | 170 => 113 | 169 => 36 | 263 => 135 | 264 => 136 | 206 => 137 | 240 => 64 | 241 => 92 | 276 => 94 | 277 => 120 | n => n, fun | 9 => 9 | 3 => 3 | 4 => 4 | 20 => 20 | 0 => 0 | 46 => 115 | 109 => 120 | 5 => 5 | 72 => 48 | 76 => 51 | 51 => 69 | 146 => 140 | 53 => 143 | 148 => 144 | 70 => 46 | 37 => 45 | 75 => 50 | 127 => 86 | 164 => 108 | 80 => 53 | n => n, fun | n => n⟩
theorem Tryz.lays105 : Go.Proofs.Lays.n105 Tryz.prog Tryz.lays105_ren := {
  mixed := by kernel_rfl
  f99 := Tryz.func112.trans (congrArg some (by kernel_rfl))
  f105 := Tryz.func88.trans (congrArg some (by kernel_rfl))
  f165 := Tryz.func60.trans (congrArg some (by kernel_rfl))
  f166 := Tryz.func41.trans (congrArg some (by kernel_rfl))
  f169 := Tryz.func36.trans (congrArg some (by kernel_rfl))
  f170 := Tryz.func113.trans (congrArg some (by kernel_rfl))
  f206 := Tryz.func137.trans (congrArg some (by kernel_rfl))
  f212 := Tryz.func111.trans (congrArg some (by kernel_rfl))
  f240 := Tryz.func64.trans (congrArg some (by kernel_rfl))
  f241 := Tryz.func92.trans (congrArg some (by kernel_rfl))
  f263 := Tryz.func135.trans (congrArg some (by kernel_rfl))
  f264 := Tryz.func136.trans (congrArg some (by kernel_rfl))
  f276 := Tryz.func94.trans (congrArg some (by kernel_rfl))
  f277 := Tryz.func120.trans (congrArg some (by kernel_rfl))
  t0 := Tryz.underlying0
  a0 := Tryz.isAgg0
  z0 := Tryz.sizeOf0
  v0 := Tryz.zeroValue0
  t3 := Tryz.underlying3
  a3 := Tryz.isAgg3
  z3 := Tryz.sizeOf3
  v3 := Tryz.zeroValue3
  t4 := Tryz.underlying4
  a4 := Tryz.isAgg4
  z4 := Tryz.sizeOf4
  v4 := Tryz.zeroValue4
  t5 := Tryz.underlying5
  a5 := Tryz.isAgg5
  z5 := Tryz.sizeOf5
  v5 := Tryz.zeroValue5
  t9 := Tryz.underlying9
  a9 := Tryz.isAgg9
  z9 := Tryz.sizeOf9
  v9 := Tryz.zeroValue9
  t20 := Tryz.underlying20
  a20 := Tryz.isAgg20
  z20 := Tryz.sizeOf20
  v20 := Tryz.zeroValue20
  t37 := Tryz.underlying45
  a37 := Tryz.isAgg45
  z37 := Tryz.sizeOf45
  v37 := Tryz.zeroValue45
  t46 := Tryz.underlying115
  a46 := Tryz.isAgg115
  z46 := Tryz.sizeOf115
  v46 := Tryz.zeroValue115
  t51 := Tryz.underlying69
  a51 := Tryz.isAgg69
  z51 := Tryz.sizeOf69
  v51 := Tryz.zeroValue69
  t53 := Tryz.underlying143
  a53 := Tryz.isAgg143
  z53 := Tryz.sizeOf143
  v53 := Tryz.zeroValue143
  t70 := Tryz.underlying46
  a70 := Tryz.isAgg46
  z70 := Tryz.sizeOf46
  v70 := Tryz.zeroValue46
  t72 := Tryz.underlying48
  a72 := Tryz.isAgg48
  z72 := Tryz.sizeOf48
  v72 := Tryz.zeroValue48
  t75 := Tryz.underlying50
  a75 := Tryz.isAgg50
  z75 := Tryz.sizeOf50
  v75 := Tryz.zeroValue50
  t76 := Tryz.underlying51
  a76 := Tryz.isAgg51
  z76 := Tryz.sizeOf51
  v76 := Tryz.zeroValue51
  t109 := Tryz.underlying120
  a109 := Tryz.isAgg120
  z109 := Tryz.sizeOf120
  v109 := Tryz.zeroValue120
  t127 := Tryz.underlying86
  a127 := Tryz.isAgg86
  z127 := Tryz.sizeOf86
  v127 := Tryz.zeroValue86
  t146 := Tryz.underlying140
  a146 := Tryz.isAgg140
  z146 := Tryz.sizeOf140
  v146 := Tryz.zeroValue140
  t148 := Tryz.underlying144
  a148 := Tryz.isAgg144
  z148 := Tryz.sizeOf144
  v148 := Tryz.zeroValue144
  t164 := Tryz.underlying108
  a164 := Tryz.isAgg108
  z164 := Tryz.sizeOf108
  v164 := Tryz.zeroValue108 }
theorem Tryz.Builder_Extra_105 : Builder.Extra Tryz.prog Tryz.lays105_ren := {
  sizeBuilder := by kernel_rfl
  liesBuilder := by kernel_rfl
  t5 := Tryz.underlying5
  a5 := Tryz.isAgg5
  z5 := Tryz.sizeOf5
  v5 := Tryz.zeroValue5
  infoByte := by kernel_rfl
  cellsByte := by kernel_rfl
  sizeByte := by kernel_rfl
  neB5 := by decide }
open Go.RowKit Go.Lib in
theorem Tryz.strings_Repeat_main (s : ByteArray) (c : Nat) (w : World) (hc2 : 2 ≤ c) (hc : c ≤ 9223372036854775807) (hlen : s.size * c ≤ 140737488355328) (h0 : 0 < s.size) :
    Calls Tryz.prog 88 #[.string s, .int .i64 c] w fun e w' => e = .returned (.string ⟨(Lib.repeatL s.data.toList c).toArray⟩) ∧ Below w.heap.size w w' := Any.strings_Repeat_main Tryz.lays105 Tryz.Builder_Extra_105 s c w hc2 hc hlen h0
open Go.RowKit Go.Lib in
theorem Tryz.strings_Repeat_zero (s : ByteArray) (w : World) :
    Calls Tryz.prog 88 #[.string s, .int .i64 0] w fun e w' => e = .returned (.string ⟨#[]⟩) ∧ w' = w := Any.strings_Repeat_zero Tryz.lays105 s w
open Go.RowKit Go.Lib in
theorem Tryz.strings_Repeat_one (s : ByteArray) (w : World) :
    Calls Tryz.prog 88 #[.string s, .int .i64 1] w fun e w' => e = .returned (.string s) ∧ w' = w := Any.strings_Repeat_one Tryz.lays105 s w
def Tryz.lays260_ren : Go.Shelf.Ren := ⟨fun | 260 => 85 | n => n, fun | 9 => 9 | 21 => 21 | 3 => 3 | 4 => 4 | 5 => 5 | 119 => 116 | 0 => 0 | 46 => 115 | 139 => 119 | 138 => 118 | n => n, fun | 3 => 1 | 4 => 2 | n => n⟩
theorem Tryz.lays260 : Go.Proofs.Lays.n260 Tryz.prog Tryz.lays260_ren := {
  mixed := by kernel_rfl
  f260 := Tryz.func85.trans (congrArg some (by kernel_rfl))
  t0 := Tryz.underlying0
  a0 := Tryz.isAgg0
  z0 := Tryz.sizeOf0
  v0 := Tryz.zeroValue0
  t3 := Tryz.underlying3
  a3 := Tryz.isAgg3
  z3 := Tryz.sizeOf3
  v3 := Tryz.zeroValue3
  t4 := Tryz.underlying4
  a4 := Tryz.isAgg4
  z4 := Tryz.sizeOf4
  v4 := Tryz.zeroValue4
  t5 := Tryz.underlying5
  a5 := Tryz.isAgg5
  z5 := Tryz.sizeOf5
  v5 := Tryz.zeroValue5
  t9 := Tryz.underlying9
  a9 := Tryz.isAgg9
  z9 := Tryz.sizeOf9
  v9 := Tryz.zeroValue9
  t21 := Tryz.underlying21
  a21 := Tryz.isAgg21
  z21 := Tryz.sizeOf21
  v21 := Tryz.zeroValue21
  t46 := Tryz.underlying115
  a46 := Tryz.isAgg115
  z46 := Tryz.sizeOf115
  v46 := Tryz.zeroValue115
  t119 := Tryz.underlying116
  a119 := Tryz.isAgg116
  z119 := Tryz.sizeOf116
  t138 := Tryz.underlying118
  a138 := Tryz.isAgg118
  z138 := Tryz.sizeOf118
  v138 := Tryz.zeroValue118
  t139 := Tryz.underlying119
  a139 := Tryz.isAgg119
  z139 := Tryz.sizeOf119
  v139 := Tryz.zeroValue119
  g3 := by kernel_rfl
  g4 := by kernel_rfl }
open Go.RowKit Go.Lib in
theorem Tryz.utf8_DecodeRuneInString (s : ByteArray) (w : World) (hT : Lib.Utf8Tabs 1 2 w) :
    Calls Tryz.prog 56 #[.string s] w fun e w' => e = .returned (.tuple #[.int .i32 (Lib.decodeGo s).1, .int .i64 (Lib.decodeGo s).2]) ∧ Below w.heap.size w w' := Any.utf8_DecodeRuneInString Tryz.lays197 s w hT
open Go.RowKit Go.Lib in
theorem Tryz.strings_ContainsFunc_grows (g : Nat) (lb : Array Value) (eg : ∀ args w, (callFunc g args).run Tryz.prog w = .ok (.enter g args) w) (p : Nat → Bool) (s : ByteArray) (w : World) (hp : PredGrows Tryz.prog g lb p w) :
    Calls Tryz.prog 26 #[.string s, .func (.func g) #[] lb] w fun e w' => e = .returned (.bool (decide (0 ≤ Lib.idxFunc p true s))) ∧ Below w.heap.size w w' := Any.strings_ContainsFunc_grows Tryz.laysGw17 g lb eg p s w hp
end Go.Proofs
namespace Go.Proofs.YtpcncpegbboljaaGreatDoor
open Go.RowKit Go.Shelf Go.Lib
set_option linter.unusedVariables false
set_option linter.unusedSimpArgs false
theorem bdrewN {B : Nat} {w0 w : World} (h : Below B w0 w) (n : Nat) : Below B w0 (w.drewN n) := ⟨h.os, h.tape, h.output, h.size, h.block⟩
def asciiB (c : ByteArray) : Bool := c.data.toList.all fun b => b.toNat < 128
def strings_Trim.f (s c : ByteArray) : Option ByteArray :=
  if s.size ≤ 9223372036854775807 ∧ c.size < 4294967281 ∧ asciiB c = true then some ⟨(Lib.trimS s.data.toList c.data.toList).toArray⟩ else none
theorem strings_Trim.calls (s c r : ByteArray) (w : World) (h : strings_Trim.f s c = some r) :
    Calls Tryz.prog 43 #[.string s, .string c] w fun e w' => e = .returned (.string r) ∧ Below w.heap.size w w' := by
  obtain ⟨⟨h1, h2, h3⟩, rfl⟩ := of_guard h
  refine Any.strings_Trim_laid Tryz.lays160 (by kernel_rfl) s c w h1 h2 (fun j b hb => ?_)
  have := List.all_eq_true.1 h3 b (List.mem_of_getElem? hb)
  simpa using this
def strings_CutPrefix.f (s p : ByteArray) : Option (ByteArray × Bool) := some (⟨(Lib.trimPrefix s.data.toList p.data.toList).toArray⟩, Lib.hasPrefix s.data.toList p.data.toList)
theorem strings_CutPrefix.calls (s p r1 : ByteArray) (r2 : Bool) (w : World) (h : strings_CutPrefix.f s p = some (r1, r2)) :
    Calls Tryz.prog 96 #[.string s, .string p] w fun e w' => e = .returned (.tuple #[.string r1, .bool r2]) ∧ Below w.heap.size w w' := by
  injection h with h
  injection h with h1 h2
  subst h1 h2
  exact (Tryz.strings_CutPrefix s p w).mono (by rintro e w' ⟨rfl, rfl⟩; exact ⟨rfl, Below.refl _ _⟩)
def strings_IndexByte.f (s : ByteArray) (c : Int) : Option Int := some (Lib.indexByte s.data.toList c.toNat.toUInt8)
theorem strings_IndexByte.calls (s : ByteArray) (c r : Int) (w : World) (h : strings_IndexByte.f s c = some r) :
    Calls Tryz.prog 108 #[.string s, .int .u8 c] w fun e w' => e = .returned (.int .i64 r) ∧ Below w.heap.size w w' := by
  injection h with h
  subst h
  exact (Tryz.strings_IndexByte s c w).mono (by rintro e w' ⟨rfl, rfl⟩; exact ⟨rfl, Below.refl _ _⟩)
def cutL (c : UInt8) (l : List UInt8) : List UInt8 × List UInt8 × Bool := if c ∈ l then (l.takeWhile (· != c), (l.dropWhile (· != c)).drop 1, true) else (l, [], false)
theorem index_split (c : UInt8) : ∀ l : List UInt8, (c ∈ l → ∃ i : Nat, Lib.indexByte l c = (i : Int) ∧ i < l.length ∧ l.take i = l.takeWhile (· != c) ∧ l.drop (i + 1) = (l.dropWhile (· != c)).drop 1) ∧ (c ∉ l → Lib.indexByte l c = -1)
  | [] => ⟨fun h => by simp at h, fun _ => rfl⟩
  | b :: l => by
    obtain ⟨h1, h2⟩ := index_split c l
    by_cases hb : b = c
    · subst hb
      refine ⟨fun _ => ⟨0, by simp [Lib.indexByte], by simp, by simp, by simp⟩, fun h => absurd (by simp) h⟩
    · have hb1 : (b == c) = false := by simpa using hb
      have hb2 : (b != c) = true := by simpa using hb
      constructor
      · intro h
        have hm : c ∈ l := by
          rcases List.mem_cons.1 h with h | h
          · exact absurd h.symm hb
          · exact h
        obtain ⟨i, e1, e2, e3, e4⟩ := h1 hm
        refine ⟨i + 1, ?_, by simp only [List.length_cons]; omega, ?_, ?_⟩
        · have : ¬ ((i : Int) == -1) = true := by simp <;> omega
          simp only [Lib.indexByte, hb1, e1, Bool.false_eq_true, if_false, this]
          omega
        · rw [List.take_succ_cons, List.takeWhile_cons, if_pos (by exact hb2), e3]
        · rw [List.drop_succ_cons, List.dropWhile_cons, if_pos (by exact hb2), e4]
      · intro h
        have hm : c ∉ l := fun h' => h (by simp [h'])
        simp [Lib.indexByte, hb1, h2 hm]
theorem extract_l (s : ByteArray) (i j : Nat) : s.extract i j = ⟨((s.data.toList.take j).drop i).toArray⟩ := by
  apply ByteArray.ext
  apply Array.ext'
  simp [List.drop_take]
theorem one_byte {p : ByteArray} (h : p.size = 1) : ∃ c, p = ⟨#[c]⟩ := by
  obtain ⟨⟨l⟩⟩ := p
  match l, h with
  | [c], _ => exact ⟨c, rfl⟩
def strings_Cut.f (s p : ByteArray) : Option (ByteArray × ByteArray × Bool) :=
  if p.size = 1 ∧ s.size ≤ 9223372036854775000 then some (⟨(cutL (p.data.toList.getD 0 0) s.data.toList).1.toArray⟩, ⟨(cutL (p.data.toList.getD 0 0) s.data.toList).2.1.toArray⟩, (cutL (p.data.toList.getD 0 0) s.data.toList).2.2) else none
set_option maxHeartbeats 1000000 in
theorem slite_cut (s : ByteArray) (c : UInt8) (hs : s.size ≤ 9223372036854775000) (w : World) :
    Calls Tryz.prog 51 #[.string s, .string ⟨#[c]⟩] w fun e w' => e = .returned (.tuple #[.string ⟨(cutL c s.data.toList).1.toArray⟩, .string ⟨(cutL c s.data.toList).2.1.toArray⟩, .bool (cutL c s.data.toList).2.2]) ∧ ∃ n, w' = w.drewN n := by
  have hsl : s.data.toList.length = s.size := by simp
  have IX := Lib.hid (Tryz.stringslite_Index_one s c)
  have hz1 : (⟨#[c]⟩ : ByteArray).size = 1 := rfl
  by_cases hm : c ∈ s.data.toList
  · obtain ⟨i, e1, e2, e3, e4⟩ := (index_split c s.data.toList).1 hm
    have i1 : (i : Int) ≤ (s.size : Int) := by omega
    have i2 : i ≤ s.size := by omega
    have i3 : i + 1 ≤ s.size := by omega
    have i4 : (i : Int) + 1 ≤ (s.size : Int) := by omega
    have w1 : IntKind.i64.wrap ((i : Int) + 1) = (i : Int) + 1 := IntWalk.i64_in _ (by omega)
    have x1 : s.extract 0 i = ⟨(cutL c s.data.toList).1.toArray⟩ := by
      unfold cutL; rw [if_pos hm, extract_l, List.drop_zero, e3]
    have x2 : s.extract (i + 1) s.size = ⟨(cutL c s.data.toList).2.1.toArray⟩ := by
      unfold cutL; rw [if_pos hm, extract_l, List.take_of_length_le (by omega), e4]
    have x3 : (cutL c s.data.toList).2.2 = true := by unfold cutL; rw [if_pos hm]
    rw [e1] at IX
    have t1 : ((i : Int) + 1).toNat = i + 1 := by omega
    generalize hos : (⟨#[c]⟩ : ByteArray) = os at *
    generalize cutL c s.data.toList = ct at *
    have X1 := Lib.hid x1; have X2 := Lib.hid x2; have X3 := Lib.hid x3
    clear hsl e1 e2 e3 e4 x1 x2 x3 hm hos
    go_enter Tryz.func51, Tryz.ntmps51
    go_wp2_with (go_at_call 80; refine (IX.out _).mono ?_; rintro e w' ⟨rfl, rfl⟩)
    go_quiet (fail)
    rename_i nq
    go_wp2_with fail
    go_ret3
    exact ⟨by rw [X1.out, X2.out, X3.out]; rfl, nq, rfl⟩
  · have e1 := (index_split c s.data.toList).2 hm
    rw [e1] at IX
    have x1 : cutL c s.data.toList = (s.data.toList, [], false) := by unfold cutL; rw [if_neg hm]
    have X1 := Lib.hid x1
    generalize hos : (⟨#[c]⟩ : ByteArray) = os at *
    clear hsl e1 hm x1 hos
    go_enter Tryz.func51, Tryz.ntmps51
    go_wp2_with (go_at_call 80; refine (IX.out _).mono ?_; rintro e w' ⟨rfl, rfl⟩)
    go_ret3
    exact ⟨by rw [X1.out]; exact congrArg Ending.returned (congrArg Value.tuple (by congr 1)), 0, rfl⟩
theorem strings_Cut.calls (s p r1 r2 : ByteArray) (r3 : Bool) (w : World) (h : strings_Cut.f s p = some (r1, r2, r3)) :
    Calls Tryz.prog 23 #[.string s, .string p] w fun e w' => e = .returned (.tuple #[.string r1, .string r2, .bool r3]) ∧ Below w.heap.size w w' := by
  obtain ⟨⟨h1, h2⟩, h⟩ := of_guard h
  obtain ⟨c, rfl⟩ := one_byte h1
  injection h with e1 h
  injection h with e2 e3
  subst e1 e2 e3
  have SC := Lib.hid (slite_cut s c h2 w)
  have hg : (⟨#[c]⟩ : ByteArray).data.toList.getD 0 0 = c := rfl
  rw [hg]
  clear h1 h2 hg
  go_enter Tryz.func23, Tryz.ntmps23
  go_wp2_with (go_at_call 51; refine SC.out.mono ?_; rintro e w' ⟨rfl, n, rfl⟩)
  go_ret3
  exact ⟨rfl, ⟨rfl, rfl, rfl, Nat.le_refl _, fun _ _ => rfl⟩⟩
end Go.Proofs.YtpcncpegbboljaaGreatDoor
namespace Go.Proofs.YtpcncpegbboljaaGreatDoor
set_option linter.unusedVariables false
set_option linter.unusedSimpArgs false
def byteAt (l : List UInt8) (j : Nat) : Nat := (l.getD j 0).toNat
def contAt (l : List UInt8) (j : Nat) : Bool := decide (j < l.length) && byteAt l j / 64 == 2
def uDec (l : List UInt8) : Nat × Nat :=
  if byteAt l 0 < 128 then (byteAt l 0, 1)
  else if byteAt l 0 / 32 == 6 && contAt l 1 then
    if byteAt l 0 % 32 * 64 + byteAt l 1 % 64 ≥ 128 then (byteAt l 0 % 32 * 64 + byteAt l 1 % 64, 2) else (65533, 1)
  else if byteAt l 0 / 16 == 14 && contAt l 1 && contAt l 2 then
    if byteAt l 0 % 16 * 4096 + byteAt l 1 % 64 * 64 + byteAt l 2 % 64 ≥ 2048 && Utf8.valid ((byteAt l 0 % 16 * 4096 + byteAt l 1 % 64 * 64 + byteAt l 2 % 64 : Nat) : Int) then (byteAt l 0 % 16 * 4096 + byteAt l 1 % 64 * 64 + byteAt l 2 % 64, 3) else (65533, 1)
  else if byteAt l 0 / 8 == 30 && contAt l 1 && contAt l 2 && contAt l 3 then
    if byteAt l 0 % 8 * 262144 + byteAt l 1 % 64 * 4096 + byteAt l 2 % 64 * 64 + byteAt l 3 % 64 ≥ 65536 && Utf8.valid ((byteAt l 0 % 8 * 262144 + byteAt l 1 % 64 * 4096 + byteAt l 2 % 64 * 64 + byteAt l 3 % 64 : Nat) : Int) then (byteAt l 0 % 8 * 262144 + byteAt l 1 % 64 * 4096 + byteAt l 2 % 64 * 64 + byteAt l 3 % 64, 4) else (65533, 1)
  else (65533, 1)
theorem decode_list (s : ByteArray) (i : Nat) : Utf8.decode s i = uDec (s.data.toList.drop i) := by
  have hg : ∀ k, (s.get! (i + k)).toNat = byteAt (s.data.toList.drop i) k := by
    intro k
    simp only [byteAt, List.getD_eq_getElem?_getD, List.getElem?_drop, ByteArray.get!]
    rw [Array.getElem?_toList]
    simp [getElem!_def]
    cases s.data[i + k]? <;> rfl
  have hc : ∀ k, (decide (i + k < s.size) && byteAt (s.data.toList.drop i) k / 64 == 2) = contAt (s.data.toList.drop i) k := by
    intro k
    simp only [contAt, List.length_drop, Array.length_toList]
    congr 1
    simp only [ByteArray.size, decide_eq_decide]
    omega
  simp only [Utf8.decode, hg, hc]
  simp only [uDec, Utf8.runeError]
theorem byte_back {x : Int} {a : UInt8} (h : x = (a.toNat : Int)) : x.toNat.toUInt8 = a := by
  subst h
  simp
theorem byteAt_lt (l : List UInt8) (j : Nat) : byteAt l j < 256 := UInt8.toNat_lt _
theorem valid_iff (r : Int) : Utf8.valid r = true ↔ (0 ≤ r ∧ r < 55296) ∨ (57344 ≤ r ∧ r ≤ 1114111) := by
  simp only [Utf8.valid, Bool.or_eq_true, Bool.and_eq_true, decide_eq_true_eq]
theorem enc_one {r : Int} (h0 : 0 ≤ r) (h1 : r ≤ 127) : Lib.encodeRune r = [r.toNat.toUInt8] := by
  simp [Lib.encodeRune, Lib.encodeRuneZ_one h0 h1]
theorem enc_two {r : Int} (h0 : 128 ≤ r) (h1 : r ≤ 2047) : Lib.encodeRune r = [(192 + r / 64).toNat.toUInt8, (128 + r % 64).toNat.toUInt8] := by
  simp [Lib.encodeRune, Lib.encodeRuneZ_two h0 h1]
theorem enc_three {r : Int} (h : (2048 ≤ r ∧ r < 55296) ∨ (57343 < r ∧ r ≤ 65535)) : Lib.encodeRune r = [(224 + r / 4096).toNat.toUInt8, (128 + r / 64 % 64).toNat.toUInt8, (128 + r % 64).toNat.toUInt8] := by
  simp [Lib.encodeRune, Lib.encodeRuneZ_three h]
theorem enc_four {r : Int} (h0 : 65536 ≤ r) (h1 : r ≤ 1114111) : Lib.encodeRune r = [(240 + r / 262144).toNat.toUInt8, (128 + r / 4096 % 64).toNat.toUInt8, (128 + r / 64 % 64).toNat.toUInt8, (128 + r % 64).toNat.toUInt8] := by
  simp [Lib.encodeRune, Lib.encodeRuneZ_four h0 h1]
theorem enc_bad {r : Int} (h : r < 0 ∨ (55296 ≤ r ∧ r ≤ 57343) ∨ 1114111 < r) : Lib.encodeRune r = [239, 191, 189] := by
  simp [Lib.encodeRune, Lib.encodeRuneZ_bad h]
theorem enc_65533 : Lib.encodeRune 65533 = [239, 191, 189] := by decide
theorem toU8 {x : Int} (h0 : 0 ≤ x) (h1 : x < 256) : (x.toNat.toUInt8).toNat = x.toNat := by
  show (UInt8.ofNat x.toNat).toNat = _
  rw [UInt8.toNat_ofNat']; omega
def wholeL (l : List UInt8) : Nat := if (uDec l).2 = 1 ∧ 128 ≤ byteAt l 0 then 0 else (uDec l).2
theorem ex2 {a : UInt8} {r : List UInt8} (h : 2 < (a :: r).length) : ∃ b c r', r = b :: c :: r' := by
  match r, h with
  | b :: c :: r', _ => exact ⟨b, c, r', rfl⟩
theorem ex3 {a : UInt8} {r : List UInt8} (h : 3 < (a :: r).length) : ∃ b c d r', r = b :: c :: d :: r' := by
  match r, h with
  | b :: c :: d :: r', _ => exact ⟨b, c, d, r', rfl⟩
theorem contAt_iff (l : List UInt8) (j : Nat) : contAt l j = true ↔ j < l.length ∧ byteAt l j / 64 = 2 := by
  simp [contAt]
theorem dec_cases (l : List UInt8) (hl : l ≠ []) :
    (wholeL l = 0 ∧ uDec l = (65533, 1) ∧ 128 ≤ byteAt l 0) ∨
    (wholeL l = (uDec l).2 ∧ 0 < (uDec l).2 ∧ (uDec l).2 ≤ 4 ∧ (uDec l).2 ≤ l.length ∧ Utf8.valid (uDec l).1 = true ∧ Lib.encodeRune (uDec l).1 = l.take (uDec l).2) := by
  obtain ⟨a, r, rfl⟩ := List.exists_cons_of_ne_nil hl
  by_cases h0 : byteAt (a :: r) 0 < 128
  · right
    have e : uDec (a :: r) = (byteAt (a :: r) 0, 1) := by simp only [uDec, if_pos h0]
    have hw : wholeL (a :: r) = 1 := by unfold wholeL; rw [e, if_neg (by omega)]
    have ha : byteAt (a :: r) 0 = a.toNat := rfl
    rw [hw, e]
    refine ⟨rfl, by omega, by omega, by simp, ?_, ?_⟩
    · rw [valid_iff]; simp only; omega
    · rw [enc_one (by simp) (by simp only; omega)]; simp [ha]
  · have bad : uDec (a :: r) = (65533, 1) → (wholeL (a :: r) = 0 ∧ uDec (a :: r) = (65533, 1) ∧ 128 ≤ byteAt (a :: r) 0) := fun e =>
      ⟨by unfold wholeL; rw [e, if_pos ⟨rfl, by omega⟩], e, by omega⟩
    have good : ∀ n w, uDec (a :: r) = (n, w) → 1 < w → wholeL (a :: r) = w := fun n w e hw => by
      unfold wholeL; rw [e, if_neg (by simp only; omega)]
    by_cases h2 : byteAt (a :: r) 0 / 32 = 6 ∧ contAt (a :: r) 1 = true
    · obtain ⟨c0, c1⟩ := h2
      by_cases h3 : byteAt (a :: r) 0 % 32 * 64 + byteAt (a :: r) 1 % 64 ≥ 128
      · right
        have e : uDec (a :: r) = (byteAt (a :: r) 0 % 32 * 64 + byteAt (a :: r) 1 % 64, 2) := by
          simp only [uDec, if_neg h0, c0, c1, beq_self_eq_true, Bool.and_self, if_true, if_pos h3]
        rw [good _ _ e (by omega), e]
        rw [contAt_iff] at c1
        match r, c1, e, h3, c0, h0 with
        | b :: r, c1, e, h3, c0, h0 =>
          have ha : byteAt (a :: b :: r) 0 = a.toNat := rfl
          have hb : byteAt (a :: b :: r) 1 = b.toNat := rfl
          have := UInt8.toNat_lt a; have := UInt8.toNat_lt b
          rw [ha, hb]
          refine ⟨rfl, by omega, by omega, by simp, ?_, ?_⟩
          · rw [valid_iff]; simp only; omega
          · rw [enc_two (by simp only; omega) (by simp only; omega)]
            rw [byte_back (a := a) (by simp only; omega), byte_back (a := b) (by simp only; omega)]
            rfl
      · left
        exact bad (by simp only [uDec, if_neg h0, c0, c1, beq_self_eq_true, Bool.and_self, if_true, if_neg h3])
    · have n2 : (byteAt (a :: r) 0 / 32 == 6 && contAt (a :: r) 1) = false := by
        cases hh : (byteAt (a :: r) 0 / 32 == 6 && contAt (a :: r) 1) with
        | false => rfl
        | true => simp only [Bool.and_eq_true, beq_iff_eq] at hh; exact absurd hh h2
      by_cases h4 : byteAt (a :: r) 0 / 16 = 14 ∧ contAt (a :: r) 1 = true ∧ contAt (a :: r) 2 = true
      · obtain ⟨c0, c1, c2⟩ := h4
        by_cases h5 : (decide (byteAt (a :: r) 0 % 16 * 4096 + byteAt (a :: r) 1 % 64 * 64 + byteAt (a :: r) 2 % 64 ≥ 2048) && Utf8.valid ((byteAt (a :: r) 0 % 16 * 4096 + byteAt (a :: r) 1 % 64 * 64 + byteAt (a :: r) 2 % 64 : Nat) : Int)) = true
        · right
          have e : uDec (a :: r) = (byteAt (a :: r) 0 % 16 * 4096 + byteAt (a :: r) 1 % 64 * 64 + byteAt (a :: r) 2 % 64, 3) := by
            simp only [uDec, if_neg h0, n2, Bool.false_eq_true, if_false]
            rw [if_pos (by simp [c0, c1, c2]), if_pos h5]
          rw [good _ _ e (by omega), e]
          rw [contAt_iff] at c1 c2
          simp only [Bool.and_eq_true, decide_eq_true_eq] at h5
          obtain ⟨h5, h6⟩ := h5
          obtain ⟨b, c, r, rfl⟩ := ex2 c2.1
          · skip
            have ha : byteAt (a :: b :: c :: r) 0 = a.toNat := rfl
            have hb : byteAt (a :: b :: c :: r) 1 = b.toNat := rfl
            have hc : byteAt (a :: b :: c :: r) 2 = c.toNat := rfl
            have := UInt8.toNat_lt a; have := UInt8.toNat_lt b; have := UInt8.toNat_lt c
            simp only [ha, hb, hc] at *
            refine ⟨trivial, by omega, by omega, by simp, h6, ?_⟩
            rw [valid_iff] at h6
            rw [enc_three (by omega)]
            rw [byte_back (a := a) (by omega), byte_back (a := b) (by omega), byte_back (a := c) (by omega)]
            rfl
        · left
          exact bad (by
            simp only [uDec, if_neg h0, n2, Bool.false_eq_true, if_false]
            rw [if_pos (by simp [c0, c1, c2]), if_neg h5])
      · have n4 : (byteAt (a :: r) 0 / 16 == 14 && contAt (a :: r) 1 && contAt (a :: r) 2) = false := by
          cases hh : (byteAt (a :: r) 0 / 16 == 14 && contAt (a :: r) 1 && contAt (a :: r) 2) with
          | false => rfl
          | true => simp only [Bool.and_eq_true, beq_iff_eq] at hh; exact absurd ⟨hh.1.1, hh.1.2, hh.2⟩ h4
        by_cases h6 : byteAt (a :: r) 0 / 8 = 30 ∧ contAt (a :: r) 1 = true ∧ contAt (a :: r) 2 = true ∧ contAt (a :: r) 3 = true
        · obtain ⟨c0, c1, c2, c3⟩ := h6
          by_cases h7 : (decide (byteAt (a :: r) 0 % 8 * 262144 + byteAt (a :: r) 1 % 64 * 4096 + byteAt (a :: r) 2 % 64 * 64 + byteAt (a :: r) 3 % 64 ≥ 65536) && Utf8.valid ((byteAt (a :: r) 0 % 8 * 262144 + byteAt (a :: r) 1 % 64 * 4096 + byteAt (a :: r) 2 % 64 * 64 + byteAt (a :: r) 3 % 64 : Nat) : Int)) = true
          · right
            have e : uDec (a :: r) = (byteAt (a :: r) 0 % 8 * 262144 + byteAt (a :: r) 1 % 64 * 4096 + byteAt (a :: r) 2 % 64 * 64 + byteAt (a :: r) 3 % 64, 4) := by
              simp only [uDec, if_neg h0, n2, n4, Bool.false_eq_true, if_false]
              rw [if_pos (by simp [c0, c1, c2, c3]), if_pos h7]
            rw [good _ _ e (by omega), e]
            rw [contAt_iff] at c1 c2 c3
            simp only [Bool.and_eq_true, decide_eq_true_eq] at h7
            obtain ⟨h7, h8⟩ := h7
            obtain ⟨b, c, d, r, rfl⟩ := ex3 c3.1
            · skip
              have ha : byteAt (a :: b :: c :: d :: r) 0 = a.toNat := rfl
              have hb : byteAt (a :: b :: c :: d :: r) 1 = b.toNat := rfl
              have hc : byteAt (a :: b :: c :: d :: r) 2 = c.toNat := rfl
              have hd : byteAt (a :: b :: c :: d :: r) 3 = d.toNat := rfl
              have := UInt8.toNat_lt a; have := UInt8.toNat_lt b; have := UInt8.toNat_lt c; have := UInt8.toNat_lt d
              simp only [ha, hb, hc, hd] at *
              refine ⟨trivial, by omega, by omega, by simp, h8, ?_⟩
              rw [valid_iff] at h8
              rw [enc_four (by omega) (by omega)]
              rw [byte_back (a := a) (by omega), byte_back (a := b) (by omega), byte_back (a := c) (by omega), byte_back (a := d) (by omega)]
              rfl
          · left
            exact bad (by
              simp only [uDec, if_neg h0, n2, n4, Bool.false_eq_true, if_false]
              rw [if_pos (by simp [c0, c1, c2, c3]), if_neg h7])
        · left
          have n6 : (byteAt (a :: r) 0 / 8 == 30 && contAt (a :: r) 1 && contAt (a :: r) 2 && contAt (a :: r) 3) = false := by
            cases hh : (byteAt (a :: r) 0 / 8 == 30 && contAt (a :: r) 1 && contAt (a :: r) 2 && contAt (a :: r) 3) with
            | false => rfl
            | true => simp only [Bool.and_eq_true, beq_iff_eq] at hh; exact absurd ⟨hh.1.1.1, hh.1.1.2, hh.1.2, hh.2⟩ h6
          exact bad (by simp only [uDec, if_neg h0, n2, n4, n6, Bool.false_eq_true, if_false])
def runeOf (r : Int) : Nat := if Utf8.valid r = true then r.toNat else 65533
theorem enc_runeOf (r : Int) : Lib.encodeRune (runeOf r) = Lib.encodeRune r := by
  unfold runeOf
  split
  · rename_i h
    rw [valid_iff] at h
    rw [Int.toNat_of_nonneg (by omega)]
  · rename_i h
    rw [valid_iff] at h
    rw [enc_bad (r := r) (by omega)]
    exact enc_65533
theorem dec_enc_valid (r : Int) (h : Utf8.valid r = true) (rest : List UInt8) :
    uDec (Lib.encodeRune r ++ rest) = (r.toNat, (Lib.encodeRune r).length) ∧ (128 ≤ r.toNat → 1 < (Lib.encodeRune r).length) := by
  have hv := h
  rw [valid_iff] at h
  by_cases c1 : r ≤ 127
  · rw [enc_one (by omega) c1]
    have h0 : byteAt ([r.toNat.toUInt8] ++ rest) 0 = r.toNat := by
      show (r.toNat.toUInt8).toNat = _
      rw [toU8 (by omega) (by omega)]
    refine ⟨?_, fun hh => by omega⟩
    simp only [uDec, h0]
    rw [if_pos (by omega)]
    rfl
  · by_cases c2 : r ≤ 2047
    · rw [enc_two (by omega) c2]
      have h0 : byteAt ([(192 + r / 64).toNat.toUInt8, (128 + r % 64).toNat.toUInt8] ++ rest) 0 = (192 + r / 64).toNat := by
        show ((192 + r / 64).toNat.toUInt8).toNat = _
        rw [toU8 (by omega) (by omega)]
      have h1 : byteAt ([(192 + r / 64).toNat.toUInt8, (128 + r % 64).toNat.toUInt8] ++ rest) 1 = (128 + r % 64).toNat := by
        show ((128 + r % 64).toNat.toUInt8).toNat = _
        rw [toU8 (by omega) (by omega)]
      have k1 : contAt ([(192 + r / 64).toNat.toUInt8, (128 + r % 64).toNat.toUInt8] ++ rest) 1 = true := by
        rw [contAt_iff]; exact ⟨by simp, by rw [h1]; omega⟩
      refine ⟨?_, fun _ => by simp⟩
      simp only [uDec, h0, h1, k1]
      rw [if_neg (by omega), if_pos (by simp; omega), if_pos (by omega)]
      refine Prod.ext ?_ rfl
      show (192 + r / 64).toNat % 32 * 64 + (128 + r % 64).toNat % 64 = _
      omega
    · by_cases c3 : r ≤ 65535
      · rw [enc_three (by omega)]
        generalize hL : [(224 + r / 4096).toNat.toUInt8, (128 + r / 64 % 64).toNat.toUInt8, (128 + r % 64).toNat.toUInt8] ++ rest = L
        have h0 : byteAt L 0 = (224 + r / 4096).toNat := by
          rw [← hL]; show ((224 + r / 4096).toNat.toUInt8).toNat = _
          rw [toU8 (by omega) (by omega)]
        have h1 : byteAt L 1 = (128 + r / 64 % 64).toNat := by
          rw [← hL]; show ((128 + r / 64 % 64).toNat.toUInt8).toNat = _
          rw [toU8 (by omega) (by omega)]
        have h2 : byteAt L 2 = (128 + r % 64).toNat := by
          rw [← hL]; show ((128 + r % 64).toNat.toUInt8).toNat = _
          rw [toU8 (by omega) (by omega)]
        have hl : 3 ≤ L.length := by rw [← hL]; simp
        have k1 : contAt L 1 = true := by rw [contAt_iff]; exact ⟨by omega, by rw [h1]; omega⟩
        have k2 : contAt L 2 = true := by rw [contAt_iff]; exact ⟨by omega, by rw [h2]; omega⟩
        have e : (224 + r / 4096).toNat % 16 * 4096 + (128 + r / 64 % 64).toNat % 64 * 64 + (128 + r % 64).toNat % 64 = r.toNat := by omega
        refine ⟨?_, fun _ => by simp⟩
        simp only [uDec, h0, h1, h2, k1, k2, e]
        rw [if_neg (by omega), if_neg (by simp; omega), if_pos (by simp; omega), if_pos (by rw [Int.toNat_of_nonneg (by omega), hv]; simp; omega)]
        rfl
      · rw [enc_four (by omega) (by omega)]
        generalize hL : [(240 + r / 262144).toNat.toUInt8, (128 + r / 4096 % 64).toNat.toUInt8, (128 + r / 64 % 64).toNat.toUInt8, (128 + r % 64).toNat.toUInt8] ++ rest = L
        have h0 : byteAt L 0 = (240 + r / 262144).toNat := by
          rw [← hL]; show ((240 + r / 262144).toNat.toUInt8).toNat = _
          rw [toU8 (by omega) (by omega)]
        have h1 : byteAt L 1 = (128 + r / 4096 % 64).toNat := by
          rw [← hL]; show ((128 + r / 4096 % 64).toNat.toUInt8).toNat = _
          rw [toU8 (by omega) (by omega)]
        have h2 : byteAt L 2 = (128 + r / 64 % 64).toNat := by
          rw [← hL]; show ((128 + r / 64 % 64).toNat.toUInt8).toNat = _
          rw [toU8 (by omega) (by omega)]
        have h3 : byteAt L 3 = (128 + r % 64).toNat := by
          rw [← hL]; show ((128 + r % 64).toNat.toUInt8).toNat = _
          rw [toU8 (by omega) (by omega)]
        have hl : 4 ≤ L.length := by rw [← hL]; simp
        have k1 : contAt L 1 = true := by rw [contAt_iff]; exact ⟨by omega, by rw [h1]; omega⟩
        have k2 : contAt L 2 = true := by rw [contAt_iff]; exact ⟨by omega, by rw [h2]; omega⟩
        have k3 : contAt L 3 = true := by rw [contAt_iff]; exact ⟨by omega, by rw [h3]; omega⟩
        have e : (240 + r / 262144).toNat % 8 * 262144 + (128 + r / 4096 % 64).toNat % 64 * 4096 + (128 + r / 64 % 64).toNat % 64 * 64 + (128 + r % 64).toNat % 64 = r.toNat := by omega
        refine ⟨?_, fun _ => by simp⟩
        simp only [uDec, h0, h1, h2, h3, k1, k2, k3, e]
        rw [if_neg (by omega), if_neg (by simp; omega), if_neg (by simp; omega), if_pos (by simp; omega), if_pos (by rw [Int.toNat_of_nonneg (by omega), hv]; simp; omega)]
        rfl
theorem enc_ne (r : Int) : Lib.encodeRune r ≠ [] := by
  intro h
  have := Lib.encodeRuneZ_length r
  have h2 := congrArg List.length h
  simp [Lib.encodeRune] at h2
  rw [h2] at this
  simp at this
theorem enc_len (r : Int) : 1 ≤ (Lib.encodeRune r).length ∧ (Lib.encodeRune r).length ≤ 4 := by
  have := Lib.encodeRuneZ_length r
  simpa [Lib.encodeRune] using this
theorem valid_runeOf (r : Int) : Utf8.valid (runeOf r) = true := by
  unfold runeOf
  split
  · rename_i h; rw [valid_iff] at h ⊢; omega
  · decide
theorem dec_enc (r : Int) (rest : List UInt8) : uDec (Lib.encodeRune r ++ rest) = (runeOf r, (Lib.encodeRune r).length) := by
  have h := (dec_enc_valid (runeOf r) (valid_runeOf r) rest).1
  rw [enc_runeOf] at h
  simpa using h
theorem whole_enc (r : Int) (rest : List UInt8) : wholeL (Lib.encodeRune r ++ rest) = (Lib.encodeRune r).length := by
  have h := dec_enc r rest
  have h2 := (dec_enc_valid (runeOf r) (valid_runeOf r) rest).2
  rw [enc_runeOf] at h2
  unfold wholeL
  rw [h, if_neg]
  rintro ⟨h3, h4⟩
  simp only at h3
  have h5 : byteAt (Lib.encodeRune r ++ rest) 0 < 128 ∨ 128 ≤ runeOf r := by
    by_cases hc : runeOf r < 128
    · left
      have : Lib.encodeRune r = [((runeOf r : Int)).toNat.toUInt8] := by
        rw [← enc_runeOf r, enc_one (by omega) (by omega)]
      rw [this]
      show (((runeOf r : Int)).toNat.toUInt8).toNat < 128
      rw [toU8 (by omega) (by omega)]; omega
    · right; omega
  rcases h5 with h5 | h5
  · omega
  · have := h2 (by simpa using h5); omega
def Val (l : List UInt8) : Prop := ∃ rs : List Int, l = rs.flatMap Lib.encodeRune
theorem Val.nil : Val [] := ⟨[], rfl⟩
theorem Val.enc (r : Int) : Val (Lib.encodeRune r) := ⟨[r], by simp⟩
theorem Val.append {a b : List UInt8} (ha : Val a) (hb : Val b) : Val (a ++ b) := by
  obtain ⟨x, rfl⟩ := ha; obtain ⟨y, rfl⟩ := hb; exact ⟨x ++ y, by simp⟩
def valL : Nat → List UInt8 → List UInt8
  | 0, _ => []
  | n + 1, l => if l = [] then [] else Lib.encodeRune (uDec l).1 ++ valL n (l.drop (uDec l).2)
theorem dec_width (l : List UInt8) (hl : l ≠ []) : 1 ≤ (uDec l).2 ∧ (uDec l).2 ≤ l.length := by
  rcases dec_cases l hl with ⟨_, h, _⟩ | ⟨_, h1, _, h2, _⟩
  · rw [h]; have := List.length_pos_iff.2 hl; exact ⟨Nat.le_refl _, this⟩
  · exact ⟨h1, h2⟩
theorem valL_more : ∀ (n : Nat) (l : List UInt8), l.length ≤ n → ∀ m, n ≤ m → valL m l = valL n l := by
  intro n
  induction n with
  | zero =>
    intro l hl m hm
    obtain rfl : l = [] := List.eq_nil_of_length_eq_zero (by omega)
    cases m <;> simp [valL]
  | succ n ih =>
    intro l hl m hm
    obtain ⟨m, rfl⟩ : ∃ q, m = q + 1 := ⟨m - 1, by omega⟩
    by_cases h : l = []
    · simp [valL, h]
    · simp only [valL, if_neg h]
      have := dec_width l h
      rw [ih _ (by rw [List.length_drop]; omega) m (by omega)]
theorem valL_Val : ∀ (n : Nat) (l : List UInt8), Val (valL n l) := by
  intro n
  induction n with
  | zero => intro l; exact Val.nil
  | succ n ih =>
    intro l
    simp only [valL]
    split
    · exact Val.nil
    · exact (Val.enc _).append (ih _)
theorem valL_len : ∀ (n : Nat) (l : List UInt8), (valL n l).length ≤ 3 * l.length := by
  intro n
  induction n with
  | zero => intro l; simp [valL]
  | succ n ih =>
    intro l
    simp only [valL]
    split
    · simp
    · rename_i h
      have h1 := ih (l.drop (uDec l).2)
      have hw := dec_width l h
      rw [List.length_append]
      rw [List.length_drop] at h1
      rcases dec_cases l h with ⟨_, h2, _⟩ | ⟨_, _, _, h3, _, h4⟩
      · rw [h2] at h1 hw ⊢
        have : (Lib.encodeRune ((65533, 1) : Nat × Nat).1).length = 3 := by decide
        simp only at *
        omega
      · rw [h4, List.length_take]; omega
theorem whole_of {l : List UInt8} {n w : Nat} (e : uDec l = (n, w)) : wholeL l = if w = 1 ∧ 128 ≤ byteAt l 0 then 0 else w := by
  unfold wholeL; rw [e]
theorem whole_low (l : List UInt8) (h : byteAt l 0 < 128) : wholeL l = 1 := by
  rw [whole_of (n := byteAt l 0) (w := 1) (by unfold uDec; rw [if_pos h]), if_neg (by omega)]
theorem whole_none (l : List UInt8) (h : (128 ≤ byteAt l 0 ∧ byteAt l 0 < 192) ∨ 248 ≤ byteAt l 0) : wholeL l = 0 := by
  have h256 := byteAt_lt l 0
  rw [whole_of (n := 65533) (w := 1) (by
    unfold uDec
    rw [if_neg (by omega), if_neg (by simp; omega), if_neg (by simp; omega), if_neg (by simp; omega)]), if_pos (by omega)]
theorem whole_two (l : List UInt8) (h : 192 ≤ byteAt l 0 ∧ byteAt l 0 < 224) :
    wholeL l = if contAt l 1 = true ∧ byteAt l 0 % 32 * 64 + byteAt l 1 % 64 ≥ 128 then 2 else 0 := by
  by_cases c1 : contAt l 1 = true
  · by_cases c2 : byteAt l 0 % 32 * 64 + byteAt l 1 % 64 ≥ 128
    · rw [if_pos ⟨c1, c2⟩, whole_of (n := byteAt l 0 % 32 * 64 + byteAt l 1 % 64) (w := 2) (by
        unfold uDec; rw [if_neg (by omega), if_pos (by simp [c1]; omega), if_pos c2])]; simp
    · rw [if_neg (fun hh => c2 hh.2), whole_of (n := 65533) (w := 1) (by
        unfold uDec; rw [if_neg (by omega), if_pos (by simp [c1]; omega), if_neg c2]), if_pos (by omega)]
  · rw [if_neg (fun hh => c1 hh.1), whole_of (n := 65533) (w := 1) (by
      unfold uDec; rw [if_neg (by omega), if_neg (by simp [c1]), if_neg (by simp; omega), if_neg (by simp; omega)]), if_pos (by omega)]
theorem whole_three (l : List UInt8) (h : 224 ≤ byteAt l 0 ∧ byteAt l 0 < 240) :
    wholeL l = if contAt l 1 = true ∧ contAt l 2 = true ∧ byteAt l 0 % 16 * 4096 + byteAt l 1 % 64 * 64 + byteAt l 2 % 64 ≥ 2048 ∧ Utf8.valid ((byteAt l 0 % 16 * 4096 + byteAt l 1 % 64 * 64 + byteAt l 2 % 64 : Nat) : Int) = true then 3 else 0 := by
  by_cases c1 : contAt l 1 = true ∧ contAt l 2 = true
  · by_cases c2 : byteAt l 0 % 16 * 4096 + byteAt l 1 % 64 * 64 + byteAt l 2 % 64 ≥ 2048 ∧ Utf8.valid ((byteAt l 0 % 16 * 4096 + byteAt l 1 % 64 * 64 + byteAt l 2 % 64 : Nat) : Int) = true
    · rw [if_pos ⟨c1.1, c1.2, c2⟩, whole_of (n := byteAt l 0 % 16 * 4096 + byteAt l 1 % 64 * 64 + byteAt l 2 % 64) (w := 3) (by
        unfold uDec; rw [if_neg (by omega), if_neg (by simp; omega), if_pos (by simp [c1.1, c1.2]; omega), if_pos (by rw [c2.2]; simp only [Bool.and_true, decide_eq_true_eq]; exact c2.1)])]; simp
    · rw [if_neg (fun hh => c2 hh.2.2), whole_of (n := 65533) (w := 1) (by
        unfold uDec; rw [if_neg (by omega), if_neg (by simp; omega), if_pos (by simp [c1.1, c1.2]; omega), if_neg (by rw [Bool.and_eq_true, decide_eq_true_eq]; exact c2)]), if_pos (by omega)]
  · rw [if_neg (fun hh => c1 ⟨hh.1, hh.2.1⟩), whole_of (n := 65533) (w := 1) (by
      unfold uDec; rw [if_neg (by omega), if_neg (by simp; omega), if_neg (by rw [Bool.and_eq_true, Bool.and_eq_true]; exact fun hh => c1 ⟨hh.1.2, hh.2⟩), if_neg (by simp; omega)]), if_pos (by omega)]
theorem whole_four (l : List UInt8) (h : 240 ≤ byteAt l 0 ∧ byteAt l 0 < 248) :
    wholeL l = if contAt l 1 = true ∧ contAt l 2 = true ∧ contAt l 3 = true ∧ byteAt l 0 % 8 * 262144 + byteAt l 1 % 64 * 4096 + byteAt l 2 % 64 * 64 + byteAt l 3 % 64 ≥ 65536 ∧ Utf8.valid ((byteAt l 0 % 8 * 262144 + byteAt l 1 % 64 * 4096 + byteAt l 2 % 64 * 64 + byteAt l 3 % 64 : Nat) : Int) = true then 4 else 0 := by
  by_cases c1 : contAt l 1 = true ∧ contAt l 2 = true ∧ contAt l 3 = true
  · by_cases c2 : byteAt l 0 % 8 * 262144 + byteAt l 1 % 64 * 4096 + byteAt l 2 % 64 * 64 + byteAt l 3 % 64 ≥ 65536 ∧ Utf8.valid ((byteAt l 0 % 8 * 262144 + byteAt l 1 % 64 * 4096 + byteAt l 2 % 64 * 64 + byteAt l 3 % 64 : Nat) : Int) = true
    · rw [if_pos ⟨c1.1, c1.2.1, c1.2.2, c2⟩, whole_of (n := byteAt l 0 % 8 * 262144 + byteAt l 1 % 64 * 4096 + byteAt l 2 % 64 * 64 + byteAt l 3 % 64) (w := 4) (by
        unfold uDec; rw [if_neg (by omega), if_neg (by simp; omega), if_neg (by simp; omega), if_pos (by simp [c1.1, c1.2.1, c1.2.2]; omega), if_pos (by rw [c2.2]; simp only [Bool.and_true, decide_eq_true_eq]; exact c2.1)])]; simp
    · rw [if_neg (fun hh => c2 hh.2.2.2), whole_of (n := 65533) (w := 1) (by
        unfold uDec; rw [if_neg (by omega), if_neg (by simp; omega), if_neg (by simp; omega), if_pos (by simp [c1.1, c1.2.1, c1.2.2]; omega), if_neg (by rw [Bool.and_eq_true, decide_eq_true_eq]; exact c2)]), if_pos (by omega)]
  · rw [if_neg (fun hh => c1 ⟨hh.1, hh.2.1, hh.2.2.1⟩), whole_of (n := 65533) (w := 1) (by
      unfold uDec; rw [if_neg (by omega), if_neg (by simp; omega), if_neg (by simp; omega), if_neg (by rw [Bool.and_eq_true, Bool.and_eq_true, Bool.and_eq_true]; exact fun hh => c1 ⟨hh.1.1.2, hh.1.2, hh.2⟩)]), if_pos (by omega)]
end Go.Proofs.YtpcncpegbboljaaGreatDoor
namespace Go.Proofs.YtpcncpegbboljaaGreatDoor
open Go.RowKit Go.Shelf Go.Lib
set_option linter.unusedVariables false
set_option linter.unusedSimpArgs false
set_option maxHeartbeats 2000000 in
set_option maxRecDepth 1000000 in
theorem indexRune_bad (s : ByteArray) (ha : ∀ b ∈ s.data.toList, b.toNat < 128) (w : World) :
    Calls Tryz.prog 81 #[.string s, .int .i32 65533] w fun e w' => e = .returned (.int .i64 (-1)) ∧ Below w.heap.size w w' := by
  have HA := Lib.hid ha
  clear ha
  go_enter Tryz.func81, Tryz.ntmps81
  go_wp2
  go_loopw [] (fun wr => ∃ pos : Nat, wr.heap[w.heap.size]? = some (.stringIter s pos) ∧ Below w.heap.size w wr) (fun wr => s.size - wr.iterPos w.heap.size)
  case atStart =>
    refine ⟨0, ?_, (Below.refl _ w).alloc (Nat.le_refl _) _⟩
    exact World.iter_heap w s 0
  case round =>
    obtain ⟨pos, hit, hbw⟩ := hrel
    by_cases hp : pos < s.size
    · have hnx : ∀ ty, (Instr.next (.pointer (some ⟨w.heap.size, 0, none⟩)) true ty).run Tryz.prog wr = _ := fun ty => Lib.run_next_any_at wr w.heap.size s pos ty hit hp
      have hb : (s[pos]'hp).toNat < 128 := HA.out _ (by show s.data[pos] ∈ s.data.toList; simp)
      rw [decode_ascii s pos hp hb] at hnx
      simp only at hnx
      generalize (s[pos]'hp).toNat = c at *
      have c1 : ¬ ((c : Nat) : Int) = 65533 := by omega
      have hit2 := Lib.iterAt_heap wr w.heap.size s pos (pos + 1) hit
      have hbw2 := Lib.below_iterAt hbw (k := w.heap.size) (by omega) s (pos + 1)
      go_wp2
      go_roundw
      case rel => exact ⟨pos + 1, hit2, hbw2⟩
      case measure =>
        simp only [World.iterPos, hit2, hit]
        omega
    · have hnx : ∀ ty, (Instr.next (.pointer (some ⟨w.heap.size, 0, none⟩)) true ty).run Tryz.prog wr = _ := fun ty => Lib.run_next_end_at wr w.heap.size s pos ty hit hp
      go_wp2
      go_ret
      exact ⟨rfl, hbw⟩
theorem index_none : ∀ (l : List UInt8) (c : UInt8), (∀ b ∈ l, b.toNat < 128) → 128 ≤ c.toNat → Lib.indexByte l c = -1
  | [], _, _, _ => rfl
  | b :: l, c, h, hc => by
    have hb := h b (by simp)
    have hne : (b == c) = false := by
      apply beq_eq_false_iff_ne.2
      rintro rfl
      omega
    have ih := index_none l c (fun x hx => h x (by simp [hx])) hc
    simp [Lib.indexByte, hne, ih]
theorem mem_extract {s : ByteArray} {a b : Nat} {x : UInt8} (h : x ∈ (s.extract a b).data.toList) : x ∈ s.data.toList := by
  rw [ByteArray.data_extract, Array.toList_extract] at h
  exact List.mem_of_mem_drop (List.mem_of_mem_take h)
theorem u8_back (c : UInt8) : ((c.toNat : Int).toNat).toUInt8 = c := by
  show UInt8.ofNat c.toNat = c
  simp
set_option maxHeartbeats 2000000 in
set_option maxRecDepth 1000000 in
theorem indexRune_high (s : ByteArray) (ha : ∀ b ∈ s.data.toList, b.toNat < 128) (hs : 4 ≤ s.size) (hs2 : s.size ≤ 1000) (r : Int) (h0 : 128 ≤ r) (h1 : r ≤ 2147483647) (hr : r ≠ 65533) (w : World) :
    Calls Tryz.prog 81 #[.string s, .int .i32 r] w fun e w' => e = .returned (.int .i64 (-1)) ∧ Below w.heap.size w w' := by
  have HA := Lib.hid ha
  clear ha
  by_cases hv : Lib.validRune r = true
  · have HV := Lib.hid hv
    clear hv
    have hu : Utf8.valid r = true := by
      have := HV.out
      simp [Lib.validRune, Utf8.valid] at this ⊢
      omega
    obtain ⟨g1, g2, g3⟩ := encode_facts r hu h0
    have hcv : ∀ W, (convert 21 9 (.int .i32 r)).run Tryz.prog W = .ok (.string (Utf8.encode r)) W := fun W => run_convert_int_string W _ _ _ _ (by rw [Tryz.underlying21]; rfl) Tryz.underlying9
    generalize Utf8.encode r = rs at *
    have i1 : rs.size - 1 < s.size := by omega
    have i2 : ((rs.size : Int) - 1) < (s.size : Int) := by omega
    have i3 : rs.size - 1 < rs.size := by omega
    have i4 : ((rs.size : Int) - 1) < (rs.size : Int) := by omega
    have j1 : (s[rs.size - 1]'i1).toNat < 128 := HA.out _ (by show s.data[rs.size - 1] ∈ s.data.toList; simp)
    have j2 : 128 ≤ (rs[rs.size - 1]'i3).toNat := g3 i3
    generalize hm : rs.size - 1 = m at *
    have hrs : rs.size = m + 1 := by omega
    have i7 : (rs.size : Int) - 1 = (m : Int) := by omega
    have HRS := Lib.hid hrs; have I4 := Lib.hid i4
    clear hrs i4 i2
    go_enter Tryz.func81, Tryz.ntmps81
    go_wp2_with (go_at_call 109; refine (Tryz.utf8_ValidRune r _).mono ?_; rintro e W1 ⟨rfl, rfl⟩; rw [HV.out])
    go_step3
    go_wp2_with fail
    go_loopw [9] (fun i wr => i = .int .i64 (m : Int) ∧ wr = W1) (fun _ _ => 0)
    case atStart => exact ⟨rfl, rfl⟩
    case round =>
      obtain ⟨rfl, rfl⟩ := hrel
      have i5 : (m : Int) < (s.size : Int) := by omega
      have i6 : (m : Int) < (rs.size : Int) := by omega
      go_wp2_with fail
      go_step3
      go_wp2_with fail
      go_quiet (fail)
      go_wp2_with fail
      have k1 : ∀ a b W, Calls Tryz.prog 108 #[.string (s.extract a b), .int .u8 (rs[m].toNat : Int)] W fun e w' => e = .returned (.int .i64 (-1)) ∧ w' = W := fun a b W =>
        (Tryz.strings_IndexByte _ _ W).mono (by rintro e W2 ⟨rfl, rfl⟩; rw [u8_back, index_none _ _ (fun x hx => HA.out x (mem_extract hx)) j2]; exact ⟨rfl, rfl⟩)
      have K1 := Lib.hid k1
      clear k1
      have i8 : m + 1 ≤ s.size := by omega
      have i9 : (m : Int) + 1 ≤ (s.size : Int) := by omega
      have i10 : IntKind.i64.wrap ((m : Int) + 1) = (m : Int) + 1 := wrap_small _ (by omega) (by omega)
      have i11 : (0 : Int) ≤ (m : Int) + 1 := by omega
      have hsl : ∀ W, (Instr.slice 9 (.string s) (some (.int .i64 ((m : Int) + 1))) none none).run Tryz.prog W = .ok (.string (s.extract (m + 1) s.size)) W := fun W => by
        rw [run_slice_string_l W 9 s Tryz.underlying9 .i64 _ i11 i9]
        rfl
      go_quiet ((go_at_call 108; refine (K1.out _ _ _).mono ?_; rintro e W ⟨rfl, rfl⟩; exact ⟨rfl, _, rfl⟩))
      go_wp2_with fail
      rw [Exit.noGoto_ret]
      repeat (change Exit.noGoto _ Exit.ret _ _; rw [Exit.noGoto_ret])
      change bodyPost Tryz.prog Tryz.f81 _ Exit.ret _ _
      go_ret
      exact ⟨rfl, bdrewN (Below.refl _ _) _⟩
  · have HV := Lib.hid (Bool.eq_false_iff.2 hv)
    clear hv
    go_enter Tryz.func81, Tryz.ntmps81
    go_wp2_with (go_at_call 109; refine (Tryz.utf8_ValidRune r _).mono ?_; rintro e W1 ⟨rfl, rfl⟩; rw [HV.out])
    go_ret
    exact ⟨rfl, Below.refl _ _⟩
def idxRune (chars : List UInt8) (r : Nat) : Int := if r < 128 then Lib.indexByte chars r.toUInt8 else -1
theorem indexRune_any (chars : ByteArray) (ha : ∀ b ∈ chars.data.toList, b.toNat < 128) (h4 : 4 ≤ chars.size) (h5 : chars.size ≤ 1000) (r : Nat) (hr : r ≤ 2147483647) (w : World) :
    Calls Tryz.prog 81 #[.string chars, .int .i32 (r : Int)] w fun e w' => e = .returned (.int .i64 (idxRune chars.data.toList r)) ∧ Below w.heap.size w w' := by
  by_cases h : r < 128
  · refine (Tryz.strings_IndexRune_ascii _ (r : Int) w (by omega) (by omega)).mono ?_
    rintro e w' ⟨rfl, rfl⟩
    unfold idxRune
    rw [if_pos h]
    exact ⟨rfl, Below.refl _ _⟩
  · unfold idxRune
    rw [if_neg h]
    by_cases h2 : r = 65533
    · subst h2
      exact indexRune_bad _ ha w
    · exact indexRune_high _ ha h4 h5 _ (by omega) (by omega) (by omega) w
theorem enc_high (r : Int) (h : 128 ≤ r) : ∀ b ∈ Lib.encodeRune r, 128 ≤ b.toNat := by
  intro b hb
  by_cases h1 : r ≤ 2047
  · rw [enc_two h h1] at hb
    rcases List.mem_cons.1 hb with rfl | hb
    · rw [toU8 (by omega) (by omega)]; omega
    · rcases List.mem_cons.1 hb with rfl | hb
      · rw [toU8 (by omega) (by omega)]; omega
      · simp at hb
  · by_cases h2 : (2048 ≤ r ∧ r < 55296) ∨ (57343 < r ∧ r ≤ 65535)
    · rw [enc_three h2] at hb
      rcases List.mem_cons.1 hb with rfl | hb
      · rw [toU8 (by omega) (by omega)]; omega
      · rcases List.mem_cons.1 hb with rfl | hb
        · rw [toU8 (by omega) (by omega)]; omega
        · rcases List.mem_cons.1 hb with rfl | hb
          · rw [toU8 (by omega) (by omega)]; omega
          · simp at hb
    · by_cases h3 : 65536 ≤ r ∧ r ≤ 1114111
      · rw [enc_four h3.1 h3.2] at hb
        rcases List.mem_cons.1 hb with rfl | hb
        · rw [toU8 (by omega) (by omega)]; omega
        · rcases List.mem_cons.1 hb with rfl | hb
          · rw [toU8 (by omega) (by omega)]; omega
          · rcases List.mem_cons.1 hb with rfl | hb
            · rw [toU8 (by omega) (by omega)]; omega
            · rcases List.mem_cons.1 hb with rfl | hb
              · rw [toU8 (by omega) (by omega)]; omega
              · simp at hb
      · rw [enc_bad (by omega)] at hb
        have : ∀ b ∈ ([239, 191, 189] : List UInt8), 128 ≤ b.toNat := by decide
        exact this b hb
theorem dec_highs (l : List UInt8) (hl : l ≠ []) (h : 128 ≤ byteAt l 0) : 128 ≤ (uDec l).1 ∧ ∀ b ∈ l.take (uDec l).2, 128 ≤ b.toNat := by
  rcases dec_cases l hl with ⟨_, e, _⟩ | ⟨_, h1, _, h2, hv, he⟩
  · rw [e]
    refine ⟨by simp, fun b hb => ?_⟩
    cases l with
    | nil => exact absurd rfl hl
    | cons c r =>
      simp only [List.take_succ_cons, List.take_zero, List.mem_singleton] at hb
      subst hb; exact h
  · have h128 : 128 ≤ (uDec l).1 := by
      rcases Nat.lt_or_ge (uDec l).1 128 with hlt | hge
      · rw [enc_one (by omega) (by omega)] at he
        cases l with
        | nil => exact absurd rfl hl
        | cons c r =>
          obtain ⟨k, hk⟩ : ∃ k, (uDec (c :: r)).2 = k + 1 := ⟨(uDec (c :: r)).2 - 1, by omega⟩
          rw [hk, List.take_succ_cons] at he
          injection he with he _
          have hb : byteAt (c :: r) 0 = c.toNat := rfl
          rw [hb, ← he, toU8 (by omega) (by omega)] at h
          omega
      · exact hge
    refine ⟨h128, fun b hb => ?_⟩
    rw [← he] at hb
    exact enc_high _ (by omega) b hb
theorem any_iff_index (s chars : List UInt8) : decide (0 ≤ Lib.indexAny s chars) = s.any chars.contains := by
  induction s with
  | nil => rfl
  | cons b l ih =>
    have hge := Lib.indexAny_ge chars l
    rw [Lib.indexAny, List.any_cons]
    cases h : chars.contains b with
    | true => simp
    | false =>
      rw [if_neg Bool.false_ne_true, Bool.false_or, ← ih]
      by_cases h1 : Lib.indexAny l chars = -1
      · rw [h1]; rfl
      · rw [if_neg (by simpa using h1)]
        exact decide_eq_decide.2 (by omega)
theorem noAny_skip {s chars : List UInt8} {i k : Nat} (h : Lib.NoAny s chars i) (hc : ∀ b ∈ chars, b.toNat < 128) (hk : ∀ b ∈ (s.drop i).take k, 128 ≤ b.toNat) : Lib.NoAny s chars (i + k) := by
  intro j b hj hb
  by_cases h1 : j < i
  · exact h j b h1 hb
  · have hm : b ∈ (s.drop i).take k := by
      refine List.mem_of_getElem? (i := j - i) ?_
      rw [List.getElem?_take_of_lt (by omega), List.getElem?_drop, show i + (j - i) = j by omega]
      exact hb
    have h2 := hk b hm
    rw [Bool.eq_false_iff]
    intro h3
    have := hc b (by simpa using h3)
    omega
set_option maxHeartbeats 4000000 in
set_option maxRecDepth 1000000 in
theorem indexAny_short (s chars : ByteArray) (ha : ∀ b ∈ chars.data.toList, b.toNat < 128) (h4 : 4 ≤ chars.size) (h5 : chars.size ≤ 1000) (h8 : s.size ≤ 8) (w : World) :
    Calls Tryz.prog 53 #[.string s, .string chars] w fun e w' => e = .returned (.int .i64 (Lib.indexAny s.data.toList chars.data.toList)) ∧ Below w.heap.size w w' := by
  have IR := Lib.hid (fun (r : Nat) (hr : r ≤ 2147483647) => indexRune_any chars ha h4 h5 r hr)
  have HA := Lib.hid ha
  clear ha
  have hemp : chars.toList.isEmpty = false := by
    rw [Lib.toList_data]
    cases h : chars.data.toList with
    | nil => have := Lib.size_eq chars; rw [h, List.length_nil] at this; omega
    | cons _ _ => rfl
  have hne : ¬ chars.toList = [] := by intro e; rw [e] at hemp; simp at hemp
  have hn1 : ((chars.size : Int) == 1) = false := beq_eq_false_iff_ne.2 (by omega)
  have hn2 : ¬ chars.size = 1 := by omega
  have h8z : decide ((8 : Int) < (s.size : Int)) = false := decide_eq_false (by omega)
  have hl : s.data.toList.length = s.size := by simp
  have HL := Lib.hid hl
  clear hl
  go_enter Tryz.func53, Tryz.ntmps53
  go_wp2_with (go_at_call 82; refine (Tryz.strings_shouldUseASCIISet _ _).mono ?_; rintro e w' ⟨rfl, hw⟩; rw [hw, h8z])
  go_loopw [9, 10] (fun _ _ wr => ∃ pos : Nat, wr.heap[w.heap.size]? = some (.stringIter s pos) ∧ Below w.heap.size w wr ∧ Lib.NoAny s.data.toList chars.data.toList pos ∧ pos ≤ s.size) (fun _ _ wr => s.size - wr.iterPos w.heap.size)
  case atStart => exact ⟨0, World.iter_heap w s 0, (Below.refl _ w).alloc (Nat.le_refl _) _, Lib.NoAny.zero _ _, Nat.zero_le _⟩
  case round =>
    obtain ⟨pos, hit, hbw, hno, hps⟩ := hrel
    have HN := Lib.hid hno
    have HBW := Lib.hid hbw
    clear hno hbw
    by_cases hp : pos < s.size
    · have hnx : ∀ ty, (Instr.next (.pointer (some ⟨w.heap.size, 0, none⟩)) true ty).run Tryz.prog wr = _ := fun ty => Lib.run_next_any_at wr w.heap.size s pos ty hit hp
      have hd1 := decode_le s pos
      have hdl := decode_list s pos
      have hcons : s.data.toList.drop pos = s[pos] :: s.data.toList.drop (pos + 1) := List.drop_eq_getElem_cons (by rw [HL.out]; exact hp)
      have hxl : s.data.toList[pos]? = some s[pos] := Lib.data_getElem? s pos hp
      have hb0 : byteAt (s.data.toList.drop pos) 0 = (s[pos]).toNat := by rw [hcons]; rfl
      have hwd := dec_width (s.data.toList.drop pos) (by rw [hcons]; simp)
      have hlo : (s[pos]).toNat < 128 → uDec (s.data.toList.drop pos) = ((s[pos]).toNat, 1) := fun h => by unfold uDec; rw [hb0, if_pos h]
      have hhi : 128 ≤ (s[pos]).toNat → 128 ≤ (uDec (s.data.toList.drop pos)).1 ∧ ∀ b ∈ (s.data.toList.drop pos).take (uDec (s.data.toList.drop pos)).2, 128 ≤ b.toNat := fun h => dec_highs _ (by rw [hcons]; simp) (by rw [hb0]; exact h)
      have hwl : (s.data.toList.drop pos).length = s.size - pos := by rw [List.length_drop, HL.out]
      rw [hwl] at hwd
      clear hcons hb0 hwl
      rw [hdl] at hnx hd1
      clear hdl
      generalize s[pos] = x at *
      generalize uDec (s.data.toList.drop pos) = d at *
      obtain ⟨r, k⟩ := d
      simp only at hnx hd1 hwd hlo hhi
      have hit2 := Lib.iterAt_heap wr w.heap.size s pos (pos + k) hit
      have hszB : w.heap.size < wr.heap.size := (Array.getElem?_eq_some_iff.1 hit).1
      have hbw2 := Lib.below_iterAt HBW.out (k := w.heap.size) (Nat.le_refl _) s (pos + k)
      have hszB2 : w.heap.size < (wr.iterAt w.heap.size s (pos + k)).heap.size := by rw [Lib.iterAt_size]; exact hszB
      have HIT2 := Lib.hid hit2; have BW2 := Lib.hid hbw2
      clear hit2 hbw2
      have IR2 := Lib.hid (IR.out r (by omega))
      by_cases hin : idxRune chars.data.toList r < 0
      · have hno2 : Lib.NoAny s.data.toList chars.data.toList (pos + k) := by
          rcases Nat.lt_or_ge x.toNat 128 with hx | hx
          · have e := hlo hx
            injection e with e1 e2
            subst e1 e2
            refine HN.out.succ hxl ?_
            have hcon := Lib.contains_iff_indexByte chars.data.toList x
            unfold idxRune at hin
            rw [if_pos hx, show x.toNat.toUInt8 = x by simp] at hin
            rw [hcon]; exact decide_eq_false (by omega)
          · exact noAny_skip HN.out HA.out (hhi hx).2
        have HN2 := Lib.hid hno2
        have hneg : ¬ (0 : Int) ≤ idxRune chars.data.toList r := by omega
        clear hno2 hlo hhi hxl
        generalize idxRune chars.data.toList r = v at *
        go_wp2_with (go_at_call 81; refine (IR2.out _).mono ?_; rintro e W2 ⟨rfl, b2⟩; have B2 := Lib.hid b2; clear b2)
        go_roundw
        case rel => exact ⟨pos + k, by rw [B2.out.block _ hszB2]; exact HIT2.out, BW2.out.trans (B2.out.mono BW2.out.size), HN2.out, by omega⟩
        case measure =>
          have e1 : W2.heap[w.heap.size]? = some (.stringIter s (pos + k)) := by rw [B2.out.block _ hszB2]; exact HIT2.out
          simp only [World.iterPos, e1, hit]
          omega
      · have hx : x.toNat < 128 := by
          rcases Nat.lt_or_ge x.toNat 128 with hx | hx
          · exact hx
          · have := (hhi hx).1
            unfold idxRune at hin
            rw [if_neg (by omega)] at hin; omega
        have e := hlo hx
        injection e with e1 e2
        subst e1 e2
        have hres : Lib.indexAny s.data.toList chars.data.toList = (pos : Int) := by
          refine Lib.indexAny_hit HN.out hxl ?_
          have hcon := Lib.contains_iff_indexByte chars.data.toList x
          unfold idxRune at hin
          rw [if_pos hx, show x.toNat.toUInt8 = x by simp] at hin
          rw [hcon]; exact decide_eq_true (by omega)
        have HR := Lib.hid hres
        have hpz : (0 : Int) ≤ idxRune chars.data.toList x.toNat := by omega
        clear hres hlo hhi hxl hin
        generalize idxRune chars.data.toList x.toNat = v at *
        go_wp2_with (go_at_call 81; refine (IR2.out _).mono ?_; rintro e W2 ⟨rfl, b2⟩; have B2 := Lib.hid b2; clear b2)
        go_ret
        exact ⟨by rw [HR.out]; rfl, BW2.out.trans (B2.out.mono BW2.out.size)⟩
    · have hnx : ∀ ty, (Instr.next (.pointer (some ⟨w.heap.size, 0, none⟩)) true ty).run Tryz.prog wr = _ := fun ty => Lib.run_next_end_at wr w.heap.size s pos ty hit hp
      go_wp2
      go_ret
      refine ⟨?_, HBW.out⟩
      rw [Lib.indexAny_none (by rw [HL.out]; exact fun j b hj hb => HN.out j b (by omega) hb)]; rfl
set_option maxHeartbeats 1000000 in
theorem containsAny_c (s chars : ByteArray) (ha : ∀ b ∈ chars.data.toList, b.toNat < 128) (h4 : 4 ≤ chars.size) (h5 : chars.size ≤ 1000) (hs : s.size ≤ 11000000) (w : World) :
    Calls Tryz.prog 25 #[.string s, .string chars] w fun e w' => e = .returned (.bool (s.data.toList.any chars.data.toList.contains)) ∧ Below w.heap.size w w' := by
  have c : Calls Tryz.prog 53 #[.string s, .string chars] w fun e w' => e = .returned (.int .i64 (Lib.indexAny s.data.toList chars.data.toList)) ∧ Below w.heap.size w w' := by
    by_cases h8 : s.size ≤ 8
    · exact indexAny_short s chars ha h4 h5 h8 w
    · refine (Tryz.strings_IndexAny_long (zero_of_info (show (Tryz.prog.info? 94).map (fun i => (i.zero, i.size)) = some (some (.agg (Array.replicate 256 (.bool false))), 256) by kernel_rfl)).1 s chars w (by omega) (by omega) (by omega) (by omega) (fun j b hb => ha b (List.mem_of_getElem? hb))).mono ?_
      rintro e w' ⟨rfl, rfl⟩
      exact ⟨rfl, ((Below.refl _ _).alloc (Nat.le_refl _) _).alloc (by simp) _⟩
  have CC := Lib.hid c
  have e := any_iff_index s.data.toList chars.data.toList
  rw [← e]
  clear c ha e
  generalize Lib.indexAny s.data.toList chars.data.toList = v at *
  go_enter Tryz.func25, Tryz.ntmps25
  go_wp2_with (go_at_call 53; refine CC.out.mono ?_; rintro e w' ⟨rfl, hw⟩)
  go_ret
  exact ⟨rfl, hw⟩
end Go.Proofs.YtpcncpegbboljaaGreatDoor
namespace Go.Proofs.YtpcncpegbboljaaGreatDoor.Bld
open Go.RowKit
set_option linter.unusedVariables false
abbrev TB : Nat := 48
theorem sizeBuilder : (Tryz.prog.info? 48).map (·.size) = some 2 := by kernel_rfl
theorem liesBuilder : liesAt Tryz.prog Tryz.prog.depth 48 (2 / Tryz.prog.cellsOf 48) 0 48 1 = true := by kernel_rfl
theorem infoByte : (Tryz.prog.info? 5).map (fun i => (i.zero, i.size, i.bytes)) = some (some (.int .u8 0), 1, 1) := by kernel_rfl
set_option maxHeartbeats 1000000 in
set_option maxRecDepth 100000 in
theorem copyCheck_used (b : Nat) (w : World) (h0 : w.cell? ⟨b, 0, none⟩ = some (.pointer (some ⟨b, 0, none⟩))) :
    Calls Tryz.prog 64 #[.pointer (some ⟨b, 0, none⟩)] w fun e w' => e = .returned (.tuple #[]) ∧ w' = w := by
  obtain ⟨j, hj, _⟩ := Option.map_eq_some_iff.1 sizeBuilder
  go_enter Tryz.func64, Tryz.ntmps64
  go_wp2
  rw [Lib.run_neq_ptr_same w _ Tryz.underlying46 hj]
  go_wp2
  go_end0
  exact ⟨rfl, rfl⟩
set_option maxHeartbeats 1000000 in
set_option maxRecDepth 100000 in
theorem copyCheck_fresh (b : Nat) (w : World) (h0 : w.cell? ⟨b, 0, none⟩ = some (.pointer none)) (hsh : w.shape? b = some (48, 2)) (hfz : w.frozen? ⟨b, 0, none⟩ = false) :
    Calls Tryz.prog 64 #[.pointer (some ⟨b, 0, none⟩)] w fun e w' => e = .returned (.tuple #[]) ∧ w' = w.setCell ⟨b, 0, none⟩ (.pointer (some ⟨b, 0, none⟩)) := by
  obtain ⟨j, hj, hjs⟩ := Option.map_eq_some_iff.1 sizeBuilder
  go_enter Tryz.func64, Tryz.ntmps64
  go_wp2
  rw [Lib.run_to_unsafe w ⟨b, 0, none⟩ Tryz.underlying46 Tryz.underlying108 hj (by rw [hjs]; decide) hsh (Nat.zero_lt_succ 1)]
  simp only [Result.andThen]
  rw [Oper.upon_value]
  go_wp2
  rw [run_callFunc_extern Tryz.func94 (by kernel_rfl) (by kernel_rfl) (by kernel_rfl) (e := Extern.AbiNoEscape.same) (by kernel_rfl)]
  rw [Lib.run_noEscape]
  simp only [Result.andThen]
  rw [Oper.upon_value]
  go_wp2
  rw [Lib.run_from_unsafe w ⟨b, 0, none⟩ Tryz.underlying108 Tryz.underlying46 hj hsh liesBuilder]
  simp only [Result.andThen]
  rw [Oper.upon_value]
  go_wp2
  go_end0
  exact ⟨rfl, rfl⟩
theorem copyCheck_k (B b : Nat) (bs : List Value) (w : World) (h : Lib.IsBuilderF 48 5 B b bs w) :
    Calls Tryz.prog 64 #[.pointer (some ⟨b, 0, none⟩)] w fun e w' => e = .returned (.tuple #[]) ∧ (Lib.BuilderAtF 48 5 B b (.pointer (some ⟨b, 0, none⟩)) bs w' ∧ Below B w w' ∧ Lib.OthersKept 5 (some b) w w') := by
  rcases h with h | h
  · refine (copyCheck_fresh b w h.cell0 h.shape h.frozen0).mono ?_
    rintro e w' ⟨rfl, rfl⟩
    exact ⟨rfl, h.used _, (Below.refl B w).setCell (p := ⟨b, 0, none⟩) h.1 _, (Lib.OthersKept.refl _ _ w).setCell ⟨b, 0, none⟩ rfl _⟩
  · refine (copyCheck_used b w h.cell0).mono ?_
    rintro e w' ⟨rfl, rfl⟩
    exact ⟨rfl, h, Below.refl B _, Lib.OthersKept.refl _ _ _⟩
set_option maxHeartbeats 2000000 in
set_option maxRecDepth 100000 in
theorem WriteByte_k (B b : Nat) (bs : List Value) (c : Int) (w : World) (h : Lib.IsBuilderF 48 5 B b bs w) (hlen : bs.length + 1 ≤ 140737488355328) (hBw : B ≤ w.heap.size) :
    Calls Tryz.prog 67 #[.pointer (some ⟨b, 0, none⟩), .int .u8 c] w fun e w' => e = .returned .nilIface ∧ (Lib.IsBuilderF 48 5 B b (bs ++ [.int .u8 c]) w' ∧ Below B w w' ∧ Lib.OthersKept 5 (some b) w w') := by
  obtain ⟨i0, hi, hz0, hz1, hz2⟩ := info_parts infoByte
  go_enter Tryz.func67, Tryz.ntmps67
  go_wp2_with (go_at_call 64; refine (copyCheck_k B b bs _ h).mono ?_)
  rintro e w1 ⟨rfl, h1, hb1, hk1⟩
  obtain ⟨hB, v, hbk, hown, hne⟩ := h1
  have c0 : w1.cell? ⟨b, 0, none⟩ = some (.pointer (some ⟨b, 0, none⟩)) := by rw [Lib.cell_of_heap hbk]; rfl
  have c1 : w1.cell? ⟨b, 1, none⟩ = some v := by rw [Lib.cell_of_heap hbk]; rfl
  go_wp2_with (at_builtin; refine wpList_append_ownF _ rfl _ _ 45 rfl B 5 i0 (.int .u8 0) 1 1 Tryz.underlying45 hi hz0 hz1 hz2 rfl (by decide) _ _ _ rfl (hown.alloc _) ⟨w1.heap.size, 0, none⟩ 1 1 [.int .u8 c] rfl rfl ?c1 ?c2 ?c3 ?c4 ?c5 ?_)
  case c1 =>
    intro j u hj
    match j, hj with
    | 0, hj => simp at hj; subst hj; simp [Addr.add]
  case c2 => intro u hu; simp at hu; subst hu; rfl
  case c3 => unfold maxLen; omega
  case c4 => omega
  case c5 => have := hb1.size; simp; omega
  intro v' w2 hown' hgrow _
  have hlt : b < w1.heap.size := by
    rcases Nat.lt_or_ge b w1.heap.size with h' | h'
    · exact h'
    · simp [Array.getElem?_eq_none h'] at hbk
  have hb2 : w2.heap[b]? = some (.cells #[.pointer (some ⟨b, 0, none⟩), v] 48 (0, 0)) := by
    rw [hgrow.block b (by simp; omega) (fun e => hne e.symm), Lib.alloc_old w1 _ b hlt]
    exact hbk
  have d0 : w2.cell? ⟨b, 0, none⟩ = some (.pointer (some ⟨b, 0, none⟩)) := by rw [Lib.cell_of_heap hb2]; rfl
  have d1 : w2.cell? ⟨b, 1, none⟩ = some v := by rw [Lib.cell_of_heap hb2]; rfl
  have f1 : w2.frozen? ⟨b, 1, none⟩ = false := Lib.frozen_of_heap hb2 1
  obtain ⟨g, cap, rfl⟩ : ∃ g cap, v' = .slice (some ⟨g, 0, none⟩) (bs.length + 1) cap := by
    rcases hown'.2 with ⟨_, h0⟩ | ⟨g, cap, cur, fz, hv, _⟩
    · omega
    · exact ⟨g, cap, hv⟩
  go_wp2
  go_ret
  refine ⟨rfl, .inr ?_, ?_, ((hk1.alloc _).grown hgrow (Lib.ownsRowF_kind (hown.alloc _))).setCell ⟨b, 1, none⟩ rfl _⟩
  · exact Lib.BuilderAtF.put (T := 48) (e := 5) hB hb2 (bs' := bs ++ [.int .u8 c]) (by simpa using hown') (by decide)
  · exact ((hb1.alloc (by have := hb1.size; omega) _).grown hgrow (by have := hb1.size; simp; omega) (fun k hk => (hown.lt k hk).1)).setCell (p := ⟨b, 1, none⟩) hB _
set_option maxHeartbeats 2000000 in
set_option maxRecDepth 100000 in
theorem WriteString_k (B b : Nat) (bs : List Value) (s : ByteArray) (w : World) (h : Lib.IsBuilderF 48 5 B b bs w) (hlen : bs.length + s.size ≤ 140737488355328) (hBw : B ≤ w.heap.size) :
    Calls Tryz.prog 41 #[.pointer (some ⟨b, 0, none⟩), .string s] w fun e w' => e = .returned (.tuple #[.int .i64 s.size, .nilIface]) ∧ (Lib.IsBuilderF 48 5 B b (bs ++ Lib.strCells s) w' ∧ Below B w w' ∧ Lib.OthersKept 5 (some b) w w') := by
  obtain ⟨i0, hi, hz0, hz1, hz2⟩ := info_parts infoByte
  go_enter Tryz.func41, Tryz.ntmps41
  go_wp2_with (go_at_call 64; refine (copyCheck_k B b bs _ h).mono ?_)
  rintro e w1 ⟨rfl, h1, hb1, hk1⟩
  obtain ⟨hB, v, hbk, hown, hne⟩ := h1
  have c0 : w1.cell? ⟨b, 0, none⟩ = some (.pointer (some ⟨b, 0, none⟩)) := by rw [Lib.cell_of_heap hbk]; rfl
  have c1 : w1.cell? ⟨b, 1, none⟩ = some v := by rw [Lib.cell_of_heap hbk]; rfl
  go_wp2_with (at_builtin; refine Lib.wpList_append_own_stringF _ rfl _ _ 45 9 rfl B 5 i0 Tryz.underlying45 Tryz.underlying9 hi hz0 hz1 hz2 _ _ _ rfl hown s rfl ?c3 ?c4 ?c5 ?_)
  case c3 => unfold maxLen; omega
  case c4 => omega
  case c5 => have := hb1.size; omega
  intro v' w2 hown' hgrow _
  have hlt : b < w1.heap.size := by
    rcases Nat.lt_or_ge b w1.heap.size with h' | h'
    · exact h'
    · simp [Array.getElem?_eq_none h'] at hbk
  have hb2 : w2.heap[b]? = some (.cells #[.pointer (some ⟨b, 0, none⟩), v] 48 (0, 0)) := by
    rw [hgrow.block b hlt (fun e => hne e.symm)]
    exact hbk
  have d0 : w2.cell? ⟨b, 0, none⟩ = some (.pointer (some ⟨b, 0, none⟩)) := by rw [Lib.cell_of_heap hb2]; rfl
  have d1 : w2.cell? ⟨b, 1, none⟩ = some v := by rw [Lib.cell_of_heap hb2]; rfl
  have f1 : w2.frozen? ⟨b, 1, none⟩ = false := Lib.frozen_of_heap hb2 1
  obtain ⟨ao, n', cap, rfl⟩ : ∃ ao n' cap, v' = .slice ao n' cap := by
    rcases hown'.2 with ⟨hv, _⟩ | ⟨g, cap, cur, fz, hv, _⟩
    · exact ⟨_, _, _, hv⟩
    · exact ⟨_, _, _, hv⟩
  go_wp2
  go_ret2
  refine ⟨rfl, .inr ?_, ?_, (hk1.grown hgrow (Lib.ownsRowF_kind hown)).setCell ⟨b, 1, none⟩ rfl _⟩
  · exact Lib.BuilderAtF.put (T := 48) (e := 5) hB hb2 (bs' := bs ++ Lib.strCells s) (by simpa [Lib.strCells_length] using hown') (by decide)
  · exact (hb1.grown hgrow (by have := hb1.size; omega) (fun k hk => (hown.lt k hk).1)).setCell (p := ⟨b, 1, none⟩) hB _
set_option maxHeartbeats 4000000 in
set_option maxRecDepth 100000 in
theorem WriteRune_k (append : ∀ (B : Nat) (v : Value) (n : Nat) (xs : List Value) (r : Int) (hr0 : -2147483648 ≤ r) (hr1 : r ≤ 2147483647) (w : World) (hown : w.ownsRowF B 5 1 v n xs) (hlen : n + 4 ≤ 140737488355328) (hBw : B ≤ w.heap.size), Calls Tryz.prog 65 #[v, .int .i32 r] w fun e w' => ∃ v', e = .returned v' ∧ w'.ownsRowF B 5 1 v' (n + (Lib.runeCells r).length) (xs ++ Lib.runeCells r) ∧ ∃ o, (w.alloc o).grownBy w' v.ownBlock)
    (B b : Nat) (bs : List Value) (r : Int) (hr0 : -2147483648 ≤ r) (hr1 : r ≤ 2147483647) (w : World) (h : Lib.IsBuilderF 48 5 B b bs w) (hlen : bs.length + 4 ≤ 140737488355328) (hBw : B ≤ w.heap.size) :
    Calls Tryz.prog 35 #[.pointer (some ⟨b, 0, none⟩), .int .i32 r] w fun e w' => e = .returned (.tuple #[.int .i64 (Lib.runeCells r).length, .nilIface]) ∧ (Lib.IsBuilderF 48 5 B b (bs ++ Lib.runeCells r) w' ∧ Below B w w' ∧ Lib.OthersKept 5 (some b) w w') := by
  have hk4 := Lib.runeCells_le r
  have HA := Lib.hid append
  clear append
  go_enter Tryz.func35, Tryz.ntmps35
  go_wp2_with (go_at_call 64; refine (copyCheck_k B b bs _ h).mono ?_)
  rintro e w1 ⟨rfl, h1, hb1, hk1⟩
  obtain ⟨hB, v, hbk, hown, hne⟩ := h1
  obtain ⟨ao, cap, rfl⟩ : ∃ ao cap, v = .slice ao bs.length cap := by
    rcases hown.2 with ⟨hv, h0⟩ | ⟨g, cap, cur, fz, hv, _⟩
    · exact ⟨none, 0, by rw [hv, h0]⟩
    · exact ⟨_, _, hv⟩
  have c0 : w1.cell? ⟨b, 0, none⟩ = some (.pointer (some ⟨b, 0, none⟩)) := by rw [Lib.cell_of_heap hbk]; rfl
  have c1 : w1.cell? ⟨b, 1, none⟩ = some (.slice ao bs.length cap) := by rw [Lib.cell_of_heap hbk]; rfl
  go_wp2_with (go_at_call 65; refine (HA.out B _ bs.length bs r hr0 hr1 _ hown hlen (by have := hb1.size; omega)).mono ?_)
  rintro e w2 ⟨v', rfl, hown', o, hgrow⟩
  have hlt : b < w1.heap.size := by
    rcases Nat.lt_or_ge b w1.heap.size with h' | h'
    · exact h'
    · simp [Array.getElem?_eq_none h'] at hbk
  have hb2 : w2.heap[b]? = some (.cells #[.pointer (some ⟨b, 0, none⟩), .slice ao bs.length cap] 48 (0, 0)) := by
    rw [hgrow.block b (by simp; omega) (fun e => hne e.symm), Lib.alloc_old w1 _ b hlt]
    exact hbk
  have d0 : w2.cell? ⟨b, 0, none⟩ = some (.pointer (some ⟨b, 0, none⟩)) := by rw [Lib.cell_of_heap hb2]; rfl
  have d1 : w2.cell? ⟨b, 1, none⟩ = some (.slice ao bs.length cap) := by rw [Lib.cell_of_heap hb2]; rfl
  have f1 : w2.frozen? ⟨b, 1, none⟩ = false := Lib.frozen_of_heap hb2 1
  obtain ⟨g, cap', rfl⟩ : ∃ g cap', v' = .slice (some ⟨g, 0, none⟩) (bs.length + (Lib.runeCells r).length) cap' := by
    rcases hown'.2 with ⟨_, h0⟩ | ⟨g, cap', cur, fz, hv, _⟩
    · omega
    · exact ⟨g, cap', hv⟩
  go_wp2
  go_ret2
  refine ⟨?_, .inr ?_, ?_, ((hk1.alloc _).grown hgrow (Lib.ownsRowF_kind (hown.alloc _))).setCell ⟨b, 1, none⟩ rfl _⟩
  · have e : ((bs.length : Int) + ((Lib.runeCells r).length : Int) - (bs.length : Int)) = ((Lib.runeCells r).length : Int) := by omega
    simp [e]
  · exact Lib.BuilderAtF.put (T := 48) (e := 5) hB hb2 (bs' := bs ++ Lib.runeCells r) (by simpa using hown') (by decide)
  · exact ((hb1.alloc (by have := hb1.size; omega) _).grown hgrow (by have := hb1.size; simp; omega) (fun k hk => (hown.lt k hk).1)).setCell (p := ⟨b, 1, none⟩) hB _
end Go.Proofs.YtpcncpegbboljaaGreatDoor.Bld
namespace Go.Proofs.YtpcncpegbboljaaGreatDoor
open Go.RowKit Go.Shelf Go.Lib
set_option linter.unusedVariables false
set_option linter.unusedSimpArgs false
def validFrom (s : ByteArray) : Nat → Nat → List UInt8
  | 0, _ => []
  | fuel + 1, pos => if pos < s.size then Lib.encodeRune (Utf8.decode s pos).1 ++ validFrom s fuel (pos + (Utf8.decode s pos).2) else []
def validS (s : ByteArray) : ByteArray := ⟨(validFrom s s.size 0).toArray⟩
theorem width_pos (s : ByteArray) (pos : Nat) (h : pos < s.size) : 1 ≤ (Utf8.decode s pos).2 := by
  by_cases ha : (s[pos]'h).toNat < 128
  · rw [decode_ascii s pos h ha]
    exact Nat.le_refl _
  · exact (decode_high s pos h (by omega)).2
theorem validFrom_end (s : ByteArray) (fuel pos : Nat) (h : ¬ pos < s.size) : validFrom s fuel pos = [] := by
  cases fuel with
  | zero => rfl
  | succ f => simp [validFrom, h]
def chars_Valid.f (s : ByteArray) : Option ByteArray := if s.size ≤ 35184372088832 then some (validS s) else none
theorem appendRune (B : Nat) (v : Value) (n : Nat) (xs : List Value) (r : Int) (hr0 : -2147483648 ≤ r) (hr1 : r ≤ 2147483647) (w : World) (hown : w.ownsRowF B 5 1 v n xs) (hlen : n + 4 ≤ 140737488355328) (hBw : B ≤ w.heap.size) :
    Calls Tryz.prog 65 #[v, .int .i32 r] w fun e w' => ∃ v', e = .returned v' ∧ w'.ownsRowF B 5 1 v' (n + (Lib.runeCells r).length) (xs ++ Lib.runeCells r) ∧ ∃ o, (w.alloc o).grownBy w' v.ownBlock :=
  Tryz.utf8_AppendRune_row B v n xs r hr0 hr1 w hown hlen hBw
theorem writeRune (B b : Nat) (bs : List Value) (r : Int) (hr0 : -2147483648 ≤ r) (hr1 : r ≤ 2147483647) (w : World) (h : Lib.IsBuilderF 48 5 B b bs w) (hlen : bs.length + 4 ≤ 140737488355328) (hBw : B ≤ w.heap.size) :
    Calls Tryz.prog 35 #[.pointer (some ⟨b, 0, none⟩), .int .i32 r] w fun e w' => e = .returned (.tuple #[.int .i64 (Lib.runeCells r).length, .nilIface]) ∧ (Lib.IsBuilderF 48 5 B b (bs ++ Lib.runeCells r) w' ∧ Below B w w' ∧ Lib.OthersKept 5 (some b) w w') :=
  Bld.WriteRune_k appendRune B b bs r hr0 hr1 w h hlen hBw
set_option maxHeartbeats 4000000 in
set_option maxRecDepth 1000000 in
theorem chars_Valid.calls (s r : ByteArray) (w : World) (h : chars_Valid.f s = some r) :
    Calls Tryz.prog 18 #[.string s] w fun e w' => e = .returned (.string r) ∧ Below w.heap.size w w' := by
  obtain ⟨hs, rfl⟩ := of_guard h
  clear h
  go_enter Tryz.func18, Tryz.ntmps18
  go_wp2
  go_loopw [] (fun wr => ∃ (pos fuel : Nat) (acc : List UInt8), Lib.IsBuilderF 48 5 w.heap.size w.heap.size (Lib.byteCells acc) wr ∧ wr.heap[w.heap.size + 1]? = some (.stringIter s pos) ∧ Below w.heap.size w wr ∧ acc ++ validFrom s fuel pos = validFrom s s.size 0 ∧ s.size ≤ pos + fuel ∧ acc.length ≤ 4 * pos) (fun wr => s.size - wr.iterPos (w.heap.size + 1))
  case atStart =>
    refine ⟨0, s.size, [], (Lib.IsBuilderF.of (Lib.fresh_isBuilder 48 5 w)).alloc _, ?_, ((Below.refl _ w).alloc (Nat.le_refl _) _).alloc (by simp) _, rfl, by omega, by simp⟩
    have := World.iter_heap (w.alloc (.cells #[.pointer none, .slice none 0 0] 48)) s 0
    simpa using this
  case round =>
    obtain ⟨pos, fuel, acc, hI, hit, hbw, hacc, hfu, hal⟩ := hrel
    have hsz : w.heap.size + 1 < wr.heap.size := (Array.getElem?_eq_some_iff.1 hit).1
    by_cases hp : pos < s.size
    · have hnx : ∀ ty, (Instr.next (.pointer (some ⟨w.heap.size + 1, 0, none⟩)) true ty).run Tryz.prog wr = _ := fun ty => Lib.run_next_any_at wr (w.heap.size + 1) s pos ty hit hp
      have hwd := width_pos s pos hp
      have hd1 := decode_le s pos
      have hI2 := hI.iterAt hit (pos + (Utf8.decode s pos).2)
      have hit2 := Lib.iterAt_heap wr (w.heap.size + 1) s pos (pos + (Utf8.decode s pos).2) hit
      have hbw2 := Lib.below_iterAt hbw (k := w.heap.size + 1) (by omega) s (pos + (Utf8.decode s pos).2)
      have hsz2 : w.heap.size ≤ (wr.iterAt (w.heap.size + 1) s (pos + (Utf8.decode s pos).2)).heap.size := by rw [Lib.iterAt_size]; omega
      obtain ⟨f, rfl⟩ : ∃ f, fuel = f + 1 := ⟨fuel - 1, by omega⟩
      go_wp2_with (go_at_call 35; refine (writeRune w.heap.size w.heap.size _ _ (by omega) (by omega) _ hI2 (by rw [Lib.byteCells_length]; omega) hsz2).mono ?_; rintro e W1 ⟨rfl, h1, b1, k1⟩)
      go_roundw
      case rel =>
        have hl4 := Lib.runeCells_le ((Utf8.decode s pos).1 : Int)
        rw [Lib.runeCells_length] at hl4
        refine ⟨pos + (Utf8.decode s pos).2, f, acc ++ Lib.encodeRune (Utf8.decode s pos).1, ?_, k1.iter hit2 (by omega), hbw2.trans b1, ?_, by omega, by simp; omega⟩
        · rw [Lib.byteCells_append, Lib.byteCells_encodeRune]; exact h1
        · rw [← hacc]; simp [validFrom, hp]
      case measure =>
        simp only [World.iterPos, k1.iter hit2 (by omega), hit]
        omega
    · have hnx : ∀ ty, (Instr.next (.pointer (some ⟨w.heap.size + 1, 0, none⟩)) true ty).run Tryz.prog wr = _ := fun ty => Lib.run_next_end_at wr (w.heap.size + 1) s pos ty hit hp
      rw [validFrom_end s fuel pos hp, List.append_nil] at hacc
      have HA := Lib.hid hacc; clear hacc
      go_wp2_with (go_at_call 36; refine (Tryz.Builder_String_any_k w.heap.size w.heap.size acc _ hI (by omega)).mono ?_; rintro e W1 ⟨rfl, _, b1, _⟩)
      go_ret
      exact ⟨by rw [HA.out]; rfl, hbw.trans b1⟩
def highTab : List Int := [0x20ac, 0x81, 0x201a, 0x192, 0x201e, 0x2026, 0x2020, 0x2021, 0x2c6, 0x2030, 0x160, 0x2039, 0x152, 0x8d, 0x17d, 0x8f, 0x90, 0x2018, 0x2019, 0x201c, 0x201d, 0x2022, 0x2013, 0x2014, 0x2dc, 0x2122, 0x161, 0x203a, 0x153, 0x9d, 0x17e, 0x178]
def TabHigh (w : World) : Prop := Lib.TabIs Tryz.prog w "muslin/chars.high" .i32 highTab
theorem TabHigh.below {w w1 : World} (h : TabHigh w) (hb : Below w.heap.size w w1) : TabHigh w1 := by
  unfold TabHigh Lib.TabIs at *
  have hlt : 3 < w.heap.size := by
    rcases Nat.lt_or_ge 3 w.heap.size with h' | h'
    · exact h'
    · rw [World.var?, show Tryz.prog.globalNamed "muslin/chars.high" = some 3 from by kernel_rfl] at h
      simp [Array.getElem?_eq_none h'] at h
  exact Go.var?_below hb (show Tryz.prog.globalNamed "muslin/chars.high" = some 3 from by kernel_rfl) hlt h
theorem TabHigh.at {w : World} (h : TabHigh w) (j : Nat) (hj : j < 32) : w.cell? ⟨3, j, none⟩ = some (.int .i32 (highTab.getD j 0)) := by
  have := Lib.TabIs.cell h (show Tryz.prog.globalNamed "muslin/chars.high" = some 3 from by kernel_rfl) j hj
  exact this
def hiC (c : UInt8) : Int := if 128 ≤ c.toNat ∧ c.toNat < 160 then highTab.getD (c.toNat - 128) 0 else c.toNat
def singlesL (l : List UInt8) : List UInt8 := l.flatMap fun c => Lib.encodeRune (hiC c)
def chars_singles.f (s : ByteArray) : Option ByteArray := if s.size ≤ 35184372088832 then some ⟨(singlesL s.data.toList).toArray⟩ else none
theorem hiC_range (c : UInt8) : 0 ≤ hiC c ∧ hiC c ≤ 65535 := by
  unfold hiC
  split
  · rename_i h
    have : ∀ j, j < 32 → 0 ≤ highTab.getD j 0 ∧ highTab.getD j 0 ≤ 65535 := by decide
    exact this _ (by omega)
  · have := UInt8.toNat_lt c; omega
set_option maxHeartbeats 4000000 in
set_option maxRecDepth 1000000 in
theorem chars_singles.calls' (s r : ByteArray) (w : World) (hGl : TabHigh w) (h : chars_singles.f s = some r) :
    Calls Tryz.prog 125 #[.string s] w fun e w' => e = .returned (.string r) ∧ Below w.heap.size w w' := by
  obtain ⟨hs, rfl⟩ := of_guard h
  clear h
  have HG := Lib.hid hGl; clear hGl
  go_enter Tryz.func125, Tryz.ntmps125
  go_wp2
  go_loopw [9] (fun i wr => ∃ k : Nat, k ≤ s.size ∧ i = .int .i64 k ∧ Lib.IsBuilderF 48 5 w.heap.size w.heap.size (Lib.byteCells (singlesL (s.data.toList.take k))) wr ∧ Below w.heap.size w wr ∧ w.heap.size ≤ wr.heap.size ∧ (singlesL (s.data.toList.take k)).length ≤ 4 * k) (fun i _ => s.size - (RowKit.intOf i).toNat)
  case atStart => exact ⟨0, Nat.zero_le _, rfl, Lib.IsBuilderF.of (Lib.fresh_isBuilder 48 5 w), (Below.refl _ w).alloc (Nat.le_refl _) _, by simp, by simp [singlesL]⟩
  case round =>
    obtain ⟨k, hk, rfl, hI, hb, hsz, hlen⟩ := hrel
    by_cases hlt : k < s.size
    · have hlt2 : k < s.data.toList.length := by simpa using hlt
      have hsn : singlesL (s.data.toList.take (k + 1)) = singlesL (s.data.toList.take k) ++ Lib.encodeRune (hiC s.data.toList[k]) := by
        rw [List.take_succ_eq_append_getElem hlt2]; simp [singlesL]
      have hr := hiC_range s.data.toList[k]
      have hcs : s[k] = s.data.toList[k] := rfl
      have hg := (HG.out.below hb)
      have hhc : hiC s.data.toList[k] = hiC s.data.toList[k] := rfl
      generalize hcc : s.data.toList[k] = c at *
      have h256 : c.toNat < 256 := UInt8.toNat_lt _
      have HS := Lib.hid hsn; have HI := Lib.hid hI
      have fin : ∀ W1 : World, Lib.IsBuilderF 48 5 w.heap.size w.heap.size (Lib.byteCells (singlesL (s.data.toList.take k)) ++ Lib.runeCells (hiC c)) W1 → Lib.IsBuilderF 48 5 w.heap.size w.heap.size (Lib.byteCells (singlesL (s.data.toList.take (k + 1)))) W1 ∧ (singlesL (s.data.toList.take (k + 1))).length ≤ 4 * (k + 1) := by
        intro W1 h1
        have hl4 := Lib.runeCells_le (hiC c)
        rw [Lib.runeCells_length] at hl4
        rw [HS.out, Lib.byteCells_append, Lib.byteCells_encodeRune]
        exact ⟨h1, by simp; omega⟩
      have FIN := Lib.hid fin
      clear hsn hI hcc HG hhc fin
      by_cases c1 : 128 ≤ c.toNat ∧ c.toNat < 160
      · have hcell := hg.at (c.toNat - 128) (by omega)
        have hv : highTab.getD (c.toNat - 128) 0 = hiC c := by unfold hiC; rw [if_pos c1]
        rw [hv] at hcell
        obtain ⟨c1, c2⟩ := c1
        clear hv
        go_wp2_with (go_at_call 35; refine (writeRune w.heap.size w.heap.size _ _ (by omega) (by omega) _ HI.out (by rw [Lib.byteCells_length]; omega) hsz).mono ?_; rintro e W1 ⟨rfl, h1, b1, k1⟩)
        go_roundw
        case rel => exact ⟨k + 1, by omega, by go_num, (FIN.out W1 h1).1, hb.trans b1, Nat.le_trans hsz b1.size, (FIN.out W1 h1).2⟩
        case measure => simp [RowKit.intOf]; omega
      · have hv : hiC c = (c.toNat : Int) := by unfold hiC; rw [if_neg c1]
        rw [hv] at FIN
        clear hv
        have c2 : c.toNat < 128 ∨ 160 ≤ c.toNat := by omega
        clear c1 hg
        rcases c2 with c2 | c2
        all_goals
          go_wp2_with (go_at_call 35; refine (writeRune w.heap.size w.heap.size _ _ (by omega) (by omega) _ HI.out (by rw [Lib.byteCells_length]; omega) hsz).mono ?_; rintro e W1 ⟨rfl, h1, b1, k1⟩)
          go_roundw
          case rel => exact ⟨k + 1, by omega, by go_num, (FIN.out W1 h1).1, hb.trans b1, Nat.le_trans hsz b1.size, (FIN.out W1 h1).2⟩
          case measure => simp [RowKit.intOf]; omega
    · have hk2 : s.data.toList.take k = s.data.toList := List.take_of_length_le (by simp; omega)
      rw [hk2] at hI
      clear hk2 hlen
      go_wp2_with (go_at_call 36; refine (Tryz.Builder_String_any_k w.heap.size w.heap.size _ _ hI hsz).mono ?_; rintro e W1 ⟨rfl, _, b1, _⟩)
      go_ret
      exact ⟨rfl, hb.trans b1⟩
def dblL (u : UInt8 → UInt8 → Int) : List UInt8 → List UInt8
  | [] => []
  | [_] => Lib.encodeRune 65533
  | [a, b] => Lib.encodeRune (u a b)
  | [a, b, _] => Lib.encodeRune (u a b) ++ Lib.encodeRune 65533
  | a :: b :: c :: d :: r =>
    if (55296 ≤ u a b ∧ u a b < 56320) ∧ (56320 ≤ u c d ∧ u c d ≤ 57343) then Lib.encodeRune (65536 + (u a b - 55296) * 1024 + u c d - 56320) ++ dblL u r
    else Lib.encodeRune (u a b) ++ dblL u (c :: d :: r)
def uLE (a b : UInt8) : Int := a.toNat + 256 * b.toNat
def uBE (a b : UInt8) : Int := 256 * a.toNat + b.toNat
def chars_doubles.f (s : ByteArray) (first second : Int) : Option ByteArray :=
  if s.size ≤ 35184372088832 ∧ (first = 0 ∧ second = 8 ∨ first = 8 ∧ second = 0) then some ⟨(dblL (if first = 0 then uLE else uBE) s.data.toList).toArray⟩ else none
theorem orLE (a b : UInt8) : bits .or .i32 (wrap32 (wrap32 (a.toNat : Int))) (wrap32 (wrap32 (b.toNat : Int) * 256)) = uLE a b := by
  have ha : a.toNat < 256 := UInt8.toNat_lt _
  have hb : b.toNat < 256 := UInt8.toNat_lt _
  have e1 : wrap32 (wrap32 (a.toNat : Int)) = ((a.toNat : Nat) : Int) := by unfold wrap32; omega
  have e2 : wrap32 (wrap32 (b.toNat : Int) * 256) = ((b.toNat * 256 : Nat) : Int) := by unfold wrap32; omega
  rw [e1, e2, (bits_nat .i32 31 (by decide) wraps_i32 a.toNat (b.toNat * 256) (by omega) (by omega)).2, Nat.or_comm, nat_join 8 _ _ (by omega) (by omega)]
  unfold uLE; omega
theorem orBE (a b : UInt8) : bits .or .i32 (wrap32 (wrap32 (a.toNat : Int) * 256)) (wrap32 (wrap32 (b.toNat : Int))) = uBE a b := by
  have ha : a.toNat < 256 := UInt8.toNat_lt _
  have hb : b.toNat < 256 := UInt8.toNat_lt _
  have e1 : wrap32 (wrap32 (b.toNat : Int)) = ((b.toNat : Nat) : Int) := by unfold wrap32; omega
  have e2 : wrap32 (wrap32 (a.toNat : Int) * 256) = ((a.toNat * 256 : Nat) : Int) := by unfold wrap32; omega
  rw [e1, e2, (bits_nat .i32 31 (by decide) wraps_i32 (a.toNat * 256) b.toNat (by omega) (by omega)).2, nat_join 8 _ _ (by omega) (by omega)]
  unfold uBE; omega
theorem uLE_range (a b : UInt8) : 0 ≤ uLE a b ∧ uLE a b ≤ 65535 := by
  have ha : a.toNat < 256 := UInt8.toNat_lt _
  have hb : b.toNat < 256 := UInt8.toNat_lt _
  unfold uLE; omega
theorem uBE_range (a b : UInt8) : 0 ≤ uBE a b ∧ uBE a b ≤ 65535 := by
  have ha : a.toNat < 256 := UInt8.toNat_lt _
  have hb : b.toNat < 256 := UInt8.toNat_lt _
  unfold uBE; omega
theorem drop2 (t : ByteArray) : (t.extract 2 t.size).data.toList = t.data.toList.drop 2 := by
  simp [ByteArray.extract_eq_extract_append_extract, List.take_of_length_le]
theorem drop4 (t : ByteArray) : ((t.extract 2 t.size).extract 2 (t.size - 2)).data.toList = (t.data.toList.drop 2).drop 2 := by
  rw [← drop2 t, ← drop2 (t.extract 2 t.size)]
  simp
theorem dbl_alone (u : UInt8 → UInt8 → Int) (l : List UInt8) (h1 : 1 < l.length)
    (h : u l[0] l[1] < 55296 ∨ 56320 ≤ u l[0] l[1] ∨ l.length ≤ 3 ∨ ∃ h3 : 3 < l.length, u l[2] l[3] < 56320 ∨ 57343 < u l[2] l[3]) :
    dblL u l = Lib.encodeRune (u l[0] l[1]) ++ dblL u (l.drop 2) := by
  match l, h1, h with
  | [a, b], _, _ => simp [dblL]
  | [a, b, c], _, _ => simp [dblL]
  | a :: b :: c :: d :: r, _, h =>
    have hn : ¬ ((55296 ≤ u a b ∧ u a b < 56320) ∧ (56320 ≤ u c d ∧ u c d ≤ 57343)) := by
      rintro ⟨⟨x1, x2⟩, x3, x4⟩
      rcases h with h | h | h | ⟨_, h⟩
      · simp at h; omega
      · simp at h; omega
      · simp at h
      · simp at h; omega
    simp only [dblL, if_neg hn]
    rfl
theorem dbl_pair (u : UInt8 → UInt8 → Int) (l : List UInt8) (h3 : 3 < l.length)
    (h : (55296 ≤ u l[0] l[1] ∧ u l[0] l[1] < 56320) ∧ (56320 ≤ u l[2] l[3] ∧ u l[2] l[3] ≤ 57343)) :
    dblL u l = Lib.encodeRune (65536 + (u l[0] l[1] - 55296) * 1024 + u l[2] l[3] - 56320) ++ dblL u ((l.drop 2).drop 2) := by
  match l, h3, h with
  | a :: b :: c :: d :: r, _, h =>
    have h' : (55296 ≤ u a b ∧ u a b < 56320) ∧ (56320 ≤ u c d ∧ u c d ≤ 57343) := h
    simp only [dblL, if_pos h']
    rfl
set_option maxHeartbeats 1600000 in
set_option maxRecDepth 1000000 in
theorem doubles_uLE (s : ByteArray) (w : World) (hs : s.size ≤ 35184372088832) :
    Calls Tryz.prog 126 #[.string s, .int .i64 0, .int .i64 8] w fun e w' => e = .returned (.string ⟨(dblL uLE s.data.toList).toArray⟩) ∧ Below w.heap.size w w' := by
  go_enter Tryz.func126, Tryz.ntmps126
  go_wp2
  go_loopw [0] (fun v wr => ∃ (t : ByteArray) (acc : List UInt8), v = .string t ∧ t.size ≤ s.size ∧ acc ++ dblL uLE t.data.toList = dblL uLE s.data.toList ∧ Lib.IsBuilderF 48 5 w.heap.size w.heap.size (Lib.byteCells acc) wr ∧ Below w.heap.size w wr ∧ w.heap.size ≤ wr.heap.size ∧ acc.length + 4 * t.size ≤ 4 * s.size) (fun v _ => match v with | .string t => t.size | _ => 0)
  case atStart => exact ⟨s, [], rfl, Nat.le_refl _, rfl, Lib.IsBuilderF.of (Lib.fresh_isBuilder 48 5 w), (Below.refl _ w).alloc (Nat.le_refl _) _, by simp, by simp⟩
  case round =>
    obtain ⟨t, acc, rfl, hts, hacc, hI, hb, hsz, hlen⟩ := hrel
    have HA := Lib.hid hacc; have HI := Lib.hid hI
    clear hacc hI
    have hl : t.data.toList.length = t.size := by simp
    by_cases h1 : 1 < t.size
    · have i0 : (0 : Int) < (t.size : Int) := by omega
      have j0 : 0 < t.size := by omega
      have i1 : (1 : Int) < (t.size : Int) := by omega
      have k1 : 1 < t.data.toList.length := by omega
      have k0 : 0 < t.data.toList.length := by omega
      obtain ⟨x, hx⟩ : ∃ x : Int, bits .or .i32 (wrap32 (wrap32 (t[0].toNat : Int))) (wrap32 (wrap32 (t[1].toNat : Int) * 256)) = x := ⟨_, rfl⟩
      have HX : Hid (x = uLE t.data.toList[0] t.data.toList[1]) := by rw [← hx]; exact orLE _ _
      have hxr : 0 ≤ x ∧ x ≤ 65535 := by rw [HX.out]; exact uLE_range _ _
      obtain ⟨hx0, hx1⟩ := hxr
      have alone : ∀ (W1 : World), Lib.IsBuilderF 48 5 w.heap.size w.heap.size (Lib.byteCells acc ++ Lib.runeCells x) W1 → (x < 55296 ∨ 56320 ≤ x ∨ t.data.toList.length ≤ 3 ∨ ∃ h3 : 3 < t.data.toList.length, uLE t.data.toList[2] t.data.toList[3] < 56320 ∨ 57343 < uLE t.data.toList[2] t.data.toList[3]) →
          (acc ++ Lib.encodeRune x) ++ dblL uLE (t.extract 2 t.size).data.toList = dblL uLE s.data.toList ∧ Lib.IsBuilderF 48 5 w.heap.size w.heap.size (Lib.byteCells (acc ++ Lib.encodeRune x)) W1 ∧ (acc ++ Lib.encodeRune x).length + 4 * (t.extract 2 t.size).size ≤ 4 * s.size := by
        intro W1 h2 h4
        refine ⟨?_, ?_, ?_⟩
        · rw [← HA.out, dbl_alone uLE t.data.toList k1 (by rw [← HX.out]; exact h4), drop2, List.append_assoc, HX.out]
        · rw [Lib.byteCells_append, Lib.byteCells_encodeRune]; exact h2
        · have hl4 := Lib.runeCells_le x
          rw [Lib.runeCells_length] at hl4
          have e2 : (t.extract 2 t.size).size = t.size - 2 := by simp
          simp only [List.length_append]; omega
      have hts2 : (t.extract 2 t.size).size ≤ s.size := by simp; omega
      have htm : (t.extract 2 t.size).size < t.size := by simp; omega
      have AL := Lib.hid alone
      clear alone
      have HL := Lib.hid hl
      clear hl
      by_cases hA : 55296 ≤ x ∧ x < 56320
      · obtain ⟨hA1, hA2⟩ := hA
        by_cases h3 : 3 < t.size
        · have i2 : (2 : Int) < (t.size : Int) := by omega
          have j2 : 2 < t.size := by omega
          have i3 : (3 : Int) < (t.size : Int) := by omega
          have k2 : 2 < t.data.toList.length := by have := HL.out; omega
          have k3 : 3 < t.data.toList.length := by have := HL.out; omega
          obtain ⟨y, hy⟩ : ∃ y : Int, bits .or .i32 (wrap32 (wrap32 (t[2].toNat : Int))) (wrap32 (wrap32 (t[3].toNat : Int) * 256)) = y := ⟨_, rfl⟩
          have HY : Hid (y = uLE t.data.toList[2] t.data.toList[3]) := by rw [← hy]; exact orLE _ _
          have hyr : 0 ≤ y ∧ y ≤ 65535 := by rw [HY.out]; exact uLE_range _ _
          obtain ⟨hy0, hy1⟩ := hyr
          by_cases hB : 56320 ≤ y ∧ y ≤ 57343
          · obtain ⟨hB1, hB2⟩ := hB
            have pair : ∀ (W1 : World), Lib.IsBuilderF 48 5 w.heap.size w.heap.size (Lib.byteCells acc ++ Lib.runeCells (65536 + (x - 55296) * 1024 + y - 56320)) W1 →
                (acc ++ Lib.encodeRune (65536 + (x - 55296) * 1024 + y - 56320)) ++ dblL uLE ((t.extract 2 t.size).extract 2 (t.size - 2)).data.toList = dblL uLE s.data.toList ∧ Lib.IsBuilderF 48 5 w.heap.size w.heap.size (Lib.byteCells (acc ++ Lib.encodeRune (65536 + (x - 55296) * 1024 + y - 56320))) W1 ∧ (acc ++ Lib.encodeRune (65536 + (x - 55296) * 1024 + y - 56320)).length + 4 * ((t.extract 2 t.size).extract 2 (t.size - 2)).size ≤ 4 * s.size := by
              intro W1 h2
              refine ⟨?_, ?_, ?_⟩
              · rw [← HA.out, dbl_pair uLE t.data.toList k3 (by rw [← HX.out, ← HY.out]; exact ⟨⟨hA1, hA2⟩, hB1, hB2⟩), drop4, List.append_assoc, HX.out, HY.out]; rfl
              · rw [Lib.byteCells_append, Lib.byteCells_encodeRune]; exact h2
              · have hl4 := Lib.runeCells_le (65536 + (x - 55296) * 1024 + y - 56320)
                rw [Lib.runeCells_length] at hl4
                have e2 : ((t.extract 2 t.size).extract 2 (t.size - 2)).size = t.size - 4 := by simp; omega
                simp only [List.length_append]; omega
            have hts4 : ((t.extract 2 t.size).extract 2 (t.size - 2)).size ≤ s.size := by simp; omega
            have htm4 : ((t.extract 2 t.size).extract 2 (t.size - 2)).size < t.size := by simp; omega
            have PR := Lib.hid pair
            clear pair AL
            have i4 : 2 ≤ t.size := by omega
            have i5 : (2 : Int) ≤ (t.size : Int) := by omega
            go_wp2_with fail
            go_quiet (fail)
            go_wp2_with fail
            go_quiet (fail)
            go_wp2_with fail
            go_quiet (fail)
            go_wp2_with (go_at_call 35; refine (writeRune w.heap.size w.heap.size _ _ (by omega) (by omega) _ (by exact HI.out) (by rw [Lib.byteCells_length]; omega) (by exact hsz)).mono ?_; rintro e W1 ⟨rfl, h1, b1, k1⟩)
            obtain ⟨f1, f2, f3⟩ := PR.out W1 h1
            go_roundw
            case rel => exact ⟨_, _, rfl, hts4, f1, f2, (bdrewN hb _).trans b1, Nat.le_trans hsz b1.size, f3⟩
            case measure => exact htm4
          · have hB2 : y < 56320 ∨ 57343 < y := by omega
            clear hB
            rcases hB2 with hB | hB
            · have ho : x < 55296 ∨ 56320 ≤ x ∨ t.data.toList.length ≤ 3 ∨ ∃ h3 : 3 < t.data.toList.length, uLE t.data.toList[2] t.data.toList[3] < 56320 ∨ 57343 < uLE t.data.toList[2] t.data.toList[3] := .inr (.inr (.inr ⟨k3, .inl (by rw [← HY.out]; exact hB)⟩))
              have HO := Lib.hid ho
              clear ho
              go_wp2_with fail
              go_quiet (fail)
              go_wp2_with fail
              go_quiet (fail)
              go_wp2_with (go_at_call 35; refine (writeRune w.heap.size w.heap.size _ _ (by omega) (by omega) _ (by exact HI.out) (by rw [Lib.byteCells_length]; omega) (by exact hsz)).mono ?_; rintro e W1 ⟨rfl, h1, b1, k1⟩)
              obtain ⟨f1, f2, f3⟩ := AL.out W1 h1 (HO.out)
              go_roundw
              case rel => exact ⟨_, _, rfl, hts2, f1, f2, (bdrewN hb _).trans b1, Nat.le_trans hsz b1.size, f3⟩
              case measure => exact htm
            · have ho : x < 55296 ∨ 56320 ≤ x ∨ t.data.toList.length ≤ 3 ∨ ∃ h3 : 3 < t.data.toList.length, uLE t.data.toList[2] t.data.toList[3] < 56320 ∨ 57343 < uLE t.data.toList[2] t.data.toList[3] := .inr (.inr (.inr ⟨k3, .inr (by rw [← HY.out]; exact hB)⟩))
              have HO := Lib.hid ho
              clear ho
              go_wp2_with fail
              go_quiet (fail)
              go_wp2_with fail
              go_quiet (fail)
              go_wp2_with (go_at_call 35; refine (writeRune w.heap.size w.heap.size _ _ (by omega) (by omega) _ (by exact HI.out) (by rw [Lib.byteCells_length]; omega) (by exact hsz)).mono ?_; rintro e W1 ⟨rfl, h1, b1, k1⟩)
              obtain ⟨f1, f2, f3⟩ := AL.out W1 h1 (HO.out)
              go_roundw
              case rel => exact ⟨_, _, rfl, hts2, f1, f2, (bdrewN hb _).trans b1, Nat.le_trans hsz b1.size, f3⟩
              case measure => exact htm
        · have i3 : ¬ (3 : Int) < (t.size : Int) := by omega
          go_wp2_with fail
          go_quiet (fail)
          go_wp2_with (go_at_call 35; refine (writeRune w.heap.size w.heap.size _ _ (by omega) (by omega) _ (by exact HI.out) (by rw [Lib.byteCells_length]; omega) (by exact hsz)).mono ?_; rintro e W1 ⟨rfl, h1, b1, k1⟩)
          obtain ⟨f1, f2, f3⟩ := AL.out W1 h1 (.inr (.inr (.inl (by have := HL.out; omega))))
          go_roundw
          case rel => exact ⟨_, _, rfl, hts2, f1, f2, (bdrewN hb _).trans b1, Nat.le_trans hsz b1.size, f3⟩
          case measure => exact htm
      · have hA2 : x < 55296 ∨ 56320 ≤ x := by omega
        clear hA
        rcases hA2 with hA | hA
        · skip
          go_wp2_with fail
          go_quiet (fail)
          go_wp2_with (go_at_call 35; refine (writeRune w.heap.size w.heap.size _ _ (by omega) (by omega) _ (by exact HI.out) (by rw [Lib.byteCells_length]; omega) (by exact hsz)).mono ?_; rintro e W1 ⟨rfl, h1, b1, k1⟩)
          obtain ⟨f1, f2, f3⟩ := AL.out W1 h1 (.inl hA)
          go_roundw
          case rel => exact ⟨_, _, rfl, hts2, f1, f2, (bdrewN hb _).trans b1, Nat.le_trans hsz b1.size, f3⟩
          case measure => exact htm
        · skip
          go_wp2_with fail
          go_quiet (fail)
          go_wp2_with (go_at_call 35; refine (writeRune w.heap.size w.heap.size _ _ (by omega) (by omega) _ (by exact HI.out) (by rw [Lib.byteCells_length]; omega) (by exact hsz)).mono ?_; rintro e W1 ⟨rfl, h1, b1, k1⟩)
          obtain ⟨f1, f2, f3⟩ := AL.out W1 h1 (.inr (.inl hA))
          go_roundw
          case rel => exact ⟨_, _, rfl, hts2, f1, f2, (bdrewN hb _).trans b1, Nat.le_trans hsz b1.size, f3⟩
          case measure => exact htm
    · by_cases h0 : t.size = 0
      · have e0 : t.data.toList = [] := by
          apply List.eq_nil_of_length_eq_zero; rw [hl]; exact h0
        have hf := HA.out
        rw [e0] at hf
        simp only [dblL, List.append_nil] at hf
        have HF := Lib.hid hf
        clear hf HA hl
        obtain rfl : t = ByteArray.empty := by
          apply ByteArray.ext; apply Array.ext'; rw [e0]; rfl
        clear e0 h0
        go_wp2_with (go_at_call 36; refine (Tryz.Builder_String_any_k w.heap.size w.heap.size _ _ HI.out hsz).mono ?_; rintro e W1 ⟨rfl, _, b1, _⟩)
        go_ret
        exact ⟨by rw [HF.out]; rfl, hb.trans b1⟩
      · have hone : t.size = 1 := by omega
        have e1 : dblL uLE t.data.toList = Lib.encodeRune 65533 := by
          have hl1 : t.data.toList.length = 1 := by rw [hl]; exact hone
          match t.data.toList, hl1 with
          | [a], _ => rfl
        have hf := HA.out
        rw [e1] at hf
        have HF := Lib.hid hf
        have hle := Lib.runeCells_le 65533
        have hnm : t.toList.isEmpty = false := by
          cases hh : t.toList with
          | nil =>
            have := congrArg List.length hh
            rw [ByteArray.toList_eq] at hh
            have := congrArg List.length hh
            simp [hone] at this
          | cons a b => rfl
        have hlen2 : acc.length + 4 ≤ 140737488355328 := by omega
        clear hf HA hl e1 hone h0
        go_wp2_with (first
          | (go_at_call 35; refine (writeRune w.heap.size w.heap.size _ _ (by omega) (by omega) _ HI.out (by rw [Lib.byteCells_length]; exact hlen2) hsz).mono ?_; rintro e W1 ⟨rfl, h2, b1, k1⟩; rw [← Lib.byteCells_encodeRune, ← Lib.byteCells_append, HF.out] at h2; have hsz1 := Nat.le_trans hsz b1.size)
          | (go_at_call 36; refine (Tryz.Builder_String_any_k w.heap.size w.heap.size _ _ (by assumption) (by assumption)).mono ?_; rintro e W2 ⟨rfl, _, b2, _⟩))
        go_ret
        exact ⟨rfl, (hb.trans b1).trans b2⟩
set_option maxHeartbeats 1600000 in
set_option maxRecDepth 1000000 in
theorem doubles_uBE (s : ByteArray) (w : World) (hs : s.size ≤ 35184372088832) :
    Calls Tryz.prog 126 #[.string s, .int .i64 8, .int .i64 0] w fun e w' => e = .returned (.string ⟨(dblL uBE s.data.toList).toArray⟩) ∧ Below w.heap.size w w' := by
  go_enter Tryz.func126, Tryz.ntmps126
  go_wp2
  go_loopw [0] (fun v wr => ∃ (t : ByteArray) (acc : List UInt8), v = .string t ∧ t.size ≤ s.size ∧ acc ++ dblL uBE t.data.toList = dblL uBE s.data.toList ∧ Lib.IsBuilderF 48 5 w.heap.size w.heap.size (Lib.byteCells acc) wr ∧ Below w.heap.size w wr ∧ w.heap.size ≤ wr.heap.size ∧ acc.length + 4 * t.size ≤ 4 * s.size) (fun v _ => match v with | .string t => t.size | _ => 0)
  case atStart => exact ⟨s, [], rfl, Nat.le_refl _, rfl, Lib.IsBuilderF.of (Lib.fresh_isBuilder 48 5 w), (Below.refl _ w).alloc (Nat.le_refl _) _, by simp, by simp⟩
  case round =>
    obtain ⟨t, acc, rfl, hts, hacc, hI, hb, hsz, hlen⟩ := hrel
    have HA := Lib.hid hacc; have HI := Lib.hid hI
    clear hacc hI
    have hl : t.data.toList.length = t.size := by simp
    by_cases h1 : 1 < t.size
    · have i0 : (0 : Int) < (t.size : Int) := by omega
      have j0 : 0 < t.size := by omega
      have i1 : (1 : Int) < (t.size : Int) := by omega
      have k1 : 1 < t.data.toList.length := by omega
      have k0 : 0 < t.data.toList.length := by omega
      obtain ⟨x, hx⟩ : ∃ x : Int, bits .or .i32 (wrap32 (wrap32 (t[0].toNat : Int) * 256)) (wrap32 (wrap32 (t[1].toNat : Int))) = x := ⟨_, rfl⟩
      have HX : Hid (x = uBE t.data.toList[0] t.data.toList[1]) := by rw [← hx]; exact orBE _ _
      have hxr : 0 ≤ x ∧ x ≤ 65535 := by rw [HX.out]; exact uBE_range _ _
      obtain ⟨hx0, hx1⟩ := hxr
      have alone : ∀ (W1 : World), Lib.IsBuilderF 48 5 w.heap.size w.heap.size (Lib.byteCells acc ++ Lib.runeCells x) W1 → (x < 55296 ∨ 56320 ≤ x ∨ t.data.toList.length ≤ 3 ∨ ∃ h3 : 3 < t.data.toList.length, uBE t.data.toList[2] t.data.toList[3] < 56320 ∨ 57343 < uBE t.data.toList[2] t.data.toList[3]) →
          (acc ++ Lib.encodeRune x) ++ dblL uBE (t.extract 2 t.size).data.toList = dblL uBE s.data.toList ∧ Lib.IsBuilderF 48 5 w.heap.size w.heap.size (Lib.byteCells (acc ++ Lib.encodeRune x)) W1 ∧ (acc ++ Lib.encodeRune x).length + 4 * (t.extract 2 t.size).size ≤ 4 * s.size := by
        intro W1 h2 h4
        refine ⟨?_, ?_, ?_⟩
        · rw [← HA.out, dbl_alone uBE t.data.toList k1 (by rw [← HX.out]; exact h4), drop2, List.append_assoc, HX.out]
        · rw [Lib.byteCells_append, Lib.byteCells_encodeRune]; exact h2
        · have hl4 := Lib.runeCells_le x
          rw [Lib.runeCells_length] at hl4
          have e2 : (t.extract 2 t.size).size = t.size - 2 := by simp
          simp only [List.length_append]; omega
      have hts2 : (t.extract 2 t.size).size ≤ s.size := by simp; omega
      have htm : (t.extract 2 t.size).size < t.size := by simp; omega
      have AL := Lib.hid alone
      clear alone
      have HL := Lib.hid hl
      clear hl
      by_cases hA : 55296 ≤ x ∧ x < 56320
      · obtain ⟨hA1, hA2⟩ := hA
        by_cases h3 : 3 < t.size
        · have i2 : (2 : Int) < (t.size : Int) := by omega
          have j2 : 2 < t.size := by omega
          have i3 : (3 : Int) < (t.size : Int) := by omega
          have k2 : 2 < t.data.toList.length := by have := HL.out; omega
          have k3 : 3 < t.data.toList.length := by have := HL.out; omega
          obtain ⟨y, hy⟩ : ∃ y : Int, bits .or .i32 (wrap32 (wrap32 (t[2].toNat : Int) * 256)) (wrap32 (wrap32 (t[3].toNat : Int))) = y := ⟨_, rfl⟩
          have HY : Hid (y = uBE t.data.toList[2] t.data.toList[3]) := by rw [← hy]; exact orBE _ _
          have hyr : 0 ≤ y ∧ y ≤ 65535 := by rw [HY.out]; exact uBE_range _ _
          obtain ⟨hy0, hy1⟩ := hyr
          by_cases hB : 56320 ≤ y ∧ y ≤ 57343
          · obtain ⟨hB1, hB2⟩ := hB
            have pair : ∀ (W1 : World), Lib.IsBuilderF 48 5 w.heap.size w.heap.size (Lib.byteCells acc ++ Lib.runeCells (65536 + (x - 55296) * 1024 + y - 56320)) W1 →
                (acc ++ Lib.encodeRune (65536 + (x - 55296) * 1024 + y - 56320)) ++ dblL uBE ((t.extract 2 t.size).extract 2 (t.size - 2)).data.toList = dblL uBE s.data.toList ∧ Lib.IsBuilderF 48 5 w.heap.size w.heap.size (Lib.byteCells (acc ++ Lib.encodeRune (65536 + (x - 55296) * 1024 + y - 56320))) W1 ∧ (acc ++ Lib.encodeRune (65536 + (x - 55296) * 1024 + y - 56320)).length + 4 * ((t.extract 2 t.size).extract 2 (t.size - 2)).size ≤ 4 * s.size := by
              intro W1 h2
              refine ⟨?_, ?_, ?_⟩
              · rw [← HA.out, dbl_pair uBE t.data.toList k3 (by rw [← HX.out, ← HY.out]; exact ⟨⟨hA1, hA2⟩, hB1, hB2⟩), drop4, List.append_assoc, HX.out, HY.out]; rfl
              · rw [Lib.byteCells_append, Lib.byteCells_encodeRune]; exact h2
              · have hl4 := Lib.runeCells_le (65536 + (x - 55296) * 1024 + y - 56320)
                rw [Lib.runeCells_length] at hl4
                have e2 : ((t.extract 2 t.size).extract 2 (t.size - 2)).size = t.size - 4 := by simp; omega
                simp only [List.length_append]; omega
            have hts4 : ((t.extract 2 t.size).extract 2 (t.size - 2)).size ≤ s.size := by simp; omega
            have htm4 : ((t.extract 2 t.size).extract 2 (t.size - 2)).size < t.size := by simp; omega
            have PR := Lib.hid pair
            clear pair AL
            have i4 : 2 ≤ t.size := by omega
            have i5 : (2 : Int) ≤ (t.size : Int) := by omega
            go_wp2_with fail
            go_quiet (fail)
            go_wp2_with fail
            go_quiet (fail)
            go_wp2_with fail
            go_quiet (fail)
            go_wp2_with (go_at_call 35; refine (writeRune w.heap.size w.heap.size _ _ (by omega) (by omega) _ (by exact HI.out) (by rw [Lib.byteCells_length]; omega) (by exact hsz)).mono ?_; rintro e W1 ⟨rfl, h1, b1, k1⟩)
            obtain ⟨f1, f2, f3⟩ := PR.out W1 h1
            go_roundw
            case rel => exact ⟨_, _, rfl, hts4, f1, f2, (bdrewN hb _).trans b1, Nat.le_trans hsz b1.size, f3⟩
            case measure => exact htm4
          · have hB2 : y < 56320 ∨ 57343 < y := by omega
            clear hB
            rcases hB2 with hB | hB
            · have ho : x < 55296 ∨ 56320 ≤ x ∨ t.data.toList.length ≤ 3 ∨ ∃ h3 : 3 < t.data.toList.length, uBE t.data.toList[2] t.data.toList[3] < 56320 ∨ 57343 < uBE t.data.toList[2] t.data.toList[3] := .inr (.inr (.inr ⟨k3, .inl (by rw [← HY.out]; exact hB)⟩))
              have HO := Lib.hid ho
              clear ho
              go_wp2_with fail
              go_quiet (fail)
              go_wp2_with fail
              go_quiet (fail)
              go_wp2_with (go_at_call 35; refine (writeRune w.heap.size w.heap.size _ _ (by omega) (by omega) _ (by exact HI.out) (by rw [Lib.byteCells_length]; omega) (by exact hsz)).mono ?_; rintro e W1 ⟨rfl, h1, b1, k1⟩)
              obtain ⟨f1, f2, f3⟩ := AL.out W1 h1 (HO.out)
              go_roundw
              case rel => exact ⟨_, _, rfl, hts2, f1, f2, (bdrewN hb _).trans b1, Nat.le_trans hsz b1.size, f3⟩
              case measure => exact htm
            · have ho : x < 55296 ∨ 56320 ≤ x ∨ t.data.toList.length ≤ 3 ∨ ∃ h3 : 3 < t.data.toList.length, uBE t.data.toList[2] t.data.toList[3] < 56320 ∨ 57343 < uBE t.data.toList[2] t.data.toList[3] := .inr (.inr (.inr ⟨k3, .inr (by rw [← HY.out]; exact hB)⟩))
              have HO := Lib.hid ho
              clear ho
              go_wp2_with fail
              go_quiet (fail)
              go_wp2_with fail
              go_quiet (fail)
              go_wp2_with (go_at_call 35; refine (writeRune w.heap.size w.heap.size _ _ (by omega) (by omega) _ (by exact HI.out) (by rw [Lib.byteCells_length]; omega) (by exact hsz)).mono ?_; rintro e W1 ⟨rfl, h1, b1, k1⟩)
              obtain ⟨f1, f2, f3⟩ := AL.out W1 h1 (HO.out)
              go_roundw
              case rel => exact ⟨_, _, rfl, hts2, f1, f2, (bdrewN hb _).trans b1, Nat.le_trans hsz b1.size, f3⟩
              case measure => exact htm
        · have i3 : ¬ (3 : Int) < (t.size : Int) := by omega
          go_wp2_with fail
          go_quiet (fail)
          go_wp2_with (go_at_call 35; refine (writeRune w.heap.size w.heap.size _ _ (by omega) (by omega) _ (by exact HI.out) (by rw [Lib.byteCells_length]; omega) (by exact hsz)).mono ?_; rintro e W1 ⟨rfl, h1, b1, k1⟩)
          obtain ⟨f1, f2, f3⟩ := AL.out W1 h1 (.inr (.inr (.inl (by have := HL.out; omega))))
          go_roundw
          case rel => exact ⟨_, _, rfl, hts2, f1, f2, (bdrewN hb _).trans b1, Nat.le_trans hsz b1.size, f3⟩
          case measure => exact htm
      · have hA2 : x < 55296 ∨ 56320 ≤ x := by omega
        clear hA
        rcases hA2 with hA | hA
        · skip
          go_wp2_with fail
          go_quiet (fail)
          go_wp2_with (go_at_call 35; refine (writeRune w.heap.size w.heap.size _ _ (by omega) (by omega) _ (by exact HI.out) (by rw [Lib.byteCells_length]; omega) (by exact hsz)).mono ?_; rintro e W1 ⟨rfl, h1, b1, k1⟩)
          obtain ⟨f1, f2, f3⟩ := AL.out W1 h1 (.inl hA)
          go_roundw
          case rel => exact ⟨_, _, rfl, hts2, f1, f2, (bdrewN hb _).trans b1, Nat.le_trans hsz b1.size, f3⟩
          case measure => exact htm
        · skip
          go_wp2_with fail
          go_quiet (fail)
          go_wp2_with (go_at_call 35; refine (writeRune w.heap.size w.heap.size _ _ (by omega) (by omega) _ (by exact HI.out) (by rw [Lib.byteCells_length]; omega) (by exact hsz)).mono ?_; rintro e W1 ⟨rfl, h1, b1, k1⟩)
          obtain ⟨f1, f2, f3⟩ := AL.out W1 h1 (.inr (.inl hA))
          go_roundw
          case rel => exact ⟨_, _, rfl, hts2, f1, f2, (bdrewN hb _).trans b1, Nat.le_trans hsz b1.size, f3⟩
          case measure => exact htm
    · by_cases h0 : t.size = 0
      · have e0 : t.data.toList = [] := by
          apply List.eq_nil_of_length_eq_zero; rw [hl]; exact h0
        have hf := HA.out
        rw [e0] at hf
        simp only [dblL, List.append_nil] at hf
        have HF := Lib.hid hf
        clear hf HA hl
        obtain rfl : t = ByteArray.empty := by
          apply ByteArray.ext; apply Array.ext'; rw [e0]; rfl
        clear e0 h0
        go_wp2_with (go_at_call 36; refine (Tryz.Builder_String_any_k w.heap.size w.heap.size _ _ HI.out hsz).mono ?_; rintro e W1 ⟨rfl, _, b1, _⟩)
        go_ret
        exact ⟨by rw [HF.out]; rfl, hb.trans b1⟩
      · have hone : t.size = 1 := by omega
        have e1 : dblL uBE t.data.toList = Lib.encodeRune 65533 := by
          have hl1 : t.data.toList.length = 1 := by rw [hl]; exact hone
          match t.data.toList, hl1 with
          | [a], _ => rfl
        have hf := HA.out
        rw [e1] at hf
        have HF := Lib.hid hf
        have hle := Lib.runeCells_le 65533
        have hnm : t.toList.isEmpty = false := by
          cases hh : t.toList with
          | nil =>
            have := congrArg List.length hh
            rw [ByteArray.toList_eq] at hh
            have := congrArg List.length hh
            simp [hone] at this
          | cons a b => rfl
        have hlen2 : acc.length + 4 ≤ 140737488355328 := by omega
        clear hf HA hl e1 hone h0
        go_wp2_with (first
          | (go_at_call 35; refine (writeRune w.heap.size w.heap.size _ _ (by omega) (by omega) _ HI.out (by rw [Lib.byteCells_length]; exact hlen2) hsz).mono ?_; rintro e W1 ⟨rfl, h2, b1, k1⟩; rw [← Lib.byteCells_encodeRune, ← Lib.byteCells_append, HF.out] at h2; have hsz1 := Nat.le_trans hsz b1.size)
          | (go_at_call 36; refine (Tryz.Builder_String_any_k w.heap.size w.heap.size _ _ (by assumption) (by assumption)).mono ?_; rintro e W2 ⟨rfl, _, b2, _⟩))
        go_ret
        exact ⟨rfl, (hb.trans b1).trans b2⟩
theorem chars_doubles.calls (s : ByteArray) (first second : Int) (r : ByteArray) (w : World) (h : chars_doubles.f s first second = some r) :
    Calls Tryz.prog 126 #[.string s, .int .i64 first, .int .i64 second] w fun e w' => e = .returned (.string r) ∧ Below w.heap.size w w' := by
  obtain ⟨⟨hs, ho⟩, rfl⟩ := of_guard h
  rcases ho with ⟨rfl, rfl⟩ | ⟨rfl, rfl⟩
  · exact doubles_uLE s w hs
  · exact doubles_uBE s w hs
end Go.Proofs.YtpcncpegbboljaaGreatDoor
namespace Go.Proofs.YtpcncpegbboljaaGreatDoor
open Go.RowKit
structure Glob (w : World) : Prop where
  high : TabHigh w
  tabs : Lib.Utf8Tabs 1 2 w
  maxl : ∃ m, w.cell? ⟨0, 0, none⟩ = some (.int .i64 m)
theorem Glob.below {w w1 : World} (h : Glob w) (hb : Below w.heap.size w w1) : Glob w1 :=
  ⟨h.high.below hb, Utf8Tabs_below h.tabs hb, by obtain ⟨m, hm⟩ := h.maxl; exact ⟨m, (hb.cell (World.block_lt_of_cell? _ _ hm)).trans hm⟩⟩
theorem chars_singles.calls (s r : ByteArray) (w : World) (hGl : Glob w) (h : chars_singles.f s = some r) :
    Calls Tryz.prog 125 #[.string s] w fun e w' => e = .returned (.string r) ∧ Below w.heap.size w w' := chars_singles.calls' s r w hGl.high h
end Go.Proofs.YtpcncpegbboljaaGreatDoor
namespace Go.Proofs.YtpcncpegbboljaaGreatDoor.Pure
open Go.RowKit Go.Proofs.YtpcncpegbboljaaGreatDoorW.PrintWords
set_option linter.unusedVariables false
set_option linter.unusedSimpArgs false
theorem w64 {x : Int} (h0 : -9223372036854775808 ≤ x) (h1 : x ≤ 9223372036854775807) : wrap64 x = x := by unfold wrap64; omega
def intsOf (l : List UInt8) : List Int := l.map fun b => (b.toNat : Int)
theorem intsOf_append (a b : List UInt8) : intsOf (a ++ b) = intsOf a ++ intsOf b := by simp [intsOf]
theorem intsOf_length (a : List UInt8) : (intsOf a).length = a.length := by simp [intsOf]
theorem bytesOf_ints (s : ByteArray) : bytesOf s = intsOf s.data.toList := rfl
theorem strOf_ints (l : List UInt8) : strOfNums (intsOf l) = ⟨l.toArray⟩ := by
  simp only [strOfNums, intsOf, List.map_map]
  congr 2
  conv => rhs; rw [← List.map_id l]
  apply List.map_congr_left
  intro x _
  simp
theorem sizeL (s : ByteArray) : s.data.toList.length = s.size := by simp
theorem toList_eq (s : ByteArray) : s.toList = s.data.toList := ByteArray.toList_eq s
theorem mk_size (l : List UInt8) : (⟨l.toArray⟩ : ByteArray).size = l.length := by simp [ByteArray.size]
theorem extract_list (s : ByteArray) (i j : Nat) : (s.extract i j).data.toList = (s.data.toList.take j).drop i := by
  simp [List.drop_take]
theorem mk_back (s : ByteArray) : (⟨s.data.toList.toArray⟩ : ByteArray) = s := by
  apply ByteArray.ext; simp
theorem ba_ext {s t : ByteArray} (h : s.data.toList = t.data.toList) : s = t := by
  apply ByteArray.ext; exact Array.ext' h
theorem bt_range (s : ByteArray) (i : Int) : 0 ≤ bt s i ∧ bt s i < 256 := by
  unfold bt
  split
  · have := UInt8.toNat_lt (s[i.toNat]); omega
  · omega
theorem bt_get (s : ByteArray) (i : Nat) (h : i < s.data.toList.length) : bt s (i : Int) = (s.data.toList[i].toNat : Int) := by
  unfold bt
  have h2 : i < s.size := by simpa using h
  rw [dif_pos (by simpa using h2)]
  rfl
theorem Ev.round {α : Type} {g f : Nat → Option α} {r : α} (h : ∀ k, g (k + 1) = f k) (k : Ev f r) : Ev g r := Ev.step h k
theorem Ev.pos {α : Type} {c : Prop} [Decidable c] {g f : Nat → Option α} {r : α} (h : c) (k : Ev g r) : Ev (fun n => if c then g n else f n) r := by
  refine Ev.congr (fun n => ?_) k; exact if_pos h
theorem Ev.neg {α : Type} {c : Prop} [Decidable c] {g f : Nat → Option α} {r : α} (h : ¬ c) (k : Ev f r) : Ev (fun n => if c then g n else f n) r := by
  refine Ev.congr (fun n => ?_) k; exact if_neg h
theorem Ev.got {α β : Type} {x : Option α} {a : α} {f : Nat → α → Option β} {r : β} (h : x = some a) (k : Ev (fun n => f n a) r) : Ev (fun n => x.bind (f n)) r := by
  subst h; exact k
end Go.Proofs.YtpcncpegbboljaaGreatDoor.Pure
namespace Go.Proofs.YtpcncpegbboljaaGreatDoor.Addr
open Go.RowKit Go.Lib Go.Proofs.YtpcncpegbboljaaGreatDoor Go.Proofs.YtpcncpegbboljaaGreatDoor.Pure
set_option linter.unusedVariables false
set_option linter.unusedSimpArgs false
def noB : ByteArray := ⟨#[60, 62, 40, 41, 44, 59, 58, 92, 34]⟩
theorem idx_kind (p : Nat → Bool) (q : UInt8 → Bool) (hq : ∀ c : UInt8, c.toNat < 128 → p c.toNat = !q c) (hh : ∀ r : Nat, 128 ≤ r → p r = true) (hk : ∀ c : UInt8, 128 ≤ c.toNat → q c = false) (s : ByteArray) :
    ∀ (f pos : Nat), s.size ≤ pos + f → decide (0 ≤ idxFuncFrom p true s f pos) = !((s.data.toList.drop pos).all q)
  | 0, pos, h => by
    rw [List.drop_eq_nil_of_le (by simp; omega)]; rfl
  | f + 1, pos, h => by
    have hl : s.data.toList.length = s.size := by simp
    unfold idxFuncFrom
    by_cases hp : pos < s.size
    · rw [if_pos hp, decode_list]
      have hc : s.data.toList.drop pos = s.data.toList[pos] :: s.data.toList.drop (pos + 1) := List.drop_eq_getElem_cons (by rw [hl]; exact hp)
      generalize s.data.toList[pos]'(by rw [hl]; exact hp) = c at hc
      have hb : byteAt (s.data.toList.drop pos) 0 = c.toNat := by rw [hc]; rfl
      by_cases h1 : c.toNat < 128
      · have hd : uDec (s.data.toList.drop pos) = (c.toNat, 1) := by unfold uDec; rw [hb, if_pos h1]
        rw [hd, hc, List.all_cons]
        simp only
        have ih := idx_kind p q hq hh hk s f (pos + 1) (by omega)
        have hpc := hq c h1
        cases hqc : q c with
        | true =>
          rw [hqc] at hpc
          rw [if_neg (by rw [hpc]; simp), ih, Bool.true_and]
        | false =>
          rw [hqc] at hpc
          rw [if_pos (by rw [hpc]; rfl)]; simp
      · have hd := (dec_highs (s.data.toList.drop pos) (by rw [hc]; simp) (by rw [hb]; omega)).1
        rw [if_pos (hh _ hd), hc, List.all_cons, hk c (by omega)]
        simp
    · rw [if_neg hp, List.drop_eq_nil_of_le (by rw [hl]; omega)]; rfl
theorem idx_kind_all (p : Nat → Bool) (q : UInt8 → Bool) (hq : ∀ c : UInt8, c.toNat < 128 → p c.toNat = !q c) (hh : ∀ r : Nat, 128 ≤ r → p r = true) (hk : ∀ c : UInt8, 128 ≤ c.toNat → q c = false) (s : ByteArray) :
    decide (0 ≤ idxFunc p true s) = !(s.data.toList.all q) := by
  have := idx_kind p q hq hh hk s s.size 0 (by omega)
  rw [List.drop_zero] at this
  exact this
theorem idx_low (p : Nat → Bool) (q : UInt8 → Bool) (hq : ∀ c : UInt8, c.toNat < 128 → p c.toNat = q c) (hh : ∀ r : Nat, 128 ≤ r → p r = false) (hk : ∀ c : UInt8, 128 ≤ c.toNat → q c = false) (s : ByteArray) :
    ∀ (f pos : Nat), s.size ≤ pos + f → decide (0 ≤ idxFuncFrom p true s f pos) = (s.data.toList.drop pos).any q
  | 0, pos, h => by
    rw [List.drop_eq_nil_of_le (by simp; omega)]; rfl
  | f + 1, pos, h => by
    have hl : s.data.toList.length = s.size := by simp
    unfold idxFuncFrom
    by_cases hp : pos < s.size
    · rw [if_pos hp, decode_list]
      have hc : s.data.toList.drop pos = s.data.toList[pos] :: s.data.toList.drop (pos + 1) := List.drop_eq_getElem_cons (by rw [hl]; exact hp)
      generalize s.data.toList[pos]'(by rw [hl]; exact hp) = c at hc
      have hb : byteAt (s.data.toList.drop pos) 0 = c.toNat := by rw [hc]; rfl
      by_cases h1 : c.toNat < 128
      · have hd : uDec (s.data.toList.drop pos) = (c.toNat, 1) := by unfold uDec; rw [hb, if_pos h1]
        rw [hd, hc, List.any_cons]
        simp only
        have ih := idx_low p q hq hh hk s f (pos + 1) (by omega)
        have hpc := hq c h1
        cases hqc : q c with
        | true =>
          rw [hqc] at hpc
          rw [if_pos hpc]; simp
        | false =>
          rw [hqc] at hpc
          rw [if_neg (by rw [hpc]; exact Bool.false_ne_true), ih, Bool.false_or]
      · have hne : s.data.toList.drop pos ≠ [] := by rw [hc]; simp
        obtain ⟨hd, hbs⟩ := dec_highs (s.data.toList.drop pos) hne (by rw [hb]; omega)
        have hwd := dec_width _ hne
        rw [if_neg (by rw [hh _ hd]; exact Bool.false_ne_true), idx_low p q hq hh hk s f _ (by omega)]
        have e : s.data.toList.drop (pos + (uDec (s.data.toList.drop pos)).2) = (s.data.toList.drop pos).drop (uDec (s.data.toList.drop pos)).2 := by rw [List.drop_drop]
        rw [e]
        conv => rhs; rw [← List.take_append_drop (uDec (s.data.toList.drop pos)).2 (s.data.toList.drop pos), List.any_append]
        have hz : ((s.data.toList.drop pos).take (uDec (s.data.toList.drop pos)).2).any q = false := by
          rw [List.any_eq_false]
          intro b hbm
          rw [hk b (hbs b hbm)]; exact Bool.false_ne_true
        rw [hz, Bool.false_or]
    · rw [if_neg hp, List.drop_eq_nil_of_le (by rw [hl]; omega)]; rfl
theorem idx_low_all (p : Nat → Bool) (q : UInt8 → Bool) (hq : ∀ c : UInt8, c.toNat < 128 → p c.toNat = q c) (hh : ∀ r : Nat, 128 ≤ r → p r = false) (hk : ∀ c : UInt8, 128 ≤ c.toNat → q c = false) (s : ByteArray) :
    decide (0 ≤ idxFunc p true s) = s.data.toList.any q := by
  have := idx_low p q hq hh hk s s.size 0 (by omega)
  rw [List.drop_zero] at this
  exact this
theorem idx_high (p : Nat → Bool) (q : UInt8 → Bool) (hq : ∀ c : UInt8, c.toNat < 128 → p c.toNat = q c) (hh : ∀ r : Nat, 128 ≤ r → p r = true) (hk : ∀ c : UInt8, 128 ≤ c.toNat → q c = true) (s : ByteArray) :
    decide (0 ≤ idxFunc p true s) = s.data.toList.any q := by
  have h := idx_kind_all p (fun c => !q c) (fun c h => by rw [hq c h]; simp) hh (fun c h => by rw [hk c h]; rfl) s
  rw [h, List.all_eq_not_any_not]; simp
def visC (c : UInt8) : Bool := decide (33 ≤ c.toNat ∧ c.toNat ≤ 126)
def visR (x : Nat) : Bool := decide ((x : Int) < 33) || decide (126 < (x : Int))
theorem vis_c (W : World) (x : Nat) (hx : x ≤ 1114111) : Calls Tryz.prog 27 #[.int .i32 (x : Int)] W fun e w' => e = .returned (.bool (visR x)) ∧ Below W.heap.size W w' := by
  unfold visR
  by_cases h1 : (x : Int) < 33
  · have h1' : x < 33 := by omega
    go_enter Tryz.func27, Tryz.ntmps27
    go_wp2
    go_ret
    refine ⟨?_, Below.refl _ _⟩
    simp [h1']
    try omega
  · have h1' : ¬ x < 33 := by omega
    go_enter Tryz.func27, Tryz.ntmps27
    go_wp2
    go_ret
    refine ⟨?_, Below.refl _ _⟩
    simp [h1']
    try omega
theorem visF_c (s : ByteArray) (W : World) : Calls Tryz.prog 26 #[.string s, .func (.func 27) #[] #[]] W fun e w' => e = .returned (.bool (!(s.data.toList.all visC))) ∧ Below W.heap.size W w' := by
  have h := Tryz.strings_ContainsFunc_grows 27 #[] (enters_of Tryz.func27 (by kernel_rfl) rfl) visR s W (fun W2 x hx _ => vis_c W2 x hx)
  rw [idx_kind_all visR visC (fun c h => by unfold visR visC; rw [Bool.eq_iff_iff]; simp; omega) (fun r h => by unfold visR; simp; omega) (fun c h => by unfold visC; exact decide_eq_false (by omega))] at h
  exact h
def goodL (l : List UInt8) : Bool := (cutL 64 l).2.2 && !(cutL 64 l).1.isEmpty && !(cutL 64 l).2.1.isEmpty && !(decide (0 ≤ indexByte (cutL 64 l).2.1 64)) && !(l.any noB.data.toList.contains) && l.all visC
def addr_Good.f (s : ByteArray) : Option Bool := if s.size ≤ 11000000 then some (goodL s.data.toList) else none
set_option maxRecDepth 100000 in
set_option maxHeartbeats 4000000 in
theorem Good_c (s : ByteArray) (hs : s.size ≤ 11000000) (w : World) :
    Calls Tryz.prog 13 #[.string s] w fun e w' => e = .returned (.bool (goodL s.data.toList)) ∧ Below w.heap.size w w' := by
  have hcu : strings_Cut.f s (⟨#[64]⟩ : ByteArray) = some (⟨(cutL 64 s.data.toList).1.toArray⟩, ⟨(cutL 64 s.data.toList).2.1.toArray⟩, (cutL 64 s.data.toList).2.2) := by
    unfold strings_Cut.f
    rw [if_pos ⟨rfl, by omega⟩]
    rfl
  have CU := Lib.hid (fun W => strings_Cut.calls s (⟨#[64]⟩ : ByteArray) _ _ _ W hcu)
  have CO := Lib.hid (fun W => Tryz.strings_Contains_one (⟨(cutL 64 s.data.toList).2.1.toArray⟩ : ByteArray) 64 W)
  have CA := Lib.hid (fun W => containsAny_c s noB (by decide) (by decide) (by decide) hs W)
  have CF := Lib.hid (fun W => visF_c s W)
  unfold goodL
  clear hcu
  rw [show (⟨(cutL 64 s.data.toList).2.1.toArray⟩ : ByteArray).data.toList = (cutL 64 s.data.toList).2.1 from rfl] at CO
  generalize decide (0 ≤ indexByte (cutL 64 s.data.toList).2.1 64) = q1 at *
  generalize s.data.toList.any noB.data.toList.contains = q2 at *
  generalize s.data.toList.all visC = q3 at *
  have e1 : (⟨(cutL 64 s.data.toList).1.toArray⟩ : ByteArray).toList = (cutL 64 s.data.toList).1 := toList_eq _
  have e2 : (⟨(cutL 64 s.data.toList).2.1.toArray⟩ : ByteArray).toList = (cutL 64 s.data.toList).2.1 := toList_eq _
  generalize (⟨(cutL 64 s.data.toList).1.toArray⟩ : ByteArray) = X at *
  generalize (⟨(cutL 64 s.data.toList).2.1.toArray⟩ : ByteArray) = Y at *
  generalize cutL 64 s.data.toList = ct at *
  obtain ⟨p, p2, p3⟩ := ct
  simp only at CU CO e1 e2 ⊢
  have hcon : noB = (⟨#[60, 62, 40, 41, 44, 59, 58, 92, 34]⟩ : ByteArray) := rfl
  rw [hcon] at CA
  clear hcon
  go_enter Tryz.func13, Tryz.ntmps13
  cases p3 with
  | false =>
    go_wp2_with (first
      | (go_at_call 23; refine (CU.out _).mono ?_; rintro e w1 ⟨rfl, b1⟩; have B1 := Lib.hid b1; clear b1))
    go_ret
    exact ⟨by simp, B1.out⟩
  | true =>
  cases p with
  | nil =>
    have x1 : X.toList.isEmpty = true := by rw [e1]; rfl
    go_wp2_with (first
      | (go_at_call 23; refine (CU.out _).mono ?_; rintro e w1 ⟨rfl, b1⟩; have B1 := Lib.hid b1; clear b1))
    go_ret
    exact ⟨by simp, B1.out⟩
  | cons c1 p' =>
  have x1 : X.toList.isEmpty = false := by rw [e1]; rfl
  have x2 : ¬ X.toList = [] := by rw [e1]; simp
  clear e1
  cases p2 with
  | nil =>
    have y1 : Y.toList.isEmpty = true := by rw [e2]; rfl
    go_wp2_with (first
      | (go_at_call 23; refine (CU.out _).mono ?_; rintro e w1 ⟨rfl, b1⟩; have B1 := Lib.hid b1; clear b1))
    go_ret
    exact ⟨by simp, B1.out⟩
  | cons c2 p2' =>
  have y1 : Y.toList.isEmpty = false := by rw [e2]; rfl
  have y2 : ¬ Y.toList = [] := by rw [e2]; simp
  clear e2
  cases q1 with
  | true =>
    go_wp2_with (first
      | (go_at_call 23; refine (CU.out _).mono ?_; rintro e w1 ⟨rfl, b1⟩; have B1 := Lib.hid b1; clear b1)
      | (go_at_call 24; refine (CO.out _).mono ?_; rintro e w2 ⟨rfl, rfl⟩))
    go_ret
    exact ⟨by simp, B1.out⟩
  | false =>
  cases q2 with
  | true =>
    go_wp2_with (first
      | (go_at_call 23; refine (CU.out _).mono ?_; rintro e w1 ⟨rfl, b1⟩; have B1 := Lib.hid b1; clear b1)
      | (go_at_call 24; refine (CO.out _).mono ?_; rintro e w2 ⟨rfl, rfl⟩)
      | (go_at_call 25; refine (CA.out _).mono ?_; rintro e w3 ⟨rfl, b3⟩; have B3 := Lib.hid (B1.out.trans (b3.mono B1.out.size)); clear b3))
    go_ret
    exact ⟨by simp, B3.out⟩
  | false =>
  cases q3 with
  | true =>
    go_wp2_with (first
      | (go_at_call 23; refine (CU.out _).mono ?_; rintro e w1 ⟨rfl, b1⟩; have B1 := Lib.hid b1; clear b1)
      | (go_at_call 24; refine (CO.out _).mono ?_; rintro e w2 ⟨rfl, rfl⟩)
      | (go_at_call 25; refine (CA.out _).mono ?_; rintro e w3 ⟨rfl, b3⟩; have B3 := Lib.hid (B1.out.trans (b3.mono B1.out.size)); clear b3)
      | (go_at_call 26; refine (CF.out _).mono ?_; rintro e w4 ⟨rfl, b4⟩; have B4 := Lib.hid (B3.out.trans (b4.mono B3.out.size)); clear b4))
    go_ret
    exact ⟨by simp, B4.out⟩
  | false =>
    go_wp2_with (first
      | (go_at_call 23; refine (CU.out _).mono ?_; rintro e w1 ⟨rfl, b1⟩; have B1 := Lib.hid b1; clear b1)
      | (go_at_call 24; refine (CO.out _).mono ?_; rintro e w2 ⟨rfl, rfl⟩)
      | (go_at_call 25; refine (CA.out _).mono ?_; rintro e w3 ⟨rfl, b3⟩; have B3 := Lib.hid (B1.out.trans (b3.mono B1.out.size)); clear b3)
      | (go_at_call 26; refine (CF.out _).mono ?_; rintro e w4 ⟨rfl, b4⟩; have B4 := Lib.hid (B3.out.trans (b4.mono B3.out.size)); clear b4))
    go_ret
    exact ⟨by simp, B4.out⟩
theorem addr_Good.calls (s : ByteArray) (r : Bool) (w : World) (h : addr_Good.f s = some r) :
    Calls Tryz.prog 13 #[.string s] w fun e w' => e = .returned (.bool r) ∧ Below w.heap.size w w' := by
  obtain ⟨h1, rfl⟩ := of_guard h
  exact Good_c s h1 w
end Go.Proofs.YtpcncpegbboljaaGreatDoor.Addr
namespace Go.Proofs.YtpcncpegbboljaaGreatDoor.A
open Go.RowKit Go.Proofs.YtpcncpegbboljaaGreatDoorW.PrintWords Go.Proofs.YtpcncpegbboljaaGreatDoorW.PrintLast Go.Proofs.YtpcncpegbboljaaGreatDoorW.PrintMore
attribute [local go_sem] max2_int min2_int max_two min_two max_three min_three max_four min_four
set_option linter.unusedVariables false
set_option linter.unusedSimpArgs false
def errW : Option Int → Value
  | none => .nilIface
  | some c => .iface 0 (.int .i64 c)
theorem errW_none : errW none = .nilIface := rfl
theorem errW_some (c : Int) : errW (some c) = .iface 0 (.int .i64 c) := rfl
end Go.Proofs.YtpcncpegbboljaaGreatDoor.A
namespace Go.Proofs.YtpcncpegbboljaaGreatDoor.A
open Go.RowKit Go.Proofs.YtpcncpegbboljaaGreatDoorW.PrintWords Go.Proofs.YtpcncpegbboljaaGreatDoorW.PrintLast Go.Proofs.YtpcncpegbboljaaGreatDoorW.PrintMore
attribute [local go_sem] max2_int min2_int max_two min_two max_three min_three max_four min_four
set_option linter.unusedVariables false
set_option linter.unusedSimpArgs false
mutual
def addr_stretch.l0 : Nat → ByteArray → Int → Int → Option (Int × Bool)
  | 0, _, _, _ => none
  | k + 1, x0, x4, x5 => if x5 < (x0.size : Int) then (if 0 ≤ x5 then (if (bt x0 x5) = 92 then (addr_stretch.l0 k x0 x4 (wrap64 ((wrap64 (x5 + 1)) + 1))) else (if 0 < (x0.size : Int) then (if (bt x0 0) = 34 then (if (bt x0 x5) = 34 then (addr_stretch.j1 k x0 x4 x5 (bt x0 x5) (decide (x5 > 0))) else (addr_stretch.j1 k x0 x4 x5 (bt x0 x5) false)) else (addr_stretch.j1 k x0 x4 x5 (bt x0 x5) false)) else (none))) else (none)) else (some ((x0.size : Int), false))
def addr_stretch.j1 : Nat → ByteArray → Int → Int → Int → Bool → Option (Int × Bool)
  | 0, _, _, _, _, _ => none
  | k + 1, x0, x4, x5, x6, x21 => if x21 = true then (some (wrap64 (x5 + 1), true)) else (if 0 < (x0.size : Int) then (if (bt x0 0) = 40 then (addr_stretch.j2 k x0 x4 x5 x6 (x6 == 40)) else (addr_stretch.j2 k x0 x4 x5 x6 false)) else (none))
def addr_stretch.j2 : Nat → ByteArray → Int → Int → Int → Bool → Option (Int × Bool)
  | 0, _, _, _, _, _ => none
  | k + 1, x0, x4, x5, x6, x35 => if x35 = true then (addr_stretch.l0 k x0 (wrap64 (x4 + 1)) (wrap64 (x5 + 1))) else (if 0 < (x0.size : Int) then (if (bt x0 0) = 40 then (addr_stretch.j3 k x0 x4 x5 (x6 == 41)) else (addr_stretch.j3 k x0 x4 x5 false)) else (none))
def addr_stretch.j3 : Nat → ByteArray → Int → Int → Bool → Option (Int × Bool)
  | 0, _, _, _, _ => none
  | k + 1, x0, x4, x5, x45 => if x45 = true then (if (wrap64 (x4 - 1)) = 0 then (some (wrap64 (x5 + 1), true)) else (addr_stretch.l0 k x0 (wrap64 (x4 - 1)) (wrap64 (x5 + 1)))) else (addr_stretch.l0 k x0 x4 (wrap64 (x5 + 1)))
end
def addr_stretch.f (k : Nat) (a0 : ByteArray) : Option (Int × Bool) := addr_stretch.l0 k a0 0 0
set_option maxHeartbeats 8000000 in
set_option maxRecDepth 100000 in
theorem addr_stretch.calls (k : Nat) (a0 : ByteArray) (r1 : Int) (r2 : Bool) (w : World) (h : addr_stretch.f k a0 = some (r1, r2)) :
    Calls Tryz.prog 66 #[.string a0] w fun e w' => e = .returned (.tuple #[.int .i64 r1, .bool r2]) ∧ Drawn0 w w' := by
  have H : (addr_stretch.l0 k a0 0 0) = some (r1, r2) := h; clear h; have H' := Aside0.mk H; clear H
  go_enter Tryz.func66, Tryz.ntmps66
  go_wp2
  go_loopg [4, 5] k (fun kq v4 v5 w' => ∃ (x4_1 : Int) (x5_1 : Int), v4 = .int .i64 x4_1 ∧ v5 = .int .i64 x5_1 ∧ Aside0 (addr_stretch.l0 kq a0 x4_1 x5_1 = some (r1, r2)) ∧ Aside0 (kq ≤ k) ∧ Drawn0 w w')
  case atStart => exact ⟨(0), (0), (by first | rfl | (simp; done) | (simp [*]; done)), (by first | rfl | (simp; done) | (simp [*]; done)), H', ⟨Nat.le_refl _⟩, by repeat (first | exact Drawn0.refl _ | apply Drawn0.step)⟩
  case round =>
    clear H'; obtain ⟨x4_1, x5_1, rfl, rfl, HA, HK1, ⟨m1, rfl⟩⟩ := hrel
    cases gk with
    | zero => exact absurd HA.out (by simp [addr_stretch.l0])
    | succ k1 =>
      have H := HA.out; clear HA; simp only [addr_stretch.l0] at H
      by_cases c2 : x5_1 < (a0.size : Int)
      case neg =>
        rw [if_neg c2] at H; have c2b0 : decide (x5_1 < (a0.size : Int)) = false := decide_eq_false c2; clear c2; simp only [Option.some.injEq, Prod.mk.injEq] at H; obtain ⟨rfl, rfl⟩ := H
        go_wp2
        go_ret2
        exact ⟨by first | rfl | (simp; done) | (simp [*]; done), by repeat (first | exact Drawn0.refl _ | apply Drawn0.step)⟩
      rw [if_pos c2] at H; have c2b0 : decide (x5_1 < (a0.size : Int)) = true := decide_eq_true c2; clear c2
      by_cases c3 : 0 ≤ x5_1
      case neg =>
        rw [if_neg c3] at H
        exact absurd H (by simp)
      rw [if_pos c3] at H; have c3b0 : decide (0 ≤ x5_1) = true := decide_eq_true c3; clear c3
      by_cases c5 : (bt a0 x5_1) = 92
      case pos =>
        rw [if_pos c5] at H; have c5b0 : ((bt a0 x5_1) == 92) = true := beq_iff_eq.mpr c5; have c5b1 : ((bt a0 x5_1) != 92) = false := bne_eq_false_iff_eq.mpr c5; clear c5; have H' := Aside0.mk H; clear H; have p4 : 0 ≤ (x5_1 : Int) := of_decide_eq_true (by first | (with_reducible assumption) | assumption); have q4 : x5_1 < (a0.size : Int) := of_decide_eq_true (by first | (with_reducible assumption) | assumption); have hx4 := bt_at a0 x5_1; replace p4 := eq_true p4; replace q4 := eq_true q4
        go_wp2
        go_roundg k1
        case measure => have := HK1.out; omega
        case rel => exact ⟨(x4_1), (wrap64 ((wrap64 (x5_1 + 1)) + 1)), (by first | rfl | (simp; done) | (simp [*]; done)), (by first | rfl | (simp; done) | (simp [*]; done)), H', ⟨by have := HK1.out; omega⟩, by repeat (first | exact Drawn0.refl _ | apply Drawn0.step)⟩
      rw [if_neg c5] at H; have c5b0 : ((bt a0 x5_1) == 92) = false := beq_eq_false_iff_ne.mpr c5; have c5b1 : ((bt a0 x5_1) != 92) = true := bne_iff_ne.mpr c5; have HC6 := Aside0.mk H; clear H; have p4 : 0 ≤ (x5_1 : Int) := of_decide_eq_true (by first | (with_reducible assumption) | assumption); have q4 : x5_1 < (a0.size : Int) := of_decide_eq_true (by first | (with_reducible assumption) | assumption); have hx4 := bt_at a0 x5_1; replace p4 := eq_true p4; replace q4 := eq_true q4
      go_upto_region 8 with (fail)
      go_cut [21] (fun v21 wc => ∃ (kq : Nat) (x21_5 : Bool), v21 = .bool x21_5 ∧ Aside0 (addr_stretch.j1 kq a0 x4_1 x5_1 (bt a0 x5_1) x21_5 = some (r1, r2)) ∧ Aside0 (kq ≤ k1) ∧ Drawn0 w wc)
      case first =>
        have H := HC6.out; clear HC6
        by_cases c7 : 0 < (a0.size : Int)
        case neg =>
          rw [if_neg c7] at H
          exact absurd H (by simp)
        rw [if_pos c7] at H; have c7b0 : decide (0 < (a0.size : Int)) = true := decide_eq_true c7; have c7b1 : decide (0 < a0.size) = true := decide_eq_true (by omega); clear c7
        (first | rw [c7b0] | (simp only [i64_w, i32_w]; rw [c7b0]) | skip)
        by_cases c9 : (bt a0 0) = 34
        case neg =>
          rw [if_neg c9] at H; have c9b0 : ((bt a0 0) == 34) = false := beq_eq_false_iff_ne.mpr c9; have c9b1 : ((bt a0 0) != 34) = true := bne_iff_ne.mpr c9; have H' := Aside0.mk H; clear H; have p8 : 0 ≤ (0 : Int) := (by omega); have q8 : 0 < a0.size := (by have : (0 : Int) < (a0.size : Int) := of_decide_eq_true (by first | (with_reducible assumption) | assumption); omega); have hx8 : ∀ h : 0 < a0.size, ((a0[0]'h).toNat : Int) = bt a0 0 := bt_at a0 0; clear p8; have qi8 : (0 < (a0.size : Int)) = True := eq_true (of_decide_eq_true (by first | (with_reducible assumption) | assumption)); replace q8 := eq_true q8
          go_wp2
          go_meet
          case rel => exact ⟨_, (false), (by first | rfl | (simp; done) | (simp [*]; done)), H', ⟨by have := HK1.out; first | omega | exact Nat.le_refl _⟩, by repeat (first | exact Drawn0.refl _ | apply Drawn0.step)⟩
        rw [if_pos c9] at H; have c9b0 : ((bt a0 0) == 34) = true := beq_iff_eq.mpr c9; have c9b1 : ((bt a0 0) != 34) = false := bne_eq_false_iff_eq.mpr c9; clear c9
        by_cases c10 : (bt a0 x5_1) = 34
        case neg =>
          rw [if_neg c10] at H; have c10b0 : ((bt a0 x5_1) == 34) = false := beq_eq_false_iff_ne.mpr c10; have c10b1 : ((bt a0 x5_1) != 34) = true := bne_iff_ne.mpr c10; have H' := Aside0.mk H; clear H; have p8 : 0 ≤ (0 : Int) := (by omega); have q8 : 0 < a0.size := (by have : (0 : Int) < (a0.size : Int) := of_decide_eq_true (by first | (with_reducible assumption) | assumption); omega); have hx8 : ∀ h : 0 < a0.size, ((a0[0]'h).toNat : Int) = bt a0 0 := bt_at a0 0; clear p8; have qi8 : (0 < (a0.size : Int)) = True := eq_true (of_decide_eq_true (by first | (with_reducible assumption) | assumption)); replace q8 := eq_true q8
          go_wp2
          go_meet
          case rel => exact ⟨_, (false), (by first | rfl | (simp; done) | (simp [*]; done)), H', ⟨by have := HK1.out; first | omega | exact Nat.le_refl _⟩, by repeat (first | exact Drawn0.refl _ | apply Drawn0.step)⟩
        rw [if_pos c10] at H; have c10b0 : ((bt a0 x5_1) == 34) = true := beq_iff_eq.mpr c10; have c10b1 : ((bt a0 x5_1) != 34) = false := bne_eq_false_iff_eq.mpr c10; clear c10; have H' := Aside0.mk H; clear H; have p8 : 0 ≤ (0 : Int) := (by omega); have q8 : 0 < a0.size := (by have : (0 : Int) < (a0.size : Int) := of_decide_eq_true (by first | (with_reducible assumption) | assumption); omega); have hx8 : ∀ h : 0 < a0.size, ((a0[0]'h).toNat : Int) = bt a0 0 := bt_at a0 0; clear p8; have qi8 : (0 < (a0.size : Int)) = True := eq_true (of_decide_eq_true (by first | (with_reducible assumption) | assumption)); replace q8 := eq_true q8
        go_wp2
        go_meet
        case rel => exact ⟨_, (decide (x5_1 > 0)), (by first | rfl | (simp; done) | (simp [*]; done)), H', ⟨by have := HK1.out; first | omega | exact Nat.le_refl _⟩, by repeat (first | exact Drawn0.refl _ | apply Drawn0.step)⟩
      case rest =>
        clear HC6; (try clear c1); (try clear c2); (try clear c2b0); (try clear p2); (try clear c3); (try clear c3b0); (try clear p4); (try clear q4); (try clear hx4); (try clear c5); (try clear c5b0); (try clear c5b1); (try clear c6); (try clear p6); (try clear c7); (try clear c7b0); (try clear c7b1); (try clear p8); (try clear q8); (try clear hx8); (try clear qi8); (try clear c9); (try clear c9b0); (try clear c9b1); (try clear c10); (try clear c10b0); (try clear c10b1); (try clear p4); (try clear p8); (try clear q4); (try clear q8); obtain ⟨kq, x21_5, rfl, HA, HJ5, ⟨mc5, rfl⟩⟩ := hcut
        cases kq with
        | zero => exact absurd HA.out (by simp [addr_stretch.j1])
        | succ kj5 =>
          have H := HA.out; clear HA; simp only [addr_stretch.j1] at H
          by_cases c11 : x21_5 = true
          case pos =>
            subst c11
            have H1 : (some (wrap64 (x5_1 + 1), true)) = some (r1, r2) := by rw [if_pos rfl] at H; exact H
            clear H; have H := H1; clear H1; simp only [Option.some.injEq, Prod.mk.injEq] at H; obtain ⟨rfl, rfl⟩ := H
            go_wp2
            go_ret2
            exact ⟨by first | rfl | (simp; done) | (simp [*]; done), by repeat (first | exact Drawn0.refl _ | apply Drawn0.step)⟩
          replace c11 := Bool.eq_false_iff.mpr c11; subst c11
          have H1 : (if 0 < (a0.size : Int) then (if (bt a0 0) = 40 then (addr_stretch.j2 kj5 a0 x4_1 x5_1 (bt a0 x5_1) ((bt a0 x5_1) == 40)) else (addr_stretch.j2 kj5 a0 x4_1 x5_1 (bt a0 x5_1) false)) else (none)) = some (r1, r2) := by rw [if_neg (show ¬ (false = true) by decide)] at H; exact H
          clear H; have H := H1; clear H1; have HC12 := Aside0.mk H; clear H
          go_upto_region 10 with (fail)
          go_cut [35] (fun v35 wc => ∃ (kq : Nat) (x35_11 : Bool), v35 = .bool x35_11 ∧ Aside0 (addr_stretch.j2 kq a0 x4_1 x5_1 (bt a0 x5_1) x35_11 = some (r1, r2)) ∧ Aside0 (kq ≤ kj5) ∧ Drawn0 w wc)
          case first =>
            have H := HC12.out; clear HC12
            by_cases c13 : 0 < (a0.size : Int)
            case neg =>
              rw [if_neg c13] at H
              exact absurd H (by simp)
            rw [if_pos c13] at H; have c13b0 : decide (0 < (a0.size : Int)) = true := decide_eq_true c13; have c13b1 : decide (0 < a0.size) = true := decide_eq_true (by omega); clear c13
            (first | rw [c13b0] | (simp only [i64_w, i32_w]; rw [c13b0]) | skip)
            by_cases c15 : (bt a0 0) = 40
            case neg =>
              rw [if_neg c15] at H; have c15b0 : ((bt a0 0) == 40) = false := beq_eq_false_iff_ne.mpr c15; have c15b1 : ((bt a0 0) != 40) = true := bne_iff_ne.mpr c15; have H' := Aside0.mk H; clear H; have p14 : 0 ≤ (0 : Int) := (by omega); have q14 : 0 < a0.size := (by have : (0 : Int) < (a0.size : Int) := of_decide_eq_true (by first | (with_reducible assumption) | assumption); omega); have hx14 : ∀ h : 0 < a0.size, ((a0[0]'h).toNat : Int) = bt a0 0 := bt_at a0 0; clear p14; have qi14 : (0 < (a0.size : Int)) = True := eq_true (of_decide_eq_true (by first | (with_reducible assumption) | assumption)); replace q14 := eq_true q14
              go_wp2
              go_meet
              case rel => exact ⟨_, (false), (by first | rfl | (simp; done) | (simp [*]; done)), H', ⟨by have := HK1.out; have := HJ5.out; first | omega | exact Nat.le_refl _⟩, by repeat (first | exact Drawn0.refl _ | apply Drawn0.step)⟩
            rw [if_pos c15] at H; have c15b0 : ((bt a0 0) == 40) = true := beq_iff_eq.mpr c15; have c15b1 : ((bt a0 0) != 40) = false := bne_eq_false_iff_eq.mpr c15; clear c15; have H' := Aside0.mk H; clear H; have p14 : 0 ≤ (0 : Int) := (by omega); have q14 : 0 < a0.size := (by have : (0 : Int) < (a0.size : Int) := of_decide_eq_true (by first | (with_reducible assumption) | assumption); omega); have hx14 : ∀ h : 0 < a0.size, ((a0[0]'h).toNat : Int) = bt a0 0 := bt_at a0 0; clear p14; have qi14 : (0 < (a0.size : Int)) = True := eq_true (of_decide_eq_true (by first | (with_reducible assumption) | assumption)); replace q14 := eq_true q14
            go_wp2
            go_meet
            case rel => exact ⟨_, (((bt a0 x5_1) == 40)), (by first | rfl | (simp; done) | (simp [*]; done)), H', ⟨by have := HK1.out; have := HJ5.out; first | omega | exact Nat.le_refl _⟩, by repeat (first | exact Drawn0.refl _ | apply Drawn0.step)⟩
          case rest =>
            clear HC12; (try clear c1); (try clear p1); (try clear q1); (try clear hx1); (try clear qi1); (try clear c2); (try clear c2b0); (try clear p2); (try clear c3); (try clear c3b0); (try clear p4); (try clear q4); (try clear hx4); (try clear c5); (try clear c5b0); (try clear c5b1); (try clear c6); (try clear p6); (try clear c7); (try clear c7b0); (try clear c7b1); (try clear p8); (try clear q8); (try clear hx8); (try clear qi8); (try clear c9); (try clear c9b0); (try clear c9b1); (try clear c10); (try clear c10b0); (try clear c10b1); (try clear c11); (try clear c13); (try clear c13b0); (try clear c13b1); (try clear p14); (try clear q14); (try clear hx14); (try clear qi14); (try clear c15); (try clear c15b0); (try clear c15b1); (try clear p14); (try clear p2); (try clear p4); (try clear p6); (try clear p8); (try clear q14); (try clear q4); (try clear q8); obtain ⟨kq, x35_11, rfl, HA, HJ11, ⟨mc11, rfl⟩⟩ := hcut
            cases kq with
            | zero => exact absurd HA.out (by simp [addr_stretch.j2])
            | succ kj11 =>
              have H := HA.out; clear HA; simp only [addr_stretch.j2] at H
              by_cases c16 : x35_11 = true
              case pos =>
                subst c16
                have H1 : (addr_stretch.l0 kj11 a0 (wrap64 (x4_1 + 1)) (wrap64 (x5_1 + 1))) = some (r1, r2) := by rw [if_pos rfl] at H; exact H
                clear H; have H := H1; clear H1; have H' := Aside0.mk H; clear H
                go_wp2
                go_roundg kj11
                case measure => have := HK1.out; have := HJ5.out; have := HJ11.out; omega
                case rel => exact ⟨(wrap64 (x4_1 + 1)), (wrap64 (x5_1 + 1)), (by first | rfl | (simp; done) | (simp [*]; done)), (by first | rfl | (simp; done) | (simp [*]; done)), H', ⟨by have := HK1.out; have := HJ5.out; have := HJ11.out; omega⟩, by repeat (first | exact Drawn0.refl _ | apply Drawn0.step)⟩
              replace c16 := Bool.eq_false_iff.mpr c16; subst c16
              have H1 : (if 0 < (a0.size : Int) then (if (bt a0 0) = 40 then (addr_stretch.j3 kj11 a0 x4_1 x5_1 ((bt a0 x5_1) == 41)) else (addr_stretch.j3 kj11 a0 x4_1 x5_1 false)) else (none)) = some (r1, r2) := by rw [if_neg (show ¬ (false = true) by decide)] at H; exact H
              clear H; have H := H1; clear H1; have HC17 := Aside0.mk H; clear H
              go_upto_region 12 with (fail)
              go_cut [45] (fun v45 wc => ∃ (kq : Nat) (x45_16 : Bool), v45 = .bool x45_16 ∧ Aside0 (addr_stretch.j3 kq a0 x4_1 x5_1 x45_16 = some (r1, r2)) ∧ Aside0 (kq ≤ kj11) ∧ Drawn0 w wc)
              case first =>
                have H := HC17.out; clear HC17
                by_cases c18 : 0 < (a0.size : Int)
                case neg =>
                  rw [if_neg c18] at H
                  exact absurd H (by simp)
                rw [if_pos c18] at H; have c18b0 : decide (0 < (a0.size : Int)) = true := decide_eq_true c18; have c18b1 : decide (0 < a0.size) = true := decide_eq_true (by omega); clear c18
                (first | rw [c18b0] | (simp only [i64_w, i32_w]; rw [c18b0]) | skip)
                by_cases c20 : (bt a0 0) = 40
                case neg =>
                  rw [if_neg c20] at H; have c20b0 : ((bt a0 0) == 40) = false := beq_eq_false_iff_ne.mpr c20; have c20b1 : ((bt a0 0) != 40) = true := bne_iff_ne.mpr c20; have H' := Aside0.mk H; clear H; have p19 : 0 ≤ (0 : Int) := (by omega); have q19 : 0 < a0.size := (by have : (0 : Int) < (a0.size : Int) := of_decide_eq_true (by first | (with_reducible assumption) | assumption); omega); have hx19 : ∀ h : 0 < a0.size, ((a0[0]'h).toNat : Int) = bt a0 0 := bt_at a0 0; clear p19; have qi19 : (0 < (a0.size : Int)) = True := eq_true (of_decide_eq_true (by first | (with_reducible assumption) | assumption)); replace q19 := eq_true q19
                  go_wp2
                  go_meet
                  case rel => exact ⟨_, (false), (by first | rfl | (simp; done) | (simp [*]; done)), H', ⟨by have := HK1.out; have := HJ5.out; have := HJ11.out; first | omega | exact Nat.le_refl _⟩, by repeat (first | exact Drawn0.refl _ | apply Drawn0.step)⟩
                rw [if_pos c20] at H; have c20b0 : ((bt a0 0) == 40) = true := beq_iff_eq.mpr c20; have c20b1 : ((bt a0 0) != 40) = false := bne_eq_false_iff_eq.mpr c20; clear c20; have H' := Aside0.mk H; clear H; have p19 : 0 ≤ (0 : Int) := (by omega); have q19 : 0 < a0.size := (by have : (0 : Int) < (a0.size : Int) := of_decide_eq_true (by first | (with_reducible assumption) | assumption); omega); have hx19 : ∀ h : 0 < a0.size, ((a0[0]'h).toNat : Int) = bt a0 0 := bt_at a0 0; clear p19; have qi19 : (0 < (a0.size : Int)) = True := eq_true (of_decide_eq_true (by first | (with_reducible assumption) | assumption)); replace q19 := eq_true q19
                go_wp2
                go_meet
                case rel => exact ⟨_, (((bt a0 x5_1) == 41)), (by first | rfl | (simp; done) | (simp [*]; done)), H', ⟨by have := HK1.out; have := HJ5.out; have := HJ11.out; first | omega | exact Nat.le_refl _⟩, by repeat (first | exact Drawn0.refl _ | apply Drawn0.step)⟩
              case rest =>
                clear HC17; (try clear c1); (try clear p1); (try clear q1); (try clear hx1); (try clear qi1); (try clear c2); (try clear c2b0); (try clear p2); (try clear c3); (try clear c3b0); (try clear p4); (try clear q4); (try clear hx4); (try clear c5); (try clear c5b0); (try clear c5b1); (try clear c6); (try clear p6); (try clear c7); (try clear c7b0); (try clear c7b1); (try clear p8); (try clear q8); (try clear hx8); (try clear qi8); (try clear c9); (try clear c9b0); (try clear c9b1); (try clear c10); (try clear c10b0); (try clear c10b1); (try clear c11); (try clear c13); (try clear c13b0); (try clear c13b1); (try clear p14); (try clear q14); (try clear hx14); (try clear qi14); (try clear c15); (try clear c15b0); (try clear c15b1); (try clear c16); (try clear c18); (try clear c18b0); (try clear c18b1); (try clear p19); (try clear q19); (try clear hx19); (try clear qi19); (try clear c20); (try clear c20b0); (try clear c20b1); (try clear p1); (try clear p14); (try clear p19); (try clear p2); (try clear p4); (try clear p6); (try clear p8); (try clear q1); (try clear q14); (try clear q19); (try clear q4); (try clear q8); obtain ⟨kq, x45_16, rfl, HA, HJ16, ⟨mc16, rfl⟩⟩ := hcut
                cases kq with
                | zero => exact absurd HA.out (by simp [addr_stretch.j3])
                | succ kj16 =>
                  have H := HA.out; clear HA; simp only [addr_stretch.j3] at H
                  by_cases c21 : x45_16 = true
                  case neg =>
                    replace c21 := Bool.eq_false_iff.mpr c21; subst c21
                    have H1 : (addr_stretch.l0 kj16 a0 x4_1 (wrap64 (x5_1 + 1))) = some (r1, r2) := by rw [if_neg (show ¬ (false = true) by decide)] at H; exact H
                    clear H; have H := H1; clear H1; have H' := Aside0.mk H; clear H
                    go_wp2
                    go_roundg kj16
                    case measure => have := HK1.out; have := HJ5.out; have := HJ11.out; have := HJ16.out; omega
                    case rel => exact ⟨(x4_1), (wrap64 (x5_1 + 1)), (by first | rfl | (simp; done) | (simp [*]; done)), (by first | rfl | (simp; done) | (simp [*]; done)), H', ⟨by have := HK1.out; have := HJ5.out; have := HJ11.out; have := HJ16.out; omega⟩, by repeat (first | exact Drawn0.refl _ | apply Drawn0.step)⟩
                  subst c21
                  have H1 : (if (wrap64 (x4_1 - 1)) = 0 then (some (wrap64 (x5_1 + 1), true)) else (addr_stretch.l0 kj16 a0 (wrap64 (x4_1 - 1)) (wrap64 (x5_1 + 1)))) = some (r1, r2) := by rw [if_pos rfl] at H; exact H
                  clear H; have H := H1; clear H1
                  by_cases c22 : (wrap64 (x4_1 - 1)) = 0
                  case pos =>
                    rw [if_pos c22] at H; have c22b0 : ((wrap64 (x4_1 - 1)) == 0) = true := beq_iff_eq.mpr c22; have c22b1 : ((wrap64 (x4_1 - 1)) != 0) = false := bne_eq_false_iff_eq.mpr c22; clear c22; simp only [Option.some.injEq, Prod.mk.injEq] at H; obtain ⟨rfl, rfl⟩ := H
                    go_wp2
                    go_ret2
                    exact ⟨by first | rfl | (simp; done) | (simp [*]; done), by repeat (first | exact Drawn0.refl _ | apply Drawn0.step)⟩
                  rw [if_neg c22] at H; have c22b0 : ((wrap64 (x4_1 - 1)) == 0) = false := beq_eq_false_iff_ne.mpr c22; have c22b1 : ((wrap64 (x4_1 - 1)) != 0) = true := bne_iff_ne.mpr c22; have H' := Aside0.mk H; clear H
                  go_wp2
                  go_roundg kj16
                  case measure => have := HK1.out; have := HJ5.out; have := HJ11.out; have := HJ16.out; omega
                  case rel => exact ⟨(wrap64 (x4_1 - 1)), (wrap64 (x5_1 + 1)), (by first | rfl | (simp; done) | (simp [*]; done)), (by first | rfl | (simp; done) | (simp [*]; done)), H', ⟨by have := HK1.out; have := HJ5.out; have := HJ11.out; have := HJ16.out; omega⟩, by repeat (first | exact Drawn0.refl _ | apply Drawn0.step)⟩
end Go.Proofs.YtpcncpegbboljaaGreatDoor.A
