/- Quoted-printable: the pure statement of QpLines: rows of what is encoded. -/
import Derived.Test.YtjmeoplajfmieaaDoorPure02
namespace Go.Proofs.YtjmeoplajfmieaaDoor.Pure
open Go.RowKit Go.Lib Go.Proofs.YtjmeoplajfmieaaDoor Go.Proofs.YtjmeoplajfmieaaDoor.P Go.Proofs.YtjmeoplajfmieaaDoorW.PrintWords Go.Proofs.YtjmeoplajfmieaaDoorW.PrintLast
set_option linter.unusedVariables false
set_option linter.unusedSimpArgs false
/-- A sign that may stand in a row. -/
def okC (c : UInt8) : Prop := 32 ≤ c.toNat ∧ c.toNat ≤ 126
/-- Rows of at most 78 signs each, n signs of the first gone. -/
def okRows : Nat → List UInt8 → Prop
  | n, [] => True
  | n, c :: r => if c.toNat = 10 then okRows 0 r else okC c ∧ n + 1 ≤ 78 ∧ okRows (n + 1) r
theorem okRows_append (x y : List UInt8) : ∀ n, (∀ c ∈ x, okC c) → n + x.length ≤ 78 → okRows (n + x.length) y → okRows n (x ++ y) := by
  induction x with
  | nil => intro n _ _ h; exact h
  | cons c r ih =>
    intro n h1 h2 h3
    have hc := h1 c (by simp)
    show (if c.toNat = 10 then _ else _)
    rw [if_neg (by have := hc.1; omega)]
    simp only [List.length_cons] at h2 h3
    exact ⟨hc, by omega, ih (n + 1) (fun x hx => h1 x (by simp [hx])) (by omega) (by rw [show n + 1 + r.length = n + (r.length + 1) from by omega]; exact h3)⟩
theorem hexD_ok : ∀ n : Fin 16, okC (hexD n.val) := by unfold okC; decide
theorem tok_ok (c : UInt8) (b : Bool) : ∀ x ∈ tokL c b, okC x := by
  have h256 := UInt8.toNat_lt c
  intro x hx
  unfold tokL at hx
  split at hx
  · rename_i hp
    simp only [plainB, decide_eq_true_eq] at hp
    simp only [List.mem_singleton] at hx
    rw [hx]
    exact ⟨hp.1, hp.2.1⟩
  · simp only [List.mem_cons, List.not_mem_nil, or_false] at hx
    rcases hx with rfl | rfl | rfl
    · exact ⟨by decide, by decide⟩
    · exact hexD_ok ⟨c.toNat / 16, by omega⟩
    · exact hexD_ok ⟨c.toNat % 16, by omega⟩
theorem short_ok (row : List UInt8) (h : ∀ x ∈ row, okC x) : ∀ x ∈ shortL row, okC x := by
  intro x hx
  unfold shortL at hx
  split at hx
  · rcases List.mem_append.1 hx with h1 | h1
    · exact h x (List.mem_of_mem_take h1)
    · simp only [List.mem_cons, List.not_mem_nil, or_false] at h1
      rcases h1 with rfl | rfl | rfl <;> exact ⟨by decide, by decide⟩
  · exact h x hx
theorem enc_rows : ∀ (l row : List UInt8), (∀ x ∈ row, okC x) → row.length ≤ 75 → okRows 0 (encGo l row)
  | [], row, h1, h2 => by
    have := okRows_append row [] 0 h1 (by omega) trivial
    rw [List.append_nil] at this
    exact this
  | c :: r, row, h1, h2 => by
    have ht := tok_ok c r.isEmpty
    have hl := tokL_len c r.isEmpty
    have hs := shortL_len row
    simp only [encGo]
    split
    · rw [List.append_assoc]
      refine okRows_append _ _ 0 (short_ok row h1) (by omega) ?_
      show okRows _ (61 :: 10 :: encGo r (tokL c r.isEmpty))
      show (if (61 : UInt8).toNat = 10 then _ else _)
      rw [if_neg (by decide)]
      refine ⟨⟨by decide, by decide⟩, by omega, ?_⟩
      show (if (10 : UInt8).toNat = 10 then _ else _)
      rw [if_pos (by decide)]
      exact enc_rows r _ ht (by omega)
    · refine enc_rows r _ ?_ (by rw [List.length_append]; omega)
      intro x hx
      rcases List.mem_append.1 hx with h | h
      · exact h1 x h
      · exact ht x h
/-- Four signs for each byte, and four more. -/
theorem enc_len4 : ∀ (l row : List UInt8), row.length ≤ 75 → (encGo l row).length * 18 ≤ 19 * row.length + 64 * l.length + 72 := by
  intro l
  induction l with
  | nil => intro row h; simp only [encGo, List.length_nil]; omega
  | cons c r ih =>
    intro row h
    have hl := tokL_len c r.isEmpty
    have hs := shortL_len row
    simp only [encGo]
    split
    · rename_i h75
      have := ih (tokL c r.isEmpty) (by omega)
      simp only [List.length_append, List.length_cons, List.length_nil]
      omega
    · have := ih (row ++ tokL c r.isEmpty) (by rw [List.length_append]; omega)
      simp only [List.length_append, List.length_cons] at this ⊢
      omega
theorem lines_loop (a : ByteArray) (ha : a.size ≤ 3000) (t : ByteArray) (ht : t.size ≤ 4 * a.size + 4) : ∀ (m i n : Nat), t.size - i ≤ m → i ≤ t.size → n ≤ 78 → okRows n (t.data.toList.drop i) → Ev (fun k => muslinlaw02_QpLines.l0 k a t (n : Int) (i : Int)) true := by
  have fin : ∀ i n : Nat, t.size ≤ i → Ev (fun k => muslinlaw02_QpLines.l0 k a t (n : Int) (i : Int)) true := by
    intro i n hi
    refine Ev.round (fun k => by rw [muslinlaw02_QpLines.l0]) ?_
    refine Ev.neg (by omega) ?_
    rw [w64 (x := 4 * (a.size : Int)) (by omega) (by omega), w64 (x := 4 * (a.size : Int) + 4) (by omega) (by omega)]
    refine Ev.pos (by omega) ?_
    exact live_end
  intro m
  induction m with
  | zero => intro i n h1 h2 h3 h4; exact fin i n (by omega)
  | succ m ih =>
    intro i n h1 h2 h3 h4
    cases hd : t.data.toList.drop i with
    | nil => exact fin i n (at_end hd)
    | cons c r =>
      obtain ⟨hb, hz, hr⟩ := at_drop hd
      rw [hd] at h4
      have h5 : if c.toNat = 10 then okRows 0 r else okC c ∧ n + 1 ≤ 78 ∧ okRows (n + 1) r := h4
      refine Ev.round (fun k => by rw [muslinlaw02_QpLines.l0]) ?_
      refine Ev.pos (by omega) ?_
      refine Ev.pos (by omega) ?_
      rw [hb, w64 (x := (i : Int) + 1) (by omega) (by omega), w64 (x := (n : Int) + 1) (by omega) (by omega), show ((i : Int) + 1) = ((i + 1 : Nat) : Int) from by omega, show ((n : Int) + 1) = ((n + 1 : Nat) : Int) from by omega]
      by_cases h10 : c.toNat = 10
      · rw [if_pos h10] at h5
        refine Ev.pos (by omega) ?_
        exact ih (i + 1) 0 (by omega) (by omega) (by omega) (by rw [hr]; exact h5)
      · rw [if_neg h10] at h5
        obtain ⟨⟨p1, p2⟩, p3, p4⟩ := h5
        refine Ev.neg (by omega) ?_
        refine Ev.neg (by omega) ?_
        refine Ev.neg (by omega) ?_
        refine Ev.neg (by omega) ?_
        exact ih (i + 1) (n + 1) (by omega) (by omega) p3 (by rw [hr]; exact p4)
theorem QpLines : muslinlaw02_QpLines.Pure := by
  intro a _
  refine Ev.rounds (r := true) (g := fun k => muslinlaw02_QpLines.f k a) ?_
  unfold muslinlaw02_QpLines.f
  by_cases h : a.size ≤ 3000
  · refine Ev.got (short_yes a h) ?_
    refine Ev.pos rfl ?_
    refine Ev.got (x := qp_Encode.f a) (guard_of (by omega)) ?_
    have hl := enc_len4 a.data.toList [] (by simp)
    simp only [List.length_nil, sizeL] at hl
    refine lines_loop a h _ ?_ (qpEnc a.data.toList).length 0 0 (by rw [mk_size]; omega) (by omega) (by omega) ?_
    · rw [mk_size]; unfold qpEnc; omega
    · rw [List.drop_zero, mk_toList]
      exact enc_rows a.data.toList [] (by simp) (by simp)
  · refine Ev.got (short_no a h) ?_
    refine Ev.neg Bool.false_ne_true ?_
    exact live_end
end Go.Proofs.YtjmeoplajfmieaaDoor.Pure
