/- Parts of the proof of the law WordDecodes, in one text: Any, WordO, WordD, WordE, R0, Pure05a, WordX, P0. -/
import Derived.Test.YtokkgjiofhhlkaaDoorMgWordDecodes8
import Derived.WalkMore
import Derived.Shelf.Spec.BytesMap
set_option linter.unusedVariables false
set_option linter.unusedSimpArgs false
namespace Go.Proofs.YtokkgjiofhhlkaaDoor
open Go.RowKit Go.Shelf Go.Lib
set_option linter.unusedVariables false
set_option linter.unusedSimpArgs false
set_option maxHeartbeats 2000000 in
set_option maxRecDepth 1000000 in
theorem indexRune_bad (s : ByteArray) (ha : ∀ b ∈ s.data.toList, b.toNat < 128) (w : World) :
    Calls Tryd.prog 79 #[.string s, .int .i32 65533] w fun e w' => e = .returned (.int .i64 (-1)) ∧ Below w.heap.size w w' := by
  have HA := Lib.hid ha
  clear ha
  go_enter Tryd.func79, Tryd.ntmps79
  go_wp2
  go_loopw [] (fun wr => ∃ pos : Nat, wr.heap[w.heap.size]? = some (.stringIter s pos) ∧ Below w.heap.size w wr) (fun wr => s.size - wr.iterPos w.heap.size)
  case atStart =>
    refine ⟨0, ?_, (Below.refl _ w).alloc (Nat.le_refl _) _⟩
    exact World.iter_heap w s 0
  case round =>
    obtain ⟨pos, hit, hbw⟩ := hrel
    by_cases hp : pos < s.size
    · have hnx : ∀ ty, (Instr.next (.pointer (some ⟨w.heap.size, 0, none⟩)) true ty).run Tryd.prog wr = _ := fun ty => Lib.run_next_any_at wr w.heap.size s pos ty hit hp
      have hb : (s[pos]'hp).toNat < 128 := HA.out _ (by show s.data[pos] ∈ s.data.toList; simp)
      rw [decode_ascii s pos hp hb] at hnx
      simp only at hnx
      generalize (s[pos]'hp).toNat = c at *
      have c1 : ¬ ((c : Nat) : Int) = 65533 := by omega
      have hit2 := Lib.iterAt_heap wr w.heap.size s pos (pos + 1) hit
      have hbw2 := Lib.below_iterAt hbw (k := w.heap.size) (by omega) s (pos + 1)
      go_wp2
      go_roundw
      case rel => exact ⟨pos + 1, hit2, hbw2⟩
      case measure =>
        simp only [World.iterPos, hit2, hit]
        omega
    · have hnx : ∀ ty, (Instr.next (.pointer (some ⟨w.heap.size, 0, none⟩)) true ty).run Tryd.prog wr = _ := fun ty => Lib.run_next_end_at wr w.heap.size s pos ty hit hp
      go_wp2
      go_ret
      exact ⟨rfl, hbw⟩
theorem index_none : ∀ (l : List UInt8) (c : UInt8), (∀ b ∈ l, b.toNat < 128) → 128 ≤ c.toNat → Lib.indexByte l c = -1
  | [], _, _, _ => rfl
  | b :: l, c, h, hc => by
    have hb := h b (by simp)
    have hne : (b == c) = false := by
      apply beq_eq_false_iff_ne.2
      rintro rfl
      omega
    have ih := index_none l c (fun x hx => h x (by simp [hx])) hc
    simp [Lib.indexByte, hne, ih]
theorem mem_extract {s : ByteArray} {a b : Nat} {x : UInt8} (h : x ∈ (s.extract a b).data.toList) : x ∈ s.data.toList := by
  rw [ByteArray.data_extract, Array.toList_extract] at h
  exact List.mem_of_mem_drop (List.mem_of_mem_take h)
theorem u8_back (c : UInt8) : ((c.toNat : Int).toNat).toUInt8 = c := by
  show UInt8.ofNat c.toNat = c
  simp
set_option maxHeartbeats 2000000 in
set_option maxRecDepth 1000000 in
theorem indexRune_high (s : ByteArray) (ha : ∀ b ∈ s.data.toList, b.toNat < 128) (hs : 4 ≤ s.size) (hs2 : s.size ≤ 1000) (r : Int) (h0 : 128 ≤ r) (h1 : r ≤ 2147483647) (hr : r ≠ 65533) (w : World) :
    Calls Tryd.prog 79 #[.string s, .int .i32 r] w fun e w' => e = .returned (.int .i64 (-1)) ∧ Below w.heap.size w w' := by
  have HA := Lib.hid ha
  clear ha
  by_cases hv : Lib.validRune r = true
  · have HV := Lib.hid hv
    clear hv
    have hu : Utf8.valid r = true := by
      have := HV.out
      simp [Lib.validRune, Utf8.valid] at this ⊢
      omega
    obtain ⟨g1, g2, g3⟩ := encode_facts r hu h0
    have hcv : ∀ W, (convert 21 9 (.int .i32 r)).run Tryd.prog W = .ok (.string (Utf8.encode r)) W := fun W => run_convert_int_string W _ _ _ _ (by rw [Tryd.underlying21]; rfl) Tryd.underlying9
    generalize Utf8.encode r = rs at *
    have i1 : rs.size - 1 < s.size := by omega
    have i2 : ((rs.size : Int) - 1) < (s.size : Int) := by omega
    have i3 : rs.size - 1 < rs.size := by omega
    have i4 : ((rs.size : Int) - 1) < (rs.size : Int) := by omega
    have j1 : (s[rs.size - 1]'i1).toNat < 128 := HA.out _ (by show s.data[rs.size - 1] ∈ s.data.toList; simp)
    have j2 : 128 ≤ (rs[rs.size - 1]'i3).toNat := g3 i3
    generalize hm : rs.size - 1 = m at *
    have hrs : rs.size = m + 1 := by omega
    have i7 : (rs.size : Int) - 1 = (m : Int) := by omega
    have HRS := Lib.hid hrs; have I4 := Lib.hid i4
    clear hrs i4 i2
    go_enter Tryd.func79, Tryd.ntmps79
    go_wp2_with (go_at_call 98; refine (Tryd.utf8_ValidRune r _).mono ?_; rintro e W1 ⟨rfl, rfl⟩; rw [HV.out])
    go_step3
    go_wp2_with fail
    go_loopw [9] (fun i wr => i = .int .i64 (m : Int) ∧ wr = W1) (fun _ _ => 0)
    case atStart => exact ⟨rfl, rfl⟩
    case round =>
      obtain ⟨rfl, rfl⟩ := hrel
      have i5 : (m : Int) < (s.size : Int) := by omega
      have i6 : (m : Int) < (rs.size : Int) := by omega
      go_wp2_with fail
      go_step3
      go_wp2_with fail
      go_quiet (fail)
      go_wp2_with fail
      have k1 : ∀ a b W, Calls Tryd.prog 51 #[.string (s.extract a b), .int .u8 (rs[m].toNat : Int)] W fun e w' => e = .returned (.int .i64 (-1)) ∧ w' = W := fun a b W =>
        (Tryd.strings_IndexByte _ _ W).mono (by rintro e W2 ⟨rfl, rfl⟩; rw [u8_back, index_none _ _ (fun x hx => HA.out x (mem_extract hx)) j2]; exact ⟨rfl, rfl⟩)
      have K1 := Lib.hid k1
      clear k1
      have i8 : m + 1 ≤ s.size := by omega
      have i9 : (m : Int) + 1 ≤ (s.size : Int) := by omega
      have i10 : IntKind.i64.wrap ((m : Int) + 1) = (m : Int) + 1 := wrap_small _ (by omega) (by omega)
      have i11 : (0 : Int) ≤ (m : Int) + 1 := by omega
      have hsl : ∀ W, (Instr.slice 9 (.string s) (some (.int .i64 ((m : Int) + 1))) none none).run Tryd.prog W = .ok (.string (s.extract (m + 1) s.size)) W := fun W => by
        rw [run_slice_string_l W 9 s Tryd.underlying9 .i64 _ i11 i9]
        rfl
      go_quiet ((go_at_call 51; refine (K1.out _ _ _).mono ?_; rintro e W ⟨rfl, rfl⟩; exact ⟨rfl, _, rfl⟩))
      go_wp2_with fail
      rw [Exit.noGoto_ret]
      repeat (change Exit.noGoto _ Exit.ret _ _; rw [Exit.noGoto_ret])
      change bodyPost Tryd.prog Tryd.f79 _ Exit.ret _ _
      go_ret
      exact ⟨rfl, bdrewN (Below.refl _ _) _⟩
  · have HV := Lib.hid (Bool.eq_false_iff.2 hv)
    clear hv
    go_enter Tryd.func79, Tryd.ntmps79
    go_wp2_with (go_at_call 98; refine (Tryd.utf8_ValidRune r _).mono ?_; rintro e W1 ⟨rfl, rfl⟩; rw [HV.out])
    go_ret
    exact ⟨rfl, Below.refl _ _⟩
def idxRune (chars : List UInt8) (r : Nat) : Int := if r < 128 then Lib.indexByte chars r.toUInt8 else -1
theorem indexRune_any (chars : ByteArray) (ha : ∀ b ∈ chars.data.toList, b.toNat < 128) (h4 : 4 ≤ chars.size) (h5 : chars.size ≤ 1000) (r : Nat) (hr : r ≤ 2147483647) (w : World) :
    Calls Tryd.prog 79 #[.string chars, .int .i32 (r : Int)] w fun e w' => e = .returned (.int .i64 (idxRune chars.data.toList r)) ∧ Below w.heap.size w w' := by
  by_cases h : r < 128
  · refine (Tryd.strings_IndexRune_ascii _ (r : Int) w (by omega) (by omega)).mono ?_
    rintro e w' ⟨rfl, rfl⟩
    unfold idxRune
    rw [if_pos h]
    exact ⟨rfl, Below.refl _ _⟩
  · unfold idxRune
    rw [if_neg h]
    by_cases h2 : r = 65533
    · subst h2
      exact indexRune_bad _ ha w
    · exact indexRune_high _ ha h4 h5 _ (by omega) (by omega) (by omega) w
theorem enc_high (r : Int) (h : 128 ≤ r) : ∀ b ∈ Lib.encodeRune r, 128 ≤ b.toNat := by
  intro b hb
  by_cases h1 : r ≤ 2047
  · rw [enc_two h h1] at hb
    rcases List.mem_cons.1 hb with rfl | hb
    · rw [toU8 (by omega) (by omega)]; omega
    · rcases List.mem_cons.1 hb with rfl | hb
      · rw [toU8 (by omega) (by omega)]; omega
      · simp at hb
  · by_cases h2 : (2048 ≤ r ∧ r < 55296) ∨ (57343 < r ∧ r ≤ 65535)
    · rw [enc_three h2] at hb
      rcases List.mem_cons.1 hb with rfl | hb
      · rw [toU8 (by omega) (by omega)]; omega
      · rcases List.mem_cons.1 hb with rfl | hb
        · rw [toU8 (by omega) (by omega)]; omega
        · rcases List.mem_cons.1 hb with rfl | hb
          · rw [toU8 (by omega) (by omega)]; omega
          · simp at hb
    · by_cases h3 : 65536 ≤ r ∧ r ≤ 1114111
      · rw [enc_four h3.1 h3.2] at hb
        rcases List.mem_cons.1 hb with rfl | hb
        · rw [toU8 (by omega) (by omega)]; omega
        · rcases List.mem_cons.1 hb with rfl | hb
          · rw [toU8 (by omega) (by omega)]; omega
          · rcases List.mem_cons.1 hb with rfl | hb
            · rw [toU8 (by omega) (by omega)]; omega
            · rcases List.mem_cons.1 hb with rfl | hb
              · rw [toU8 (by omega) (by omega)]; omega
              · simp at hb
      · rw [enc_bad (by omega)] at hb
        have : ∀ b ∈ ([239, 191, 189] : List UInt8), 128 ≤ b.toNat := by decide
        exact this b hb
theorem dec_highs (l : List UInt8) (hl : l ≠ []) (h : 128 ≤ byteAt l 0) : 128 ≤ (uDec l).1 ∧ ∀ b ∈ l.take (uDec l).2, 128 ≤ b.toNat := by
  rcases dec_cases l hl with ⟨_, e, _⟩ | ⟨_, h1, _, h2, hv, he⟩
  · rw [e]
    refine ⟨by simp, fun b hb => ?_⟩
    cases l with
    | nil => exact absurd rfl hl
    | cons c r =>
      simp only [List.take_succ_cons, List.take_zero, List.mem_singleton] at hb
      subst hb; exact h
  · have h128 : 128 ≤ (uDec l).1 := by
      rcases Nat.lt_or_ge (uDec l).1 128 with hlt | hge
      · rw [enc_one (by omega) (by omega)] at he
        cases l with
        | nil => exact absurd rfl hl
        | cons c r =>
          obtain ⟨k, hk⟩ : ∃ k, (uDec (c :: r)).2 = k + 1 := ⟨(uDec (c :: r)).2 - 1, by omega⟩
          rw [hk, List.take_succ_cons] at he
          injection he with he _
          have hb : byteAt (c :: r) 0 = c.toNat := rfl
          rw [hb, ← he, toU8 (by omega) (by omega)] at h
          omega
      · exact hge
    refine ⟨h128, fun b hb => ?_⟩
    rw [← he] at hb
    exact enc_high _ (by omega) b hb
theorem any_iff_index (s chars : List UInt8) : decide (0 ≤ Lib.indexAny s chars) = s.any chars.contains := by
  induction s with
  | nil => rfl
  | cons b l ih =>
    have hge := Lib.indexAny_ge chars l
    rw [Lib.indexAny, List.any_cons]
    cases h : chars.contains b with
    | true => simp
    | false =>
      rw [if_neg Bool.false_ne_true, Bool.false_or, ← ih]
      by_cases h1 : Lib.indexAny l chars = -1
      · rw [h1]; rfl
      · rw [if_neg (by simpa using h1)]
        exact decide_eq_decide.2 (by omega)
theorem noAny_skip {s chars : List UInt8} {i k : Nat} (h : Lib.NoAny s chars i) (hc : ∀ b ∈ chars, b.toNat < 128) (hk : ∀ b ∈ (s.drop i).take k, 128 ≤ b.toNat) : Lib.NoAny s chars (i + k) := by
  intro j b hj hb
  by_cases h1 : j < i
  · exact h j b h1 hb
  · have hm : b ∈ (s.drop i).take k := by
      refine List.mem_of_getElem? (i := j - i) ?_
      rw [List.getElem?_take_of_lt (by omega), List.getElem?_drop, show i + (j - i) = j by omega]
      exact hb
    have h2 := hk b hm
    rw [Bool.eq_false_iff]
    intro h3
    have := hc b (by simpa using h3)
    omega
set_option maxHeartbeats 4000000 in
set_option maxRecDepth 1000000 in
theorem indexAny_short (s chars : ByteArray) (ha : ∀ b ∈ chars.data.toList, b.toNat < 128) (h4 : 4 ≤ chars.size) (h5 : chars.size ≤ 1000) (h8 : s.size ≤ 8) (w : World) :
    Calls Tryd.prog 47 #[.string s, .string chars] w fun e w' => e = .returned (.int .i64 (Lib.indexAny s.data.toList chars.data.toList)) ∧ Below w.heap.size w w' := by
  have IR := Lib.hid (fun (r : Nat) (hr : r ≤ 2147483647) => indexRune_any chars ha h4 h5 r hr)
  have HA := Lib.hid ha
  clear ha
  have hemp : chars.toList.isEmpty = false := by
    rw [Lib.toList_data]
    cases h : chars.data.toList with
    | nil => have := Lib.size_eq chars; rw [h, List.length_nil] at this; omega
    | cons _ _ => rfl
  have hne : ¬ chars.toList = [] := by intro e; rw [e] at hemp; simp at hemp
  have hn1 : ((chars.size : Int) == 1) = false := beq_eq_false_iff_ne.2 (by omega)
  have hn2 : ¬ chars.size = 1 := by omega
  have h8z : decide ((8 : Int) < (s.size : Int)) = false := decide_eq_false (by omega)
  have hl : s.data.toList.length = s.size := by simp
  have HL := Lib.hid hl
  clear hl
  go_enter Tryd.func47, Tryd.ntmps47
  go_wp2_with (go_at_call 80; refine (Tryd.strings_shouldUseASCIISet _ _).mono ?_; rintro e w' ⟨rfl, hw⟩; rw [hw, h8z])
  go_loopw [9, 10] (fun _ _ wr => ∃ pos : Nat, wr.heap[w.heap.size]? = some (.stringIter s pos) ∧ Below w.heap.size w wr ∧ Lib.NoAny s.data.toList chars.data.toList pos ∧ pos ≤ s.size) (fun _ _ wr => s.size - wr.iterPos w.heap.size)
  case atStart => exact ⟨0, World.iter_heap w s 0, (Below.refl _ w).alloc (Nat.le_refl _) _, Lib.NoAny.zero _ _, Nat.zero_le _⟩
  case round =>
    obtain ⟨pos, hit, hbw, hno, hps⟩ := hrel
    have HN := Lib.hid hno
    have HBW := Lib.hid hbw
    clear hno hbw
    by_cases hp : pos < s.size
    · have hnx : ∀ ty, (Instr.next (.pointer (some ⟨w.heap.size, 0, none⟩)) true ty).run Tryd.prog wr = _ := fun ty => Lib.run_next_any_at wr w.heap.size s pos ty hit hp
      have hd1 := decode_le s pos
      have hdl := decode_list s pos
      have hcons : s.data.toList.drop pos = s[pos] :: s.data.toList.drop (pos + 1) := List.drop_eq_getElem_cons (by rw [HL.out]; exact hp)
      have hxl : s.data.toList[pos]? = some s[pos] := Lib.data_getElem? s pos hp
      have hb0 : byteAt (s.data.toList.drop pos) 0 = (s[pos]).toNat := by rw [hcons]; rfl
      have hwd := dec_width (s.data.toList.drop pos) (by rw [hcons]; simp)
      have hlo : (s[pos]).toNat < 128 → uDec (s.data.toList.drop pos) = ((s[pos]).toNat, 1) := fun h => by unfold uDec; rw [hb0, if_pos h]
      have hhi : 128 ≤ (s[pos]).toNat → 128 ≤ (uDec (s.data.toList.drop pos)).1 ∧ ∀ b ∈ (s.data.toList.drop pos).take (uDec (s.data.toList.drop pos)).2, 128 ≤ b.toNat := fun h => dec_highs _ (by rw [hcons]; simp) (by rw [hb0]; exact h)
      have hwl : (s.data.toList.drop pos).length = s.size - pos := by rw [List.length_drop, HL.out]
      rw [hwl] at hwd
      clear hcons hb0 hwl
      rw [hdl] at hnx hd1
      clear hdl
      generalize s[pos] = x at *
      generalize uDec (s.data.toList.drop pos) = d at *
      obtain ⟨r, k⟩ := d
      simp only at hnx hd1 hwd hlo hhi
      have hit2 := Lib.iterAt_heap wr w.heap.size s pos (pos + k) hit
      have hszB : w.heap.size < wr.heap.size := (Array.getElem?_eq_some_iff.1 hit).1
      have hbw2 := Lib.below_iterAt HBW.out (k := w.heap.size) (Nat.le_refl _) s (pos + k)
      have hszB2 : w.heap.size < (wr.iterAt w.heap.size s (pos + k)).heap.size := by rw [Lib.iterAt_size]; exact hszB
      have HIT2 := Lib.hid hit2; have BW2 := Lib.hid hbw2
      clear hit2 hbw2
      have IR2 := Lib.hid (IR.out r (by omega))
      by_cases hin : idxRune chars.data.toList r < 0
      · have hno2 : Lib.NoAny s.data.toList chars.data.toList (pos + k) := by
          rcases Nat.lt_or_ge x.toNat 128 with hx | hx
          · have e := hlo hx
            injection e with e1 e2
            subst e1 e2
            refine HN.out.succ hxl ?_
            have hcon := Lib.contains_iff_indexByte chars.data.toList x
            unfold idxRune at hin
            rw [if_pos hx, show x.toNat.toUInt8 = x by simp] at hin
            rw [hcon]; exact decide_eq_false (by omega)
          · exact noAny_skip HN.out HA.out (hhi hx).2
        have HN2 := Lib.hid hno2
        have hneg : ¬ (0 : Int) ≤ idxRune chars.data.toList r := by omega
        clear hno2 hlo hhi hxl
        generalize idxRune chars.data.toList r = v at *
        go_wp2_with (go_at_call 79; refine (IR2.out _).mono ?_; rintro e W2 ⟨rfl, b2⟩; have B2 := Lib.hid b2; clear b2)
        go_roundw
        case rel => exact ⟨pos + k, by rw [B2.out.block _ hszB2]; exact HIT2.out, BW2.out.trans (B2.out.mono BW2.out.size), HN2.out, by omega⟩
        case measure =>
          have e1 : W2.heap[w.heap.size]? = some (.stringIter s (pos + k)) := by rw [B2.out.block _ hszB2]; exact HIT2.out
          simp only [World.iterPos, e1, hit]
          omega
      · have hx : x.toNat < 128 := by
          rcases Nat.lt_or_ge x.toNat 128 with hx | hx
          · exact hx
          · have := (hhi hx).1
            unfold idxRune at hin
            rw [if_neg (by omega)] at hin; omega
        have e := hlo hx
        injection e with e1 e2
        subst e1 e2
        have hres : Lib.indexAny s.data.toList chars.data.toList = (pos : Int) := by
          refine Lib.indexAny_hit HN.out hxl ?_
          have hcon := Lib.contains_iff_indexByte chars.data.toList x
          unfold idxRune at hin
          rw [if_pos hx, show x.toNat.toUInt8 = x by simp] at hin
          rw [hcon]; exact decide_eq_true (by omega)
        have HR := Lib.hid hres
        have hpz : (0 : Int) ≤ idxRune chars.data.toList x.toNat := by omega
        clear hres hlo hhi hxl hin
        generalize idxRune chars.data.toList x.toNat = v at *
        go_wp2_with (go_at_call 79; refine (IR2.out _).mono ?_; rintro e W2 ⟨rfl, b2⟩; have B2 := Lib.hid b2; clear b2)
        go_ret
        exact ⟨by rw [HR.out]; rfl, BW2.out.trans (B2.out.mono BW2.out.size)⟩
    · have hnx : ∀ ty, (Instr.next (.pointer (some ⟨w.heap.size, 0, none⟩)) true ty).run Tryd.prog wr = _ := fun ty => Lib.run_next_end_at wr w.heap.size s pos ty hit hp
      go_wp2
      go_ret
      refine ⟨?_, HBW.out⟩
      rw [Lib.indexAny_none (by rw [HL.out]; exact fun j b hj hb => HN.out j b (by omega) hb)]; rfl
set_option maxHeartbeats 1000000 in
theorem containsAny_c (s chars : ByteArray) (ha : ∀ b ∈ chars.data.toList, b.toNat < 128) (h4 : 4 ≤ chars.size) (h5 : chars.size ≤ 1000) (hs : s.size ≤ 11000000) (w : World) :
    Calls Tryd.prog 21 #[.string s, .string chars] w fun e w' => e = .returned (.bool (s.data.toList.any chars.data.toList.contains)) ∧ Below w.heap.size w w' := by
  have c : Calls Tryd.prog 47 #[.string s, .string chars] w fun e w' => e = .returned (.int .i64 (Lib.indexAny s.data.toList chars.data.toList)) ∧ Below w.heap.size w w' := by
    by_cases h8 : s.size ≤ 8
    · exact indexAny_short s chars ha h4 h5 h8 w
    · refine (Tryd.strings_IndexAny_long (zero_of_info (show (Tryd.prog.info? 69).map (fun i => (i.zero, i.size)) = some (some (.agg (Array.replicate 256 (.bool false))), 256) by kernel_rfl)).1 s chars w (by omega) (by omega) (by omega) (by omega) (fun j b hb => ha b (List.mem_of_getElem? hb))).mono ?_
      rintro e w' ⟨rfl, rfl⟩
      exact ⟨rfl, ((Below.refl _ _).alloc (Nat.le_refl _) _).alloc (by simp) _⟩
  have CC := Lib.hid c
  have e := any_iff_index s.data.toList chars.data.toList
  rw [← e]
  clear c ha e
  generalize Lib.indexAny s.data.toList chars.data.toList = v at *
  go_enter Tryd.func21, Tryd.ntmps21
  go_wp2_with (go_at_call 47; refine CC.out.mono ?_; rintro e w' ⟨rfl, hw⟩)
  go_ret
  exact ⟨rfl, hw⟩
end Go.Proofs.YtokkgjiofhhlkaaDoor
namespace Go.Proofs.YtokkgjiofhhlkaaDoor.WordL
open Go.RowKit Go.Lib Go.Proofs.YtokkgjiofhhlkaaDoor Go.Proofs.YtokkgjiofhhlkaaDoor.Pure
set_option linter.unusedVariables false
set_option linter.unusedSimpArgs false
theorem cut_len (c : UInt8) (l : List UInt8) : (cutL c l).1.length ≤ l.length ∧ (cutL c l).2.1.length ≤ l.length := by
  unfold cutL
  split
  · refine ⟨List.IsPrefix.length_le (List.takeWhile_prefix _), ?_⟩
    have := List.IsSuffix.length_le (List.dropWhile_suffix (l := l) (· != c))
    simp only [List.length_drop]; omega
  · exact ⟨Nat.le_refl _, by simp⟩
theorem trim_len (l p : List UInt8) : (trimPrefix l p).length ≤ l.length := by
  unfold trimPrefix; split
  · simp
  · exact Nat.le_refl _
theorem mk_l (l : List UInt8) : (⟨l.toArray⟩ : ByteArray).data.toList = l := rfl
theorem cut_got (s : ByteArray) (c : UInt8) (hs : s.size ≤ 1100000) : strings_Cut.f s ⟨#[c]⟩ = some (⟨(cutL c s.data.toList).1.toArray⟩, ⟨(cutL c s.data.toList).2.1.toArray⟩, (cutL c s.data.toList).2.2) := by
  unfold strings_Cut.f
  rw [if_pos ⟨rfl, by omega⟩]; rfl
theorem one_split (s : ByteArray) (hs : s.size ≤ 1100000) : ∃ (R0 N1 R1 N2 R2 N3 R3 R4 NM X5 : ByteArray) (is f1 f2 f3 f4 f5 : Bool),
    strings_CutPrefix.f s ⟨#[61, 63]⟩ = some (R0, is) ∧ strings_Cut.f R0 ⟨#[63]⟩ = some (N1, R1, f1) ∧ strings_Cut.f R1 ⟨#[63]⟩ = some (N2, R2, f2) ∧ strings_Cut.f R2 ⟨#[63]⟩ = some (N3, R3, f3)
    ∧ strings_CutPrefix.f R3 ⟨#[61]⟩ = some (R4, f4) ∧ strings_Cut.f N1 ⟨#[42]⟩ = some (NM, X5, f5)
    ∧ N1.size ≤ s.size ∧ N2.size ≤ s.size ∧ N3.size ≤ s.size ∧ R4.size ≤ s.size ∧ NM.size ≤ N1.size
    ∧ (is = false ∨ f1 = false ∨ f2 = false ∨ f3 = false ∨ f4 = false ∨ N1.size < 1 ∨ 40 < N1.size ∨ (N1 ++ N2 ++ N3).data.toList.any white = true ∨ (knownL (labelL NM)).2 = false → oneL s.data.toList = ([], 0))
    ∧ (is = true → f1 = true → f2 = true → f3 = true → f4 = true → 1 ≤ N1.size → N1.size ≤ 40 → (N1 ++ N2 ++ N3).data.toList.any white = false → (knownL (labelL NM)).2 = true →
        ((N2.data.toList = [66] ∨ N2.data.toList = [98]) → oneL s.data.toList = (decL (knownL (labelL NM)).1 (B64.b64DecL N3.data.toList), s.size - R4.size))
        ∧ (¬ N2.data.toList = [66] → ¬ N2.data.toList = [98] → (N2.data.toList = [81] ∨ N2.data.toList = [113]) → oneL s.data.toList = (decL (knownL (labelL NM)).1 (WordQ.quotedL N3.data.toList), s.size - R4.size))
        ∧ (¬ N2.data.toList = [66] → ¬ N2.data.toList = [98] → ¬ N2.data.toList = [81] → ¬ N2.data.toList = [113] → oneL s.data.toList = ([], 0))) := by
  have hl : s.data.toList.length = s.size := by simp
  have d0 := trim_len s.data.toList [61, 63]
  have d1 := cut_len 63 (trimPrefix s.data.toList [61, 63])
  have d2 := cut_len 63 (cutL 63 (trimPrefix s.data.toList [61, 63])).2.1
  have d3 := cut_len 63 (cutL 63 (cutL 63 (trimPrefix s.data.toList [61, 63])).2.1).2.1
  have d4 := trim_len (cutL 63 (cutL 63 (cutL 63 (trimPrefix s.data.toList [61, 63])).2.1).2.1).2.1 [61]
  have d5 := cut_len 42 (cutL 63 (trimPrefix s.data.toList [61, 63])).1
  refine ⟨_, _, _, _, _, _, _, _, _, _, _, _, _, _, _, _, rfl, cut_got _ 63 ?_, cut_got _ 63 ?_, cut_got _ 63 ?_, rfl, cut_got _ 42 ?_, ?_, ?_, ?_, ?_, ?_, ?_, ?_⟩
  any_goals (simp only [mk_l, mk_size]; omega)
  · simp only [mk_l, mk_size]
    intro h
    unfold oneL
    refine if_neg ?_
    rintro ⟨c1, c2, c3, c4, c5, c6, c7, c8, c9⟩
    have e0 : trimPrefix s.data.toList [61, 63] = s.data.toList.drop 2 := by
      unfold trimPrefix
      rw [if_pos (show hasPrefix s.data.toList [61, 63] = true from c1)]; rfl
    have c1' : hasPrefix s.data.toList [61, 63] = true := c1
    rw [e0] at h
    simp only [ByteArray.data_append, Array.toList_append] at h
    rcases h with h | h | h | h | h | h | h | h | h
    · rw [c1'] at h; simp at h
    · rw [c2] at h; simp at h
    · rw [c3] at h; simp at h
    · rw [c4] at h; simp at h
    · rw [c5] at h; simp at h
    · omega
    · omega
    · rw [c8] at h; simp at h
    · rw [c9] at h; simp at h
  · simp only [mk_l, mk_size]
    intro h1 h2 h3 h4 h5 h6 h7 h8 h9
    have e0 : trimPrefix s.data.toList [61, 63] = s.data.toList.drop 2 := by
      unfold trimPrefix
      rw [if_pos h1]; rfl
    simp only [ByteArray.data_append, Array.toList_append] at h8
    rw [e0] at h2 h3 h4 h5 h6 h7 h8 h9 ⊢
    have e4 : (trimPrefix (cutL 63 (cutL 63 (cutL 63 (s.data.toList.drop 2)).2.1).2.1).2.1 [61]).length = (cutL 63 (cutL 63 (cutL 63 (s.data.toList.drop 2)).2.1).2.1).2.1.length - 1 := by
      unfold trimPrefix; rw [if_pos h5]; simp
    rw [e4, ← hl]
    refine ⟨fun hb => ?_, fun n1 n2 hq => ?_, fun n1 n2 n3 n4 => ?_⟩
    · unfold oneL; rw [if_pos ⟨h1, h2, h3, h4, h5, h6, h7, h8, h9⟩, if_pos hb]
    · unfold oneL; rw [if_pos ⟨h1, h2, h3, h4, h5, h6, h7, h8, h9⟩, if_neg (fun h => h.elim n1 n2), if_pos hq]
    · unfold oneL; rw [if_pos ⟨h1, h2, h3, h4, h5, h6, h7, h8, h9⟩, if_neg (fun h => h.elim n1 n2), if_neg (fun h => h.elim n3 n4)]
theorem decGo_len : ∀ (l : List UInt8) (a b : Nat), (B64.decGo a b l).length ≤ 2 * l.length
  | [], _, _ => by simp [B64.decGo]
  | c :: r, a, b => by
    simp only [B64.decGo, List.length_cons]
    split
    · rw [List.length_append]
      have := B64.emit_len 8 ((a * 2 ^ 6 + (B64.placeC c).toNat) % 65536) 2 (b + 6)
      have := decGo_len r ((a * 2 ^ 6 + (B64.placeC c).toNat) % 65536) ((b + 6) % 8)
      omega
    · have := decGo_len r a b; omega
theorem b64Dec_len (l : List UInt8) : (B64.b64DecL l).length ≤ 2 * l.length := by
  unfold B64.b64DecL
  rw [List.length_map]
  have := decGo_len (cutL 61 l).1 0 0
  have := (cut_len 61 l).1
  omega
theorem white_any (N : ByteArray) : N.data.toList.any (⟨#[32, 9, 10, 13]⟩ : ByteArray).data.toList.contains = N.data.toList.any white := rfl
def word_One.f (s : ByteArray) : Option (ByteArray × Int) := if s.size ≤ 1100000 then some (⟨(oneL s.data.toList).1.toArray⟩, ((oneL s.data.toList).2 : Int)) else none
set_option maxRecDepth 100000 in
set_option maxHeartbeats 8000000 in
theorem one_c (s : ByteArray) (hs : s.size ≤ 1100000) (w : World) (hGl : Glob w) :
    Calls Tryd.prog 11 #[.string s] w fun e w' => e = .returned (.tuple #[.string ⟨(oneL s.data.toList).1.toArray⟩, .int .i64 ((oneL s.data.toList).2 : Int)]) ∧ Below w.heap.size w w' := by
  obtain ⟨R0, N1, R1, N2, R2, N3, R3, R4, NM, X5, is, f1, f2, f3, f4, f5, g0, g1, g2, g3, g4, g5, z1, z2, z3, z4, z5, hno, hyes⟩ := one_split s hs
  have HNO := Lib.hid hno; have HYES := Lib.hid hyes; have GL := Lib.hid hGl
  have CP0 := Lib.hid (fun W => strings_CutPrefix.calls s _ _ _ W g0)
  have CU0 := Lib.hid (fun W => strings_Cut.calls R0 _ _ _ _ W g1)
  have CU1 := Lib.hid (fun W => strings_Cut.calls R1 _ _ _ _ W g2)
  have CU2 := Lib.hid (fun W => strings_Cut.calls R2 _ _ _ _ W g3)
  have CP3 := Lib.hid (fun W => strings_CutPrefix.calls R3 _ _ _ W g4)
  have CU4 := Lib.hid (fun W => strings_Cut.calls N1 _ _ _ _ W g5)
  have hcat : (N1 ++ N2 ++ N3).size = N1.size + N2.size + N3.size := by rw [ByteArray.size_append, ByteArray.size_append]
  have CA := Lib.hid (fun W => containsAny_c (N1 ++ N2 ++ N3) (⟨#[32, 9, 10, 13]⟩ : ByteArray) (by decide) (by decide) (by decide) (by rw [hcat]; omega) W)
  rw [white_any] at CA
  have DB := Lib.hid (fun W => B64.Decode_c N3 (by omega) W)
  have DQ := Lib.hid (fun W => WordQ.quoted_c N3 (by omega) W)
  have tb : (⟨(B64.b64DecL N3.data.toList).toArray⟩ : ByteArray).size ≤ 11000000 := by
    rw [mk_size]; have := b64Dec_len N3.data.toList; have : N3.data.toList.length = N3.size := by simp
    omega
  have tq : (⟨(WordQ.quotedL N3.data.toList).toArray⟩ : ByteArray).size ≤ 11000000 := by
    rw [mk_size]; have := WordQ.quoted_len _ N3.data.toList (Nat.le_refl _); have : N3.data.toList.length = N3.size := by simp
    omega
  generalize hwh : (N1 ++ N2 ++ N3).data.toList.any white = wh at *
  clear hno hyes g0 g1 g2 g3 g4 g5 hGl hwh
  have s1 : N1.size + N2.size ≤ 11000000 := by omega
  go_enter Tryd.func11, Tryd.ntmps11
  go_upto_region 6 with (first
    | (go_at_call 19; first
        | ((with_reducible refine (CP0.out _).mono ?_); rintro e w1 ⟨rfl, hb1⟩; have HB1 := Lib.hid hb1; clear hb1)
        | ((with_reducible refine (CP3.out _).mono ?_); rintro e w5 ⟨rfl, hb5⟩; have HB5 := Lib.hid (HB4.out.trans (hb5.mono HB4.out.size)); clear hb5))
    | (go_at_call 20; first
        | ((with_reducible refine (CU0.out _).mono ?_); rintro e w2 ⟨rfl, hb2⟩; have HB2 := Lib.hid (HB1.out.trans (hb2.mono HB1.out.size)); clear hb2)
        | ((with_reducible refine (CU1.out _).mono ?_); rintro e w3 ⟨rfl, hb3⟩; have HB3 := Lib.hid (HB2.out.trans (hb3.mono HB2.out.size)); clear hb3)
        | ((with_reducible refine (CU2.out _).mono ?_); rintro e w4 ⟨rfl, hb4⟩; have HB4 := Lib.hid (HB3.out.trans (hb4.mono HB3.out.size)); clear hb4)))
  cases is with
  | false =>
    have HE := Lib.hid (HNO.out (by simp))
    go_wp2_with fail
    go_ret2
    exact ⟨by rw [HE.out]; rfl, HB5.out⟩
  | true =>
  cases f1 with
  | false =>
    have HE := Lib.hid (HNO.out (by simp))
    go_wp2_with fail
    go_ret2
    exact ⟨by rw [HE.out]; rfl, HB5.out⟩
  | true =>
  cases f2 with
  | false =>
    have HE := Lib.hid (HNO.out (by simp))
    go_wp2_with fail
    go_ret2
    exact ⟨by rw [HE.out]; rfl, HB5.out⟩
  | true =>
  cases f3 with
  | false =>
    have HE := Lib.hid (HNO.out (by simp))
    go_wp2_with fail
    go_ret2
    exact ⟨by rw [HE.out]; rfl, HB5.out⟩
  | true =>
  cases f4 with
  | false =>
    have HE := Lib.hid (HNO.out (by simp))
    go_wp2_with fail
    go_ret2
    exact ⟨by rw [HE.out]; rfl, HB5.out⟩
  | true =>
  by_cases m1 : N1.size < 1
  · have m1i : (N1.size : Int) < 1 := by omega
    have HE := Lib.hid (HNO.out (by simp [m1]))
    go_wp2_with fail
    go_ret2
    exact ⟨by rw [HE.out]; rfl, HB5.out⟩
  · have m1i : ¬ (N1.size : Int) < 1 := by omega
    have m1j : ¬ N1.size = 0 := by omega
    by_cases m2 : 40 < N1.size
    · have m2i : (40 : Int) < (N1.size : Int) := by omega
      have HE := Lib.hid (HNO.out (by simp [m2]))
      go_wp2_with fail
      go_ret2
      exact ⟨by rw [HE.out]; rfl, HB5.out⟩
    · have m2i : ¬ (40 : Int) < (N1.size : Int) := by omega
      have KN := Lib.hid (fun W => Alph.known_c NM (by omega) W)
      have hnm : NM.size ≤ 5000 := by omega
      cases wh with
      | true =>
        have HE := Lib.hid (HNO.out (by simp))
        go_wp2_with (go_at_call 21; refine (CA.out _).mono ?_; rintro e w6 ⟨rfl, hb6⟩; have HB6 := Lib.hid (HB5.out.trans (hb6.mono HB5.out.size)); clear hb6)
        go_ret2
        exact ⟨by rw [HE.out]; rfl, HB6.out⟩
      | false =>
        have DC1 := Lib.hid (fun W g => Alph.decode_c NM _ hnm tb W g)
        have DC2 := Lib.hid (fun W g => Alph.decode_c NM _ hnm tq W g)
        simp only [mk_l] at DC1 DC2
        generalize knownL (labelL NM) = kn at *
        obtain ⟨K1, k2⟩ := kn
        simp only at HNO HYES KN DC1 DC2
        cases k2 with
        | false =>
          have HE := Lib.hid (HNO.out (by simp))
          go_wp2_with (first
            | (go_at_call 21; refine (CA.out _).mono ?_; rintro e w6 ⟨rfl, hb6⟩; have HB6 := Lib.hid (HB5.out.trans (hb6.mono HB5.out.size)); clear hb6)
            | (go_at_call 20; refine (CU4.out _).mono ?_; rintro e w7 ⟨rfl, hb7⟩; have HB7 := Lib.hid (HB6.out.trans (hb7.mono HB6.out.size)); clear hb7)
            | (go_at_call 22; refine (KN.out _).mono ?_; rintro e w8 ⟨rfl, hb8⟩; have HB8 := Lib.hid (HB7.out.trans (hb8.mono HB7.out.size)); clear hb8))
          go_ret2
          exact ⟨by rw [HE.out]; rfl, HB8.out⟩
        | true =>
          obtain ⟨yb, yq, yn⟩ := HYES.out (by simp) (by simp) (by simp) (by simp) (by simp) (by omega) (by omega) (by simp) (by simp)
          have HSUB := Lib.hid (show ((s.size - R4.size : Nat) : Int) = (s.size : Int) - (R4.size : Int) by omega)
          clear HYES HNO
          generalize B64.b64DecL N3.data.toList = TB at *
          generalize WordQ.quotedL N3.data.toList = TQ at *
          by_cases n66 : N2.data.toList = [66]
          · have HY := Lib.hid (yb (.inl n66))
            obtain rfl : N2 = ⟨#[66]⟩ := ba_ext n66
            clear yb yq yn n66
            go_wp2_with (first
              | (go_at_call 21; refine (CA.out _).mono ?_; rintro e w6 ⟨rfl, hb6⟩; have HB6 := Lib.hid (HB5.out.trans (hb6.mono HB5.out.size)); clear hb6)
              | (go_at_call 20; refine (CU4.out _).mono ?_; rintro e w7 ⟨rfl, hb7⟩; have HB7 := Lib.hid (HB6.out.trans (hb7.mono HB6.out.size)); clear hb7)
              | (go_at_call 22; refine (KN.out _).mono ?_; rintro e w8 ⟨rfl, hb8⟩; have HB8 := Lib.hid (HB7.out.trans (hb8.mono HB7.out.size)); clear hb8)
              | (go_at_call 23; refine (DB.out _).mono ?_; rintro e w9 ⟨rfl, hb9⟩; have HB9 := Lib.hid (HB8.out.trans (hb9.mono HB8.out.size)); clear hb9)
              | (go_at_call 25; refine (DC1.out _ (GL.out.below HB9.out)).mono ?_; rintro e wA ⟨rfl, hbA⟩; have HBA := Lib.hid (HB9.out.trans (hbA.mono HB9.out.size)); clear hbA))
            go_ret2
            refine ⟨?_, HBA.out⟩
            rw [HY.out]
            show _ = Ending.returned (.tuple #[.string _, .int .i64 ((s.size - R4.size : Nat) : Int)])
            rw [HSUB.out]
            rfl
          by_cases n98 : N2.data.toList = [98]
          · have HY := Lib.hid (yb (.inr n98))
            obtain rfl : N2 = ⟨#[98]⟩ := ba_ext n98
            clear yb yq yn n98 n66
            go_wp2_with (first
              | (go_at_call 21; refine (CA.out _).mono ?_; rintro e w6 ⟨rfl, hb6⟩; have HB6 := Lib.hid (HB5.out.trans (hb6.mono HB5.out.size)); clear hb6)
              | (go_at_call 20; refine (CU4.out _).mono ?_; rintro e w7 ⟨rfl, hb7⟩; have HB7 := Lib.hid (HB6.out.trans (hb7.mono HB6.out.size)); clear hb7)
              | (go_at_call 22; refine (KN.out _).mono ?_; rintro e w8 ⟨rfl, hb8⟩; have HB8 := Lib.hid (HB7.out.trans (hb8.mono HB7.out.size)); clear hb8)
              | (go_at_call 23; refine (DB.out _).mono ?_; rintro e w9 ⟨rfl, hb9⟩; have HB9 := Lib.hid (HB8.out.trans (hb9.mono HB8.out.size)); clear hb9)
              | (go_at_call 25; refine (DC1.out _ (GL.out.below HB9.out)).mono ?_; rintro e wA ⟨rfl, hbA⟩; have HBA := Lib.hid (HB9.out.trans (hbA.mono HB9.out.size)); clear hbA))
            go_ret2
            refine ⟨?_, HBA.out⟩
            rw [HY.out]
            show _ = Ending.returned (.tuple #[.string _, .int .i64 ((s.size - R4.size : Nat) : Int)])
            rw [HSUB.out]
            rfl
          by_cases n81 : N2.data.toList = [81]
          · have HY := Lib.hid (yq n66 n98 (.inl n81))
            obtain rfl : N2 = ⟨#[81]⟩ := ba_ext n81
            clear yb yq yn n81 n66 n98
            go_wp2_with (first
              | (go_at_call 21; refine (CA.out _).mono ?_; rintro e w6 ⟨rfl, hb6⟩; have HB6 := Lib.hid (HB5.out.trans (hb6.mono HB5.out.size)); clear hb6)
              | (go_at_call 20; refine (CU4.out _).mono ?_; rintro e w7 ⟨rfl, hb7⟩; have HB7 := Lib.hid (HB6.out.trans (hb7.mono HB6.out.size)); clear hb7)
              | (go_at_call 22; refine (KN.out _).mono ?_; rintro e w8 ⟨rfl, hb8⟩; have HB8 := Lib.hid (HB7.out.trans (hb8.mono HB7.out.size)); clear hb8)
              | (go_at_call 24; refine (DQ.out _).mono ?_; rintro e w9 ⟨rfl, hb9⟩; have HB9 := Lib.hid (HB8.out.trans (hb9.mono HB8.out.size)); clear hb9)
              | (go_at_call 25; refine (DC2.out _ (GL.out.below HB9.out)).mono ?_; rintro e wA ⟨rfl, hbA⟩; have HBA := Lib.hid (HB9.out.trans (hbA.mono HB9.out.size)); clear hbA))
            go_ret2
            refine ⟨?_, HBA.out⟩
            rw [HY.out]
            show _ = Ending.returned (.tuple #[.string _, .int .i64 ((s.size - R4.size : Nat) : Int)])
            rw [HSUB.out]
            rfl
          by_cases n113 : N2.data.toList = [113]
          · have HY := Lib.hid (yq n66 n98 (.inr n113))
            obtain rfl : N2 = ⟨#[113]⟩ := ba_ext n113
            clear yb yq yn n113 n66 n98 n81
            go_wp2_with (first
              | (go_at_call 21; refine (CA.out _).mono ?_; rintro e w6 ⟨rfl, hb6⟩; have HB6 := Lib.hid (HB5.out.trans (hb6.mono HB5.out.size)); clear hb6)
              | (go_at_call 20; refine (CU4.out _).mono ?_; rintro e w7 ⟨rfl, hb7⟩; have HB7 := Lib.hid (HB6.out.trans (hb7.mono HB6.out.size)); clear hb7)
              | (go_at_call 22; refine (KN.out _).mono ?_; rintro e w8 ⟨rfl, hb8⟩; have HB8 := Lib.hid (HB7.out.trans (hb8.mono HB7.out.size)); clear hb8)
              | (go_at_call 24; refine (DQ.out _).mono ?_; rintro e w9 ⟨rfl, hb9⟩; have HB9 := Lib.hid (HB8.out.trans (hb9.mono HB8.out.size)); clear hb9)
              | (go_at_call 25; refine (DC2.out _ (GL.out.below HB9.out)).mono ?_; rintro e wA ⟨rfl, hbA⟩; have HBA := Lib.hid (HB9.out.trans (hbA.mono HB9.out.size)); clear hbA))
            go_ret2
            refine ⟨?_, HBA.out⟩
            rw [HY.out]
            show _ = Ending.returned (.tuple #[.string _, .int .i64 ((s.size - R4.size : Nat) : Int)])
            rw [HSUB.out]
            rfl
          have HY := Lib.hid (yn n66 n98 n81 n113)
          clear yb yq yn
          have p66 : ¬ N2.toList = [66] := by rw [toList_eq]; exact n66
          have q66 : (N2.toList == [66]) = false := by simpa using p66
          clear n66
          have p98 : ¬ N2.toList = [98] := by rw [toList_eq]; exact n98
          have q98 : (N2.toList == [98]) = false := by simpa using p98
          clear n98
          have p81 : ¬ N2.toList = [81] := by rw [toList_eq]; exact n81
          have q81 : (N2.toList == [81]) = false := by simpa using p81
          clear n81
          have p113 : ¬ N2.toList = [113] := by rw [toList_eq]; exact n113
          have q113 : (N2.toList == [113]) = false := by simpa using p113
          clear n113
          go_wp2_with (first
            | (go_at_call 21; refine (CA.out _).mono ?_; rintro e w6 ⟨rfl, hb6⟩; have HB6 := Lib.hid (HB5.out.trans (hb6.mono HB5.out.size)); clear hb6)
            | (go_at_call 20; refine (CU4.out _).mono ?_; rintro e w7 ⟨rfl, hb7⟩; have HB7 := Lib.hid (HB6.out.trans (hb7.mono HB6.out.size)); clear hb7)
            | (go_at_call 22; refine (KN.out _).mono ?_; rintro e w8 ⟨rfl, hb8⟩; have HB8 := Lib.hid (HB7.out.trans (hb8.mono HB7.out.size)); clear hb8))
          go_ret2
          exact ⟨by rw [HY.out]; rfl, HB8.out⟩
theorem word_One.calls (s r1 : ByteArray) (r2 : Int) (w : World) (hGl : Glob w) (h : word_One.f s = some (r1, r2)) :
    Calls Tryd.prog 11 #[.string s] w fun e w' => e = .returned (.tuple #[.string r1, .int .i64 r2]) ∧ Below w.heap.size w w' := by
  obtain ⟨h1, h2⟩ := of_guard h
  injection h2 with h3 h4
  subst h3 h4
  exact one_c s h1 w hGl
end Go.Proofs.YtokkgjiofhhlkaaDoor.WordL
namespace Go.Proofs.YtokkgjiofhhlkaaDoor.WordL
open Go.RowKit Go.Lib Go.Proofs.YtokkgjiofhhlkaaDoor Go.Proofs.YtokkgjiofhhlkaaDoor.Pure
set_option linter.unusedVariables false
set_option linter.unusedSimpArgs false
def pc (L : List UInt8) (f a : Nat) : List UInt8 := (L.take a).drop f
theorem pc_add (L : List UInt8) (f a i : Nat) (h : f ≤ a) (h2 : a ≤ L.length) : pc L f (a + i) = pc L f a ++ (L.drop a).take i := by
  unfold pc
  rw [List.take_add, List.drop_append_of_le_length (by rw [List.length_take]; omega)]
theorem pc_self (L : List UInt8) (a : Nat) : pc L a a = [] := by
  unfold pc; exact List.drop_eq_nil_of_le (by rw [List.length_take]; omega)
theorem dec_end (L : List UInt8) (f a : Nat) (b : Bool) (h : f ≤ a) (h2 : a ≤ L.length) (hi : index (L.drop a) [61, 63] < 0) : wordF (pc L f a) b (L.drop a) = vl (L.drop f) := by
  rw [wordF_plain _ _ _ ((index_begins (L.drop a)).2 hi)]
  congr 1
  have := pc_add L f a (L.length - a) h h2
  rw [show a + (L.length - a) = L.length by omega, List.take_of_length_le (l := L.drop a) (by simp)] at this
  rw [← this]; unfold pc; rw [List.take_length]
theorem dec_fin (L : List UInt8) (f a : Nat) (b : Bool) (h2 : a = L.length) : wordF (pc L f a) b (L.drop a) = vl (L.drop f) := by
  subst h2
  rw [List.drop_length, wordF_nil]; unfold pc; rw [List.take_length]
theorem dec_skip (L : List UInt8) (f a i : Nat) (b : Bool) (h : f ≤ a) (h2 : a ≤ L.length) (hi : index (L.drop a) [61, 63] = (i : Int)) :
    a + i < L.length ∧ wordF (pc L f a) b (L.drop a) = wordF (pc L f (a + i)) b (L.drop (a + i)) := by
  obtain ⟨h3, h4, h5⟩ := (index_begins (L.drop a)).1 i hi
  rw [List.length_drop] at h3
  refine ⟨by omega, ?_⟩
  rw [wordF_skip i _ _ _ (by rw [List.length_drop]; omega) h5, pc_add L f a i h h2, List.drop_drop]
theorem dec_no (L : List UInt8) (f a : Nat) (b : Bool) (h : f ≤ a) (h2 : a < L.length) (h0 : (oneL (L.drop a)).2 = 0) :
    wordF (pc L f a) b (L.drop a) = wordF (pc L f (a + 1)) b (L.drop (a + 1)) := by
  have hc : L.drop a = L[a] :: L.drop (a + 1) := List.drop_eq_getElem_cons h2
  rw [pc_add L f a 1 h (by omega), hc, wordF_no _ _ _ _ (by rw [← hc]; exact h0)]
  rfl
theorem dec_yes (L : List UInt8) (f a : Nat) (b : Bool) (h0 : ¬ (oneL (L.drop a)).2 = 0) :
    wordF (pc L f a) b (L.drop a) = (if (b && (pc L f a).all white) = true then [] else vl (pc L f a)) ++ (oneL (L.drop a)).1 ++ wordF (pc L (a + (oneL (L.drop a)).2) (a + (oneL (L.drop a)).2)) true (L.drop (a + (oneL (L.drop a)).2)) := by
  rw [wordF_yes _ _ _ h0, pc_self, List.drop_drop]
theorem one_len1 (l : List UInt8) : (oneL l).1.length ≤ 6 * l.length := by
  have d1 := cut_len 63 (l.drop 2)
  have d2 := cut_len 63 (cutL 63 (l.drop 2)).2.1
  have d3 := cut_len 63 (cutL 63 (cutL 63 (l.drop 2)).2.1).2.1
  rw [List.length_drop] at d1
  unfold oneL
  split
  · split
    · have := decL_len (knownL (labelL ⟨(cutL 42 (cutL 63 (l.drop 2)).1).1.toArray⟩)).1 (B64.b64DecL (cutL 63 (cutL 63 (cutL 63 (l.drop 2)).2.1).2.1).1)
      have := b64Dec_len (cutL 63 (cutL 63 (cutL 63 (l.drop 2)).2.1).2.1).1
      simp only; omega
    · split
      · have := decL_len (knownL (labelL ⟨(cutL 42 (cutL 63 (l.drop 2)).1).1.toArray⟩)).1 (WordQ.quotedL (cutL 63 (cutL 63 (cutL 63 (l.drop 2)).2.1).2.1).1)
        have := WordQ.quoted_len _ (cutL 63 (cutL 63 (cutL 63 (l.drop 2)).2.1).2.1).1 (Nat.le_refl _)
        simp only; omega
      · simp
  · simp
theorem trim_white (l : List UInt8) : Lib.trimS l [32, 9, 10, 13] = [] ↔ l.all white = true := by
  have e : Lib.trimS l [32, 9, 10, 13] = rdrop white (l.dropWhile white) := by
    rw [← drop_rdrop]; rfl
  have key : ∀ l : List UInt8, rdrop white l = [] ↔ l.all white = true := by
    intro l
    induction l with
    | nil => simp [rdrop]
    | cons x xs ih =>
      rw [rdrop_cons, List.all_cons]
      by_cases hx : rdrop white xs = []
      · rw [if_pos hx, ih.1 hx]
        cases white x <;> simp
      · rw [if_neg hx]
        have : xs.all white = false := Bool.eq_false_iff.2 (fun h => hx (ih.2 h))
        simp [this]
  rw [e, key]
  clear e
  induction l with
  | nil => simp
  | cons x xs ih =>
    rw [List.dropWhile_cons, List.all_cons]
    cases hx : white x with
    | true => rw [if_pos rfl]; simp only [Bool.true_and]; exact ih
    | false => simp [hx]
theorem valid_c (V : ByteArray) (hV : V.size ≤ 11000000) (W : World) : Calls Tryd.prog 17 #[.string V] W fun e w' => e = .returned (.string ⟨(vl V.data.toList).toArray⟩) ∧ Below W.heap.size W w' := by
  have := chars_Valid.calls V (validS V) W (guard_of (by omega))
  rw [validS_eq] at this
  exact this
theorem trim_c (P : ByteArray) (hP : P.size ≤ 11000000) (W : World) : Calls Tryd.prog 32 #[.string P, .string (⟨#[32, 9, 10, 13]⟩ : ByteArray)] W fun e w' => e = .returned (.string ⟨(Lib.trimS P.data.toList [32, 9, 10, 13]).toArray⟩) ∧ Below W.heap.size W w' :=
  strings_Trim.calls P _ _ W (guard_of ⟨by omega, by decide, by decide⟩)
theorem vl_len (l : List UInt8) : (vl l).length ≤ 3 * l.length := valL_len _ _
def word_Decode.f (s : ByteArray) : Option ByteArray := if s.size ≤ 1100000 then some ⟨(wordL s.data.toList).toArray⟩ else none
set_option maxRecDepth 100000 in
set_option maxHeartbeats 8000000 in
theorem Decode_c (s : ByteArray) (hs : s.size ≤ 1100000) (w : World) (hGl : Glob w) :
    Calls Tryd.prog 13 #[.string s] w fun e w' => e = .returned (.string ⟨(wordL s.data.toList).toArray⟩) ∧ Below w.heap.size w w' := by
  have WS : ∀ (acc : List UInt8) (x : ByteArray) (W : World), IsBuilderF 39 5 w.heap.size w.heap.size (byteCells acc) W → acc.length + x.size ≤ 100000000000000 → w.heap.size ≤ W.heap.size →
      Calls Tryd.prog 33 #[.pointer (some ⟨w.heap.size, 0, none⟩), .string x] W fun e w' => e = .returned (.tuple #[.int .i64 x.size, .nilIface]) ∧ (IsBuilderF 39 5 w.heap.size w.heap.size (byteCells (acc ++ x.data.toList)) w' ∧ Below w.heap.size W w') := by
    intro acc x W h h1 h2
    refine (Bld.WriteString_k _ _ _ x W h (by rw [byteCells_length]; omega) h2).mono ?_
    rintro e w' ⟨rfl, k1, k2, _⟩
    exact ⟨rfl, by rw [byteCells_append]; exact k1, k2⟩
  have HWS := Lib.hid WS
  have GL := Lib.hid hGl
  clear WS hGl
  have hl : s.data.toList.length = s.size := by simp
  have HL := Lib.hid hl
  clear hl
  go_enter Tryd.func13, Tryd.ntmps13
  go_wp2
  go_step3
  go_wp2_with fail
  go_step3
  go_wp2_with fail
  go_loopw [4, 5, 6] (fun fv bv av wr => ∃ (f a : Nat) (b : Bool) (acc : List UInt8), fv = .int .i64 (f : Int) ∧ bv = .bool b ∧ av = .int .i64 (a : Int) ∧ f ≤ a ∧ a ≤ s.size ∧ acc ++ wordF (pc s.data.toList f a) b (s.data.toList.drop a) = wordL s.data.toList ∧ acc.length ≤ 11000000 * a ∧ IsBuilderF 39 5 w.heap.size w.heap.size (byteCells acc) wr ∧ Below w.heap.size w wr) (fun _ _ av _ => s.size - (RowKit.intOf av).toNat)
  case atStart => exact ⟨0, 0, false, [], rfl, rfl, rfl, Nat.le_refl _, Nat.zero_le _, rfl, by simp, IsBuilderF.of (Lib.fresh_isBuilder 39 5 w), (Below.refl _ w).alloc (Nat.le_refl _) _⟩
  case round =>
    obtain ⟨f, a, b, acc, rfl, rfl, rfl, hfa, has, he, hal, hI, hB⟩ := hrel
    have HE := Lib.hid he; have HI := Lib.hid hI; have HB := Lib.hid hB; have HAL := Lib.hid hal
    clear he hI hB hal
    by_cases hlt : a < s.size
    · have hlti : (a : Int) < (s.size : Int) := by omega
      have hasi : (a : Int) ≤ (s.size : Int) := by omega
      obtain ⟨U, hU⟩ : ∃ U, s.extract a s.size = U := ⟨_, rfl⟩
      have hUd : U.data.toList = s.data.toList.drop a := by rw [← hU, extract_list, List.take_of_length_le (by rw [HL.out]; exact Nat.le_refl _)]
      have hUz : U.size ≤ 1100000 := by rw [← hU]; simp; omega
      obtain ⟨m, hm⟩ := (GL.out.below HB.out).maxl
      have IX := Lib.hid (fun (W : World) (h : W.cell? ⟨1, 0, none⟩ = some (.int .i64 m)) => Tryd.strings_Index U (⟨#[61, 63]⟩ : ByteArray) m W (by omega) h)
      have HM := Lib.hid hm
      rw [hUd, show (⟨#[61, 63]⟩ : ByteArray).data.toList = [61, 63] from rfl] at IX
      clear hm
      by_cases hneg : index (s.data.toList.drop a) [61, 63] < 0
      · have he2 : acc ++ vl (s.data.toList.drop f) = wordL s.data.toList := by rw [← HE.out, dec_end _ _ _ _ hfa (by rw [HL.out]; omega) hneg]
        generalize index (s.data.toList.drop a) [61, 63] = ix at *
        obtain ⟨V, hV⟩ : ∃ V, s.extract f s.size = V := ⟨_, rfl⟩
        have hVd : V.data.toList = s.data.toList.drop f := by rw [← hV, extract_list, List.take_of_length_le (by rw [HL.out]; exact Nat.le_refl _)]
        have hVz : V.size ≤ 1100000 := by rw [← hV]; simp; omega
        have VC := Lib.hid (fun W => valid_c V (by omega) W)
        have hvl : (vl V.data.toList).length ≤ 3300000 := by (have := vl_len V.data.toList; have h3 : V.data.toList.length = V.size := (by simp); omega)
        rw [← hVd] at he2
        have HE2 := Lib.hid he2; have HVL := Lib.hid hvl
        clear he2 hVd hvl
        have hfi : (f : Int) ≤ (s.size : Int) := by omega
        have hfs : f ≤ s.size := by omega
        generalize vl V.data.toList = vv at *
        go_wp2_with (first
          | (go_at_call 31; refine (IX.out _ HM.out).mono ?_; rintro e W0 ⟨rfl, rfl⟩)
          | (go_at_call 17; refine (VC.out _).mono ?_; rintro e W1 ⟨rfl, b1⟩; have B1 := Lib.hid b1; clear b1)
          | (go_at_call 33; refine (HWS.out acc _ _ (IsBuilderF.below HI.out B1.out) (by rw [mk_size]; have := HVL.out; have := HAL.out; omega) (HB.out.trans (B1.out.mono HB.out.size)).size).mono ?_; rintro e W2 ⟨rfl, k1, k2⟩; have K1 := Lib.hid k1; have K2 := Lib.hid ((HB.out.trans (B1.out.mono HB.out.size)).trans k2); clear k1 k2)
          | (go_at_call 34; refine (Tryd.Builder_String_any_k w.heap.size w.heap.size _ _ K1.out K2.out.size).mono ?_; rintro e W3 ⟨rfl, _, b3, _⟩; have B3 := Lib.hid b3; clear b3))
        first | go_ret | (rw [Exit.noGoto_ret]; go_ret) | (rw [Exit.noGoto_ret]; change Exit.noGoto _ Exit.ret _ _; rw [Exit.noGoto_ret]; go_ret)
        exact ⟨by rw [← HE2.out]; rfl, K2.out.trans B3.out⟩
      · obtain ⟨i, hi⟩ : ∃ i : Nat, index (s.data.toList.drop a) [61, 63] = (i : Int) := ⟨(index (s.data.toList.drop a) [61, 63]).toNat, by omega⟩
        obtain ⟨hcl, hsk⟩ := dec_skip _ f a i b hfa (by rw [HL.out]; omega) hi
        rw [HL.out] at hcl
        rw [hi] at IX
        clear hneg hi
        obtain ⟨c, hc⟩ : ∃ c, a + i = c := ⟨_, rfl⟩
        rw [hc] at hcl hsk
        have hac : (a : Int) + (i : Int) = (c : Int) := by omega
        have hfc : f ≤ c := by omega
        have hcs : c ≤ s.size := by omega
        have hcsi : (c : Int) ≤ (s.size : Int) := by omega
        have hfci : (f : Int) ≤ (c : Int) := by omega
        obtain ⟨U2, hU2⟩ : ∃ U, s.extract c s.size = U := ⟨_, rfl⟩
        have hUd2 : U2.data.toList = s.data.toList.drop c := by rw [← hU2, extract_list, List.take_of_length_le (by rw [HL.out]; exact Nat.le_refl _)]
        have hUz2 : U2.size ≤ 1100000 := by rw [← hU2]; simp; omega
        have ONE := Lib.hid (fun W g => one_c U2 hUz2 W g)
        rw [hUd2] at ONE
        have hn1 := one_len1 (s.data.toList.drop c)
        have hn2 := one_le (s.data.toList.drop c)
        rw [List.length_drop, HL.out] at hn1 hn2
        have hno := dec_no s.data.toList f c b hfc (by rw [HL.out]; omega)
        have hye := dec_yes s.data.toList f c b
        have HSK := Lib.hid hsk; have HAC := Lib.hid hc
        clear hsk hUd2 hc hUd
        generalize oneL (s.data.toList.drop c) = d at *
        obtain ⟨tt, n⟩ := d
        simp only at ONE hn1 hn2 hno hye
        have hai : a ≤ c := by have := HAC.out; omega
        have HNO := Lib.hid hno; have HYE := Lib.hid hye
        clear hno hye
        by_cases hn : n = 0
        · subst hn
          go_wp2_with (first
            | (go_at_call 31; refine (IX.out _ HM.out).mono ?_; rintro e W0 ⟨rfl, rfl⟩)
            | (go_at_call 11; refine (ONE.out _ (GL.out.below HB.out)).mono ?_; rintro e W1 ⟨rfl, b1⟩; have B1 := Lib.hid b1; clear b1))
          go_roundw
          case rel =>
            have := HAL.out
            exact ⟨f, c + 1, b, acc, rfl, rfl, by go_num, by omega, by omega, by rw [← HNO.out (by simp), ← HSK.out]; exact HE.out, by omega, IsBuilderF.below HI.out B1.out, HB.out.trans (B1.out.mono HB.out.size)⟩
          case measure => simp [RowKit.intOf]; omega
        · have hni : ¬ (n : Int) = 0 := by omega
          obtain ⟨P, hP⟩ : ∃ P, s.extract f c = P := ⟨_, rfl⟩
          have hPd : P.data.toList = pc s.data.toList f c := by rw [← hP, extract_list]; rfl
          have hPz : P.size ≤ 1100000 := by rw [← hP]; simp; omega
          have VP := Lib.hid (fun W => valid_c P (by omega) W)
          have TP := Lib.hid (fun W => trim_c P (by omega) W)
          have hvl : (vl P.data.toList).length ≤ 3300000 := by (have := vl_len P.data.toList; have h3 : P.data.toList.length = P.size := (by simp); omega)
          have htz : (⟨tt.toArray⟩ : ByteArray).size = tt.length := mk_size tt
          have htl : tt.length ≤ 6600000 := by omega
          have hte := trim_white P.data.toList
          have hye := HYE.out hn
          rw [← hPd] at hye
          have HPD := Lib.hid hPd; have HYE2 := Lib.hid hye; have HVL := Lib.hid hvl; have HTZ := Lib.hid htz
          clear HNO HYE hPd hvl hye htz hn1
          have hcn : c + n ≤ s.size := by omega
          have hcni : (c : Int) + (n : Int) ≤ (s.size : Int) := by omega
          have hxs : (⟨(Lib.trimS P.data.toList [32, 9, 10, 13]).toArray⟩ : ByteArray).data.toList = Lib.trimS P.data.toList [32, 9, 10, 13] := rfl
          generalize (⟨(Lib.trimS P.data.toList [32, 9, 10, 13]).toArray⟩ : ByteArray) = TT at *
          generalize Lib.trimS P.data.toList [32, 9, 10, 13] = tl at *
          have HVV : Hid ((⟨(vl P.data.toList).toArray⟩ : ByteArray).data.toList = vl P.data.toList) := Lib.hid rfl
          have HTX : Hid ((⟨tt.toArray⟩ : ByteArray).data.toList = tt) := Lib.hid rfl
          have hvz : (⟨(vl P.data.toList).toArray⟩ : ByteArray).size ≤ 3300000 := by rw [mk_size]; exact HVL.out
          generalize (⟨(vl P.data.toList).toArray⟩ : ByteArray) = VV at *
          generalize (⟨tt.toArray⟩ : ByteArray) = TX at *
          cases b with
          | false =>
            go_wp2_with (first
              | (go_at_call 31; refine (IX.out _ HM.out).mono ?_; rintro e W0 ⟨rfl, rfl⟩)
              | (go_at_call 11; refine (ONE.out _ (GL.out.below HB.out)).mono ?_; rintro e W1 ⟨rfl, b1⟩; have B1 := Lib.hid (HB.out.trans (b1.mono HB.out.size)); have I1 := Lib.hid (IsBuilderF.below HI.out b1); clear b1)
              | (go_at_call 17; refine (VP.out _).mono ?_; rintro e W2 ⟨rfl, b2⟩; have B2 := Lib.hid (B1.out.trans (b2.mono B1.out.size)); have I2 := Lib.hid (IsBuilderF.below I1.out b2); clear b2)
              | (go_at_call 33; first
                | ((with_reducible refine (HWS.out acc VV _ I2.out (by have := HVL.out; have := HAL.out; omega) B2.out.size).mono ?_); rintro e W3 ⟨rfl, k1, k2⟩; have I3 := Lib.hid k1; have B3 := Lib.hid (B2.out.trans k2); clear k1 k2)
                | ((with_reducible refine (HWS.out (acc ++ VV.data.toList) TX _ I3.out (by have := HVL.out; have := HAL.out; have := HTZ.out; rw [List.length_append, HVV.out]; omega) B3.out.size).mono ?_); rintro e W4 ⟨rfl, k1, k2⟩; have I4 := Lib.hid k1; have B4 := Lib.hid (B3.out.trans k2); clear k1 k2)))
            go_roundw
            case rel =>
              have hal := HAL.out; have hvl := HVL.out
              exact ⟨c + n, c + n, true, acc ++ VV.data.toList ++ TX.data.toList, by go_num, rfl, by go_num, Nat.le_refl _, hcn, by rw [← HE.out, HSK.out, ← HPD.out, HYE2.out, if_neg (by simp), HTX.out, HVV.out]; simp, by rw [List.length_append, List.length_append, HVV.out, HTX.out]; omega, I4.out, B4.out⟩
            case measure => simp [RowKit.intOf]; omega
          | true =>
            by_cases hw : P.data.toList.all white = true
            · have ht0 : TT.toList = [] := by rw [toList_eq, hxs, hte.2 hw]
              have ht1 : TT.toList.isEmpty = true := by rw [ht0]; rfl
              go_wp2_with (first
                | (go_at_call 31; refine (IX.out _ HM.out).mono ?_; rintro e W0 ⟨rfl, rfl⟩)
                | (go_at_call 11; refine (ONE.out _ (GL.out.below HB.out)).mono ?_; rintro e W1 ⟨rfl, b1⟩; have B1 := Lib.hid (HB.out.trans (b1.mono HB.out.size)); have I1 := Lib.hid (IsBuilderF.below HI.out b1); clear b1)
                | (go_at_call 32; refine (TP.out _).mono ?_; rintro e W5 ⟨rfl, b5⟩; have B5 := Lib.hid (B1.out.trans (b5.mono B1.out.size)); have I5 := Lib.hid (IsBuilderF.below I1.out b5); clear b5)
                | (go_at_call 33; (refine (HWS.out acc TX _ I5.out (by have := HAL.out; have := HTZ.out; omega) B5.out.size).mono ?_; rintro e W4 ⟨rfl, k1, k2⟩; have I4 := Lib.hid k1; have B4 := Lib.hid (B5.out.trans k2); clear k1 k2)))
              go_roundw
              case rel =>
                have hal := HAL.out; have hvl := HVL.out
                exact ⟨c + n, c + n, true, acc ++ TX.data.toList, by go_num, rfl, by go_num, Nat.le_refl _, hcn, by rw [← HE.out, HSK.out, ← HPD.out, HYE2.out, if_pos (by simp [hw]), HTX.out]; simp, by rw [List.length_append, HTX.out]; omega, I4.out, B4.out⟩
              case measure => simp [RowKit.intOf]; omega
            · have ht0 : ¬ TT.toList = [] := by rw [toList_eq, hxs]; exact fun h => hw (hte.1 h)
              have ht1 : TT.toList.isEmpty = false := by
                cases h : TT.toList with
                | nil => exact absurd h ht0
                | cons x y => rfl
              go_wp2_with (first
                | (go_at_call 31; refine (IX.out _ HM.out).mono ?_; rintro e W0 ⟨rfl, rfl⟩)
                | (go_at_call 11; refine (ONE.out _ (GL.out.below HB.out)).mono ?_; rintro e W1 ⟨rfl, b1⟩; have B1 := Lib.hid (HB.out.trans (b1.mono HB.out.size)); have I1 := Lib.hid (IsBuilderF.below HI.out b1); clear b1)
                | (go_at_call 32; refine (TP.out _).mono ?_; rintro e W5 ⟨rfl, b5⟩; have B5 := Lib.hid (B1.out.trans (b5.mono B1.out.size)); have I5 := Lib.hid (IsBuilderF.below I1.out b5); clear b5)
                | (go_at_call 17; refine (VP.out _).mono ?_; rintro e W2 ⟨rfl, b2⟩; have B2 := Lib.hid (B5.out.trans (b2.mono B5.out.size)); have I2 := Lib.hid (IsBuilderF.below I5.out b2); clear b2)
                | (go_at_call 33; first
                  | ((with_reducible refine (HWS.out acc VV _ I2.out (by have := HVL.out; have := HAL.out; omega) B2.out.size).mono ?_); rintro e W3 ⟨rfl, k1, k2⟩; have I3 := Lib.hid k1; have B3 := Lib.hid (B2.out.trans k2); clear k1 k2)
                  | ((with_reducible refine (HWS.out (acc ++ VV.data.toList) TX _ I3.out (by have := HVL.out; have := HAL.out; have := HTZ.out; rw [List.length_append, HVV.out]; omega) B3.out.size).mono ?_); rintro e W4 ⟨rfl, k1, k2⟩; have I4 := Lib.hid k1; have B4 := Lib.hid (B3.out.trans k2); clear k1 k2)))
              go_roundw
              case rel =>
                have hal := HAL.out; have hvl := HVL.out
                exact ⟨c + n, c + n, true, acc ++ VV.data.toList ++ TX.data.toList, by go_num, rfl, by go_num, Nat.le_refl _, hcn, by rw [← HE.out, HSK.out, ← HPD.out, HYE2.out, if_neg (by simp [hw]), HTX.out, HVV.out]; simp, by rw [List.length_append, List.length_append, HVV.out, HTX.out]; omega, I4.out, B4.out⟩
              case measure => simp [RowKit.intOf]; omega
    · have he2 : acc ++ vl (s.data.toList.drop f) = wordL s.data.toList := by rw [← HE.out, dec_fin _ _ _ _ (by rw [HL.out]; omega)]
      have hlti : ¬ (a : Int) < (s.size : Int) := by omega
      obtain ⟨V, hV⟩ : ∃ V, s.extract f s.size = V := ⟨_, rfl⟩
      have hVd : V.data.toList = s.data.toList.drop f := by rw [← hV, extract_list, List.take_of_length_le (by rw [HL.out]; exact Nat.le_refl _)]
      have hVz : V.size ≤ 1100000 := by rw [← hV]; simp; omega
      have VC := Lib.hid (fun W => valid_c V (by omega) W)
      have hvl : (vl V.data.toList).length ≤ 3300000 := by (have := vl_len V.data.toList; have h3 : V.data.toList.length = V.size := (by simp); omega)
      rw [← hVd] at he2
      have HE2 := Lib.hid he2; have HVL := Lib.hid hvl
      clear he2 hVd hvl
      have hfi : (f : Int) ≤ (s.size : Int) := by omega
      have hfs : f ≤ s.size := by omega
      generalize vl V.data.toList = vv at *
      go_wp2_with (first
        | (go_at_call 17; refine (VC.out _).mono ?_; rintro e W1 ⟨rfl, b1⟩; have B1 := Lib.hid b1; clear b1)
        | (go_at_call 33; refine (HWS.out acc _ _ (IsBuilderF.below HI.out B1.out) (by rw [mk_size]; have := HVL.out; have := HAL.out; omega) (HB.out.trans (B1.out.mono HB.out.size)).size).mono ?_; rintro e W2 ⟨rfl, k1, k2⟩; have K1 := Lib.hid k1; have K2 := Lib.hid ((HB.out.trans (B1.out.mono HB.out.size)).trans k2); clear k1 k2)
        | (go_at_call 34; refine (Tryd.Builder_String_any_k w.heap.size w.heap.size _ _ K1.out K2.out.size).mono ?_; rintro e W3 ⟨rfl, _, b3, _⟩; have B3 := Lib.hid b3; clear b3))
      first | go_ret | (rw [Exit.noGoto_ret]; go_ret) | (rw [Exit.noGoto_ret]; change Exit.noGoto _ Exit.ret _ _; rw [Exit.noGoto_ret]; go_ret)
      exact ⟨by rw [← HE2.out]; rfl, K2.out.trans B3.out⟩
theorem word_Decode.calls (s r : ByteArray) (w : World) (hGl : Glob w) (h : word_Decode.f s = some r) :
    Calls Tryd.prog 13 #[.string s] w fun e w' => e = .returned (.string r) ∧ Below w.heap.size w w' := by
  obtain ⟨h1, rfl⟩ := of_guard h
  exact Decode_c s h1 w hGl
end Go.Proofs.YtokkgjiofhhlkaaDoor.WordL
namespace Go.Proofs.YtokkgjiofhhlkaaDoor.WordL
open Go.RowKit Go.Lib Go.Proofs.YtokkgjiofhhlkaaDoor Go.Proofs.YtokkgjiofhhlkaaDoor.Pure
set_option linter.unusedVariables false
set_option linter.unusedSimpArgs false
theorem okC_low (c : UInt8) : okC c = true → c.toNat < 128 := by
  unfold okC; intro h; have := of_decide_eq_true h; omega
def badR (x : Nat) : Bool := decide ((x : Int) < 32) || decide (126 < (x : Int))
theorem idx_ok (s : ByteArray) : ∀ (f pos : Nat), s.size ≤ pos + f → decide (0 ≤ idxFuncFrom badR true s f pos) = !((s.data.toList.drop pos).all okC)
  | 0, pos, h => by
    rw [List.drop_eq_nil_of_le (by simp; omega)]; rfl
  | f + 1, pos, h => by
    have hl : s.data.toList.length = s.size := by simp
    unfold idxFuncFrom
    by_cases hp : pos < s.size
    · rw [if_pos hp, decode_list]
      have hc : s.data.toList.drop pos = s.data.toList[pos] :: s.data.toList.drop (pos + 1) := List.drop_eq_getElem_cons (by rw [hl]; exact hp)
      generalize s.data.toList[pos]'(by rw [hl]; exact hp) = c at hc
      have hb : byteAt (s.data.toList.drop pos) 0 = c.toNat := by rw [hc]; rfl
      by_cases h1 : c.toNat < 128
      · have hd : uDec (s.data.toList.drop pos) = (c.toNat, 1) := by unfold uDec; rw [hb, if_pos h1]
        rw [hd, hc, List.all_cons]
        simp only
        have ih := idx_ok s f (pos + 1) (by omega)
        by_cases hk : okC c = true
        · have hn : ¬ badR c.toNat = true := by
            unfold okC at hk; have := of_decide_eq_true hk
            unfold badR; simp; omega
          rw [if_neg hn, ih, hk, Bool.true_and]
        · have hn : badR c.toNat = true := by
            unfold okC at hk
            have : ¬ (32 ≤ c.toNat ∧ c.toNat ≤ 126) := fun h => hk (decide_eq_true h)
            unfold badR; simp; omega
          rw [if_pos hn, Bool.eq_false_iff.2 hk]
          simp
      · have hd := (dec_highs (s.data.toList.drop pos) (by rw [hc]; simp) (by rw [hb]; omega)).1
        have hn : badR (uDec (s.data.toList.drop pos)).1 = true := by unfold badR; simp; omega
        rw [if_pos hn, hc, List.all_cons]
        have hk : okC c = false := by
          rw [Bool.eq_false_iff]; intro h; exact h1 (okC_low c h)
        rw [hk]; simp
    · rw [if_neg hp, List.drop_eq_nil_of_le (by rw [hl]; omega)]; rfl
theorem idx_all (s : ByteArray) : decide (0 ≤ idxFunc badR true s) = !(s.data.toList.all okC) := by
  have := idx_ok s s.size 0 (by omega)
  rw [List.drop_zero] at this
  exact this
theorem bad_c (W : World) (x : Nat) (hx : x ≤ 1114111) : Calls Tryd.prog 38 #[.int .i32 (x : Int)] W fun e w' => e = .returned (.bool (badR x)) ∧ Below W.heap.size W w' := by
  unfold badR
  by_cases h1 : (x : Int) < 32
  · have h1' : x < 32 := by omega
    go_enter Tryd.func38, Tryd.ntmps38
    go_wp2
    go_ret
    refine ⟨?_, Below.refl _ _⟩
    simp [h1']
    try omega
  · have h1' : ¬ x < 32 := by omega
    go_enter Tryd.func38, Tryd.ntmps38
    go_wp2
    go_ret
    refine ⟨?_, Below.refl _ _⟩
    simp [h1']
    try omega
theorem containsF_c (s : ByteArray) (W : World) : Calls Tryd.prog 37 #[.string s, .func (.func 38) #[] #[]] W fun e w' => e = .returned (.bool (!(s.data.toList.all okC))) ∧ Below W.heap.size W w' := by
  have h := Tryd.strings_ContainsFunc_grows 38 #[] (enters_of Tryd.func38 (by kernel_rfl) rfl) badR s W (fun W2 x hx _ => bad_c W2 x hx)
  rw [idx_all] at h
  exact h
theorem words_step (v : List UInt8) (h : v ≠ []) : wordsL v = wordOf (v.take (chunk v.length v 0)) :: wordsL (v.drop (chunk v.length v 0)) := by
  obtain ⟨n, hn⟩ : ∃ n, v.length = n + 1 := ⟨v.length - 1, by have := List.length_pos_iff.2 h; omega⟩
  have hp := chunk_pos v.length v h (Nat.le_refl _)
  have e : chunks (n + 1) v = v.take (chunk v.length v 0) :: chunks n (v.drop (chunk v.length v 0)) := by
    simp only [chunks]; rw [if_neg h]
  unfold wordsL
  rw [hn, e, List.map_cons, chunks_more _ _ (Nat.le_refl _) n (by rw [List.length_drop]; omega), ← hn]
theorem words_nil : wordsL [] = [] := rfl
theorem wordOf_52 (x : List UInt8) (h : x.length ≤ 30) : (wordOf x).length ≤ 52 := by
  rw [wordOf_len, B64.b64_len]; omega
theorem inter_len : ∀ ws : List (List UInt8), (∀ w ∈ ws, w.length ≤ 52) → ([32].intercalate ws).length ≤ 53 * ws.length
  | [], _ => by rw [inter_nil]; simp
  | [w], h => by rw [inter_one]; have := h w (by simp); simp only [List.length_cons, List.length_nil]; omega
  | w :: v :: r, h => by
    have := h w (by simp)
    have ih := inter_len (v :: r) (fun w hw => h w (List.mem_cons_of_mem _ hw))
    rw [inter_cons, List.length_append, List.length_cons]
    simp only [List.length_cons] at ih ⊢; omega
theorem infoStr : (Tryd.prog.info? 9).map (fun i => (i.zero, i.size, i.bytes)) = some (some (.string ⟨#[]⟩), 1, 16) := by kernel_rfl
def word_Encode.f (s : ByteArray) : Option ByteArray := if s.size ≤ 1100000 then some ⟨(encL s.data.toList).toArray⟩ else none
set_option maxRecDepth 100000 in
set_option maxHeartbeats 8000000 in
theorem Encode_c (s : ByteArray) (hs : s.size ≤ 1100000) (w : World) (hGl : Glob w) :
    Calls Tryd.prog 15 #[.string s] w fun e w' => e = .returned (.string ⟨(encL s.data.toList).toArray⟩) ∧ Below w.heap.size w w' := by
  obtain ⟨m, hm⟩ := hGl.maxl
  have CO := Lib.hid (Tryd.strings_Contains s (⟨#[61, 63]⟩ : ByteArray) m w (by omega) hm)
  have CF := Lib.hid (fun W => containsF_c s W)
  have GL := Lib.hid hGl
  clear hm hGl
  rw [show Lib.contains s.data.toList (⟨#[61, 63]⟩ : ByteArray).data.toList = decide (0 ≤ index s.data.toList [61, 63]) from rfl] at CO
  have hpl : plainE s.data.toList = (!(decide (0 ≤ index s.data.toList [61, 63])) && s.data.toList.all okC) := by
    unfold plainE
    congr 1
    rw [← decide_not]; exact decide_eq_decide.2 (by omega)
  have HPL := Lib.hid hpl
  clear hpl
  generalize decide (0 ≤ index s.data.toList [61, 63]) = cb at *
  generalize s.data.toList.all okC = fb at *
  have VS := Lib.hid (fun W => valid_c s (by omega) W)
  have hvz : (⟨(vl s.data.toList).toArray⟩ : ByteArray).size ≤ 3300000 := by
    rw [mk_size]; have := vl_len s.data.toList; have : s.data.toList.length = s.size := by simp
    omega
  have hvd : (⟨(vl s.data.toList).toArray⟩ : ByteArray).data.toList = vl s.data.toList := rfl
  have HVD := Lib.hid hvd
  clear hvd
  generalize (⟨(vl s.data.toList).toArray⟩ : ByteArray) = V0 at *
  go_enter Tryd.func15, Tryd.ntmps15
  go_upto_region 1 with fail
  go_cut [15] (fun v wc => v = .bool (plainE s.data.toList) ∧ Below w.heap.size w wc)
  case first =>
    cases cb with
    | true =>
      go_wp2_with (go_at_call 36; refine CO.out.mono ?_; rintro e w1 ⟨rfl, rfl⟩)
      go_meet
      case rel => exact ⟨by rw [HPL.out]; rfl, Below.refl _ _⟩
    | false =>
      cases fb with
      | true =>
        go_wp2_with (first
          | (go_at_call 36; refine CO.out.mono ?_; rintro e w1 ⟨rfl, rfl⟩)
          | (go_at_call 37; refine (CF.out _).mono ?_; rintro e w2 ⟨rfl, b2⟩; have B2 := Lib.hid b2; clear b2))
        go_meet
        case rel => exact ⟨by rw [HPL.out]; rfl, B2.out⟩
      | false =>
        go_wp2_with (first
          | (go_at_call 36; refine CO.out.mono ?_; rintro e w1 ⟨rfl, rfl⟩)
          | (go_at_call 37; refine (CF.out _).mono ?_; rintro e w2 ⟨rfl, b2⟩; have B2 := Lib.hid b2; clear b2))
        go_meet
        case rel => exact ⟨by rw [HPL.out]; rfl, B2.out⟩
  case rest =>
    obtain ⟨rfl, hbc⟩ := hcut
    have HBC := Lib.hid hbc
    clear hbc CO CF HPL
    have HE1 : Hid (plainE s.data.toList = true → encL s.data.toList = s.data.toList) := Lib.hid (fun hp => by unfold encL; rw [if_pos hp])
    have HE2 : Hid (plainE s.data.toList = false → encL s.data.toList = [32].intercalate (wordsL V0.data.toList) ∧ V0.data.toList ≠ []) := Lib.hid (fun hp => by
      rw [HVD.out]
      exact ⟨by unfold encL; rw [if_neg (by rw [hp]; exact Bool.false_ne_true)], vl_ne _ (plainE_not (by rw [hp]; exact Bool.false_ne_true))⟩)
    generalize plainE s.data.toList = pb at *
    cases pb with
    | true =>
      have HP := Lib.hid (HE1.out rfl)
      go_wp2
      go_ret
      exact ⟨by rw [HP.out, mk_back]; rfl, HBC.out⟩
    | false =>
      have HP := Lib.hid (HE2.out rfl).1
      have HV0 := Lib.hid (HE2.out rfl).2
      clear HE1 HE2
      go_wp2_with (go_at_call 17; refine (VS.out _).mono ?_; rintro e w2 ⟨rfl, b2⟩; have HB2 := Lib.hid (HBC.out.trans (b2.mono HBC.out.size)); clear b2)
      go_loopw [3, 4] (fun sv vv wr => ∃ (x : Value) (v : ByteArray) (ws : List ByteArray), x = sv ∧ vv = .string v ∧ v.size ≤ 3300000 ∧ ws.length + v.size ≤ 3300000 ∧ ws.map (·.data.toList) ++ wordsL v.data.toList = wordsL V0.data.toList ∧ (∀ x ∈ ws, x.size ≤ 52) ∧ wr.ownsRow w.heap.size 9 1 x ws.length (ws.map Value.string) ∧ Below w.heap.size w wr) (fun _ vv _ => match vv with | .string t => t.size | _ => 0)
      case atStart => exact ⟨_, V0, [], rfl, rfl, by omega, by simpa using hvz, rfl, by simp, World.ownsRow_nil _ _ _ _, HB2.out⟩
      case round =>
        obtain ⟨x, v, ws, rfl, rfl, hvz2, hwv, hw, hle, hown, hbw⟩ := hrel
        have HW := Lib.hid hw; have HLE := Lib.hid hle; have HO := Lib.hid hown; have HB := Lib.hid hbw
        clear hw hle hown hbw hvz
        have hvl : v.data.toList.length = v.size := by simp
        by_cases hv : v.size = 0
        · have hnil : v.data.toList = [] := List.length_eq_zero_iff.1 (by rw [hvl]; exact hv)
          have hve : v.toList = [] := by rw [toList_eq]; exact hnil
          have hve2 : v.toList.isEmpty = true := by rw [hve]; rfl
          have hwe : ws.map (·.data.toList) = wordsL V0.data.toList := by have := HW.out; rw [hnil, words_nil, List.append_nil] at this; exact this
          have hwn : ws.length ≠ 0 := by
            intro h0
            have h1 : ws = [] := List.length_eq_zero_iff.1 h0
            rw [h1, words_step _ HV0.out] at hwe
            simp at hwe
          have hjl := inter_len (wordsL V0.data.toList) (by
            rw [← hwe]; intro y hy; obtain ⟨z, hz, rfl⟩ := List.mem_map.1 hy
            have := HLE.out z hz; simpa using this)
          rw [← hwe, List.length_map] at hjl
          rw [← hwe] at HP
          have JO : ∀ (g cap : Nat) (W : World), W.ownsRow w.heap.size 9 1 (.slice (some ⟨g, 0, none⟩) ws.length cap) ws.length (ws.map Value.string) → ws.length ≤ cap → Calls Tryd.prog 41 #[.slice (some ⟨g, 0, none⟩) ws.length cap, .string (⟨#[32]⟩ : ByteArray)] W fun e w' => e = .returned (.string ⟨([32].intercalate (ws.map (·.data.toList))).toArray⟩) ∧ Below W.heap.size W w' := by
            intro g cap W hown hcap
            have h := Tryd.strings_Join g 0 cap ws (⟨#[32]⟩ : ByteArray) W (fun j y hj => by
              have := hown.cells (g := g) rfl j (.string y) (by rw [List.getElem?_map, hj]; rfl)
              have e : (⟨g, 0, none⟩ : Addr).add j = ⟨g, 0 + j, none⟩ := by unfold Addr.add; split <;> simp_all
              rw [e] at this
              exact this) (hown.lt g rfl).2 (by omega) hcap (by
                show ([32].intercalate (ws.map (·.data.toList))).length ≤ _
                omega)
            exact h
          have HJO := Lib.hid JO
          have HWN := Lib.hid hwn
          clear JO hwe hjl hnil hwn
          rcases HO.out.2 with ⟨hx, h0⟩ | ⟨g, cap, cur, hx, hg, hh, hcp, hrest⟩
          · exact absurd h0 HWN.out
          · have HO2 := Lib.hid HO.out
            subst hx
            have HCP := Lib.hid hcp
            clear hg hh hcp hrest
            go_wp2_with (go_at_call 41; refine (HJO.out _ _ _ HO2.out (by have := HCP.out; omega)).mono ?_; rintro e w9 ⟨rfl, b9⟩; have B9 := Lib.hid b9; clear b9)
            go_ret
            exact ⟨by rw [HP.out]; rfl, HB.out.trans (B9.out.mono HB.out.size)⟩
        · have hne : v.data.toList ≠ [] := by intro e; rw [e] at hvl; simp at hvl; omega
          have HNE := Lib.hid hne
          have hve : ¬ v.toList = [] := by rw [toList_eq]; exact hne
          have hve2 : v.toList.isEmpty = false := by
            cases h : v.toList with
            | nil => exact absurd h hve
            | cons x y => rfl
          have HVL := Lib.hid hvl
          clear hne hvl
          go_wp2
          go_loopw [5] (fun nv wq => ∃ n : Nat, nv = .int .i64 (n : Int) ∧ n ≤ v.size ∧ n ≤ 30 ∧ chunk (v.data.toList.drop n).length (v.data.toList.drop n) n = chunk v.data.toList.length v.data.toList 0 ∧ wq.ownsRow w.heap.size 9 1 x ws.length (ws.map Value.string) ∧ Below w.heap.size w wq) (fun nv _ => v.size - (RowKit.intOf nv).toNat)
          case atStart => exact ⟨0, rfl, Nat.zero_le _, by omega, rfl, HO.out, HB.out⟩
          case round =>
            obtain ⟨n, rfl, hn1, hn2, hch, hown3, hb3⟩ := hrel
            have HO3 := Lib.hid hown3; have HB3 := Lib.hid hb3
            have HNZ0 := Lib.hid hch
            clear hown3 hb3
            by_cases hlt : n < v.size
            · have hlti : (n : Int) < (v.size : Int) := by omega
              have hni : (n : Int) ≤ (v.size : Int) := by omega
              obtain ⟨U, hU⟩ : ∃ U, v.extract n v.size = U := ⟨_, rfl⟩
              have hUd : U.data.toList = v.data.toList.drop n := by rw [← hU, extract_list, List.take_of_length_le (by simp)]
              have hUz : ¬ U.size = 0 := by rw [← hU]; simp; omega
              have hdne : v.data.toList.drop n ≠ [] := by intro e; have := congrArg List.length e; rw [List.length_drop, HVL.out] at this; simp at this; omega
              have hdg : Lib.decodeGo U = uDec (v.data.toList.drop n) := by
                unfold Lib.decodeGo
                rw [if_neg hUz, decode_list, List.drop_zero, hUd]
              have DR := Lib.hid (fun W g => Tryd.utf8_DecodeRuneInString U W g)
              rw [hdg] at DR
              have hw4 := width4 _ hdne
              have hwd := dec_width _ hdne
              rw [List.length_drop, HVL.out] at hwd
              have hstep : chunk (v.data.toList.drop n).length (v.data.toList.drop n) n = if 30 < n + (uDec (v.data.toList.drop n)).2 then n else chunk (v.data.toList.drop (n + (uDec (v.data.toList.drop n)).2)).length (v.data.toList.drop (n + (uDec (v.data.toList.drop n)).2)) (n + (uDec (v.data.toList.drop n)).2) := by
                obtain ⟨q, hq⟩ : ∃ q, (v.data.toList.drop n).length = q + 1 := ⟨(v.data.toList.drop n).length - 1, by have := List.length_pos_iff.2 hdne; omega⟩
                rw [hq]
                simp only [chunk]
                rw [if_neg hdne, List.drop_drop]
                split
                · rfl
                · exact chunk_more _ _ _ (Nat.le_refl _) q (by rw [List.length_drop] at hq ⊢; omega)
              rw [hch] at hstep
              have HST := Lib.hid hstep
              clear hstep hdg hUd hUz hdne hch HNZ0
              generalize uDec (v.data.toList.drop n) = d at *
              obtain ⟨r, k⟩ := d
              simp only at DR hw4 hwd HST
              by_cases h30 : 30 < n + k
              · have h30i : (30 : Int) < (n : Int) + (k : Int) := by omega
                have hch : chunk v.data.toList.length v.data.toList 0 = n := by rw [HST.out, if_pos h30]
                have HNZ : Hid (1 ≤ n) := Lib.hid (by omega)
                clear HST
                obtain ⟨T, hT⟩ : ∃ T, v.extract 0 n = T := ⟨_, rfl⟩
                have hTd : T.data.toList = v.data.toList.take n := by rw [← hT, extract_list, List.drop_zero]
                have hTz : T.size ≤ 1100000 := by rw [← hT]; simp; omega
                have EC := Lib.hid (fun W => B64.Encode_c T hTz W)
                rw [hTd] at EC
                obtain ⟨Y, hY⟩ : ∃ Y, v.extract n v.size = Y := ⟨_, rfl⟩
                have hUY : Y = U := hY.symm.trans hU
                subst hUY
                clear hU
                have hYd : Y.data.toList = v.data.toList.drop n := by rw [← hY, extract_list, List.take_of_length_le (by simp)]
                have hYz : Y.size = v.size - n := by rw [← hY]; simp
                have hnv : n ≤ v.size := by omega
                have hnvi : (n : Int) ≤ (v.size : Int) := by omega
                have hws : ws.map (·.data.toList) ++ wordOf (v.data.toList.take n) :: wordsL Y.data.toList = wordsL V0.data.toList := by
                  rw [← HW.out, words_step _ (HNE.out), hch, hYd]
                have hwl : (wordOf (v.data.toList.take n)).length ≤ 52 := wordOf_52 _ (by rw [List.length_take]; omega)
                have HWS := Lib.hid hws; have HWL := Lib.hid hwl; have HYZ := Lib.hid hYz
                have hwx : ((⟨#[61, 63, 117, 116, 102, 45, 56, 63, 66, 63]⟩ : ByteArray) ++ (⟨(B64.b64EncL (v.data.toList.take n)).toArray⟩ : ByteArray) ++ (⟨#[63, 61]⟩ : ByteArray)).data.toList = wordOf (v.data.toList.take n) := by
                  simp [wordOf]
                have HWX := Lib.hid hwx
                clear hws hwl hYz hwx hYd hTd hch
                have hXz : (⟨(B64.b64EncL (v.data.toList.take n)).toArray⟩ : ByteArray).size ≤ 100 := by rw [mk_size, B64.b64_len, List.length_take]; omega
                generalize hX : (⟨(B64.b64EncL (v.data.toList.take n)).toArray⟩ : ByteArray) = X at *
                generalize wordOf (v.data.toList.take n) = wx at *
                clear hX
                obtain ⟨i0, hi, hi0, hi1, hi2⟩ := info_parts infoStr
                have hwl2 : ws.length ≤ 3300000 := by omega
                go_wp2_with (first
                  | (go_at_call 39; refine (DR.out _ (GL.out.below HB3.out).tabs).mono ?_; rintro e w4 ⟨rfl, b4⟩; have HB4 := Lib.hid (HB3.out.trans (b4.mono HB3.out.size)); have HO4 := Lib.hid (ownsRow_below HO3.out b4); clear b4)
                  | (go_at_call 40; refine (EC.out _).mono ?_; rintro e w5 ⟨rfl, b5⟩; have HB5 := Lib.hid (HB4.out.trans (b5.mono HB4.out.size)); have HO5 := Lib.hid (ownsRow_below HO4.out b5); clear b5)
                  | (at_builtin; refine wpList_append_own _ rfl (.tmp 39) (.tmp 46) 27 rfl w.heap.size 9 i0 _ 1 16 Tryd.underlying27 hi hi0 hi1 hi2 rfl (by decide) _ _ _ rfl (HO5.out.alloc _) ⟨w5.heap.size, 0, none⟩ 1 1 [.string (⟨#[61, 63, 117, 116, 102, 45, 56, 63, 66, 63]⟩ ++ X ++ ⟨#[63, 61]⟩)] rfl rfl ?c1 ?c2 ?c3 ?c4 ?c5 ?_))
                case c1 =>
                  intro j u hj
                  cases j with
                  | zero =>
                    obtain rfl := Option.some.inj hj
                    rw [show (⟨w5.heap.size, 0, none⟩ : Addr).add 0 = ⟨w5.heap.size, 0, none⟩ from by unfold Addr.add; simp]
                    simp
                  | succ j => exact absurd hj (by simp)
                case c2 => intro u hu; simp at hu; subst hu; rfl
                case c3 => simp only [maxLen]; omega
                case c4 => omega
                case c5 => have := HB5.out.size; simp; omega
                intro v1 w6 hown1 hgr1 _
                have hw5 : w.heap.size ≤ w5.heap.size := HB5.out.size
                have HO6 := Lib.hid hown1
                have HB6 := Lib.hid ((HB5.out.alloc HB5.out.size _).grown hgr1 (by simp; omega) (fun k hk => (HO5.out.lt k hk).1))
                obtain ⟨a1, n1, k1, rfl⟩ : ∃ a n c, v1 = .slice a n c := by
                  rcases HO6.out.2 with ⟨rfl, _⟩ | ⟨_, _, _, rfl, _⟩
                  · exact ⟨_, _, _, rfl⟩
                  · exact ⟨_, _, _, rfl⟩
                clear hown1 hgr1
                go_wp2
                go_roundw
                case rel =>
                  have := HYZ.out; have hz := HNZ.out
                  refine ⟨_, Y, ws ++ [⟨#[61, 63, 117, 116, 102, 45, 56, 63, 66, 63]⟩ ++ X ++ ⟨#[63, 61]⟩], rfl, rfl, by omega, by rw [List.length_append]; simp only [List.length_cons, List.length_nil]; omega, ?_, ?_, ?_, HB6.out⟩
                  · rw [List.map_append, List.map_cons, List.map_nil, HWX.out, List.append_assoc]; exact HWS.out
                  · intro x hx
                    rcases List.mem_append.1 hx with hx | hx
                    · exact HLE.out x hx
                    · rw [List.mem_singleton.1 hx]
                      have h1 := congrArg List.length HWX.out
                      have h2 := HWL.out
                      rw [Array.length_toList] at h1
                      have h3 : ((⟨#[61, 63, 117, 116, 102, 45, 56, 63, 66, 63]⟩ ++ X ++ ⟨#[63, 61]⟩) : ByteArray).size = wx.length := h1
                      omega
                  · have := HO6.out
                    simpa using this
                case measure => have := HYZ.out; have hz := HNZ.out; simp only; omega
              · have h30i : ¬ (30 : Int) < (n : Int) + (k : Int) := by omega
                go_wp2_with (go_at_call 39; refine (DR.out _ (GL.out.below HB3.out).tabs).mono ?_; rintro e w4 ⟨rfl, b4⟩; have HB4 := Lib.hid (HB3.out.trans (b4.mono HB3.out.size)); have HO4 := Lib.hid (ownsRow_below HO3.out b4); clear b4)
                go_roundw
                case rel => exact ⟨n + k, by go_num, by omega, by omega, by rw [HST.out, if_neg h30], HO4.out, HB4.out⟩
                case measure => simp [RowKit.intOf]; omega
            · have hlti : ¬ (n : Int) < (v.size : Int) := by omega
              have hch2 : chunk v.data.toList.length v.data.toList 0 = n := by
                rw [← hch, List.drop_eq_nil_of_le (by rw [HVL.out]; omega)]; rfl
              have HNZ : Hid (1 ≤ n) := Lib.hid (by omega)
              clear hch HNZ0
              have hch := hch2
              clear hch2
              have HB4 := HB3; have HO4 := HO3
              obtain ⟨T, hT⟩ : ∃ T, v.extract 0 n = T := ⟨_, rfl⟩
              have hTd : T.data.toList = v.data.toList.take n := by rw [← hT, extract_list, List.drop_zero]
              have hTz : T.size ≤ 1100000 := by rw [← hT]; simp; omega
              have EC := Lib.hid (fun W => B64.Encode_c T hTz W)
              rw [hTd] at EC
              obtain ⟨Y, hY⟩ : ∃ Y, v.extract n v.size = Y := ⟨_, rfl⟩
              have hYd : Y.data.toList = v.data.toList.drop n := by rw [← hY, extract_list, List.take_of_length_le (by simp)]
              have hYz : Y.size = v.size - n := by rw [← hY]; simp
              have hnv : n ≤ v.size := by omega
              have hnvi : (n : Int) ≤ (v.size : Int) := by omega
              have hws : ws.map (·.data.toList) ++ wordOf (v.data.toList.take n) :: wordsL Y.data.toList = wordsL V0.data.toList := by
                rw [← HW.out, words_step _ (HNE.out), hch, hYd]
              have hwl : (wordOf (v.data.toList.take n)).length ≤ 52 := wordOf_52 _ (by rw [List.length_take]; omega)
              have HWS := Lib.hid hws; have HWL := Lib.hid hwl; have HYZ := Lib.hid hYz
              have hwx : ((⟨#[61, 63, 117, 116, 102, 45, 56, 63, 66, 63]⟩ : ByteArray) ++ (⟨(B64.b64EncL (v.data.toList.take n)).toArray⟩ : ByteArray) ++ (⟨#[63, 61]⟩ : ByteArray)).data.toList = wordOf (v.data.toList.take n) := by
                simp [wordOf]
              have HWX := Lib.hid hwx
              clear hws hwl hYz hwx hYd hTd hch
              have hXz : (⟨(B64.b64EncL (v.data.toList.take n)).toArray⟩ : ByteArray).size ≤ 100 := by rw [mk_size, B64.b64_len, List.length_take]; omega
              generalize hX : (⟨(B64.b64EncL (v.data.toList.take n)).toArray⟩ : ByteArray) = X at *
              generalize wordOf (v.data.toList.take n) = wx at *
              clear hX
              obtain ⟨i0, hi, hi0, hi1, hi2⟩ := info_parts infoStr
              have hwl2 : ws.length ≤ 3300000 := by omega
              go_wp2_with (first
                | (go_at_call 40; refine (EC.out _).mono ?_; rintro e w5 ⟨rfl, b5⟩; have HB5 := Lib.hid (HB4.out.trans (b5.mono HB4.out.size)); have HO5 := Lib.hid (ownsRow_below HO4.out b5); clear b5)
                | (at_builtin; refine wpList_append_own _ rfl (.tmp 39) (.tmp 46) 27 rfl w.heap.size 9 i0 _ 1 16 Tryd.underlying27 hi hi0 hi1 hi2 rfl (by decide) _ _ _ rfl (HO5.out.alloc _) ⟨w5.heap.size, 0, none⟩ 1 1 [.string (⟨#[61, 63, 117, 116, 102, 45, 56, 63, 66, 63]⟩ ++ X ++ ⟨#[63, 61]⟩)] rfl rfl ?c1 ?c2 ?c3 ?c4 ?c5 ?_))
              case c1 =>
                intro j u hj
                cases j with
                | zero =>
                  obtain rfl := Option.some.inj hj
                  rw [show (⟨w5.heap.size, 0, none⟩ : Addr).add 0 = ⟨w5.heap.size, 0, none⟩ from by unfold Addr.add; simp]
                  simp
                | succ j => exact absurd hj (by simp)
              case c2 => intro u hu; simp at hu; subst hu; rfl
              case c3 => simp only [maxLen]; omega
              case c4 => omega
              case c5 => have := HB5.out.size; simp; omega
              intro v1 w6 hown1 hgr1 _
              have hw5 : w.heap.size ≤ w5.heap.size := HB5.out.size
              have HO6 := Lib.hid hown1
              have HB6 := Lib.hid ((HB5.out.alloc HB5.out.size _).grown hgr1 (by simp; omega) (fun k hk => (HO5.out.lt k hk).1))
              obtain ⟨a1, n1, k1, rfl⟩ : ∃ a n c, v1 = .slice a n c := by
                rcases HO6.out.2 with ⟨rfl, _⟩ | ⟨_, _, _, rfl, _⟩
                · exact ⟨_, _, _, rfl⟩
                · exact ⟨_, _, _, rfl⟩
              clear hown1 hgr1
              go_wp2
              go_roundw
              case rel =>
                have := HYZ.out; have hz := HNZ.out
                refine ⟨_, Y, ws ++ [⟨#[61, 63, 117, 116, 102, 45, 56, 63, 66, 63]⟩ ++ X ++ ⟨#[63, 61]⟩], rfl, rfl, by omega, by rw [List.length_append]; simp only [List.length_cons, List.length_nil]; omega, ?_, ?_, ?_, HB6.out⟩
                · rw [List.map_append, List.map_cons, List.map_nil, HWX.out, List.append_assoc]; exact HWS.out
                · intro x hx
                  rcases List.mem_append.1 hx with hx | hx
                  · exact HLE.out x hx
                  · rw [List.mem_singleton.1 hx]
                    have h1 := congrArg List.length HWX.out
                    have h2 := HWL.out
                    rw [Array.length_toList] at h1
                    have h3 : ((⟨#[61, 63, 117, 116, 102, 45, 56, 63, 66, 63]⟩ ++ X ++ ⟨#[63, 61]⟩) : ByteArray).size = wx.length := h1
                    omega
                · have := HO6.out
                  simpa using this
              case measure => have := HYZ.out; have hz := HNZ.out; simp only; omega
theorem word_Encode.calls (s r : ByteArray) (w : World) (hGl : Glob w) (h : word_Encode.f s = some r) :
    Calls Tryd.prog 15 #[.string s] w fun e w' => e = .returned (.string r) ∧ Below w.heap.size w w' := by
  obtain ⟨h1, rfl⟩ := of_guard h
  exact Encode_c s h1 w hGl
end Go.Proofs.YtokkgjiofhhlkaaDoor.WordL
namespace Go.Proofs.YtokkgjiofhhlkaaDoor.R
open Go.RowKit Go.Proofs.YtokkgjiofhhlkaaDoorW.PrintWords Go.Proofs.YtokkgjiofhhlkaaDoorW.PrintLast Go.Proofs.YtokkgjiofhhlkaaDoorW.PrintMore
attribute [local go_sem] max2_int min2_int max_two min_two max_three min_three max_four min_four
set_option linter.unusedVariables false
set_option linter.unusedSimpArgs false
def errW : Option Int → Value
  | none => .nilIface
  | some c => .iface 0 (.int .i64 c)
theorem errW_none : errW none = .nilIface := rfl
theorem errW_some (c : Int) : errW (some c) = .iface 0 (.int .i64 c) := rfl
theorem info5 : (Tryd.prog.info? 5).map (fun i => (i.zero, i.size, i.bytes)) = some (some (.int .u8 0), 1, 1) := by kernel_rfl
end Go.Proofs.YtokkgjiofhhlkaaDoor.R
namespace Go.Proofs.YtokkgjiofhhlkaaDoor.Pure
open Go.RowKit Go.Lib Go.Proofs.YtokkgjiofhhlkaaDoor Go.Proofs.YtokkgjiofhhlkaaDoor.R Go.Proofs.YtokkgjiofhhlkaaDoorW.PrintWords Go.Proofs.YtokkgjiofhhlkaaDoorW.PrintLast Go.Proofs.YtokkgjiofhhlkaaDoorW.PrintMore
set_option linter.unusedVariables false
set_option linter.unusedSimpArgs false
theorem shr_small' (x : Int) (n : Nat) (h : n ≤ 63) : shr .i64 x (n : Int) = x / 2 ^ n := by
  unfold shr
  rw [Int.toNat_natCast, Nat.min_eq_left (by show n ≤ 64; omega)]
end Go.Proofs.YtokkgjiofhhlkaaDoor.Pure
namespace Go.Proofs.YtokkgjiofhhlkaaDoor
open Go.RowKit Go.Lib Go.Proofs.YtokkgjiofhhlkaaDoor.Pure
set_option linter.unusedVariables false
def word_One.f (s : ByteArray) : Option (ByteArray × Int) := if s.size ≤ 1100000 then some (⟨(WordL.oneL s.data.toList).1.toArray⟩, ((WordL.oneL s.data.toList).2 : Int)) else none
theorem word_One.calls (s r1 : ByteArray) (r2 : Int) (w : World) (hGl : Glob w) (h : word_One.f s = some (r1, r2)) :
    Calls Tryd.prog 11 #[.string s] w fun e w' => e = .returned (.tuple #[.string r1, .int .i64 r2]) ∧ Below w.heap.size w w' := WordL.word_One.calls s r1 r2 w hGl h
def word_Decode.f (s : ByteArray) : Option ByteArray := if s.size ≤ 1100000 then some ⟨(WordL.wordL s.data.toList).toArray⟩ else none
theorem word_Decode.calls (s r : ByteArray) (w : World) (hGl : Glob w) (h : word_Decode.f s = some r) :
    Calls Tryd.prog 13 #[.string s] w fun e w' => e = .returned (.string r) ∧ Below w.heap.size w w' := WordL.word_Decode.calls s r w hGl h
def word_Encode.f (s : ByteArray) : Option ByteArray := if s.size ≤ 1100000 then some ⟨(WordL.encL s.data.toList).toArray⟩ else none
theorem word_Encode.calls (s r : ByteArray) (w : World) (hGl : Glob w) (h : word_Encode.f s = some r) :
    Calls Tryd.prog 15 #[.string s] w fun e w' => e = .returned (.string r) ∧ Below w.heap.size w w' := WordL.word_Encode.calls s r w hGl h
end Go.Proofs.YtokkgjiofhhlkaaDoor
namespace Go.Proofs.YtokkgjiofhhlkaaDoor.P
open Go.RowKit Go.Proofs.YtokkgjiofhhlkaaDoorW.PrintWords Go.Proofs.YtokkgjiofhhlkaaDoorW.PrintLast Go.Proofs.YtokkgjiofhhlkaaDoorW.PrintMore
attribute [local go_sem] max2_int min2_int max_two min_two max_three min_three max_four min_four
set_option linter.unusedVariables false
set_option linter.unusedSimpArgs false
def errW : Option Int → Value
  | none => .nilIface
  | some c => .iface 0 (.int .i64 c)
theorem errW_none : errW none = .nilIface := rfl
theorem errW_some (c : Int) : errW (some c) = .iface 0 (.int .i64 c) := rfl
theorem info5 : (Tryd.prog.info? 5).map (fun i => (i.zero, i.size, i.bytes)) = some (some (.int .u8 0), 1, 1) := by kernel_rfl
end Go.Proofs.YtokkgjiofhhlkaaDoor.P
