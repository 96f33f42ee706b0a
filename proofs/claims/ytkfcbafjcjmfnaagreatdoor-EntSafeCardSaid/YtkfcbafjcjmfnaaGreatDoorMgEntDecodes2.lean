/- Parts of the proof of the law EntDecodes, in one text: EntL, GenF, ReplD, GenG, GenC, GenH, EntW, Alph, EntX, E0, E1, E2, Pure12a, EntR, EntY, P0, P1. -/
import Derived.Test.YtkfcbafjcjmfnaaGreatDoorMgEntDecodes1
import Derived.Shelf.Strings.MapGrows
set_option linter.unusedVariables false
set_option linter.unusedSimpArgs false
namespace Go.Proofs.YtkfcbafjcjmfnaaGreatDoor.Ent
open Go.RowKit Go.Proofs.YtkfcbafjcjmfnaaGreatDoor.Gen Go.Proofs.YtkfcbafjcjmfnaaGreatDoor.Pure Go.Proofs.YtkfcbafjcjmfnaaGreatDoor.Num
set_option linter.unusedVariables false
set_option linter.unusedSimpArgs false
def cutL (c : UInt8) : List UInt8 → Option (List UInt8 × List UInt8)
  | [] => none
  | x :: r => if x = c then some ([], r) else (cutL c r).map fun p => (x :: p.1, p.2)
def digL (base most : Nat) (l : List UInt8) : Option Nat := if l.length < 1 ∨ most < l.length then none else digG base l 0
def numL (n : Nat) : List UInt8 := if n = 0 then [239, 191, 189] else if 128 ≤ n ∧ n ≤ 159 then singlesL [UInt8.ofNat n] else Lib.encodeRune (n : Int)
def namesT : List (List UInt8 × Int) := [([97, 109, 112], 38), ([108, 116], 60), ([103, 116], 62), ([113, 117, 111, 116], 34), ([97, 112, 111, 115], 39), ([110, 98, 115, 112], 160), ([99, 111, 112, 121], 169), ([114, 101, 103], 174), ([104, 101, 108, 108, 105, 112], 8230), ([110, 100, 97, 115, 104], 8211), ([109, 100, 97, 115, 104], 8212), ([101, 117, 114, 111], 8364), ([108, 115, 113, 117, 111], 8216), ([114, 115, 113, 117, 111], 8217), ([108, 100, 113, 117, 111], 8220), ([114, 100, 113, 117, 111], 8221)]
def nameL (l : List UInt8) : Option Int := (namesT.find? fun p => p.1 == l).map (·.2)
theorem nameL_mem {l : List UInt8} {c : Int} (h : nameL l = some c) : (l, c) ∈ namesT := by
  unfold nameL at h
  obtain ⟨p, hp, rfl⟩ := Option.map_eq_some_iff.1 h
  have h1 := List.find?_some hp
  have h2 := List.mem_of_find?_eq_some hp
  simp only [beq_iff_eq] at h1
  rw [← h1]; exact h2
def numbL (r : List UInt8) : Option Nat := match r with
  | [] => none
  | x :: r' => if x = 120 ∨ x = 88 then digL 16 6 r' else digL 10 7 (x :: r')
def signL (l : List UInt8) : Option (List UInt8) := match l with
  | [] => none
  | x :: r => if x = 35 then (numbL r).map numL else (nameL (x :: r)).map Lib.encodeRune
def oneL (r : List UInt8) : Option (List UInt8 × Nat) := match cutL 59 r with
  | some (nm, _) => (signL nm).map fun t => (t, nm.length + 1)
  | none => none
def dec : Nat → List UInt8 → List UInt8
  | _, [] => []
  | k + 1, _ :: r => dec k r
  | 0, c :: r => if c = 38 then (match oneL r with
    | some (t, n) => t ++ dec n r
    | none => 38 :: dec 0 r) else c :: dec 0 r
theorem dec_nil (k : Nat) : dec k [] = [] := by cases k <;> rfl
theorem dec_drop : ∀ (l : List UInt8) (k : Nat), dec k l = dec 0 (l.drop k)
  | [], k => by rw [dec_nil, List.drop_nil, dec_nil]
  | c :: r, 0 => rfl
  | c :: r, k + 1 => by
    show dec k r = dec 0 (r.drop k)
    exact dec_drop r k
theorem dec_plain (c : UInt8) (r : List UInt8) (h : c ≠ 38) : dec 0 (c :: r) = c :: dec 0 r := by
  simp only [dec, if_neg h]
theorem dec_none (r : List UInt8) (h : oneL r = none) : dec 0 (38 :: r) = 38 :: dec 0 r := by
  simp only [dec, h, if_true]
theorem dec_some (r t : List UInt8) (n : Nat) (h : oneL r = some (t, n)) : dec 0 (38 :: r) = t ++ dec 0 (r.drop n) := by
  simp only [dec, h, if_true]
  rw [dec_drop]
theorem cutL_none (c : UInt8) : ∀ (l : List UInt8), cutL c l = none ↔ c ∉ l
  | [] => by simp [cutL]
  | x :: r => by
    unfold cutL
    by_cases h : x = c
    · simp [h]
    · rw [if_neg h, Option.map_eq_none_iff, cutL_none c r]
      have h2 : ¬ c = x := fun e => h e.symm
      simp [h2]
theorem cutL_some (c : UInt8) : ∀ (l a b : List UInt8), cutL c l = some (a, b) ↔ l = a ++ c :: b ∧ c ∉ a
  | [], a, b => by simp [cutL]
  | x :: r, a, b => by
    unfold cutL
    by_cases h : x = c
    · rw [if_pos h]
      constructor
      · intro e
        injection e with e
        injection e with e1 e2
        subst e1; subst e2; subst h
        simp
      · rintro ⟨e, hn⟩
        cases a with
        | nil => simp at e; rw [e.2]
        | cons y a => simp at e; exact absurd (by rw [← e.1]; simp [h]) hn
    · rw [if_neg h, Option.map_eq_some_iff]
      constructor
      · rintro ⟨p, hp, e⟩
        obtain ⟨a', b'⟩ := p
        injection e with e1 e2
        subst e1; subst e2
        obtain ⟨e, hn⟩ := (cutL_some c r a' b').1 hp
        subst e
        have h2 : ¬ c = x := fun e => h e.symm
        exact ⟨rfl, by simp [hn, h2]⟩
      · rintro ⟨e, hn⟩
        cases a with
        | nil => simp at e; exact absurd e.1 h
        | cons y a =>
          simp at e
          refine ⟨(a, b), (cutL_some c r a b).2 ⟨e.2, fun hm => hn (by simp [hm])⟩, ?_⟩
          rw [e.1]
theorem oneL_eq (nm r : List UInt8) (h : (59 : UInt8) ∉ nm) : oneL (nm ++ 59 :: r) = (signL nm).map fun t => (t, nm.length + 1) := by
  unfold oneL
  rw [(cutL_some 59 (nm ++ 59 :: r) nm r).2 ⟨rfl, h⟩]
theorem one_amp (r : List UInt8) : oneL (97 :: 109 :: 112 :: 59 :: r) = some ([38], 4) := oneL_eq [97, 109, 112] r (by decide)
theorem one_lt (r : List UInt8) : oneL (108 :: 116 :: 59 :: r) = some ([60], 3) := oneL_eq [108, 116] r (by decide)
theorem one_gt (r : List UInt8) : oneL (103 :: 116 :: 59 :: r) = some ([62], 3) := oneL_eq [103, 116] r (by decide)
theorem one_nbsp (r : List UInt8) : oneL (110 :: 98 :: 115 :: 112 :: 59 :: r) = some ([194, 160], 5) := oneL_eq [110, 98, 115, 112] r (by decide)
def qq (c : UInt8) : List UInt8 := if c = 34 then [38, 113, 117, 111, 116, 59] else [c]
def quo (l : List UInt8) : List UInt8 := l.flatMap qq
theorem quo_append (a b : List UInt8) : quo (a ++ b) = quo a ++ quo b := by simp [quo]
theorem quo_cons (c : UInt8) (r : List UInt8) : quo (c :: r) = qq c ++ quo r := rfl
theorem hit_cases (c : UInt8) (r : List UInt8) : (hitL (c :: r) = none ∧ esc 0 (c :: r) = c :: esc 0 r ∧ c ≠ 38 ∧ c ≠ 60 ∧ c ≠ 62) ∨
    (c = 38 ∧ esc 0 (c :: r) = 38 :: 97 :: 109 :: 112 :: 59 :: esc 0 r) ∨ (c = 60 ∧ esc 0 (c :: r) = 38 :: 108 :: 116 :: 59 :: esc 0 r) ∨ (c = 62 ∧ esc 0 (c :: r) = 38 :: 103 :: 116 :: 59 :: esc 0 r) ∨
    (∃ r', c = 194 ∧ r = 160 :: r' ∧ esc 0 (c :: r) = 38 :: 110 :: 98 :: 115 :: 112 :: 59 :: esc 0 r') := by
  by_cases h1 : c = 38
  · subst h1; exact .inr (.inl ⟨rfl, esc_hit (38 :: r) ⟨#[38, 97, 109, 112, 59]⟩ 1 rfl⟩)
  by_cases h2 : c = 60
  · subst h2; exact .inr (.inr (.inl ⟨rfl, esc_hit (60 :: r) ⟨#[38, 108, 116, 59]⟩ 1 rfl⟩))
  by_cases h3 : c = 62
  · subst h3; exact .inr (.inr (.inr (.inl ⟨rfl, esc_hit (62 :: r) ⟨#[38, 103, 116, 59]⟩ 1 rfl⟩)))
  by_cases h4 : c = 194 ∧ ∃ r', r = 160 :: r'
  · obtain ⟨rfl, r', rfl⟩ := h4
    exact .inr (.inr (.inr (.inr ⟨r', rfl, rfl, esc_hit (194 :: 160 :: r') ⟨#[38, 110, 98, 115, 112, 59]⟩ 2 rfl⟩)))
  · have hn : hitL (c :: r) = none := by
      unfold hitL
      split <;> simp_all
    exact .inl ⟨hn, esc_none c r hn, h1, h2, h3⟩
def safeL : List UInt8 → Bool
  | [] => true
  | c :: r => (if c = 38 then (oneL r).isSome else (c != 60 && c != 62)) && safeL r
theorem safe_esc : ∀ (n : Nat) (l : List UInt8), l.length ≤ n → safeL (esc 0 l) = true
  | 0, l, h => by
    obtain rfl : l = [] := List.length_eq_zero_iff.1 (by omega)
    rfl
  | n + 1, [], h => rfl
  | n + 1, c :: r, h => by
    have ih := safe_esc n r (by simp at h; omega)
    rcases hit_cases c r with ⟨_, e, h1, h2, h3⟩ | ⟨rfl, e⟩ | ⟨rfl, e⟩ | ⟨rfl, e⟩ | ⟨r', rfl, rfl, e⟩
    · rw [e]
      simp [safeL, ih, h1, h2, h3]
    · rw [e]; simp [safeL, one_amp, ih]
    · rw [e]; simp [safeL, one_lt, ih]
    · rw [e]; simp [safeL, one_gt, ih]
    · rw [e]; simp [safeL, one_nbsp, safe_esc n r' (by simp at h; omega)]
theorem quo_safe : ∀ (l : List UInt8), safeL l = true → ∀ c ∈ quo l, c ≠ 60 ∧ c ≠ 62 ∧ c ≠ 34
  | [], _, c, h => by simp [quo] at h
  | x :: r, hs, c, h => by
    simp only [safeL, Bool.and_eq_true] at hs
    rw [quo_cons, List.mem_append] at h
    rcases h with h | h
    · unfold qq at h
      by_cases hx : x = 34
      · rw [if_pos hx] at h
        have : ∀ c ∈ ([38, 113, 117, 111, 116, 59] : List UInt8), c ≠ 60 ∧ c ≠ 62 ∧ c ≠ 34 := by decide
        exact this c h
      · rw [if_neg hx] at h
        obtain rfl : c = x := by simpa using h
        have h1 := hs.1
        by_cases hc : c = 38
        · subst hc; decide
        · rw [if_neg hc] at h1
          simp at h1
          exact ⟨h1.1, h1.2, hx⟩
    · exact quo_safe r hs.2 c h
theorem enc4 (r : Int) : (Lib.encodeRune r).length ≤ 4 := by
  have := Lib.encodeRuneZ_length r
  have h2 : 1 ≤ (Lib.encodeRune r).length ∧ (Lib.encodeRune r).length ≤ 4 := by simpa [Lib.encodeRune] using this
  exact h2.2
theorem numL_len (n : Nat) : (numL n).length ≤ 4 := by
  unfold numL
  split
  · decide
  · split
    · exact Nat.le_trans (singles_len _) (by simp)
    · exact enc4 _
theorem numbL_len (r : List UInt8) (n : Nat) (h : numbL r = some n) : 1 ≤ r.length := by
  cases r with
  | nil => simp [numbL] at h
  | cons => simp
theorem nameL_len (l : List UInt8) (c : Int) (h : nameL l = some c) : (Lib.encodeRune c).length ≤ l.length + 1 := by
  have : ∀ p ∈ namesT, (Lib.encodeRune p.2).length ≤ p.1.length + 1 := by decide
  exact this _ (nameL_mem h)
theorem signL_len (l t : List UInt8) (h : signL l = some t) : t.length ≤ l.length + 2 := by
  cases l with
  | nil => simp [signL] at h
  | cons x r =>
    rw [show signL (x :: r) = if x = 35 then (numbL r).map numL else (nameL (x :: r)).map Lib.encodeRune from rfl] at h
    by_cases hx : x = 35
    · rw [if_pos hx, Option.map_eq_some_iff] at h
      obtain ⟨n, hn, rfl⟩ := h
      have := numL_len n
      have := numbL_len r n hn
      simp; omega
    · rw [if_neg hx, Option.map_eq_some_iff] at h
      obtain ⟨c, hc, rfl⟩ := h
      have := nameL_len _ c hc
      omega
theorem oneL_len (r t : List UInt8) (n : Nat) (h : oneL r = some (t, n)) : t.length ≤ n + 1 ∧ 1 ≤ n ∧ n ≤ r.length := by
  unfold oneL at h
  cases hc : cutL 59 r with
  | none => rw [hc] at h; simp at h
  | some p =>
    obtain ⟨a, b⟩ := p
    rw [hc] at h
    simp only [Option.map_eq_some_iff] at h
    obtain ⟨t', ht, e⟩ := h
    injection e with e1 e2
    subst e1; subst e2
    obtain ⟨rfl, _⟩ := (cutL_some 59 r a b).1 hc
    have := signL_len a t' ht
    simp; omega
theorem dec_len : ∀ (n : Nat) (l : List UInt8), l.length ≤ n → (dec 0 l).length ≤ l.length
  | 0, l, h => by
    obtain rfl : l = [] := List.length_eq_zero_iff.1 (by omega)
    simp [dec]
  | n + 1, [], h => by simp [dec]
  | n + 1, c :: r, h => by
    by_cases hc : c = 38
    · subst hc
      cases ho : oneL r with
      | none => rw [dec_none r ho]; have := dec_len n r (by simp at h; omega); simp; omega
      | some p =>
        obtain ⟨t, k⟩ := p
        obtain ⟨h1, h2, h3⟩ := oneL_len r t k ho
        rw [dec_some r t k ho, List.length_append]
        have := dec_len n (r.drop k) (by rw [List.length_drop]; simp at h; omega)
        rw [List.length_drop] at this
        simp; omega
    · rw [dec_plain c r hc]; have := dec_len n r (by simp at h; omega); simp; omega
theorem dec_same : ∀ (l : List UInt8), (38 : UInt8) ∉ l → dec 0 l = l
  | [], _ => rfl
  | c :: r, h => by
    simp at h
    rw [dec_plain c r (fun e => h.1 e.symm), dec_same r h.2]
def isA (c : UInt8) : Bool := (decide (97 ≤ c) && decide (c ≤ 122)) || (decide (65 ≤ c) && decide (c ≤ 90)) || (decide (48 ≤ c) && decide (c ≤ 57)) || c == 35
theorem hex_isA (c : UInt8) (h : hexV c < 16) : isA c = true := by
  unfold hexV at h
  unfold isA
  simp only [Bool.or_eq_true, Bool.and_eq_true, decide_eq_true_eq, beq_iff_eq]
  by_cases h1 : 48 ≤ c ∧ c ≤ 57
  · exact .inl (.inr h1)
  rw [if_neg h1] at h
  by_cases h2 : 65 ≤ c ∧ c ≤ 70
  · exact .inl (.inl (.inr ⟨h2.1, UInt8.le_trans h2.2 (by decide)⟩))
  rw [if_neg h2] at h
  by_cases h3 : 97 ≤ c ∧ c ≤ 102
  · exact .inl (.inl (.inl ⟨h3.1, UInt8.le_trans h3.2 (by decide)⟩))
  rw [if_neg h3] at h
  omega
theorem digG_isA (base : Nat) (hb : base ≤ 16) : ∀ (l : List UInt8) (v n : Nat), digG base l v = some n → ∀ c ∈ l, isA c = true
  | [], _, _, _, c, h => by simp at h
  | x :: r, v, n, h, c, hc => by
    unfold digG at h
    by_cases hx : hexV x < base
    · rw [if_pos hx] at h
      rcases List.mem_cons.1 hc with rfl | hc
      · exact hex_isA _ (by omega)
      · exact digG_isA base hb r _ n h c hc
    · rw [if_neg hx] at h; simp at h
theorem digL_isA (base most : Nat) (hb : base ≤ 16) (l : List UInt8) (n : Nat) (h : digL base most l = some n) : ∀ c ∈ l, isA c = true := by
  unfold digL at h
  split at h
  · simp at h
  · exact digG_isA base hb l 0 n h
theorem numbL_isA (l : List UInt8) (n : Nat) (h : numbL l = some n) : ∀ c ∈ l, isA c = true := by
  cases l with
  | nil => simp [numbL] at h
  | cons x r =>
    rw [show numbL (x :: r) = if x = 120 ∨ x = 88 then digL 16 6 r else digL 10 7 (x :: r) from rfl] at h
    by_cases hx : x = 120 ∨ x = 88
    · rw [if_pos hx] at h
      intro c hc
      rcases List.mem_cons.1 hc with rfl | hc
      · rcases hx with rfl | rfl <;> rfl
      · exact digL_isA 16 6 (by omega) r n h c hc
    · rw [if_neg hx] at h
      exact digL_isA 10 7 (by omega) _ n h
theorem signL_isA (l t : List UInt8) (h : signL l = some t) : ∀ c ∈ l, isA c = true := by
  cases l with
  | nil => simp [signL] at h
  | cons x r =>
    rw [show signL (x :: r) = if x = 35 then (numbL r).map numL else (nameL (x :: r)).map Lib.encodeRune from rfl] at h
    by_cases hx : x = 35
    · rw [if_pos hx, Option.map_eq_some_iff] at h
      obtain ⟨n, hn, rfl⟩ := h
      intro c hc
      rcases List.mem_cons.1 hc with rfl | hc
      · subst hx; rfl
      · exact numbL_isA r n hn c hc
    · rw [if_neg hx, Option.map_eq_some_iff] at h
      obtain ⟨c, hc, rfl⟩ := h
      have : ∀ p ∈ namesT, ∀ c ∈ p.1, isA c = true := by decide
      exact this _ (nameL_mem hc)
theorem takeWhile_ends (p : UInt8 → Bool) (a b : List UInt8) (x : UInt8) (ha : ∀ c ∈ a, p c = true) (hx : p x = false) : (a ++ x :: b).takeWhile p = a := by
  induction a with
  | nil => simp [hx]
  | cons y a ih =>
    rw [List.cons_append, List.takeWhile_cons, if_pos (ha y (by simp)), ih (fun c hc => ha c (by simp [hc]))]
theorem one_ref (r : List UInt8) : (if (r.drop (r.takeWhile isA).length).head? = some 59 then (signL (r.takeWhile isA)).map fun t => (t, (r.takeWhile isA).length + 1) else none) = oneL r := by
  have hsplit : r.takeWhile isA ++ r.drop (r.takeWhile isA).length = r := by
    have h := List.takeWhile_append_dropWhile (p := isA) (l := r)
    have h2 : r.drop (r.takeWhile isA).length = r.dropWhile isA := by
      have h3 : ∀ a b : List UInt8, a ++ b = r → r.drop a.length = b := fun a b e => by rw [← e]; simp
      exact h3 _ _ h
    rw [h2]; exact h
  have hall : ∀ c ∈ r.takeWhile isA, isA c = true := fun c hc => by
    have := List.all_takeWhile (p := isA) (l := r)
    exact List.all_eq_true.1 this c hc
  by_cases h : (r.drop (r.takeWhile isA).length).head? = some 59
  · rw [if_pos h]
    obtain ⟨b, hb⟩ : ∃ b, r.drop (r.takeWhile isA).length = 59 :: b := by
      cases hd : r.drop (r.takeWhile isA).length with
      | nil => rw [hd] at h; simp at h
      | cons x b => rw [hd] at h; simp at h; exact ⟨b, by rw [h]⟩
    have h59 : (59 : UInt8) ∉ r.takeWhile isA := fun hm => absurd (hall _ hm) (by decide)
    have := oneL_eq (r.takeWhile isA) b h59
    rw [← hb, hsplit] at this
    exact this.symm
  · rw [if_neg h]
    unfold oneL
    cases hc : cutL 59 r with
    | none => rfl
    | some p =>
      obtain ⟨a, b⟩ := p
      obtain ⟨rfl, hn⟩ := (cutL_some 59 r a b).1 hc
      cases hs : signL a with
      | none => simp [hs]
      | some t =>
        exfalso
        refine h ?_
        rw [takeWhile_ends isA a b 59 (signL_isA a t hs) (by decide)]
        simp
end Go.Proofs.YtkfcbafjcjmfnaaGreatDoor.Ent
namespace Go.Proofs.YtkfcbafjcjmfnaaGreatDoor.Gen
open Go.RowKit Go.Proofs.YtkfcbafjcjmfnaaGreatDoor.Row Go.Proofs.YtkfcbafjcjmfnaaGreatDoor.Repl
set_option linter.unusedVariables false
set_option linter.unusedSimpArgs false
theorem ta_fact (b : Nat) (w : World) : (Instr.typeAssert (.iface 197 (.pointer (some ⟨b, 0, none⟩))) 199 201 true).run Tryz.prog w = .ok (.tuple #[.iface 197 (.pointer (some ⟨b, 0, none⟩)), .bool true]) w := by kernel_rfl
set_option maxHeartbeats 2000000 in
set_option maxRecDepth 100000 in
theorem getWriter_c (b : Nat) (w : World) :
    Calls Tryz.prog 173 #[.iface 197 (.pointer (some ⟨b, 0, none⟩))] w fun e w' => e = .returned (.iface 197 (.pointer (some ⟨b, 0, none⟩))) ∧ w' = w := by
  have q := ta_fact b
  go_enter Tryz.func173, Tryz.ntmps173
  go_wp2
  go_ret
  exact ⟨rfl, rfl⟩
theorem method_asw (b : Nat) (w : World) : (method 309 197 (.pointer (some ⟨b, 0, none⟩)) "WriteString").run Tryz.prog w = .ok (184, .pointer (some ⟨b, 0, none⟩)) w := by kernel_rfl
theorem nil_asw (b : Nat) (w : World) : (nilAhead 309 197 (.pointer (some ⟨b, 0, none⟩)) "WriteString").run Tryz.prog w = .ok (some false) w := by kernel_rfl
theorem ext_drop (s : ByteArray) (i : Nat) : (s.extract i s.size).data.toList = s.data.toList.drop i := by
  rw [ByteArray.data_extract, Array.toList_extract]
  simp only [List.extract]
  exact List.take_of_length_le (by simp)
theorem ext_mid (s : ByteArray) (a i : Nat) : (s.extract a i).data.toList = (s.data.toList.take i).drop a := by
  rw [ByteArray.data_extract, Array.toList_extract]
  simp only [List.extract]
  rw [List.drop_take]
theorem slow_at {w : World} {T a b c d : Nat} (hT : Tbl w T [ptr a, ptr b, ptr c, .pointer none, ptr d]) (x : UInt8) (h : x = 38 ∨ x = 60 ∨ x = 62 ∨ x = 194) : ∃ i y, mapping x.toNat = i ∧ i < 5 ∧ w.cell? ⟨T, i, none⟩ = some (.pointer (some ⟨y, 0, none⟩)) := by
  obtain ⟨m1, m2, m3, m4, m5⟩ := mapping_at
  rcases h with rfl | rfl | rfl | rfl
  · exact ⟨0, a, m1, by decide, by rw [hT.cell]; rfl⟩
  · exact ⟨1, b, m2, by decide, by rw [hT.cell]; rfl⟩
  · exact ⟨2, c, m3, by decide, by rw [hT.cell]; rfl⟩
  · exact ⟨4, d, m5, by decide, by rw [hT.cell]; rfl⟩
theorem lookup_no (M R : Nat) (s : ByteArray) (w : World) (hG : Gen M w R) (h160 : s[0]? ≠ some 160) (l : List UInt8) (hl : s.data.toList = l) (hh : hitL l = none) :
    Calls Tryz.prog 174 #[.pointer (some ⟨R, 0, none⟩), .string s, .bool false] w fun x w' => x = .returned (.tuple #[.string ⟨#[]⟩, .int .i64 0, .bool false]) ∧ ∃ n, w' = w.drewN n := by
  refine (lookup_c M R s w hG h160).mono ?_
  rintro x w' ⟨rfl, hw⟩
  exact ⟨by rw [hl, hh], hw⟩
theorem lookup_yes (M R : Nat) (s : ByteArray) (w : World) (hG : Gen M w R) (h160 : s[0]? ≠ some 160) (l : List UInt8) (hl : s.data.toList = l) (v : ByteArray) (n : Nat) (hh : hitL l = some (v, n)) :
    Calls Tryz.prog 174 #[.pointer (some ⟨R, 0, none⟩), .string s, .bool false] w fun x w' => x = .returned (.tuple #[.string v, .int .i64 (n : Int), .bool true]) ∧ ∃ n, w' = w.drewN n := by
  refine (lookup_c M R s w hG h160).mono ?_
  rintro x w' ⟨rfl, hw⟩
  exact ⟨by rw [hl, hh], hw⟩
structure At (L out : List UInt8) (i last : Nat) : Prop where
  h1 : last ≤ i
  h2 : last ≤ L.length
  h3 : i ≤ L.length + 1
  eq : out ++ (L.take i).drop last ++ esc 0 (L.drop i) = esc 0 L
set_option maxHeartbeats 4000000 in
set_option maxRecDepth 100000 in
theorem gen_WriteString (M R b B : Nat) (s : ByteArray) (w : World) (hG : Gen M w R) (hs : s.size ≤ 1000000) (hA : Asw B w b []) (hB : B ≤ w.heap.size) (hGB : ∀ w', Below B w w' → Gen M w' R) :
    Calls Tryz.prog 172 #[.pointer (some ⟨R, 0, none⟩), .iface 197 (.pointer (some ⟨b, 0, none⟩)), .string s] w fun e w' => (∃ v, e = .returned v) ∧ Asw B w' b (esc 0 s.data.toList) ∧ Below B w w' := by
  have hmf : ∀ (fn : Fn) (first cap : Array Value) (w : World), (Instr.makeFunc fn first cap).run Tryz.prog w = .ok (.func fn first cap) w := fun _ _ _ _ => rfl
  have hm := method_asw
  have hna := nil_asw
  have HGB := Lib.hid hGB; have HA := Lib.hid hA
  have hL : s.data.toList.length = s.size := by simp
  have HL := Lib.hid hL
  clear hGB hA hG hL
  go_enter Tryz.func172, Tryz.ntmps172
  go_wp2_with (go_at_call 173; refine (getWriter_c b _).mono ?_; rintro e w' ⟨rfl, hw⟩; replace hw := hw.symm; subst hw)
  go_loopw [6, 7, 9, 10, 11, 12] (fun v6 v7 v9 v10 v11 v12 wr => ∃ (i last : Nat) (x y : Int) (out : List UInt8), v6 = .int .i64 x ∧ v7 = .nilIface ∧ v9 = .int .i64 (last : Int) ∧ v10 = .int .i64 y ∧ v11 = .bool false ∧ v12 = .int .i64 (i : Int) ∧ At s.data.toList out i last ∧ Asw B wr b out ∧ Below B w wr) (fun _ _ _ _ _ v12 _ => s.size + 2 - (intOf v12).toNat)
  case atStart => exact ⟨0, 0, 0, 0, [], rfl, rfl, rfl, rfl, rfl, rfl, ⟨by omega, by omega, by omega, by simp⟩, HA.out, Below.refl _ _⟩
  case round =>
    obtain ⟨i, last, x, y, out, rfl, rfl, rfl, rfl, rfl, rfl, hat, hasw, hbel⟩ := hrel
    have hl1 := hat.h1
    have hl2 := hat.h2
    have hl3 := hat.h3
    rw [HL.out] at hl2 hl3
    obtain ⟨T, a, b1, c, d, e, h1, h2, h3, h4, h5, h6, h7, hR, hT, n1, n2, n3, n4, n5⟩ := HGB.out wr hbel
    have HAT := Lib.hid hat; have HAS := Lib.hid hasw; have HBE := Lib.hid hbel
    have c1 := hR.prio
    have c2 := hR.tb
    have c3 := hR.ts
    clear hat hasw hbel
    by_cases hfin : i = s.size + 1
    · subst hfin
      have heq := HAT.out.eq
      rw [List.take_of_length_le (show s.data.toList.length ≤ s.size + 1 by rw [HL.out]; omega), List.drop_eq_nil_of_le (show s.data.toList.length ≤ s.size + 1 by rw [HL.out]; omega)] at heq
      simp only [esc, List.append_nil] at heq
      have HEQ := Lib.hid heq
      have g1 : ¬ ((s.size : Int) + 1 ≤ (s.size : Int)) := by omega
      have g2 : (last : Int) ≤ (s.size : Int) := by omega
      clear hR hT n1 n2 n3 n4 n5 heq
      by_cases hls : last = s.size
      · subst hls
        go_wp2
        go_ret2
        refine ⟨⟨_, rfl⟩, ?_, HBE.out⟩
        have := HEQ.out
        rw [List.drop_eq_nil_of_le (show s.data.toList.length ≤ s.size by rw [HL.out]; omega), List.append_nil] at this
        rw [← this]; exact HAS.out
      · have g3 : ¬ (last : Int) = (s.size : Int) := by omega
        have hol : out.length ≤ 6 * s.size := by
          have h := congrArg List.length HEQ.out
          have h2 := esc_len _ s.data.toList (Nat.le_refl _)
          rw [List.length_append] at h
          rw [HL.out] at h2
          omega
        have hez : (s.extract last s.size).size = s.size - last := by simp
        have CW := Lib.hid (asw_WriteString B b out (s.extract last s.size) wr.drew HAS.out (by omega) (by have := HBE.out.size; show B ≤ wr.heap.size; omega))
        go_wp2
        go_region_held3 (fun _ => True) (trivial) (first | (go_at_call 184; refine CW.out.mono ?_; rintro e w5 ⟨rfl, ha5, hb5⟩))
        all_goals go_wp2_with fail
        all_goals go_ret2
        all_goals (refine ⟨⟨_, rfl⟩, ?_, HBE.out.drew.trans hb5⟩; rw [ext_drop, HEQ.out] at ha5; exact ha5)
    · by_cases hend : i = s.size
      · subst hend
        have hnext : At s.data.toList out (s.size + 1) last := by
          refine ⟨by omega, by rw [HL.out]; omega, by rw [HL.out]; omega, ?_⟩
          rw [← HAT.out.eq, List.take_of_length_le (show s.data.toList.length ≤ s.size + 1 by rw [HL.out]; omega), List.take_of_length_le (show s.data.toList.length ≤ s.size by rw [HL.out]; omega), List.drop_eq_nil_of_le (show s.data.toList.length ≤ s.size + 1 by rw [HL.out]; omega), List.drop_eq_nil_of_le (show s.data.toList.length ≤ s.size by rw [HL.out]; omega)]
        have LK2 := Lib.hid (lookup_no M R ByteArray.empty wr (HGB.out wr HBE.out) (by decide) [] rfl rfl)
        have HN := Lib.hid hnext
        clear hR hT n1 n2 n3 n4 n5 hnext
        go_wp2_with (go_at_call 174; refine LK2.out.mono ?_; rintro e w5 ⟨rfl, nq, rfl⟩)
        go_roundw
        case rel => exact ⟨s.size + 1, last, x, y, out, rfl, rfl, rfl, rfl, rfl, by go_num, HN.out, HAS.out, bdrewN HBE.out nq⟩
        case measure => simp [intOf] <;> omega
      · have hlt : i < s.size := by omega
        obtain ⟨k, hk1, hk2, hk3⟩ : ∃ k, s[i] = k ∧ s.data[i]'(by rw [← ByteArray.size_data] at hlt; exact hlt) = k ∧ s.data.toList[i]'(by rw [HL.out]; exact hlt) = k := ⟨_, rfl, rfl, rfl⟩
        have h256 : k.toNat < 256 := UInt8.toNat_lt k
        have h256i : (k.toNat : Int) < 256 := by omega
        have c4 := hR.at k.toNat h256
        have g1 : (i : Int) < (s.size : Int) := by omega
        have g2 : ¬ (i : Int) = (s.size : Int) := by omega
        have g3 : ¬ i = s.size := by omega
        have g4 : (i : Int) ≤ (s.size : Int) := by omega
        have g5 : i ≤ s.size := by omega
        by_cases hslow : k = 38 ∨ k = 60 ∨ k = 62 ∨ k = 194
        · obtain ⟨ix, y2, hix, hix5, c5⟩ := slow_at hT k hslow
          rw [hix] at c4
          have hil : i < s.data.toList.length := by rw [HL.out]; exact hlt
          have g6 : ¬ ix = 5 := by omega
          have g7 : ¬ (ix : Int) = 5 := by omega
          have g8 : (ix : Int) < 5 := by omega
          have h160 : (s.extract i s.size)[0]? ≠ some 160 := by
            have e : (s.extract i s.size)[0]? = some k := by
              rw [getElem?_pos _ 0 (by simp; omega)]
              have := ByteArray.getElem_extract (b := s) (start := i) (stop := s.size) (i := 0) (h := by simp; omega)
              rw [this]; simpa using hk1
            rw [e]
            rcases hslow with h | h | h | h <;> (subst h; decide)
          have HG := HGB.out wr HBE.out
          clear hR hT n1 n2 n3 n4 n5 hslow
          cases hh : hitL (s.data.toList.drop i) with
          | none =>
            have LK := Lib.hid (fun W (hW : Gen M W R) => lookup_no M R (s.extract i s.size) W hW h160 _ (ext_drop s i) hh)
            have HGN := Lib.hid (fun n => show Gen M (wr.drewN n) R from HG)
            have hnext : At s.data.toList out (i + 1) last := by
              refine ⟨by omega, by rw [HL.out]; omega, by rw [HL.out]; omega, ?_⟩
              rw [List.drop_eq_getElem_cons hil, hk3] at hh
              rw [← HAT.out.eq, List.drop_eq_getElem_cons hil, hk3, esc_none k _ hh, List.take_succ_eq_append_getElem hil, hk3, List.drop_append_of_le_length (by rw [List.length_take]; omega)]
              simp
            have HN := Lib.hid hnext
            clear hh hnext HG h160
            go_wp2
            go_quiet (fail)
            rename_i nq
            go_wp2_with (go_at_call 174; refine (LK.out _ (HGN.out nq)).mono ?_; rintro e w5 ⟨rfl, nq2, rfl⟩)
            go_roundw
            case rel => exact ⟨i + 1, last, x, y, out, rfl, rfl, rfl, rfl, rfl, by go_num, HN.out, HAS.out, bdrewN HBE.out (nq + nq2)⟩
            case measure => simp [intOf]; omega
          | some p =>
            obtain ⟨v, n⟩ := p
            obtain ⟨hn1, hn2, hn3, hn4⟩ := hitL_pos _ _ _ hh
            rw [List.length_drop, HL.out] at hn2
            have hin : i + n ≤ s.size := by omega
            have LK := Lib.hid (fun W (hW : Gen M W R) => lookup_yes M R (s.extract i s.size) W hW h160 _ (ext_drop s i) v n hh)
            have HGN := Lib.hid (fun n => show Gen M (wr.drewN n) R from HG)
            have hnext : At s.data.toList (out ++ (s.extract last i).data.toList ++ v.data.toList) (i + n) (i + n) := by
              refine ⟨Nat.le_refl _, by rw [HL.out]; omega, by rw [HL.out]; omega, ?_⟩
              rw [← HAT.out.eq, esc_hit _ v n hh, List.drop_drop, ext_mid, List.drop_eq_nil_of_le (show ((s.data.toList.take (i + n))).length ≤ i + n by rw [List.length_take]; omega)]
              simp
            have hol : out.length ≤ 6 * s.size := by
              have h := congrArg List.length HAT.out.eq
              have h2 := esc_len _ s.data.toList (Nat.le_refl _)
              rw [List.length_append, List.length_append] at h
              rw [HL.out] at h2
              omega
            have hez : (s.extract last i).size = i - last := by simp; omega
            have hel : (s.extract last i).data.toList.length = i - last := by rw [← hez, Array.length_toList, ByteArray.size_data]
            have hbs := HBE.out.size
            have CW1 := Lib.hid (fun W (hW : Asw B W b out) (hBW : B ≤ W.heap.size) => asw_WriteString B b out (s.extract last i) W hW (by omega) hBW)
            have CW2 := Lib.hid (fun W (hW : Asw B W b (out ++ (s.extract last i).data.toList)) (hBW : B ≤ W.heap.size) => asw_WriteString B b (out ++ (s.extract last i).data.toList) v W hW (by rw [List.length_append, hel]; omega) hBW)
            have HN := Lib.hid hnext
            have j1 : (last : Int) ≤ (i : Int) := by omega
            have j2 : (i : Int) + (n : Int) ≤ (s.size : Int) := by omega
            have j3 : ¬ (n : Int) = 0 := by omega
            have j4 : ((n : Int) == 0) = false := by simp; omega
            have j5 : IntKind.i64.wrap ((i : Int) + (n : Int)) = (i : Int) + (n : Int) := IntWalk.i64_in _ (by omega)
            have HASN := Lib.hid (fun n => show Asw B (wr.drewN n) b out from HAS.out)
            have hbN := Lib.hid (fun n => show B ≤ (wr.drewN n).heap.size from Nat.le_trans hB hbs)
            clear hh hnext HG h160
            go_wp2
            go_quiet (fail)
            rename_i nq
            go_wp2_with (go_at_call 174; refine (LK.out _ (HGN.out nq)).mono ?_; rintro e w5 ⟨rfl, nq2, rfl⟩)
            go_region_held3 (fun _ => True) (trivial) (first | (go_at_call 184; refine (CW1.out _ (HASN.out _) (hbN.out _)).mono ?_; rintro e w6 ⟨rfl, ha6, hb6⟩))
            all_goals have HA6 := Lib.hid ha6
            all_goals have HB6 := Lib.hid hb6
            all_goals have hs6 := Lib.hid (Nat.le_trans (hbN.out _) hb6.size)
            all_goals clear ha6 hb6
            all_goals go_wp2_with (go_at_call 184; refine (CW2.out _ HA6.out hs6.out).mono ?_; rintro e w7 ⟨rfl, ha7, hb7⟩)
            all_goals go_roundw
            case rel => exact ⟨i + n, i + n, _, _, _, rfl, rfl, by go_num, rfl, rfl, by go_num, HN.out, ha7, (bdrewN HBE.out _).trans (HB6.out.trans hb7)⟩
            case measure => simp [intOf]; omega
        · obtain ⟨e1, e2, e3, e4⟩ : k ≠ 38 ∧ k ≠ 60 ∧ k ≠ 62 ∧ k ≠ 194 := ⟨fun h => hslow (.inl h), fun h => hslow (.inr (.inl h)), fun h => hslow (.inr (.inr (.inl h))), fun h => hslow (.inr (.inr (.inr h)))⟩
          have hnext : At s.data.toList out (i + 1) last := by
            have hil : i < s.data.toList.length := by rw [HL.out]; exact hlt
            refine ⟨by omega, by rw [HL.out]; omega, by rw [HL.out]; omega, ?_⟩
            rw [← HAT.out.eq, List.drop_eq_getElem_cons hil, hk3, esc_none k _ (fast_none k _ e1 e2 e3 e4), List.take_succ_eq_append_getElem hil, hk3, List.drop_append_of_le_length (by rw [List.length_take]; omega)]
            simp
          have HN := Lib.hid hnext
          have c6 : wr.cell? ⟨T, 3, none⟩ = some (.pointer none) := by rw [hT.cell]; rfl
          rcases fast_map k e1 e2 e3 e4 with hmp | hmp
          · rw [hmp] at c4
            clear hR hT n1 n2 n3 n4 n5 hnext hslow
            go_wp2
            go_quiet (fail)
            rename_i nq
            go_wp2_with fail
            go_roundw
            case rel => exact ⟨i + 1, last, x, y, out, rfl, rfl, rfl, rfl, rfl, by go_num, HN.out, HAS.out, bdrewN HBE.out nq⟩
            case measure => simp [intOf]; omega
          · rw [hmp] at c4
            clear hR hT n1 n2 n3 n4 n5 hnext hslow
            go_wp2
            go_quiet (fail)
            rename_i nq
            go_wp2_with fail
            go_roundw
            case rel => exact ⟨i + 1, last, x, y, out, rfl, rfl, rfl, rfl, rfl, by go_num, HN.out, HAS.out, bdrewN HBE.out nq⟩
            case measure => simp [intOf]; omega
end Go.Proofs.YtkfcbafjcjmfnaaGreatDoor.Gen
namespace Go.Proofs.YtkfcbafjcjmfnaaGreatDoor.Repl
open Go.RowKit Go.Proofs.YtkfcbafjcjmfnaaGreatDoor.Row Go.Proofs.YtkfcbafjcjmfnaaGreatDoor.Once
set_option linter.unusedVariables false
set_option linter.unusedSimpArgs false
def New (M : Nat) (w : World) (b : Nat) (ps : Pairs) : Prop :=
  ∃ v, M ≤ b ∧ w.heap[b]? = some (.cells #[.int .u32 0, .int .i32 0, .int .u32 0, .nilIface, v] 71 (0, 0)) ∧ w.ownsRow M 9 1 v (2 * ps.length) ((oldnew ps).map Value.string)
theorem oldnew_at : ∀ (ps : Pairs) (k : Nat) (h : k < ps.length), (oldnew ps)[2 * k]? = some ⟨#[(ps[k]).1]⟩ ∧ (oldnew ps)[2 * k + 1]? = some (ps[k]).2
  | [], k, h => by simp at h
  | p :: ps, 0, h => ⟨rfl, rfl⟩
  | p :: ps, k + 1, h => by
    have := oldnew_at ps k (by simpa using h)
    rw [show oldnew (p :: ps) = ⟨#[p.1]⟩ :: p.2 :: oldnew ps from rfl]
    exact this
theorem New.lies {M b : Nat} {w : World} {ps : Pairs} {v : Value} (hn : 1 ≤ ps.length) (hown : w.ownsRow M 9 1 v (2 * ps.length) ((oldnew ps).map Value.string)) :
    ∃ g cap, v = .slice (some ⟨g, 0, none⟩) (2 * ps.length) cap ∧ Lies w g ps := by
  rcases hown.2 with ⟨_, h0⟩ | ⟨g, cap, cur, rfl, _⟩
  · omega
  · refine ⟨g, cap, rfl, fun k hk => ?_⟩
    have := oldnew_at ps k hk
    constructor
    · rw [hown.cellAt _ (by omega), List.getElem?_map, this.1]; rfl
    · rw [hown.cellAt _ (by omega), List.getElem?_map, this.2]; rfl
theorem Part.of_heap {M R : Nat} {w w' : World} {ps : Pairs} (h : Part M w R ps) (hh : ∀ k, M ≤ k → k < w.heap.size → w'.heap[k]? = w.heap[k]?) : Part M w' R ps := by
  obtain ⟨C, tv, hMR, hC, hz, h6, hown, hc⟩ := h
  refine ⟨C, tv, hMR, by rw [hh R hMR (Array.getElem?_eq_some_iff.1 hC).1]; exact hC, hz, h6, own_of_heap hown fun k hk => hh k (hown.lt k hk).1 (hown.lt k hk).2, fun b hb => ?_⟩
  obtain ⟨v, hv, hr⟩ := hc b hb
  refine ⟨v, hv, ?_⟩
  cases hk : look ps b with
  | none => rw [hk] at hr; exact hr
  | some s =>
    rw [hk] at hr
    obtain ⟨B, c', hB, rfl, hrw⟩ := hr
    exact ⟨B, c', hB, rfl, Row.of_heap hrw (hh B hB hrw.lt)⟩
theorem Part.setCell {M R b j : Nat} {w : World} {ps : Pairs} (h : Part M w R ps) (hb : b < M) (v : Value) : Part M (w.setCell ⟨b, j, none⟩ v) R ps :=
  h.of_heap fun k hk _ => setCell_heap_ne _ _ _ _ _ (by omega)
theorem New.below {M b : Nat} {w w' : World} {ps : Pairs} (h : New M w b ps) (hb : Below w.heap.size w w') : New M w' b ps := by
  obtain ⟨v, hMb, hC, hown⟩ := h
  exact ⟨v, hMb, by rw [hb.block b (Array.getElem?_eq_some_iff.1 hC).1]; exact hC, own_of_heap hown fun k hk => hb.block k (hown.lt k hk).2⟩
theorem cells_lit (w : World) (cs : Array Value) (e : TypeId) (l : List Value) (hl : cs.toList = l) : ∀ j u, l[j]? = some u → (w.alloc (.cells cs e)).cell? ((⟨w.heap.size, 0, none⟩ : Addr).add j) = some u := by
  subst hl
  intro j u hu
  rw [show (⟨w.heap.size, 0, none⟩ : Addr).add j = ⟨w.heap.size, j, none⟩ from by unfold Addr.add; split <;> simp_all, cell_of_row _ _ _ _ _ _ (heap_alloc_new _ _)]
  simpa using hu
end Go.Proofs.YtkfcbafjcjmfnaaGreatDoor.Repl
namespace Go.Proofs.YtkfcbafjcjmfnaaGreatDoor.Gen
open Go.RowKit Go.Proofs.YtkfcbafjcjmfnaaGreatDoor.Row Go.Proofs.YtkfcbafjcjmfnaaGreatDoor.Repl Go.Proofs.YtkfcbafjcjmfnaaGreatDoor.Once
set_option linter.unusedVariables false
set_option linter.unusedSimpArgs false
theorem make_asw (w : World) (n : Nat) (h : n ≤ 100000000000) : ∃ mc : Array Value, mc.size = n ∧
    (Instr.makeSlice 196 (.int .i64 0) (.int .i64 (n : Int))).run Tryz.prog w = .ok (.slice (some ⟨w.heap.size, 0, none⟩) 0 n) (w.alloc (.cells mc 5)) := by
  obtain ⟨i0, hi, hz0, hz1, hz2⟩ := info_parts infoByte
  have hr := run_make (P := Tryz.prog) w 196 5 i0 _ Tryz.underlying196 hi hz0 .i64 .i64 0 n (by omega) (by omega) (by rw [hz2]; omega) (by omega)
  simp only [Int.toNat_natCast] at hr
  exact ⟨_, by rw [size_madeCells, hz1, Nat.mul_one], hr⟩
theorem Asw.new {M b g n : Nat} {w : World} {mc : Array Value} (hM : M ≤ b) (hMg : M ≤ g) (hb : w.heap[b]? = some (.cells #[.slice (some ⟨g, 0, none⟩) 0 n] 196 (0, 0))) (hg : w.heap[g]? = some (.cells mc 5 (0, 0))) (hmc : mc.size = n) (hn : n ≤ 100000000000) : Asw M w b [] :=
  ⟨hM, _, hb, rfl, .inr ⟨g, n, mc, (0, 0), rfl, hMg, hg, by simp, by simp, by unfold maxLen; omega, by simpa using hmc, by simp [Lib.byteCells]⟩⟩
theorem Asw.text {M b : Nat} {w : World} {l : List UInt8} {v : Value} (hb : w.heap[b]? = some (.cells #[v] 196 (0, 0))) (h : Asw M w b l) :
    (convert 196 9 v).run Tryz.prog w = .ok (.string ⟨l.toArray⟩) w := by
  obtain ⟨_, v', hb', hl, hv⟩ := h
  rw [hb] at hb'
  obtain rfl : v = v' := by simpa using hb'
  rcases hv with ⟨rfl, h0⟩ | ⟨g, cap, cur, fz, rfl, _, hg, _, hnc, _, hcz, ht⟩
  · obtain rfl : l = [] := List.length_eq_zero_iff.1 h0
    kernel_rfl
  · refine run_convert_bytes_back (P := Tryz.prog) w 196 9 5 ⟨g, 0, none⟩ _ l Tryz.underlying196 Tryz.underlying5 Tryz.underlying9 (fun j hj => ?_)
    have hbl : (Lib.byteCells l).length = l.length := by simp [Lib.byteCells]
    have h3 : (cur.toList.take (l.length * 1))[j]? = (Lib.byteCells l)[j]? := by rw [ht]
    rw [Nat.mul_one, List.getElem?_take_of_lt hj] at h3
    simp [Lib.byteCells, List.getElem?_eq_getElem hj] at h3
    rw [show (⟨g, 0, none⟩ : Addr).add j = ⟨g, j, none⟩ from by unfold Addr.add; split <;> simp_all]
    simp [World.cell?, hg, h3]
theorem Asw.loads {M b : Nat} {w : World} {l : List UInt8} (h : Asw M w b l) : ∃ v, w.cell? ⟨b, 0, none⟩ = some v ∧ (convert 196 9 v).run Tryz.prog w = .ok (.string ⟨l.toArray⟩) w := by
  obtain ⟨hM, v, hc, ho⟩ := id h
  exact ⟨v, by rw [cell_of_row _ _ _ _ _ _ hc] <;> rfl, Asw.text hc h⟩
set_option maxRecDepth 100000 in
set_option maxHeartbeats 4000000 in
theorem genRep_c (M R : Nat) (s : ByteArray) (w : World) (hG : Gen M w R) (hs : s.size ≤ 1000000) :
    Calls Tryz.prog 171 #[.pointer (some ⟨R, 0, none⟩), .string s] w fun e w' => e = .returned (.string ⟨(esc 0 s.data.toList).toArray⟩) ∧ Below w.heap.size w w' := by
  obtain ⟨mc, hmz, hmk⟩ := make_asw w s.size (by omega)
  have hw2 : ∀ w2 : World, w2 = (w.alloc (.cells mc 5)).alloc (.cells #[.slice (some ⟨w.heap.size, 0, none⟩) 0 s.size] 196) → Below w.heap.size w w2 ∧ Asw w.heap.size w2 (w.heap.size + 1) [] ∧ w.heap.size ≤ w2.heap.size := by
    rintro w2 rfl
    have hz : (w.alloc (.cells mc 5)).heap.size = w.heap.size + 1 := by simp
    refine ⟨((Below.refl _ _).alloc (Nat.le_refl _) _).alloc (by rw [hz]; omega) _, ?_, by simp; omega⟩
    refine Asw.new (g := w.heap.size) (n := s.size) (mc := mc) (by omega) (Nat.le_refl _) ?_ ?_ hmz (by omega)
    · have h := heap_alloc_new (w.alloc (.cells mc 5)) (.cells #[.slice (some ⟨w.heap.size, 0, none⟩) 0 s.size] 196)
      rw [hz] at h; exact h
    · rw [heap_alloc_old _ _ (by rw [hz]; omega)]; exact heap_alloc_new _ _
  have HW := Lib.hid hw2
  have WS := Lib.hid (fun W (hb : Below w.heap.size w W) (hA : Asw w.heap.size W (w.heap.size + 1) []) (hz : w.heap.size ≤ W.heap.size) => gen_WriteString M R (w.heap.size + 1) w.heap.size s W (hG.below hb) hs hA hz (fun w' h' => hG.below (hb.trans h')))
  clear hG hw2
  go_enter Tryz.func171, Tryz.ntmps171
  go_wp2_with (go_at_call 172; go_loud (obtain ⟨hb, ha, hz⟩ := HW.out _ rfl; refine (WS.out _ hb ha hz).mono ?_; rintro e w3 ⟨⟨ve, rfl⟩, ha3, hb3⟩; have HB3 := Lib.hid (hb.trans hb3); obtain ⟨v3, d3, q3⟩ := ha3.loads; clear ha3 hb3 hb ha hz))
  go_ret
  exact ⟨rfl, HB3.out⟩
end Go.Proofs.YtkfcbafjcjmfnaaGreatDoor.Gen
namespace Go.Proofs.YtkfcbafjcjmfnaaGreatDoor.Gen
open Go.RowKit Go.Proofs.YtkfcbafjcjmfnaaGreatDoor.Row Go.Proofs.YtkfcbafjcjmfnaaGreatDoor.Repl
set_option linter.unusedVariables false
set_option linter.unusedSimpArgs false
set_option maxRecDepth 100000 in
set_option maxHeartbeats 4000000 in
theorem makeGen_c (g cap : Nat) (w : World) (hl : LiesL w g) (hcap : 8 ≤ cap) :
    Calls Tryz.prog 76 #[.slice (some ⟨g, 0, none⟩) 8 cap] w fun e w' => ∃ R, e = .returned (.pointer (some ⟨R, 0, none⟩)) ∧ Gen w.heap.size w' R ∧ Below w.heap.size w w' := by
  have HL := Lib.hid hl
  clear hl
  go_enter Tryz.func76, Tryz.ntmps76
  go_wp2
  rw [zc_root]
  go_loopw [4] (fun i wr => ∃ k : Nat, k ≤ 4 ∧ i = .int .i64 ((2 * k : Nat) : Int) ∧ Rt wr w.heap.size (.slice none 0 0) 0 (marks (upto k)) ∧ Below w.heap.size w wr) (fun i _ => 8 - (intOf i).toNat)
  case atStart => exact ⟨0, by omega, rfl, heap_alloc_new _ _, (Below.refl _ _).alloc (Nat.le_refl _) _⟩
  case round =>
    obtain ⟨k, hk, rfl, hrt, hb⟩ := hrel
    by_cases hlt : k < 4
    · obtain ⟨e1, e2⟩ := oldnewL_at k hlt
      have hkl : k < keys.length := hlt
      rw [List.getElem?_eq_getElem hkl] at e1
      have c1 := cell_later hb (HL.out _ _ e1)
      have hks : (keys[k]).size ≤ 2 ∧ 1 ≤ (keys[k]).size := by
        have : ∀ x ∈ keys, x.size ≤ 2 ∧ 1 ≤ x.size := by decide
        exact this _ (List.getElem_mem hkl)
      have hup := Lib.hid (upto_snoc k hkl)
      generalize keys[k] = key at *
      obtain ⟨hks1, hks2⟩ := hks
      have i1 : ((2 * k : Nat) : Int) < 8 := by omega
      have i2 : 2 * k < 8 := by omega
      have i3 : 2 * (k : Int) < 8 := by omega
      have HRT := Lib.hid hrt; have HB := Lib.hid hb
      clear hrt hb e1 e2
      go_wp2
      go_loopw [6] (fun i ws => ∃ j : Nat, j ≤ key.size ∧ i = .int .i64 (j : Int) ∧ Rt ws w.heap.size (.slice none 0 0) 0 (marks (upto k ++ key.data.toList.take j)) ∧ Below w.heap.size w ws) (fun i _ => key.size - (intOf i).toNat)
      case atStart => exact ⟨0, by omega, rfl, by simpa using HRT.out, HB.out⟩
      case round =>
        obtain ⟨j, hj, rfl, hrt, hb⟩ := hrel
        by_cases hlj : j < key.size
        · have hjl : j < key.data.toList.length := by simpa using hlj
          obtain ⟨c, hc1, hc2, hc3⟩ : ∃ c, key[j] = c ∧ key.data[j]'(by simpa using hlj) = c ∧ key.data.toList[j] = c := ⟨_, rfl, rfl, rfl⟩
          have h256 : c.toNat < 256 := UInt8.toNat_lt c
          have h256i : (c.toNat : Int) < 256 := by omega
          have d1 := hrt.at c.toNat h256
          have d2 := hrt.free (6 + c.toNat)
          have hsn := marks_snoc (upto k ++ key.data.toList.take j) c
          have HS := Lib.hid (hrt.setM c.toNat 1 h256)
          have HB2 := Lib.hid hb
          have i4 : (j : Int) < (key.size : Int) := by omega
          have HK := Lib.hid (show key.data.toList.take (j + 1) = key.data.toList.take j ++ [c] from by rw [List.take_succ_eq_append_getElem hjl, hc3])
          rw [← hsn] at HS
          clear hc3
          clear hrt hb hsn
          go_wp2
          go_region
          all_goals go_wp2_with fail
          go_roundw
          case rel => exact ⟨j + 1, by omega, by go_num, by rw [HK.out, ← List.append_assoc]; exact HS.out, (HB2.out.setCell (p := ⟨w.heap.size, 6 + c.toNat, none⟩) (Nat.le_refl _) _).drew⟩
          case measure => simp [intOf]; omega
        · obtain rfl : j = key.size := by omega
          have HR2 := Lib.hid hrt; have HB2 := Lib.hid hb
          clear hrt hb
          go_wp2
          go_roundw
          case rel => exact ⟨k + 1, by omega, by go_num, by
            have h := HR2.out
            rw [List.take_of_length_le (by simp), ← hup.out] at h
            exact h, HB2.out⟩
          case measure => simp [intOf]; omega
    · obtain rfl : k = 4 := by omega
      have hr4 : Rt wr w.heap.size (.slice none 0 0) 0 m0 := hrt
      have HCS := Lib.hid (show wr.rangeAt w.heap.size 6 (mcells m0) from fun j v hv => by
        have hj : j < 256 := by rw [← mcells_len m0]; exact (List.getElem?_eq_some_iff.1 hv).1
        rw [hr4.at j hj, ← hv, mcells_get _ _ hj])
      have HR4 := Lib.hid hr4; have HB := Lib.hid hb
      clear hrt hr4 hb
      obtain ⟨cs, hcs⟩ : ∃ cs : Array Value, (mcells m0).toArray = cs := ⟨_, rfl⟩
      have HG := Lib.hid (show ∀ b, b < 256 → cs[b]? = some (.int .u8 (m0 b : Int)) from fun b hb => by rw [← hcs, List.getElem?_toArray]; exact mcells_get _ _ hb)
      have HCZ := Lib.hid (show cs.size = 256 from by rw [← hcs, List.size_toArray, mcells_len])
      go_wp2
      refine wp_load_mid 102 (.tmp 39) rfl w.heap.size 6 rfl (mcells m0) (.array 256 5) HCS.out Tryz.underlying102 rfl (by kernel_rfl) ?_
      rw [hcs]
      go_wp2
      go_loopw [41] (fun i wr => ∃ b : Nat, b ≤ 256 ∧ i = .int .i64 (b : Int) ∧ Rt wr w.heap.size (.slice none 0 0) (sumTo m0 b : Int) m0 ∧ Below w.heap.size w wr) (fun i _ => 256 - (intOf i).toNat)
      case atStart => exact ⟨0, by omega, rfl, HR4.out, HB.out⟩
      case round =>
        obtain ⟨b, hb256, rfl, hrt, hb⟩ := hrel
        by_cases hlb : b < 256
        · have hg := fun W => run_index_u8 W cs b _ hlb (HG.out b hlb)
          have hz := HCZ.out
          have hsl := sum_le b m0 m0_le
          have hml := m0_le b
          have d1 := hrt.ts
          have d2 := hrt.free 5
          have i5 : (b : Int) < 256 := by omega
          have hsum : sumTo m0 (b + 1) = sumTo m0 b + m0 b := rfl
          have HS := Lib.hid (hrt.setTs ((sumTo m0 (b + 1) : Nat) : Int))
          have HB2 := Lib.hid hb
          have HSU := Lib.hid hsum
          rw [hsum] at HS
          generalize sumTo m0 b = sb at *
          generalize m0 b = mb at *
          clear hrt hb hsum
          go_wp2
          go_roundw
          case rel => exact ⟨b + 1, by omega, by go_num, by
            have h := HS.out
            rw [Int.natCast_add] at h
            rw [HSU.out, Int.natCast_add]
            exact h, HB2.out.setCell (p := ⟨w.heap.size, 5, none⟩) (Nat.le_refl _) _⟩
          case measure => simp [intOf]; omega
        · obtain rfl : b = 256 := by omega
          have hr5 : Rt wr w.heap.size (.slice none 0 0) 5 m0 := by
            rw [sum_m0] at hrt; exact hrt
          have HCS := Lib.hid (show wr.rangeAt w.heap.size 6 (mcells m0) from fun j v hv => by
            have hj : j < 256 := by rw [← mcells_len m0]; exact (List.getElem?_eq_some_iff.1 hv).1
            rw [hr5.at j hj, ← hv, mcells_get _ _ hj])
          have HR5 := Lib.hid hr5; have HB2 := Lib.hid hb
          clear hrt hr5 hb
          go_wp2
          refine wp_load_mid 102 (.tmp 56) rfl w.heap.size 6 rfl (mcells m0) (.array 256 5) HCS.out Tryz.underlying102 rfl (by kernel_rfl) ?_
          rw [hcs]
          clear hcs
          go_wp2
          go_loopw [9, 58] (fun x i wr => ∃ b : Nat, b ≤ 256 ∧ i = .int .i64 (b : Int) ∧ x = .int .u8 (sumTo m0 b : Int) ∧ Rt wr w.heap.size (.slice none 0 0) 5 (idx b) ∧ Below w.heap.size w wr) (fun _ i _ => 256 - (intOf i).toNat)
          case atStart => exact ⟨0, by omega, rfl, rfl, HR5.out, HB2.out⟩
          case round =>
            obtain ⟨b, hb256, rfl, rfl, hrt, hb⟩ := hrel
            by_cases hlb : b < 256
            · have hg := fun W => run_index_u8 W cs b _ hlb (HG.out b hlb)
              have hsl : sumTo m0 b ≤ 5 := by rw [← sum_m0]; exact sum_mono b 256 hb256 m0
              have hml := m0_le b
              have d1 := hrt.at b hlb
              have d2 := hrt.free (6 + b)
              have d3 := hrt.ts
              have i5 : (b : Int) < 256 := by omega
              have hsum : sumTo m0 (b + 1) = sumTo m0 b + m0 b := rfl
              have HS := Lib.hid (hrt.setM b (if m0 b = 0 then 5 else sumTo m0 b) hlb)
              rw [← idx_step] at HS
              have HB3 := Lib.hid hb
              have HSU := Lib.hid hsum
              generalize hmb : m0 b = mb at *
              generalize hsb : sumTo m0 b = sb at *
              clear hrt hb hsum
              by_cases hm0 : mb = 0
              · subst hm0
                go_wp2
                go_region
                all_goals go_wp2_with fail
                go_roundw
                case rel => exact ⟨b + 1, by omega, by go_num, by rw [HSU.out]; rfl, by
                  have h := HS.out
                  simp only [if_true] at h
                  exact h, (HB3.out.setCell (p := ⟨w.heap.size, 6 + b, none⟩) (Nat.le_refl _) _).drew⟩
                case measure => simp [intOf]; omega
              · have hm1 : mb = 1 := by omega
                subst hm1
                go_wp2
                go_roundw
                case rel => exact ⟨b + 1, by omega, by go_num, by rw [HSU.out]; rfl, by
                  have h := HS.out
                  rw [if_neg (by omega)] at h
                  exact h, HB3.out.setCell (p := ⟨w.heap.size, 6 + b, none⟩) (Nat.le_refl _) _⟩
                case measure => simp [intOf]; omega
            · obtain rfl : b = 256 := by omega
              have hr6 : Rt wr w.heap.size (.slice none 0 0) 5 mapping := hrt
              have d3 := hr6.ts
              have d4 := hr6.tb
              have d5 := hr6.free 4
              have hlt := hr6.lt
              have mk := make_tab wr
              have q1 : ∀ o, (wr.alloc o).cell? ⟨w.heap.size, 4, none⟩ = some (.slice none 0 0) := fun o => (World.cell?_alloc_past o w.heap.size 4 hlt).trans d4
              have q2 : ∀ o, (wr.alloc o).frozen? ⟨w.heap.size, 4, none⟩ = false := fun o => (World.frozen?_alloc_past o w.heap.size 4 hlt).trans d5
              have HR6 := Lib.hid hr6; have HB3 := Lib.hid hb
              clear hrt hr6 hb
              go_wp2
              have hT0 : Tr w.heap.size ((wr.setCell ⟨w.heap.size, 4, none⟩ (.slice (some ⟨wr.heap.size, 0, none⟩) 5 5)).alloc (.cells #[.pointer none, .pointer none, .pointer none, .pointer none, .pointer none] 128)) w.heap.size 0 := by
                have hle := HB3.out.size
                refine ⟨wr.heap.size, w.heap.size, w.heap.size, w.heap.size, w.heap.size, w.heap.size, Nat.le_refl _, hle, Nat.le_refl _, Nat.le_refl _, Nat.le_refl _, Nat.le_refl _, Nat.le_refl _, ?_, ⟨?_, rfl⟩, fun h => absurd h (by decide), fun h => absurd h (by decide), fun h => absurd h (by decide), fun h => absurd h (by decide)⟩
                · refine (HR6.out.setTb _).of ?_
                  rw [heap_alloc_old]
                  simpa using hlt
                · have h := heap_alloc_new (wr.setCell ⟨w.heap.size, 4, none⟩ (.slice (some ⟨wr.heap.size, 0, none⟩) 5 5)) (.cells #[.pointer none, .pointer none, .pointer none, .pointer none, .pointer none] 128)
                  rw [show (wr.setCell ⟨w.heap.size, 4, none⟩ (.slice (some ⟨wr.heap.size, 0, none⟩) 5 5)).heap.size = wr.heap.size from by simp] at h
                  exact h
              have hB0 : Below w.heap.size w ((wr.setCell ⟨w.heap.size, 4, none⟩ (.slice (some ⟨wr.heap.size, 0, none⟩) 5 5)).alloc (.cells #[.pointer none, .pointer none, .pointer none, .pointer none, .pointer none] 128)) := (HB3.out.setCell (p := ⟨w.heap.size, 4, none⟩) (Nat.le_refl _) _).alloc (by simpa using HB3.out.size) _
              generalize (wr.setCell ⟨w.heap.size, 4, none⟩ (.slice (some ⟨wr.heap.size, 0, none⟩) 5 5)).alloc (.cells #[.pointer none, .pointer none, .pointer none, .pointer none, .pointer none] 128) = w0 at *
              have HT0 := Lib.hid hT0; have HB0 := Lib.hid hB0
              clear hT0 hB0 q1 q2 d3 d4 d5 mk hlt
              go_loopw [12] (fun i wr => ∃ k : Nat, k ≤ 4 ∧ i = .int .i64 ((2 * k : Nat) : Int) ∧ Tr w.heap.size wr w.heap.size k ∧ Below w.heap.size w wr) (fun i _ => 8 - (intOf i).toNat)
              case atStart => exact ⟨0, by omega, rfl, HT0.out, HB0.out⟩
              case round =>
                obtain ⟨k, hk4, rfl, htr, hb⟩ := hrel
                by_cases hlk : k < 4
                · obtain ⟨e1, e2⟩ := oldnewL_at k hlk
                  have hkl : k < keys.length := hlk
                  have hvl : k < vals.length := hlk
                  rw [List.getElem?_eq_getElem hkl] at e1
                  rw [List.getElem?_eq_getElem hvl] at e2
                  have hg1 := World.block_lt_of_cell? _ _ (HL.out _ _ e1)
                  have c1 := cell_later hb (HL.out _ _ e1)
                  have c2 := cell_later hb (HL.out _ _ e2)
                  have AD := Lib.hid (add_step w.heap.size w.heap.size k hlk keys[k] vals[k] e1 e2)
                  generalize keys[k] = key at *
                  generalize vals[k] = val at *
                  have c1d : wr.drew.cell? ⟨g, 2 * k, none⟩ = some (.string key) := c1
                  have c2d : wr.drew.cell? ⟨g, 2 * k + 1, none⟩ = some (.string val) := c2
                  have i1 : ((2 * k : Nat) : Int) < 8 := by omega
                  have i2 : 2 * k < 8 := by omega
                  have i3 : 2 * (k : Int) < 8 := by omega
                  have i4 : 2 * k + 1 < 8 := by omega
                  have v4 : IntKind.i64.wrap (2 * (k : Int) + 1) = 2 * (k : Int) + 1 := IntWalk.i64_in _ (by omega)
                  have v5 : IntKind.i64.wrap (8 - 2 * (k : Int)) = 8 - 2 * (k : Int) := IntWalk.i64_in _ (by omega)
                  have v6 : (2 * (k : Int) + 1).toNat = 2 * k + 1 := by omega
                  have v7 : (2 * (k : Int)).toNat = 2 * k := by omega
                  have i7 : (0 : Int) ≤ 2 * (k : Int) := by omega
                  have i8 : (0 : Int) ≤ 2 * (k : Int) + 1 := by omega
                  have i5 : 2 * (k : Int) + 1 < 8 := by omega
                  have i6 : ((2 * k : Nat) : Int) + 1 < 8 := by omega
                  have v1 : IntKind.i64.wrap (((2 * k : Nat) : Int) + 1) = ((2 * k : Nat) : Int) + 1 := IntWalk.i64_in _ (by omega)
                  have v2 : IntKind.i64.wrap (8 - ((2 * k : Nat) : Int)) = 8 - ((2 * k : Nat) : Int) := IntWalk.i64_in _ (by omega)
                  have v3 : (((2 * k : Nat) : Int) + 1).toNat = 2 * k + 1 := by omega
                  have HTR := Lib.hid htr; have HB4 := Lib.hid hb
                  clear htr hb e1 e2
                  go_wp2_with fail
                  go_region_held3 (fun w' => w'.cell? ⟨g, 2 * k, none⟩ = some (.string key) ∧ w'.cell? ⟨g, 2 * k + 1, none⟩ = some (.string val)) (go_keep) (first
                    | (go_at_call 99; refine (AD.out _ (by omega) wr.drew HTR.out).mono ?_; rintro e w5 ⟨rfl, ht5, hb5⟩; have r1 := (hb5.cell hg1).trans c1; have r2 := (hb5.cell hg1).trans c2))
                  all_goals go_wp2_with fail
                  go_roundw
                  case rel =>
                    refine ⟨_, _, _, _, _, _, _, _, _, _, _, _, _, _, _, _, _, _, _, _, _, _, _, _, _, ⟨k + 1, by omega, by go_num, ht5, HB4.out.drew.trans hb5⟩, rfl⟩
                  case measure => simp [intOf]; omega
                · obtain rfl : k = 4 := by omega
                  have HTR := Lib.hid htr; have HB4 := Lib.hid hb
                  clear htr hb
                  go_wp2
                  go_ret
                  exact ⟨_, rfl, HTR.out.gen, HB4.out⟩
end Go.Proofs.YtkfcbafjcjmfnaaGreatDoor.Gen
namespace Go.Proofs.YtkfcbafjcjmfnaaGreatDoor.Gen
open Go.RowKit Go.Proofs.YtkfcbafjcjmfnaaGreatDoor.Row Go.Proofs.YtkfcbafjcjmfnaaGreatDoor.Repl Go.Proofs.YtkfcbafjcjmfnaaGreatDoor.Once
set_option linter.unusedVariables false
set_option linter.unusedSimpArgs false
theorem LiesL.of {w w' : World} {g : Nat} (h : LiesL w g) (hh : w'.heap[g]? = w.heap[g]?) : LiesL w' g := fun j v hj => by
  rw [show w'.cell? ⟨g, j, none⟩ = w.cell? ⟨g, j, none⟩ from by simp only [World.cell?, hh]]
  exact h j v hj
theorem LiesL.lt {w : World} {g : Nat} (h : LiesL w g) : g < w.heap.size := World.block_lt_of_cell? _ _ (h 0 _ rfl)
set_option maxRecDepth 100000 in
set_option maxHeartbeats 4000000 in
theorem build_gen (b g cap : Nat) (w : World) (hb : w.cell? ⟨b, 4, none⟩ = some (.slice (some ⟨g, 0, none⟩) 8 cap)) (hl : LiesL w g) (hcap : 8 ≤ cap) :
    Calls Tryz.prog 51 #[.pointer (some ⟨b, 0, none⟩)] w fun e w' => ∃ R, e = .returned (.iface 100 (.pointer (some ⟨R, 0, none⟩))) ∧ Gen w.heap.size w' R ∧ Below w.heap.size w w' := by
  have MG := Lib.hid (makeGen_c g cap w hl hcap)
  have c0 := hl 0 _ rfl
  have c1 := hl 1 _ rfl
  have c2 := hl 2 _ rfl
  have c3 := hl 3 _ rfl
  have c4 := hl 4 _ rfl
  have c5 := hl 5 _ rfl
  have c6 := hl 6 _ rfl
  have z0 : (⟨#[38]⟩ : ByteArray).size = 1 := rfl
  have z1 : (⟨#[38, 97, 109, 112, 59]⟩ : ByteArray).size = 5 := rfl
  have z2 : (⟨#[60]⟩ : ByteArray).size = 1 := rfl
  have z3 : (⟨#[38, 108, 116, 59]⟩ : ByteArray).size = 4 := rfl
  have z4 : (⟨#[62]⟩ : ByteArray).size = 1 := rfl
  have z5 : (⟨#[38, 103, 116, 59]⟩ : ByteArray).size = 4 := rfl
  have z6 : (⟨#[194, 160]⟩ : ByteArray).size = 2 := rfl
  generalize (⟨#[38]⟩ : ByteArray) = k0 at *
  generalize (⟨#[38, 97, 109, 112, 59]⟩ : ByteArray) = v0 at *
  generalize (⟨#[60]⟩ : ByteArray) = k1 at *
  generalize (⟨#[38, 108, 116, 59]⟩ : ByteArray) = v1 at *
  generalize (⟨#[62]⟩ : ByteArray) = k2 at *
  generalize (⟨#[38, 103, 116, 59]⟩ : ByteArray) = v2 at *
  generalize (⟨#[194, 160]⟩ : ByteArray) = k3 at *
  clear hl
  go_enter Tryz.func51, Tryz.ntmps51
  go_wp2
  refine wp_loop_rounds 4 ?_
  iterate 4 (rw [rounds_succ]; go_wp2_with (go_at_call 76; refine MG.out.mono ?_; rintro e w5 ⟨R, rfl, hg, hbl⟩))
  go_ret
  exact ⟨R, rfl, hg, hbl⟩
def NewL (M : Nat) (w : World) (b : Nat) : Prop :=
  ∃ v, M ≤ b ∧ w.heap[b]? = some (.cells #[.int .u32 0, .int .i32 0, .int .u32 0, .nilIface, v] 71 (0, 0)) ∧ w.ownsRow M 9 1 v 8 (oldnewL.map Value.string)
theorem NewL.lies {M : Nat} {w : World} {v : Value} (hown : w.ownsRow M 9 1 v 8 (oldnewL.map Value.string)) :
    ∃ g cap, v = .slice (some ⟨g, 0, none⟩) 8 cap ∧ LiesL w g ∧ 8 ≤ cap := by
  rcases hown.2 with ⟨_, h0⟩ | ⟨g, cap, cur, rfl, _, _, hle, _⟩
  · omega
  · refine ⟨g, cap, rfl, fun j u hj => ?_, hle⟩
    have hlt : j < 8 := (List.getElem?_eq_some_iff.1 hj).1
    rw [hown.cellAt j (by omega), List.getElem?_map, hj]; rfl
def MidL (M : Nat) (w0 : World) (b : Nat) (w : World) : Prop :=
  ∃ R, w.heap[b]? = some (.cells #[.int .u32 0, .int .i32 1, .int .u32 0, .iface 100 (.pointer (some ⟨R, 0, none⟩)), .slice none 0 0] 71 (0, 0)) ∧ Gen w0.heap.size w R ∧ Below M w0 w ∧ M ≤ b ∧ b < w0.heap.size
theorem Gen.setCell {M R b j : Nat} {w : World} (h : Gen M w R) (hb : b < M) (v : Value) : Gen M (w.setCell ⟨b, j, none⟩ v) R := by
  obtain ⟨T, a, b2, c, d, e, h1, h2, h3, h4, h5, h6, h7, hR, hT, n1, n2, n3, n4, n5⟩ := h
  exact ⟨T, a, b2, c, d, e, h1, h2, h3, h4, h5, h6, h7, hR.of (setCell_heap_ne _ _ _ _ _ (by omega)), hT.of (setCell_heap_ne _ _ _ _ _ (by omega)), n1.of (setCell_heap_ne _ _ _ _ _ (by omega)), n2.of (setCell_heap_ne _ _ _ _ _ (by omega)), n3.of (setCell_heap_ne _ _ _ _ _ (by omega)), n4.of (setCell_heap_ne _ _ _ _ _ (by omega)), n5.of (setCell_heap_ne _ _ _ _ _ (by omega))⟩
set_option maxRecDepth 100000 in
set_option maxHeartbeats 4000000 in
theorem buildOnce_gen (M b : Nat) (w : World) (h : NewL M w b) :
    Calls Tryz.prog 39 #[.pointer (some ⟨b, 0, none⟩)] (w.setCell ⟨b, 1, none⟩ (.int .i32 1)) fun e w' => e = .returned (.tuple #[]) ∧ MidL M w b w' := by
  obtain ⟨v, hMb, hC, hown⟩ := h
  obtain ⟨g, cap, rfl, hlies, hcap⟩ := NewL.lies hown
  have hblt : b < w.heap.size := (Array.getElem?_eq_some_iff.1 hC).1
  have hgb : g ≠ b := by
    rintro rfl
    exact own_apart hown hC (.inl (by decide)) rfl
  have hC1 := setCell_heap_at w b 1 _ _ _ (.int .i32 1) hC
  have hz : (w.setCell ⟨b, 1, none⟩ (.int .i32 1)).heap.size = w.heap.size := by simp
  have hl1 : LiesL (w.setCell ⟨b, 1, none⟩ (.int .i32 1)) g := hlies.of (setCell_heap_ne _ _ _ _ _ hgb)
  have hbM : Below M w (w.setCell ⟨b, 1, none⟩ (.int .i32 1)) := (Below.refl _ _).setCell hMb _
  generalize w.setCell ⟨b, 1, none⟩ (.int .i32 1) = w1 at *
  have hc4 : w1.cell? ⟨b, 4, none⟩ = some (.slice (some ⟨g, 0, none⟩) 8 cap) := by rw [cell_of_row _ _ _ _ _ _ hC1]; rfl
  have BU := Lib.hid (build_gen b g cap w1 hc4 hl1 hcap)
  have HC := Lib.hid hC1; have HZ := Lib.hid hz
  have AF := Lib.hid (show ∀ w2, Below w1.heap.size w1 w2 → w2.cell? ⟨b, 3, none⟩ = some .nilIface ∧ w2.cell? ⟨b, 4, none⟩ = some (.slice (some ⟨g, 0, none⟩) 8 cap) ∧ w2.frozen? ⟨b, 3, none⟩ = false ∧ w2.frozen? ⟨b, 4, none⟩ = false from fun w2 hb => by
    have hCb := (hb.block b (by rw [hz]; exact hblt)).trans hC1
    refine ⟨?_, ?_, ?_, ?_⟩
    · rw [cell_of_row _ _ _ _ _ _ hCb]; rfl
    · rw [cell_of_row _ _ _ _ _ _ hCb]; rfl
    · simp [World.frozen?, hCb]
    · simp [World.frozen?, hCb])
  clear hlies hl1 hC hC1 hown hc4 hz
  go_enter Tryz.func39, Tryz.ntmps39
  go_wp2_with (go_at_call 51; refine BU.out.mono ?_; rintro e w2 ⟨R, rfl, hpart, hbel⟩; obtain ⟨q3, q4, f3, f4⟩ := AF.out w2 hbel; have HPA := Lib.hid hpart; have HBE := Lib.hid hbel; clear hpart hbel)
  go_end0
  refine ⟨rfl, R, ?_, ?_, ?_, hMb, hblt⟩
  · have hCb := (HBE.out.block b (by rw [HZ.out]; exact hblt)).trans HC.out
    have h3 := setCell_heap_at w2 b 3 _ _ _ (.iface 100 (.pointer (some ⟨R, 0, none⟩))) hCb
    have h4 := setCell_heap_at _ b 4 _ _ _ (.slice none 0 0) h3
    rw [h4]
    rfl
  · have hp := HPA.out
    rw [HZ.out] at hp
    exact (hp.setCell hblt _).setCell hblt _
  · exact (((hbM.trans (HBE.out.mono (by rw [HZ.out]; omega))).setCell hMb _).setCell hMb _)
set_option maxRecDepth 100000 in
set_option maxHeartbeats 4000000 in
theorem NewReplacer_gen (g cap : Nat) (w : World) (hc : ∀ j u, (oldnewL.map Value.string)[j]? = some u → w.cell? ((⟨g, 0, none⟩ : Addr).add j) = some u) :
    Calls Tryz.prog 24 #[.slice (some ⟨g, 0, none⟩) 8 cap] w fun e w' => ∃ b, e = .returned (.pointer (some ⟨b, 0, none⟩)) ∧ NewL w.heap.size w' b ∧ Below w.heap.size w w' := by
  obtain ⟨i0, hi, hi0, hi1, hi2⟩ := info_parts infoStr
  have HC := Lib.hid hc
  have hln : (oldnewL.map Value.string).length = 8 * 1 := rfl
  have HLN := Lib.hid hln
  clear hc hln
  go_enter Tryz.func24, Tryz.ntmps24
  go_wp2_with (at_builtin; refine wpList_append_own _ rfl (.const (.slice none 0 0)) (.tmp 8) 55 rfl w.heap.size 9 i0 _ 1 16 Tryz.underlying55 hi hi0 hi1 hi2 rfl (by decide) (.slice none 0 0) 0 [] rfl (World.ownsRow_nil _ _ _ _) ⟨g, 0, none⟩ 8 cap (oldnewL.map Value.string) rfl HLN.out HC.out ?c2 ?c3 ?c4 (Nat.le_refl _) ?_)
  case c2 =>
    intro u hu
    obtain ⟨x, _, rfl⟩ := List.mem_map.1 hu
    rfl
  case c3 => simp only [maxLen]; omega
  case c4 => omega
  intro v1 w1 hown1 hgr1 _
  obtain ⟨a1, n1, k1, rfl⟩ : ∃ a n c, v1 = .slice a n c := by
    rcases hown1.2 with ⟨rfl, _⟩ | ⟨_, _, _, rfl, _⟩
    · exact ⟨_, _, _, rfl⟩
    · exact ⟨_, _, _, rfl⟩
  have HO := Lib.hid hown1; have HG := Lib.hid hgr1
  clear hown1 hgr1
  go_wp2
  go_ret
  have h1 : w.heap.size ≤ w1.heap.size := HG.out.size
  refine ⟨w1.heap.size, rfl, ⟨.slice a1 n1 k1, h1, heap_alloc_new _ _, ?_⟩, ?_⟩
  · have := HO.out.alloc (.cells #[.int .u32 0, .int .i32 0, .int .u32 0, .nilIface, .slice a1 n1 k1] 71)
    simpa using this
  · exact (Repl.below_grown (Below.refl _ _) HG.out (fun j hj => by simp [Value.ownBlock] at hj) (Nat.le_refl _)).alloc h1 _
set_option maxRecDepth 100000 in
set_option maxHeartbeats 4000000 in
theorem Replace_gen (M b : Nat) (s : ByteArray) (w : World) (hs : s.size ≤ 1000000) (h : NewL M w b) (hMw : M ≤ w.heap.size) :
    Calls Tryz.prog 25 #[.pointer (some ⟨b, 0, none⟩), .string s] w fun e w' => e = .returned (.string ⟨(esc 0 s.data.toList).toArray⟩) ∧ Below M w w' := by
  have hmf : ∀ (fn : Fn) (first cap : Array Value) (w : World), (Instr.makeFunc fn first cap).run Tryz.prog w = .ok (.func fn first cap) w := fun _ _ _ _ => rfl
  have HB1 := Lib.hid (buildOnce_gen M b w h)
  obtain ⟨v, hMb, hC, hown⟩ := id h
  have h0 : w.cell? ⟨b, 0, none⟩ = some (.int .u32 0) := by rw [cell_of_row _ _ _ _ _ _ hC]; rfl
  have h1 : w.cell? ⟨b, 1, none⟩ = some (.int .i32 0) := by rw [cell_of_row _ _ _ _ _ _ hC]; rfl
  have f1 : w.frozen? ⟨b, 1, none⟩ = false := by simp [World.frozen?, hC]
  have HQ : Hid (∀ w', MidL M w b w' → (∃ x, w'.cell? ⟨b, 0, none⟩ = some x) ∧ w'.cell? ⟨b, 1, none⟩ = some (.int .i32 1) ∧ w'.frozen? ⟨b, 0, none⟩ = false ∧ w'.frozen? ⟨b, 1, none⟩ = false) := Lib.hid (by
    rintro w' ⟨R, hC', _⟩
    refine ⟨⟨_, by rw [cell_of_row _ _ _ _ _ _ hC']; rfl⟩, by rw [cell_of_row _ _ _ _ _ _ hC']; rfl, by simp [World.frozen?, hC'], by simp [World.frozen?, hC']⟩)
  have DO0 := (do_first b #[.pointer (some ⟨b, 0, none⟩)] w (MidL M w b) h0 h1 f1 HB1.out HQ.out)
  have AF := (show ∀ w1, MidL M w b w1 → ∃ R, ((w1.drew.setCell ⟨b, 0, none⟩ (.int .u32 1)).setCell ⟨b, 1, none⟩ (.int .i32 0)).cell? ⟨b, 3, none⟩ = some (.iface 100 (.pointer (some ⟨R, 0, none⟩))) ∧ Gen w.heap.size ((w1.drew.setCell ⟨b, 0, none⟩ (.int .u32 1)).setCell ⟨b, 1, none⟩ (.int .i32 0)) R ∧ Below M w ((w1.drew.setCell ⟨b, 0, none⟩ (.int .u32 1)).setCell ⟨b, 1, none⟩ (.int .i32 0)) from by
    rintro w1 ⟨R, hC', hp, hb, _, hbl⟩
    have hC2 : w1.drew.heap[b]? = _ := hC'
    have h2 := setCell_heap_at w1.drew b 0 _ _ _ (.int .u32 1) hC2
    have h3 := setCell_heap_at _ b 1 _ _ _ (.int .i32 0) h2
    refine ⟨R, by rw [cell_of_row _ _ _ _ _ _ h3]; rfl, ?_, ((hb.drew).setCell hMb _).setCell hMb _⟩
    exact ((show Gen w.heap.size w1.drew R from hp).setCell hbl _).setCell hbl _)
  have DO : Hid (Calls Tryz.prog 38 #[.pointer (some ⟨b, 0, none⟩), .func (.func 39) #[.pointer (some ⟨b, 0, none⟩)] #[]] w fun e w' => e = .returned (.tuple #[]) ∧ ∃ R, w'.cell? ⟨b, 3, none⟩ = some (.iface 100 (.pointer (some ⟨R, 0, none⟩))) ∧ Gen w.heap.size w' R ∧ Below M w w') := Lib.hid (DO0.mono (by
    rintro e w' ⟨rfl, w1, hm, rfl⟩
    exact ⟨rfl, AF w1 hm⟩))
  have hm : ∀ (R : Nat) (w : World), (method 309 100 (.pointer (some ⟨R, 0, none⟩)) "Replace").run Tryz.prog w = .ok (171, .pointer (some ⟨R, 0, none⟩)) w := fun _ _ => by kernel_rfl
  have RP := Lib.hid (fun (M R : Nat) (W : World) (hP : Gen M W R) => genRep_c M R s W hP hs)
  clear h hown hC HB1 HQ DO0 AF
  go_enter Tryz.func25, Tryz.ntmps25
  go_wp2_with (first | (go_at_call 171; refine (RP.out _ _ _ HPA.out).mono ?_; rintro e w4 ⟨rfl, b4⟩) | (go_at_call 38; refine DO.out.mono ?_; rintro e w3 ⟨rfl, R, q3, hpart, hbel⟩; have HPA := Lib.hid hpart; have HBE := Lib.hid hbel; clear hpart hbel))
  go_ret
  exact ⟨rfl, HBE.out.trans (b4.mono (Nat.le_trans hMw HBE.out.size))⟩
set_option maxRecDepth 100000 in
set_option maxHeartbeats 4000000 in
theorem Text_c (s : ByteArray) (w : World) (hs : s.size ≤ 1000000) :
    Calls Tryz.prog 14 #[.string s] w fun e w' => e = .returned (.string ⟨(esc 0 s.data.toList).toArray⟩) ∧ Below w.heap.size w w' := by
  have NR := Lib.hid (fun W (h : ∀ j u, (oldnewL.map Value.string)[j]? = some u → W.cell? ((⟨w.heap.size, 0, none⟩ : Addr).add j) = some u) => NewReplacer_gen w.heap.size 8 W h)
  have CL := Lib.hid (cells_lit w #[.string ⟨#[38]⟩, .string ⟨#[38, 97, 109, 112, 59]⟩, .string ⟨#[60]⟩, .string ⟨#[38, 108, 116, 59]⟩, .string ⟨#[62]⟩, .string ⟨#[38, 103, 116, 59]⟩, .string ⟨#[194, 160]⟩, .string ⟨#[38, 110, 98, 115, 112, 59]⟩] 9 (oldnewL.map Value.string) rfl)
  have RG := Lib.hid (fun M b W (h : NewL M W b) (hM : M ≤ W.heap.size) => Replace_gen M b s W hs h hM)
  have BA := Lib.hid (show ∀ o, Below w.heap.size w (w.alloc o) from fun o => (Below.refl _ _).alloc (Nat.le_refl _) _)
  have SZ := Lib.hid (show ∀ o, (w.alloc o).heap.size = w.heap.size + 1 from fun o => by simp)
  go_enter Tryz.func14, Tryz.ntmps14
  go_wp2_with (first
    | (go_at_call 24; refine (NR.out _ CL.out).mono ?_; rintro e w2 ⟨b, rfl, hnew, hbel⟩; have HN := Lib.hid hnew; have HB := Lib.hid hbel; clear hnew hbel)
    | (go_at_call 25; refine (RG.out _ _ _ HN.out HB.out.size).mono ?_; rintro e w3 ⟨rfl, hb3⟩; have HB3 := Lib.hid hb3; clear hb3))
  go_ret
  have h1 := (BA.out _).trans (HB.out.mono (by rw [SZ.out]; omega))
  exact ⟨rfl, h1.trans (HB3.out.mono (by rw [SZ.out]; omega))⟩
end Go.Proofs.YtkfcbafjcjmfnaaGreatDoor.Gen
namespace Go.Proofs.YtkfcbafjcjmfnaaGreatDoor.Ent
open Go.RowKit Go.Lib Go.Proofs.YtkfcbafjcjmfnaaGreatDoor Go.Proofs.YtkfcbafjcjmfnaaGreatDoor.Row Go.Proofs.YtkfcbafjcjmfnaaGreatDoor.Gen Go.Proofs.YtkfcbafjcjmfnaaGreatDoor.Pure Go.Proofs.YtkfcbafjcjmfnaaGreatDoor.Num Go.Proofs.YtkfcbafjcjmfnaaGreatDoor.C
set_option linter.unusedVariables false
set_option linter.unusedSimpArgs false
def TabNames (w : World) : Prop := ∃ bm, bm < w.heap.size ∧ w.cell? ⟨0, 0, none⟩ = some (.map (some bm)) ∧
  ∀ w' : World, w'.heap[bm]? = w.heap[bm]? → ∀ s : ByteArray, s.size ≤ 10000000 → (∀ c, nameL s.data.toList = some c → (Instr.lookup 52 (.map (some bm)) (.string s) true).run Tryz.prog w' = .ok (.tuple #[.int .i32 c, .bool true]) w') ∧
    (nameL s.data.toList = none → (Instr.lookup 52 (.map (some bm)) (.string s) true).run Tryz.prog w' = .ok (.tuple #[.int .i32 0, .bool false]) w')
structure GlobE (w : World) : Prop where
  g : Glob w
  names : TabNames w
  err : ∃ ev, w.cell? ⟨5, 0, none⟩ = some ev ∧ (ev = .nilIface ∨ ∃ te pe, ev = .iface te pe)
theorem GlobE.below {w w1 : World} (h : GlobE w) (hb : Below w.heap.size w w1) : GlobE w1 := by
  obtain ⟨hg, ⟨bm, hlt, hc, hl⟩, ev, he, hev⟩ := h
  refine ⟨hg.below hb, ⟨bm, Nat.lt_of_lt_of_le hlt hb.size, (hb.cell (World.block_lt_of_cell? _ _ hc)).trans hc, fun w' hh => hl w' (hh.trans (hb.block _ hlt))⟩, ev, (hb.cell (World.block_lt_of_cell? _ _ he)).trans he, hev⟩
set_option maxRecDepth 100000 in
set_option maxHeartbeats 2000000 in
theorem pub_c (s : ByteArray) (base : Nat) (bi : Int) (hb : (base = 10 ∧ bi = 10) ∨ (base = 16 ∧ bi = 16)) (h1 : 1 ≤ s.size) (h7 : s.size ≤ 7) (w : World) (hE : ∃ ev, w.cell? ⟨5, 0, none⟩ = some ev ∧ (ev = .nilIface ∨ ∃ te pe, ev = .iface te pe)) :
    Calls Tryz.prog 47 #[.string s, .int .i64 bi, .int .i64 64] w fun e w' => ((∃ v, digG base s.data.toList 0 = some v ∧ e = .returned (.tuple #[.int .u64 (v : Int), .nilIface])) ∨ (digG base s.data.toList 0 = none ∧ ∃ te pe, e = .returned (.tuple #[.int .u64 0, .iface te pe]))) ∧ Below w.heap.size w w' := by
  have PC := parse_c s base bi hb h1 h7 w
  obtain ⟨ev, he, hev⟩ := hE
  have TE := Lib.hid (fun (W : World) (h : Below w.heap.size w W) => Tryz.strconv_toError_syntax ⟨#[80, 97, 114, 115, 101, 85, 105, 110, 116]⟩ s bi 64 ev W (by omega) ((h.cell (World.block_lt_of_cell? _ _ he)).trans he) hev)
  clear he hev hb
  cases hd : digG base s.data.toList 0 with
  | some v =>
    rw [hd] at PC
    have PC2 := Lib.hid (show Calls Tryz.prog 65 #[.string s, .int .i64 bi, .int .i64 64] w fun e w' => e = .returned (.tuple #[.int .u64 (v : Int), .nilIface]) ∧ Below w.heap.size w w' from PC.mono fun e w' h => h)
    clear PC
    go_enter Tryz.func47, Tryz.ntmps47
    go_wp2_with (go_at_call 65; refine PC2.out.mono ?_; rintro e w2 ⟨rfl, hb2⟩; have HB := Lib.hid hb2; clear hb2)
    go_ret2
    exact ⟨.inl ⟨v, by first | rfl | trivial, rfl⟩, HB.out⟩
  | none =>
    rw [hd] at PC
    have PC2 := Lib.hid (show Calls Tryz.prog 65 #[.string s, .int .i64 bi, .int .i64 64] w fun e w' => e = .returned (.tuple #[.int .u64 0, .iface 113 (.int .i64 2)]) ∧ Below w.heap.size w w' from PC.mono fun e w' h => h)
    clear PC
    go_enter Tryz.func47, Tryz.ntmps47
    go_wp2_with (first
      | (go_at_call 65; refine PC2.out.mono ?_; rintro e w2 ⟨rfl, hb2⟩; have HB := Lib.hid hb2; clear hb2)
      | (go_at_call 66; refine (TE.out _ HB.out).mono ?_; rintro e w3 ⟨N, rfl, hN, hNc, hb3⟩; have HB3 := Lib.hid hb3; clear hb3 hN hNc))
    go_ret2
    exact ⟨.inr ⟨by first | rfl | trivial, _, _, rfl⟩, HB.out.trans (HB3.out.mono HB.out.size)⟩
def numV : Option Nat → Int
  | some v => (v : Int)
  | none => 0
theorem digG_sign (base : Nat) (hb : base ≤ 16) (c : UInt8) (r : List UInt8) (h : c = 43 ∨ c = 45) : digG base (c :: r) 0 = none := by
  rw [digG, if_neg]
  have : hexV c = 99 := by rcases h with rfl | rfl <;> rfl
  omega
set_option maxRecDepth 100000 in
set_option maxHeartbeats 4000000 in
theorem digits_c (s : ByteArray) (base most : Nat) (bi mi : Int) (hb : (base = 10 ∧ bi = 10 ∧ most = 7 ∧ mi = 7) ∨ (base = 16 ∧ bi = 16 ∧ most = 6 ∧ mi = 6)) (hs : s.size ≤ 10000000) (w : World) (hG : GlobE w) :
    Calls Tryz.prog 36 #[.string s, .int .i64 bi, .int .i64 mi] w fun e w' => e = .returned (.tuple #[.int .i64 (numV (digL base most s.data.toList)), .bool (digL base most s.data.toList).isSome]) ∧ Below w.heap.size w w' := by
  have hl : s.data.toList.length = s.size := by simp
  have hm7 : (most : Int) = mi ∧ 1 ≤ most ∧ most ≤ 7 ∧ base ≤ 16 := by rcases hb with ⟨_, _, h, h2⟩ | ⟨_, _, h, h2⟩ <;> omega
  obtain ⟨hm, hm1, hm2, hb16⟩ := hm7
  by_cases hbad : s.size < 1 ∨ most < s.size
  · have hd : digL base most s.data.toList = none := by unfold digL; rw [if_pos (by rw [hl]; exact hbad)]
    rw [hd]
    clear hd hb hG hl
    rcases hbad with h | h
    · have h2 : (s.size : Int) < 1 := by omega
      go_enter Tryz.func36, Tryz.ntmps36
      go_wp2
      go_ret2
      exact ⟨rfl, Below.refl _ _⟩
    · have h2 : mi < (s.size : Int) := by omega
      have h3 : ¬ (s.size : Int) < 1 := by omega
      go_enter Tryz.func36, Tryz.ntmps36
      go_wp2
      go_ret2
      exact ⟨rfl, Below.refl _ _⟩
  · have hdL : digL base most s.data.toList = digG base s.data.toList 0 := by unfold digL; rw [if_neg (by rw [hl]; exact hbad)]
    rw [hdL]
    have h1 : 1 ≤ s.size := by omega
    have h2 : s.size ≤ 7 := by omega
    have h3 : ¬ (s.size : Int) < 1 := by omega
    have h4 : (s.size : Int) ≤ mi := by omega
    obtain ⟨c, r, hcr⟩ : ∃ c r, s.data.toList = c :: r := by
      cases hd : s.data.toList with
      | nil => rw [hd] at hl; simp at hl; omega
      | cons c r => exact ⟨c, r, rfl⟩
    have hc1 : s[0]'h1 = c := by
      have : s.data.toList[0]'(by rw [hcr]; simp) = c := by simp [hcr]
      exact this
    by_cases hsg : c = 43 ∨ c = 45
    · have hd := digG_sign base hb16 c r hsg
      rw [hcr, hd]
      have hz : (0 : Nat) < s.size := h1
      clear hb hG hl hdL hbad hcr hd
      rcases hsg with rfl | rfl
      · go_enter Tryz.func36, Tryz.ntmps36
        go_wp2
        go_ret2
        exact ⟨rfl, Below.refl _ _⟩
      · go_enter Tryz.func36, Tryz.ntmps36
        go_wp2
        go_ret2
        exact ⟨rfl, Below.refl _ _⟩
    · have PC := Lib.hid (pub_c s base bi (by rcases hb with ⟨h, h', _⟩ | ⟨h, h', _⟩ <;> simp [h, h']) h1 h2 w hG.err)
      have hn1 : ((c.toNat : Int) == 43) = false := by
        rw [beq_eq_false_iff_ne]; exact fun e => hsg (.inl (UInt8.toNat_inj.1 (by show c.toNat = 43; omega)))
      have hn2 : ((c.toNat : Int) == 45) = false := by
        rw [beq_eq_false_iff_ne]; exact fun e => hsg (.inr (UInt8.toNat_inj.1 (by show c.toNat = 45; omega)))
      have hn3 : decide (mi < (s.size : Int)) = false := decide_eq_false (by omega)
      have hbd : ∀ v, digG base s.data.toList 0 = some v → v < 268435456 := fun v hv => by
        have h := (digG_bound base _ 0 v hv).2
        rw [hl] at h
        exact Nat.lt_of_lt_of_le h (by simpa using pow_le base s.size hb16 h2)
      cases hd : digG base s.data.toList 0 with
      | some v =>
        have hvb := hbd v hd
        have PC2 := Lib.hid (show Calls Tryz.prog 47 #[.string s, .int .i64 bi, .int .i64 64] w fun e w' => e = .returned (.tuple #[.int .u64 (v : Int), .nilIface]) ∧ Below w.heap.size w w' from PC.out.mono (by
          rintro e w' ⟨⟨v', hv', rfl⟩ | ⟨hv', _⟩, hb⟩
          · rw [hd] at hv'; cases hv'; exact ⟨rfl, hb⟩
          · rw [hd] at hv'; cases hv'))
        have hvw : IntKind.i64.wrap (v : Int) = (v : Int) := IntWalk.i64_in _ (by omega)
        clear hb hG hl hdL hbad hbd hd PC hvb
        go_enter Tryz.func36, Tryz.ntmps36
        go_wp2_with (go_at_call 47; refine PC2.out.mono ?_; rintro e w2 ⟨rfl, hb2⟩; have HB := Lib.hid hb2; clear hb2)
        go_quiet (fail)
        go_wp2_with fail
        go_ret2
        exact ⟨rfl, by have := HB.out; exact bdrewN this _⟩
      | none =>
        have PC2 := Lib.hid (show Calls Tryz.prog 47 #[.string s, .int .i64 bi, .int .i64 64] w fun e w' => (∃ te pe, e = .returned (.tuple #[.int .u64 0, .iface te pe])) ∧ Below w.heap.size w w' from PC.out.mono (by
          rintro e w' ⟨⟨v', hv', _⟩ | ⟨_, h⟩, hb⟩
          · rw [hd] at hv'; cases hv'
          · exact ⟨h, hb⟩))
        have qn : ∀ (te : TypeId) (pe : Value) (W : World), (binOp .eql 35 (.iface te pe) .nilIface).run Tryz.prog W = .ok (.bool false) W := fun _ _ _ => by kernel_rfl
        clear hb hG hl hdL hbad hbd hd PC
        go_enter Tryz.func36, Tryz.ntmps36
        go_wp2_with (go_at_call 47; refine PC2.out.mono ?_; rintro e w2 ⟨⟨te, pe, rfl⟩, hb2⟩; have HB := Lib.hid hb2; clear hb2)
        go_quiet (fail)
        go_wp2_with fail
        go_ret2
        exact ⟨rfl, by have := HB.out; exact bdrewN this _⟩
theorem enc_str (n : Int) : Utf8.encode n = ⟨(Lib.encodeRune n).toArray⟩ := by
  have ofI : ∀ x : Int, x.toNat.toUInt8 = UInt8.ofNat x.toNat := fun _ => rfl
  unfold Utf8.encode
  by_cases hv : Utf8.valid n = true
  · have h := (valid_iff n).1 hv
    obtain ⟨m, rfl⟩ : ∃ m : Nat, n = (m : Int) := ⟨n.toNat, by omega⟩
    simp only [hv, if_true, Int.toNat_natCast]
    by_cases h1 : m < 128
    · rw [if_pos h1, enc_one (by omega) (by omega)]; rfl
    rw [if_neg h1]
    by_cases h2 : m < 2048
    · rw [if_pos h2, enc_two (by omega) (by omega)]
      simp only [ofI]
      have e1 : (192 + (m : Int) / 64).toNat = 192 + m / 64 := by omega
      have e2 : (128 + (m : Int) % 64).toNat = 128 + m % 64 := by omega
      rw [e1, e2]
    rw [if_neg h2]
    by_cases h3 : m < 65536
    · rw [if_pos h3, enc_three (by omega)]
      simp only [ofI]
      have e1 : (224 + (m : Int) / 4096).toNat = 224 + m / 4096 := by omega
      have e2 : (128 + (m : Int) / 64 % 64).toNat = 128 + m / 64 % 64 := by omega
      have e3 : (128 + (m : Int) % 64).toNat = 128 + m % 64 := by omega
      rw [e1, e2, e3]
    rw [if_neg h3, enc_four (by omega) (by omega)]
    simp only [ofI]
    have e0 : (240 + (m : Int) / 262144).toNat = 240 + m / 262144 := by omega
    have e1 : (128 + (m : Int) / 4096 % 64).toNat = 128 + m / 4096 % 64 := by omega
    have e2 : (128 + (m : Int) / 64 % 64).toNat = 128 + m / 64 % 64 := by omega
    have e3 : (128 + (m : Int) % 64).toNat = 128 + m % 64 := by omega
    rw [e0, e1, e2, e3]
  · have h : n < 0 ∨ (55296 ≤ n ∧ n ≤ 57343) ∨ 1114111 < n := by
      have := mt (valid_iff n).2 hv
      omega
    rw [enc_bad h, if_neg hv]
    rfl
theorem high_dec (b : ByteArray) : decL (knownL (labelL nLat)).1 b.data.toList = singlesL b.data.toList := by
  rw [show (knownL (labelL nLat)).1 = nLat from by decide +kernel]
  unfold decL
  rw [if_pos rfl]
theorem decode_c (a s : ByteArray) (ha : a.size ≤ 5000) (hs : s.size ≤ 11000000) (w : World) (hG : Glob w) :
    Calls Tryz.prog 48 #[.string a, .string s] w fun e w' => e = .returned (.tuple #[.string ⟨(decL (knownL (labelL a)).1 s.data.toList).toArray⟩, .bool (knownL (labelL a)).2]) ∧ Below w.heap.size w w' := by
  obtain ⟨k, h⟩ := decode_is a s ha hs
  exact chars_Decode.calls k a s _ _ w hG (h k (Nat.le_refl _))
set_option maxRecDepth 100000 in
set_option maxHeartbeats 4000000 in
theorem numbered_c (n : Nat) (hn : n ≤ 16777215) (w : World) (hG : GlobE w) :
    Calls Tryz.prog 37 #[.int .i64 (n : Int)] w fun e w' => e = .returned (.string ⟨(numL n).toArray⟩) ∧ Below w.heap.size w w' := by
  by_cases h0 : n = 0
  · subst h0
    go_enter Tryz.func37, Tryz.ntmps37
    go_wp2
    go_ret
    exact ⟨rfl, Below.refl _ _⟩
  by_cases h1 : 128 ≤ n ∧ n ≤ 159
  · obtain ⟨h1, h2⟩ := h1
    have hnum : numL n = singlesL [UInt8.ofNat n] := by unfold numL; rw [if_neg h0, if_pos ⟨h1, h2⟩]
    have h3 : ¬ (n : Int) = 0 := by omega
    have h4 : (128 : Int) ≤ (n : Int) := by omega
    have h5 : (n : Int) ≤ 159 := by omega
    have hw : IntKind.u8.wrap (n : Int) = (n : Int) := IntWalk.u8_in _ (by omega)
    clear hn
    have BA := Lib.hid (show Below w.heap.size w (w.alloc (.cells #[.int .u8 (n : Int)] 5)) from (Below.refl _ _).alloc (Nat.le_refl _) _)
    have hun : ((UInt8.ofNat n).toNat : Int) = (n : Int) := by rw [UInt8.toNat_ofNat']; omega
    have qc : (convert 29 9 (.slice (some ⟨w.heap.size, 0, none⟩) 1 1)).run Tryz.prog (w.alloc (.cells #[.int .u8 (n : Int)] 5)) = .ok (.string ⟨#[UInt8.ofNat n]⟩) (w.alloc (.cells #[.int .u8 (n : Int)] 5)) := by
      refine run_convert_bytes_back (P := Tryz.prog) _ 29 9 5 ⟨w.heap.size, 0, none⟩ 1 [UInt8.ofNat n] Tryz.underlying29 Tryz.underlying5 Tryz.underlying9 (fun j hj => ?_)
      obtain rfl : j = 0 := by simpa using hj
      rw [show (⟨w.heap.size, 0, none⟩ : Addr).add 0 = ⟨w.heap.size, 0, none⟩ from rfl, cell_of_row _ _ _ _ _ _ (heap_alloc_new _ _)]
      show some (Value.int .u8 (n : Int)) = some (.int .u8 (((UInt8.ofNat n).toNat : Nat) : Int))
      rw [hun]
    clear hun
    have DC := Lib.hid (fun (W : World) (h : Below w.heap.size w W) => decode_c nLat ⟨#[UInt8.ofNat n]⟩ (by decide) (by show 1 ≤ 11000000; omega) W (hG.below h).g)
    go_enter Tryz.func37, Tryz.ntmps37
    go_wp2_with (go_at_call 48; refine (DC.out _ BA.out).mono ?_; rintro e w3 ⟨rfl, hb3⟩; have HB3 := Lib.hid hb3; clear hb3)
    go_ret
    refine ⟨?_, BA.out.trans (HB3.out.mono BA.out.size)⟩
    have e : decL (knownL (labelL nLat)).1 [UInt8.ofNat n] = singlesL [UInt8.ofNat n] := high_dec ⟨#[UInt8.ofNat n]⟩
    rw [hnum, ← e]
    rfl
  · have hnum : numL n = Lib.encodeRune (n : Int) := by unfold numL; rw [if_neg h0, if_neg h1]
    have h3 : ¬ (n : Int) = 0 := by omega
    have hw : IntKind.i32.wrap (n : Int) = (n : Int) := IntWalk.i32_in _ (by omega)
    by_cases h4 : (128 : Int) ≤ (n : Int)
    · have h5 : ¬ (n : Int) ≤ 159 := by omega
      clear h1
      go_enter Tryz.func37, Tryz.ntmps37
      go_wp2
      go_ret
      exact ⟨by rw [← enc_str]; rfl, Below.refl _ _⟩
    · clear h1 hn
      go_enter Tryz.func37, Tryz.ntmps37
      go_wp2
      go_ret
      exact ⟨by rw [← enc_str]; rfl, Below.refl _ _⟩
theorem trim_hash (c : UInt8) (r : List UInt8) : Lib.hasPrefix (c :: r) [35] = (c == 35) := by
  show ((35 : UInt8) == c && List.isPrefixOf [] r) = _
  simp only [List.isPrefixOf, Bool.and_true]
  rw [Bool.eq_iff_iff]; simp only [beq_iff_eq]; exact eq_comm
theorem bits_x (c : UInt8) : (bits BinOp.or IntKind.u8 (c.toNat : Int) 32 == 120) = decide (c = 120 ∨ c = 88) := by
  have h : ∀ n : Fin 256, (bits BinOp.or IntKind.u8 (((UInt8.ofNat n.val).toNat : Nat) : Int) 32 == 120) = decide (UInt8.ofNat n.val = 120 ∨ UInt8.ofNat n.val = 88) := by decide +kernel
  have h2 := h ⟨c.toNat, UInt8.toNat_lt c⟩
  simpa using h2
theorem numbL_le (l : List UInt8) (n : Nat) (h : numbL l = some n) : n ≤ 16777215 := by
  have key : ∀ (base most : Nat) (l : List UInt8), base ^ most ≤ 16777216 → 1 ≤ base → digL base most l = some n → n ≤ 16777215 := fun base most l hp hb1 h => by
    unfold digL at h
    split at h
    · cases h
    · rename_i hl
      have := (digG_bound base l 0 n h).2
      have h3 : base ^ l.length ≤ base ^ most := Nat.pow_le_pow_right hb1 (by omega)
      omega
  cases l with
  | nil => cases h
  | cons x r =>
    rw [show numbL (x :: r) = if x = 120 ∨ x = 88 then digL 16 6 r else digL 10 7 (x :: r) from rfl] at h
    by_cases hx : x = 120 ∨ x = 88
    · rw [if_pos hx] at h
      exact key 16 6 r (by decide +kernel) (by decide) h
    · rw [if_neg hx] at h
      exact key 10 7 _ (by decide +kernel) (by decide) h
set_option maxRecDepth 100000 in
set_option maxHeartbeats 4000000 in
theorem sign_c (s : ByteArray) (hs : s.size ≤ 10000000) (w : World) (hG : GlobE w) :
    Calls Tryz.prog 22 #[.string s] w fun e w' => (∃ x : ByteArray, e = .returned (.tuple #[.string x, .bool (signL s.data.toList).isSome]) ∧ ∀ t, signL s.data.toList = some t → x = ⟨t.toArray⟩) ∧ Below w.heap.size w w' := by
  have CP := Tryz.strings_CutPrefix s ⟨#[35]⟩ w
  rw [show (⟨#[35]⟩ : ByteArray).data.toList = [35] from rfl] at CP
  by_cases h35 : ∃ r, s.data.toList = 35 :: r
  · obtain ⟨r, hr⟩ := h35
    have hsg : signL s.data.toList = (numbL r).map numL := by rw [hr]; rfl
    have e1 : Lib.hasPrefix s.data.toList [35] = true := by rw [hr]; rfl
    have e2 : Lib.trimPrefix s.data.toList [35] = r := by rw [hr]; rfl
    rw [e1, e2] at CP
    rw [hsg]
    have hl : s.data.toList.length = s.size := by simp
    rw [hr, List.length_cons] at hl
    have DG := fun (b most : Nat) (bi mi : Int) hb (S : ByteArray) (hS : S.size ≤ 10000000) W (h : Below w.heap.size w W) => digits_c S b most bi mi hb hS W (hG.below h)
    have NB := Lib.hid (fun (o : Option Nat) (ho : ∀ v, o = some v → v ≤ 16777215) W (h : Below w.heap.size w W) => (show Calls Tryz.prog 37 #[.int .i64 (numV o)] W fun e w' => (∃ x : ByteArray, e = .returned (.string x) ∧ ∀ v, o = some v → x = ⟨(numL v).toArray⟩) ∧ Below W.heap.size W w' from by
      cases o with
      | some v =>
        refine (numbered_c v (ho v rfl) W (hG.below h)).mono ?_
        rintro e w' ⟨rfl, hb⟩
        exact ⟨⟨_, rfl, fun v' hv => by cases hv; rfl⟩, hb⟩
      | none =>
        refine (numbered_c 0 (by decide) W (hG.below h)).mono ?_
        rintro e w' ⟨rfl, hb⟩
        exact ⟨⟨_, rfl, fun v' hv => by cases hv⟩, hb⟩))
    have hle := numbL_le r
    obtain ⟨R, hR⟩ : ∃ R : ByteArray, ⟨r.toArray⟩ = R := ⟨_, rfl⟩
    have hRd : R.data.toList = r := by rw [← hR]
    have hRz : R.size ≤ 10000000 := by rw [← hR, mk_size]; omega
    rw [hR] at CP
    have CP2 := Lib.hid CP
    have HLE := Lib.hid hle
    cases r with
    | nil =>
      have hz : digL 10 7 R.data.toList = none := by rw [hRd]; rfl
      have D1 := DG 10 7 10 7 (.inl ⟨rfl, rfl, rfl, rfl⟩) R hRz w (Below.refl _ _)
      rw [hz] at D1
      have HD := Lib.hid D1
      have N1 := Lib.hid (fun W h => NB.out none (fun v hv => by cases hv) W h)
      have hRe : R.toList.isEmpty = true := by rw [toList_eq, hRd]; rfl
      clear DG hG CP hr e1 e2 hsg D1 hz hle hR hRd
      go_enter Tryz.func22, Tryz.ntmps22
      go_wp2_with (first
        | (go_at_call 35; refine CP2.out.mono ?_; rintro e w2 ⟨rfl, hw2⟩; replace hw2 := hw2.symm; subst hw2)
        | (go_at_call 36; refine HD.out.mono ?_; rintro e w3 ⟨rfl, hb3⟩; have HB3 := Lib.hid hb3; clear hb3)
        | (go_at_call 37; refine (N1.out _ HB3.out).mono ?_; rintro e w4 ⟨⟨x, rfl, hx⟩, hb4⟩; have HB4 := Lib.hid hb4; clear hb4 hx))
      go_ret2
      exact ⟨⟨_, rfl, fun t ht => by cases ht⟩, HB3.out.trans (HB4.out.mono HB3.out.size)⟩
    | cons c q =>
      have hR1 : 1 ≤ R.size := by rw [← hR, mk_size]; simp
      have hRe : R.toList.isEmpty = false := filled R hR1
      have hc0 : R[0]'hR1 = c := by
        have : R.data.toList[0]'(by rw [hRd]; simp) = c := by simp [hRd]
        exact this
      have hbx := bits_x c
      by_cases hx : c = 120 ∨ c = 88
      · rw [decide_eq_true hx] at hbx
        obtain ⟨S, hS⟩ : ∃ S, R.extract 1 R.size = S := ⟨_, rfl⟩
        have hSd : S.data.toList = q := by
          rw [← hS, extract_list, hRd, List.take_of_length_le (by rw [← hRd]; simp)]; rfl
        have hSz : S.size ≤ 10000000 := by rw [← hS]; simp; omega
        have hnb : numbL (c :: q) = digL 16 6 q := by rw [show numbL (c :: q) = if c = 120 ∨ c = 88 then digL 16 6 q else digL 10 7 (c :: q) from rfl, if_pos hx]
        rw [hnb] at HLE ⊢
        have D1 := DG 16 6 16 6 (.inr ⟨rfl, rfl, rfl, rfl⟩) S hSz w (Below.refl _ _)
        rw [hSd] at D1
        have HD := Lib.hid D1
        have N1 := Lib.hid (fun W h => NB.out (digL 16 6 q) HLE.out W h)
        have hR1i : (1 : Int) ≤ (R.size : Int) := by omega
        clear DG hG CP hr e1 e2 hsg D1 hle hR hRd NB hnb HLE hx hSd hSz
        generalize digL 16 6 q = o at *
        go_enter Tryz.func22, Tryz.ntmps22
        go_wp2_with (first
          | (go_at_call 35; refine CP2.out.mono ?_; rintro e w2 ⟨rfl, hw2⟩; replace hw2 := hw2.symm; subst hw2)
          | (go_at_call 36; refine HD.out.mono ?_; rintro e w3 ⟨rfl, hb3⟩; have HB3 := Lib.hid hb3; clear hb3)
          | (go_at_call 37; refine (N1.out _ HB3.out).mono ?_; rintro e w4 ⟨⟨x, rfl, hx⟩, hb4⟩; have HB4 := Lib.hid hb4; have HX := Lib.hid hx; clear hb4 hx))
        go_ret2
        refine ⟨⟨x, by rw [Option.isSome_map]; rfl, fun t ht => ?_⟩, HB3.out.trans (HB4.out.mono HB3.out.size)⟩
        obtain ⟨v, hv, rfl⟩ := Option.map_eq_some_iff.1 ht
        exact HX.out v hv
      · rw [decide_eq_false hx] at hbx
        have hnb : numbL (c :: q) = digL 10 7 (c :: q) := by rw [show numbL (c :: q) = if c = 120 ∨ c = 88 then digL 16 6 q else digL 10 7 (c :: q) from rfl, if_neg hx]
        rw [hnb] at HLE ⊢
        have D1 := DG 10 7 10 7 (.inl ⟨rfl, rfl, rfl, rfl⟩) R hRz w (Below.refl _ _)
        rw [hRd] at D1
        have HD := Lib.hid D1
        have N1 := Lib.hid (fun W h => NB.out (digL 10 7 (c :: q)) HLE.out W h)
        clear DG hG CP hr e1 e2 hsg D1 hle hR hRd NB hnb HLE hx
        generalize digL 10 7 (c :: q) = o at *
        go_enter Tryz.func22, Tryz.ntmps22
        go_wp2_with (first
          | (go_at_call 35; refine CP2.out.mono ?_; rintro e w2 ⟨rfl, hw2⟩; replace hw2 := hw2.symm; subst hw2)
          | (go_at_call 36; refine HD.out.mono ?_; rintro e w3 ⟨rfl, hb3⟩; have HB3 := Lib.hid hb3; clear hb3)
          | (go_at_call 37; refine (N1.out _ HB3.out).mono ?_; rintro e w4 ⟨⟨x, rfl, hx⟩, hb4⟩; have HB4 := Lib.hid hb4; have HX := Lib.hid hx; clear hb4 hx))
        go_ret2
        refine ⟨⟨x, by rw [Option.isSome_map]; rfl, fun t ht => ?_⟩, HB3.out.trans (HB4.out.mono HB3.out.size)⟩
        obtain ⟨v, hv, rfl⟩ := Option.map_eq_some_iff.1 ht
        exact HX.out v hv
  · have e1 : Lib.hasPrefix s.data.toList [35] = false := by
      cases hd : s.data.toList with
      | nil => rfl
      | cons c r =>
        rw [trim_hash, beq_eq_false_iff_ne]
        rintro rfl
        exact h35 ⟨r, hd⟩
    have hsg : signL s.data.toList = (nameL s.data.toList).map Lib.encodeRune := by
      cases hd : s.data.toList with
      | nil => rfl
      | cons c r =>
        rw [show signL (c :: r) = if c = 35 then (numbL r).map numL else (nameL (c :: r)).map Lib.encodeRune from rfl, if_neg]
        rintro rfl
        exact h35 ⟨r, hd⟩
    rw [e1] at CP
    rw [hsg]
    obtain ⟨bm, _, hc, hl⟩ := hG.names
    obtain ⟨l1, l2⟩ := hl w rfl s hs
    have CP2 := Lib.hid CP
    clear hG hl CP e1 hsg h35
    cases hn : nameL s.data.toList with
    | some c =>
      have q := l1 c hn
      have e3 := enc_str c
      have E3 := Lib.hid e3
      clear l1 l2 hn e3
      go_enter Tryz.func22, Tryz.ntmps22
      go_wp2_with (go_at_call 35; refine CP2.out.mono ?_; rintro e w2 ⟨rfl, rfl⟩)
      go_ret2
      refine ⟨⟨_, rfl, fun t ht => ?_⟩, Below.refl _ _⟩
      cases ht
      exact E3.out
    | none =>
      have q := l2 hn
      clear l1 l2 hn
      go_enter Tryz.func22, Tryz.ntmps22
      go_wp2_with (go_at_call 35; refine CP2.out.mono ?_; rintro e w2 ⟨rfl, rfl⟩)
      go_ret2
      exact ⟨⟨_, rfl, fun t ht => by cases ht⟩, Below.refl _ _⟩
theorem std_cut (c : UInt8) (l : List UInt8) : (cutL c l = none → Go.Proofs.YtkfcbafjcjmfnaaGreatDoor.cutL c l = (l, [], false)) ∧ (∀ a b, cutL c l = some (a, b) → Go.Proofs.YtkfcbafjcjmfnaaGreatDoor.cutL c l = (a, b, true)) := by
  constructor
  · intro h
    unfold Go.Proofs.YtkfcbafjcjmfnaaGreatDoor.cutL
    rw [if_neg ((cutL_none c l).1 h)]
  · intro a b h
    obtain ⟨rfl, hn⟩ := (cutL_some c l a b).1 h
    unfold Go.Proofs.YtkfcbafjcjmfnaaGreatDoor.cutL
    rw [if_pos (by simp)]
    have h1 : (a ++ c :: b).takeWhile (· != c) = a := takeWhile_ends _ a b c (fun x hx => by simp; rintro rfl; exact hn hx) (by simp)
    have h2 : (a ++ c :: b).dropWhile (· != c) = c :: b := by
      have h3 := List.takeWhile_append_dropWhile (p := (· != c)) (l := a ++ c :: b)
      rw [h1] at h3
      exact List.append_cancel_left h3
    rw [h1, h2]; rfl
theorem cut_c (s : ByteArray) (c : UInt8) (hs : s.size ≤ 10000000) (w : World) :
    Calls Tryz.prog 19 #[.string s, .string ⟨#[c]⟩] w fun e w' => e = .returned (.tuple #[.string ⟨(Go.Proofs.YtkfcbafjcjmfnaaGreatDoor.cutL c s.data.toList).1.toArray⟩, .string ⟨(Go.Proofs.YtkfcbafjcjmfnaaGreatDoor.cutL c s.data.toList).2.1.toArray⟩, .bool (Go.Proofs.YtkfcbafjcjmfnaaGreatDoor.cutL c s.data.toList).2.2]) ∧ Below w.heap.size w w' :=
  strings_Cut.calls s ⟨#[c]⟩ _ _ _ w (guard_of ⟨rfl, by omega⟩)
theorem dec_ahead : ∀ (a l : List UInt8), (38 : UInt8) ∉ a → dec 0 (a ++ l) = a ++ dec 0 l
  | [], l, _ => rfl
  | c :: a, l, h => by
    simp at h
    rw [List.cons_append, dec_plain c _ (fun e => h.1 e.symm), dec_ahead a l h.2]; rfl
def sizeOf (v : Value) : Nat := match v with | .string s => s.size | _ => 0
set_option maxRecDepth 100000 in
set_option maxHeartbeats 8000000 in
theorem Decode_c (s : ByteArray) (hs : s.size ≤ 1000000) (w : World) (hGl : GlobE w) :
    Calls Tryz.prog 12 #[.string s] w fun e w' => e = .returned (.string ⟨(dec 0 s.data.toList).toArray⟩) ∧ Below w.heap.size w w' := by
  have WS : ∀ (acc : List UInt8) (x : ByteArray) (W : World), IsBuilderF 31 5 w.heap.size w.heap.size (byteCells acc) W → acc.length + x.size ≤ 100000000000000 → w.heap.size ≤ W.heap.size →
      Calls Tryz.prog 20 #[.pointer (some ⟨w.heap.size, 0, none⟩), .string x] W fun e w' => e = .returned (.tuple #[.int .i64 x.size, .nilIface]) ∧ (IsBuilderF 31 5 w.heap.size w.heap.size (byteCells (acc ++ x.data.toList)) w' ∧ Below w.heap.size W w') := by
    intro acc x W h h1 h2
    refine (Bld.WriteString_k _ _ _ x W h (by rw [byteCells_length]; omega) h2).mono ?_
    rintro e w' ⟨rfl, k1, k2, _⟩
    exact ⟨rfl, by rw [byteCells_append]; exact k1, k2⟩
  have WB : ∀ (acc : List UInt8) (W : World), IsBuilderF 31 5 w.heap.size w.heap.size (byteCells acc) W → acc.length + 1 ≤ 100000000000000 → w.heap.size ≤ W.heap.size →
      Calls Tryz.prog 23 #[.pointer (some ⟨w.heap.size, 0, none⟩), .int .u8 38] W fun e w' => e = .returned .nilIface ∧ (IsBuilderF 31 5 w.heap.size w.heap.size (byteCells (acc ++ [38])) w' ∧ Below w.heap.size W w') := by
    intro acc W h h1 h2
    refine (Bld.WriteByte_k _ _ _ 38 W h (by rw [byteCells_length]; omega) h2).mono ?_
    rintro e w' ⟨rfl, k1, k2, _⟩
    exact ⟨rfl, by rw [byteCells_append]; exact k1, k2⟩
  have HWS := Lib.hid WS; have HWB := Lib.hid WB
  have GL := Lib.hid hGl
  clear WS WB hGl
  go_enter Tryz.func12, Tryz.ntmps12
  go_wp2
  go_loopw [0] (fun sv wr => ∃ (S : ByteArray) (done : List UInt8), sv = .string S ∧ S.size ≤ s.size ∧ done ++ dec 0 S.data.toList = dec 0 s.data.toList ∧ IsBuilderF 31 5 w.heap.size w.heap.size (byteCells done) wr ∧ Below w.heap.size w wr) (fun sv _ => sizeOf sv)
  case atStart => exact ⟨s, [], rfl, Nat.le_refl _, rfl, IsBuilderF.of (Lib.fresh_isBuilder 31 5 w), (Below.refl _ w).alloc (Nat.le_refl _) _⟩
  case round =>
    obtain ⟨S, done, rfl, hS, he, hI, hB⟩ := hrel
    have hdl : done.length ≤ 1000000 := by
      have h := congrArg List.length he
      have h2 := dec_len _ s.data.toList (Nat.le_refl _)
      have h3 : s.data.toList.length = s.size := by simp
      rw [List.length_append] at h
      omega
    have HE := Lib.hid he; have HI := Lib.hid hI; have HB := Lib.hid hB
    have hSl : S.data.toList.length = S.size := by simp
    have C1 := Lib.hid (cut_c S 38 (by omega) wr)
    obtain ⟨k1, k2⟩ := std_cut 38 S.data.toList
    clear he hI hB
    cases hc : cutL 38 S.data.toList with
    | none =>
      rw [k1 hc] at C1
      simp only [mk_back] at C1
      have hm := (cutL_none 38 _).1 hc
      have hE2 : done ++ S.data.toList = dec 0 s.data.toList := by rw [← HE.out, dec_same _ hm]
      have HE2 := Lib.hid hE2
      clear k1 k2 hc hm hE2
      go_wp2_with (first
        | (go_at_call 19; refine C1.out.mono ?_; rintro e W1 ⟨rfl, b1⟩; have B1 := Lib.hid b1; clear b1)
        | (go_at_call 20; refine (HWS.out done _ _ (IsBuilderF.below HI.out B1.out) (by first | omega | (rw [mk_size]; omega)) (HB.out.trans (B1.out.mono HB.out.size)).size).mono ?_; rintro e W2 ⟨rfl, k1, k2⟩; have K1 := Lib.hid k1; have K2 := Lib.hid ((HB.out.trans (B1.out.mono HB.out.size)).trans k2); clear k1 k2)
        | (go_at_call 21; refine (Tryz.Builder_String_any_k w.heap.size w.heap.size _ _ K1.out K2.out.size).mono ?_; rintro e W3 ⟨rfl, _, b3, _⟩; have B3 := Lib.hid b3; clear b3))
      go_ret
      exact ⟨by rw [← HE2.out]; rfl, K2.out.trans B3.out⟩
    | some p =>
      obtain ⟨a, r⟩ := p
      rw [k2 a r hc] at C1
      obtain ⟨hSd, hna⟩ := (cutL_some 38 _ a r).1 hc
      have hlen := congrArg List.length hSd
      rw [hSl, List.length_append, List.length_cons] at hlen
      have hE2 : done ++ a ++ dec 0 (38 :: r) = dec 0 s.data.toList := by rw [← HE.out, hSd, dec_ahead a _ hna, List.append_assoc]
      obtain ⟨A, hA⟩ : ∃ A : ByteArray, ⟨a.toArray⟩ = A := ⟨_, rfl⟩
      obtain ⟨R, hR⟩ : ∃ R : ByteArray, ⟨r.toArray⟩ = R := ⟨_, rfl⟩
      have hAd : A.data.toList = a := by rw [← hA]
      have hRd : R.data.toList = r := by rw [← hR]
      have hAz : A.size = a.length := by rw [← hA, mk_size]
      have hRz : R.size = r.length := by rw [← hR, mk_size]
      simp only [hA, hR] at C1
      have C2 := fun W => cut_c R 59 (by omega) W
      rw [hRd] at C2
      obtain ⟨k3, k4⟩ := std_cut 59 r
      cases hc2 : cutL 59 r with
      | none =>
        have h1 : oneL r = none := by unfold oneL; rw [hc2]
        have hN : (done ++ A.data.toList ++ [38]) ++ dec 0 R.data.toList = dec 0 s.data.toList := by rw [← hE2, dec_none r h1, hAd, hRd]; simp
        rw [k3 hc2, ← hRd] at C2
        have CC := Lib.hid C2; have HN := Lib.hid hN
        have SC := Lib.hid (fun W h => sign_c R (by omega) W h)
        have hal : A.size + R.size + 1 = S.size := by omega
        have hdA : (done ++ A.data.toList).length ≤ 3000000 := by rw [List.length_append, hAd]; omega
        clear k1 k2 k3 k4 hc hc2 hna hSd hE2 hA hR hAd hRd h1 hN C2 hlen hSl
        go_wp2_with (first
          | (go_at_call 19; first
              | (with_reducible refine C1.out.mono ?_; rintro e W1 ⟨rfl, b1⟩; have B1 := Lib.hid (HB.out.trans (b1.mono HB.out.size)); have I1 := Lib.hid (IsBuilderF.below HI.out b1); clear b1)
              | (with_reducible refine (CC.out _).mono ?_; rintro e W3 ⟨rfl, b3⟩; have B3 := Lib.hid (B2.out.trans (b3.mono B2.out.size)); have I3 := Lib.hid (IsBuilderF.below I2.out b3); clear b3))
          | (go_at_call 20; refine (HWS.out done _ _ I1.out (by omega) B1.out.size).mono ?_; rintro e W2 ⟨rfl, k1, k2⟩; have I2 := Lib.hid k1; have B2 := Lib.hid (B1.out.trans k2); clear k1 k2)
          | (go_at_call 22; refine (SC.out _ (GL.out.below B3.out)).mono ?_; rintro e W4 ⟨⟨x, rfl, _⟩, b4⟩; have B4 := Lib.hid (B3.out.trans (b4.mono B3.out.size)); have I4 := Lib.hid (IsBuilderF.below I3.out b4); clear b4)
          | (go_at_call 23; refine (HWB.out _ _ I4.out (by omega) B4.out.size).mono ?_; rintro e W5 ⟨rfl, k1, k2⟩; have I5 := Lib.hid k1; have B5 := Lib.hid (B4.out.trans k2); clear k1 k2))
        go_roundw
        case rel => exact ⟨R, _, rfl, by omega, HN.out, I5.out, B5.out⟩
        case measure => simp [sizeOf]; omega
      | some p2 =>
        obtain ⟨nm, r2⟩ := p2
        obtain ⟨hr, hnn⟩ := (cutL_some 59 r nm r2).1 hc2
        have hlen2 := congrArg List.length hr
        rw [List.length_append, List.length_cons] at hlen2
        obtain ⟨M, hM⟩ : ∃ M : ByteArray, ⟨nm.toArray⟩ = M := ⟨_, rfl⟩
        obtain ⟨R2, hR2⟩ : ∃ R : ByteArray, ⟨r2.toArray⟩ = R := ⟨_, rfl⟩
        have hMd : M.data.toList = nm := by rw [← hM]
        have hR2d : R2.data.toList = r2 := by rw [← hR2]
        have hMz : M.size = nm.length := by rw [← hM, mk_size]
        have hR2z : R2.size = r2.length := by rw [← hR2, mk_size]
        rw [k4 nm r2 hc2] at C2
        simp only [hM, hR2] at C2
        have CC := Lib.hid C2
        have hal : A.size + R.size + 1 = S.size := by omega
        have hdA : (done ++ A.data.toList).length ≤ 3000000 := by rw [List.length_append, hAd]; omega
        have ho : oneL r = (signL nm).map fun t => (t, nm.length + 1) := by unfold oneL; rw [hc2]
        have SC := fun W h => sign_c M (by omega) W h
        rw [hMd] at SC
        cases hsg : signL nm with
        | none =>
          have hN : (done ++ A.data.toList ++ [38]) ++ dec 0 R.data.toList = dec 0 s.data.toList := by rw [← hE2, dec_none r (by rw [ho, hsg]; rfl), hAd, hRd]; simp
          rw [hsg] at SC
          have HSC := Lib.hid SC; have HN := Lib.hid hN
          clear k1 k2 k3 k4 hc hc2 hna hSd hE2 hA hR hAd hRd hN C2 hlen hSl hr hnn hlen2 hM hR2 hMd hR2d hMz hR2z ho SC hsg
          go_wp2_with (first
            | (go_at_call 19; first
                | (with_reducible refine C1.out.mono ?_; rintro e W1 ⟨rfl, b1⟩; have B1 := Lib.hid (HB.out.trans (b1.mono HB.out.size)); have I1 := Lib.hid (IsBuilderF.below HI.out b1); clear b1)
                | (with_reducible refine (CC.out _).mono ?_; rintro e W3 ⟨rfl, b3⟩; have B3 := Lib.hid (B2.out.trans (b3.mono B2.out.size)); have I3 := Lib.hid (IsBuilderF.below I2.out b3); clear b3))
            | (go_at_call 20; refine (HWS.out done _ _ I1.out (by omega) B1.out.size).mono ?_; rintro e W2 ⟨rfl, k1, k2⟩; have I2 := Lib.hid k1; have B2 := Lib.hid (B1.out.trans k2); clear k1 k2)
            | (go_at_call 22; refine (HSC.out _ (GL.out.below B3.out)).mono ?_; rintro e W4 ⟨⟨x, rfl, _⟩, b4⟩; have B4 := Lib.hid (B3.out.trans (b4.mono B3.out.size)); have I4 := Lib.hid (IsBuilderF.below I3.out b4); clear b4)
            | (go_at_call 23; refine (HWB.out _ _ I4.out (by omega) B4.out.size).mono ?_; rintro e W5 ⟨rfl, k1, k2⟩; have I5 := Lib.hid k1; have B5 := Lib.hid (B4.out.trans k2); clear k1 k2))
          go_roundw
          case rel => exact ⟨R, _, rfl, by omega, HN.out, I5.out, B5.out⟩
          case measure => simp [sizeOf]; omega
        | some t =>
          have hN : (done ++ A.data.toList ++ t) ++ dec 0 R2.data.toList = dec 0 s.data.toList := by
            rw [← hE2, dec_some r t (nm.length + 1) (by rw [ho, hsg]; rfl), hAd, hR2d, hr]
            have : (nm ++ 59 :: r2).drop (nm.length + 1) = r2 := by
              rw [show nm ++ 59 :: r2 = (nm ++ [59]) ++ r2 from by simp]
              exact List.drop_left' (by simp)
            rw [this]; simp
          have htl := signL_len nm t hsg
          obtain ⟨T, hT⟩ : ∃ T : ByteArray, ⟨t.toArray⟩ = T := ⟨_, rfl⟩
          have hTd : T.data.toList = t := by rw [← hT]
          have hTz : T.size = t.length := by rw [← hT, mk_size]
          have SC2 : ∀ W, GlobE W → Calls Tryz.prog 22 #[.string M] W fun e w' => e = .returned (.tuple #[.string T, .bool true]) ∧ Below W.heap.size W w' := fun W h => (SC W h).mono (by
            rintro e w' ⟨⟨x, rfl, hx⟩, hb⟩
            rw [hx t hsg, hT, hsg]
            exact ⟨rfl, hb⟩)
          rw [← hTd] at hN
          have HSC := Lib.hid SC2; have HN := Lib.hid hN
          have hTz2 : T.size ≤ 1000002 := by omega
          have hR2S : R2.size < S.size := by omega
          clear k1 k2 k3 k4 hc hc2 hna hSd hE2 hA hR hAd hRd hN C2 hlen hSl hr hnn hlen2 hM hR2 hMd hR2d hMz hR2z ho SC SC2 hsg htl hT hTd hTz
          go_wp2_with (first
            | (go_at_call 19; first
                | (with_reducible refine C1.out.mono ?_; rintro e W1 ⟨rfl, b1⟩; have B1 := Lib.hid (HB.out.trans (b1.mono HB.out.size)); have I1 := Lib.hid (IsBuilderF.below HI.out b1); clear b1)
                | (with_reducible refine (CC.out _).mono ?_; rintro e W3 ⟨rfl, b3⟩; have B3 := Lib.hid (B2.out.trans (b3.mono B2.out.size)); have I3 := Lib.hid (IsBuilderF.below I2.out b3); clear b3))
            | (go_at_call 20; first
                | (with_reducible refine (HWS.out _ T _ I4.out (by omega) B4.out.size).mono ?_; rintro e W5 ⟨rfl, k1, k2⟩; have I5 := Lib.hid k1; have B5 := Lib.hid (B4.out.trans k2); clear k1 k2)
                | (with_reducible refine (HWS.out done A _ I1.out (by omega) B1.out.size).mono ?_; rintro e W2 ⟨rfl, k1, k2⟩; have I2 := Lib.hid k1; have B2 := Lib.hid (B1.out.trans k2); clear k1 k2))
            | (go_at_call 22; refine (HSC.out _ (GL.out.below B3.out)).mono ?_; rintro e W4 ⟨rfl, b4⟩; have B4 := Lib.hid (B3.out.trans (b4.mono B3.out.size)); have I4 := Lib.hid (IsBuilderF.below I3.out b4); clear b4))
          go_roundw
          case rel => exact ⟨R2, _, rfl, by omega, HN.out, I5.out, B5.out⟩
          case measure => simp [sizeOf]; omega
theorem quo_same : ∀ (l : List UInt8), (34 : UInt8) ∉ l → quo l = l
  | [], _ => rfl
  | c :: r, h => by
    simp at h
    rw [quo_cons, quo_same r h.2]
    unfold qq
    rw [if_neg (fun e => h.1 e.symm)]
    rfl
theorem index_at (c : UInt8) (a b : List UInt8) (h : c ∉ a) : Lib.index (a ++ c :: b) [c] = (a.length : Int) := by
  obtain ⟨h1, _⟩ := index_split c (a ++ c :: b)
  obtain ⟨i, e1, e2, e3, _⟩ := h1 (by simp)
  have e4 : (a ++ c :: b).takeWhile (· != c) = a := takeWhile_ends _ a b c (fun x hx => by simp; rintro rfl; exact h hx) (by simp)
  rw [e4] at e3
  have : i = a.length := by
    have := congrArg List.length e3
    rw [List.length_take] at this
    omega
  rw [Lib.index_one, e1, this]
theorem replaceK_quo : ∀ (n : Nat) (l : List UInt8), l.length ≤ n → Lib.replaceK [34] [38, 113, 117, 111, 116, 59] (Lib.count l [34]) l = quo l
  | n, l, hn => by
    cases hc : cutL 34 l with
    | none =>
      have hm := (cutL_none 34 l).1 hc
      have hi : Lib.index l [34] = -1 := by rw [Lib.index_one]; exact (index_split 34 l).2 hm
      rw [Lib.count_miss hi, quo_same l hm]
      rfl
    | some p =>
      obtain ⟨a, b⟩ := p
      obtain ⟨rfl, hna⟩ := (cutL_some 34 l a b).1 hc
      have hi := index_at 34 a b hna
      rw [Lib.count_hit (by simp) hi, Nat.add_comm 1, Lib.replaceK_hit _ _ _ _ _ hi]
      have hd : (a ++ 34 :: b).drop (a.length + [(34 : UInt8)].length) = b := by
        rw [show a ++ 34 :: b = (a ++ [34]) ++ b from by simp]
        exact List.drop_left' (by simp)
      have ht : (a ++ 34 :: b).take a.length = a := List.take_left' rfl
      rw [hd, ht]
      match n, hn with
      | 0, hn => simp at hn
      | n + 1, hn =>
        rw [replaceK_quo n b (by simp at hn; omega), quo_append, quo_same a hna]
        simp [quo_cons, qq]
theorem replaceAll_quo (l : List UInt8) : Lib.replaceAll l [34] [38, 113, 117, 111, 116, 59] = quo l := by
  unfold Lib.replaceAll Lib.replace
  rw [if_neg (by decide)]
  unfold Lib.replaceNum
  rw [if_pos (.inl (by decide))]
  exact replaceK_quo _ l (Nat.le_refl _)
theorem esc_le (s : ByteArray) : (esc 0 s.data.toList).length ≤ 6 * s.size := by
  have := esc_len _ s.data.toList (Nat.le_refl _)
  simpa using this
set_option maxRecDepth 100000 in
set_option maxHeartbeats 4000000 in
theorem Value_c (s : ByteArray) (hs : s.size ≤ 1000000) (w : World) (hGl : GlobE w) :
    Calls Tryz.prog 16 #[.string s] w fun e w' => e = .returned (.string ⟨(quo (esc 0 s.data.toList)).toArray⟩) ∧ Below w.heap.size w w' := by
  have hl := esc_le s
  have TX := Lib.hid (Text_c s w hs)
  obtain ⟨X, hX⟩ : ∃ X : ByteArray, ⟨(esc 0 s.data.toList).toArray⟩ = X := ⟨_, rfl⟩
  have hXd : X.data.toList = esc 0 s.data.toList := by rw [← hX]
  have hXz : X.size ≤ 6000000 := by rw [← hX, mk_size]; omega
  have hcm := Lib.countB_mul_le ⟨#[34]⟩ (by decide) X.size X (Nat.le_refl _)
  rw [show (⟨#[34]⟩ : ByteArray).size = 1 from rfl, Nat.mul_one] at hcm
  have RA : ∀ (W : World), Below w.heap.size w W → Calls Tryz.prog 27 #[.string X, .string ⟨#[34]⟩, .string ⟨#[38, 113, 117, 111, 116, 59]⟩] W fun e w' => e = .returned (.string ⟨(quo (esc 0 s.data.toList)).toArray⟩) ∧ Below W.heap.size W w' := fun W h => by
    obtain ⟨m, hm⟩ := ((hGl.below h).g).maxl
    have h := Tryz.strings_ReplaceAll X ⟨#[34]⟩ ⟨#[38, 113, 117, 111, 116, 59]⟩ m W (by omega) hm (by decide) (by rw [show (⟨#[38, 113, 117, 111, 116, 59]⟩ : ByteArray).size = 6 from rfl]; omega)
    rw [show (⟨#[34]⟩ : ByteArray).data.toList = [34] from rfl, show (⟨#[38, 113, 117, 111, 116, 59]⟩ : ByteArray).data.toList = [38, 113, 117, 111, 116, 59] from rfl, replaceAll_quo, hXd] at h
    exact h
  rw [hX] at TX
  have HRA := Lib.hid RA
  clear RA hX hXd hXz hcm hl hGl hs
  go_enter Tryz.func16, Tryz.ntmps16
  go_wp2_with (first
    | (go_at_call 14; refine TX.out.mono ?_; rintro e W1 ⟨rfl, b1⟩; have B1 := Lib.hid b1; clear b1)
    | (go_at_call 27; refine (HRA.out _ B1.out).mono ?_; rintro e W2 ⟨rfl, b2⟩; have B2 := Lib.hid b2; clear b2))
  go_ret
  exact ⟨rfl, B1.out.trans (B2.out.mono B1.out.size)⟩
end Go.Proofs.YtkfcbafjcjmfnaaGreatDoor.Ent
namespace Go.Proofs.YtkfcbafjcjmfnaaGreatDoor.Alph
open Go.RowKit Go.Lib Go.Proofs.YtkfcbafjcjmfnaaGreatDoor Go.Proofs.YtkfcbafjcjmfnaaGreatDoor.C Go.Proofs.YtkfcbafjcjmfnaaGreatDoor.Pure
set_option linter.unusedVariables false
theorem known_c (a : ByteArray) (ha : a.size ≤ 5000) (w : World) : Calls Tryz.prog 67 #[.string a] w fun e w' => e = .returned (.tuple #[.string (knownL (labelL a)).1, .bool (knownL (labelL a)).2]) ∧ Below w.heap.size w w' := by
  obtain ⟨r, h⟩ := known_is a ha
  exact chars_Known.calls r a _ _ w (h r (Nat.le_refl _))
theorem refKnown_c (a : ByteArray) (ha : a.size ≤ 5000) (w : World) : Calls Tryz.prog 56 #[.string a] w fun e w' => e = .returned (.tuple #[.string (knownL (labelL a)).1, .bool (knownL (labelL a)).2]) ∧ Below w.heap.size w w' := by
  obtain ⟨r, h⟩ := refKnown_is a ha
  exact muslinref04_Known.calls r a _ _ w (h r (Nat.le_refl _))
theorem decode_c (a s : ByteArray) (ha : a.size ≤ 5000) (hs : s.size ≤ 11000000) (w : World) (hGl : Glob w) : Calls Tryz.prog 48 #[.string a, .string s] w fun e w' => e = .returned (.tuple #[.string ⟨(decL (knownL (labelL a)).1 s.data.toList).toArray⟩, .bool (knownL (labelL a)).2]) ∧ Below w.heap.size w w' := by
  obtain ⟨r, h⟩ := decode_is a s ha hs
  exact chars_Decode.calls r a s _ _ w hGl (h r (Nat.le_refl _))
theorem refDecode_c (a s : ByteArray) (ha : a.size ≤ 5000) (hs : s.size ≤ 5000) (w : World) : Calls Tryz.prog 42 #[.string a, .string s] w fun e w' => e = .returned (.tuple #[.string ⟨(decL (knownL (labelL a)).1 s.data.toList).toArray⟩, .bool (knownL (labelL a)).2]) ∧ Below w.heap.size w w' := by
  obtain ⟨r, h⟩ := refDecode_is a s ha hs
  exact muslinref04_Decode.calls r a s _ _ w (h r (Nat.le_refl _))
theorem refValid_c (s : ByteArray) (hs : s.size ≤ 35184372088832) (w : World) : Calls Tryz.prog 59 #[.string s] w fun e w' => e = .returned (.string (validS s)) ∧ Below w.heap.size w w' := by
  obtain ⟨r, h⟩ := refValid_is s hs
  exact muslinref04_Valid.calls r s _ w (h r (Nat.le_refl _))
end Go.Proofs.YtkfcbafjcjmfnaaGreatDoor.Alph
namespace Go.Proofs.YtkfcbafjcjmfnaaGreatDoor
open Go.RowKit Go.Lib Go.Proofs.YtkfcbafjcjmfnaaGreatDoor.Pure
set_option linter.unusedVariables false
def chars_Known.f (a : ByteArray) : Option (ByteArray × Bool) := if a.size ≤ 5000 then some (knownL (labelL a)) else none
theorem chars_Known.calls (a r1 : ByteArray) (r2 : Bool) (w : World) (h : chars_Known.f a = some (r1, r2)) :
    Calls Tryz.prog 67 #[.string a] w fun e w' => e = .returned (.tuple #[.string r1, .bool r2]) ∧ Below w.heap.size w w' := by
  obtain ⟨h1, h2⟩ := of_guard h
  have := Alph.known_c a h1 w
  rw [h2] at this; exact this
def muslinref04_Known.f (a : ByteArray) : Option (ByteArray × Bool) := if a.size ≤ 5000 then some (knownL (labelL a)) else none
theorem muslinref04_Known.calls (a r1 : ByteArray) (r2 : Bool) (w : World) (h : muslinref04_Known.f a = some (r1, r2)) :
    Calls Tryz.prog 56 #[.string a] w fun e w' => e = .returned (.tuple #[.string r1, .bool r2]) ∧ Below w.heap.size w w' := by
  obtain ⟨h1, h2⟩ := of_guard h
  have := Alph.refKnown_c a h1 w
  rw [h2] at this; exact this
def chars_Decode.f (a s : ByteArray) : Option (ByteArray × Bool) := if a.size ≤ 5000 ∧ s.size ≤ 11000000 then some (⟨(decL (knownL (labelL a)).1 s.data.toList).toArray⟩, (knownL (labelL a)).2) else none
theorem chars_Decode.calls (a s r1 : ByteArray) (r2 : Bool) (w : World) (hGl : Glob w) (h : chars_Decode.f a s = some (r1, r2)) :
    Calls Tryz.prog 48 #[.string a, .string s] w fun e w' => e = .returned (.tuple #[.string r1, .bool r2]) ∧ Below w.heap.size w w' := by
  obtain ⟨⟨h1, h2⟩, h3⟩ := of_guard h
  injection h3 with h4 h5
  subst h4 h5
  exact Alph.decode_c a s h1 h2 w hGl
def muslinref04_Decode.f (a s : ByteArray) : Option (ByteArray × Bool) := if a.size ≤ 5000 ∧ s.size ≤ 5000 then some (⟨(decL (knownL (labelL a)).1 s.data.toList).toArray⟩, (knownL (labelL a)).2) else none
theorem muslinref04_Decode.calls (a s r1 : ByteArray) (r2 : Bool) (w : World) (h : muslinref04_Decode.f a s = some (r1, r2)) :
    Calls Tryz.prog 42 #[.string a, .string s] w fun e w' => e = .returned (.tuple #[.string r1, .bool r2]) ∧ Below w.heap.size w w' := by
  obtain ⟨⟨h1, h2⟩, h3⟩ := of_guard h
  injection h3 with h4 h5
  subst h4 h5
  exact Alph.refDecode_c a s h1 h2 w
def muslinref04_Valid.f (s : ByteArray) : Option ByteArray := if s.size ≤ 35184372088832 then some ⟨(vl s.data.toList).toArray⟩ else none
theorem muslinref04_Valid.calls (s r : ByteArray) (w : World) (h : muslinref04_Valid.f s = some r) :
    Calls Tryz.prog 59 #[.string s] w fun e w' => e = .returned (.string r) ∧ Below w.heap.size w w' := by
  obtain ⟨h1, h2⟩ := of_guard h
  have := Alph.refValid_c s h1 w
  rw [validS_eq, h2] at this; exact this
def muslinref04_Whole.f (s : ByteArray) (a : Int) : Option Int := if 0 ≤ a ∧ a < (s.size : Int) ∧ s.size ≤ 35184372088832 then some (wholeL (s.data.toList.drop a.toNat) : Int) else none
theorem muslinref04_Whole.calls (s : ByteArray) (a r : Int) (w : World) (h : muslinref04_Whole.f s a = some r) :
    Calls Tryz.prog 82 #[.string s, .int .i64 a] w fun e w' => e = .returned (.int .i64 r) ∧ Below w.heap.size w w' := by
  obtain ⟨⟨h0, h1, h2⟩, rfl⟩ := of_guard h
  obtain ⟨n, rfl⟩ : ∃ n : Nat, a = (n : Int) := ⟨a.toNat, by omega⟩
  obtain ⟨r, h⟩ := whole_is s (by omega) n (by omega)
  exact (C.muslinref04_Whole.calls r s (n : Int) _ w (h r (Nat.le_refl _))).mono (by rintro e w' ⟨rfl, n, rfl⟩; exact ⟨rfl, bdrewN (Below.refl _ _) n⟩)
end Go.Proofs.YtkfcbafjcjmfnaaGreatDoor
namespace Go.Proofs.YtkfcbafjcjmfnaaGreatDoor
open Go.RowKit Go.Lib Go.Proofs.YtkfcbafjcjmfnaaGreatDoor.Pure Go.Proofs.YtkfcbafjcjmfnaaGreatDoor.Ent
set_option linter.unusedVariables false
def ent_Decode.f (s : ByteArray) : Option ByteArray := if s.size ≤ 1000000 then some ⟨(Ent.dec 0 s.data.toList).toArray⟩ else none
theorem ent_Decode.calls (s r : ByteArray) (w : World) (hGl : GlobE w) (h : ent_Decode.f s = some r) :
    Calls Tryz.prog 12 #[.string s] w fun e w' => e = .returned (.string r) ∧ Below w.heap.size w w' := by
  obtain ⟨h1, rfl⟩ := of_guard h
  exact Ent.Decode_c s h1 w hGl
def ent_Text.f (s : ByteArray) : Option ByteArray := if s.size ≤ 1000000 then some ⟨(Gen.esc 0 s.data.toList).toArray⟩ else none
theorem ent_Text.calls (s r : ByteArray) (w : World) (h : ent_Text.f s = some r) :
    Calls Tryz.prog 14 #[.string s] w fun e w' => e = .returned (.string r) ∧ Below w.heap.size w w' := by
  obtain ⟨h1, rfl⟩ := of_guard h
  exact Gen.Text_c s w h1
def ent_Value.f (s : ByteArray) : Option ByteArray := if s.size ≤ 1000000 then some ⟨(Ent.quo (Gen.esc 0 s.data.toList)).toArray⟩ else none
theorem ent_Value.calls (s r : ByteArray) (w : World) (hGl : GlobE w) (h : ent_Value.f s = some r) :
    Calls Tryz.prog 16 #[.string s] w fun e w' => e = .returned (.string r) ∧ Below w.heap.size w w' := by
  obtain ⟨h1, rfl⟩ := of_guard h
  exact Ent.Value_c s h1 w hGl
def muslinref04_Sign.f (n : Int) : Option ByteArray := some ⟨(Lib.encodeRune n).toArray⟩
theorem muslinref04_Sign.calls (n : Int) (r : ByteArray) (w : World) (h : muslinref04_Sign.f n = some r) :
    Calls Tryz.prog 43 #[.int .i64 n] w fun e w' => e = .returned (.string r) ∧ Below w.heap.size w w' := by
  obtain rfl : (⟨(Lib.encodeRune n).toArray⟩ : ByteArray) = r := Option.some.inj h
  obtain ⟨k, h⟩ := sign_is n
  exact C.muslinref04_Sign.calls k n _ w (h k (Nat.le_refl _))
end Go.Proofs.YtkfcbafjcjmfnaaGreatDoor
namespace Go.Proofs.YtkfcbafjcjmfnaaGreatDoor.E
open Go.RowKit Go.Proofs.YtkfcbafjcjmfnaaGreatDoorW.PrintWords Go.Proofs.YtkfcbafjcjmfnaaGreatDoorW.PrintLast Go.Proofs.YtkfcbafjcjmfnaaGreatDoorW.PrintMore
attribute [local go_sem] max2_int min2_int max_two min_two max_three min_three max_four min_four
set_option linter.unusedVariables false
set_option linter.unusedSimpArgs false
def errW : Option Int → Value
  | none => .nilIface
  | some c => .iface 0 (.int .i64 c)
theorem errW_none : errW none = .nilIface := rfl
theorem errW_some (c : Int) : errW (some c) = .iface 0 (.int .i64 c) := rfl
theorem info5 : (Tryz.prog.info? 5).map (fun i => (i.zero, i.size, i.bytes)) = some (some (.int .u8 0), 1, 1) := by kernel_rfl
end Go.Proofs.YtkfcbafjcjmfnaaGreatDoor.E
namespace Go.Proofs.YtkfcbafjcjmfnaaGreatDoor.E
open Go.RowKit Go.Proofs.YtkfcbafjcjmfnaaGreatDoorW.PrintWords Go.Proofs.YtkfcbafjcjmfnaaGreatDoorW.PrintLast Go.Proofs.YtkfcbafjcjmfnaaGreatDoorW.PrintMore
attribute [local go_sem] max2_int min2_int max_two min_two max_three min_three max_four min_four
set_option linter.unusedVariables false
set_option linter.unusedSimpArgs false
mutual
def muslinref02_Hex.j0 : Nat → Int → Bool → Option (Int)
  | 0, _, _ => none
  | k + 1, x0, x8 => if x8 = true then (some ((x0 - 48) % 256)) else (if x0 ≥ 65 then (muslinref02_Hex.j1 k x0 (decide (x0 ≤ 70))) else (muslinref02_Hex.j1 k x0 false))
def muslinref02_Hex.j1 : Nat → Int → Bool → Option (Int)
  | 0, _, _ => none
  | k + 1, x0, x17 => if x17 = true then (some (((x0 - 65) % 256) + 10)) else (if x0 ≥ 97 then (if x0 ≤ 102 then (some (((x0 - 97) % 256) + 10)) else (some (-1))) else (some (-1)))
end
def muslinref02_Hex.f (k : Nat) (a0 : Int) : Option (Int) := if a0 ≥ 48 then (muslinref02_Hex.j0 k a0 (decide (a0 ≤ 57))) else (muslinref02_Hex.j0 k a0 false)
set_option maxHeartbeats 8000000 in
set_option maxRecDepth 100000 in
theorem muslinref02_Hex.calls (k : Nat) (a0 : Int) (r : Int) (w : World) (h : muslinref02_Hex.f k a0 = some r) :
    Calls Tryz.prog 41 #[.int .u8 a0] w fun e w' => e = .returned (.int .i64 r) ∧ Drawn0 w w' := by
  have H : (if a0 ≥ 48 then (muslinref02_Hex.j0 k a0 (decide (a0 ≤ 57))) else (muslinref02_Hex.j0 k a0 false)) = some r := h; clear h; have HC2 := Aside0.mk H; clear H
  go_enter Tryz.func41, Tryz.ntmps41
  go_upto_region 1 with (fail)
  go_cut [8] (fun v8 wc => ∃ (kq : Nat) (x8_1 : Bool), v8 = .bool x8_1 ∧ Aside0 (muslinref02_Hex.j0 kq a0 x8_1 = some r) ∧ Aside0 (kq ≤ k) ∧ Drawn0 w wc)
  case first =>
    have H := HC2.out; clear HC2
    by_cases c3 : a0 ≥ 48
    case neg =>
      rw [if_neg c3] at H; have c3b0 : decide (48 ≤ a0) = false := decide_eq_false c3; clear c3
      (first | rw [c3b0] | (simp only [i64_w, i32_w]; rw [c3b0]) | skip)
      have H' := Aside0.mk H; clear H
      go_wp2
      go_meet
      case rel => exact ⟨_, (false), (by first | rfl | (simp; done) | (simp [*]; done)), H', ⟨by first | omega | exact Nat.le_refl _⟩, by repeat (first | exact Drawn0.refl _ | apply Drawn0.step)⟩
    rw [if_pos c3] at H; have c3b0 : decide (48 ≤ a0) = true := decide_eq_true c3; clear c3
    (first | rw [c3b0] | (simp only [i64_w, i32_w]; rw [c3b0]) | skip)
    have H' := Aside0.mk H; clear H
    go_wp2
    go_meet
    case rel => exact ⟨_, (decide (a0 ≤ 57)), (by first | rfl | (simp; done) | (simp [*]; done)), H', ⟨by first | omega | exact Nat.le_refl _⟩, by repeat (first | exact Drawn0.refl _ | apply Drawn0.step)⟩
  case rest =>
    clear HC2; (try clear p2); (try clear c3); (try clear c3b0); obtain ⟨kq, x8_1, rfl, HA, HJ1, ⟨mc1, rfl⟩⟩ := hcut
    cases kq with
    | zero => exact absurd HA.out (by simp [muslinref02_Hex.j0])
    | succ kj1 =>
      have H := HA.out; clear HA; simp only [muslinref02_Hex.j0] at H
      by_cases c4 : x8_1 = true
      case pos =>
        subst c4
        have H1 : (some ((a0 - 48) % 256)) = some r := by rw [if_pos rfl] at H; exact H
        clear H; have H := H1; clear H1; obtain rfl := Option.some.inj H
        go_wp2
        go_ret
        exact ⟨by first | rfl | (simp; done) | (simp [*]; done), by repeat (first | exact Drawn0.refl _ | apply Drawn0.step)⟩
      replace c4 := Bool.eq_false_iff.mpr c4; subst c4
      have H1 : (if a0 ≥ 65 then (muslinref02_Hex.j1 kj1 a0 (decide (a0 ≤ 70))) else (muslinref02_Hex.j1 kj1 a0 false)) = some r := by rw [if_neg (show ¬ (false = true) by decide)] at H; exact H
      clear H; have H := H1; clear H1; have HC5 := Aside0.mk H; clear H
      go_upto_region 3 with (fail)
      go_cut [17] (fun v17 wc => ∃ (kq : Nat) (x17_4 : Bool), v17 = .bool x17_4 ∧ Aside0 (muslinref02_Hex.j1 kq a0 x17_4 = some r) ∧ Aside0 (kq ≤ kj1) ∧ Drawn0 w wc)
      case first =>
        have H := HC5.out; clear HC5
        by_cases c6 : a0 ≥ 65
        case neg =>
          rw [if_neg c6] at H; have c6b0 : decide (65 ≤ a0) = false := decide_eq_false c6; clear c6
          (first | rw [c6b0] | (simp only [i64_w, i32_w]; rw [c6b0]) | skip)
          have H' := Aside0.mk H; clear H
          go_wp2
          go_meet
          case rel => exact ⟨_, (false), (by first | rfl | (simp; done) | (simp [*]; done)), H', ⟨by have := HJ1.out; first | omega | exact Nat.le_refl _⟩, by repeat (first | exact Drawn0.refl _ | apply Drawn0.step)⟩
        rw [if_pos c6] at H; have c6b0 : decide (65 ≤ a0) = true := decide_eq_true c6; clear c6
        (first | rw [c6b0] | (simp only [i64_w, i32_w]; rw [c6b0]) | skip)
        have H' := Aside0.mk H; clear H
        go_wp2
        go_meet
        case rel => exact ⟨_, (decide (a0 ≤ 70)), (by first | rfl | (simp; done) | (simp [*]; done)), H', ⟨by have := HJ1.out; first | omega | exact Nat.le_refl _⟩, by repeat (first | exact Drawn0.refl _ | apply Drawn0.step)⟩
      case rest =>
        clear HC5; (try clear c1); (try clear p2); (try clear c3); (try clear c3b0); (try clear c4); (try clear c6); (try clear c6b0); (try clear p2); obtain ⟨kq, x17_4, rfl, HA, HJ4, ⟨mc4, rfl⟩⟩ := hcut
        cases kq with
        | zero => exact absurd HA.out (by simp [muslinref02_Hex.j1])
        | succ kj4 =>
          have H := HA.out; clear HA; simp only [muslinref02_Hex.j1] at H
          by_cases c7 : x17_4 = true
          case pos =>
            subst c7
            have H1 : (some (((a0 - 65) % 256) + 10)) = some r := by rw [if_pos rfl] at H; exact H
            clear H; have H := H1; clear H1; obtain rfl := Option.some.inj H
            go_wp2
            go_ret
            exact ⟨by first | rfl | (simp; done) | (simp [*]; done), by repeat (first | exact Drawn0.refl _ | apply Drawn0.step)⟩
          replace c7 := Bool.eq_false_iff.mpr c7; subst c7
          have H1 : (if a0 ≥ 97 then (if a0 ≤ 102 then (some (((a0 - 97) % 256) + 10)) else (some (-1))) else (some (-1))) = some r := by rw [if_neg (show ¬ (false = true) by decide)] at H; exact H
          clear H; have H := H1; clear H1
          by_cases c8 : a0 ≥ 97
          case neg =>
            rw [if_neg c8] at H; have c8b0 : decide (97 ≤ a0) = false := decide_eq_false c8; clear c8; obtain rfl := Option.some.inj H
            go_wp2
            go_ret
            exact ⟨by first | rfl | (simp; done) | (simp [*]; done), by repeat (first | exact Drawn0.refl _ | apply Drawn0.step)⟩
          rw [if_pos c8] at H; have c8b0 : decide (97 ≤ a0) = true := decide_eq_true c8; clear c8
          by_cases c9 : a0 ≤ 102
          case pos =>
            rw [if_pos c9] at H; have c9b0 : decide (a0 ≤ 102) = true := decide_eq_true c9; clear c9; obtain rfl := Option.some.inj H
            go_wp2
            go_ret
            exact ⟨by first | rfl | (simp; done) | (simp [*]; done), by repeat (first | exact Drawn0.refl _ | apply Drawn0.step)⟩
          rw [if_neg c9] at H; have c9b0 : decide (a0 ≤ 102) = false := decide_eq_false c9; clear c9; obtain rfl := Option.some.inj H
          go_wp2
          go_ret
          exact ⟨by first | rfl | (simp; done) | (simp [*]; done), by repeat (first | exact Drawn0.refl _ | apply Drawn0.step)⟩
mutual
def muslinref12_digits.j0 : Nat → ByteArray → Int → Bool → Option (Int)
  | 0, _, _, _ => none
  | k + 1, x0, x1, x18 => if x18 = true then (some (-1)) else (muslinref12_digits.l0 k x0 x1 0 0)
def muslinref12_digits.l0 : Nat → ByteArray → Int → Int → Int → Option (Int)
  | 0, _, _, _, _ => none
  | k + 1, x0, x1, x7, x8 => if x8 < (x0.size : Int) then (if 0 ≤ x8 then ((muslinref02_Hex.f k (bt x0 x8)).bind fun t101 => (if t101 < 0 then (some (-1)) else (if t101 ≥ x1 then (some (-1)) else (muslinref12_digits.l0 k x0 x1 (wrap64 ((wrap64 (x7 * x1)) + t101)) (wrap64 (x8 + 1)))))) else (none)) else (some x7)
end
def muslinref12_digits.f (k : Nat) (a0 : ByteArray) (a1 : Int) (a2 : Int) : Option (Int) := if (a0.size : Int) < 1 then (muslinref12_digits.j0 k a0 a1 true) else (muslinref12_digits.j0 k a0 a1 (decide ((a0.size : Int) > a2)))
set_option maxHeartbeats 8000000 in
set_option maxRecDepth 100000 in
theorem muslinref12_digits.calls (k : Nat) (a0 : ByteArray) (a1 : Int) (a2 : Int) (r : Int) (w : World) (h : muslinref12_digits.f k a0 a1 a2 = some r) :
    Calls Tryz.prog 30 #[.string a0, .int .i64 a1, .int .i64 a2] w fun e w' => e = .returned (.int .i64 r) ∧ Drawn0 w w' := by
  have H : (if (a0.size : Int) < 1 then (muslinref12_digits.j0 k a0 a1 true) else (muslinref12_digits.j0 k a0 a1 (decide ((a0.size : Int) > a2)))) = some r := h; clear h; have HC4 := Aside0.mk H; clear H
  go_enter Tryz.func30, Tryz.ntmps30
  go_upto_region 1 with (fail)
  go_cut [18] (fun v18 wc => ∃ (kq : Nat) (x18_3 : Bool), v18 = .bool x18_3 ∧ Aside0 (muslinref12_digits.j0 kq a0 a1 x18_3 = some r) ∧ Aside0 (kq ≤ k) ∧ Drawn0 w wc)
  case first =>
    have H := HC4.out; clear HC4
    by_cases c5 : (a0.size : Int) < 1
    case pos =>
      rw [if_pos c5] at H; have c5b0 : decide ((a0.size : Int) < 1) = true := decide_eq_true c5; have c5b1 : decide (a0.size < 1) = true := decide_eq_true (by omega); clear c5
      (first | rw [c5b0] | (simp only [i64_w, i32_w]; rw [c5b0]) | skip)
      have H' := Aside0.mk H; clear H
      go_wp2
      go_meet
      case rel => exact ⟨_, (true), (by first | rfl | (simp; done) | (simp [*]; done)), H', ⟨by first | omega | exact Nat.le_refl _⟩, by repeat (first | exact Drawn0.refl _ | apply Drawn0.step)⟩
    rw [if_neg c5] at H; have c5b0 : decide ((a0.size : Int) < 1) = false := decide_eq_false c5; have c5b1 : decide (a0.size < 1) = false := decide_eq_false (by omega); clear c5
    (first | rw [c5b0] | (simp only [i64_w, i32_w]; rw [c5b0]) | skip)
    have H' := Aside0.mk H; clear H
    go_wp2
    go_meet
    case rel => exact ⟨_, (decide ((a0.size : Int) > a2)), (by first | rfl | (simp; done) | (simp [*]; done)), H', ⟨by first | omega | exact Nat.le_refl _⟩, by repeat (first | exact Drawn0.refl _ | apply Drawn0.step)⟩
  case rest =>
    clear HC4; (try clear p2); (try clear c3); (try clear c5); (try clear c5b0); (try clear c5b1); obtain ⟨kq, x18_3, rfl, HA, HJ3, ⟨mc3, rfl⟩⟩ := hcut
    cases kq with
    | zero => exact absurd HA.out (by simp [muslinref12_digits.j0])
    | succ kj3 =>
      have H := HA.out; clear HA; simp only [muslinref12_digits.j0] at H
      by_cases c6 : x18_3 = true
      case pos =>
        subst c6
        have H1 : (some (-1)) = some r := by rw [if_pos rfl] at H; exact H
        clear H; have H := H1; clear H1; obtain rfl := Option.some.inj H
        go_wp2
        go_ret
        exact ⟨by first | rfl | (simp; done) | (simp [*]; done), by repeat (first | exact Drawn0.refl _ | apply Drawn0.step)⟩
      replace c6 := Bool.eq_false_iff.mpr c6; subst c6
      have H1 : (muslinref12_digits.l0 kj3 a0 a1 0 0) = some r := by rw [if_neg (show ¬ (false = true) by decide)] at H; exact H
      clear H; have H := H1; clear H1; have H' := Aside0.mk H; clear H
      go_wp2
      go_loopg [7, 8] kj3 (fun kq v7 v8 w' => ∃ (x7_2 : Int) (x8_2 : Int), v7 = .int .i64 x7_2 ∧ v8 = .int .i64 x8_2 ∧ Aside0 (muslinref12_digits.l0 kq a0 a1 x7_2 x8_2 = some r) ∧ Aside0 (kq ≤ kj3) ∧ Drawn0 w w')
      case atStart => exact ⟨(0), (0), (by first | rfl | (simp; done) | (simp [*]; done)), (by first | rfl | (simp; done) | (simp [*]; done)), H', ⟨Nat.le_refl _⟩, by repeat (first | exact Drawn0.refl _ | apply Drawn0.step)⟩
      case round =>
        clear H'; (try clear p2); (try clear c3); (try clear c5); (try clear c5b0); (try clear c5b1); (try clear c6); (try clear p2); obtain ⟨x7_2, x8_2, rfl, rfl, HA, HK2, ⟨m2, rfl⟩⟩ := hrel
        cases gk with
        | zero => exact absurd HA.out (by simp [muslinref12_digits.l0])
        | succ k2 =>
          have H := HA.out; clear HA; simp only [muslinref12_digits.l0] at H
          by_cases c7 : x8_2 < (a0.size : Int)
          case neg =>
            rw [if_neg c7] at H; have c7b0 : decide (x8_2 < (a0.size : Int)) = false := decide_eq_false c7; clear c7; obtain rfl := Option.some.inj H
            go_wp2
            go_ret
            exact ⟨by first | rfl | (simp; done) | (simp [*]; done), by repeat (first | exact Drawn0.refl _ | apply Drawn0.step)⟩
          rw [if_pos c7] at H; have c7b0 : decide (x8_2 < (a0.size : Int)) = true := decide_eq_true c7; clear c7
          by_cases c8 : 0 ≤ x8_2
          case neg =>
            rw [if_neg c8] at H
            exact absurd H (by simp)
          rw [if_pos c8] at H; have c8b0 : decide (0 ≤ x8_2) = true := decide_eq_true c8; clear c8; replace H := Option.bind_eq_some_iff.mp H; obtain ⟨t101, A100, H⟩ := H; replace H : (if t101 < 0 then (some (-1)) else (if t101 ≥ a1 then (some (-1)) else (muslinref12_digits.l0 k2 a0 a1 (wrap64 ((wrap64 (x7_2 * a1)) + t101)) (wrap64 (x8_2 + 1))))) = some r := H; have A10 := Aside0.mk A100; clear A100
          by_cases c11 : t101 < 0
          case pos =>
            rw [if_pos c11] at H; have c11b0 : decide (t101 < 0) = true := decide_eq_true c11; clear c11; obtain rfl := Option.some.inj H; have p9 : 0 ≤ (x8_2 : Int) := of_decide_eq_true (by first | (with_reducible assumption) | assumption); have q9 : x8_2 < (a0.size : Int) := of_decide_eq_true (by first | (with_reducible assumption) | assumption); have hx9 := bt_at a0 x8_2; replace p9 := eq_true p9; replace q9 := eq_true q9; go_wp2_with (first | ((with_reducible refine gate_callee (f := 41) rfl ?_); refine goesL_ (some 28) rfl rfl Tryz.func41 (by kernel_rfl) rfl #[.int .u8 (bt a0 x8_2)] rfl (by (try simp only [List.map_toArray, List.map_cons, List.map_nil]); first | done | rfl | (simp only [List.length_drop, List.length_take]; rfl)) ?_; (with_reducible refine (muslinref02_Hex.calls k2 (bt a0 x8_2) t101 _ A10.out).mono ?_); rintro e w' ⟨rfl, ⟨nd, rfl⟩⟩; refine ⟨_, rfl, ?_⟩))
            go_ret
            exact ⟨by first | rfl | (simp; done) | (simp [*]; done), by repeat (first | exact Drawn0.refl _ | apply Drawn0.step)⟩
          rw [if_neg c11] at H; have c11b0 : decide (t101 < 0) = false := decide_eq_false c11; clear c11
          by_cases c12 : t101 ≥ a1
          case pos =>
            rw [if_pos c12] at H; have c12b0 : decide (a1 ≤ t101) = true := decide_eq_true c12; clear c12; obtain rfl := Option.some.inj H; have p9 : 0 ≤ (x8_2 : Int) := of_decide_eq_true (by first | (with_reducible assumption) | assumption); have q9 : x8_2 < (a0.size : Int) := of_decide_eq_true (by first | (with_reducible assumption) | assumption); have hx9 := bt_at a0 x8_2; replace p9 := eq_true p9; replace q9 := eq_true q9; go_wp2_with (first | ((with_reducible refine gate_callee (f := 41) rfl ?_); refine goesL_ (some 28) rfl rfl Tryz.func41 (by kernel_rfl) rfl #[.int .u8 (bt a0 x8_2)] rfl (by (try simp only [List.map_toArray, List.map_cons, List.map_nil]); first | done | rfl | (simp only [List.length_drop, List.length_take]; rfl)) ?_; (with_reducible refine (muslinref02_Hex.calls k2 (bt a0 x8_2) t101 _ A10.out).mono ?_); rintro e w' ⟨rfl, ⟨nd, rfl⟩⟩; refine ⟨_, rfl, ?_⟩))
            go_ret
            exact ⟨by first | rfl | (simp; done) | (simp [*]; done), by repeat (first | exact Drawn0.refl _ | apply Drawn0.step)⟩
          rw [if_neg c12] at H; have c12b0 : decide (a1 ≤ t101) = false := decide_eq_false c12; clear c12; have H' := Aside0.mk H; clear H; have p9 : 0 ≤ (x8_2 : Int) := of_decide_eq_true (by first | (with_reducible assumption) | assumption); have q9 : x8_2 < (a0.size : Int) := of_decide_eq_true (by first | (with_reducible assumption) | assumption); have hx9 := bt_at a0 x8_2; replace p9 := eq_true p9; replace q9 := eq_true q9; go_wp2_with (first | ((with_reducible refine gate_callee (f := 41) rfl ?_); refine goesL_ (some 28) rfl rfl Tryz.func41 (by kernel_rfl) rfl #[.int .u8 (bt a0 x8_2)] rfl (by (try simp only [List.map_toArray, List.map_cons, List.map_nil]); first | done | rfl | (simp only [List.length_drop, List.length_take]; rfl)) ?_; (with_reducible refine (muslinref02_Hex.calls k2 (bt a0 x8_2) t101 _ A10.out).mono ?_); rintro e w' ⟨rfl, ⟨nd, rfl⟩⟩; refine ⟨_, rfl, ?_⟩))
          go_roundg k2
          case measure => have := HJ3.out; have := HK2.out; omega
          case rel => exact ⟨(wrap64 ((wrap64 (x7_2 * a1)) + t101)), (wrap64 (x8_2 + 1)), (by first | rfl | (simp; done) | (simp [*]; done)), (by first | rfl | (simp; done) | (simp [*]; done)), H', ⟨by have := HJ3.out; have := HK2.out; omega⟩, by repeat (first | exact Drawn0.refl _ | apply Drawn0.step)⟩
def muslinref12_numbered.j0 : Nat → Int → Bool → Option (ByteArray)
  | 0, _, _ => none
  | k + 1, x0, x12 => if x12 = true then ((muslinref04_Decode.f (⟨#[119, 105, 110, 100, 111, 119, 115, 45, 49, 50, 53, 50]⟩ : ByteArray) (strOfNums (([(x0) % 256] : List Int)))).bind fun bt105 => (some bt105.1)) else ((muslinref04_Sign.f x0).bind fun t107 => (some t107))
def muslinref12_numbered.f (k : Nat) (a0 : Int) : Option (ByteArray) := if a0 = 0 then (some (⟨#[239, 191, 189]⟩ : ByteArray)) else (if a0 ≥ 128 then (muslinref12_numbered.j0 k a0 (decide (a0 ≤ 159))) else (muslinref12_numbered.j0 k a0 false))
set_option maxHeartbeats 8000000 in
set_option maxRecDepth 100000 in
theorem muslinref12_numbered.calls (k : Nat) (a0 : Int) (r : ByteArray) (w : World) (h : muslinref12_numbered.f k a0 = some r) :
    Calls Tryz.prog 31 #[.int .i64 a0] w fun e w' => e = .returned (.string r) ∧ Below w.heap.size w w' := by
  have HB := Aside0.mk (Below.refl w.heap.size w); have H : (if a0 = 0 then (some (⟨#[239, 191, 189]⟩ : ByteArray)) else (if a0 ≥ 128 then (muslinref12_numbered.j0 k a0 (decide (a0 ≤ 159))) else (muslinref12_numbered.j0 k a0 false))) = some r := h; clear h
  by_cases c2 : a0 = 0
  case pos =>
    rw [if_pos c2] at H; have c2b0 : (a0 == 0) = true := beq_iff_eq.mpr c2; have c2b1 : (a0 != 0) = false := bne_eq_false_iff_eq.mpr c2; clear c2; obtain rfl := Option.some.inj H
    go_enter Tryz.func31, Tryz.ntmps31
    go_wp2
    go_ret
    exact ⟨by first | rfl | (simp [errW_none, errW_some] <;> rfl) | (simp [*, errW_none, errW_some] <;> rfl), by repeat (first | (with_reducible first | exact HB.out | apply below_alloc | apply pw_below_drewN | apply below_drew1) | exact HB.out)⟩
  rw [if_neg c2] at H; have c2b0 : (a0 == 0) = false := beq_eq_false_iff_ne.mpr c2; have c2b1 : (a0 != 0) = true := bne_iff_ne.mpr c2; have HC3 := Aside0.mk H; clear H
  go_enter Tryz.func31, Tryz.ntmps31
  go_upto_region 3 with (fail)
  go_cut [12] (fun v12 wc => ∃ (kq : Nat) (x12_2 : Bool), v12 = .bool x12_2 ∧ Aside0 (muslinref12_numbered.j0 kq a0 x12_2 = some r) ∧ Aside0 (kq ≤ k) ∧ Aside0 (Below w.heap.size w wc))
  case first =>
    have H := HC3.out; clear HC3
    by_cases c4 : a0 ≥ 128
    case neg =>
      rw [if_neg c4] at H; have c4b0 : decide (128 ≤ a0) = false := decide_eq_false c4; clear c4
      (first | rw [c4b0] | (simp only [i64_w, i32_w]; rw [c4b0]) | skip)
      have H' := Aside0.mk H; clear H
      go_wp2
      go_meet
      case rel => exact ⟨_, (false), (by first | rfl | (simp; done) | (simp [*]; done)), H', ⟨by first | omega | exact Nat.le_refl _⟩, ⟨by repeat (first | (with_reducible first | exact HB.out | apply below_alloc | apply pw_below_drewN | apply below_drew1) | exact HB.out)⟩⟩
    rw [if_pos c4] at H; have c4b0 : decide (128 ≤ a0) = true := decide_eq_true c4; clear c4
    (first | rw [c4b0] | (simp only [i64_w, i32_w]; rw [c4b0]) | skip)
    have H' := Aside0.mk H; clear H
    go_wp2
    go_meet
    case rel => exact ⟨_, (decide (a0 ≤ 159)), (by first | rfl | (simp; done) | (simp [*]; done)), H', ⟨by first | omega | exact Nat.le_refl _⟩, ⟨by repeat (first | (with_reducible first | exact HB.out | apply below_alloc | apply pw_below_drewN | apply below_drew1) | exact HB.out)⟩⟩
  case rest =>
    clear HC3; (try clear c2); (try clear c2b0); (try clear c2b1); (try clear p2); (try clear c3); (try clear c4); (try clear c4b0); obtain ⟨kq, x12_2, rfl, HA, HJ2, HB⟩ := hcut
    cases kq with
    | zero => exact absurd HA.out (by simp [muslinref12_numbered.j0])
    | succ kj2 =>
      have H := HA.out; clear HA; simp only [muslinref12_numbered.j0] at H
      by_cases c5 : x12_2 = true
      case neg =>
        replace c5 := Bool.eq_false_iff.mpr c5; subst c5
        have H1 : ((muslinref04_Sign.f a0).bind fun t107 => (some t107)) = some r := by rw [if_neg (show ¬ (false = true) by decide)] at H; exact H
        clear H; have H := H1; clear H1; replace H := Option.bind_eq_some_iff.mp H; obtain ⟨t107, A110, H⟩ := H; replace H : (some t107) = some r := H; have A11 := Aside0.mk A110; clear A110; obtain rfl := Option.some.inj H; go_wp2_with (first | ((with_reducible refine gate_callee (f := 43) rfl ?_); refine goesL_ (some 23) rfl rfl Tryz.func43 (by kernel_rfl) rfl #[.int .i64 a0] rfl (by (try simp only [List.map_toArray, List.map_cons, List.map_nil]); first | done | rfl | (simp only [List.length_drop, List.length_take]; rfl)) ?_; (with_reducible refine (muslinref04_Sign.calls a0 t107 _ A11.out).mono ?_); rintro e w12 ⟨rfl, hb⟩; refine ⟨_, rfl, ?_⟩; have n0_ := Aside0.mk (below_step (by repeat (first | (with_reducible first | exact HB.out | apply below_alloc | apply pw_below_drewN | apply below_drew1) | exact HB.out)) hb); clear HB; have HB := n0_; clear n0_; (try clear hb); (try clear hb2); (try clear hk); (try clear hi)))
        go_ret
        exact ⟨by first | rfl | (simp [errW_none, errW_some] <;> rfl) | (simp [*, errW_none, errW_some] <;> rfl), by repeat (first | (with_reducible first | exact HB.out | apply below_alloc | apply pw_below_drewN | apply below_drew1) | exact HB.out)⟩
      subst c5
      have H1 : ((muslinref04_Decode.f (⟨#[119, 105, 110, 100, 111, 119, 115, 45, 49, 50, 53, 50]⟩ : ByteArray) (strOfNums (([(a0) % 256] : List Int)))).bind fun bt105 => (some bt105.1)) = some r := by rw [if_pos rfl] at H; exact H
      clear H; have H := H1; clear H1; obtain ⟨y102, hy102⟩ : ∃ y_ : List Int, y_ = (([(a0) % 256] : List Int)) := ⟨_, rfl⟩
      replace H : ((muslinref04_Decode.f (⟨#[119, 105, 110, 100, 111, 119, 115, 45, 49, 50, 53, 50]⟩ : ByteArray) (strOfNums y102)).bind fun bt105 => (some bt105.1)) = some r := by first | (rw [hy102]; with_reducible exact H) | (have H2_ := (Option.bind_some _ _).symm.trans H; rw [hy102]; with_reducible exact H2_) | (have H2_ := (Option.bind_some _ _).symm.trans H; with_reducible exact H2_) | with_reducible exact H | (rw [hy102]; exact H) | exact H
      have Ny102 := Aside0.mk hy102; clear hy102; replace H := Option.bind_eq_some_iff.mp H; obtain ⟨⟨t105, t106⟩, A60, H⟩ := H; replace H : (some t105) = some r := H; have A6 := Aside0.mk A60; clear A60; obtain rfl := Option.some.inj H; go_wp2_with (first | ((with_reducible refine gate_dst (N := 16) rfl ?_); refine Kd.R_lit (Kd.int .u8) _ 5 ?hg (N := 16) ?hd (xs := ([(a0) % 256] : List Int)) (inner := [.int .u8 ((a0) % 256)]) (ok := fun _ => True) (okp := fun _ => True) ?hr ?hp (fun _ hk => hk) trivial (Below.refl _ _) (Nat.le_refl _) (by simp) ?_; (case hd => rfl); (case hg => rfl); (case hr => first | (go_simp; done) | (go_simp; rfl)); (case hp => exact (Reps.one (show Kd.M (Kd.int .u8) _ _ _ ((a0) % 256) [.int .u8 ((a0) % 256)] from rfl) (Reps.none _ _))); intro v103 w7 ho8 hb hg_ hnew_; clear hg_ hnew_; (first | rw [← Ny102.out] at ho8 | (simp only [Int.reduceToNat] at ho8; rw [← Ny102.out] at ho8)); have n0_ := Aside0.mk (Kd.R_lower ho8 (below_size (by repeat (first | (with_reducible first | exact HB.out | apply below_alloc | apply pw_below_drewN | apply below_drew1) | exact HB.out)))); have n1_ := Aside0.mk (below_step (by repeat (first | (with_reducible first | exact HB.out | apply below_alloc | apply pw_below_drewN | apply below_drew1) | exact HB.out)) hb); clear HB; have HO104 := n0_; have HB := n1_; clear n0_ n1_; clear hb ho8; have hcv9 := own_string (P := Tryz.prog) Tryz.underlying29 Tryz.underlying5 Tryz.underlying9 (Kd.own_of_R HO104.out)) | ((with_reducible refine gate_callee (f := 42) rfl ?_); refine goesL_ (some 18) rfl rfl Tryz.func42 (by kernel_rfl) rfl #[.string (⟨#[119, 105, 110, 100, 111, 119, 115, 45, 49, 50, 53, 50]⟩ : ByteArray), .string (strOfNums y102)] rfl (by (try simp only [List.map_toArray, List.map_cons, List.map_nil]); first | done | rfl | (simp only [List.length_drop, List.length_take]; rfl)) ?_; (with_reducible refine (muslinref04_Decode.calls (⟨#[119, 105, 110, 100, 111, 119, 115, 45, 49, 50, 53, 50]⟩ : ByteArray) (strOfNums y102) t105 t106 _ A6.out).mono ?_); rintro e w10 ⟨rfl, hb⟩; refine ⟨_, rfl, ?_⟩; have n0_ := Aside0.mk (Kd.R_below (by (with_reducible repeat (first | apply Kd.R_alloc | apply Kd.R_drewN | apply Kd.R_drew)); exact HO104.out) hb); have n1_ := Aside0.mk (below_step (by repeat (first | (with_reducible first | exact HB.out | apply below_alloc | apply pw_below_drewN | apply below_drew1) | exact HB.out)) hb); clear HO104; clear HB; have HO104 := n0_; have HB := n1_; clear n0_ n1_; (try clear hb); (try clear hb2); (try clear hk); (try clear hi)))
      go_ret
      exact ⟨by first | rfl | (simp [errW_none, errW_some] <;> rfl) | (simp [*, errW_none, errW_some] <;> rfl), by repeat (first | (with_reducible first | exact HB.out | apply below_alloc | apply pw_below_drewN | apply below_drew1) | exact HB.out)⟩
def muslinref12_named.f (a0 : ByteArray) : Option (ByteArray) := if a0.toList = ([97, 109, 112] : List UInt8) then (some (⟨#[38]⟩ : ByteArray)) else (if a0.toList = ([108, 116] : List UInt8) then (some (⟨#[60]⟩ : ByteArray)) else (if a0.toList = ([103, 116] : List UInt8) then (some (⟨#[62]⟩ : ByteArray)) else (if a0.toList = ([113, 117, 111, 116] : List UInt8) then (some (⟨#[34]⟩ : ByteArray)) else (if a0.toList = ([97, 112, 111, 115] : List UInt8) then (some (⟨#[39]⟩ : ByteArray)) else (if a0.toList = ([110, 98, 115, 112] : List UInt8) then ((muslinref04_Sign.f 160).bind fun t108 => (some t108)) else (if a0.toList = ([99, 111, 112, 121] : List UInt8) then ((muslinref04_Sign.f 169).bind fun t109 => (some t109)) else (if a0.toList = ([114, 101, 103] : List UInt8) then ((muslinref04_Sign.f 174).bind fun t110 => (some t110)) else (if a0.toList = ([104, 101, 108, 108, 105, 112] : List UInt8) then ((muslinref04_Sign.f 8230).bind fun t111 => (some t111)) else (if a0.toList = ([110, 100, 97, 115, 104] : List UInt8) then ((muslinref04_Sign.f 8211).bind fun t112 => (some t112)) else (if a0.toList = ([109, 100, 97, 115, 104] : List UInt8) then ((muslinref04_Sign.f 8212).bind fun t113 => (some t113)) else (if a0.toList = ([101, 117, 114, 111] : List UInt8) then ((muslinref04_Sign.f 8364).bind fun t114 => (some t114)) else (if a0.toList = ([108, 115, 113, 117, 111] : List UInt8) then ((muslinref04_Sign.f 8216).bind fun t115 => (some t115)) else (if a0.toList = ([114, 115, 113, 117, 111] : List UInt8) then ((muslinref04_Sign.f 8217).bind fun t116 => (some t116)) else (if a0.toList = ([108, 100, 113, 117, 111] : List UInt8) then ((muslinref04_Sign.f 8220).bind fun t117 => (some t117)) else (if a0.toList = ([114, 100, 113, 117, 111] : List UInt8) then ((muslinref04_Sign.f 8221).bind fun t118 => (some t118)) else (some (⟨#[]⟩ : ByteArray)))))))))))))))))
set_option maxHeartbeats 8000000 in
set_option maxRecDepth 100000 in
theorem muslinref12_named.calls (a0 : ByteArray) (r : ByteArray) (w : World) (h : muslinref12_named.f a0 = some r) :
    Calls Tryz.prog 32 #[.string a0] w fun e w' => e = .returned (.string r) ∧ Below w.heap.size w w' := by
  have HB := Aside0.mk (Below.refl w.heap.size w); have H : (if a0.toList = ([97, 109, 112] : List UInt8) then (some (⟨#[38]⟩ : ByteArray)) else (if a0.toList = ([108, 116] : List UInt8) then (some (⟨#[60]⟩ : ByteArray)) else (if a0.toList = ([103, 116] : List UInt8) then (some (⟨#[62]⟩ : ByteArray)) else (if a0.toList = ([113, 117, 111, 116] : List UInt8) then (some (⟨#[34]⟩ : ByteArray)) else (if a0.toList = ([97, 112, 111, 115] : List UInt8) then (some (⟨#[39]⟩ : ByteArray)) else (if a0.toList = ([110, 98, 115, 112] : List UInt8) then ((muslinref04_Sign.f 160).bind fun t108 => (some t108)) else (if a0.toList = ([99, 111, 112, 121] : List UInt8) then ((muslinref04_Sign.f 169).bind fun t109 => (some t109)) else (if a0.toList = ([114, 101, 103] : List UInt8) then ((muslinref04_Sign.f 174).bind fun t110 => (some t110)) else (if a0.toList = ([104, 101, 108, 108, 105, 112] : List UInt8) then ((muslinref04_Sign.f 8230).bind fun t111 => (some t111)) else (if a0.toList = ([110, 100, 97, 115, 104] : List UInt8) then ((muslinref04_Sign.f 8211).bind fun t112 => (some t112)) else (if a0.toList = ([109, 100, 97, 115, 104] : List UInt8) then ((muslinref04_Sign.f 8212).bind fun t113 => (some t113)) else (if a0.toList = ([101, 117, 114, 111] : List UInt8) then ((muslinref04_Sign.f 8364).bind fun t114 => (some t114)) else (if a0.toList = ([108, 115, 113, 117, 111] : List UInt8) then ((muslinref04_Sign.f 8216).bind fun t115 => (some t115)) else (if a0.toList = ([114, 115, 113, 117, 111] : List UInt8) then ((muslinref04_Sign.f 8217).bind fun t116 => (some t116)) else (if a0.toList = ([108, 100, 113, 117, 111] : List UInt8) then ((muslinref04_Sign.f 8220).bind fun t117 => (some t117)) else (if a0.toList = ([114, 100, 113, 117, 111] : List UInt8) then ((muslinref04_Sign.f 8221).bind fun t118 => (some t118)) else (some (⟨#[]⟩ : ByteArray)))))))))))))))))) = some r := h; clear h
  by_cases c2 : a0.toList = ([97, 109, 112] : List UInt8)
  case pos =>
    rw [if_pos c2] at H; have c2b0 : (a0.toList == ([97, 109, 112] : List UInt8)) = true := beq_iff_eq.mpr c2; have c2b1 : (a0.toList != ([97, 109, 112] : List UInt8)) = false := bne_eq_false_iff_eq.mpr c2; clear c2; obtain rfl := Option.some.inj H
    go_enter Tryz.func32, Tryz.ntmps32
    go_wp2
    go_ret
    exact ⟨by first | rfl | (simp [errW_none, errW_some] <;> rfl) | (simp [*, errW_none, errW_some] <;> rfl), by repeat (first | (with_reducible first | exact HB.out | apply below_alloc | apply pw_below_drewN | apply below_drew1) | exact HB.out)⟩
  rw [if_neg c2] at H; have c2b0 : (a0.toList == ([97, 109, 112] : List UInt8)) = false := beq_eq_false_iff_ne.mpr c2; have c2b1 : (a0.toList != ([97, 109, 112] : List UInt8)) = true := bne_iff_ne.mpr c2
  by_cases c3 : a0.toList = ([108, 116] : List UInt8)
  case pos =>
    rw [if_pos c3] at H; have c3b0 : (a0.toList == ([108, 116] : List UInt8)) = true := beq_iff_eq.mpr c3; have c3b1 : (a0.toList != ([108, 116] : List UInt8)) = false := bne_eq_false_iff_eq.mpr c3; clear c3; obtain rfl := Option.some.inj H
    go_enter Tryz.func32, Tryz.ntmps32
    go_wp2
    go_ret
    exact ⟨by first | rfl | (simp [errW_none, errW_some] <;> rfl) | (simp [*, errW_none, errW_some] <;> rfl), by repeat (first | (with_reducible first | exact HB.out | apply below_alloc | apply pw_below_drewN | apply below_drew1) | exact HB.out)⟩
  rw [if_neg c3] at H; have c3b0 : (a0.toList == ([108, 116] : List UInt8)) = false := beq_eq_false_iff_ne.mpr c3; have c3b1 : (a0.toList != ([108, 116] : List UInt8)) = true := bne_iff_ne.mpr c3
  by_cases c4 : a0.toList = ([103, 116] : List UInt8)
  case pos =>
    rw [if_pos c4] at H; have c4b0 : (a0.toList == ([103, 116] : List UInt8)) = true := beq_iff_eq.mpr c4; have c4b1 : (a0.toList != ([103, 116] : List UInt8)) = false := bne_eq_false_iff_eq.mpr c4; clear c4; obtain rfl := Option.some.inj H
    go_enter Tryz.func32, Tryz.ntmps32
    go_wp2
    go_ret
    exact ⟨by first | rfl | (simp [errW_none, errW_some] <;> rfl) | (simp [*, errW_none, errW_some] <;> rfl), by repeat (first | (with_reducible first | exact HB.out | apply below_alloc | apply pw_below_drewN | apply below_drew1) | exact HB.out)⟩
  rw [if_neg c4] at H; have c4b0 : (a0.toList == ([103, 116] : List UInt8)) = false := beq_eq_false_iff_ne.mpr c4; have c4b1 : (a0.toList != ([103, 116] : List UInt8)) = true := bne_iff_ne.mpr c4
  by_cases c5 : a0.toList = ([113, 117, 111, 116] : List UInt8)
  case pos =>
    rw [if_pos c5] at H; have c5b0 : (a0.toList == ([113, 117, 111, 116] : List UInt8)) = true := beq_iff_eq.mpr c5; have c5b1 : (a0.toList != ([113, 117, 111, 116] : List UInt8)) = false := bne_eq_false_iff_eq.mpr c5; clear c5; obtain rfl := Option.some.inj H
    go_enter Tryz.func32, Tryz.ntmps32
    go_wp2
    go_ret
    exact ⟨by first | rfl | (simp [errW_none, errW_some] <;> rfl) | (simp [*, errW_none, errW_some] <;> rfl), by repeat (first | (with_reducible first | exact HB.out | apply below_alloc | apply pw_below_drewN | apply below_drew1) | exact HB.out)⟩
  rw [if_neg c5] at H; have c5b0 : (a0.toList == ([113, 117, 111, 116] : List UInt8)) = false := beq_eq_false_iff_ne.mpr c5; have c5b1 : (a0.toList != ([113, 117, 111, 116] : List UInt8)) = true := bne_iff_ne.mpr c5
  by_cases c6 : a0.toList = ([97, 112, 111, 115] : List UInt8)
  case pos =>
    rw [if_pos c6] at H; have c6b0 : (a0.toList == ([97, 112, 111, 115] : List UInt8)) = true := beq_iff_eq.mpr c6; have c6b1 : (a0.toList != ([97, 112, 111, 115] : List UInt8)) = false := bne_eq_false_iff_eq.mpr c6; clear c6; obtain rfl := Option.some.inj H
    go_enter Tryz.func32, Tryz.ntmps32
    go_wp2
    go_ret
    exact ⟨by first | rfl | (simp [errW_none, errW_some] <;> rfl) | (simp [*, errW_none, errW_some] <;> rfl), by repeat (first | (with_reducible first | exact HB.out | apply below_alloc | apply pw_below_drewN | apply below_drew1) | exact HB.out)⟩
  rw [if_neg c6] at H; have c6b0 : (a0.toList == ([97, 112, 111, 115] : List UInt8)) = false := beq_eq_false_iff_ne.mpr c6; have c6b1 : (a0.toList != ([97, 112, 111, 115] : List UInt8)) = true := bne_iff_ne.mpr c6
  by_cases c7 : a0.toList = ([110, 98, 115, 112] : List UInt8)
  case pos =>
    rw [if_pos c7] at H; have c7b0 : (a0.toList == ([110, 98, 115, 112] : List UInt8)) = true := beq_iff_eq.mpr c7; have c7b1 : (a0.toList != ([110, 98, 115, 112] : List UInt8)) = false := bne_eq_false_iff_eq.mpr c7; clear c7; replace H := Option.bind_eq_some_iff.mp H; obtain ⟨t108, A80, H⟩ := H; replace H : (some t108) = some r := H; have A8 := Aside0.mk A80; clear A80; obtain rfl := Option.some.inj H
    go_enter Tryz.func32, Tryz.ntmps32
    go_wp2_with (first | ((with_reducible refine gate_callee (f := 43) rfl ?_); refine goesL_ (some 16) rfl rfl Tryz.func43 (by kernel_rfl) rfl #[.int .i64 160] rfl (by (try simp only [List.map_toArray, List.map_cons, List.map_nil]); first | done | rfl | (simp only [List.length_drop, List.length_take]; rfl)) ?_; (with_reducible refine (muslinref04_Sign.calls 160 t108 _ A8.out).mono ?_); rintro e w9 ⟨rfl, hb⟩; refine ⟨_, rfl, ?_⟩; have n0_ := Aside0.mk (below_step (by repeat (first | (with_reducible first | exact HB.out | apply below_alloc | apply pw_below_drewN | apply below_drew1) | exact HB.out)) hb); clear HB; have HB := n0_; clear n0_; (try clear hb); (try clear hb2); (try clear hk); (try clear hi)))
    go_ret
    exact ⟨by first | rfl | (simp [errW_none, errW_some] <;> rfl) | (simp [*, errW_none, errW_some] <;> rfl), by repeat (first | (with_reducible first | exact HB.out | apply below_alloc | apply pw_below_drewN | apply below_drew1) | exact HB.out)⟩
  rw [if_neg c7] at H; have c7b0 : (a0.toList == ([110, 98, 115, 112] : List UInt8)) = false := beq_eq_false_iff_ne.mpr c7; have c7b1 : (a0.toList != ([110, 98, 115, 112] : List UInt8)) = true := bne_iff_ne.mpr c7
  by_cases c10 : a0.toList = ([99, 111, 112, 121] : List UInt8)
  case pos =>
    rw [if_pos c10] at H; have c10b0 : (a0.toList == ([99, 111, 112, 121] : List UInt8)) = true := beq_iff_eq.mpr c10; have c10b1 : (a0.toList != ([99, 111, 112, 121] : List UInt8)) = false := bne_eq_false_iff_eq.mpr c10; clear c10; replace H := Option.bind_eq_some_iff.mp H; obtain ⟨t109, A110, H⟩ := H; replace H : (some t109) = some r := H; have A11 := Aside0.mk A110; clear A110; obtain rfl := Option.some.inj H
    go_enter Tryz.func32, Tryz.ntmps32
    go_wp2_with (first | ((with_reducible refine gate_callee (f := 43) rfl ?_); refine goesL_ (some 19) rfl rfl Tryz.func43 (by kernel_rfl) rfl #[.int .i64 169] rfl (by (try simp only [List.map_toArray, List.map_cons, List.map_nil]); first | done | rfl | (simp only [List.length_drop, List.length_take]; rfl)) ?_; (with_reducible refine (muslinref04_Sign.calls 169 t109 _ A11.out).mono ?_); rintro e w12 ⟨rfl, hb⟩; refine ⟨_, rfl, ?_⟩; have n0_ := Aside0.mk (below_step (by repeat (first | (with_reducible first | exact HB.out | apply below_alloc | apply pw_below_drewN | apply below_drew1) | exact HB.out)) hb); clear HB; have HB := n0_; clear n0_; (try clear hb); (try clear hb2); (try clear hk); (try clear hi)))
    go_ret
    exact ⟨by first | rfl | (simp [errW_none, errW_some] <;> rfl) | (simp [*, errW_none, errW_some] <;> rfl), by repeat (first | (with_reducible first | exact HB.out | apply below_alloc | apply pw_below_drewN | apply below_drew1) | exact HB.out)⟩
  rw [if_neg c10] at H; have c10b0 : (a0.toList == ([99, 111, 112, 121] : List UInt8)) = false := beq_eq_false_iff_ne.mpr c10; have c10b1 : (a0.toList != ([99, 111, 112, 121] : List UInt8)) = true := bne_iff_ne.mpr c10
  by_cases c13 : a0.toList = ([114, 101, 103] : List UInt8)
  case pos =>
    rw [if_pos c13] at H; have c13b0 : (a0.toList == ([114, 101, 103] : List UInt8)) = true := beq_iff_eq.mpr c13; have c13b1 : (a0.toList != ([114, 101, 103] : List UInt8)) = false := bne_eq_false_iff_eq.mpr c13; clear c13; replace H := Option.bind_eq_some_iff.mp H; obtain ⟨t110, A140, H⟩ := H; replace H : (some t110) = some r := H; have A14 := Aside0.mk A140; clear A140; obtain rfl := Option.some.inj H
    go_enter Tryz.func32, Tryz.ntmps32
    go_wp2_with (first | ((with_reducible refine gate_callee (f := 43) rfl ?_); refine goesL_ (some 22) rfl rfl Tryz.func43 (by kernel_rfl) rfl #[.int .i64 174] rfl (by (try simp only [List.map_toArray, List.map_cons, List.map_nil]); first | done | rfl | (simp only [List.length_drop, List.length_take]; rfl)) ?_; (with_reducible refine (muslinref04_Sign.calls 174 t110 _ A14.out).mono ?_); rintro e w15 ⟨rfl, hb⟩; refine ⟨_, rfl, ?_⟩; have n0_ := Aside0.mk (below_step (by repeat (first | (with_reducible first | exact HB.out | apply below_alloc | apply pw_below_drewN | apply below_drew1) | exact HB.out)) hb); clear HB; have HB := n0_; clear n0_; (try clear hb); (try clear hb2); (try clear hk); (try clear hi)))
    go_ret
    exact ⟨by first | rfl | (simp [errW_none, errW_some] <;> rfl) | (simp [*, errW_none, errW_some] <;> rfl), by repeat (first | (with_reducible first | exact HB.out | apply below_alloc | apply pw_below_drewN | apply below_drew1) | exact HB.out)⟩
  rw [if_neg c13] at H; have c13b0 : (a0.toList == ([114, 101, 103] : List UInt8)) = false := beq_eq_false_iff_ne.mpr c13; have c13b1 : (a0.toList != ([114, 101, 103] : List UInt8)) = true := bne_iff_ne.mpr c13
  by_cases c16 : a0.toList = ([104, 101, 108, 108, 105, 112] : List UInt8)
  case pos =>
    rw [if_pos c16] at H; have c16b0 : (a0.toList == ([104, 101, 108, 108, 105, 112] : List UInt8)) = true := beq_iff_eq.mpr c16; have c16b1 : (a0.toList != ([104, 101, 108, 108, 105, 112] : List UInt8)) = false := bne_eq_false_iff_eq.mpr c16; clear c16; replace H := Option.bind_eq_some_iff.mp H; obtain ⟨t111, A170, H⟩ := H; replace H : (some t111) = some r := H; have A17 := Aside0.mk A170; clear A170; obtain rfl := Option.some.inj H
    go_enter Tryz.func32, Tryz.ntmps32
    go_wp2_with (first | ((with_reducible refine gate_callee (f := 43) rfl ?_); refine goesL_ (some 25) rfl rfl Tryz.func43 (by kernel_rfl) rfl #[.int .i64 8230] rfl (by (try simp only [List.map_toArray, List.map_cons, List.map_nil]); first | done | rfl | (simp only [List.length_drop, List.length_take]; rfl)) ?_; (with_reducible refine (muslinref04_Sign.calls 8230 t111 _ A17.out).mono ?_); rintro e w18 ⟨rfl, hb⟩; refine ⟨_, rfl, ?_⟩; have n0_ := Aside0.mk (below_step (by repeat (first | (with_reducible first | exact HB.out | apply below_alloc | apply pw_below_drewN | apply below_drew1) | exact HB.out)) hb); clear HB; have HB := n0_; clear n0_; (try clear hb); (try clear hb2); (try clear hk); (try clear hi)))
    go_ret
    exact ⟨by first | rfl | (simp [errW_none, errW_some] <;> rfl) | (simp [*, errW_none, errW_some] <;> rfl), by repeat (first | (with_reducible first | exact HB.out | apply below_alloc | apply pw_below_drewN | apply below_drew1) | exact HB.out)⟩
  rw [if_neg c16] at H; have c16b0 : (a0.toList == ([104, 101, 108, 108, 105, 112] : List UInt8)) = false := beq_eq_false_iff_ne.mpr c16; have c16b1 : (a0.toList != ([104, 101, 108, 108, 105, 112] : List UInt8)) = true := bne_iff_ne.mpr c16
  by_cases c19 : a0.toList = ([110, 100, 97, 115, 104] : List UInt8)
  case pos =>
    rw [if_pos c19] at H; have c19b0 : (a0.toList == ([110, 100, 97, 115, 104] : List UInt8)) = true := beq_iff_eq.mpr c19; have c19b1 : (a0.toList != ([110, 100, 97, 115, 104] : List UInt8)) = false := bne_eq_false_iff_eq.mpr c19; clear c19; replace H := Option.bind_eq_some_iff.mp H; obtain ⟨t112, A200, H⟩ := H; replace H : (some t112) = some r := H; have A20 := Aside0.mk A200; clear A200; obtain rfl := Option.some.inj H
    go_enter Tryz.func32, Tryz.ntmps32
    go_wp2_with (first | ((with_reducible refine gate_callee (f := 43) rfl ?_); refine goesL_ (some 28) rfl rfl Tryz.func43 (by kernel_rfl) rfl #[.int .i64 8211] rfl (by (try simp only [List.map_toArray, List.map_cons, List.map_nil]); first | done | rfl | (simp only [List.length_drop, List.length_take]; rfl)) ?_; (with_reducible refine (muslinref04_Sign.calls 8211 t112 _ A20.out).mono ?_); rintro e w21 ⟨rfl, hb⟩; refine ⟨_, rfl, ?_⟩; have n0_ := Aside0.mk (below_step (by repeat (first | (with_reducible first | exact HB.out | apply below_alloc | apply pw_below_drewN | apply below_drew1) | exact HB.out)) hb); clear HB; have HB := n0_; clear n0_; (try clear hb); (try clear hb2); (try clear hk); (try clear hi)))
    go_ret
    exact ⟨by first | rfl | (simp [errW_none, errW_some] <;> rfl) | (simp [*, errW_none, errW_some] <;> rfl), by repeat (first | (with_reducible first | exact HB.out | apply below_alloc | apply pw_below_drewN | apply below_drew1) | exact HB.out)⟩
  rw [if_neg c19] at H; have c19b0 : (a0.toList == ([110, 100, 97, 115, 104] : List UInt8)) = false := beq_eq_false_iff_ne.mpr c19; have c19b1 : (a0.toList != ([110, 100, 97, 115, 104] : List UInt8)) = true := bne_iff_ne.mpr c19
  by_cases c22 : a0.toList = ([109, 100, 97, 115, 104] : List UInt8)
  case pos =>
    rw [if_pos c22] at H; have c22b0 : (a0.toList == ([109, 100, 97, 115, 104] : List UInt8)) = true := beq_iff_eq.mpr c22; have c22b1 : (a0.toList != ([109, 100, 97, 115, 104] : List UInt8)) = false := bne_eq_false_iff_eq.mpr c22; clear c22; replace H := Option.bind_eq_some_iff.mp H; obtain ⟨t113, A230, H⟩ := H; replace H : (some t113) = some r := H; have A23 := Aside0.mk A230; clear A230; obtain rfl := Option.some.inj H
    go_enter Tryz.func32, Tryz.ntmps32
    go_wp2_with (first | ((with_reducible refine gate_callee (f := 43) rfl ?_); refine goesL_ (some 31) rfl rfl Tryz.func43 (by kernel_rfl) rfl #[.int .i64 8212] rfl (by (try simp only [List.map_toArray, List.map_cons, List.map_nil]); first | done | rfl | (simp only [List.length_drop, List.length_take]; rfl)) ?_; (with_reducible refine (muslinref04_Sign.calls 8212 t113 _ A23.out).mono ?_); rintro e w24 ⟨rfl, hb⟩; refine ⟨_, rfl, ?_⟩; have n0_ := Aside0.mk (below_step (by repeat (first | (with_reducible first | exact HB.out | apply below_alloc | apply pw_below_drewN | apply below_drew1) | exact HB.out)) hb); clear HB; have HB := n0_; clear n0_; (try clear hb); (try clear hb2); (try clear hk); (try clear hi)))
    go_ret
    exact ⟨by first | rfl | (simp [errW_none, errW_some] <;> rfl) | (simp [*, errW_none, errW_some] <;> rfl), by repeat (first | (with_reducible first | exact HB.out | apply below_alloc | apply pw_below_drewN | apply below_drew1) | exact HB.out)⟩
  rw [if_neg c22] at H; have c22b0 : (a0.toList == ([109, 100, 97, 115, 104] : List UInt8)) = false := beq_eq_false_iff_ne.mpr c22; have c22b1 : (a0.toList != ([109, 100, 97, 115, 104] : List UInt8)) = true := bne_iff_ne.mpr c22
  by_cases c25 : a0.toList = ([101, 117, 114, 111] : List UInt8)
  case pos =>
    rw [if_pos c25] at H; have c25b0 : (a0.toList == ([101, 117, 114, 111] : List UInt8)) = true := beq_iff_eq.mpr c25; have c25b1 : (a0.toList != ([101, 117, 114, 111] : List UInt8)) = false := bne_eq_false_iff_eq.mpr c25; clear c25; replace H := Option.bind_eq_some_iff.mp H; obtain ⟨t114, A260, H⟩ := H; replace H : (some t114) = some r := H; have A26 := Aside0.mk A260; clear A260; obtain rfl := Option.some.inj H
    go_enter Tryz.func32, Tryz.ntmps32
    go_wp2_with (first | ((with_reducible refine gate_callee (f := 43) rfl ?_); refine goesL_ (some 34) rfl rfl Tryz.func43 (by kernel_rfl) rfl #[.int .i64 8364] rfl (by (try simp only [List.map_toArray, List.map_cons, List.map_nil]); first | done | rfl | (simp only [List.length_drop, List.length_take]; rfl)) ?_; (with_reducible refine (muslinref04_Sign.calls 8364 t114 _ A26.out).mono ?_); rintro e w27 ⟨rfl, hb⟩; refine ⟨_, rfl, ?_⟩; have n0_ := Aside0.mk (below_step (by repeat (first | (with_reducible first | exact HB.out | apply below_alloc | apply pw_below_drewN | apply below_drew1) | exact HB.out)) hb); clear HB; have HB := n0_; clear n0_; (try clear hb); (try clear hb2); (try clear hk); (try clear hi)))
    go_ret
    exact ⟨by first | rfl | (simp [errW_none, errW_some] <;> rfl) | (simp [*, errW_none, errW_some] <;> rfl), by repeat (first | (with_reducible first | exact HB.out | apply below_alloc | apply pw_below_drewN | apply below_drew1) | exact HB.out)⟩
  rw [if_neg c25] at H; have c25b0 : (a0.toList == ([101, 117, 114, 111] : List UInt8)) = false := beq_eq_false_iff_ne.mpr c25; have c25b1 : (a0.toList != ([101, 117, 114, 111] : List UInt8)) = true := bne_iff_ne.mpr c25
  by_cases c28 : a0.toList = ([108, 115, 113, 117, 111] : List UInt8)
  case pos =>
    rw [if_pos c28] at H; have c28b0 : (a0.toList == ([108, 115, 113, 117, 111] : List UInt8)) = true := beq_iff_eq.mpr c28; have c28b1 : (a0.toList != ([108, 115, 113, 117, 111] : List UInt8)) = false := bne_eq_false_iff_eq.mpr c28; clear c28; replace H := Option.bind_eq_some_iff.mp H; obtain ⟨t115, A290, H⟩ := H; replace H : (some t115) = some r := H; have A29 := Aside0.mk A290; clear A290; obtain rfl := Option.some.inj H
    go_enter Tryz.func32, Tryz.ntmps32
    go_wp2_with (first | ((with_reducible refine gate_callee (f := 43) rfl ?_); refine goesL_ (some 37) rfl rfl Tryz.func43 (by kernel_rfl) rfl #[.int .i64 8216] rfl (by (try simp only [List.map_toArray, List.map_cons, List.map_nil]); first | done | rfl | (simp only [List.length_drop, List.length_take]; rfl)) ?_; (with_reducible refine (muslinref04_Sign.calls 8216 t115 _ A29.out).mono ?_); rintro e w30 ⟨rfl, hb⟩; refine ⟨_, rfl, ?_⟩; have n0_ := Aside0.mk (below_step (by repeat (first | (with_reducible first | exact HB.out | apply below_alloc | apply pw_below_drewN | apply below_drew1) | exact HB.out)) hb); clear HB; have HB := n0_; clear n0_; (try clear hb); (try clear hb2); (try clear hk); (try clear hi)))
    go_ret
    exact ⟨by first | rfl | (simp [errW_none, errW_some] <;> rfl) | (simp [*, errW_none, errW_some] <;> rfl), by repeat (first | (with_reducible first | exact HB.out | apply below_alloc | apply pw_below_drewN | apply below_drew1) | exact HB.out)⟩
  rw [if_neg c28] at H; have c28b0 : (a0.toList == ([108, 115, 113, 117, 111] : List UInt8)) = false := beq_eq_false_iff_ne.mpr c28; have c28b1 : (a0.toList != ([108, 115, 113, 117, 111] : List UInt8)) = true := bne_iff_ne.mpr c28
  by_cases c31 : a0.toList = ([114, 115, 113, 117, 111] : List UInt8)
  case pos =>
    rw [if_pos c31] at H; have c31b0 : (a0.toList == ([114, 115, 113, 117, 111] : List UInt8)) = true := beq_iff_eq.mpr c31; have c31b1 : (a0.toList != ([114, 115, 113, 117, 111] : List UInt8)) = false := bne_eq_false_iff_eq.mpr c31; clear c31; replace H := Option.bind_eq_some_iff.mp H; obtain ⟨t116, A320, H⟩ := H; replace H : (some t116) = some r := H; have A32 := Aside0.mk A320; clear A320; obtain rfl := Option.some.inj H
    go_enter Tryz.func32, Tryz.ntmps32
    go_wp2_with (first | ((with_reducible refine gate_callee (f := 43) rfl ?_); refine goesL_ (some 40) rfl rfl Tryz.func43 (by kernel_rfl) rfl #[.int .i64 8217] rfl (by (try simp only [List.map_toArray, List.map_cons, List.map_nil]); first | done | rfl | (simp only [List.length_drop, List.length_take]; rfl)) ?_; (with_reducible refine (muslinref04_Sign.calls 8217 t116 _ A32.out).mono ?_); rintro e w33 ⟨rfl, hb⟩; refine ⟨_, rfl, ?_⟩; have n0_ := Aside0.mk (below_step (by repeat (first | (with_reducible first | exact HB.out | apply below_alloc | apply pw_below_drewN | apply below_drew1) | exact HB.out)) hb); clear HB; have HB := n0_; clear n0_; (try clear hb); (try clear hb2); (try clear hk); (try clear hi)))
    go_ret
    exact ⟨by first | rfl | (simp [errW_none, errW_some] <;> rfl) | (simp [*, errW_none, errW_some] <;> rfl), by repeat (first | (with_reducible first | exact HB.out | apply below_alloc | apply pw_below_drewN | apply below_drew1) | exact HB.out)⟩
  rw [if_neg c31] at H; have c31b0 : (a0.toList == ([114, 115, 113, 117, 111] : List UInt8)) = false := beq_eq_false_iff_ne.mpr c31; have c31b1 : (a0.toList != ([114, 115, 113, 117, 111] : List UInt8)) = true := bne_iff_ne.mpr c31
  by_cases c34 : a0.toList = ([108, 100, 113, 117, 111] : List UInt8)
  case pos =>
    rw [if_pos c34] at H; have c34b0 : (a0.toList == ([108, 100, 113, 117, 111] : List UInt8)) = true := beq_iff_eq.mpr c34; have c34b1 : (a0.toList != ([108, 100, 113, 117, 111] : List UInt8)) = false := bne_eq_false_iff_eq.mpr c34; clear c34; replace H := Option.bind_eq_some_iff.mp H; obtain ⟨t117, A350, H⟩ := H; replace H : (some t117) = some r := H; have A35 := Aside0.mk A350; clear A350; obtain rfl := Option.some.inj H
    go_enter Tryz.func32, Tryz.ntmps32
    go_wp2_with (first | ((with_reducible refine gate_callee (f := 43) rfl ?_); refine goesL_ (some 43) rfl rfl Tryz.func43 (by kernel_rfl) rfl #[.int .i64 8220] rfl (by (try simp only [List.map_toArray, List.map_cons, List.map_nil]); first | done | rfl | (simp only [List.length_drop, List.length_take]; rfl)) ?_; (with_reducible refine (muslinref04_Sign.calls 8220 t117 _ A35.out).mono ?_); rintro e w36 ⟨rfl, hb⟩; refine ⟨_, rfl, ?_⟩; have n0_ := Aside0.mk (below_step (by repeat (first | (with_reducible first | exact HB.out | apply below_alloc | apply pw_below_drewN | apply below_drew1) | exact HB.out)) hb); clear HB; have HB := n0_; clear n0_; (try clear hb); (try clear hb2); (try clear hk); (try clear hi)))
    go_ret
    exact ⟨by first | rfl | (simp [errW_none, errW_some] <;> rfl) | (simp [*, errW_none, errW_some] <;> rfl), by repeat (first | (with_reducible first | exact HB.out | apply below_alloc | apply pw_below_drewN | apply below_drew1) | exact HB.out)⟩
  rw [if_neg c34] at H; have c34b0 : (a0.toList == ([108, 100, 113, 117, 111] : List UInt8)) = false := beq_eq_false_iff_ne.mpr c34; have c34b1 : (a0.toList != ([108, 100, 113, 117, 111] : List UInt8)) = true := bne_iff_ne.mpr c34
  by_cases c37 : a0.toList = ([114, 100, 113, 117, 111] : List UInt8)
  case neg =>
    rw [if_neg c37] at H; have c37b0 : (a0.toList == ([114, 100, 113, 117, 111] : List UInt8)) = false := beq_eq_false_iff_ne.mpr c37; have c37b1 : (a0.toList != ([114, 100, 113, 117, 111] : List UInt8)) = true := bne_iff_ne.mpr c37; obtain rfl := Option.some.inj H
    go_enter Tryz.func32, Tryz.ntmps32
    go_wp2
    go_ret
    exact ⟨by first | rfl | (simp [errW_none, errW_some] <;> rfl) | (simp [*, errW_none, errW_some] <;> rfl), by repeat (first | (with_reducible first | exact HB.out | apply below_alloc | apply pw_below_drewN | apply below_drew1) | exact HB.out)⟩
  rw [if_pos c37] at H; have c37b0 : (a0.toList == ([114, 100, 113, 117, 111] : List UInt8)) = true := beq_iff_eq.mpr c37; have c37b1 : (a0.toList != ([114, 100, 113, 117, 111] : List UInt8)) = false := bne_eq_false_iff_eq.mpr c37; clear c37; replace H := Option.bind_eq_some_iff.mp H; obtain ⟨t118, A380, H⟩ := H; replace H : (some t118) = some r := H; have A38 := Aside0.mk A380; clear A380; obtain rfl := Option.some.inj H
  go_enter Tryz.func32, Tryz.ntmps32
  go_wp2_with (first | ((with_reducible refine gate_callee (f := 43) rfl ?_); refine goesL_ (some 46) rfl rfl Tryz.func43 (by kernel_rfl) rfl #[.int .i64 8221] rfl (by (try simp only [List.map_toArray, List.map_cons, List.map_nil]); first | done | rfl | (simp only [List.length_drop, List.length_take]; rfl)) ?_; (with_reducible refine (muslinref04_Sign.calls 8221 t118 _ A38.out).mono ?_); rintro e w39 ⟨rfl, hb⟩; refine ⟨_, rfl, ?_⟩; have n0_ := Aside0.mk (below_step (by repeat (first | (with_reducible first | exact HB.out | apply below_alloc | apply pw_below_drewN | apply below_drew1) | exact HB.out)) hb); clear HB; have HB := n0_; clear n0_; (try clear hb); (try clear hb2); (try clear hk); (try clear hi)))
  go_ret
  exact ⟨by first | rfl | (simp [errW_none, errW_some] <;> rfl) | (simp [*, errW_none, errW_some] <;> rfl), by repeat (first | (with_reducible first | exact HB.out | apply below_alloc | apply pw_below_drewN | apply below_drew1) | exact HB.out)⟩
def muslinref03_Letter.f (a0 : Int) : Option (Bool) := if a0 ≥ 97 then (if a0 ≤ 122 then (some true) else (if a0 ≥ 65 then (some (decide (a0 ≤ 90))) else (some false))) else (if a0 ≥ 65 then (some (decide (a0 ≤ 90))) else (some false))
set_option maxHeartbeats 8000000 in
set_option maxRecDepth 100000 in
theorem muslinref03_Letter.calls (a0 : Int) (r : Bool) (w : World) (h : muslinref03_Letter.f a0 = some r) :
    Calls Tryz.prog 28 #[.int .u8 a0] w fun e w' => e = .returned (.bool r) ∧ Drawn0 w w' := by
  have H : (if a0 ≥ 97 then (if a0 ≤ 122 then (some true) else (if a0 ≥ 65 then (some (decide (a0 ≤ 90))) else (some false))) else (if a0 ≥ 65 then (some (decide (a0 ≤ 90))) else (some false))) = some r := h; clear h
  by_cases c2 : a0 ≥ 97
  case neg =>
    rw [if_neg c2] at H; have c2b0 : decide (97 ≤ a0) = false := decide_eq_false c2; clear c2
    by_cases c5 : a0 ≥ 65
    case pos =>
      rw [if_pos c5] at H; have c5b0 : decide (65 ≤ a0) = true := decide_eq_true c5; clear c5; obtain rfl := Option.some.inj H
      go_enter Tryz.func28, Tryz.ntmps28
      go_wp2
      go_ret
      exact ⟨by first | rfl | (simp; done) | (simp [*]; done), by repeat (first | exact Drawn0.refl _ | apply Drawn0.step)⟩
    rw [if_neg c5] at H; have c5b0 : decide (65 ≤ a0) = false := decide_eq_false c5; clear c5; obtain rfl := Option.some.inj H
    go_enter Tryz.func28, Tryz.ntmps28
    go_wp2
    go_ret
    exact ⟨by first | rfl | (simp; done) | (simp [*]; done), by repeat (first | exact Drawn0.refl _ | apply Drawn0.step)⟩
  rw [if_pos c2] at H; have c2b0 : decide (97 ≤ a0) = true := decide_eq_true c2; clear c2
  by_cases c3 : a0 ≤ 122
  case pos =>
    rw [if_pos c3] at H; have c3b0 : decide (a0 ≤ 122) = true := decide_eq_true c3; clear c3; obtain rfl := Option.some.inj H
    go_enter Tryz.func28, Tryz.ntmps28
    go_wp2
    go_ret
    exact ⟨by first | rfl | (simp; done) | (simp [*]; done), by repeat (first | exact Drawn0.refl _ | apply Drawn0.step)⟩
  rw [if_neg c3] at H; have c3b0 : decide (a0 ≤ 122) = false := decide_eq_false c3; clear c3
  by_cases c4 : a0 ≥ 65
  case pos =>
    rw [if_pos c4] at H; have c4b0 : decide (65 ≤ a0) = true := decide_eq_true c4; clear c4; obtain rfl := Option.some.inj H
    go_enter Tryz.func28, Tryz.ntmps28
    go_wp2
    go_ret
    exact ⟨by first | rfl | (simp; done) | (simp [*]; done), by repeat (first | exact Drawn0.refl _ | apply Drawn0.step)⟩
  rw [if_neg c4] at H; have c4b0 : decide (65 ≤ a0) = false := decide_eq_false c4; clear c4; obtain rfl := Option.some.inj H
  go_enter Tryz.func28, Tryz.ntmps28
  go_wp2
  go_ret
  exact ⟨by first | rfl | (simp; done) | (simp [*]; done), by repeat (first | exact Drawn0.refl _ | apply Drawn0.step)⟩
end Go.Proofs.YtkfcbafjcjmfnaaGreatDoor.E
namespace Go.Proofs.YtkfcbafjcjmfnaaGreatDoor.E
open Go.RowKit Go.Proofs.YtkfcbafjcjmfnaaGreatDoorW.PrintWords Go.Proofs.YtkfcbafjcjmfnaaGreatDoorW.PrintLast Go.Proofs.YtkfcbafjcjmfnaaGreatDoorW.PrintMore
attribute [local go_sem] max2_int min2_int max_two min_two max_three min_three max_four min_four
set_option linter.unusedVariables false
set_option linter.unusedSimpArgs false
def muslinref03_Digit.f (a0 : Int) : Option (Bool) := if a0 ≥ 48 then (some (decide (a0 ≤ 57))) else (some false)
set_option maxHeartbeats 8000000 in
set_option maxRecDepth 100000 in
theorem muslinref03_Digit.calls (a0 : Int) (r : Bool) (w : World) (h : muslinref03_Digit.f a0 = some r) :
    Calls Tryz.prog 29 #[.int .u8 a0] w fun e w' => e = .returned (.bool r) ∧ Drawn0 w w' := by
  have H : (if a0 ≥ 48 then (some (decide (a0 ≤ 57))) else (some false)) = some r := h; clear h
  by_cases c2 : a0 ≥ 48
  case pos =>
    rw [if_pos c2] at H; have c2b0 : decide (48 ≤ a0) = true := decide_eq_true c2; clear c2; obtain rfl := Option.some.inj H
    go_enter Tryz.func29, Tryz.ntmps29
    go_wp2
    go_ret
    exact ⟨by first | rfl | (simp; done) | (simp [*]; done), by repeat (first | exact Drawn0.refl _ | apply Drawn0.step)⟩
  rw [if_neg c2] at H; have c2b0 : decide (48 ≤ a0) = false := decide_eq_false c2; clear c2; obtain rfl := Option.some.inj H
  go_enter Tryz.func29, Tryz.ntmps29
  go_wp2
  go_ret
  exact ⟨by first | rfl | (simp; done) | (simp [*]; done), by repeat (first | exact Drawn0.refl _ | apply Drawn0.step)⟩
end Go.Proofs.YtkfcbafjcjmfnaaGreatDoor.E
namespace Go.Proofs.YtkfcbafjcjmfnaaGreatDoor.Pure
open Go.RowKit Go.Lib Go.Proofs.YtkfcbafjcjmfnaaGreatDoor Go.Proofs.YtkfcbafjcjmfnaaGreatDoor.E Go.Proofs.YtkfcbafjcjmfnaaGreatDoor.Ent Go.Proofs.YtkfcbafjcjmfnaaGreatDoor.Gen Go.Proofs.YtkfcbafjcjmfnaaGreatDoor.Num Go.Proofs.YtkfcbafjcjmfnaaGreatDoorW.PrintWords Go.Proofs.YtkfcbafjcjmfnaaGreatDoorW.PrintLast
set_option linter.unusedVariables false
set_option linter.unusedSimpArgs false
def hexI (c : UInt8) : Int := if hexV c = 99 then -1 else (hexV c : Int)
theorem hex_is (c : UInt8) : Ev (fun k => muslinref02_Hex.f k (c.toNat : Int)) (hexI c) := by
  have h256 := UInt8.toNat_lt c
  have le : ∀ a b : UInt8, a ≤ b ↔ a.toNat ≤ b.toNat := fun a b => Iff.rfl
  unfold muslinref02_Hex.f
  have h1 : ∀ P : Prop, (48 ≤ c.toNat ∧ c.toNat ≤ 57) → hexI c = (c.toNat : Int) - 48 := fun _ h => by
    unfold hexI hexV
    rw [if_pos (show 48 ≤ c ∧ c ≤ 57 from h)]
    rw [if_neg (by omega)]; omega
  have h2 : (¬ (48 ≤ c.toNat ∧ c.toNat ≤ 57)) → (65 ≤ c.toNat ∧ c.toNat ≤ 70) → hexI c = (c.toNat : Int) - 55 := fun h h' => by
    unfold hexI hexV
    rw [if_neg (show ¬ (48 ≤ c ∧ c ≤ 57) from h), if_pos (show 65 ≤ c ∧ c ≤ 70 from h')]
    rw [if_neg (by omega)]; omega
  have h3 : (¬ (48 ≤ c.toNat ∧ c.toNat ≤ 57)) → (¬ (65 ≤ c.toNat ∧ c.toNat ≤ 70)) → (97 ≤ c.toNat ∧ c.toNat ≤ 102) → hexI c = (c.toNat : Int) - 87 := fun h h' h'' => by
    unfold hexI hexV
    rw [if_neg (show ¬ (48 ≤ c ∧ c ≤ 57) from h), if_neg (show ¬ (65 ≤ c ∧ c ≤ 70) from h'), if_pos (show 97 ≤ c ∧ c ≤ 102 from h'')]
    rw [if_neg (by omega)]; omega
  have h4 : (¬ (48 ≤ c.toNat ∧ c.toNat ≤ 57)) → (¬ (65 ≤ c.toNat ∧ c.toNat ≤ 70)) → (¬ (97 ≤ c.toNat ∧ c.toNat ≤ 102)) → hexI c = -1 := fun h h' h'' => by
    unfold hexI hexV
    rw [if_neg (show ¬ (48 ≤ c ∧ c ≤ 57) from h), if_neg (show ¬ (65 ≤ c ∧ c ≤ 70) from h'), if_neg (show ¬ (97 ≤ c ∧ c ≤ 102) from h'')]
    rfl
  have e1 : ¬ (48 ≤ c.toNat ∧ c.toNat ≤ 57) → Ev (fun k => muslinref02_Hex.j0 k (c.toNat : Int) false) (hexI c) := fun hd => by
    refine Ev.round (fun k => by rw [muslinref02_Hex.j0]) ?_
    refine Ev.neg Bool.false_ne_true ?_
    have e2 : ¬ (65 ≤ c.toNat ∧ c.toNat ≤ 70) → Ev (fun k => muslinref02_Hex.j1 k (c.toNat : Int) false) (hexI c) := fun hu => by
      refine Ev.round (fun k => by rw [muslinref02_Hex.j1]) ?_
      refine Ev.neg Bool.false_ne_true ?_
      by_cases c1 : (c.toNat : Int) ≥ 97
      · refine Ev.pos c1 ?_
        by_cases c2 : (c.toNat : Int) ≤ 102
        · refine Ev.pos c2 ?_
          rw [h3 hd hu (by omega), show (((c.toNat : Int) - 97) % 256) + 10 = (c.toNat : Int) - 87 from by omega]; exact Ev.now _
        · refine Ev.neg c2 ?_
          rw [h4 hd hu (by omega)]; exact Ev.now _
      · refine Ev.neg c1 ?_
        rw [h4 hd hu (by omega)]; exact Ev.now _
    by_cases c1 : (c.toNat : Int) ≥ 65
    · refine Ev.pos c1 ?_
      by_cases c2 : (c.toNat : Int) ≤ 70
      · rw [decide_eq_true c2]
        refine Ev.round (fun k => by rw [muslinref02_Hex.j1]) ?_
        refine Ev.pos rfl ?_
        rw [h2 hd (by omega), show (((c.toNat : Int) - 65) % 256) + 10 = (c.toNat : Int) - 55 from by omega]; exact Ev.now _
      · rw [decide_eq_false c2]
        exact e2 (by omega)
    · refine Ev.neg c1 ?_
      exact e2 (by omega)
  by_cases c1 : (c.toNat : Int) ≥ 48
  · refine Ev.pos c1 ?_
    by_cases c2 : (c.toNat : Int) ≤ 57
    · rw [decide_eq_true c2]
      refine Ev.round (fun k => by rw [muslinref02_Hex.j0]) ?_
      refine Ev.pos rfl ?_
      rw [h1 True (by omega), show ((c.toNat : Int) - 48) % 256 = (c.toNat : Int) - 48 from by omega]; exact Ev.now _
    · rw [decide_eq_false c2]
      exact e1 (by omega)
  · refine Ev.neg c1 ?_
    exact e1 (by omega)
theorem hexV_cases (c : UInt8) : hexV c = 99 ∨ hexV c ≤ 15 := by
  have h : ∀ n : Fin 256, hexV (UInt8.ofNat n.val) = 99 ∨ hexV (UInt8.ofNat n.val) ≤ 15 := by decide +kernel
  have h2 := h ⟨c.toNat, UInt8.toNat_lt c⟩
  simpa using h2
def optI : Option Nat → Int
  | some v => (v : Int)
  | none => -1
theorem digits_loop (s : ByteArray) (base : Nat) (hb : base ≤ 16) (hs : s.size ≤ 7) : ∀ (n i v : Nat), s.size - i ≤ n → i ≤ s.size → v < base ^ i →
    Ev (fun k => muslinref12_digits.l0 k s (base : Int) (v : Int) (i : Int)) (optI (digG base (s.data.toList.drop i) v))
  | n, i, v, hn, hi, hv => by
    have hvb : v < 268435456 := Nat.lt_of_lt_of_le hv (pow_le base i hb (by omega))
    refine Ev.round (fun k => by rw [muslinref12_digits.l0]) ?_
    by_cases hlt : i < s.size
    · refine Ev.pos (by omega) ?_
      refine Ev.pos (by omega) ?_
      have hl : i < s.data.toList.length := by rw [sizeL]; exact hlt
      rw [List.drop_eq_getElem_cons hl, bt_get s i hl]
      refine Ev.bind (hex_is _) ?_
      generalize s.data.toList[i] = c
      rcases hexV_cases c with hc | hc
      · refine Ev.pos (by unfold hexI; rw [if_pos hc]; omega) ?_
        rw [digG, if_neg (by omega)]; exact Ev.now _
      · have hI : hexI c = (hexV c : Int) := by unfold hexI; rw [if_neg (by omega)]
        rw [hI]
        refine Ev.neg (by omega) ?_
        by_cases hcb : hexV c < base
        · refine Ev.neg (by omega) ?_
          rw [digG, if_pos hcb]
          have hvm : v * base ≤ v * 16 := Nat.mul_le_mul_left _ hb
          rw [w64 (x := (v : Int) * (base : Int)) (by rw [← Int.natCast_mul]; omega) (by rw [← Int.natCast_mul]; omega), w64 (x := (v : Int) * (base : Int) + (hexV c : Int)) (by rw [← Int.natCast_mul]; omega) (by rw [← Int.natCast_mul]; omega), w64 (x := (i : Int) + 1) (by omega) (by omega)]
          match n, hn with
          | 0, hn => omega
          | n + 1, hn =>
            have := digits_loop s base hb hs n (i + 1) (v * base + hexV c) (by omega) (by omega) (pow_step base i v _ hv hcb)
            rw [show ((v * base + hexV c : Nat) : Int) = (v : Int) * (base : Int) + (hexV c : Int) from by push_cast; rfl, show ((i + 1 : Nat) : Int) = (i : Int) + 1 from rfl] at this
            exact this
        · refine Ev.pos (by omega) ?_
          rw [digG, if_neg hcb]; exact Ev.now _
    · refine Ev.neg (by omega) ?_
      rw [List.drop_eq_nil_of_le (by rw [sizeL]; omega)]
      exact Ev.now _
theorem digits_is (s : ByteArray) (base most : Nat) (hb : base ≤ 16) (hm : most ≤ 7) : Ev (fun k => muslinref12_digits.f k s (base : Int) (most : Int)) (optI (digL base most s.data.toList)) := by
  unfold muslinref12_digits.f
  have hbad : (s.size < 1 ∨ most < s.size) → Ev (fun k => muslinref12_digits.j0 k s (base : Int) true) (optI (digL base most s.data.toList)) := fun h => by
    refine Ev.round (fun k => by rw [muslinref12_digits.j0]) ?_
    refine Ev.pos rfl ?_
    unfold digL
    rw [if_pos (by rw [sizeL]; exact h)]; exact Ev.now _
  by_cases h1 : (s.size : Int) < 1
  · refine Ev.pos h1 ?_
    exact hbad (by omega)
  · refine Ev.neg h1 ?_
    by_cases h2 : (s.size : Int) > (most : Int)
    · rw [decide_eq_true h2]
      exact hbad (by omega)
    · rw [decide_eq_false h2]
      refine Ev.round (fun k => by rw [muslinref12_digits.j0]) ?_
      refine Ev.neg Bool.false_ne_true ?_
      unfold digL
      rw [if_neg (by rw [sizeL]; omega)]
      exact digits_loop s base hb (by omega) s.size 0 0 (by omega) (by omega) (by simp)
theorem numbered_is (n : Nat) (hn : n ≤ 16777215) : Ev (fun k => muslinref12_numbered.f k (n : Int)) (⟨(numL n).toArray⟩ : ByteArray) := by
  unfold muslinref12_numbered.f
  by_cases h0 : n = 0
  · subst h0
    refine Ev.pos rfl ?_
    exact Ev.now _
  refine Ev.neg (by omega) ?_
  have hs : ¬ (128 ≤ n ∧ n ≤ 159) → Ev (fun k => muslinref12_numbered.j0 k (n : Int) false) (⟨(numL n).toArray⟩ : ByteArray) := fun h => by
    refine Ev.round (fun k => by rw [muslinref12_numbered.j0]) ?_
    refine Ev.neg Bool.false_ne_true ?_
    refine Ev.got (x := muslinref04_Sign.f (n : Int)) rfl ?_
    unfold numL
    rw [if_neg h0, if_neg h]; exact Ev.now _
  by_cases h1 : (n : Int) ≥ 128
  · refine Ev.pos h1 ?_
    by_cases h2 : (n : Int) ≤ 159
    · rw [decide_eq_true h2]
      refine Ev.round (fun k => by rw [muslinref12_numbered.j0]) ?_
      refine Ev.pos rfl ?_
      have hb : strOfNums [(n : Int) % 256] = ⟨#[UInt8.ofNat n]⟩ := by
        have : [(n : Int) % 256] = intsOf [UInt8.ofNat n] := by
          show _ = [(((UInt8.ofNat n).toNat : Nat) : Int)]
          rw [UInt8.toNat_ofNat']
          congr 1
        rw [this, strOf_ints]
      rw [hb]
      refine Ev.got (x := Go.Proofs.YtkfcbafjcjmfnaaGreatDoor.muslinref04_Decode.f _ _) (guard_of ⟨by decide, by show 1 ≤ 5000; omega⟩) ?_
      unfold numL
      rw [if_neg h0, if_pos (by omega)]
      have e := high_dec ⟨#[UInt8.ofNat n]⟩
      rw [show nLat = (⟨#[119, 105, 110, 100, 111, 119, 115, 45, 49, 50, 53, 50]⟩ : ByteArray) from rfl] at e
      rw [e]; exact Ev.now _
    · rw [decide_eq_false h2]
      exact hs (by omega)
  · refine Ev.neg h1 ?_
    exact hs (by omega)
def optB : Option (List UInt8) → ByteArray
  | some t => ⟨t.toArray⟩
  | none => ⟨#[]⟩
theorem named_got (s : ByteArray) : muslinref12_named.f s = some (optB ((nameL s.data.toList).map Lib.encodeRune)) := by
  unfold muslinref12_named.f
  rw [toList_eq]
  generalize s.data.toList = l
  by_cases h : ∃ p ∈ namesT, p.1 = l
  · obtain ⟨p, hp, rfl⟩ := h
    simp only [namesT, List.mem_cons, List.not_mem_nil, or_false] at hp
    rcases hp with rfl | rfl | rfl | rfl | rfl | rfl | rfl | rfl | rfl | rfl | rfl | rfl | rfl | rfl | rfl | rfl <;> decide +kernel
  · have hn : nameL l = none := by
      unfold nameL
      rw [Option.map_eq_none_iff, List.find?_eq_none]
      intro p hp he
      exact h ⟨p, hp, by simpa using he⟩
    rw [hn]
    have hne : ∀ x, x ∈ namesT.map (·.1) → ¬ l = x := fun x hx e => by
      obtain ⟨p, hp, rfl⟩ := List.mem_map.1 hx
      exact h ⟨p, hp, e.symm⟩
    repeat rw [if_neg (hne _ (by decide))]
    rfl
theorem letter_got (c : UInt8) : muslinref03_Letter.f (c.toNat : Int) = some ((decide (97 ≤ c) && decide (c ≤ 122)) || (decide (65 ≤ c) && decide (c ≤ 90))) := by
  have le : ∀ a b : UInt8, (a ≤ b) = (a.toNat ≤ b.toNat) := fun a b => rfl
  unfold muslinref03_Letter.f
  simp only [le]
  have e1 : (97 : UInt8).toNat = 97 := rfl
  have e2 : (122 : UInt8).toNat = 122 := rfl
  have e3 : (65 : UInt8).toNat = 65 := rfl
  have e4 : (90 : UInt8).toNat = 90 := rfl
  rw [e1, e2, e3, e4]
  by_cases h1 : (c.toNat : Int) ≥ 97
  · rw [if_pos h1]
    by_cases h2 : (c.toNat : Int) ≤ 122
    · rw [if_pos h2, decide_eq_true (show 97 ≤ c.toNat by omega), decide_eq_true (show c.toNat ≤ 122 by omega)]; rfl
    · rw [if_neg h2, if_pos (by omega), decide_eq_false (show ¬ (c.toNat : Int) ≤ 90 by omega), decide_eq_false (show ¬ c.toNat ≤ 122 by omega), decide_eq_false (show ¬ c.toNat ≤ 90 by omega)]; simp
  · rw [if_neg h1, decide_eq_false (show ¬ 97 ≤ c.toNat by omega)]
    by_cases h2 : (c.toNat : Int) ≥ 65
    · rw [if_pos h2, decide_eq_true (show 65 ≤ c.toNat by omega)]
      by_cases h3 : (c.toNat : Int) ≤ 90
      · rw [decide_eq_true h3, decide_eq_true (show c.toNat ≤ 90 by omega)]; rfl
      · rw [decide_eq_false h3, decide_eq_false (show ¬ c.toNat ≤ 90 by omega)]; rfl
    · rw [if_neg h2, decide_eq_false (show ¬ 65 ≤ c.toNat by omega)]; rfl
theorem digit_got (c : UInt8) : muslinref03_Digit.f (c.toNat : Int) = some (decide (48 ≤ c) && decide (c ≤ 57)) := by
  have le : ∀ a b : UInt8, (a ≤ b) = (a.toNat ≤ b.toNat) := fun a b => rfl
  unfold muslinref03_Digit.f
  simp only [le]
  have e1 : (48 : UInt8).toNat = 48 := rfl
  have e2 : (57 : UInt8).toNat = 57 := rfl
  rw [e1, e2]
  by_cases h1 : (c.toNat : Int) ≥ 48
  · rw [if_pos h1, decide_eq_true (show 48 ≤ c.toNat by omega)]
    by_cases h3 : (c.toNat : Int) ≤ 57
    · rw [decide_eq_true h3, decide_eq_true (show c.toNat ≤ 57 by omega)]; rfl
    · rw [decide_eq_false h3, decide_eq_false (show ¬ c.toNat ≤ 57 by omega)]; rfl
  · rw [if_neg h1, decide_eq_false (show ¬ 48 ≤ c.toNat by omega)]; rfl
theorem isA_eq (c : UInt8) : isA c = (((decide (97 ≤ c) && decide (c ≤ 122)) || (decide (65 ≤ c) && decide (c ≤ 90))) || ((decide (48 ≤ c) && decide (c ≤ 57)) || c == 35)) := by
  unfold isA
  rw [Bool.or_assoc]
theorem name_hash (r : List UInt8) : nameL (35 :: r) = none := by
  cases h : nameL (35 :: r) with
  | none => rfl
  | some c =>
    have : ∀ p ∈ namesT, p.1.head? ≠ some 35 := by decide
    exact absurd rfl (this _ (nameL_mem h))
end Go.Proofs.YtkfcbafjcjmfnaaGreatDoor.Pure
namespace Go.Proofs.YtkfcbafjcjmfnaaGreatDoor.Ent
open Go.RowKit Go.Lib Go.Proofs.YtkfcbafjcjmfnaaGreatDoor Go.Proofs.YtkfcbafjcjmfnaaGreatDoor.E Go.Proofs.YtkfcbafjcjmfnaaGreatDoor.Gen Go.Proofs.YtkfcbafjcjmfnaaGreatDoor.Num Go.Proofs.YtkfcbafjcjmfnaaGreatDoor.Pure
set_option linter.unusedVariables false
set_option linter.unusedSimpArgs false
def isL (c : UInt8) : Bool := (decide (97 ≤ c) && decide (c ≤ 122)) || (decide (65 ≤ c) && decide (c ≤ 90))
def isD (c : UInt8) : Bool := decide (48 ≤ c) && decide (c ≤ 57)
theorem isA_LD (c : UInt8) : isA c = ((isL c || isD c) || c == 35) := by
  rw [isA_eq]; unfold isL isD; simp only [Bool.or_assoc]
theorem letter_c (c : UInt8) (w : World) : Calls Tryz.prog 28 #[.int .u8 (c.toNat : Int)] w fun e w' => e = .returned (.bool (isL c)) ∧ ∃ n, w' = w.drewN n :=
  (E.muslinref03_Letter.calls _ _ w (letter_got c)).mono (by rintro e w' ⟨rfl, n, rfl⟩; exact ⟨rfl, n, rfl⟩)
theorem digit_c (c : UInt8) (w : World) : Calls Tryz.prog 29 #[.int .u8 (c.toNat : Int)] w fun e w' => e = .returned (.bool (isD c)) ∧ ∃ n, w' = w.drewN n :=
  (E.muslinref03_Digit.calls _ _ w (digit_got c)).mono (by rintro e w' ⟨rfl, n, rfl⟩; exact ⟨rfl, n, rfl⟩)
theorem digitsR_c (s : ByteArray) (base most : Nat) (bi mi : Int) (h1 : bi = (base : Int)) (h2 : mi = (most : Int)) (hb : base ≤ 16) (hm : most ≤ 7) (w : World) :
    Calls Tryz.prog 30 #[.string s, .int .i64 bi, .int .i64 mi] w fun e w' => e = .returned (.int .i64 (optI (digL base most s.data.toList))) ∧ ∃ n, w' = w.drewN n := by
  subst h1; subst h2
  obtain ⟨k, h⟩ := digits_is s base most hb hm
  exact (E.muslinref12_digits.calls k _ _ _ _ w (h k (Nat.le_refl _))).mono (by rintro e w' ⟨rfl, n, rfl⟩; exact ⟨rfl, n, rfl⟩)
theorem numberedR_c (n : Nat) (hn : n ≤ 16777215) (w : World) : Calls Tryz.prog 31 #[.int .i64 (n : Int)] w fun e w' => e = .returned (.string ⟨(numL n).toArray⟩) ∧ Below w.heap.size w w' := by
  obtain ⟨k, h⟩ := numbered_is n hn
  exact E.muslinref12_numbered.calls k _ _ w (h k (Nat.le_refl _))
theorem namedR_c (s : ByteArray) (w : World) : Calls Tryz.prog 32 #[.string s] w fun e w' => e = .returned (.string (optB ((nameL s.data.toList).map Lib.encodeRune))) ∧ Below w.heap.size w w' :=
  E.muslinref12_named.calls _ _ w (named_got s)
def oneF (l : List UInt8) : List UInt8 × Nat := match l with
  | [] => ([], 0)
  | c :: r => if c = 38 then (match oneL r with | some (t, n) => (t, n + 1) | none => ([], 0)) else ([], 0)
theorem oneF_none (r : List UInt8) (h : oneL r = none) : oneF (38 :: r) = ([], 0) := by simp [oneF, h]
theorem oneF_some (r t : List UInt8) (n : Nat) (h : oneL r = some (t, n)) : oneF (38 :: r) = (t, n + 1) := by simp [oneF, h]
def resV (p : List UInt8 × Nat) : Value := .tuple #[.string ⟨p.1.toArray⟩, .int .i64 (p.2 : Int)]
attribute [local irreducible] resV
set_option maxRecDepth 100000 in
set_option maxHeartbeats 4000000 in
theorem one_no_c (s : ByteArray) (hs : ∀ r, s.data.toList ≠ 38 :: r) (w : World) :
    Calls Tryz.prog 18 #[.string s] w fun e w' => e = .returned (.tuple #[.string ⟨#[]⟩, .int .i64 0]) ∧ Below w.heap.size w w' := by
  cases hd : s.data.toList with
  | nil =>
    have he : s.toList.isEmpty = true := by rw [toList_eq, hd]; rfl
    clear hs hd
    go_enter Tryz.func18, Tryz.ntmps18
    go_wp2
    go_ret2
    exact ⟨rfl, Below.refl _ _⟩
  | cons c r =>
    have hz : 1 ≤ s.size := by rw [← sizeL, hd]; simp
    have he := filled s hz
    have hc0 : s[0]'hz = c := by
      have : s.data.toList[0]'(by rw [hd]; simp) = c := by simp [hd]
      exact this
    have hne : ((c.toNat : Int) != 38) = true := by
      rw [bne_iff_ne]
      exact fun e => hs r (by rw [hd]; congr 1; exact UInt8.toNat_inj.1 (by show c.toNat = 38; omega))
    clear hs hd
    go_enter Tryz.func18, Tryz.ntmps18
    go_wp2
    go_ret2
    exact ⟨rfl, Below.refl _ _⟩
set_option maxRecDepth 100000 in
set_option maxHeartbeats 8000000 in
theorem one_yes_c (s : ByteArray) (hs : s.size ≤ 1000000) (r : List UInt8) (hr : s.data.toList = 38 :: r) (w : World) :
    Calls Tryz.prog 18 #[.string s] w fun e w' => e = .returned (resV (oneF (38 :: r))) ∧ Below w.heap.size w w' := by
  have hl : r.length + 1 = s.size := by rw [← sizeL, hr]; simp
  have hz : 1 ≤ s.size := by omega
  have he := filled s hz
  have hc0 : s[0]'hz = 38 := by
    have : s.data.toList[0]'(by rw [hr]; simp) = 38 := by simp [hr]
    exact this
  have hone := one_ref r
  have htw : (r.takeWhile isA).length ≤ r.length := (List.takeWhile_sublist _).length_le
  have hsp : r.take (r.takeWhile isA).length = r.takeWhile isA := by
    have h3 : ∀ a b : List UInt8, a ++ b = r → r.take a.length = a := fun a b e => by rw [← e]; exact List.take_left' rfl
    exact h3 _ _ (List.takeWhile_append_dropWhile (p := isA) (l := r))
  have HONE := Lib.hid hone; have HSP := Lib.hid hsp; have HR := Lib.hid hr
  have HD1 := Lib.hid (show s.data.toList.drop 1 = r from by rw [hr]; rfl)
  have HLn : Hid (s.data.toList.length = s.size) := Lib.hid (by simp)
  clear hone hsp hr
  go_enter Tryz.func18, Tryz.ntmps18
  go_wp2
  go_loopw [4] (fun v wr => ∃ i : Nat, v = .int .i64 (i : Int) ∧ 1 ≤ i ∧ i ≤ s.size ∧ i + ((s.data.toList.drop i).takeWhile isA).length = 1 + (r.takeWhile isA).length ∧ Below w.heap.size w wr) (fun v _ => s.size - (intOf v).toNat)
  case atStart => exact ⟨1, rfl, Nat.le_refl _, hz, by rw [HD1.out], Below.refl _ _⟩
  case round =>
    obtain ⟨i, rfl, hi1, hi2, heq, hB⟩ := hrel
    have HB := Lib.hid hB; clear hB
    have hi2i : (i : Int) ≤ (s.size : Int) := by omega
    by_cases hlt : i < s.size
    · have hl2 : i < s.data.toList.length := by rw [HLn.out]; exact hlt
      have hlti : (i : Int) < (s.size : Int) := by omega
      have hdd := List.drop_eq_getElem_cons hl2
      obtain ⟨c, hc1, hc2⟩ : ∃ c, s[i]'hlt = c ∧ s.data.toList[i]'hl2 = c := ⟨_, rfl, rfl⟩
      rw [hdd, hc2] at heq
      have LC := Lib.hid (fun W => letter_c c W)
      have DC := Lib.hid (fun W => digit_c c W)
      have hA := isA_LD c
      by_cases hyes : isA c = true
      · rw [List.takeWhile_cons, if_pos hyes, List.length_cons] at heq
        have HEQ := Lib.hid (show i + 1 + ((s.data.toList.drop (i + 1)).takeWhile isA).length = 1 + (r.takeWhile isA).length by omega)
        rw [hA] at hyes
        clear heq hdd hc2 hl2 hA htw
        cases h1 : isL c with
        | true =>
          rw [h1] at LC
          clear hyes
          go_wp2_with (first
            | (go_at_call 28; refine (LC.out _).mono ?_; rintro e w2 ⟨rfl, n, rfl⟩))
          go_roundw
          case rel => exact ⟨i + 1, by go_num, by omega, by omega, HEQ.out, bdrewN HB.out n⟩
          case measure => simp [intOf]; omega
        | false =>
          rw [h1] at LC
          cases h2 : isD c with
          | true =>
            rw [h2] at DC
            clear hyes
            go_wp2_with (first
              | (go_at_call 28; refine (LC.out _).mono ?_; rintro e w2 ⟨rfl, n, rfl⟩)
              | (go_at_call 29; refine (DC.out _).mono ?_; rintro e w3 ⟨rfl, m, rfl⟩))
            go_roundw
            case rel => exact ⟨i + 1, by go_num, by omega, by omega, HEQ.out, by first | exact bdrewN HB.out _ | exact bdrewN (bdrewN HB.out n) m⟩
            case measure => simp [intOf]; omega
          | false =>
            rw [h2] at DC
            rw [h1, h2] at hyes
            obtain rfl : c = 35 := by simpa using hyes
            clear hyes
            go_wp2_with (first
              | (go_at_call 28; refine (LC.out _).mono ?_; rintro e w2 ⟨rfl, n, rfl⟩)
              | (go_at_call 29; refine (DC.out _).mono ?_; rintro e w3 ⟨rfl, m, rfl⟩))
            go_roundw
            case rel => exact ⟨i + 1, by go_num, by omega, by omega, HEQ.out, by first | exact bdrewN HB.out _ | exact bdrewN (bdrewN HB.out n) m⟩
            case measure => simp [intOf]; omega
      · have hno : isA c = false := by simpa using hyes
        rw [List.takeWhile_cons, if_neg hyes, List.length_nil] at heq
        have hie : i = 1 + (r.takeWhile isA).length := by omega
        have hri : (r.drop (r.takeWhile isA).length).head? = some c := by
          have h0 : s.data.toList[i]? = some c := by rw [List.getElem?_eq_getElem hl2, hc2]
          rw [HR.out, hie, Nat.add_comm, List.getElem?_cons_succ] at h0
          rw [List.head?_drop, h0]
        have hLn : isL c = false ∧ isD c = false ∧ (c == 35) = false := by
          rw [hA] at hno
          simp only [Bool.or_eq_false_iff] at hno
          exact ⟨hno.1.1, hno.1.2, hno.2⟩
        obtain ⟨h1, h2, h3⟩ := hLn
        rw [h1] at LC
        rw [h2] at DC
        have h4 : ((c.toNat : Int) == 35) = false := by
          rw [beq_eq_false_iff_ne]
          exact fun e => (beq_eq_false_iff_ne.1 h3) (UInt8.toNat_inj.1 (by show c.toNat = 35; omega))
        have hone := HONE.out
        rw [hri] at hone
        have hne : ¬ (i : Int) = (s.size : Int) := by omega
        by_cases h59 : c = 59
        · rw [if_pos (by rw [h59])] at hone
          have h5 : ((c.toNat : Int) != 59) = false := by rw [h59]; rfl
          clear h59
          obtain ⟨T, hT⟩ : ∃ T, s.extract 1 i = T := ⟨_, rfl⟩
          obtain ⟨nm, hnm0⟩ : ∃ nm, r.takeWhile isA = nm := ⟨_, rfl⟩
          have hTd : T.data.toList = nm := by
            rw [← hT, extract_list, HR.out, hie, Nat.add_comm, List.take_succ_cons]
            show r.take _ = _
            rw [HSP.out, hnm0]
          rw [hnm0] at hone hie htw hri
          have hTl : T.data.toList.length = T.size := by simp
          have hTi : i = 1 + T.size := by rw [← hTl, hTd]; exact hie
          have hTs : T.size ≤ 1000000 := by omega
          have hi1i : (1 : Int) ≤ (i : Int) := by omega
          by_cases c1 : 1 < T.size
          · obtain ⟨a, b, q, hnmd⟩ : ∃ a b q, nm = a :: b :: q := by
              rw [← hTl, hTd] at c1
              match nm, c1 with
              | a :: b :: q, _ => exact ⟨a, b, q, rfl⟩
            have hT0 : (0 : Nat) < T.size := by omega
            have b0 : T[0]'hT0 = a := by
              have : T.data.toList[0]'(by rw [hTd, hnmd]; simp) = a := by simp [hTd, hnmd]
              exact this
            have b1 : T[1]'c1 = b := by
              have : T.data.toList[1]'(by rw [hTd, hnmd]; simp) = b := by simp [hTd, hnmd]
              exact this
            have c1i : (1 : Int) < (T.size : Int) := by omega
            by_cases ha : a = 35
            · subst ha
              by_cases hb1 : b = 120
              · subst hb1
                have hsg : signL nm = (digL 16 6 (q)).map numL := by rw [hnmd]; rfl
                have hle : ∀ v, digL 16 6 (q) = some v → v ≤ 16777215 := fun v hv => numbL_le (120 :: q) v (by rw [← hv]; rfl)
                have hX : (T.extract 2 T.size).data.toList = q := by
                  rw [extract_list, List.take_of_length_le (by rw [hTl]; exact Nat.le_refl _), hTd, hnmd]; rfl
                have hXi : (2 : Int) ≤ (T.size : Int) := by omega
                have DG0 := fun W => digitsR_c (T.extract 2 T.size) 16 6 16 6 rfl rfl (by decide) (by decide) W
                rw [hX] at DG0
                clear hX
                generalize digL 16 6 (q) = o at *
                cases ho : o with
                | some v =>
                  rw [ho] at DG0 hsg
                  have hv := hle v ho
                  have DG := Lib.hid DG0
                  obtain ⟨S, hS⟩ : ∃ S : ByteArray, (⟨(numL v).toArray⟩ : ByteArray) = S := ⟨_, rfl⟩
                  have NB := Lib.hid (show ∀ W, Calls Tryz.prog 31 #[.int .i64 (v : Int)] W fun e w' => e = .returned (.string S) ∧ Below W.heap.size W w' from fun W => by have := numberedR_c v hv W; rw [hS] at this; exact this)
                  have HRES := Lib.hid (show oneF (38 :: r) = (S.data.toList, i + 1) from by
                    rw [hsg] at hone
                    rw [oneF_some r _ _ hone.symm, ← hS, hie, Nat.add_comm 1] <;> rfl)
                  clear hsg hS DG0 ho hv hle hone hri hie hyes hno hA heq hdd hc2 h3 hl2 htw hTd hTl hTi hnmd
                  go_wp2_with (first
                    | (go_at_call 28; refine (LC.out _).mono ?_; rintro e w2 ⟨rfl, n, rfl⟩)
                    | (go_at_call 29; refine (DC.out _).mono ?_; rintro e w3 ⟨rfl, m, rfl⟩)
                    | (go_at_call 30; refine (DG.out _).mono ?_; rintro e w4 ⟨rfl, n4, rfl⟩)
                    | (go_at_call 31; refine (NB.out _).mono ?_; rintro e w5 ⟨rfl, b5⟩; have B5 := Lib.hid b5; clear b5)
                  )
                  go_ret2
                  refine ⟨?_, (bdrewN HB.out _).trans (B5.out.mono (bdrewN HB.out _).size)⟩
                  rw [HRES.out]
                  unfold resV
                  rw [show (⟨(S.data.toList, i + 1).1.toArray⟩ : ByteArray) = S from mk_back S]
                  rfl
                | none =>
                  rw [ho] at DG0 hsg
                  have DG := Lib.hid DG0
                  have ND0 := fun W => namedR_c T W
                  rw [hTd, hnmd, name_hash] at ND0
                  have ND := Lib.hid (show ∀ W, Calls Tryz.prog 32 #[.string T] W fun e w' => e = .returned (.string ⟨#[]⟩) ∧ Below W.heap.size W w' from fun W => ND0 W)
                  have HRES := Lib.hid (show oneF (38 :: r) = ([], 0) from by
                    rw [hsg] at hone
                    exact oneF_none r hone.symm)
                  clear hsg DG0 ho hle ND0 hone hri hie hyes hno hA heq hdd hc2 h3 hl2 htw hTd hTl hTi hnmd
                  go_wp2_with (first
                    | (go_at_call 28; refine (LC.out _).mono ?_; rintro e w2 ⟨rfl, n, rfl⟩)
                    | (go_at_call 29; refine (DC.out _).mono ?_; rintro e w3 ⟨rfl, m, rfl⟩)
                    | (go_at_call 30; refine (DG.out _).mono ?_; rintro e w4 ⟨rfl, n4, rfl⟩)
                    | (go_at_call 32; refine (ND.out _).mono ?_; rintro e w5 ⟨rfl, b5⟩; have B5 := Lib.hid b5; clear b5)
                  )
                  go_ret2
                  refine ⟨?_, (bdrewN HB.out _).trans (B5.out.mono (bdrewN HB.out _).size)⟩
                  rw [HRES.out]
                  unfold resV
                  rfl
              · by_cases hb2 : b = 88
                · subst hb2
                  have hsg : signL nm = (digL 16 6 (q)).map numL := by rw [hnmd]; rfl
                  have hle : ∀ v, digL 16 6 (q) = some v → v ≤ 16777215 := fun v hv => numbL_le (88 :: q) v (by rw [← hv]; rfl)
                  have hX : (T.extract 2 T.size).data.toList = q := by
                    rw [extract_list, List.take_of_length_le (by rw [hTl]; exact Nat.le_refl _), hTd, hnmd]; rfl
                  have hXi : (2 : Int) ≤ (T.size : Int) := by omega
                  have DG0 := fun W => digitsR_c (T.extract 2 T.size) 16 6 16 6 rfl rfl (by decide) (by decide) W
                  rw [hX] at DG0
                  clear hX
                  generalize digL 16 6 (q) = o at *
                  cases ho : o with
                  | some v =>
                    rw [ho] at DG0 hsg
                    have hv := hle v ho
                    have DG := Lib.hid DG0
                    obtain ⟨S, hS⟩ : ∃ S : ByteArray, (⟨(numL v).toArray⟩ : ByteArray) = S := ⟨_, rfl⟩
                    have NB := Lib.hid (show ∀ W, Calls Tryz.prog 31 #[.int .i64 (v : Int)] W fun e w' => e = .returned (.string S) ∧ Below W.heap.size W w' from fun W => by have := numberedR_c v hv W; rw [hS] at this; exact this)
                    have HRES := Lib.hid (show oneF (38 :: r) = (S.data.toList, i + 1) from by
                      rw [hsg] at hone
                      rw [oneF_some r _ _ hone.symm, ← hS, hie, Nat.add_comm 1] <;> rfl)
                    clear hsg hS DG0 ho hv hle hone hri hie hyes hno hA heq hdd hc2 h3 hl2 htw hTd hTl hTi hnmd
                    go_wp2_with (first
                      | (go_at_call 28; refine (LC.out _).mono ?_; rintro e w2 ⟨rfl, n, rfl⟩)
                      | (go_at_call 29; refine (DC.out _).mono ?_; rintro e w3 ⟨rfl, m, rfl⟩)
                      | (go_at_call 30; refine (DG.out _).mono ?_; rintro e w4 ⟨rfl, n4, rfl⟩)
                      | (go_at_call 31; refine (NB.out _).mono ?_; rintro e w5 ⟨rfl, b5⟩; have B5 := Lib.hid b5; clear b5)
                    )
                    go_ret2
                    refine ⟨?_, (bdrewN HB.out _).trans (B5.out.mono (bdrewN HB.out _).size)⟩
                    rw [HRES.out]
                    unfold resV
                    rw [show (⟨(S.data.toList, i + 1).1.toArray⟩ : ByteArray) = S from mk_back S]
                    rfl
                  | none =>
                    rw [ho] at DG0 hsg
                    have DG := Lib.hid DG0
                    have ND0 := fun W => namedR_c T W
                    rw [hTd, hnmd, name_hash] at ND0
                    have ND := Lib.hid (show ∀ W, Calls Tryz.prog 32 #[.string T] W fun e w' => e = .returned (.string ⟨#[]⟩) ∧ Below W.heap.size W w' from fun W => ND0 W)
                    have HRES := Lib.hid (show oneF (38 :: r) = ([], 0) from by
                      rw [hsg] at hone
                      exact oneF_none r hone.symm)
                    clear hsg DG0 ho hle ND0 hone hri hie hyes hno hA heq hdd hc2 h3 hl2 htw hTd hTl hTi hnmd
                    go_wp2_with (first
                      | (go_at_call 28; refine (LC.out _).mono ?_; rintro e w2 ⟨rfl, n, rfl⟩)
                      | (go_at_call 29; refine (DC.out _).mono ?_; rintro e w3 ⟨rfl, m, rfl⟩)
                      | (go_at_call 30; refine (DG.out _).mono ?_; rintro e w4 ⟨rfl, n4, rfl⟩)
                      | (go_at_call 32; refine (ND.out _).mono ?_; rintro e w5 ⟨rfl, b5⟩; have B5 := Lib.hid b5; clear b5)
                    )
                    go_ret2
                    refine ⟨?_, (bdrewN HB.out _).trans (B5.out.mono (bdrewN HB.out _).size)⟩
                    rw [HRES.out]
                    unfold resV
                    rfl
                · have hx1 : ((b.toNat : Int) == 120) = false := by
                    rw [beq_eq_false_iff_ne]; exact fun e => hb1 (UInt8.toNat_inj.1 (by show b.toNat = 120; omega))
                  have hx2 : ((b.toNat : Int) == 88) = false := by
                    rw [beq_eq_false_iff_ne]; exact fun e => hb2 (UInt8.toNat_inj.1 (by show b.toNat = 88; omega))
                  have hnb : numbL (b :: q) = digL 10 7 (b :: q) := by rw [show numbL (b :: q) = if b = 120 ∨ b = 88 then digL 16 6 q else digL 10 7 (b :: q) from rfl, if_neg (by simp [hb1, hb2])]
                  have hsg : signL nm = (digL 10 7 (b :: q)).map numL := by rw [hnmd]; rw [← hnb]; rfl
                  have hle : ∀ v, digL 10 7 (b :: q) = some v → v ≤ 16777215 := fun v hv => numbL_le (b :: q) v (by rw [← hv]; exact hnb)
                  have hX : (T.extract 1 T.size).data.toList = b :: q := by
                    rw [extract_list, List.take_of_length_le (by rw [hTl]; exact Nat.le_refl _), hTd, hnmd]; rfl
                  have hXi : (1 : Int) ≤ (T.size : Int) := by omega
                  have DG0 := fun W => digitsR_c (T.extract 1 T.size) 10 7 10 7 rfl rfl (by decide) (by decide) W
                  rw [hX] at DG0
                  clear hX
                  generalize digL 10 7 (b :: q) = o at *
                  cases ho : o with
                  | some v =>
                    rw [ho] at DG0 hsg
                    have hv := hle v ho
                    have DG := Lib.hid DG0
                    obtain ⟨S, hS⟩ : ∃ S : ByteArray, (⟨(numL v).toArray⟩ : ByteArray) = S := ⟨_, rfl⟩
                    have NB := Lib.hid (show ∀ W, Calls Tryz.prog 31 #[.int .i64 (v : Int)] W fun e w' => e = .returned (.string S) ∧ Below W.heap.size W w' from fun W => by have := numberedR_c v hv W; rw [hS] at this; exact this)
                    have HRES := Lib.hid (show oneF (38 :: r) = (S.data.toList, i + 1) from by
                      rw [hsg] at hone
                      rw [oneF_some r _ _ hone.symm, ← hS, hie, Nat.add_comm 1] <;> rfl)
                    clear hsg hS DG0 ho hv hle hone hri hie hyes hno hA heq hdd hc2 h3 hl2 htw hTd hTl hTi hnmd
                    go_wp2_with (first
                      | (go_at_call 28; refine (LC.out _).mono ?_; rintro e w2 ⟨rfl, n, rfl⟩)
                      | (go_at_call 29; refine (DC.out _).mono ?_; rintro e w3 ⟨rfl, m, rfl⟩)
                      | (go_at_call 30; refine (DG.out _).mono ?_; rintro e w4 ⟨rfl, n4, rfl⟩)
                      | (go_at_call 31; refine (NB.out _).mono ?_; rintro e w5 ⟨rfl, b5⟩; have B5 := Lib.hid b5; clear b5)
                    )
                    go_ret2
                    refine ⟨?_, (bdrewN HB.out _).trans (B5.out.mono (bdrewN HB.out _).size)⟩
                    rw [HRES.out]
                    unfold resV
                    rw [show (⟨(S.data.toList, i + 1).1.toArray⟩ : ByteArray) = S from mk_back S]
                    rfl
                  | none =>
                    rw [ho] at DG0 hsg
                    have DG := Lib.hid DG0
                    have ND0 := fun W => namedR_c T W
                    rw [hTd, hnmd, name_hash] at ND0
                    have ND := Lib.hid (show ∀ W, Calls Tryz.prog 32 #[.string T] W fun e w' => e = .returned (.string ⟨#[]⟩) ∧ Below W.heap.size W w' from fun W => ND0 W)
                    have HRES := Lib.hid (show oneF (38 :: r) = ([], 0) from by
                      rw [hsg] at hone
                      exact oneF_none r hone.symm)
                    clear hsg DG0 ho hle ND0 hone hri hie hyes hno hA heq hdd hc2 h3 hl2 htw hTd hTl hTi hnmd
                    go_wp2_with (first
                      | (go_at_call 28; refine (LC.out _).mono ?_; rintro e w2 ⟨rfl, n, rfl⟩)
                      | (go_at_call 29; refine (DC.out _).mono ?_; rintro e w3 ⟨rfl, m, rfl⟩)
                      | (go_at_call 30; refine (DG.out _).mono ?_; rintro e w4 ⟨rfl, n4, rfl⟩)
                      | (go_at_call 32; refine (ND.out _).mono ?_; rintro e w5 ⟨rfl, b5⟩; have B5 := Lib.hid b5; clear b5)
                    )
                    go_ret2
                    refine ⟨?_, (bdrewN HB.out _).trans (B5.out.mono (bdrewN HB.out _).size)⟩
                    rw [HRES.out]
                    unfold resV
                    rfl
            · have ha1 : ((a.toNat : Int) == 35) = false := by
                rw [beq_eq_false_iff_ne]; exact fun e => ha (UInt8.toNat_inj.1 (by show a.toNat = 35; omega))
              have hsg : signL nm = (nameL nm).map Lib.encodeRune := by
                rw [hnmd, show signL (a :: b :: q) = if a = 35 then (numbL (b :: q)).map numL else (nameL (a :: b :: q)).map Lib.encodeRune from rfl, if_neg ha]
              have ND0 := fun W => namedR_c T W
              rw [hTd] at ND0
              cases hnm : nameL nm with
              | some cc =>
                rw [hnm] at ND0
                obtain ⟨S, hS⟩ : ∃ S : ByteArray, (⟨(Lib.encodeRune cc).toArray⟩ : ByteArray) = S := ⟨_, rfl⟩
                have hSe : S.toList.isEmpty = false := filled S (by rw [← hS, mk_size]; exact (enc_len cc).1)
                have ND := Lib.hid (show ∀ W, Calls Tryz.prog 32 #[.string T] W fun e w' => e = .returned (.string S) ∧ Below W.heap.size W w' from fun W => by have := ND0 W; rw [show optB ((some cc).map Lib.encodeRune) = S from hS] at this; exact this)
                have HRES := Lib.hid (show oneF (38 :: r) = (S.data.toList, i + 1) from by
                  rw [hsg, hnm] at hone
                  rw [oneF_some r _ _ hone.symm, ← hS, hie, Nat.add_comm 1] <;> rfl)
                clear hsg hnm hS ND0 hone hri hie hyes hno hA heq hdd hc2 h3 hl2 htw hTd hTl hTi hnmd
                go_wp2_with (first
                  | (go_at_call 28; refine (LC.out _).mono ?_; rintro e w2 ⟨rfl, n, rfl⟩)
                  | (go_at_call 29; refine (DC.out _).mono ?_; rintro e w3 ⟨rfl, m, rfl⟩)
                  | (go_at_call 32; refine (ND.out _).mono ?_; rintro e w5 ⟨rfl, b5⟩; have B5 := Lib.hid b5; clear b5)
                )
                go_ret2
                refine ⟨?_, (bdrewN HB.out _).trans (B5.out.mono (bdrewN HB.out _).size)⟩
                rw [HRES.out]
                unfold resV
                rw [show (⟨(S.data.toList, i + 1).1.toArray⟩ : ByteArray) = S from mk_back S]
                rfl
              | none =>
                rw [hnm] at ND0
                have ND := Lib.hid (show ∀ W, Calls Tryz.prog 32 #[.string T] W fun e w' => e = .returned (.string ⟨#[]⟩) ∧ Below W.heap.size W w' from fun W => ND0 W)
                have HRES := Lib.hid (show oneF (38 :: r) = ([], 0) from by
                  rw [hsg, hnm] at hone
                  exact oneF_none r hone.symm)
                clear hsg hnm ND0 hone hri hie hyes hno hA heq hdd hc2 h3 hl2 htw hTd hTl hTi hnmd
                go_wp2_with (first
                  | (go_at_call 28; refine (LC.out _).mono ?_; rintro e w2 ⟨rfl, n, rfl⟩)
                  | (go_at_call 29; refine (DC.out _).mono ?_; rintro e w3 ⟨rfl, m, rfl⟩)
                  | (go_at_call 32; refine (ND.out _).mono ?_; rintro e w5 ⟨rfl, b5⟩; have B5 := Lib.hid b5; clear b5)
                )
                go_ret2
                refine ⟨?_, (bdrewN HB.out _).trans (B5.out.mono (bdrewN HB.out _).size)⟩
                rw [HRES.out]
                unfold resV
                rfl
          · have c1i : ¬ (1 : Int) < (T.size : Int) := by omega
            have hsg : signL nm = (nameL nm).map Lib.encodeRune := by
              match hq : nm with
              | [] => rfl
              | [c] =>
                by_cases hc : c = 35
                · subst hc; rfl
                · rw [show signL [c] = if c = 35 then (numbL []).map numL else (nameL [c]).map Lib.encodeRune from rfl, if_neg hc]
              | a :: b :: q => rw [← hTl, hTd] at c1; simp at c1
            have hnmd := trivial
            have ND0 := fun W => namedR_c T W
            rw [hTd] at ND0
            cases hnm : nameL nm with
            | some cc =>
              rw [hnm] at ND0
              obtain ⟨S, hS⟩ : ∃ S : ByteArray, (⟨(Lib.encodeRune cc).toArray⟩ : ByteArray) = S := ⟨_, rfl⟩
              have hSe : S.toList.isEmpty = false := filled S (by rw [← hS, mk_size]; exact (enc_len cc).1)
              have ND := Lib.hid (show ∀ W, Calls Tryz.prog 32 #[.string T] W fun e w' => e = .returned (.string S) ∧ Below W.heap.size W w' from fun W => by have := ND0 W; rw [show optB ((some cc).map Lib.encodeRune) = S from hS] at this; exact this)
              have HRES := Lib.hid (show oneF (38 :: r) = (S.data.toList, i + 1) from by
                rw [hsg, hnm] at hone
                rw [oneF_some r _ _ hone.symm, ← hS, hie, Nat.add_comm 1] <;> rfl)
              clear hsg hnm hS ND0 hone hri hie hyes hno hA heq hdd hc2 h3 hl2 htw hTd hTl hTi hnmd
              go_wp2_with (first
                | (go_at_call 28; refine (LC.out _).mono ?_; rintro e w2 ⟨rfl, n, rfl⟩)
                | (go_at_call 29; refine (DC.out _).mono ?_; rintro e w3 ⟨rfl, m, rfl⟩)
                | (go_at_call 32; refine (ND.out _).mono ?_; rintro e w5 ⟨rfl, b5⟩; have B5 := Lib.hid b5; clear b5)
              )
              go_ret2
              refine ⟨?_, (bdrewN HB.out _).trans (B5.out.mono (bdrewN HB.out _).size)⟩
              rw [HRES.out]
              unfold resV
              rw [show (⟨(S.data.toList, i + 1).1.toArray⟩ : ByteArray) = S from mk_back S]
              rfl
            | none =>
              rw [hnm] at ND0
              have ND := Lib.hid (show ∀ W, Calls Tryz.prog 32 #[.string T] W fun e w' => e = .returned (.string ⟨#[]⟩) ∧ Below W.heap.size W w' from fun W => ND0 W)
              have HRES := Lib.hid (show oneF (38 :: r) = ([], 0) from by
                rw [hsg, hnm] at hone
                exact oneF_none r hone.symm)
              clear hsg hnm ND0 hone hri hie hyes hno hA heq hdd hc2 h3 hl2 htw hTd hTl hTi hnmd
              go_wp2_with (first
                | (go_at_call 28; refine (LC.out _).mono ?_; rintro e w2 ⟨rfl, n, rfl⟩)
                | (go_at_call 29; refine (DC.out _).mono ?_; rintro e w3 ⟨rfl, m, rfl⟩)
                | (go_at_call 32; refine (ND.out _).mono ?_; rintro e w5 ⟨rfl, b5⟩; have B5 := Lib.hid b5; clear b5)
              )
              go_ret2
              refine ⟨?_, (bdrewN HB.out _).trans (B5.out.mono (bdrewN HB.out _).size)⟩
              rw [HRES.out]
              unfold resV
              rfl
        · rw [if_neg (fun h => h59 (by injection h))] at hone
          have hres : oneF (38 :: r) = ([], 0) := oneF_none r hone.symm
          have h5 : ((c.toNat : Int) != 59) = true := by
            rw [bne_iff_ne]
            exact fun e => h59 (UInt8.toNat_inj.1 (by show c.toNat = 59; omega))
          have HRES := Lib.hid hres
          clear hone hres h59 hri hie hA hno hyes heq hdd hc2 h3 hl2 htw
          go_wp2_with (first
            | (go_at_call 28; refine (LC.out _).mono ?_; rintro e w2 ⟨rfl, n, rfl⟩)
            | (go_at_call 29; refine (DC.out _).mono ?_; rintro e w3 ⟨rfl, m, rfl⟩))
          go_ret2
          refine ⟨?_, by first | exact bdrewN HB.out _ | exact bdrewN (bdrewN HB.out n) m⟩
          rw [HRES.out]
          unfold resV
          rfl
    · obtain rfl : i = s.size := by omega
      have hnil : s.data.toList.drop s.size = [] := List.drop_eq_nil_of_le (by rw [HLn.out]; exact Nat.le_refl _)
      rw [hnil, List.takeWhile_nil, List.length_nil] at heq
      have hres : oneF (38 :: r) = ([], 0) := by
        have hone := HONE.out
        rw [if_neg (by rw [List.drop_eq_nil_of_le (by omega)]; simp)] at hone
        exact oneF_none r hone.symm
      have HRES := Lib.hid hres
      clear hres heq hnil htw
      go_wp2
      go_ret2
      refine ⟨?_, HB.out⟩
      rw [HRES.out]
      unfold resV
      rfl
end Go.Proofs.YtkfcbafjcjmfnaaGreatDoor.Ent
namespace Go.Proofs.YtkfcbafjcjmfnaaGreatDoor
open Go.RowKit Go.Lib Go.Proofs.YtkfcbafjcjmfnaaGreatDoor.Pure Go.Proofs.YtkfcbafjcjmfnaaGreatDoor.Ent
set_option linter.unusedVariables false
def muslinref12_One.f (s : ByteArray) : Option (ByteArray × Int) := if s.size ≤ 1000000 then some (⟨(oneF s.data.toList).1.toArray⟩, ((oneF s.data.toList).2 : Int)) else none
theorem muslinref12_One.calls (s r1 : ByteArray) (r2 : Int) (w : World) (h : muslinref12_One.f s = some (r1, r2)) :
    Calls Tryz.prog 18 #[.string s] w fun e w' => e = .returned (.tuple #[.string r1, .int .i64 r2]) ∧ Below w.heap.size w w' := by
  obtain ⟨h1, h2⟩ := of_guard h
  injection h2 with h3 h4
  subst h3; subst h4
  by_cases hy : ∃ r, s.data.toList = 38 :: r
  · obtain ⟨r, hr⟩ := hy
    have := one_yes_c s h1 r hr w
    rw [hr]
    exact this
  · have e : oneF s.data.toList = ([], 0) := by
      cases hd : s.data.toList with
      | nil => rfl
      | cons c r =>
        unfold oneF
        exact if_neg (fun e => hy ⟨r, by rw [hd, e]⟩)
    rw [e]
    exact one_no_c s (fun r h => hy ⟨r, h⟩) w
end Go.Proofs.YtkfcbafjcjmfnaaGreatDoor
namespace Go.Proofs.YtkfcbafjcjmfnaaGreatDoor.P
open Go.RowKit Go.Proofs.YtkfcbafjcjmfnaaGreatDoorW.PrintWords Go.Proofs.YtkfcbafjcjmfnaaGreatDoorW.PrintLast Go.Proofs.YtkfcbafjcjmfnaaGreatDoorW.PrintMore
attribute [local go_sem] max2_int min2_int max_two min_two max_three min_three max_four min_four
set_option linter.unusedVariables false
set_option linter.unusedSimpArgs false
def errW : Option Int → Value
  | none => .nilIface
  | some c => .iface 0 (.int .i64 c)
theorem errW_none : errW none = .nilIface := rfl
theorem errW_some (c : Int) : errW (some c) = .iface 0 (.int .i64 c) := rfl
theorem info5 : (Tryz.prog.info? 5).map (fun i => (i.zero, i.size, i.bytes)) = some (some (.int .u8 0), 1, 1) := by kernel_rfl
end Go.Proofs.YtkfcbafjcjmfnaaGreatDoor.P
namespace Go.Proofs.YtkfcbafjcjmfnaaGreatDoor.P
open Go.RowKit Go.Proofs.YtkfcbafjcjmfnaaGreatDoorW.PrintWords Go.Proofs.YtkfcbafjcjmfnaaGreatDoorW.PrintLast Go.Proofs.YtkfcbafjcjmfnaaGreatDoorW.PrintMore
attribute [local go_sem] max2_int min2_int max_two min_two max_three min_three max_four min_four
set_option linter.unusedVariables false
set_option linter.unusedSimpArgs false
def muslinlaw12_short.f (a0 : ByteArray) : Option (Bool) := some (decide ((a0.size : Int) ≤ 5000))
set_option maxHeartbeats 8000000 in
set_option maxRecDepth 100000 in
theorem muslinlaw12_short.calls (a0 : ByteArray) (r : Bool) (w : World) (h : muslinlaw12_short.f a0 = some r) :
    Calls Tryz.prog 10 #[.string a0] w fun e w' => e = .returned (.bool r) ∧ Drawn0 w w' := by
  have H : (some (decide ((a0.size : Int) ≤ 5000))) = some r := h; clear h; obtain rfl := Option.some.inj H
  go_enter Tryz.func10, Tryz.ntmps10
  go_wp2
  go_ret
  exact ⟨by first | rfl | (simp; done) | (simp [*]; done), by repeat (first | exact Drawn0.refl _ | apply Drawn0.step)⟩
def muslinlaw12_live.f  : Option (Bool) := (ent_Decode.f (⟨#[38, 108, 116, 59, 38, 35, 54, 53, 59, 38, 35, 120, 52, 50, 59, 38, 120, 59, 38, 97, 109, 112, 38, 110, 98, 115, 112, 59, 38, 35, 49, 50, 56, 59, 38, 35, 48, 59]⟩ : ByteArray)).bind fun t101 => (if t101.toList = ([60, 65, 66, 38, 120, 59, 38, 97, 109, 112, 194, 160, 226, 130, 172, 239, 191, 189] : List UInt8) then ((ent_Text.f (⟨#[97, 60, 98, 38, 34, 194, 160]⟩ : ByteArray)).bind fun t102 => (if t102.toList = ([97, 38, 108, 116, 59, 98, 38, 97, 109, 112, 59, 34, 38, 110, 98, 115, 112, 59] : List UInt8) then ((ent_Value.f (⟨#[34, 62]⟩ : ByteArray)).bind fun t103 => (some (t103.toList == ([38, 113, 117, 111, 116, 59, 38, 103, 116, 59] : List UInt8)))) else (some false))) else (some false))
set_option maxHeartbeats 8000000 in
set_option maxRecDepth 100000 in
theorem muslinlaw12_live.calls  (r : Bool) (w : World) (hGl : Ent.GlobE w) (h : muslinlaw12_live.f  = some r) :
    Calls Tryz.prog 11 #[] w fun e w' => e = .returned (.bool r) ∧ Below w.heap.size w w' := by
  have HGl := Aside0.mk hGl; clear hGl; have HB := Aside0.mk (Below.refl w.heap.size w); have H : ((ent_Decode.f (⟨#[38, 108, 116, 59, 38, 35, 54, 53, 59, 38, 35, 120, 52, 50, 59, 38, 120, 59, 38, 97, 109, 112, 38, 110, 98, 115, 112, 59, 38, 35, 49, 50, 56, 59, 38, 35, 48, 59]⟩ : ByteArray)).bind fun t101 => (if t101.toList = ([60, 65, 66, 38, 120, 59, 38, 97, 109, 112, 194, 160, 226, 130, 172, 239, 191, 189] : List UInt8) then ((ent_Text.f (⟨#[97, 60, 98, 38, 34, 194, 160]⟩ : ByteArray)).bind fun t102 => (if t102.toList = ([97, 38, 108, 116, 59, 98, 38, 97, 109, 112, 59, 34, 38, 110, 98, 115, 112, 59] : List UInt8) then ((ent_Value.f (⟨#[34, 62]⟩ : ByteArray)).bind fun t103 => (some (t103.toList == ([38, 113, 117, 111, 116, 59, 38, 103, 116, 59] : List UInt8)))) else (some false))) else (some false))) = some r := h; clear h; replace H := Option.bind_eq_some_iff.mp H; obtain ⟨t101, A10, H⟩ := H; replace H : (if t101.toList = ([60, 65, 66, 38, 120, 59, 38, 97, 109, 112, 194, 160, 226, 130, 172, 239, 191, 189] : List UInt8) then ((ent_Text.f (⟨#[97, 60, 98, 38, 34, 194, 160]⟩ : ByteArray)).bind fun t102 => (if t102.toList = ([97, 38, 108, 116, 59, 98, 38, 97, 109, 112, 59, 34, 38, 110, 98, 115, 112, 59] : List UInt8) then ((ent_Value.f (⟨#[34, 62]⟩ : ByteArray)).bind fun t103 => (some (t103.toList == ([38, 113, 117, 111, 116, 59, 38, 103, 116, 59] : List UInt8)))) else (some false))) else (some false)) = some r := H; have A1 := Aside0.mk A10; clear A10
  by_cases c2 : t101.toList = ([60, 65, 66, 38, 120, 59, 38, 97, 109, 112, 194, 160, 226, 130, 172, 239, 191, 189] : List UInt8)
  case neg =>
    rw [if_neg c2] at H; have c2b0 : (t101.toList == ([60, 65, 66, 38, 120, 59, 38, 97, 109, 112, 194, 160, 226, 130, 172, 239, 191, 189] : List UInt8)) = false := beq_eq_false_iff_ne.mpr c2; have c2b1 : (t101.toList != ([60, 65, 66, 38, 120, 59, 38, 97, 109, 112, 194, 160, 226, 130, 172, 239, 191, 189] : List UInt8)) = true := bne_iff_ne.mpr c2; obtain rfl := Option.some.inj H
    go_enter Tryz.func11, Tryz.ntmps11
    go_wp2_with (first | ((with_reducible refine gate_callee (f := 12) rfl ?_); refine goesL_ (some 1) rfl rfl Tryz.func12 (by kernel_rfl) rfl #[.string (⟨#[38, 108, 116, 59, 38, 35, 54, 53, 59, 38, 35, 120, 52, 50, 59, 38, 120, 59, 38, 97, 109, 112, 38, 110, 98, 115, 112, 59, 38, 35, 49, 50, 56, 59, 38, 35, 48, 59]⟩ : ByteArray)] rfl (by (try simp only [List.map_toArray, List.map_cons, List.map_nil]); first | done | rfl | (simp only [List.length_drop, List.length_take]; rfl)) ?_; (with_reducible refine (ent_Decode.calls (⟨#[38, 108, 116, 59, 38, 35, 54, 53, 59, 38, 35, 120, 52, 50, 59, 38, 120, 59, 38, 97, 109, 112, 38, 110, 98, 115, 112, 59, 38, 35, 49, 50, 56, 59, 38, 35, 48, 59]⟩ : ByteArray) t101 _ ?sideGl A1.out).mono ?_); (case sideGl => exact HGl.out.below (by repeat (first | (with_reducible first | exact HB.out | apply below_alloc | apply pw_below_drewN | apply below_drew1) | exact HB.out))); rintro e w11 ⟨rfl, hb⟩; refine ⟨_, rfl, ?_⟩; have n0_ := Aside0.mk (below_step (by repeat (first | (with_reducible first | exact HB.out | apply below_alloc | apply pw_below_drewN | apply below_drew1) | exact HB.out)) hb); clear HB; have HB := n0_; clear n0_; (try clear hb); (try clear hb2); (try clear hk); (try clear hi)))
    go_ret
    exact ⟨by first | rfl | (simp [errW_none, errW_some] <;> rfl) | (simp [*, errW_none, errW_some] <;> rfl), by repeat (first | (with_reducible first | exact HB.out | apply below_alloc | apply pw_below_drewN | apply below_drew1) | exact HB.out)⟩
  rw [if_pos c2] at H; have c2b0 : (t101.toList == ([60, 65, 66, 38, 120, 59, 38, 97, 109, 112, 194, 160, 226, 130, 172, 239, 191, 189] : List UInt8)) = true := beq_iff_eq.mpr c2; have c2b1 : (t101.toList != ([60, 65, 66, 38, 120, 59, 38, 97, 109, 112, 194, 160, 226, 130, 172, 239, 191, 189] : List UInt8)) = false := bne_eq_false_iff_eq.mpr c2; clear c2; replace H := Option.bind_eq_some_iff.mp H; obtain ⟨t102, A30, H⟩ := H; replace H : (if t102.toList = ([97, 38, 108, 116, 59, 98, 38, 97, 109, 112, 59, 34, 38, 110, 98, 115, 112, 59] : List UInt8) then ((ent_Value.f (⟨#[34, 62]⟩ : ByteArray)).bind fun t103 => (some (t103.toList == ([38, 113, 117, 111, 116, 59, 38, 103, 116, 59] : List UInt8)))) else (some false)) = some r := H; have A3 := Aside0.mk A30; clear A30
  by_cases c4 : t102.toList = ([97, 38, 108, 116, 59, 98, 38, 97, 109, 112, 59, 34, 38, 110, 98, 115, 112, 59] : List UInt8)
  case neg =>
    rw [if_neg c4] at H; have c4b0 : (t102.toList == ([97, 38, 108, 116, 59, 98, 38, 97, 109, 112, 59, 34, 38, 110, 98, 115, 112, 59] : List UInt8)) = false := beq_eq_false_iff_ne.mpr c4; have c4b1 : (t102.toList != ([97, 38, 108, 116, 59, 98, 38, 97, 109, 112, 59, 34, 38, 110, 98, 115, 112, 59] : List UInt8)) = true := bne_iff_ne.mpr c4; obtain rfl := Option.some.inj H
    go_enter Tryz.func11, Tryz.ntmps11
    go_wp2_with (first | ((with_reducible refine gate_callee (f := 12) rfl ?_); refine goesL_ (some 1) rfl rfl Tryz.func12 (by kernel_rfl) rfl #[.string (⟨#[38, 108, 116, 59, 38, 35, 54, 53, 59, 38, 35, 120, 52, 50, 59, 38, 120, 59, 38, 97, 109, 112, 38, 110, 98, 115, 112, 59, 38, 35, 49, 50, 56, 59, 38, 35, 48, 59]⟩ : ByteArray)] rfl (by (try simp only [List.map_toArray, List.map_cons, List.map_nil]); first | done | rfl | (simp only [List.length_drop, List.length_take]; rfl)) ?_; (with_reducible refine (ent_Decode.calls (⟨#[38, 108, 116, 59, 38, 35, 54, 53, 59, 38, 35, 120, 52, 50, 59, 38, 120, 59, 38, 97, 109, 112, 38, 110, 98, 115, 112, 59, 38, 35, 49, 50, 56, 59, 38, 35, 48, 59]⟩ : ByteArray) t101 _ ?sideGl A1.out).mono ?_); (case sideGl => exact HGl.out.below (by repeat (first | (with_reducible first | exact HB.out | apply below_alloc | apply pw_below_drewN | apply below_drew1) | exact HB.out))); rintro e w9 ⟨rfl, hb⟩; refine ⟨_, rfl, ?_⟩; have n0_ := Aside0.mk (below_step (by repeat (first | (with_reducible first | exact HB.out | apply below_alloc | apply pw_below_drewN | apply below_drew1) | exact HB.out)) hb); clear HB; have HB := n0_; clear n0_; (try clear hb); (try clear hb2); (try clear hk); (try clear hi)) | (go_at_call 14; (with_reducible refine (ent_Text.calls (⟨#[97, 60, 98, 38, 34, 194, 160]⟩ : ByteArray) t102 _ A3.out).mono ?_); rintro e w10 ⟨rfl, hb⟩; have n0_ := Aside0.mk (below_step (by repeat (first | (with_reducible first | exact HB.out | apply below_alloc | apply pw_below_drewN | apply below_drew1) | exact HB.out)) hb); clear HB; have HB := n0_; clear n0_; (try clear hb); (try clear hb2); (try clear hk); (try clear hi)))
    go_ret
    exact ⟨by first | rfl | (simp [errW_none, errW_some] <;> rfl) | (simp [*, errW_none, errW_some] <;> rfl), by repeat (first | (with_reducible first | exact HB.out | apply below_alloc | apply pw_below_drewN | apply below_drew1) | exact HB.out)⟩
  rw [if_pos c4] at H; have c4b0 : (t102.toList == ([97, 38, 108, 116, 59, 98, 38, 97, 109, 112, 59, 34, 38, 110, 98, 115, 112, 59] : List UInt8)) = true := beq_iff_eq.mpr c4; have c4b1 : (t102.toList != ([97, 38, 108, 116, 59, 98, 38, 97, 109, 112, 59, 34, 38, 110, 98, 115, 112, 59] : List UInt8)) = false := bne_eq_false_iff_eq.mpr c4; clear c4; replace H := Option.bind_eq_some_iff.mp H; obtain ⟨t103, A50, H⟩ := H; replace H : (some (t103.toList == ([38, 113, 117, 111, 116, 59, 38, 103, 116, 59] : List UInt8))) = some r := H; have A5 := Aside0.mk A50; clear A50; obtain rfl := Option.some.inj H
  go_enter Tryz.func11, Tryz.ntmps11
  go_wp2_with (first | ((with_reducible refine gate_callee (f := 12) rfl ?_); refine goesL_ (some 1) rfl rfl Tryz.func12 (by kernel_rfl) rfl #[.string (⟨#[38, 108, 116, 59, 38, 35, 54, 53, 59, 38, 35, 120, 52, 50, 59, 38, 120, 59, 38, 97, 109, 112, 38, 110, 98, 115, 112, 59, 38, 35, 49, 50, 56, 59, 38, 35, 48, 59]⟩ : ByteArray)] rfl (by (try simp only [List.map_toArray, List.map_cons, List.map_nil]); first | done | rfl | (simp only [List.length_drop, List.length_take]; rfl)) ?_; (with_reducible refine (ent_Decode.calls (⟨#[38, 108, 116, 59, 38, 35, 54, 53, 59, 38, 35, 120, 52, 50, 59, 38, 120, 59, 38, 97, 109, 112, 38, 110, 98, 115, 112, 59, 38, 35, 49, 50, 56, 59, 38, 35, 48, 59]⟩ : ByteArray) t101 _ ?sideGl A1.out).mono ?_); (case sideGl => exact HGl.out.below (by repeat (first | (with_reducible first | exact HB.out | apply below_alloc | apply pw_below_drewN | apply below_drew1) | exact HB.out))); rintro e w6 ⟨rfl, hb⟩; refine ⟨_, rfl, ?_⟩; have n0_ := Aside0.mk (below_step (by repeat (first | (with_reducible first | exact HB.out | apply below_alloc | apply pw_below_drewN | apply below_drew1) | exact HB.out)) hb); clear HB; have HB := n0_; clear n0_; (try clear hb); (try clear hb2); (try clear hk); (try clear hi)) | (go_at_call 14; (with_reducible refine (ent_Text.calls (⟨#[97, 60, 98, 38, 34, 194, 160]⟩ : ByteArray) t102 _ A3.out).mono ?_); rintro e w7 ⟨rfl, hb⟩; have n0_ := Aside0.mk (below_step (by repeat (first | (with_reducible first | exact HB.out | apply below_alloc | apply pw_below_drewN | apply below_drew1) | exact HB.out)) hb); clear HB; have HB := n0_; clear n0_; (try clear hb); (try clear hb2); (try clear hk); (try clear hi)) | (go_at_call 16; (with_reducible refine (ent_Value.calls (⟨#[34, 62]⟩ : ByteArray) t103 _ ?sideGl A5.out).mono ?_); (case sideGl => exact HGl.out.below (by repeat (first | (with_reducible first | exact HB.out | apply below_alloc | apply pw_below_drewN | apply below_drew1) | exact HB.out))); rintro e w8 ⟨rfl, hb⟩; have n0_ := Aside0.mk (below_step (by repeat (first | (with_reducible first | exact HB.out | apply below_alloc | apply pw_below_drewN | apply below_drew1) | exact HB.out)) hb); clear HB; have HB := n0_; clear n0_; (try clear hb); (try clear hb2); (try clear hk); (try clear hi)))
  go_ret
  exact ⟨by first | rfl | (simp [errW_none, errW_some] <;> rfl) | (simp [*, errW_none, errW_some] <;> rfl), by repeat (first | (with_reducible first | exact HB.out | apply below_alloc | apply pw_below_drewN | apply below_drew1) | exact HB.out)⟩
def muslinref12_Decode.l0 : Nat → ByteArray → List Int → Int → Option (ByteArray)
  | 0, _, _, _ => none
  | k + 1, x0, x3, x4 => if x4 < (x0.size : Int) then (if 0 ≤ x4 then (if x4 ≤ (x0.size : Int) then ((muslinref12_One.f (x0.extract (x4 : Int).toNat x0.size)).bind fun bt104 => (if bt104.2 = 0 then (if x3.length < 140737488355328 then (muslinref12_Decode.l0 k x0 (x3 ++ [bt x0 x4]) (wrap64 (x4 + 1))) else (none)) else (if x3.length + bt104.1.size < 140737488355328 then (muslinref12_Decode.l0 k x0 (x3 ++ bytesOf bt104.1) (wrap64 (x4 + bt104.2))) else (none)))) else (none)) else (none)) else (some (strOfNums x3))
def muslinref12_Decode.f (k : Nat) (a0 : ByteArray) : Option (ByteArray) := muslinref12_Decode.l0 k a0 ([] : List Int) 0
set_option maxHeartbeats 8000000 in
set_option maxRecDepth 100000 in
theorem muslinref12_Decode.calls (k : Nat) (a0 : ByteArray) (r : ByteArray) (w : World) (h : muslinref12_Decode.f k a0 = some r) :
    Calls Tryz.prog 13 #[.string a0] w fun e w' => e = .returned (.string r) ∧ Below w.heap.size w w' := by
  have HB := Aside0.mk (Below.refl w.heap.size w); have H : (muslinref12_Decode.l0 k a0 ([] : List Int) 0) = some r := h; clear h; have H' := Aside0.mk H; clear H
  go_enter Tryz.func13, Tryz.ntmps13
  go_wp2
  go_loopg [3, 4] k (fun kq v3 v4 w' => ∃ (x3_1 : List Int) (x4_1 : Int), v4 = .int .i64 x4_1 ∧ Aside0 (muslinref12_Decode.l0 kq a0 x3_1 x4_1 = some r) ∧ Aside0 (kq ≤ k) ∧ Aside0 (Kd.R (Kd.int .u8) 5 w' w.heap.size (fun _ => True) v3 x3_1) ∧ Aside0 (Below w.heap.size w w'))
  case atStart => exact ⟨(([] : List Int)), (0), (by first | rfl | (simp; done) | (simp [*]; done)), H', ⟨Nat.le_refl _⟩, ⟨by first | exact Kd.R_nil _ _ _ _ _ | exact Kd.N_nil _ _ _ _ _ | exact Kd.V_nil _ _ _ _ _ | exact Kd.Q_nil _ _ _ _ _ | exact Kd.S_nil _ _ _ _ _⟩, ⟨by repeat (first | (with_reducible first | exact HB.out | apply below_alloc | apply pw_below_drewN | apply below_drew1) | exact HB.out)⟩⟩
  case round =>
    clear H'; (try clear c1); obtain ⟨x3_1, x4_1, rfl, HA, HK1, HO_3, HB⟩ := hrel
    cases gk with
    | zero => exact absurd HA.out (by simp [muslinref12_Decode.l0])
    | succ k1 =>
      have H := HA.out; clear HA; simp only [muslinref12_Decode.l0] at H
      by_cases c2 : x4_1 < (a0.size : Int)
      case neg =>
        rw [if_neg c2] at H; have c2b0 : decide (x4_1 < (a0.size : Int)) = false := decide_eq_false c2; clear c2; obtain rfl := Option.some.inj H; have hcv14 := own_string (P := Tryz.prog) Tryz.underlying29 Tryz.underlying5 Tryz.underlying9 (Kd.own_of_R HO_3.out)
        go_wp2
        go_ret
        exact ⟨by first | rfl | (simp [errW_none, errW_some] <;> rfl) | (simp [*, errW_none, errW_some] <;> rfl), by repeat (first | (with_reducible first | exact HB.out | apply below_alloc | apply pw_below_drewN | apply below_drew1) | exact HB.out)⟩
      rw [if_pos c2] at H; have c2b0 : decide (x4_1 < (a0.size : Int)) = true := decide_eq_true c2; clear c2
      by_cases c3 : 0 ≤ x4_1
      case neg =>
        rw [if_neg c3] at H
        exact absurd H (by simp)
      rw [if_pos c3] at H; have c3b0 := eq_true c3; have c3b1 : decide (0 ≤ x4_1) = true := decide_eq_true c3; clear c3
      by_cases c4 : x4_1 ≤ (a0.size : Int)
      case neg =>
        rw [if_neg c4] at H
        exact absurd H (by simp)
      rw [if_pos c4] at H; have c4b0 := eq_true c4; have c4b1 : decide (x4_1 ≤ (a0.size : Int)) = true := decide_eq_true c4; clear c4; replace H := Option.bind_eq_some_iff.mp H; obtain ⟨⟨t104, t105⟩, A50, H⟩ := H; replace H : (if t105 = 0 then (if x3_1.length < 140737488355328 then (muslinref12_Decode.l0 k1 a0 (x3_1 ++ [bt a0 x4_1]) (wrap64 (x4_1 + 1))) else (none)) else (if x3_1.length + t104.size < 140737488355328 then (muslinref12_Decode.l0 k1 a0 (x3_1 ++ bytesOf t104) (wrap64 (x4_1 + t105))) else (none))) = some r := H; have A5 := Aside0.mk A50; clear A50
      by_cases c6 : t105 = 0
      case neg =>
        rw [if_neg c6] at H; have c6b0 : (t105 == 0) = false := beq_eq_false_iff_ne.mpr c6; have c6b1 : (t105 != 0) = true := bne_iff_ne.mpr c6
        by_cases c11 : x3_1.length + t104.size < 140737488355328
        case neg =>
          rw [if_neg c11] at H
          exact absurd H (by simp)
        rw [if_pos c11] at H; have LMc11 := Aside0.mk c11; clear c11; obtain ⟨y109, hy109⟩ : ∃ y_ : List Int, y_ = (x3_1 ++ bytesOf t104) := ⟨_, rfl⟩
        replace H : (muslinref12_Decode.l0 k1 a0 y109 (wrap64 (x4_1 + t105))) = some r := by first | (rw [hy109]; with_reducible exact H) | (have H2_ := (Option.bind_some _ _).symm.trans H; rw [hy109]; with_reducible exact H2_) | (have H2_ := (Option.bind_some _ _).symm.trans H; with_reducible exact H2_) | with_reducible exact H | (rw [hy109]; exact H) | exact H
        have Ny109 := Aside0.mk hy109; clear hy109; have H' := Aside0.mk H; clear H; go_wp2_with (first | ((with_reducible refine gate_callee (f := 18) rfl ?_); refine goesL_ (some 15) rfl rfl Tryz.func18 (by kernel_rfl) rfl #[.string (a0.extract (x4_1 : Int).toNat a0.size)] rfl (by (try simp only [List.map_toArray, List.map_cons, List.map_nil]); first | done | rfl | (simp only [List.length_drop, List.length_take]; rfl)) ?_; (with_reducible refine (muslinref12_One.calls (a0.extract (x4_1 : Int).toNat a0.size) t104 t105 _ A5.out).mono ?_); rintro e w12 ⟨rfl, hb⟩; refine ⟨_, rfl, ?_⟩; have n0_ := Aside0.mk (Kd.R_below (by (with_reducible repeat (first | apply Kd.R_alloc | apply Kd.R_drewN | apply Kd.R_drew)); exact HO_3.out) hb); have n1_ := Aside0.mk (below_step (by repeat (first | (with_reducible first | exact HB.out | apply below_alloc | apply pw_below_drewN | apply below_drew1) | exact HB.out)) hb); clear HO_3; clear HB; have HO_3 := n0_; have HB := n1_; clear n0_ n1_; (try clear hb); (try clear hb2); (try clear hk); (try clear hi)) | (at_builtin; refine print_append_str (w0 := w) w.heap.size rfl (.tmp 28) _ 29 9 5 rfl Tryz.underlying29 Tryz.underlying9 info5 u3 x3_1 t104 rfl rfl ?aO ?aB ?aS ?aL ?_; (case aB => exact (by repeat (first | (with_reducible first | exact HB.out | apply below_alloc | apply pw_below_drewN | apply below_drew1) | exact HB.out))); (case aO => exact (Kd.own_of_R (by (with_reducible repeat (first | apply Kd.R_alloc | apply Kd.R_drewN | apply Kd.R_drew)); exact HO_3.out))); (case aS => exact (below_size (by repeat (first | (with_reducible first | exact HB.out | apply below_alloc | apply pw_below_drewN | apply below_drew1) | exact HB.out)))); (case aL => have := LMc11.out; first | omega | exact Nat.le_of_lt this); intro v110 w13 ho0 hb hg; have ho := Kd.R_of_own (h1 := fun _ => rfl) (ok := fun _ => True) ho0 (fun _ _ => trivial); clear ho0; have hat := True.intro; rw [← Ny109.out] at ho; change Kd.R (Kd.int .u8) 5 w13 w.heap.size (fun _ => True) v110 y109 at ho; have n0_ := Aside0.mk (hb); have n1_ := Aside0.mk (ho); clear HB; clear HO_3; have HB := n0_; have HO111 := n1_; clear n0_ n1_; clear ho hb hg hat))
        go_roundg k1
        case measure => have := HK1.out; omega
        case rel => exact ⟨(y109), (wrap64 (x4_1 + t105)), (by first | rfl | (simp; done) | (simp [*]; done)), H', ⟨by have := HK1.out; omega⟩, ⟨by (with_reducible repeat (first | apply Kd.R_alloc | apply Kd.R_drewN | apply Kd.R_drew)); exact HO111.out⟩, ⟨by repeat (first | (with_reducible first | exact HB.out | apply below_alloc | apply pw_below_drewN | apply below_drew1) | exact HB.out)⟩⟩
      rw [if_pos c6] at H; have c6b0 : (t105 == 0) = true := beq_iff_eq.mpr c6; have c6b1 : (t105 != 0) = false := bne_eq_false_iff_eq.mpr c6; clear c6
      by_cases c8 : x3_1.length < 140737488355328
      case neg =>
        rw [if_neg c8] at H
        exact absurd H (by simp)
      rw [if_pos c8] at H; have LMc8 := Aside0.mk c8; clear c8; obtain ⟨y106, hy106⟩ : ∃ y_ : List Int, y_ = (x3_1 ++ [bt a0 x4_1]) := ⟨_, rfl⟩
      replace H : (muslinref12_Decode.l0 k1 a0 y106 (wrap64 (x4_1 + 1))) = some r := by first | (rw [hy106]; with_reducible exact H) | (have H2_ := (Option.bind_some _ _).symm.trans H; rw [hy106]; with_reducible exact H2_) | (have H2_ := (Option.bind_some _ _).symm.trans H; with_reducible exact H2_) | with_reducible exact H | (rw [hy106]; exact H) | exact H
      have Ny106 := Aside0.mk hy106; clear hy106; have H' := Aside0.mk H; clear H; go_wp2_with (first | ((with_reducible refine gate_callee (f := 18) rfl ?_); refine goesL_ (some 15) rfl rfl Tryz.func18 (by kernel_rfl) rfl #[.string (a0.extract (x4_1 : Int).toNat a0.size)] rfl (by (try simp only [List.map_toArray, List.map_cons, List.map_nil]); first | done | rfl | (simp only [List.length_drop, List.length_take]; rfl)) ?_; (with_reducible refine (muslinref12_One.calls (a0.extract (x4_1 : Int).toNat a0.size) t104 t105 _ A5.out).mono ?_); rintro e w9 ⟨rfl, hb⟩; refine ⟨_, rfl, ?_⟩; have n0_ := Aside0.mk (Kd.R_below (by (with_reducible repeat (first | apply Kd.R_alloc | apply Kd.R_drewN | apply Kd.R_drew)); exact HO_3.out) hb); have n1_ := Aside0.mk (below_step (by repeat (first | (with_reducible first | exact HB.out | apply below_alloc | apply pw_below_drewN | apply below_drew1) | exact HB.out)) hb); clear HO_3; clear HB; have HO_3 := n0_; have HB := n1_; clear n0_ n1_; (try clear hb); (try clear hb2); (try clear hk); (try clear hi); have p7 : 0 ≤ (x4_1 : Int) := of_decide_eq_true (by first | (with_reducible assumption) | assumption); have q7 : x4_1 < (a0.size : Int) := of_decide_eq_true (by first | (with_reducible assumption) | assumption); have hx7 := bt_at a0 x4_1; replace p7 := eq_true p7; replace q7 := eq_true q7) | ((with_reducible refine gate_builtin (b := .append) (xs := #[.tmp 20, .tmp 24]) rfl ?_); at_builtin; refine Kd.R_append (Kd.int .u8) (w0 := w) w.heap.size rfl (.tmp 20) (.tmp 24) 29 5 (.int .u8 0) 1 rfl Tryz.underlying29 info5 rfl (by decide) (by omega) u3 x3_1 (bt a0 x4_1) [.int .u8 (bt a0 x4_1)] (fun _ => True) (fun _ => False) rfl rfl ?aP (fun _ hk => hk.elim) ?aF ?aO ?aB ?aS ?aL ?_; (case aP => exact rfl); (case aB => exact (by repeat (first | (with_reducible first | exact HB.out | apply below_alloc | apply pw_below_drewN | apply below_drew1) | exact HB.out))); (case aF => exact (fun _ _ => trivial)); (case aO => exact (by (with_reducible repeat (first | apply Kd.R_alloc | apply Kd.R_drewN | apply Kd.R_drew)); exact HO_3.out)); (case aS => exact (below_size (by repeat (first | (with_reducible first | exact HB.out | apply below_alloc | apply pw_below_drewN | apply below_drew1) | exact HB.out)))); (case aL => have := LMc8.out; first | omega | exact Nat.le_of_lt this); intro v107 w10 ho hb hg hat; rw [← Ny106.out] at ho; have n0_ := Aside0.mk (hb); have n1_ := Aside0.mk (ho); clear HB; clear HO_3; have HB := n0_; have HO108 := n1_; clear n0_ n1_; clear ho hb hg hat))
      go_roundg k1
      case measure => have := HK1.out; omega
      case rel => exact ⟨(y106), (wrap64 (x4_1 + 1)), (by first | rfl | (simp; done) | (simp [*]; done)), H', ⟨by have := HK1.out; omega⟩, ⟨by (with_reducible repeat (first | apply Kd.R_alloc | apply Kd.R_drewN | apply Kd.R_drew)); exact HO108.out⟩, ⟨by repeat (first | (with_reducible first | exact HB.out | apply below_alloc | apply pw_below_drewN | apply below_drew1) | exact HB.out)⟩⟩
def muslinlaw12_EntDecodes.f (k : Nat) (a0 : ByteArray) : Option (Bool) := (muslinlaw12_short.f a0).bind fun t112 => (if t112 = true then ((ent_Decode.f a0).bind fun t113 => ((muslinref12_Decode.f k a0).bind fun t114 => (if t113.toList = t114.toList then ((muslinlaw12_live.f).bind fun t115 => (some t115)) else (some false)))) else ((muslinlaw12_live.f).bind fun t116 => (some t116)))
set_option maxHeartbeats 8000000 in
set_option maxRecDepth 100000 in
theorem muslinlaw12_EntDecodes.calls (k : Nat) (a0 : ByteArray) (r : Bool) (w : World) (hGl : Ent.GlobE w) (h : muslinlaw12_EntDecodes.f k a0 = some r) :
    Calls Tryz.prog 3 #[.string a0] w fun e w' => e = .returned (.bool r) ∧ Below w.heap.size w w' := by
  have HGl := Aside0.mk hGl; clear hGl; have HB := Aside0.mk (Below.refl w.heap.size w); have H : ((muslinlaw12_short.f a0).bind fun t112 => (if t112 = true then ((ent_Decode.f a0).bind fun t113 => ((muslinref12_Decode.f k a0).bind fun t114 => (if t113.toList = t114.toList then ((muslinlaw12_live.f).bind fun t115 => (some t115)) else (some false)))) else ((muslinlaw12_live.f).bind fun t116 => (some t116)))) = some r := h; clear h; replace H := Option.bind_eq_some_iff.mp H; obtain ⟨t112, A20, H⟩ := H; replace H : (if t112 = true then ((ent_Decode.f a0).bind fun t113 => ((muslinref12_Decode.f k a0).bind fun t114 => (if t113.toList = t114.toList then ((muslinlaw12_live.f).bind fun t115 => (some t115)) else (some false)))) else ((muslinlaw12_live.f).bind fun t116 => (some t116))) = some r := H; have A2 := Aside0.mk A20; clear A20
  by_cases c3 : t112 = true
  case neg =>
    replace c3 := Bool.eq_false_iff.mpr c3; subst c3
    have H1 : ((muslinlaw12_live.f).bind fun t116 => (some t116)) = some r := by rw [if_neg (show ¬ (false = true) by decide)] at H; exact H
    clear H; have H := H1; clear H1; replace H := Option.bind_eq_some_iff.mp H; obtain ⟨t116, A130, H⟩ := H; replace H : (some t116) = some r := H; have A13 := Aside0.mk A130; clear A130; obtain rfl := Option.some.inj H
    go_enter Tryz.func3, Tryz.ntmps3
    go_wp2_with (first | ((with_reducible refine gate_callee (f := 10) rfl ?_); refine goesL_ (some 4) rfl rfl Tryz.func10 (by kernel_rfl) rfl #[.string a0] rfl (by (try simp only [List.map_toArray, List.map_cons, List.map_nil]); first | done | rfl | (simp only [List.length_drop, List.length_take]; rfl)) ?_; (with_reducible refine (muslinlaw12_short.calls a0 false _ A2.out).mono ?_); rintro e w' ⟨rfl, ⟨nd, rfl⟩⟩; refine ⟨_, rfl, ?_⟩) | ((with_reducible refine gate_callee (f := 11) rfl ?_); refine goesL_ (some 6) rfl rfl Tryz.func11 (by kernel_rfl) rfl #[] rfl (by (try simp only [List.map_toArray, List.map_cons, List.map_nil]); first | done | rfl | (simp only [List.length_drop, List.length_take]; rfl)) ?_; (with_reducible refine (muslinlaw12_live.calls  t116 _ ?sideGl A13.out).mono ?_); (case sideGl => exact HGl.out.below (by repeat (first | (with_reducible first | exact HB.out | apply below_alloc | apply pw_below_drewN | apply below_drew1) | exact HB.out))); rintro e w14 ⟨rfl, hb⟩; refine ⟨_, rfl, ?_⟩; have n0_ := Aside0.mk (below_step (by repeat (first | (with_reducible first | exact HB.out | apply below_alloc | apply pw_below_drewN | apply below_drew1) | exact HB.out)) hb); clear HB; have HB := n0_; clear n0_; (try clear hb); (try clear hb2); (try clear hk); (try clear hi)))
    go_ret
    exact ⟨by first | rfl | (simp [errW_none, errW_some] <;> rfl) | (simp [*, errW_none, errW_some] <;> rfl), by repeat (first | (with_reducible first | exact HB.out | apply below_alloc | apply pw_below_drewN | apply below_drew1) | exact HB.out)⟩
  subst c3
  have H1 : ((ent_Decode.f a0).bind fun t113 => ((muslinref12_Decode.f k a0).bind fun t114 => (if t113.toList = t114.toList then ((muslinlaw12_live.f).bind fun t115 => (some t115)) else (some false)))) = some r := by rw [if_pos rfl] at H; exact H
  clear H; have H := H1; clear H1; replace H := Option.bind_eq_some_iff.mp H; obtain ⟨t113, A40, H⟩ := H; replace H : ((muslinref12_Decode.f k a0).bind fun t114 => (if t113.toList = t114.toList then ((muslinlaw12_live.f).bind fun t115 => (some t115)) else (some false))) = some r := H; have A4 := Aside0.mk A40; clear A40; replace H := Option.bind_eq_some_iff.mp H; obtain ⟨t114, A50, H⟩ := H; replace H : (if t113.toList = t114.toList then ((muslinlaw12_live.f).bind fun t115 => (some t115)) else (some false)) = some r := H; have A5 := Aside0.mk A50; clear A50
  by_cases c6 : t113.toList = t114.toList
  case neg =>
    rw [if_neg c6] at H; have c6b0 : (t113.toList == t114.toList) = false := beq_eq_false_iff_ne.mpr c6; have c6b1 : (t113.toList != t114.toList) = true := bne_iff_ne.mpr c6; obtain rfl := Option.some.inj H
    go_enter Tryz.func3, Tryz.ntmps3
    go_wp2_with (first | ((with_reducible refine gate_callee (f := 10) rfl ?_); refine goesL_ (some 4) rfl rfl Tryz.func10 (by kernel_rfl) rfl #[.string a0] rfl (by (try simp only [List.map_toArray, List.map_cons, List.map_nil]); first | done | rfl | (simp only [List.length_drop, List.length_take]; rfl)) ?_; (with_reducible refine (muslinlaw12_short.calls a0 true _ A2.out).mono ?_); rintro e w' ⟨rfl, ⟨nd, rfl⟩⟩; refine ⟨_, rfl, ?_⟩) | ((with_reducible refine gate_callee (f := 12) rfl ?_); refine goesL_ (some 8) rfl rfl Tryz.func12 (by kernel_rfl) rfl #[.string a0] rfl (by (try simp only [List.map_toArray, List.map_cons, List.map_nil]); first | done | rfl | (simp only [List.length_drop, List.length_take]; rfl)) ?_; (with_reducible refine (ent_Decode.calls a0 t113 _ ?sideGl A4.out).mono ?_); (case sideGl => exact HGl.out.below (by repeat (first | (with_reducible first | exact HB.out | apply below_alloc | apply pw_below_drewN | apply below_drew1) | exact HB.out))); rintro e w11 ⟨rfl, hb⟩; refine ⟨_, rfl, ?_⟩; have n0_ := Aside0.mk (below_step (by repeat (first | (with_reducible first | exact HB.out | apply below_alloc | apply pw_below_drewN | apply below_drew1) | exact HB.out)) hb); clear HB; have HB := n0_; clear n0_; (try clear hb); (try clear hb2); (try clear hk); (try clear hi)) | ((with_reducible refine gate_callee (f := 13) rfl ?_); refine goesL_ (some 10) rfl rfl Tryz.func13 (by kernel_rfl) rfl #[.string a0] rfl (by (try simp only [List.map_toArray, List.map_cons, List.map_nil]); first | done | rfl | (simp only [List.length_drop, List.length_take]; rfl)) ?_; (with_reducible refine (muslinref12_Decode.calls k a0 t114 _ A5.out).mono ?_); rintro e w12 ⟨rfl, hb⟩; refine ⟨_, rfl, ?_⟩; have n0_ := Aside0.mk (below_step (by repeat (first | (with_reducible first | exact HB.out | apply below_alloc | apply pw_below_drewN | apply below_drew1) | exact HB.out)) hb); clear HB; have HB := n0_; clear n0_; (try clear hb); (try clear hb2); (try clear hk); (try clear hi)))
    go_ret
    exact ⟨by first | rfl | (simp [errW_none, errW_some] <;> rfl) | (simp [*, errW_none, errW_some] <;> rfl), by repeat (first | (with_reducible first | exact HB.out | apply below_alloc | apply pw_below_drewN | apply below_drew1) | exact HB.out)⟩
  rw [if_pos c6] at H; have c6b0 : (t113.toList == t114.toList) = true := beq_iff_eq.mpr c6; have c6b1 : (t113.toList != t114.toList) = false := bne_eq_false_iff_eq.mpr c6; clear c6; replace H := Option.bind_eq_some_iff.mp H; obtain ⟨t115, A70, H⟩ := H; replace H : (some t115) = some r := H; have A7 := Aside0.mk A70; clear A70; obtain rfl := Option.some.inj H
  go_enter Tryz.func3, Tryz.ntmps3
  go_wp2_with (first | ((with_reducible refine gate_callee (f := 10) rfl ?_); refine goesL_ (some 4) rfl rfl Tryz.func10 (by kernel_rfl) rfl #[.string a0] rfl (by (try simp only [List.map_toArray, List.map_cons, List.map_nil]); first | done | rfl | (simp only [List.length_drop, List.length_take]; rfl)) ?_; (with_reducible refine (muslinlaw12_short.calls a0 true _ A2.out).mono ?_); rintro e w' ⟨rfl, ⟨nd, rfl⟩⟩; refine ⟨_, rfl, ?_⟩) | ((with_reducible refine gate_callee (f := 12) rfl ?_); refine goesL_ (some 8) rfl rfl Tryz.func12 (by kernel_rfl) rfl #[.string a0] rfl (by (try simp only [List.map_toArray, List.map_cons, List.map_nil]); first | done | rfl | (simp only [List.length_drop, List.length_take]; rfl)) ?_; (with_reducible refine (ent_Decode.calls a0 t113 _ ?sideGl A4.out).mono ?_); (case sideGl => exact HGl.out.below (by repeat (first | (with_reducible first | exact HB.out | apply below_alloc | apply pw_below_drewN | apply below_drew1) | exact HB.out))); rintro e w8 ⟨rfl, hb⟩; refine ⟨_, rfl, ?_⟩; have n0_ := Aside0.mk (below_step (by repeat (first | (with_reducible first | exact HB.out | apply below_alloc | apply pw_below_drewN | apply below_drew1) | exact HB.out)) hb); clear HB; have HB := n0_; clear n0_; (try clear hb); (try clear hb2); (try clear hk); (try clear hi)) | ((with_reducible refine gate_callee (f := 13) rfl ?_); refine goesL_ (some 10) rfl rfl Tryz.func13 (by kernel_rfl) rfl #[.string a0] rfl (by (try simp only [List.map_toArray, List.map_cons, List.map_nil]); first | done | rfl | (simp only [List.length_drop, List.length_take]; rfl)) ?_; (with_reducible refine (muslinref12_Decode.calls k a0 t114 _ A5.out).mono ?_); rintro e w9 ⟨rfl, hb⟩; refine ⟨_, rfl, ?_⟩; have n0_ := Aside0.mk (below_step (by repeat (first | (with_reducible first | exact HB.out | apply below_alloc | apply pw_below_drewN | apply below_drew1) | exact HB.out)) hb); clear HB; have HB := n0_; clear n0_; (try clear hb); (try clear hb2); (try clear hk); (try clear hi)) | (go_at_call 11; (with_reducible refine (muslinlaw12_live.calls  t115 _ ?sideGl A7.out).mono ?_); (case sideGl => exact HGl.out.below (by repeat (first | (with_reducible first | exact HB.out | apply below_alloc | apply pw_below_drewN | apply below_drew1) | exact HB.out))); rintro e w10 ⟨rfl, hb⟩; have n0_ := Aside0.mk (below_step (by repeat (first | (with_reducible first | exact HB.out | apply below_alloc | apply pw_below_drewN | apply below_drew1) | exact HB.out)) hb); clear HB; have HB := n0_; clear n0_; (try clear hb); (try clear hb2); (try clear hk); (try clear hi)))
  go_ret
  exact ⟨by first | rfl | (simp [errW_none, errW_some] <;> rfl) | (simp [*, errW_none, errW_some] <;> rfl), by repeat (first | (with_reducible first | exact HB.out | apply below_alloc | apply pw_below_drewN | apply below_drew1) | exact HB.out)⟩
def muslinlaw12_EntDecodes.Pure : Prop := ∀ (a0 : ByteArray), a0.size ≤ 140737488351232 → ∃ k, muslinlaw12_EntDecodes.f k a0 = some true
theorem muslinlaw12_EntDecodes.walk (P : muslinlaw12_EntDecodes.Pure) (a0 : ByteArray) (w : World) (hGl : Ent.GlobE w) (w0 : a0.size ≤ 140737488351232) :
    Calls Tryz.prog 3 #[.string a0] w fun e w' => e = .returned (.bool true) ∧ Below w.heap.size w w' := by
  obtain ⟨k, h⟩ := P a0 w0
  refine (muslinlaw12_EntDecodes.calls k a0 true w hGl h).mono ?_
  rintro e w' ⟨rfl, hd⟩
  exact ⟨rfl, hd⟩
end Go.Proofs.YtkfcbafjcjmfnaaGreatDoor.P
