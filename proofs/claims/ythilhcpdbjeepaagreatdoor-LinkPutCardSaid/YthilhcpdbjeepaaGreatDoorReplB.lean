/- What a byte-string replacer gives: plain lists. -/
import Derived.Test.YthilhcpdbjeepaaGreatDoorRepl
namespace Go.Proofs.YthilhcpdbjeepaaGreatDoor.Repl
open Go.RowKit Go.Proofs.YthilhcpdbjeepaaGreatDoor.Row
set_option linter.unusedVariables false
set_option linter.unusedSimpArgs false
def repB (ps : Pairs) (c : UInt8) : List UInt8 := match look ps c.toNat with | some n => n.data.toList | none => [c]
def replL (ps : Pairs) (l : List UInt8) : List UInt8 := l.flatMap (repB ps)
def hit (ps : Pairs) (l : List UInt8) : Bool := l.any fun c => (look ps c.toNat).isSome
theorem replL_append (ps : Pairs) (a b : List UInt8) : replL ps (a ++ b) = replL ps a ++ replL ps b := by simp [replL]
theorem replL_same (ps : Pairs) (l : List UInt8) (h : hit ps l = false) : replL ps l = l := by
  induction l with
  | nil => rfl
  | cons c r ih =>
    simp only [hit, List.any_cons, Bool.or_eq_false_iff] at h
    have h1 : repB ps c = [c] := by
      unfold repB
      cases hk : look ps c.toNat with
      | none => rfl
      | some n => rw [hk] at h; simp at h
    show repB ps c ++ replL ps r = _
    rw [h1, ih h.2]; rfl
def gain (qs : Pairs) (l : List UInt8) : Int := (qs.map fun p => (l.count p.1 : Int) * ((p.2.size : Int) - 1)).sum
def anyQ (qs : Pairs) (l : List UInt8) : Bool := qs.any fun p => l.count p.1 != 0
theorem look_nil (b : Nat) : look [] b = none := rfl
theorem look_cons (c : UInt8) (n : ByteArray) (ps : Pairs) (b : Nat) : look ((c, n) :: ps) b = if c.toNat = b then some n else look ps b := by
  unfold look
  by_cases h : c.toNat = b
  · rw [if_pos h, List.find?_cons_of_pos (by simpa using h)]; rfl
  · rw [if_neg h, List.find?_cons_of_neg (by simpa using h)]
theorem look_mem : ∀ (ps : Pairs) (c : UInt8), (look ps c.toNat).isSome = true ↔ ∃ p ∈ ps, p.1 = c
  | [], c => by simp [look_nil]
  | (a, n) :: ps, c => by
    rw [look_cons]
    by_cases h : a.toNat = c.toNat
    · rw [if_pos h]
      simp [UInt8.toNat_inj.1 h]
    · rw [if_neg h, look_mem ps c]
      have : ¬ a = c := fun e => h (by rw [e])
      simp [this]
theorem look_pair : ∀ (ps : Pairs) (p : UInt8 × ByteArray), (ps.map (·.1)).Nodup → p ∈ ps → look ps p.1.toNat = some p.2
  | [], p, _, h => by simp at h
  | (a, n) :: ps, p, hnd, h => by
    rw [List.map_cons, List.nodup_cons] at hnd
    rw [look_cons]
    rcases List.mem_cons.1 h with rfl | h
    · rw [if_pos rfl]
    · rw [if_neg (fun e => hnd.1 (List.mem_map.2 ⟨p, h, (UInt8.toNat_inj.1 e).symm⟩))]
      exact look_pair ps p hnd.2 h
def delta (ps : Pairs) (c : UInt8) : Int := match look ps c.toNat with | some n => (n.size : Int) - 1 | none => 0
theorem delta_len (ps : Pairs) (c : UInt8) : ((repB ps c).length : Int) = 1 + delta ps c := by
  unfold repB delta
  cases look ps c.toNat with
  | none => rfl
  | some n => simp; omega
theorem gain_cons (ps : Pairs) (hnd : (ps.map (·.1)).Nodup) (c : UInt8) (l : List UInt8) : gain ps (c :: l) = gain ps l + delta ps c := by
  induction ps with
  | nil => rfl
  | cons p ps ih =>
    obtain ⟨a, n⟩ := p
    rw [List.map_cons, List.nodup_cons] at hnd
    have h1 := ih hnd.2
    have e1 : ∀ l, gain ((a, n) :: ps) l = (l.count a : Int) * ((n.size : Int) - 1) + gain ps l := fun l => by simp [gain]
    rw [e1, e1, h1]
    unfold delta
    rw [look_cons]
    by_cases h : a = c
    · subst h
      rw [if_pos rfl, List.count_cons_self]
      have h2 : look ps a.toNat = none := by
        cases hk : look ps a.toNat with
        | none => rfl
        | some m =>
          obtain ⟨p, hp, e⟩ := (look_mem ps a).1 (by rw [hk]; rfl)
          exact absurd (List.mem_map.2 ⟨p, hp, e⟩) hnd.1
      rw [h2]
      simp only
      rw [show (((l.count a + 1 : Nat)) : Int) = (l.count a : Int) + 1 from by omega, Int.add_mul, Int.one_mul]
      omega
    · rw [if_neg (fun e => h (UInt8.toNat_inj.1 e)), List.count_cons_of_ne (fun e => h e.symm)]
      omega
theorem gain_all (ps : Pairs) (hnd : (ps.map (·.1)).Nodup) (l : List UInt8) : (l.length : Int) + gain ps l = ((replL ps l).length : Int) := by
  induction l with
  | nil =>
    have : gain ps [] = 0 := by
      unfold gain
      induction ps with
      | nil => rfl
      | cons p ps ih => rw [List.map_cons, List.sum_cons, ih (by simpa using (List.nodup_cons.1 (by simpa using hnd)).2)]; simp
    rw [this]; rfl
  | cons c r ih =>
    rw [gain_cons ps hnd, show replL ps (c :: r) = repB ps c ++ replL ps r from rfl, List.length_append, List.length_cons]
    have := delta_len ps c
    push_cast at *
    omega
theorem gain_reverse (ps : Pairs) (l : List UInt8) : gain ps.reverse l = gain ps l := by
  unfold gain
  rw [List.map_reverse, List.sum_reverse]
theorem anyQ_hit (ps : Pairs) (l : List UInt8) : anyQ ps.reverse l = hit ps l := by
  rw [Bool.eq_iff_iff]
  unfold anyQ hit
  rw [List.any_eq_true, List.any_eq_true]
  constructor
  · rintro ⟨p, hp, h⟩
    have h0 : l.count p.1 ≠ 0 := by simpa using h
    exact ⟨p.1, List.count_pos_iff.1 (by omega), (look_mem ps p.1).2 ⟨p, by simpa using hp, rfl⟩⟩
  · rintro ⟨c, hc, h⟩
    obtain ⟨p, hp, rfl⟩ := (look_mem ps c).1 h
    exact ⟨p, by simpa using hp, by have := List.count_pos_iff.2 hc; simp only [bne_iff_ne]; omega⟩
theorem gain_snoc (qs : Pairs) (l : List UInt8) (k : Nat) (h : k < qs.length) : gain (qs.take (k + 1)) l = gain (qs.take k) l + (l.count (qs[k]).1 : Int) * (((qs[k]).2.size : Int) - 1) := by
  unfold gain
  rw [List.take_succ_eq_append_getElem h, List.map_append, List.sum_append]
  simp
theorem anyQ_snoc (qs : Pairs) (l : List UInt8) (k : Nat) (h : k < qs.length) : anyQ (qs.take (k + 1)) l = (anyQ (qs.take k) l || l.count (qs[k]).1 != 0) := by
  unfold anyQ
  rw [List.take_succ_eq_append_getElem h, List.any_append]
  simp
theorem gain_bound (qs : Pairs) (l : List UInt8) (hq : ∀ p ∈ qs, p.2.size ≤ 100) : -((qs.length * l.length : Nat) : Int) ≤ gain qs l ∧ gain qs l ≤ ((100 * qs.length * l.length : Nat) : Int) := by
  unfold gain
  induction qs with
  | nil => simp
  | cons p qs ih =>
    have h1 := ih (fun p hp => hq p (by simp [hp]))
    have h2 := hq p (by simp)
    have h3 : l.count p.1 ≤ l.length := List.count_le_length
    rw [List.map_cons, List.sum_cons]
    have h4 : (l.count p.1 : Int) * ((p.2.size : Int) - 1) ≤ (l.count p.1 : Int) * 100 := Int.mul_le_mul_of_nonneg_left (by omega) (by omega)
    have h5 : (l.count p.1 : Int) * (-1) ≤ (l.count p.1 : Int) * ((p.2.size : Int) - 1) := Int.mul_le_mul_of_nonneg_left (by omega) (by omega)
    simp only [List.length_cons]
    have e1 : (qs.length + 1) * l.length = qs.length * l.length + l.length := by rw [Nat.add_mul, Nat.one_mul]
    have e2 : 100 * (qs.length + 1) * l.length = 100 * qs.length * l.length + 100 * l.length := by rw [Nat.mul_add, Nat.add_mul]
    omega
theorem repl_snoc (ps : Pairs) (l : List UInt8) (k : Nat) (h : k < l.length) : replL ps (l.take (k + 1)) = replL ps (l.take k) ++ repB ps l[k] := by
  rw [List.take_succ_eq_append_getElem h, replL_append]
  simp [replL]
theorem hit_snoc (ps : Pairs) (l : List UInt8) (k : Nat) (h : k < l.length) : hit ps (l.take (k + 1)) = (hit ps (l.take k) || (look ps (l[k]).toNat).isSome) := by
  unfold hit
  rw [List.take_succ_eq_append_getElem h, List.any_append]
  simp
theorem repl_len (ps : Pairs) (l : List UInt8) (hq : ∀ p ∈ ps, p.2.size ≤ 100) : (replL ps l).length ≤ 100 * l.length := by
  induction l with
  | nil => simp [replL]
  | cons c r ih =>
    rw [show replL ps (c :: r) = repB ps c ++ replL ps r from rfl, List.length_append, List.length_cons]
    have : (repB ps c).length ≤ 100 := by
      unfold repB
      cases hk : look ps c.toNat with
      | none => simp
      | some n =>
        unfold look at hk
        obtain ⟨p, hp, rfl⟩ := Option.map_eq_some_iff.1 hk
        have := hq p (List.mem_of_find?_eq_some hp)
        simpa using this
    omega
end Go.Proofs.YthilhcpdbjeepaaGreatDoor.Repl
