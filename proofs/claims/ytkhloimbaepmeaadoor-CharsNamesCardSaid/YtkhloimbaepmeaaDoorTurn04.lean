/- The laws CharsTurned and CharsNames: they store into bytes that '[]byte(s)' has made, so their walks are by hand. -/
import Derived.Test.YtkhloimbaepmeaaDoorP
import Derived.Test.YtkhloimbaepmeaaDoorPure04
import Derived.Test.YtkhloimbaepmeaaDoorRow
import Derived.LoopTactic
import Derived.Lib.Hide
namespace Go.Proofs.YtkhloimbaepmeaaDoor.Turn04
open Go.RowKit Go.Proofs.YtkhloimbaepmeaaDoor Go.Proofs.YtkhloimbaepmeaaDoor.P Go.Proofs.YtkhloimbaepmeaaDoor.Pure Go.Proofs.YtkhloimbaepmeaaDoor.Row
set_option linter.unusedVariables false
set_option linter.unusedSimpArgs false

/-- The bytes of the first m pairs turned. -/
def turnTo : List UInt8 → Nat → List UInt8
  | a :: b :: r, m + 1 => b :: a :: turnTo r m
  | l, _ => l
theorem turnTo_zero (l : List UInt8) : turnTo l 0 = l := by
  match l with
  | [] => rfl
  | [_] => rfl
  | _ :: _ :: _ => rfl
theorem turnTo_one (a : UInt8) (m : Nat) : turnTo [a] m = [a] := by cases m <;> rfl
theorem turnTo_nil (m : Nat) : turnTo [] m = [] := by cases m <;> rfl
theorem turnTo_length : ∀ (m : Nat) (l : List UInt8), (turnTo l m).length = l.length := by
  intro m
  induction m with
  | zero => intro l; rw [turnTo_zero]
  | succ m ih =>
    intro l
    match l with
    | [] => rfl
    | [_] => rfl
    | _ :: _ :: r => simp [turnTo, ih r]
theorem turnTo_get : ∀ (m : Nat) (l : List UInt8) (j : Nat), 2 * m ≤ j → (turnTo l m)[j]? = l[j]? := by
  intro m
  induction m with
  | zero => intro l j _; rw [turnTo_zero]
  | succ m ih =>
    intro l j hj
    match l with
    | [] => rfl
    | [_] => rfl
    | _ :: _ :: r =>
      obtain ⟨j, rfl⟩ : ∃ i, j = i + 2 := ⟨j - 2, by omega⟩
      simpa [turnTo] using ih r j (by omega)
theorem turnTo_succ : ∀ (m : Nat) (l : List UInt8) (x y : UInt8), l[2 * m]? = some x → l[2 * m + 1]? = some y → turnTo l (m + 1) = ((turnTo l m).set (2 * m) y).set (2 * m + 1) x := by
  intro m
  induction m with
  | zero =>
    intro l x y hx hy
    match l with
    | [] => cases hx
    | [_] => cases hy
    | a :: b :: r =>
      simp at hx hy
      subst hx hy
      simp [turnTo, turnTo_zero]
  | succ m ih =>
    intro l x y hx hy
    match l with
    | [] => cases hx
    | [_] => simp at hx
    | a :: b :: r =>
      have e : 2 * (m + 1) = 2 * m + 2 := by omega
      have e2 : 2 * (m + 1) + 1 = 2 * m + 1 + 2 := by omega
      rw [e] at hx
      rw [e2] at hy
      have := ih r x y (by simpa using hx) (by simpa using hy)
      show b :: a :: turnTo r (m + 1) = ((b :: a :: turnTo r m).set (2 * (m + 1)) y).set (2 * (m + 1) + 1) x
      rw [this, e2, e]
      rfl
def turnL : List UInt8 → List UInt8
  | a :: b :: r => b :: a :: turnL r
  | l => l
theorem turnTo_all : ∀ (m : Nat) (l : List UInt8), l.length ≤ 2 * m + 1 → turnTo l m = turnL l := by
  intro m
  induction m with
  | zero =>
    intro l h
    match l with
    | [] => rfl
    | [_] => rfl
    | _ :: _ :: _ => simp at h
  | succ m ih =>
    intro l h
    match l with
    | [] => rfl
    | [_] => rfl
    | _ :: _ :: r =>
      simp [turnTo, turnL]
      exact ih r (by simp at h; omega)
theorem turnL_length (l : List UInt8) : (turnL l).length = l.length := by rw [← turnTo_all l.length l (by omega), turnTo_length]
theorem u_turn (a b : UInt8) : uBE b a = uLE a b := by unfold uBE uLE; omega
theorem dbl_turn : ∀ (n : Nat) (l : List UInt8), l.length ≤ n → dblL uBE (turnL l) = dblL uLE l := by
  intro n
  induction n with
  | zero =>
    intro l h
    obtain rfl := List.eq_nil_of_length_eq_zero (by omega : l.length = 0)
    rfl
  | succ n ih =>
    intro l h
    match l with
    | [] => rfl
    | [_] => rfl
    | [a, b] => simp [turnL, dblL, u_turn]
    | [a, b, c] => simp [turnL, dblL, u_turn]
    | a :: b :: c :: d :: r =>
      have h1 := ih r (by simp at h; omega)
      have h2 := ih (c :: d :: r) (by simp at h ⊢; omega)
      simp only [turnL] at h2
      simp only [turnL, dblL, u_turn, h1, h2]
theorem short_yes (a : ByteArray) (h : a.size ≤ 5000) : muslinlaw04_short.f a = some true := by
  unfold muslinlaw04_short.f
  have : ((a.size : Int) ≤ 5000) := by omega
  simp [this]
theorem short_no (a : ByteArray) (h : ¬ a.size ≤ 5000) : muslinlaw04_short.f a = some false := by
  unfold muslinlaw04_short.f
  have : ¬ ((a.size : Int) ≤ 5000) := by omega
  simp [this]
def leName : ByteArray := ⟨#[117, 116, 102, 45, 49, 54, 108, 101]⟩
def beName : ByteArray := ⟨#[117, 116, 102, 45, 49, 54, 98, 101]⟩
theorem turned_fact (s : ByteArray) (hs : s.size ≤ 5000) : ∃ k, chars_Decode.f k (⟨#[117, 116, 102, 45, 49, 54, 108, 101]⟩ : ByteArray) s = some (⟨(dblL uLE s.data.toList).toArray⟩, true) ∧ chars_Decode.f k (⟨#[117, 116, 102, 45, 49, 54, 98, 101]⟩ : ByteArray) ⟨(turnL s.data.toList).toArray⟩ = some (⟨(dblL uLE s.data.toList).toArray⟩, true) := by
  have h1 := decode_is leName s (by decide) hs
  have h2 := decode_is beName ⟨(turnL s.data.toList).toArray⟩ (by decide) (by rw [mk_size, turnL_length]; simpa using hs)
  rw [show knownL (labelL leName) = (nLe, true) from by kernel_rfl] at h1
  rw [show knownL (labelL beName) = (nBe, true) from by kernel_rfl] at h2
  have e1 : decL nLe s.data.toList = dblL uLE s.data.toList := rfl
  have e2 : decL nBe (ByteArray.mk (turnL s.data.toList).toArray).data.toList = dblL uLE s.data.toList := by
    show dblL uBE _ = _
    rw [mk_toList]
    exact dbl_turn _ _ (Nat.le_refl _)
  rw [e1] at h1
  rw [e2] at h2
  obtain ⟨k1, h1⟩ := h1
  obtain ⟨k2, h2⟩ := h2
  exact ⟨k1 + k2, h1 (k1 + k2) (by omega), h2 (k1 + k2) (by omega)⟩

def muslinlaw04_CharsTurned.Pure : Prop := True
theorem below_drewN' (w : World) (n : Nat) : Below w.heap.size w (w.drewN n) := below_drewN (Below.refl _ _) n
theorem short_c (a : ByteArray) (r : Bool) (w : World) (h : muslinlaw04_short.f a = some r) :
    Calls Tryd.prog 10 #[.string a] w fun e w' => e = .returned (.bool r) ∧ Below w.heap.size w w' :=
  (muslinlaw04_short.calls a r w h).mono (by rintro e w' ⟨rfl, nd, rfl⟩; exact ⟨rfl, below_drewN' _ _⟩)
/-- a to z become A to Z. -/
def upC (c : UInt8) : UInt8 := if 97 ≤ c.toNat ∧ c.toNat ≤ 122 then (c.toNat - 32).toUInt8 else c
def upTo (l : List UInt8) (k : Nat) : List UInt8 := (l.take k).map upC ++ l.drop k
theorem upTo_zero (l : List UInt8) : upTo l 0 = l := by simp [upTo]
theorem upTo_length (l : List UInt8) (k : Nat) : (upTo l k).length = l.length := by simp [upTo]; omega
theorem upTo_all (l : List UInt8) (k : Nat) (h : l.length ≤ k) : upTo l k = l.map upC := by simp [upTo, List.take_of_length_le h, List.drop_eq_nil_of_le h]
theorem upTo_get (l : List UInt8) (k : Nat) (h : k < l.length) : (upTo l k)[k]'(by rw [upTo_length]; exact h) = l[k] := by
  simp only [upTo]
  rw [List.getElem_append_right (by simp; omega)]
  simp [List.getElem_drop, Nat.min_eq_left (Nat.le_of_lt h)]
theorem upTo_succ (l : List UInt8) (k : Nat) (h : k < l.length) : upTo l (k + 1) = (upTo l k).set k (upC l[k]) := by
  simp only [upTo]
  rw [List.set_append_right _ _ (by simp; omega)]
  simp only [List.length_map, List.length_take, Nat.min_eq_left (Nat.le_of_lt h), Nat.sub_self]
  rw [List.take_succ_eq_append_getElem h, List.drop_eq_getElem_cons h, List.map_append, List.append_assoc]
  rfl
theorem upTo_same (l : List UInt8) (k : Nat) (h : k < l.length) (hc : upC l[k] = l[k]) : upTo l (k + 1) = upTo l k := by
  rw [upTo_succ l k h, hc, ← upTo_get l k h, List.set_getElem_self]
theorem upC_yes (c : UInt8) (h1 : 97 ≤ c.toNat) (h2 : c.toNat ≤ 122) : ((upC c).toNat : Int) = (c.toNat : Int) - 32 := by
  simp only [upC, h1, h2, and_self, if_true]
  have : ((c.toNat - 32).toUInt8).toNat = c.toNat - 32 := by
    show (UInt8.ofNat (c.toNat - 32)).toNat = _
    rw [UInt8.toNat_ofNat']; omega
  omega
theorem upC_no (c : UInt8) (h : c.toNat < 97 ∨ 122 < c.toNat) : upC c = c := by
  simp only [upC]; rw [if_neg (by omega)]
/-- A name with white around. -/
def around (n : ByteArray) : ByteArray := ⟨#[32]⟩ ++ n ++ ⟨#[10]⟩
theorem around_size (n : ByteArray) : (around n).size = n.size + 2 := by
  unfold around
  rw [ByteArray.size_append, ByteArray.size_append]
  show 1 + n.size + 1 = n.size + 2
  omega
def upS (s : ByteArray) : ByteArray := ⟨(s.data.toList.map upC).toArray⟩
theorem names_fact (a : ByteArray) (h : a.size ≤ 5000) : ∃ k n, n.size ≤ 20 ∧ ((chars_Known.f k a = some (n, true) ∧ chars_Known.f k (upS (around n)) = some (n, true)) ∨ (chars_Known.f k a = some (ByteArray.empty, false))) := by
  obtain ⟨k1, h1⟩ := known_is a h
  have two : ∀ n : ByteArray, n.size ≤ 20 → knownL (labelL (upS (around n))) = (n, true) → knownL (labelL a) = (n, true) → ∃ k n, n.size ≤ 20 ∧ ((chars_Known.f k a = some (n, true) ∧ chars_Known.f k (upS (around n)) = some (n, true)) ∨ (chars_Known.f k a = some (ByteArray.empty, false))) := by
    intro n hn h3 h4
    obtain ⟨k2, h2⟩ := known_is (upS (around n)) (by unfold upS; rw [mk_size, List.length_map, sizeL, around_size]; omega)
    rw [h3] at h2
    rw [h4] at h1
    exact ⟨k1 + k2, n, hn, .inl ⟨h1 (k1 + k2) (by omega), h2 (k1 + k2) (by omega)⟩⟩
  rcases known_cases (labelL a) with h' | h' | h' | h' | h'
  · exact two _ (by decide) (by kernel_rfl) h'
  · exact two _ (by decide) (by kernel_rfl) h'
  · exact two _ (by decide) (by kernel_rfl) h'
  · exact two _ (by decide) (by kernel_rfl) h'
  · rw [h'] at h1
    exact ⟨k1, ByteArray.empty, by decide, .inr (h1 k1 (Nat.le_refl _))⟩
def muslinlaw04_CharsNames.Pure : Prop := True
set_option maxHeartbeats 2000000 in
theorem muslinlaw04_CharsNames.walk (P : muslinlaw04_CharsNames.Pure) (a0 : ByteArray) (w : World) (hGl : Glob w) (w0 : a0.size ≤ 140737488351232) :
    Calls Tryd.prog 8 #[.string a0] w fun e w' => e = .returned (.bool true) ∧ Below w.heap.size w w' := by
  have HGl := Lib.hid hGl
  have hlv := live8
  have LV := Lib.hid hlv
  clear hGl P hlv
  by_cases h5 : a0.size ≤ 5000
  · have hS := short_yes a0 h5
    have HS := Lib.hid hS
    clear hS w0
    obtain ⟨kf, n, hn, ⟨hF1, hF2⟩ | hF⟩ := names_fact a0 h5
    · have d1 : ∀ W : World, Calls Tryd.prog 14 #[.string a0] W fun e w' => e = .returned (.tuple #[.string n, .bool true]) ∧ Below W.heap.size W w' := fun W => chars_Known.calls kf _ _ _ W hF1
      have d2 : ∀ W : World, Calls Tryd.prog 14 #[.string (upS (around n))] W fun e w' => e = .returned (.tuple #[.string n, .bool true]) ∧ Below W.heap.size W w' := fun W => chars_Known.calls kf _ _ _ W hF2
      have D1 := Lib.hid d1; have D2 := Lib.hid d2
      clear d1 d2 hF1 hF2
      have conv : ∀ W : World, ∃ cap o, (convert 9 29 (.string (⟨#[32]⟩ ++ n ++ ⟨#[10]⟩))).run Tryd.prog W = .ok (.slice (some ⟨W.heap.size, 0, none⟩) (around n).size cap) (W.alloc o).drew ∧ Row 5 (W.alloc o) W.heap.size (around n).data.toList :=
        fun w => Row.run_conv (P := Tryd.prog) w 9 29 5 (around n) Tryd.underlying9 Tryd.underlying29 Tryd.underlying5
      have ht : (around n).size ≤ 5000 := by rw [around_size]; omega
      have hl : (around n).data.toList.length = (around n).size := by simp
      generalize around n = t at *
      go_enter Tryd.func8, Tryd.ntmps8
      go_wp2_with (first
        | (go_at_call 10; refine (short_c a0 true _ HS.out).mono ?_; rintro e W1 ⟨rfl, b1⟩)
        | (go_at_call 14; (with_reducible refine (D1.out _).mono ?_); rintro e W2 ⟨rfl, b2⟩; obtain ⟨cap, o, hconv, hrow⟩ := conv W2; have HR := Lib.hid hrow; have H1 := Lib.hid (b1.trans (b2.mono b1.size)); clear hrow b2 conv))
      go_loopw [6] (fun i wr => ∃ k : Nat, k ≤ t.size ∧ i = .int .i64 k ∧ Row 5 wr W2.heap.size (upTo t.data.toList k) ∧ Below w.heap.size w wr) (fun i _ => t.size - (intOf i).toNat)
      case atStart => exact ⟨0, Nat.zero_le _, rfl, by rw [upTo_zero]; exact HR.out, (H1.out.alloc H1.out.size _).drew⟩
      case round =>
        obtain ⟨k, hk, rfl, hrow, hb⟩ := hrel
        by_cases hlt : k < t.size
        · have hlt2 : k < t.data.toList.length := by omega
          have hlt3 : k < (upTo t.data.toList k).length := by rw [upTo_length]; exact hlt2
          have hc := hrow.cell k hlt3
          have hf := hrow.frozen k hlt3
          have hset := hrow.set k (upC t.data.toList[k]) hlt3
          rw [← upTo_succ _ _ hlt2] at hset
          rw [upTo_get _ _ hlt2] at hc
          have hsame := upTo_same t.data.toList k hlt2
          have hyes := upC_yes t.data.toList[k]
          have hno := upC_no t.data.toList[k]
          have h256 : t.data.toList[k].toNat < 256 := UInt8.toNat_lt _
          generalize hcc : t.data.toList[k] = c at *
          have HS := Lib.hid hset; have HY := Lib.hid hyes; have HN := Lib.hid hno; have HE := Lib.hid hsame; have HR2 := Lib.hid hrow; have HL := Lib.hid hl
          clear hset hyes hno hsame hrow hl hcc HR
          by_cases c1 : 97 ≤ c.toNat ∧ c.toNat ≤ 122
          · obtain ⟨c1, c2⟩ := c1
            go_wp2
            go_roundw
            case rel => exact ⟨k + 1, by omega, by go_num, by have := HS.out; rw [HY.out c1 c2] at this; exact this, hb.setCell (p := ⟨W2.heap.size, k, none⟩) H1.out.size _⟩
            case measure => simp [intOf]; omega
          · have hce := HN.out (by omega)
            have HS2 : Hid (upTo t.data.toList (k + 1) = upTo t.data.toList k) := Lib.hid (HE.out hce)
            clear HE hce HS HY HN
            have c3 : c.toNat < 97 ∨ 122 < c.toNat := by omega
            rcases c3 with c3 | c3
            all_goals
              clear c1
              go_wp2
              go_roundw
              case rel => exact ⟨k + 1, by omega, by go_num, by rw [HS2.out]; exact HR2.out, hb⟩
              case measure => simp [intOf]; omega
        · have hk2 : k = t.size := by omega
          subst hk2
          rw [upTo_all _ _ (by omega)] at hrow
          have hback := hrow.back (P := Tryd.prog) 29 9 cap Tryd.underlying29 Tryd.underlying5 Tryd.underlying9
          simp only [List.length_map] at hback
          rw [hl] at hback
          have D2' := D2.out
          unfold upS at D2'
          have D3 := Lib.hid D2'
          generalize (t.data.toList.map upC).toArray = tb at *
          have HB := Lib.hid hb
          clear hrow HR hl D2 D2' hb
          go_wp2_with (first
            | (go_at_call 14; (with_reducible refine (D3.out _).mono ?_); rintro e W3 ⟨rfl, b3⟩)
            | (go_at_call 11; refine (muslinlaw04_live.calls 8 true _ (HGl.out.below (HB.out.trans (b3.mono HB.out.size))) LV.out).mono ?_; rintro e W4 ⟨rfl, b4⟩))
          go_ret
          exact ⟨rfl, HB.out.trans ((b3.trans (b4.mono b3.size)).mono HB.out.size)⟩
    · have d1 : ∀ W : World, Calls Tryd.prog 14 #[.string a0] W fun e w' => e = .returned (.tuple #[.string ByteArray.empty, .bool false]) ∧ Below W.heap.size W w' := fun W => chars_Known.calls kf _ _ _ W hF
      have D1 := Lib.hid d1
      clear d1 hF
      go_enter Tryd.func8, Tryd.ntmps8
      go_wp2_with (first
        | (go_at_call 10; refine (short_c a0 true _ HS.out).mono ?_; rintro e W1 ⟨rfl, b1⟩)
        | (go_at_call 14; (with_reducible refine (D1.out _).mono ?_); rintro e W2 ⟨rfl, b2⟩)
        | (go_at_call 11; refine (muslinlaw04_live.calls 8 true _ (HGl.out.below (b1.trans (b2.mono b1.size))) LV.out).mono ?_; rintro e W4 ⟨rfl, b4⟩))
      go_ret
      exact ⟨rfl, b1.trans ((b2.trans (b4.mono b2.size)).mono b1.size)⟩
  · have hS := short_no a0 h5
    have HS := Lib.hid hS
    clear hS
    go_enter Tryd.func8, Tryd.ntmps8
    go_wp2_with (first
      | (go_at_call 10; refine (short_c a0 false _ HS.out).mono ?_; rintro e W1 ⟨rfl, b1⟩)
      | (go_at_call 11; refine (muslinlaw04_live.calls 8 true _ (HGl.out.below b1) LV.out).mono ?_; rintro e W2 ⟨rfl, b2⟩))
    go_ret
    exact ⟨rfl, b1.trans (b2.mono b1.size)⟩
set_option maxHeartbeats 2000000 in
theorem muslinlaw04_CharsTurned.walk (P : muslinlaw04_CharsTurned.Pure) (a0 : ByteArray) (w : World) (hGl : Glob w) (w0 : a0.size ≤ 140737488351232) :
    Calls Tryd.prog 6 #[.string a0] w fun e w' => e = .returned (.bool true) ∧ Below w.heap.size w w' := by
  have HGl := Lib.hid hGl
  clear hGl P
  have hl : a0.data.toList.length = a0.size := by simp
  by_cases h5 : a0.size ≤ 5000
  · obtain ⟨kf, hF1, hF2⟩ := turned_fact a0 h5
    have hlv := live8
    have LV := Lib.hid hlv; clear hlv
    have hS := short_yes a0 h5
    have F1 := Lib.hid hF1; have F2 := Lib.hid hF2; have HS := Lib.hid hS
    clear hF1 hF2 hS w0
    have conv : ∀ w : World, _ := fun w => Row.run_conv (P := Tryd.prog) w 9 29 5 a0 Tryd.underlying9 Tryd.underlying29 Tryd.underlying5
    go_enter Tryd.func6, Tryd.ntmps6
    go_wp2_with (go_at_call 10; refine (short_c a0 true _ HS.out).mono ?_; rintro e W1 ⟨rfl, b1⟩; obtain ⟨cap, o, hconv, hrow⟩ := conv W1; have HR := Lib.hid hrow; have H1 := Lib.hid b1; clear hrow b1)
    go_loopw [4] (fun i wr => ∃ m : Nat, 2 * m ≤ a0.size + 1 ∧ i = .int .i64 ((2 * m : Nat) : Int) ∧ Row 5 wr W1.heap.size (turnTo a0.data.toList m) ∧ Below w.heap.size w wr) (fun i _ => a0.size + 2 - (intOf i).toNat)
    case atStart => exact ⟨0, Nat.zero_le _, rfl, by rw [turnTo_zero]; exact HR.out, (H1.out.alloc H1.out.size _).drew⟩
    case round =>
      obtain ⟨m, hk, rfl, hrow, hb⟩ := hrel
      generalize hkk : 2 * m = k at *
      by_cases hlt : k + 1 < a0.size
      · have hlt3 : k < (turnTo a0.data.toList m).length := by rw [turnTo_length]; omega
        have hlt4 : k + 1 < (turnTo a0.data.toList m).length := by rw [turnTo_length]; omega
        have hc := hrow.cell k hlt3
        have hf := hrow.frozen k hlt3
        have hc2 := hrow.cell (k + 1) hlt4
        have e1 : (turnTo a0.data.toList m)[k]? = a0.data.toList[k]? := turnTo_get m _ k (by omega)
        have e2 : (turnTo a0.data.toList m)[k + 1]? = a0.data.toList[k + 1]? := turnTo_get m _ (k + 1) (by omega)
        have hx : a0.data.toList[k]? = some (turnTo a0.data.toList m)[k] := by rw [← e1]; exact List.getElem?_eq_getElem hlt3
        have hy : a0.data.toList[k + 1]? = some (turnTo a0.data.toList m)[k + 1] := by rw [← e2]; exact List.getElem?_eq_getElem hlt4
        have hs1 := hrow.set k (turnTo a0.data.toList m)[k + 1] hlt3
        have hf2 := hs1.frozen (k + 1) (by rw [List.length_set]; exact hlt4)
        have hs2 := hs1.set (k + 1) (turnTo a0.data.toList m)[k] (by rw [List.length_set]; exact hlt4)
        have hts := turnTo_succ m a0.data.toList _ _ (by rw [hkk]; exact hx) (by rw [hkk]; exact hy)
        rw [hkk] at hts
        rw [← hts] at hs2
        have h256 : (turnTo a0.data.toList m)[k].toNat < 256 := UInt8.toNat_lt _
        have h257 : (turnTo a0.data.toList m)[k + 1].toNat < 256 := UInt8.toNat_lt _
        generalize (turnTo a0.data.toList m)[k] = x at *
        generalize (turnTo a0.data.toList m)[k + 1] = y at *
        have HS2 := Lib.hid hs2; have HB := Lib.hid hb
        clear hs2 hs1 hts hx hy e1 e2 hrow hb hlt3 hlt4 F1 F2
        go_wp2
        go_roundw
        case rel => exact ⟨m + 1, by omega, by rw [show 2 * (m + 1) = k + 2 from by omega]; go_num, HS2.out, (HB.out.setCell (p := ⟨W1.heap.size, k, none⟩) H1.out.size _).setCell (p := ⟨W1.heap.size, k + 1, none⟩) H1.out.size _⟩
        case measure => simp [intOf]; omega
      · have hk2 := turnTo_all m a0.data.toList (by omega)
        rw [hk2] at hrow
        have hback := hrow.back (P := Tryd.prog) 29 9 cap Tryd.underlying29 Tryd.underlying5 Tryd.underlying9
        have hsz : (turnL a0.data.toList).length = a0.size := by rw [turnL_length]; exact hl
        rw [hsz] at hback
        have HROW := Lib.hid hrow; have HB := Lib.hid hb
        have back2 : ∀ W2 : World, Below wr.heap.size wr W2 → Sem.run Tryd.prog (convert 29 9 (Value.slice (some { block := W1.heap.size, off := 0 }) a0.size cap)) W2 = .ok (.string ⟨(turnL a0.data.toList).toArray⟩) W2 := by
          intro W2 hb2
          have := (hrow.below hb2).back (P := Tryd.prog) 29 9 cap Tryd.underlying29 Tryd.underlying5 Tryd.underlying9
          rw [hsz] at this
          exact this
        clear hrow hb hk2 hback
        have gl2 : ∀ W2 : World, Below wr.heap.size wr W2 → Glob W2 := fun W2 h => HGl.out.below (HB.out.trans (h.mono HB.out.size))
        have BK := Lib.hid back2; have GL := Lib.hid gl2
        clear back2 gl2
        generalize (turnL a0.data.toList).toArray = tb at *
        generalize (dblL uLE a0.data.toList).toArray = tr at *
        have d1 : ∀ W : World, Glob W → Calls Tryd.prog 12 #[.string ⟨#[117, 116, 102, 45, 49, 54, 108, 101]⟩, .string a0] W fun e w' => e = .returned (.tuple #[.string ⟨tr⟩, .bool true]) ∧ Below W.heap.size W w' := fun W g => chars_Decode.calls kf _ _ _ _ W g F1.out
        have d2 : ∀ W : World, Glob W → Calls Tryd.prog 12 #[.string ⟨#[117, 116, 102, 45, 49, 54, 98, 101]⟩, .string ⟨tb⟩] W fun e w' => e = .returned (.tuple #[.string ⟨tr⟩, .bool true]) ∧ Below W.heap.size W w' := fun W g => chars_Decode.calls kf _ _ _ _ W g F2.out
        have D1 := Lib.hid d1; have D2 := Lib.hid d2
        clear d1 d2 F1 F2
        have GL0 := Lib.hid (GL.out _ (Below.refl _ _))
        go_wp2_with (first
          | (go_at_call 12; (with_reducible refine (D1.out _ GL0.out).mono ?_); rintro e W2 ⟨rfl, b2⟩; have hcv := BK.out W2 b2; have B2 := Lib.hid b2; clear b2)
          | (go_at_call 12; (with_reducible refine (D2.out _ (GL.out _ (by exact B2.out))).mono ?_); rintro e W3 ⟨rfl, b3⟩; have B3 := Lib.hid b3; clear b3)
          | (go_at_call 11; refine (muslinlaw04_live.calls 8 true _ (GL.out _ (B2.out.trans (B3.out.mono B2.out.size))) LV.out).mono ?_; rintro e W4 ⟨rfl, b4⟩))
        go_ret
        exact ⟨rfl, HB.out.trans ((B2.out.trans ((B3.out.trans (b4.mono B3.out.size)).mono B2.out.size)).mono HB.out.size)⟩
  · have hS := short_no a0 h5
    have HS := Lib.hid hS
    have hlv := live8
    have LV := Lib.hid hlv
    clear hlv hS
    go_enter Tryd.func6, Tryd.ntmps6
    go_wp2_with (first
      | (go_at_call 10; refine (short_c a0 false _ HS.out).mono ?_; rintro e W1 ⟨rfl, b1⟩)
      | (go_at_call 11; refine (muslinlaw04_live.calls 8 true _ (HGl.out.below b1) LV.out).mono ?_; rintro e W2 ⟨rfl, b2⟩))
    go_ret
    exact ⟨rfl, b1.trans (b2.mono b1.size)⟩
end Go.Proofs.YtkhloimbaepmeaaDoor.Turn04
namespace Go.Proofs.YtkhloimbaepmeaaDoor.Pure
theorem CharsTurned : Turn04.muslinlaw04_CharsTurned.Pure := trivial
theorem CharsNames : Turn04.muslinlaw04_CharsNames.Pure := trivial
end Go.Proofs.YtkhloimbaepmeaaDoor.Pure
