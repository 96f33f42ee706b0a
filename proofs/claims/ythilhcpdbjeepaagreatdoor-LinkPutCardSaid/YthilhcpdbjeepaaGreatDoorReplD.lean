/- strings.NewReplacer and '(*strings.Replacer).Replace' over it. -/
import Derived.Test.YthilhcpdbjeepaaGreatDoorReplC
namespace Go.Proofs.YthilhcpdbjeepaaGreatDoor.Repl
open Go.RowKit Go.Proofs.YthilhcpdbjeepaaGreatDoor.Row Go.Proofs.YthilhcpdbjeepaaGreatDoor.Once
set_option linter.unusedVariables false
set_option linter.unusedSimpArgs false
/-- A replacer that is not built yet. -/
def New (M : Nat) (w : World) (b : Nat) (ps : Pairs) : Prop :=
  ∃ v, M ≤ b ∧ w.heap[b]? = some (.cells #[.int .u32 0, .int .i32 0, .int .u32 0, .nilIface, v] 55 (0, 0)) ∧ w.ownsRow M 9 1 v (2 * ps.length) ((oldnew ps).map Value.string)
theorem oldnew_len (ps : Pairs) : (oldnew ps).length = 2 * ps.length := by
  induction ps with
  | nil => rfl
  | cons p ps ih => rw [show oldnew (p :: ps) = [⟨#[p.1]⟩, p.2] ++ oldnew ps from rfl, List.length_append, ih]; simp; omega
theorem oldnew_at : ∀ (ps : Pairs) (k : Nat) (h : k < ps.length), (oldnew ps)[2 * k]? = some ⟨#[(ps[k]).1]⟩ ∧ (oldnew ps)[2 * k + 1]? = some (ps[k]).2
  | [], k, h => by simp at h
  | p :: ps, 0, h => ⟨rfl, rfl⟩
  | p :: ps, k + 1, h => by
    have := oldnew_at ps k (by simpa using h)
    rw [show oldnew (p :: ps) = ⟨#[p.1]⟩ :: p.2 :: oldnew ps from rfl]
    exact this
theorem New.lies {M b : Nat} {w : World} {ps : Pairs} {v : Value} (hn : 1 ≤ ps.length) (hown : w.ownsRow M 9 1 v (2 * ps.length) ((oldnew ps).map Value.string)) :
    ∃ g cap, v = .slice (some ⟨g, 0, none⟩) (2 * ps.length) cap ∧ Lies w g ps := by
  rcases hown.2 with ⟨_, h0⟩ | ⟨g, cap, cur, rfl, _⟩
  · omega
  · refine ⟨g, cap, rfl, fun k hk => ?_⟩
    have := oldnew_at ps k hk
    constructor
    · rw [hown.cellAt _ (by omega), List.getElem?_map, this.1]; rfl
    · rw [hown.cellAt _ (by omega), List.getElem?_map, this.2]; rfl
theorem Part.of_heap {M R : Nat} {w w' : World} {ps : Pairs} (h : Part M w R ps) (hh : ∀ k, M ≤ k → k < w.heap.size → w'.heap[k]? = w.heap[k]?) : Part M w' R ps := by
  obtain ⟨C, tv, hMR, hC, hz, h6, hown, hc⟩ := h
  refine ⟨C, tv, hMR, by rw [hh R hMR (Array.getElem?_eq_some_iff.1 hC).1]; exact hC, hz, h6, own_of_heap hown fun k hk => hh k (hown.lt k hk).1 (hown.lt k hk).2, fun b hb => ?_⟩
  obtain ⟨v, hv, hr⟩ := hc b hb
  refine ⟨v, hv, ?_⟩
  cases hk : look ps b with
  | none => rw [hk] at hr; exact hr
  | some s =>
    rw [hk] at hr
    obtain ⟨B, c', hB, rfl, hrw⟩ := hr
    exact ⟨B, c', hB, rfl, Row.of_heap hrw (hh B hB hrw.lt)⟩
theorem Part.setCell {M R b j : Nat} {w : World} {ps : Pairs} (h : Part M w R ps) (hb : b < M) (v : Value) : Part M (w.setCell ⟨b, j, none⟩ v) R ps :=
  h.of_heap fun k hk _ => setCell_heap_ne _ _ _ _ _ (by omega)
theorem New.below {M b : Nat} {w w' : World} {ps : Pairs} (h : New M w b ps) (hb : Below w.heap.size w w') : New M w' b ps := by
  obtain ⟨v, hMb, hC, hown⟩ := h
  exact ⟨v, hMb, by rw [hb.block b (Array.getElem?_eq_some_iff.1 hC).1]; exact hC, own_of_heap hown fun k hk => hb.block k (hown.lt k hk).2⟩
theorem cells_lit (w : World) (cs : Array Value) (e : TypeId) (l : List Value) (hl : cs.toList = l) : ∀ j u, l[j]? = some u → (w.alloc (.cells cs e)).cell? ((⟨w.heap.size, 0, none⟩ : Addr).add j) = some u := by
  subst hl
  intro j u hu
  rw [show (⟨w.heap.size, 0, none⟩ : Addr).add j = ⟨w.heap.size, j, none⟩ from by unfold Addr.add; split <;> simp_all, cell_of_row _ _ _ _ _ _ (heap_alloc_new _ _)]
  simpa using hu
/-- What the block of a replacer holds behind 'buildOnce', ahead of the Once's own marks. -/
def Mid (M : Nat) (w0 : World) (b : Nat) (ps : Pairs) (w : World) : Prop :=
  ∃ R, w.heap[b]? = some (.cells #[.int .u32 0, .int .i32 1, .int .u32 0, .iface 87 (.pointer (some ⟨R, 0, none⟩)), .slice none 0 0] 55 (0, 0)) ∧ Part w0.heap.size w R ps ∧ Below M w0 w ∧ M ≤ b ∧ b < w0.heap.size
set_option maxRecDepth 100000 in
set_option maxHeartbeats 4000000 in
theorem buildOnce_any (M b : Nat) (ps : Pairs) (w : World) (hn : 2 ≤ ps.length) (hn2 : ps.length ≤ 100) (hnew : allNew ps = false) (hnd : (ps.map (·.1)).Nodup) (h : New M w b ps) :
    Calls Tryz.prog 29 #[.pointer (some ⟨b, 0, none⟩)] (w.setCell ⟨b, 1, none⟩ (.int .i32 1)) fun e w' => e = .returned (.tuple #[]) ∧ Mid M w b ps w' := by
  obtain ⟨v, hMb, hC, hown⟩ := h
  obtain ⟨g, cap, rfl, hlies⟩ := New.lies (b := b) (by omega) hown
  have hblt : b < w.heap.size := (Array.getElem?_eq_some_iff.1 hC).1
  have hgb : g ≠ b := by
    rintro rfl
    exact own_apart hown hC (.inl (by decide)) rfl
  have hC1 := setCell_heap_at w b 1 _ _ _ (.int .i32 1) hC
  have hz : (w.setCell ⟨b, 1, none⟩ (.int .i32 1)).heap.size = w.heap.size := by simp
  have hl1 : Lies (w.setCell ⟨b, 1, none⟩ (.int .i32 1)) g ps := fun k hk => by
    obtain ⟨h1, h2⟩ := hlies k hk
    exact ⟨(World.cell?_setCell_other _ _ _ _ (fun e => hgb (congrArg Addr.block e).symm)).trans h1, (World.cell?_setCell_other _ _ _ _ (fun e => hgb (congrArg Addr.block e).symm)).trans h2⟩
  have hbM : Below M w (w.setCell ⟨b, 1, none⟩ (.int .i32 1)) := (Below.refl _ _).setCell hMb _
  generalize w.setCell ⟨b, 1, none⟩ (.int .i32 1) = w1 at *
  have hc4 : w1.cell? ⟨b, 4, none⟩ = some (.slice (some ⟨g, 0, none⟩) (2 * ps.length) cap) := by rw [cell_of_row _ _ _ _ _ _ hC1]; rfl
  have BU := Lib.hid (build_any b g cap ps w1 hn hn2 hnew hnd hc4 hl1)
  have HC := Lib.hid hC1; have HZ := Lib.hid hz
  have AF := Lib.hid (show ∀ w2, Below w1.heap.size w1 w2 → w2.cell? ⟨b, 3, none⟩ = some .nilIface ∧ w2.cell? ⟨b, 4, none⟩ = some (.slice (some ⟨g, 0, none⟩) (2 * ps.length) cap) ∧ w2.frozen? ⟨b, 3, none⟩ = false ∧ w2.frozen? ⟨b, 4, none⟩ = false from fun w2 hb => by
    have hCb := (hb.block b (by rw [hz]; exact hblt)).trans hC1
    refine ⟨?_, ?_, ?_, ?_⟩
    · rw [cell_of_row _ _ _ _ _ _ hCb]; rfl
    · rw [cell_of_row _ _ _ _ _ _ hCb]; rfl
    · simp [World.frozen?, hCb]
    · simp [World.frozen?, hCb])
  clear hlies hl1 hC hC1 hown hnew hnd hc4 hz
  go_enter Tryz.func29, Tryz.ntmps29
  go_wp2_with (go_at_call 42; refine BU.out.mono ?_; rintro e w2 ⟨R, rfl, hpart, hbel⟩; obtain ⟨q3, q4, f3, f4⟩ := AF.out w2 hbel; have HPA := Lib.hid hpart; have HBE := Lib.hid hbel; clear hpart hbel)
  go_end0
  refine ⟨rfl, R, ?_, ?_, ?_, hMb, hblt⟩
  · have hCb := (HBE.out.block b (by rw [HZ.out]; exact hblt)).trans HC.out
    have h3 := setCell_heap_at w2 b 3 _ _ _ (.iface 87 (.pointer (some ⟨R, 0, none⟩))) hCb
    have h4 := setCell_heap_at _ b 4 _ _ _ (.slice none 0 0) h3
    rw [h4]
    rfl
  · have hp := HPA.out
    rw [HZ.out] at hp
    exact (hp.setCell hblt _).setCell hblt _
  · exact (((hbM.trans (HBE.out.mono (by rw [HZ.out]; omega))).setCell hMb _).setCell hMb _)
set_option maxRecDepth 100000 in
set_option maxHeartbeats 4000000 in
/-- 'strings.NewReplacer(oldnew...)'. -/
theorem NewReplacer_any (g cap : Nat) (ps : Pairs) (w : World) (hn : 1 ≤ ps.length) (hn2 : ps.length ≤ 100)
    (hc : ∀ j u, ((oldnew ps).map Value.string)[j]? = some u → w.cell? ((⟨g, 0, none⟩ : Addr).add j) = some u) :
    Calls Tryz.prog 22 #[.slice (some ⟨g, 0, none⟩) (2 * ps.length) cap] w fun e w' => ∃ b, e = .returned (.pointer (some ⟨b, 0, none⟩)) ∧ New w.heap.size w' b ps ∧ Below w.heap.size w w' := by
  obtain ⟨i0, hi, hi0, hi1, hi2⟩ := info_parts infoStr
  have HC := Lib.hid hc
  have l2 : 2 * ps.length ≤ 9223372036854775807 := by omega
  have l3 : ((2 * ps.length : Nat) : Int) % 2 = 0 := by omega
  have l4 : (2 * (ps.length : Int)) % 2 = 0 := by omega
  have hln : ((oldnew ps).map Value.string).length = 2 * ps.length * 1 := by rw [List.length_map, oldnew_len, Nat.mul_one]
  have HLN := Lib.hid hln
  clear hc hln
  go_enter Tryz.func22, Tryz.ntmps22
  go_wp2_with (at_builtin; refine wpList_append_own _ rfl (.const (.slice none 0 0)) (.tmp 8) 39 rfl w.heap.size 9 i0 _ 1 16 Tryz.underlying39 hi hi0 hi1 hi2 rfl (by decide) (.slice none 0 0) 0 [] rfl (World.ownsRow_nil _ _ _ _) ⟨g, 0, none⟩ (2 * ps.length) cap ((oldnew ps).map Value.string) rfl HLN.out HC.out ?c2 ?c3 ?c4 (Nat.le_refl _) ?_)
  case c2 =>
    intro u hu
    obtain ⟨x, _, rfl⟩ := List.mem_map.1 hu
    rfl
  case c3 => simp only [maxLen]; omega
  case c4 => omega
  intro v1 w1 hown1 hgr1 _
  obtain ⟨a1, n1, k1, rfl⟩ : ∃ a n c, v1 = .slice a n c := by
    rcases hown1.2 with ⟨rfl, _⟩ | ⟨_, _, _, rfl, _⟩
    · exact ⟨_, _, _, rfl⟩
    · exact ⟨_, _, _, rfl⟩
  have HO := Lib.hid hown1; have HG := Lib.hid hgr1
  clear hown1 hgr1
  go_wp2
  go_ret
  have h1 : w.heap.size ≤ w1.heap.size := HG.out.size
  refine ⟨w1.heap.size, rfl, ⟨.slice a1 n1 k1, h1, heap_alloc_new _ _, ?_⟩, ?_⟩
  · have := HO.out.alloc (.cells #[.int .u32 0, .int .i32 0, .int .u32 0, .nilIface, .slice a1 n1 k1] 55)
    simpa using this
  · exact (below_grown (Below.refl _ _) HG.out (fun j hj => by simp [Value.ownBlock] at hj) (Nat.le_refl _)).alloc h1 _
set_option maxRecDepth 100000 in
set_option maxHeartbeats 4000000 in
/-- 'r.Replace(s)': at a replacer that is not built yet. -/
theorem Replace_any (M b : Nat) (ps : Pairs) (s : ByteArray) (w : World) (hn : 2 ≤ ps.length) (hn2 : ps.length ≤ 100) (hnew : allNew ps = false) (hnd : (ps.map (·.1)).Nodup) (hq : ∀ p ∈ ps, p.2.size ≤ 100) (hs : s.size ≤ 100000000) (h : New M w b ps) (hMw : M ≤ w.heap.size) :
    Calls Tryz.prog 23 #[.pointer (some ⟨b, 0, none⟩), .string s] w fun e w' => e = .returned (.string ⟨(replL ps s.data.toList).toArray⟩) ∧ Below M w w' := by
  have hmf : ∀ (fn : Fn) (first cap : Array Value) (w : World), (Instr.makeFunc fn first cap).run Tryz.prog w = .ok (.func fn first cap) w := fun _ _ _ _ => rfl
  have HB1 := Lib.hid (buildOnce_any M b ps w hn hn2 hnew hnd h)
  obtain ⟨v, hMb, hC, hown⟩ := id h
  have h0 : w.cell? ⟨b, 0, none⟩ = some (.int .u32 0) := by rw [cell_of_row _ _ _ _ _ _ hC]; rfl
  have h1 : w.cell? ⟨b, 1, none⟩ = some (.int .i32 0) := by rw [cell_of_row _ _ _ _ _ _ hC]; rfl
  have f1 : w.frozen? ⟨b, 1, none⟩ = false := by simp [World.frozen?, hC]
  have HQ : Hid (∀ w', Mid M w b ps w' → (∃ x, w'.cell? ⟨b, 0, none⟩ = some x) ∧ w'.cell? ⟨b, 1, none⟩ = some (.int .i32 1) ∧ w'.frozen? ⟨b, 0, none⟩ = false ∧ w'.frozen? ⟨b, 1, none⟩ = false) := Lib.hid (by
    rintro w' ⟨R, hC', _⟩
    refine ⟨⟨_, by rw [cell_of_row _ _ _ _ _ _ hC']; rfl⟩, by rw [cell_of_row _ _ _ _ _ _ hC']; rfl, by simp [World.frozen?, hC'], by simp [World.frozen?, hC']⟩)
  have DO0 := (do_first b #[.pointer (some ⟨b, 0, none⟩)] w (Mid M w b ps) h0 h1 f1 HB1.out HQ.out)
  have AF := (show ∀ w1, Mid M w b ps w1 → ∃ R, ((w1.drew.setCell ⟨b, 0, none⟩ (.int .u32 1)).setCell ⟨b, 1, none⟩ (.int .i32 0)).cell? ⟨b, 3, none⟩ = some (.iface 87 (.pointer (some ⟨R, 0, none⟩))) ∧ Part w.heap.size ((w1.drew.setCell ⟨b, 0, none⟩ (.int .u32 1)).setCell ⟨b, 1, none⟩ (.int .i32 0)) R ps ∧ Below M w ((w1.drew.setCell ⟨b, 0, none⟩ (.int .u32 1)).setCell ⟨b, 1, none⟩ (.int .i32 0)) from by
    rintro w1 ⟨R, hC', hp, hb, _, hbl⟩
    have hC2 : w1.drew.heap[b]? = _ := hC'
    have h2 := setCell_heap_at w1.drew b 0 _ _ _ (.int .u32 1) hC2
    have h3 := setCell_heap_at _ b 1 _ _ _ (.int .i32 0) h2
    refine ⟨R, by rw [cell_of_row _ _ _ _ _ _ h3]; rfl, ?_, ((hb.drew).setCell hMb _).setCell hMb _⟩
    exact ((hp.of_heap (w' := w1.drew) (fun _ _ _ => rfl)).setCell hbl _).setCell hbl _)
  have DO : Hid (Calls Tryz.prog 28 #[.pointer (some ⟨b, 0, none⟩), .func (.func 29) #[.pointer (some ⟨b, 0, none⟩)] #[]] w fun e w' => e = .returned (.tuple #[]) ∧ ∃ R, w'.cell? ⟨b, 3, none⟩ = some (.iface 87 (.pointer (some ⟨R, 0, none⟩))) ∧ Part w.heap.size w' R ps ∧ Below M w w') := Lib.hid (DO0.mono (by
    rintro e w' ⟨rfl, w1, hm, rfl⟩
    exact ⟨rfl, AF w1 hm⟩))
  have hm : ∀ (R : Nat) (w : World), (method 264 87 (.pointer (some ⟨R, 0, none⟩)) "Replace").run Tryz.prog w = .ok (117, .pointer (some ⟨R, 0, none⟩)) w := fun _ _ => by kernel_rfl
  have RP := Lib.hid (fun (M R : Nat) (W : World) (hP : Part M W R ps) => bsr_Replace M R ps s W hP hnd (by omega) hn2 hq hs)
  clear h hnew hown hC HB1 HQ DO0 AF hnd hq
  go_enter Tryz.func23, Tryz.ntmps23
  go_wp2_with (first | (go_at_call 117; refine (RP.out _ _ _ HPA.out).mono ?_; rintro e w4 ⟨rfl, b4⟩) | (go_at_call 28; refine DO.out.mono ?_; rintro e w3 ⟨rfl, R, q3, hpart, hbel⟩; have HPA := Lib.hid hpart; have HBE := Lib.hid hbel; clear hpart hbel))
  go_ret
  exact ⟨rfl, HBE.out.trans (b4.mono (Nat.le_trans hMw HBE.out.size))⟩
end Go.Proofs.YthilhcpdbjeepaaGreatDoor.Repl
