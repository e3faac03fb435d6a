/-
  names.Check, on catalogues that may be and on long ones.
-/
import Derived.Test.YtkfpnpfopinbkaaRow
namespace Go.Proofs.Ytkfpnpfopinbkaa
open Go.RowKit
set_option linter.unusedVariables false

/-- A catalogue that may be. -/
def Fine (b : Int) (l : List Tag) : Prop := Good l ∧ ∀ t ∈ l, okName t.nm = true ∧ t.n ≤ b

theorem okName_len {s : List UInt8} (h : okName s = true) : s.length ≤ 40 := by
  unfold okName at h
  simp at h
  exact h.2

set_option maxHeartbeats 1000000 in
theorem check_long (A : Option Addr) (n c : Nat) (w : World) (h : 100 < n) (hn : n ≤ 9223372036854775807) :
    Calls Try.prog 21 #[.slice A n c] w fun e w' => e = .returned (.int .i64 1) ∧ Below w.heap.size w w' := by
  have hd : decide ((100 : Int) < (n : Int)) = true := by simp; omega
  go_enter Try.func21, Try.ntmps21
  go_wp2_with fail
  go_ret
  exact ⟨rfl, Below.refl _ _⟩

set_option maxHeartbeats 1000000 in
theorem check_ok (A : Option Addr) (c : Nat) (l : List Tag) (w : World) (hr : Sl w 2 A l.length (tcells l)) (hl : l.length ≤ 100) (hf : Fine 1048576 l) :
    Calls Try.prog 21 #[.slice A l.length c] w fun e w' => e = .returned (.int .i64 0) ∧ Below w.heap.size w w' := by
  have Hr := Lib.hid hr
  have Hf := Lib.hid hf
  have hd : decide ((100 : Int) < (l.length : Int)) = false := by simp; omega
  clear hr hf
  go_enter Try.func21, Try.ntmps21
  go_wp2_with fail
  go_loopw [10] (fun i wr => ∃ (k : Nat), k ≤ l.length ∧ i = .int .i64 k ∧ Below w.heap.size w wr) (fun i _ => l.length - (intOf i).toNat)
  case atStart => exact ⟨0, Nat.zero_le _, rfl, Below.refl _ _⟩
  case round =>
    obtain ⟨k, hk, rfl, hb⟩ := hrel
    have HB := Lib.hid hb
    clear hb
    by_cases hlt : k < l.length
    · obtain ⟨g, o, rfl, hg, c0, c1⟩ := tag_cells (Hr.out.below HB.out) (List.getElem?_eq_getElem hlt)
      obtain ⟨f1, f2⟩ := Hf.out.2 l[k] (List.getElem_mem hlt)
      have f3 := Hf.out.1.2 l[k] (List.getElem_mem hlt)
      have HS : Hid (∀ k', k = k' + 1 → ∀ (h : k' < l.length), lt l[k'].nm l[k].nm = true) := Lib.hid (fun k' hk' h => by
        have := List.pairwise_iff_getElem.1 Hf.out.1.1 k' k h hlt (by omega)
        exact this)
      have ht := List.getElem?_eq_getElem hlt
      generalize hz : l[k] = t at c0 c1 f1 f2 f3 HS
      clear hz ht
      have d1 : decide (t.n < 1) = false := by simp; omega
      have d2 : decide (1048576 < t.n) = false := by simp; omega
      have HB2 := fun o => Lib.hid (HB.out.alloc HB.out.size o)
      rcases Nat.eq_zero_or_pos k with hk0 | hk0
      · have d3 : decide (0 < k) = false := by simp; omega
        clear hk0
        go_wp2_with fail
        go_quiet (exact Calls.quiet_of_same ((may_any t.nm _ (by have := okName_len f1; omega)).mono (by rintro e w' ⟨rfl, rfl⟩; rw [f1]; exact ⟨rfl, rfl⟩)))
        go_wp2_with fail
        go_roundw
        case rel => exact ⟨k + 1, by omega, by go_num, below_drewN (HB2 _).out _⟩
        case measure => simp [intOf]; omega
      · obtain ⟨k', rfl⟩ : ∃ k', k = k' + 1 := ⟨k - 1, by omega⟩
        have hlt' : k' < l.length := by omega
        obtain ⟨g', o', hgo, hg', e0, e1⟩ := tag_cells (Hr.out.below HB.out) (List.getElem?_eq_getElem hlt')
        injection hgo with hgo; injection hgo with hgo1 hgo2; subst hgo1; subst hgo2
        have HT := HS.out k' rfl hlt'
        generalize hz : l[k'] = t' at e0 e1 HT
        clear hz HS
        have HT2 : Op.bytesLess t'.nm t.nm = true := HT
        clear HT
        go_wp2_with fail
        go_quiet (exact Calls.quiet_of_same ((may_any t.nm _ (by have := okName_len f1; omega)).mono (by rintro e w' ⟨rfl, rfl⟩; rw [f1]; exact ⟨rfl, rfl⟩)))
        go_wp2_with fail
        go_roundw
        case rel => exact ⟨k' + 1 + 1, by omega, by go_num, below_drewN (HB2 _).out _⟩
        case measure => simp [intOf]; omega
    · go_wp2_with fail
      go_ret
      exact ⟨rfl, HB.out⟩
#print axioms check_ok
end Go.Proofs.Ytkfpnpfopinbkaa
