/-
  NamesFull: the plain facts.
-/
import Derived.Test.YtkfpnpfopinbkaaJoins
namespace Go.Proofs.Ytkfpnpfopinbkaa
open Go.RowKit
set_option linter.unusedVariables false

def tagF (i : Nat) : Tag := ⟨[UInt8.ofNat (97 + i / 26), UInt8.ofNat (97 + i % 26)], 1⟩
def lst (k : Nat) : List Tag := (List.range k).map tagF

theorem lst_len (k : Nat) : (lst k).length = k := by simp [lst]
theorem lst_succ (k : Nat) : lst (k + 1) = lst k ++ [tagF k] := by unfold lst; rw [List.range_succ, List.map_append]; rfl

theorem lst_srt : Srt (lst 104) := by
  unfold Srt
  decide +kernel
theorem lst_ok : ∀ t ∈ lst 104, okName t.nm = true ∧ t.n = 1 ∧ lt [97] t.nm = true := by decide +kernel
theorem lst_take {k : Nat} (h : k ≤ 104) : lst k = (lst 104).take k := by
  unfold lst
  rw [← List.map_take, List.take_range, Nat.min_eq_left h]
theorem lst_fine {k : Nat} (h : k ≤ 104) : Fine 1 (lst k) := by
  rw [lst_take h]
  exact ⟨⟨lst_srt.sublist (List.take_sublist _ _), fun t ht => by have := (lst_ok t (List.mem_of_mem_take ht)).2.1; omega⟩, fun t ht => by have := lst_ok t (List.mem_of_mem_take ht); exact ⟨this.1, by omega⟩⟩

theorem full_zz : ∀ j < 6, makeE (lst (95 + j)) [122, 122] = if j == 5 then 15 else 0 := by decide +kernel
theorem full_drop : ∀ j < 6, dropE (lst (95 + j)) [97, 98] = 0 ∧ makeE (dropL (lst (95 + j)) [97, 98]) [97, 98] = 0 ∧ (dropL (lst (95 + j)) [97, 98]).length = 95 + j ∧ ∀ t ∈ dropL (lst (95 + j)) [97, 98], 0 ≤ t.n := by decide +kernel

theorem full_join {k : Nat} (h : k ≤ 104) : mergeL (lst k) [⟨[97], 3⟩] = ⟨[97], 3⟩ :: lst k := by
  cases hl : lst k with
  | nil => rw [merge_right_all]
  | cons s l =>
    have hs : s ∈ lst 104 := by
      have : s ∈ lst k := by rw [hl]; exact List.mem_cons_self
      rw [lst_take h] at this
      exact List.mem_of_mem_take this
    have h1 := (lst_ok s hs).2.2
    have h2 : lt s.nm [97] = false := lt_gt h1
    have h3 : (s.nm == [97]) = false := by simpa using (lt_ne h1).symm
    rw [merge_both, h2, h3, merge_left_all (s :: l)]
    rfl

#print axioms full_zz
#print axioms full_drop
#print axioms lst_fine
end Go.Proofs.Ytkfpnpfopinbkaa
