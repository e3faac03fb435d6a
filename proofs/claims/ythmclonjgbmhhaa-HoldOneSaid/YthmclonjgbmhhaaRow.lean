/-
  Promises as an argument, opened.
-/
import Derived.Test.YthmclonjgbmhhaaPlain
import Derived.ProofKit
import Derived.OpenShut
import Derived.ChangeOld
import Derived.SizedLaws
import Derived.Deep.SlicePairs
import Derived.Deep.Strs
import Derived.Lib.SmallJoins
import Derived.Laws.IdiomArrays
namespace Go.Proofs.Ythmclonjgbmhhaa
open Go.ChangeShapes Go.WideShapes Go.ChangeAt Go.RowKit Go.Deep Go.Joins
set_option linter.unusedVariables false

section
variable {H : Type} {enc : TypeId × Value → H} {W : World} {base : Nat} {spare : Nat → Bool} {held : Bool}

theorem int_of {n : Nat} {v : Value} {y : DataW H × List MemPlace} (h : DataW.trod enc Try.prog W base spare held n 3 [v] = some y) : ∃ k, v = .int .i64 k := by
  obtain ⟨k, hk, _, _⟩ := DataW.trod_int Try.underlying3 h
  injection hk with hk
  exact ⟨k, hk⟩

theorem dot_of {n : Nat} {a b : Value} {y : DataW H × List MemPlace} (h : DataW.trod enc Try.prog W base spare held n 24 [a, b] = some y) : ∃ d : Dot, a = .int .i64 d.nd ∧ b = .int .i64 d.n := by
  obtain ⟨y0, y1, n, hx, _, h0, h1⟩ := trod_struct2 Try.underlying24 h
  have c3 : Try.prog.cellsOf 3 = 1 := by kernel_rfl
  simp [c3] at h0 h1
  obtain ⟨k0, rfl⟩ := int_of h0
  obtain ⟨k1, rfl⟩ := int_of h1
  exact ⟨⟨k0, k1⟩, rfl, rfl⟩

theorem hold_of {n : Nat} {a b c d : Value} {y : DataW H × List MemPlace} (h : DataW.trod enc Try.prog W base spare held n 30 [a, b, c, d] = some y) : ∃ t : Hold, [a, b, c, d] = hcs t := by
  obtain ⟨y0, y1, y2, n, hx, _, h0, h1, h2⟩ := trod_struct3 Try.underlying30 h
  have c3 : Try.prog.cellsOf 3 = 1 := by kernel_rfl
  have c4 : Try.prog.cellsOf 24 = 2 := by kernel_rfl
  simp [c3, c4] at h0 h1 h2
  obtain ⟨dd, rfl, rfl⟩ := dot_of h0
  obtain ⟨k0, rfl⟩ := int_of h1
  obtain ⟨k1, rfl⟩ := int_of h2
  exact ⟨⟨dd, k0, k1⟩, rfl⟩

theorem open_holds {A : Option Addr} {len cap : Nat} {d : DataW H} {p : List MemPlace}
    (ht : DataW.Trod enc Try.prog W base spare held 22 (.slice A len cap) d p) :
    ∃ l : List Hold, l.length = len ∧ len ≤ 9223372036854775807 ∧ Sl W 4 A l.length (hcells l) := by
  obtain ⟨fuel, hf⟩ := ht
  have ce : Try.prog.cellsOf 30 = 4 := by kernel_rfl
  rcases open_slice Try.underlying22 hf with ⟨hcs, _⟩ | ⟨a, l, c, m, n, D, Pl, hcs, hb, hl, hm, hmm, hx, hi⟩
  · simp [Value.cells] at hcs
    obtain ⟨rfl, rfl, rfl⟩ := hcs
    exact ⟨[], rfl, by omega, Sl.nil _ _ _⟩
  · simp [Value.cells] at hcs
    obtain ⟨rfl, rfl, rfl⟩ := hcs
    have hlm : len ≤ m := by rw [hmm]; split <;> omega
    have each : ∀ i, ∃ t : Hold, i < len → ∀ j u, (hcs t)[j]? = some u → W.cell? (a.add (i * 4 + j)) = some u := fun i => by
      by_cases h : i < len
      · obtain ⟨cs', h1, h2⟩ := hi i (by omega)
        rw [ce] at h1
        obtain ⟨_, hlen, hcell⟩ := World.cells?_some h1
        match cs', hlen with
        | [v0, v1, v2, v3], _ =>
          obtain ⟨t, ht⟩ := hold_of h2
          refine ⟨t, fun _ j u hu => ?_⟩
          rw [← ht] at hu
          have hj : j < 4 := (List.getElem?_eq_some_iff.1 hu).1
          have := hcell j hj
          rw [Go.Deep.add_add] at this
          rw [this]; exact hu
      · exact ⟨z0, fun h' => absurd h' h⟩
    have key : ∃ T : Nat → Hold, ∀ i, i < len → ∀ j u, (hcs (T i))[j]? = some u → W.cell? (a.add (i * 4 + j)) = some u := ⟨fun i => Classical.choose (each i), fun i => Classical.choose_spec (each i)⟩
    obtain ⟨T, hT⟩ := key
    have hll : ((List.range len).map T).length = len := by simp
    refine ⟨(List.range len).map T, hll, by simp only [maxLen] at hm; omega, ⟨hcells_length _, fun h0 => ?_⟩⟩
    rw [hll] at h0
    obtain ⟨b, o, sp⟩ := a
    have hc0 := hT 0 h0 0 (.int .i64 (T 0).d.nd) rfl
    have hs : sp = none := by simpa [Addr.add] using World.cell?_spot hc0
    subst hs
    refine ⟨b, o, rfl, ?_, fun j u hu => ?_⟩
    · have := World.block_lt_of_cell? W _ hc0
      simpa [Addr.add_lit] using this
    · have hj : j < len * 4 := by
        have := (List.getElem?_eq_some_iff.1 hu).1
        rw [hcells_length, hll] at this
        exact this
      have hq : j / 4 < len := by omega
      have hat : ((List.range len).map T)[j / 4]? = some (T (j / 4)) := by simp [hq]
      have hfm := fm_at hcs 4 hcs_len _ _ _ hat (j % 4) (by omega)
      have hmod : j = j / 4 * 4 + j % 4 := by omega
      rw [← hmod] at hfm
      unfold hcells at hu
      rw [hfm] at hu
      have := hT (j / 4) hq (j % 4) u hu
      rw [Addr.add_lit, ← hmod] at this
      exact this
end

#print axioms open_holds
end Go.Proofs.Ythmclonjgbmhhaa
