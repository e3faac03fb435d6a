/-
  A catalogue as an argument, opened.
-/
import Derived.Test.YtkfpnpfopinbkaaPlain
import Derived.ProofKit
import Derived.OpenShut
import Derived.ChangeOld
import Derived.SizedLaws
import Derived.Deep.SlicePairs
namespace Go.Proofs.Ytkfpnpfopinbkaa
open Go.ChangeShapes Go.WideShapes Go.ChangeAt Go.RowKit Go.Deep
set_option linter.unusedVariables false

theorem weights_mem_all {H : Type} {P : Program} {e : TypeId} : ∀ {ds : List (DataW H)} {d : DataW H}, d ∈ ds → ∀ n ∈ d.weights P e, n ∈ DataW.weightsAll P e ds
  | d0 :: ds, d, hd, n, hn => by
    simp only [DataW.weightsAll, List.mem_append]
    rcases List.mem_cons.1 hd with rfl | hd
    · exact .inl hn
    · exact .inr (weights_mem_all hd n hn)

theorem open_tags {H : Type} {enc : TypeId × Value → H} {W : World} {base : Nat} {spare : Nat → Bool} {held : Bool} {A : Option Addr} {len cap : Nat} {d : DataW H} {p : List MemPlace} {ts : List TypeId} {ds : List (DataW H)} {j : Nat}
    (ht : DataW.Trod enc Try.prog W base spare held 22 (.slice A len cap) d p)
    (hts : ts[j]? = some 22) (hds : ds[j]? = some d) (hw : (DataW.weightsEach Try.prog ts ds).all (· ≤ reachBytes) = true) :
    ∃ l : List Tag, l.length = len ∧ len ≤ 9223372036854775807 ∧ Sl W 2 A l.length (tcells l) ∧ (∀ t ∈ l, t.nm.length < 9223372036854775807) := by
  obtain ⟨fuel, hf⟩ := ht
  rcases open_slice_pairs Try.underlying22 Try.underlying42 (by kernel_rfl) rfl rfl (by kernel_rfl) (by kernel_rfl) hf with ⟨hcs, _⟩ | ⟨a, l, c, m, n, V0, V1, D0, D1, P0, P1, hcs, _, hl, hm, hmm, hx, hi⟩
  · simp [Value.cells] at hcs
    obtain ⟨rfl, rfl, rfl⟩ := hcs
    exact ⟨[], rfl, by omega, Sl.nil _ _ _, fun _ h => by cases h⟩
  · simp [Value.cells] at hcs
    obtain ⟨rfl, rfl, rfl⟩ := hcs
    have hlm : len ≤ m := by rw [hmm]; split <;> omega
    have hd : d = .slice ((List.range len).map fun i => .agg [D0 i, D1 i]) ((List.range (m - len)).map fun j => .agg [D0 (len + j), D1 (len + j)]) := (Prod.mk.inj hx).1
    have each : ∀ i, ∃ t : Tag, i < len → V0 i = .string (str t.nm) ∧ V1 i = .int .i64 t.n ∧ t.nm.length < 9223372036854775807 := fun i => by
      by_cases h : i < len
      · obtain ⟨h1, h2, h3, h4⟩ := hi i (by omega)
        obtain ⟨s, hs1, hs2, _⟩ := DataW.trod_string Try.underlying9 h3
        obtain ⟨k, hk1, hk2, _⟩ := DataW.trod_int Try.underlying3 h4
        injection hs1 with hs1; injection hk1 with hk1
        have hD : D0 i = .lit (.string s.data.toList) := (Prod.mk.inj hs2).1
        refine ⟨⟨s.data.toList, k⟩, fun _ => ⟨by rw [hs1]; simp [str], hk1, ?_⟩⟩
        have hb : s.data.toList.length ≤ reachBytes := by
          have hm1 : s.data.toList.length ∈ (D0 i).weights Try.prog 9 := by rw [hD]; simp [DataW.weights]
          have hm2 : s.data.toList.length ∈ (DataW.agg [D0 i, D1 i]).weights Try.prog 42 := by
            simp only [DataW.weights, Try.underlying42]
            exact DataW.weights_mem_each (j := 0) rfl rfl _ hm1
          have hm3 : s.data.toList.length ∈ d.weights Try.prog 22 := by
            rw [hd]
            simp only [DataW.weights, Try.underlying22]
            refine List.mem_cons_of_mem _ (List.mem_append_left _ (weights_mem_all (d := .agg [D0 i, D1 i]) ?_ _ hm2))
            exact List.mem_map.2 ⟨i, List.mem_range.2 h, rfl⟩
          have := List.all_eq_true.1 hw _ (DataW.weights_mem_each hts hds _ hm3)
          simpa using this
        have := reachBytes_lt
        show s.data.toList.length < _
        omega
      · exact ⟨⟨[], 0⟩, fun h' => absurd h' h⟩
    have key : ∃ T : Nat → Tag, ∀ i, i < len → V0 i = .string (str (T i).nm) ∧ V1 i = .int .i64 (T i).n ∧ (T i).nm.length < 9223372036854775807 :=
      ⟨fun i => Classical.choose (each i), fun i => Classical.choose_spec (each i)⟩
    obtain ⟨T, hT⟩ := key
    have hll : ((List.range len).map T).length = len := by simp
    refine ⟨(List.range len).map T, hll, by simp only [maxLen] at hm; omega, ⟨tcells_length _, fun h0 => ?_⟩, fun t ht => ?_⟩
    · rw [hll] at h0
      obtain ⟨b, o, sp⟩ := a
      have hc0 := (hi 0 (by omega)).1
      have hs : sp = none := by simpa [Addr.add] using World.cell?_spot hc0
      subst hs
      refine ⟨b, o, rfl, ?_, fun j u hu => ?_⟩
      · have := World.block_lt_of_cell? W _ hc0
        simpa [Addr.add_lit] using this
      · have hj : j < len * 2 := by
          have := (List.getElem?_eq_some_iff.1 hu).1
          rw [tcells_length, hll] at this
          exact this
        have hq : j / 2 < len := by omega
        have hat : ((List.range len).map T)[j / 2]? = some (T (j / 2)) := by simp [hq]
        obtain ⟨e1, e2, _⟩ := hT _ hq
        obtain ⟨c0, c1, _⟩ := hi (j / 2) (by omega)
        rw [Addr.add_lit] at c0 c1
        have hmod : j = j / 2 * 2 + j % 2 := by omega
        have hfm := fm_at tc 2 tc_len _ _ _ hat (j % 2) (by omega)
        rw [← hmod] at hfm
        unfold tcells at hu
        rw [hfm] at hu
        rcases Nat.mod_two_eq_zero_or_one j with h2 | h2
        · rw [h2] at hu
          have hu' : some (Value.string (str (T (j / 2)).nm)) = some u := hu
          rw [show j = j / 2 * 2 by omega, ← hu', ← e1]
          exact c0
        · rw [h2] at hu
          have hu' : some (Value.int .i64 (T (j / 2)).n) = some u := hu
          rw [← hu', ← e2, show o + j = o + (j / 2 * 2 + 1) by omega]
          exact c1
    · obtain ⟨i, hi', rfl⟩ := List.mem_map.1 ht
      exact (hT i (List.mem_range.1 hi')).2.2

#print axioms open_tags
end Go.Proofs.Ytkfpnpfopinbkaa
