/-
  PostParts returns true for every row of groups and every two nodes, and leaves its arguments as they were. No condition.
-/
import Derived.Test.YtcggmdidnpdciaaParts
import Derived.ProofKit
import Derived.OpenShut
import Derived.ChangeOld
import Derived.Deep.Matrix
namespace Go.Proofs.Ytcggmdidnpdciaa.postParts
open Go.ChangeShapes Go.WideShapes Go.ChangeAt Go.RowKit Go.Deep
set_option linter.unusedVariables false

theorem own : ownKnob Try.prog.godebug = none := by kernel_rfl
theorem laidOut : laidOutB Try.prog = true := by kernel_rfl

/-- What was read of a slice of slices of ints, in the walk's words. -/
theorem gold {W : World} {a : Addr} {len cap : Nat} {A : Nat → Option Addr} {L C : Nat → Nat} {Z : Nat → List Int} (hl : len ≤ cap) (hm : cap ≤ maxLen)
    (h : ∀ r, r < cap → W.cell? (a.add r) = some (.slice (A r) (L r) (C r)) ∧ L r ≤ C r ∧ C r ≤ maxLen ∧ (Z r).length = C r ∧ (∀ n ∈ Z r, (Lit.int .i64 n).wf = true) ∧ (A r = none → C r = 0) ∧
      ∀ a', A r = some a' → 0 ≤ a'.block ∧ ∀ c, c < C r → W.cell? (a'.add c) = some (.int .i64 ((Z r).getD c 0))) :
    GOld W (some a) ((List.range len).map fun r => (Z r).take (L r)) := by
  refine ⟨(List.range len).map fun r => .slice (A r) (L r) (C r), ⟨by simp, fun h0 => ?_⟩, fun i zs hi => ?_⟩
  · have hlen : 0 < len := by simpa using h0
    obtain ⟨b, o, s⟩ := a
    have hc0 := (h 0 (by omega)).1
    have hs : s = none := by simpa [Addr.add] using World.cell?_spot hc0
    subst hs
    refine ⟨b, o, rfl, ?_, fun j u hu => ?_⟩
    · have := World.block_lt_of_cell? W _ hc0
      simpa [Addr.add_lit] using this
    · have hj : j < len := by
        have := (List.getElem?_eq_some_iff.1 hu).1
        simpa using this
      have hj' := (h j (by omega)).1
      rw [Addr.add_lit] at hj'
      rw [hj']
      simpa [hj] using hu
  · have hj : i < len := by
      have := (List.getElem?_eq_some_iff.1 hi).1
      simpa using this
    obtain ⟨h1, h2, h3, h4, _, h6, h7⟩ := h i (by omega)
    have hz : zs = (Z i).take (L i) := by
      have e : ((List.range len).map fun r => (Z r).take (L r))[i]? = some ((Z i).take (L i)) := by simp [hj]
      rw [e] at hi; injection hi with hi; exact hi.symm
    have hzl : zs.length = L i := by rw [hz, List.length_take, h4]; omega
    refine ⟨A i, C i, by rw [hzl]; simp [hj], ⟨by simp, fun h0 => ?_⟩, by omega, by simp only [maxLen] at h3; omega⟩
    obtain ⟨a', ha'⟩ : ∃ a', A i = some a' := by
      cases hA : A i with
      | none => have := h6 hA; omega
      | some a' => exact ⟨a', rfl⟩
    obtain ⟨_, hc⟩ := h7 a' ha'
    obtain ⟨b, o, s⟩ := a'
    have hc0 := hc 0 (by omega)
    have hs : s = none := by simpa [Addr.add] using World.cell?_spot hc0
    subst hs
    refine ⟨b, o, ha', ?_, fun j u hu => ?_⟩
    · have := World.block_lt_of_cell? W _ hc0
      simpa [Addr.add_lit] using this
    · have hjl : j < zs.length := by
        have := (List.getElem?_eq_some_iff.1 hu).1
        simpa using this
      have hcj := hc j (by omega)
      rw [Addr.add_lit] at hcj
      rw [hcj, ← hu, hz]
      have hjz : j < (Z i).length := by omega
      have hjL : j < L i := by omega
      simp [List.getD, hjL, hjz]

set_option maxRecDepth 100000 in
theorem lifted (os : Os) (started : os.Started) (H : Type) (enc : TypeId × Value → H) :
    ReturnsInHanded {} Try.checked os 3 .any (Rows.postPartsSpec.pre6 enc Try.prog Try.f3 Rows.postPartsRow.domain false) (Rows.postPartsSpec.post enc Try.prog Try.f3 false true false false) := by
  refine returnsInHanded_of_change (C := Try.checked) own started (by kernel_rfl) Try.func3
    (ChangeSpec.witness6 (enc := enc) (C := Try.checked) false ⟨#[], #[.slice none 0 0, .int .i64 0, .int .i64 0], []⟩ 8 (by kernel_rfl) (by kernel_rfl) (by kernel_rfl) (by kernel_rfl)) ?_
  intro W base args ds gs before hval0 hW hcnd _
  have hval : ∀ (j : Nat) t v, Try.f3.params[j]? = some t → args[j]? = some v → Value.okWide Try.prog W .any base t v := hval0
  have hW' := hW
  obtain ⟨p, q, hA0, hV, rfl, hfz, hnd⟩ := hW
  have hA : DataW.TrodAll enc Try.prog W 0 (fun _ => true) true Try.f3.params.toList args.toList ds p := hA0
  rw [Try.params3] at hA hval
  obtain ⟨v0, vs0, d0, ds0, p0, q0, hargs, rfl, rfl, h0, r0⟩ := trodAll_cons hA
  obtain ⟨v1, vs1, d1, ds1, p1, q1, rfl, rfl, rfl, h1, r1⟩ := trodAll_cons r0
  obtain ⟨v2, vs2, d2, ds2, p2, q2, rfl, rfl, rfl, h2, r2⟩ := trodAll_cons r1
  obtain ⟨rfl, rfl, rfl⟩ := trodAll_nil r2
  obtain rfl : args = #[v0, v1, v2] := by cases args; simp_all
  obtain ⟨rfl, rfl⟩ := trodVars_none hV
  obtain ⟨a0, len0, cap0, rfl⟩ := okWide_slice Try.underlying22 (hval 0 22 v0 rfl rfl)
  have k0 := h0
  have lt0 : ∀ x ∈ p0, x.block < W.heap.size := by obtain ⟨m, hm⟩ := k0; exact DataW.trod_lt m _ _ _ hm
  obtain ⟨G, hG, hGl, hGm⟩ : ∃ G, GOld W a0 G ∧ G.length = len0 ∧ len0 ≤ 9223372036854775807 := by
    obtain ⟨fuel, hf⟩ := h0
    rcases open_int_rows Try.underlying22 Try.underlying28 Try.underlying3 (by kernel_rfl) (by kernel_rfl) hf with ⟨hcs, _⟩ | ⟨x, l, c, A, L, C, Z, hcs, _, hl, hm, _, hr⟩
    · simp [Value.cells] at hcs
      obtain ⟨rfl, rfl, rfl⟩ := hcs
      exact ⟨[], ⟨[], Sl.nil _ _ _, by simp⟩, rfl, by omega⟩
    · simp [Value.cells] at hcs
      obtain ⟨rfl, rfl, rfl⟩ := hcs
      exact ⟨_, gold hl hm hr, by simp, by simp only [maxLen] at hm; omega⟩
  subst hGl
  obtain ⟨a1, rfl, rfl, rfl, w1⟩ := open_int Try.underlying3 (hval 1 3 v1 rfl rfl) h1
  obtain ⟨a2, rfl, rfl, rfl, w2⟩ := open_int Try.underlying3 (hval 2 3 v2 rfl rfl) h2
  clear hA0 hval0
  refine (parts_walk a0 cap0 G a1 a2 W hG hGm).mono fun e W' ⟨he, bel⟩ => ?_
  subst he
  exact ⟨_, rfl, _, _, _, [], _, [], hW', trodAll_mk1 (shut_bool Try.underlying4 _), (trodAll_cons_mk (Below.trod laidOut (by kernel_rfl) (of_decide_eq_true (by kernel_rfl)) k0 bel lt0) (trodAll_cons_mk (shut_int Try.underlying3 w1) (trodAll_cons_mk (shut_int Try.underlying3 w2) trodAll_mk0))), rfl, bel.frame _, fun h => by cases h⟩

theorem over : Rows.postPartsRow.holds Try.pinned (OpenSpec.ofChange Rows.postPartsSpec) :=
  OpenClaim.holds_of_wide 3 Try.f3 rfl rfl rfl rfl rfl rfl rfl ⟨rfl, rfl, rfl, rfl, rfl⟩ rfl rfl rfl rfl rfl (by kernel_rfl) Try.func3 (by kernel_rfl)
    (of_decide_eq_true (by kernel_rfl)) (by unfold Func.isWrapper; first | (rw [if_pos (by decide +kernel)]; kernel_rfl) | (rw [if_neg (by decide +kernel)]; exact ⟨rfl, rfl⟩))
    (fun os started H enc _ => lifted os started H enc)

theorem proved : Rows.PostPartsSaid := over
#print axioms proved
end Go.Proofs.Ytcggmdidnpdciaa.postParts
