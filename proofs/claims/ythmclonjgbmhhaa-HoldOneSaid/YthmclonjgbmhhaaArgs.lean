/-
  Structs, an array, calls as arguments, opened.
-/
import Derived.Test.YthmclonjgbmhhaaRow
namespace Go.Proofs.Ythmclonjgbmhhaa
open Go.ChangeShapes Go.WideShapes Go.ChangeAt Go.RowKit Go.Deep Go.Joins
set_option linter.unusedVariables false

section
variable {H : Type} {enc : TypeId × Value → H} {W : World} {base b0 : Nat} {r : Reach} {spare : Nat → Bool} {held : Bool} {v : Value} {d : DataW H} {p : List MemPlace}

theorem arg_dot (hv : Value.okWide Try.prog W r b0 24 v) (h : DataW.Trod enc Try.prog W base spare held 24 v d p) : ∃ x : Dot, v = .agg #[.int .i64 x.nd, .int .i64 x.n] := by
  obtain ⟨cs, rfl, hsz⟩ := okWide_struct Try.underlying24 hv
  obtain ⟨c0, c1, rfl⟩ := array2 (hsz.trans (by kernel_rfl))
  obtain ⟨fuel, hf⟩ := h
  obtain ⟨x, rfl, rfl⟩ := dot_of hf
  exact ⟨x, rfl⟩

theorem arg_hold (hv : Value.okWide Try.prog W r b0 30 v) (h : DataW.Trod enc Try.prog W base spare held 30 v d p) : ∃ x : Hold, v = .agg #[.int .i64 x.d.nd, .int .i64 x.d.n, .int .i64 x.rc, .int .i64 x.un] := by
  obtain ⟨cs, rfl, hsz⟩ := okWide_struct Try.underlying30 hv
  obtain ⟨c0, c1, c2, c3, rfl⟩ := array4 (hsz.trans (by kernel_rfl))
  obtain ⟨fuel, hf⟩ := h
  obtain ⟨x, hx⟩ := hold_of hf
  refine ⟨x, ?_⟩
  simp only [hcs, List.cons.injEq] at hx
  obtain ⟨rfl, rfl, rfl, rfl, _⟩ := hx
  rfl

theorem arg_ask (hv : Value.okWide Try.prog W r b0 40 v) (h : DataW.Trod enc Try.prog W base spare held 40 v d p) : ∃ (n : Int) (b : Bool), v = .agg #[.int .i64 n, .bool b] := by
  obtain ⟨v0, v1, y0, y1, n, rfl, -, -, h0, h1⟩ := open_agg2 Try.underlying40 (by kernel_rfl) (by kernel_rfl) hv h
  obtain ⟨k, rfl⟩ := int_of h0
  obtain ⟨b, hb, _⟩ := DataW.trod_bool Try.underlying4 h1
  injection hb with hb
  subst hb
  exact ⟨k, b, rfl⟩

theorem arg_four (hv : Value.okWide Try.prog W r b0 25 v) (h : DataW.Trod enc Try.prog W base spare held 25 v d p) : ∃ a b c e : Int, v = .agg #[.int .i64 a, .int .i64 b, .int .i64 c, .int .i64 e] := by
  simp only [Value.okWide, Try.underlying25] at hv
  obtain ⟨cs, rfl, hsz, _⟩ := hv
  obtain ⟨c0, c1, c2, c3, rfl⟩ := array4 (hsz.trans (by kernel_rfl))
  obtain ⟨fuel, hf⟩ := h
  obtain ⟨y0, y1, y2, y3, n, hx, h0, h1, h2, h3⟩ := trod_array4 Try.underlying25 (by kernel_rfl) hf
  obtain ⟨k0, rfl⟩ := int_of h0
  obtain ⟨k1, rfl⟩ := int_of h1
  obtain ⟨k2, rfl⟩ := int_of h2
  obtain ⟨k3, rfl⟩ := int_of h3
  exact ⟨k0, k1, k2, k3, rfl⟩

/-- A call of an owner. -/
structure Call where
  kind : Int
  step : Int
  rc : Int
  long : Int
def ccs (c : Call) : List Value := [.int .i64 c.kind, .int .i64 c.step, .int .i64 c.rc, .int .i64 c.long]
def ccells (l : List Call) : List Value := l.flatMap ccs
theorem ccs_len (c : Call) : (ccs c).length = 4 := rfl
theorem ccells_length (l : List Call) : (ccells l).length = l.length * 4 := fm_length ccs 4 ccs_len l

theorem call_cells {w : World} {A : Option Addr} {l : List Call} {k : Nat} {t : Call} (h : Sl w 4 A l.length (ccells l)) (hl : l[k]? = some t) :
    ∃ g o, A = some ⟨g, o, none⟩ ∧ g < w.heap.size ∧ w.cell? ⟨g, o + k * 4, none⟩ = some (.int .i64 t.kind) ∧ w.cell? ⟨g, o + k * 4 + 1, none⟩ = some (.int .i64 t.step) ∧ w.cell? ⟨g, o + k * 4 + 2, none⟩ = some (.int .i64 t.rc) ∧ w.cell? ⟨g, o + k * 4 + 3, none⟩ = some (.int .i64 t.long) := by
  have hk : k < l.length := (List.getElem?_eq_some_iff.1 hl).1
  obtain ⟨g, o, rfl, hg, hc⟩ := h.2 (by omega)
  refine ⟨g, o, rfl, hg, ?_, ?_, ?_, ?_⟩
  · have := hc (k * 4 + 0) (.int .i64 t.kind) (by rw [ccells, fm_at ccs 4 ccs_len l k t hl 0 (by omega)]; rfl)
    simpa using this
  · rw [Nat.add_assoc]; exact hc (k * 4 + 1) _ (by rw [ccells, fm_at ccs 4 ccs_len l k t hl 1 (by omega)]; rfl)
  · rw [Nat.add_assoc]; exact hc (k * 4 + 2) _ (by rw [ccells, fm_at ccs 4 ccs_len l k t hl 2 (by omega)]; rfl)
  · rw [Nat.add_assoc]; exact hc (k * 4 + 3) _ (by rw [ccells, fm_at ccs 4 ccs_len l k t hl 3 (by omega)]; rfl)

theorem call_of {n : Nat} {a b c e : Value} {y : DataW H × List MemPlace} (h : DataW.trod enc Try.prog W base spare held n 51 [a, b, c, e] = some y) : ∃ t : Call, [a, b, c, e] = ccs t := by
  obtain ⟨y0, y1, y2, y3, n, hx, _, h0, h1, h2, h3⟩ := trod_struct4 Try.underlying51 h
  have c3 : Try.prog.cellsOf 3 = 1 := by kernel_rfl
  simp [c3] at h0 h1 h2 h3
  obtain ⟨k0, rfl⟩ := int_of h0
  obtain ⟨k1, rfl⟩ := int_of h1
  obtain ⟨k2, rfl⟩ := int_of h2
  obtain ⟨k3, rfl⟩ := int_of h3
  exact ⟨⟨k0, k1, k2, k3⟩, rfl⟩

theorem open_calls {A : Option Addr} {len cap : Nat}
    (ht : DataW.Trod enc Try.prog W base spare held 48 (.slice A len cap) d p) :
    ∃ l : List Call, l.length = len ∧ len ≤ 9223372036854775807 ∧ Sl W 4 A l.length (ccells l) := by
  obtain ⟨fuel, hf⟩ := ht
  have ce : Try.prog.cellsOf 51 = 4 := by kernel_rfl
  rcases open_slice Try.underlying48 hf with ⟨hcs, _⟩ | ⟨a, l, c, m, n, D, Pl, hcs, hb, hl, hm, hmm, hx, hi⟩
  · simp [Value.cells] at hcs
    obtain ⟨rfl, rfl, rfl⟩ := hcs
    exact ⟨[], rfl, by omega, Sl.nil _ _ _⟩
  · simp [Value.cells] at hcs
    obtain ⟨rfl, rfl, rfl⟩ := hcs
    have hlm : len ≤ m := by rw [hmm]; split <;> omega
    have each : ∀ i, ∃ t : Call, i < len → ∀ j u, (ccs t)[j]? = some u → W.cell? (a.add (i * 4 + j)) = some u := fun i => by
      by_cases h : i < len
      · obtain ⟨cs', h1, h2⟩ := hi i (by omega)
        rw [ce] at h1
        obtain ⟨_, hlen, hcell⟩ := World.cells?_some h1
        match cs', hlen with
        | [v0, v1, v2, v3], _ =>
          obtain ⟨t, ht⟩ := call_of h2
          refine ⟨t, fun _ j u hu => ?_⟩
          rw [← ht] at hu
          have hj : j < 4 := (List.getElem?_eq_some_iff.1 hu).1
          have := hcell j hj
          rw [Go.Deep.add_add] at this
          rw [this]; exact hu
      · exact ⟨⟨0, 0, 0, 0⟩, fun h' => absurd h' h⟩
    have key : ∃ T : Nat → Call, ∀ i, i < len → ∀ j u, (ccs (T i))[j]? = some u → W.cell? (a.add (i * 4 + j)) = some u := ⟨fun i => Classical.choose (each i), fun i => Classical.choose_spec (each i)⟩
    obtain ⟨T, hT⟩ := key
    have hll : ((List.range len).map T).length = len := by simp
    refine ⟨(List.range len).map T, hll, by simp only [maxLen] at hm; omega, ⟨ccells_length _, fun h0 => ?_⟩⟩
    rw [hll] at h0
    obtain ⟨b, o, sp⟩ := a
    have hc0 := hT 0 h0 0 (.int .i64 (T 0).kind) rfl
    have hs : sp = none := by simpa [Addr.add] using World.cell?_spot hc0
    subst hs
    refine ⟨b, o, rfl, ?_, fun j u hu => ?_⟩
    · have := World.block_lt_of_cell? W _ hc0
      simpa [Addr.add_lit] using this
    · have hj : j < len * 4 := by
        have := (List.getElem?_eq_some_iff.1 hu).1
        rw [ccells_length, hll] at this
        exact this
      have hq : j / 4 < len := by omega
      have hat : ((List.range len).map T)[j / 4]? = some (T (j / 4)) := by simp [hq]
      have hfm := fm_at ccs 4 ccs_len _ _ _ hat (j % 4) (by omega)
      have hmod : j = j / 4 * 4 + j % 4 := by omega
      rw [← hmod] at hfm
      unfold ccells at hu
      rw [hfm] at hu
      have := hT (j / 4) hq (j % 4) u hu
      rw [Addr.add_lit, ← hmod] at this
      exact this
end

#print axioms arg_ask
#print axioms arg_four
#print axioms open_calls
end Go.Proofs.Ythmclonjgbmhhaa
