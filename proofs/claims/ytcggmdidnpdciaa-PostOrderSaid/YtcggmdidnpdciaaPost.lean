/-
  The post: its methods, each by a contract.
-/
import Derived.Test.YtcggmdidnpdciaaMet
namespace Go.Proofs.Ytcggmdidnpdciaa
open Go.RowKit

/-- A letter. -/
structure Letter where
  f : Int
  t : Int
  b : ByteArray

abbrev Letter.val (l : Letter) : Value := .agg #[.int .i64 l.f, .int .i64 l.t, .string l.b]
def lcells (L : List Letter) : List Value := L.flatMap fun l => [.int .i64 l.f, .int .i64 l.t, .string l.b]

theorem lcells_length (L : List Letter) : (lcells L).length = L.length * 3 := by
  unfold lcells
  induction L with
  | nil => rfl
  | cons l L ih => rw [List.flatMap_cons, List.length_append, ih]; simp; omega

theorem lcells_append (L M : List Letter) : lcells (L ++ M) = lcells L ++ lcells M := by unfold lcells; rw [List.flatMap_append]

theorem lcells_drop (L : List Letter) (k : Nat) : lcells (L.drop k) = (lcells L).drop (k * 3) := by
  induction L generalizing k with
  | nil => simp [lcells]
  | cons l L ih =>
    cases k with
    | zero => simp
    | succ k =>
      rw [List.drop_succ_cons, ih]
      have : (k + 1) * 3 = k * 3 + 3 := by omega
      rw [this]
      simp [lcells, List.flatMap_cons]

theorem lcells_take (L : List Letter) (k : Nat) : lcells (L.take k) = (lcells L).take (k * 3) := by
  induction L generalizing k with
  | nil => simp [lcells]
  | cons l L ih =>
    cases k with
    | zero => simp [lcells]
    | succ k =>
      have h : (k + 1) * 3 = k * 3 + 1 + 1 + 1 := by omega
      rw [List.take_succ_cons, h]
      simp only [lcells, List.flatMap_cons, List.cons_append, List.nil_append, List.take_succ_cons] at ih ⊢
      rw [ih]

theorem lcells_at (L : List Letter) (k : Nat) (l : Letter) (h : L[k]? = some l) :
    (lcells L)[k * 3]? = some (.int .i64 l.f) ∧ (lcells L)[k * 3 + 1]? = some (.int .i64 l.t) ∧ (lcells L)[k * 3 + 2]? = some (.string l.b) := by
  have hk : k < L.length := (List.getElem?_eq_some_iff.1 h).1
  have hd : L.drop k = l :: L.drop (k + 1) := by
    rw [List.drop_eq_getElem_cons hk]
    congr 1
    rw [List.getElem?_eq_getElem hk] at h
    injection h
  have hc : (lcells L).drop (k * 3) = .int .i64 l.f :: .int .i64 l.t :: .string l.b :: lcells (L.drop (k + 1)) := by
    rw [← lcells_drop, hd]; simp [lcells, List.flatMap_cons]
  refine ⟨?_, ?_, ?_⟩
  · have := congrArg (·[0]?) hc; simpa using this
  · have := congrArg (·[1]?) hc; simpa using this
  · have := congrArg (·[2]?) hc; simpa using this

/-- Rows of ints, of blocks of type int, in a row of type []int. -/
def GRow (w : World) (A : Option Addr) (G : List (List Int)) : Prop :=
  ∃ vs, Row w 28 1 A G.length vs ∧ ∀ (i : Nat) (zs : List Int), G[i]? = some zs → ∃ Ai ci, vs[i]? = some (Value.slice Ai zs.length ci) ∧ Row w 3 1 Ai zs.length (ints zs) ∧ zs.length ≤ 9223372036854775807

theorem GRow.gsl {w : World} {A : Option Addr} {G : List (List Int)} (h : GRow w A G) : GSl w A G.length G := by
  obtain ⟨vs, hr, hG⟩ := h
  refine ⟨vs, hr.sl, rfl, fun i zs hi => ?_⟩
  obtain ⟨Ai, ci, h1, h2, h3⟩ := hG i zs hi
  exact ⟨Ai, ci, h1, h2.sl, h3⟩

theorem GRow.keep {w w' : World} {A : Option Addr} {G : List (List Int)} (h : GRow w A G)
    (hk : ∀ g, g < w.heap.size → ((∃ cur, w.heap[g]? = some (.cells cur 3 (0, 0))) ∨ (∃ cur, w.heap[g]? = some (.cells cur 28 (0, 0)))) → w'.heap[g]? = w.heap[g]?) : GRow w' A G := by
  obtain ⟨vs, hr, hG⟩ := h
  refine ⟨vs, hr.keep fun g hg hc => hk g hg (.inr hc), fun i zs hi => ?_⟩
  obtain ⟨Ai, ci, h1, h2, h3⟩ := hG i zs hi
  exact ⟨Ai, ci, h1, h2.keep fun g hg hc => hk g hg (.inl hc), h3⟩

theorem GRow.below {w w' : World} {A : Option Addr} {G : List (List Int)} (h : GRow w A G) (hb : Below w.heap.size w w') : GRow w' A G := h.keep fun g hg _ => hb.block g hg

/-- The post at block g: its letters, its groups. -/
def PostAt (w : World) (g : Nat) (L : List Letter) (G : List (List Int)) : Prop :=
  ∃ A c Ag cg, Blk w g 44 #[.slice A L.length c, .slice Ag G.length cg] ∧ Row w 32 3 A L.length (lcells L) ∧ L.length ≤ c ∧ L.length ≤ 10000 ∧ GRow w Ag G ∧ G.length ≤ 1000000

theorem PostAt.below {w w' : World} {g : Nat} {L : List Letter} {G : List (List Int)} (h : PostAt w g L G) (hb : Below w.heap.size w w') : PostAt w' g L G := by
  obtain ⟨A, c, Ag, cg, h1, h2, h3, h4, h5, h6⟩ := h
  exact ⟨A, c, Ag, cg, h1.below hb, h2.below hb, h3, h4, h5.below hb, h6⟩

/-- Do two meet? -/
def meets (G : List (List Int)) (a b : Int) : Bool := a == b || (G.length == 0 || G.any (both a b))

set_option maxHeartbeats 400000 in
theorem new_any (w : World) :
    Calls Try.prog 8 #[] w fun e w' => e = .returned (.pointer (some ⟨w.heap.size, 0, none⟩)) ∧ w' = w.alloc (.cells #[.slice none 0 0, .slice none 0 0] 44) := by
  go_enter Try.func8, Try.ntmps8
  go_wp2_with fail
  go_ret
  exact ⟨rfl, rfl⟩

set_option maxHeartbeats 400000 in
theorem has_any (g : Nat) (L : List Letter) (G : List (List Int)) (i : Int) (w : World) (hp : PostAt w g L G) :
    Calls Try.prog 23 #[.pointer (some ⟨g, 0, none⟩), .int .i64 i] w fun e w' => e = .returned (.bool (decide (0 ≤ i ∧ i < L.length))) ∧ w = w' := by
  obtain ⟨A, c, Ag, cg, hb, -⟩ := hp
  have h0 := hb.cell 0
  simp at h0
  clear hb
  by_cases h1 : 0 ≤ i
  · have h1' : decide (0 ≤ i) = true := by simpa using h1
    go_enter Try.func23, Try.ntmps23
    go_wp2_with fail
    go_ret
    exact ⟨by simp [h1], rfl⟩
  · have h1' : decide (0 ≤ i) = false := by simpa using h1
    have h1'' : i < 0 := by omega
    go_enter Try.func23, Try.ntmps23
    go_wp2_with fail
    go_ret
    exact ⟨by simp, rfl⟩

theorem has_nil (i : Int) (w : World) :
    Calls Try.prog 23 #[.pointer none, .int .i64 i] w fun e w' => e = .returned (.bool false) ∧ w = w' := by
  go_enter Try.func23, Try.ntmps23
  go_wp2_with fail
  go_ret
  exact ⟨rfl, rfl⟩

theorem len_any (g : Nat) (L : List Letter) (G : List (List Int)) (w : World) (hp : PostAt w g L G) :
    Calls Try.prog 14 #[.pointer (some ⟨g, 0, none⟩)] w fun e w' => e = .returned (.int .i64 L.length) ∧ w = w' := by
  obtain ⟨A, c, Ag, cg, hb, -⟩ := hp
  have h0 := hb.cell 0
  simp at h0
  clear hb
  go_enter Try.func14, Try.ntmps14
  go_wp2_with fail
  go_ret
  exact ⟨rfl, rfl⟩

#print axioms len_any
end Go.Proofs.Ytcggmdidnpdciaa
