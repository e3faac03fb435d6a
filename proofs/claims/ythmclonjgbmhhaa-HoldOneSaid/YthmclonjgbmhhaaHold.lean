/-
  Promises, as cells; the small functions on names of messages.
-/
import Derived.Test.YthmclonjgbmhhaaMem
namespace Go.Proofs.Ythmclonjgbmhhaa
open Go.RowKit
set_option linter.unusedVariables false

/-! ### Rows of structs, as cells -/
section
variable {α : Type} (f : α → List Value) (s : Nat) (hf : ∀ a, (f a).length = s)
include hf
theorem fm_length (l : List α) : (l.flatMap f).length = l.length * s := by
  induction l with
  | nil => simp
  | cons a l ih => rw [List.flatMap_cons, List.length_append, ih, hf, List.length_cons, Nat.succ_mul, Nat.add_comm]
theorem fm_drop (l : List α) (k : Nat) : (l.drop k).flatMap f = (l.flatMap f).drop (k * s) := by
  induction l generalizing k with
  | nil => simp
  | cons a l ih =>
    cases k with
    | zero => simp
    | succ k =>
      rw [List.drop_succ_cons, ih, List.flatMap_cons, List.drop_append, hf]
      have e1 : (k + 1) * s - s = k * s := by rw [Nat.succ_mul]; omega
      have e2 : List.drop ((k + 1) * s) (f a) = [] := List.drop_eq_nil_of_le (by rw [hf, Nat.succ_mul]; omega)
      rw [e1, e2, List.nil_append]
theorem fm_take (l : List α) (k : Nat) : (l.take k).flatMap f = (l.flatMap f).take (k * s) := by
  induction l generalizing k with
  | nil => simp
  | cons a l ih =>
    cases k with
    | zero => simp
    | succ k =>
      rw [List.take_succ_cons, List.flatMap_cons, ih, List.flatMap_cons, List.take_append, hf]
      have e1 : (k + 1) * s - s = k * s := by rw [Nat.succ_mul]; omega
      have e2 : List.take ((k + 1) * s) (f a) = f a := List.take_of_length_le (by rw [hf, Nat.succ_mul]; omega)
      rw [e1, e2]
theorem fm_at (l : List α) (k : Nat) (a : α) (h : l[k]? = some a) (j : Nat) (hj : j < s) : (l.flatMap f)[k * s + j]? = (f a)[j]? := by
  have hk : k < l.length := (List.getElem?_eq_some_iff.1 h).1
  have hd : l.drop k = a :: l.drop (k + 1) := by
    rw [List.drop_eq_getElem_cons hk]
    congr 1
    rw [List.getElem?_eq_getElem hk] at h
    injection h
  rw [← List.getElem?_drop, ← fm_drop f s hf, hd, List.flatMap_cons, List.getElem?_append_left (by rw [hf]; exact hj)]
end

/-- A name of a message. -/
structure Dot where
  nd : Int
  n : Int
deriving DecidableEq

/-- A promise. -/
structure Hold where
  d : Dot
  rc : Int
  un : Int
deriving DecidableEq

def dv (d : Dot) : Value := .agg #[.int .i64 d.nd, .int .i64 d.n]
def hcs (h : Hold) : List Value := [.int .i64 h.d.nd, .int .i64 h.d.n, .int .i64 h.rc, .int .i64 h.un]
def hcells (l : List Hold) : List Value := l.flatMap hcs
theorem hcs_len (h : Hold) : (hcs h).length = 4 := rfl
theorem hcells_length (l : List Hold) : (hcells l).length = l.length * 4 := fm_length hcs 4 hcs_len l
theorem hcells_drop (l : List Hold) (k : Nat) : hcells (l.drop k) = (hcells l).drop (k * 4) := fm_drop hcs 4 hcs_len l k
theorem hcells_take (l : List Hold) (k : Nat) : hcells (l.take k) = (hcells l).take (k * 4) := fm_take hcs 4 hcs_len l k
theorem hcells_append (l m : List Hold) : hcells (l ++ m) = hcells l ++ hcells m := by unfold hcells; rw [List.flatMap_append]
theorem hcells_one (l : List Hold) : ∀ u ∈ hcells l, u.oneCell' = true := by
  intro u hu
  obtain ⟨t, _, h⟩ := List.mem_flatMap.1 hu
  simp [hcs] at h
  rcases h with rfl | rfl | rfl | rfl <;> rfl

theorem hold_cells {w : World} {A : Option Addr} {l : List Hold} {k : Nat} {t : Hold} (h : Sl w 4 A l.length (hcells l)) (hl : l[k]? = some t) :
    ∃ g o, A = some ⟨g, o, none⟩ ∧ g < w.heap.size ∧ w.cell? ⟨g, o + k * 4, none⟩ = some (.int .i64 t.d.nd) ∧ w.cell? ⟨g, o + k * 4 + 1, none⟩ = some (.int .i64 t.d.n) ∧ w.cell? ⟨g, o + k * 4 + 2, none⟩ = some (.int .i64 t.rc) ∧ w.cell? ⟨g, o + k * 4 + 3, none⟩ = some (.int .i64 t.un) := by
  have hk : k < l.length := (List.getElem?_eq_some_iff.1 hl).1
  obtain ⟨g, o, rfl, hg, hc⟩ := h.2 (by omega)
  refine ⟨g, o, rfl, hg, ?_, ?_, ?_, ?_⟩
  · have := hc (k * 4 + 0) (.int .i64 t.d.nd) (by rw [hcells, fm_at hcs 4 hcs_len l k t hl 0 (by omega)]; rfl)
    simpa using this
  · rw [Nat.add_assoc]; exact hc (k * 4 + 1) _ (by rw [hcells, fm_at hcs 4 hcs_len l k t hl 1 (by omega)]; rfl)
  · rw [Nat.add_assoc]; exact hc (k * 4 + 2) _ (by rw [hcells, fm_at hcs 4 hcs_len l k t hl 2 (by omega)]; rfl)
  · rw [Nat.add_assoc]; exact hc (k * 4 + 3) _ (by rw [hcells, fm_at hcs 4 hcs_len l k t hl 3 (by omega)]; rfl)

theorem sl_hold (w : World) (t : Hold) (h : Nat) (hh : w.heap.size = h) : Sl (w.alloc (.cells #[.int .i64 t.d.nd, .int .i64 t.d.n, .int .i64 t.rc, .int .i64 t.un] 30)) 4 (some ⟨h, 0, none⟩) 1 (hcells [t]) := by
  subst hh
  refine ⟨rfl, fun _ => ⟨_, _, rfl, by simp, fun j u hu => ?_⟩⟩
  rw [(Blk.new w _ _).cell]
  simpa [hcells, hcs] using hu

/-! ### Bits -/
def bit (n m : Int) : Int := bits .and .i64 n m
theorem bit_in (n : Int) (m : Nat) (hm : m < 1000) : 0 ≤ bit n m ∧ bit n m ≤ m := by
  have h : (BitVec.ofInt 64 n &&& BitVec.ofInt 64 m).toNat ≤ m := by
    rw [BitVec.toNat_and]
    refine Nat.le_trans Nat.and_le_right ?_
    rw [BitVec.toNat_ofInt]; omega
  have h2 : bit n m = ((BitVec.ofInt 64 n &&& BitVec.ofInt 64 m).toNat : Nat) := by
    show IntKind.i64.wrap (((BitVec.ofInt 64 n &&& BitVec.ofInt 64 m).toNat : Nat) : Int) = _
    rw [IntKind.wrap_i64]; omega
  omega

/-! ### Names of messages -/
def okI (n : Int) : Bool := decide (1 ≤ n) && decide (n ≤ 1099511627776)
def okT (n : Int) : Bool := decide (1 ≤ n) && decide (n ≤ 1125899906842624)
def okDot (d : Dot) : Bool := okI d.nd && okI d.n
def dlt (a b : Dot) : Bool := decide (a.nd < b.nd) || (a.nd == b.nd && decide (a.n < b.n))

set_option maxHeartbeats 400000 in
theorem may_any (n : Int) (w : World) :
    Calls Try.prog 41 #[.int .i64 n] w fun e w' => e = .returned (.bool (okI n)) ∧ w = w' := by
  go_enter Try.func41, Try.ntmps41
  go_wp2_with fail
  all_goals
    go_ret
    exact ⟨by simp [okI, *] <;> omega, rfl⟩

set_option maxHeartbeats 400000 in
theorem receipt_any (n : Int) (w : World) :
    Calls Try.prog 26 #[.int .i64 n] w fun e w' => e = .returned (.bool (okI n)) ∧ w = w' := by
  go_enter Try.func26, Try.ntmps26
  go_wp2_with fail
  all_goals
    go_ret
    exact ⟨by simp [okI, *] <;> omega, rfl⟩

set_option maxHeartbeats 400000 in
theorem time_any (n : Int) (w : World) :
    Calls Try.prog 27 #[.int .i64 n] w fun e w' => e = .returned (.bool (okT n)) ∧ w = w' := by
  go_enter Try.func27, Try.ntmps27
  go_wp2_with fail
  all_goals
    go_ret
    exact ⟨by simp [okT, *] <;> omega, rfl⟩

set_option maxHeartbeats 400000 in
theorem dotCheck_any (d : Dot) (w : World) :
    Calls Try.prog 25 #[.agg #[.int .i64 d.nd, .int .i64 d.n]] w fun e w' => e = .returned (.bool (okDot d)) ∧ Below w.heap.size w w' := by
  have HB := fun o => Lib.hid ((Below.refl w.heap.size w).alloc (Nat.le_refl _) o)
  have H : Hid (okDot d = (okI d.nd && okI d.n)) := Lib.hid rfl
  go_enter Try.func25, Try.ntmps25
  go_wp2_with fail
  refine (may_any d.nd _).mono ?_
  rintro e w' ⟨rfl, rfl⟩
  cases h1 : okI d.nd
  · have H1 := Lib.hid h1
    clear h1
    go_wp2_with fail
    go_ret
    exact ⟨by rw [H.out, H1.out]; rfl, (HB _).out⟩
  · have H1 := Lib.hid h1
    clear h1
    go_wp2_with fail
    refine (may_any d.n _).mono ?_
    rintro e w' ⟨rfl, rfl⟩
    go_wp2_with fail
    go_ret
    exact ⟨by rw [H.out, H1.out]; rfl, (HB _).out⟩

set_option maxHeartbeats 400000 in
theorem refCheck_any (d : Dot) (w : World) :
    Calls Try.prog 35 #[.agg #[.int .i64 d.nd, .int .i64 d.n]] w fun e w' => e = .returned (.bool (okDot d)) ∧ Below w.heap.size w w' := by
  have HB := fun o => Lib.hid ((Below.refl w.heap.size w).alloc (Nat.le_refl _) o)
  go_enter Try.func35, Try.ntmps35
  go_wp2_with fail
  all_goals
    go_ret
    exact ⟨by simp [okDot, okI, *] <;> omega, (HB _).out⟩

set_option maxHeartbeats 400000 in
theorem refLess_any (a b : Dot) (w : World) :
    Calls Try.prog 36 #[.agg #[.int .i64 a.nd, .int .i64 a.n], .agg #[.int .i64 b.nd, .int .i64 b.n]] w fun e w' => e = .returned (.bool (dlt a b)) ∧ Below w.heap.size w w' := by
  have HB := fun o o' => Lib.hid (((Below.refl w.heap.size w).alloc (Nat.le_refl _) o).alloc (by simp) o')
  go_enter Try.func36, Try.ntmps36
  go_wp2_with fail
  all_goals
    go_ret
    exact ⟨by simp [dlt, *] <;> omega, (HB _ _).out⟩

set_option maxHeartbeats 400000 in
theorem isNaN_any (n : Int) (w : World) :
    Calls Try.prog 50 #[.int .i64 n] w fun e w' => e = .returned (.bool false) ∧ w = w' := by
  go_enter Try.func50, Try.ntmps50
  go_wp2_with fail
  go_ret
  exact ⟨rfl, rfl⟩

def cmpI (a b : Int) : Int := if a < b then -1 else if b < a then 1 else 0

set_option maxHeartbeats 400000 in
theorem cmp_any (a b : Int) (w : World) :
    Calls Try.prog 48 #[.int .i64 a, .int .i64 b] w fun e w' => e = .returned (.int .i64 (cmpI a b)) ∧ w = w' := by
  go_enter Try.func48, Try.ntmps48
  go_wp2_with (refine (isNaN_any _ _).mono ?_; rintro e w' ⟨rfl, rfl⟩)
  all_goals
    go_ret
    exact ⟨by simp [cmpI, *] <;> omega, rfl⟩

end Go.Proofs.Ythmclonjgbmhhaa
