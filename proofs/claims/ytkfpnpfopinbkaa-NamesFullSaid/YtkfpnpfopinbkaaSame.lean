/-
  Are two rows the same?
-/
import Derived.Laws.StructEq
import Derived.Test.YtkfpnpfopinbkaaList
namespace Go.Proofs.Ytkfpnpfopinbkaa
open Go.RowKit
set_option linter.unusedVariables false

/-- Two rows, place by place. -/
def eqv {α : Type} (eq : α → α → Bool) : List α → List α → Bool
  | [], [] => true
  | a :: l, b :: m => eq a b && eqv eq l m
  | _, _ => false

theorem eqv_drop {α : Type} (eq : α → α → Bool) (l m : List α) (k : Nat) (h1 : k < l.length) (h2 : k < m.length) : eqv eq (l.drop k) (m.drop k) = (eq l[k] m[k] && eqv eq (l.drop (k + 1)) (m.drop (k + 1))) := by
  rw [List.drop_eq_getElem_cons h1, List.drop_eq_getElem_cons h2]; rfl
theorem eqv_len {α : Type} (eq : α → α → Bool) (l m : List α) (h : l.length ≠ m.length) : eqv eq l m = false := by
  induction l generalizing m with
  | nil => cases m with
    | nil => exact absurd rfl h
    | cons _ _ => rfl
  | cons a l ih => cases m with
    | nil => rfl
    | cons b m => unfold eqv; rw [ih m (by simpa using h), Bool.and_false]
theorem eqv_true {α : Type} (eq : α → α → Bool) (he : ∀ a b, eq a b = true ↔ a = b) (l m : List α) : eqv eq l m = true ↔ l = m := by
  induction l generalizing m with
  | nil => cases m <;> simp [eqv]
  | cons a l ih => cases m with
    | nil => simp [eqv]
    | cons b m => simp [eqv, ih m, he a b]

theorem neq_tag (a b : Tag) (w : World) : (binOp .neq 42 (.agg #[.string (str a.nm), .int .i64 a.n]) (.agg #[.string (str b.nm), .int .i64 b.n])).run Try.prog w = .ok (.bool !(a.nm == b.nm && a.n == b.n)) w := by
  have h1 : Try.prog.stoodInHeld 42 = false := by kernel_rfl
  have h2 : Try.prog.underlying 42 = some (.struct (Try.prog.fieldsOf 42)) := by kernel_rfl
  have h4 : Try.prog.underlying 9 = some .string := by kernel_rfl
  have h5 : Try.prog.underlying 3 = some (.int .i64) := by kernel_rfl
  rw [run_neq_struct, run_equalIn_struct w 9999 _ _ _ h2 h1]
  simp [Op.eqFields, go_sem]
  by_cases e1 : a.nm = b.nm <;> by_cases e2 : a.n = b.n <;> simp [e1, e2]
theorem eqGuard_tag (op : BinOp) (x y : Operand) (a b : Tag) (w : World) : (eqGuard op 42 x y (.agg #[.string (str a.nm), .int .i64 a.n]) (.agg #[.string (str b.nm), .int .i64 b.n])).run Try.prog w = .ok () w := run_eqGuard_agg (P := Try.prog) w op _ x y _ _ (by kernel_rfl)

def teq (a b : Tag) : Bool := a.nm == b.nm && a.n == b.n
theorem teq_iff (a b : Tag) : teq a b = true ↔ a = b := by cases a; cases b; simp [teq]
def sameT (l m : List Tag) : Bool := eqv teq l m
def sameS (l m : List (List UInt8)) : Bool := eqv (· == ·) l m
theorem sameT_iff (l m : List Tag) : sameT l m = true ↔ l = m := eqv_true teq teq_iff l m
theorem sameS_iff (l m : List (List UInt8)) : sameS l m = true ↔ l = m := eqv_true _ (fun a b => by simp) l m

set_option maxHeartbeats 1000000 in
theorem sameTexts_any (A B : Option Addr) (c d : Nat) (l m : List (List UInt8)) (w : World) (hr : Sl w 1 A l.length (scells l)) (hs : Sl w 1 B m.length (scells m)) (hn : l.length ≤ 1000) (hm : m.length ≤ 1000) :
    Calls Try.prog 16 #[.slice A l.length c, .slice B m.length d] w fun e w' => e = .returned (.bool (sameS l m)) ∧ Below w.heap.size w w' := by
  have Hr := Lib.hid hr
  have Hs := Lib.hid hs
  clear hr hs
  by_cases hlm : l.length = m.length
  · have hd : ((l.length : Int) == (m.length : Int)) = true := by simp; omega
    have Hlm := Lib.hid hlm
    go_enter Try.func16, Try.ntmps16
    go_wp2_with fail
    go_loopw [5] (fun i wr => ∃ (k : Nat), k ≤ l.length ∧ i = .int .i64 k ∧ sameS l m = eqv (· == ·) (l.drop k) (m.drop k) ∧ Below w.heap.size w wr) (fun i _ => l.length - (intOf i).toNat)
    case atStart => exact ⟨0, Nat.zero_le _, rfl, by simp [sameS], Below.refl _ _⟩
    case round =>
      obtain ⟨k, hk, rfl, hp, hb⟩ := hrel
      have Hp := Lib.hid hp
      have HB := Lib.hid hb
      clear hp hb
      by_cases hlt : k < l.length
      · have hlt' : k < m.length := by have := Hlm.out; omega
        obtain ⟨g, o, rfl, hg, c0⟩ := str_cell (Hr.out.below HB.out) (List.getElem?_eq_getElem hlt)
        obtain ⟨g', o', rfl, hg', c1⟩ := str_cell (Hs.out.below HB.out) (List.getElem?_eq_getElem hlt')
        have HK := Lib.hid (eqv_drop (· == ·) l m k hlt hlt')
        generalize hz : l[k] = t at c0 HK
        generalize hz' : m[k] = t' at c1 HK
        clear hz hz'
        cases he : (t == t')
        · have HN : Hid (sameS l m = false) := Lib.hid (by rw [Hp.out, HK.out, he]; rfl)
          clear HK Hp
          go_wp2_with fail
          go_quiet (fail)
          go_wp2_with fail
          go_ret
          exact ⟨by rw [HN.out]; rfl, below_drewN HB.out _⟩
        · have HN : Hid (sameS l m = eqv (· == ·) (l.drop (k + 1)) (m.drop (k + 1))) := Lib.hid (by rw [Hp.out, HK.out, he]; rfl)
          clear HK Hp
          go_wp2_with fail
          go_quiet (fail)
          go_wp2_with fail
          go_roundw
          case rel => exact ⟨k + 1, by omega, by go_num, HN.out, below_drewN HB.out _⟩
          case measure => simp [intOf]; omega
      · have HN : Hid (sameS l m = true) := Lib.hid (by have := Hlm.out; rw [Hp.out, List.drop_eq_nil_of_le (by omega), List.drop_eq_nil_of_le (by omega)]; rfl)
        go_wp2_with fail
        go_ret
        exact ⟨by rw [HN.out]; rfl, HB.out⟩
  · have hd : ((l.length : Int) == (m.length : Int)) = false := by simp; omega
    have HN : Hid (sameS l m = false) := Lib.hid (eqv_len _ l m hlm)
    clear hlm
    go_enter Try.func16, Try.ntmps16
    go_wp2_with fail
    go_ret
    exact ⟨by rw [HN.out]; rfl, Below.refl _ _⟩

set_option maxHeartbeats 1000000 in
theorem same_any (A B : Option Addr) (c d : Nat) (l m : List Tag) (w : World) (hr : Sl w 2 A l.length (tcells l)) (hs : Sl w 2 B m.length (tcells m)) (hn : l.length ≤ 1000) (hm : m.length ≤ 1000) :
    Calls Try.prog 13 #[.slice A l.length c, .slice B m.length d] w fun e w' => e = .returned (.bool (sameT l m)) ∧ Below w.heap.size w w' := by
  have Hr := Lib.hid hr
  have Hs := Lib.hid hs
  clear hr hs
  by_cases hlm : l.length = m.length
  · have hd : ((l.length : Int) == (m.length : Int)) = true := by simp; omega
    have Hlm := Lib.hid hlm
    go_enter Try.func13, Try.ntmps13
    go_wp2_with fail
    go_loopw [5] (fun i wr => ∃ (k : Nat), k ≤ l.length ∧ i = .int .i64 k ∧ sameT l m = eqv teq (l.drop k) (m.drop k) ∧ Below w.heap.size w wr) (fun i _ => l.length - (intOf i).toNat)
    case atStart => exact ⟨0, Nat.zero_le _, rfl, by simp [sameT], Below.refl _ _⟩
    case round =>
      obtain ⟨k, hk, rfl, hp, hb⟩ := hrel
      have Hp := Lib.hid hp
      have HB := Lib.hid hb
      clear hp hb
      by_cases hlt : k < l.length
      · have hlt' : k < m.length := by have := Hlm.out; omega
        obtain ⟨g, o, rfl, hg, c0, d0⟩ := tag_cells (Hr.out.below HB.out) (List.getElem?_eq_getElem hlt)
        obtain ⟨g', o', rfl, hg', c1, d1⟩ := tag_cells (Hs.out.below HB.out) (List.getElem?_eq_getElem hlt')
        have HK := Lib.hid (eqv_drop teq l m k hlt hlt')
        generalize hz : l[k] = t at c0 d0 HK
        generalize hz' : m[k] = t' at c1 d1 HK
        clear hz hz'
        cases he : (t.nm == t'.nm && t.n == t'.n)
        · have HN : Hid (sameT l m = false) := Lib.hid (by rw [Hp.out, HK.out]; unfold teq; rw [he]; rfl)
          clear HK Hp
          have hq := fun W => neq_tag t t' W
          have hg := fun op x y W => eqGuard_tag op x y t t' W
          rw [he] at hq
          go_wp2_with fail
          go_quiet (fail)
          go_wp2_with fail
          go_ret
          exact ⟨by rw [HN.out]; rfl, below_drewN HB.out _⟩
        · have HN : Hid (sameT l m = eqv teq (l.drop (k + 1)) (m.drop (k + 1))) := Lib.hid (by rw [Hp.out, HK.out]; unfold teq; rw [he]; rfl)
          clear HK Hp
          have hq := fun W => neq_tag t t' W
          have hg := fun op x y W => eqGuard_tag op x y t t' W
          rw [he] at hq
          go_wp2_with fail
          go_quiet (fail)
          go_wp2_with fail
          go_roundw
          case rel => exact ⟨k + 1, by omega, by go_num, HN.out, below_drewN HB.out _⟩
          case measure => simp [intOf]; omega
      · have HN : Hid (sameT l m = true) := Lib.hid (by have := Hlm.out; rw [Hp.out, List.drop_eq_nil_of_le (by omega), List.drop_eq_nil_of_le (by omega)]; rfl)
        go_wp2_with fail
        go_ret
        exact ⟨by rw [HN.out]; rfl, HB.out⟩
  · have hd : ((l.length : Int) == (m.length : Int)) = false := by simp; omega
    have HN : Hid (sameT l m = false) := Lib.hid (eqv_len _ l m hlm)
    clear hlm
    go_enter Try.func13, Try.ntmps13
    go_wp2_with fail
    go_ret
    exact ⟨by rw [HN.out]; rfl, Below.refl _ _⟩

#print axioms sameTexts_any
end Go.Proofs.Ytkfpnpfopinbkaa
