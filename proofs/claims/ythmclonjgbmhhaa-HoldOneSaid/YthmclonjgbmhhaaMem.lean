/-
  Words for memory, over any program: a slice that reads as a row of cells (nil let in), typed and untyped; append onto a slice without spare room.
-/
import Derived.Test.YthmclonjgbmhhaaRows
import Derived.WalkKit
import Derived.WalkSpells
import Derived.WalkLawsBesides
import Derived.Maps.AppendAt
import Derived.Deep.AppendLies
import Derived.Deep.Draws
import Derived.Lib.Hide
import Derived.Lib.AppendZeros
import Derived.Lib.AppendZerosOnto
import Derived.Lib.Overlaps
import Derived.Laws.Externs
import Derived.LoopN
import Derived.Deep.LoopGhost
import Derived.Deep.DeepFit
import Derived.Deep.DeepCutAuto
import Derived.Outline
import Derived.Deep.RegionHeld3
import Derived.Deep.RegionLaw
import Derived.BigQuiet
import Derived.BigRegion
import Derived.Deep.RegionWith
import Derived.StillTailTactics
import Derived.Deep.DrawnRows
import Derived.Deep.DeepMust
import Derived.Deep.QuietTactic
namespace Go.Proofs.Ythmclonjgbmhhaa
open Go.RowKit

/-- The slice value `.slice A n c` holds the cells xs (n elements of s cells). -/
def Sl (w : World) (s : Nat) (A : Option Addr) (n : Nat) (xs : List Value) : Prop :=
  xs.length = n * s ∧ (0 < n → ∃ g o, A = some ⟨g, o, none⟩ ∧ g < w.heap.size ∧ ∀ j u, xs[j]? = some u → w.cell? ⟨g, o + j, none⟩ = some u)

/-- The same, in a block of element type e, none of whose cells is frozen. -/
def Row (w : World) (e : TypeId) (s : Nat) (A : Option Addr) (n : Nat) (xs : List Value) : Prop :=
  xs.length = n * s ∧ (0 < n → ∃ g o cur, A = some ⟨g, o, none⟩ ∧ w.heap[g]? = some (.cells cur e (0, 0)) ∧ ∀ j u, xs[j]? = some u → cur[o + j]? = some u)

/-- Block g is a struct of type t with these cells. -/
def Blk (w : World) (g : Nat) (t : TypeId) (cs : Array Value) : Prop := w.heap[g]? = some (.cells cs t (0, 0))

/-- Only block g of the old ones may have turned. -/
abbrev Only (g : Nat) (w w' : World) : Prop := w.grownBy w' (some g)

theorem lt_of_heap {w : World} {g : Nat} {o : Obj} (h : w.heap[g]? = some o) : g < w.heap.size := by
  rcases Nat.lt_or_ge g w.heap.size with hlt | hge
  · exact hlt
  · rw [Array.getElem?_eq_none hge] at h; cases h

section
variable {w w' : World} {e : TypeId} {s n : Nat} {A : Option Addr} {xs : List Value}

theorem Row.sl (h : Row w e s A n xs) : Sl w s A n xs :=
  ⟨h.1, fun hn => by
    obtain ⟨g, o, cur, rfl, hg, hc⟩ := h.2 hn
    exact ⟨g, o, rfl, lt_of_heap hg, fun j u hu => by rw [cell_of_row w g (o + j) cur e (0, 0) hg]; exact hc j u hu⟩⟩

theorem Row.nil (w : World) (e : TypeId) (s : Nat) (A : Option Addr) : Row w e s A 0 [] := ⟨by simp, fun h => absurd h (by omega)⟩
theorem Sl.nil (w : World) (s : Nat) (A : Option Addr) : Sl w s A 0 [] := ⟨by simp, fun h => absurd h (by omega)⟩

theorem Sl.keep (h : Sl w s A n xs) (hs : w.heap.size ≤ w'.heap.size) (hk : ∀ g o, A = some ⟨g, o, none⟩ → g < w.heap.size → w'.heap[g]? = w.heap[g]?) : Sl w' s A n xs :=
  ⟨h.1, fun hn => by
    obtain ⟨g, o, rfl, hb, hc⟩ := h.2 hn
    refine ⟨g, o, rfl, by omega, fun j u hu => ?_⟩
    rw [World.cell?_of_block (w := w) (hk g o rfl hb)]
    exact hc j u hu⟩

theorem Row.keep (h : Row w e s A n xs) (hk : ∀ g, g < w.heap.size → (∃ cur, w.heap[g]? = some (.cells cur e (0, 0))) → w'.heap[g]? = w.heap[g]?) : Row w' e s A n xs :=
  ⟨h.1, fun hn => by
    obtain ⟨g, o, cur, rfl, hg, hc⟩ := h.2 hn
    exact ⟨g, o, cur, rfl, by rw [hk g (lt_of_heap hg) ⟨_, hg⟩]; exact hg, hc⟩⟩

theorem Sl.below (h : Sl w s A n xs) (hb : Below w.heap.size w w') : Sl w' s A n xs := h.keep hb.size fun g _ _ hg => hb.block g hg
theorem Row.below (h : Row w e s A n xs) (hb : Below w.heap.size w w') : Row w' e s A n xs := h.keep fun g hg _ => hb.block g hg

/-- A row stays while a block of another type is written. -/
theorem Row.only (h : Row w e s A n xs) {g : Nat} (ho : Only g w w') {cs : Array Value} {t : TypeId} (hb : Blk w g t cs) (hne : e ≠ t) : Row w' e s A n xs :=
  h.keep fun k hk ⟨cur, hc⟩ => ho.block k hk fun heq => by
    have hgk : k = g := by simpa using heq
    subst hgk
    unfold Blk at hb
    rw [hb] at hc
    injection hc with hc; injection hc with _ ht
    exact hne ht.symm

theorem Blk.lt {g : Nat} {t : TypeId} {cs : Array Value} (h : Blk w g t cs) : g < w.heap.size := lt_of_heap h
theorem Blk.cell {g : Nat} {t : TypeId} {cs : Array Value} (h : Blk w g t cs) (i : Nat) : w.cell? ⟨g, i, none⟩ = cs[i]? := cell_of_row w g i cs t (0, 0) h
theorem Blk.frozen {g : Nat} {t : TypeId} {cs : Array Value} (h : Blk w g t cs) (i : Nat) : w.frozen? ⟨g, i, none⟩ = false := by
  unfold Blk at h; simp [World.frozen?, h]
theorem Blk.below {g : Nat} {t : TypeId} {cs : Array Value} (h : Blk w g t cs) (hb : Below w.heap.size w w') : Blk w' g t cs := (hb.block g h.lt).trans h
theorem Blk.only {g k : Nat} {t : TypeId} {cs : Array Value} (h : Blk w g t cs) (ho : Only k w w') (hne : g ≠ k) : Blk w' g t cs := (ho.block g h.lt (by simpa using hne)).trans h
theorem Blk.new (w : World) (t : TypeId) (cs : Array Value) : Blk (w.alloc (.cells cs t)) w.heap.size t cs := heap_alloc_new w _
theorem Blk.alloc {g : Nat} {t : TypeId} {cs : Array Value} (h : Blk w g t cs) (o : Obj) : Blk (w.alloc o) g t cs := (Below.heap_alloc w o g h.lt).trans h
theorem Blk.drew {g : Nat} {t : TypeId} {cs : Array Value} (h : Blk w g t cs) : Blk w.drew g t cs := h
theorem Blk.set_ {g : Nat} {t : TypeId} {cs : Array Value} (h : Blk w g t cs) (i : Nat) (u : Value) : Blk (w.setCell ⟨g, i, none⟩ u) g t (cs.setIfInBounds i u) := by
  unfold Blk at h ⊢
  simp [World.setCell, Array.getElem?_modify, h]

theorem Row.drew (h : Row w e s A n xs) : Row w.drew e s A n xs := h
theorem Sl.drew (h : Sl w s A n xs) : Sl w.drew s A n xs := h
theorem only_set (w : World) (g i : Nat) (u : Value) : Only g w (w.setCell ⟨g, i, none⟩ u) :=
  ⟨rfl, rfl, rfl, by simp [World.setCell], fun k _ hk => Below.heap_setCell w ⟨g, i, none⟩ u k (fun e => hk (by simp [e]))⟩
theorem only_below {g : Nat} (h : Below w.heap.size w w') : Only g w w' := ⟨h.os, h.tape, h.output, h.size, fun k hk _ => h.block k hk⟩
theorem only_trans {g : Nat} {w'' : World} (h : Only g w w') (k : Only g w' w'') : Only g w w'' :=
  ⟨k.os.trans h.os, k.tape.trans h.tape, k.output.trans h.output, Nat.le_trans h.size k.size, fun i hi hne => (k.block i (Nat.lt_of_lt_of_le hi h.size) hne).trans (h.block i hi hne)⟩
theorem only_refl {g : Nat} : Only g w w := only_below (Below.refl _ _)
/-- Below a base that lies at or below g: what only block g has turned. -/
theorem Only.below {g B : Nat} (h : Only g w w') (hB : B ≤ g) (hg : B ≤ w.heap.size) : Below B w w' := ⟨h.os, h.tape, h.output, h.size, fun k hk => h.block k (by omega) (by simp; omega)⟩

theorem Sl.at_ (h : Sl w s A n xs) (hn : 0 < n) : ∃ g o, A = some ⟨g, o, none⟩ ∧ g < w.heap.size ∧ ∀ j u, xs[j]? = some u → w.cell? ⟨g, o + j, none⟩ = some u := h.2 hn

/-- A cut s[lo:hi] that lies within. -/
theorem Sl.cut (h : Sl w s A n xs) {lo m c : Nat} (hm : lo + m ≤ n) (hc : n ≤ c) :
    Sl w s (if c = lo then A else A.map (·.add (lo * s))) m ((xs.drop (lo * s)).take (m * s)) := by
  refine ⟨?_, fun hm0 => ?_⟩
  · rw [List.length_take, List.length_drop, h.1, ← Nat.sub_mul]
    exact Nat.min_eq_left (Nat.mul_le_mul_right _ (by omega))
  · obtain ⟨g, o, rfl, hb, hcell⟩ := h.2 (by omega)
    rw [if_neg (by omega)]
    refine ⟨g, o + lo * s, by simp [Addr.add], hb, fun j u hu => ?_⟩
    rw [List.getElem?_take] at hu
    split at hu
    · rw [Nat.add_assoc]
      exact hcell _ u (by rw [← hu, List.getElem?_drop])
    · cases hu

theorem Sl.sub {g o : Nat} (h : Sl w s (some ⟨g, o, none⟩) n xs) {lo m : Nat} (hm : lo + m ≤ n) : Sl w s (some ⟨g, o + lo * s, none⟩) m ((xs.drop (lo * s)).take (m * s)) := by
  refine ⟨?_, fun hm0 => ?_⟩
  · rw [List.length_take, List.length_drop, h.1, ← Nat.sub_mul]
    exact Nat.min_eq_left (Nat.mul_le_mul_right _ (by omega))
  · obtain ⟨g', o', he, hb, hcell⟩ := h.2 (by omega)
    simp only [Option.some.injEq, Addr.mk.injEq, and_true] at he
    obtain ⟨rfl, rfl⟩ := he
    refine ⟨g, o + lo * s, rfl, hb, fun j u hu => ?_⟩
    rw [List.getElem?_take] at hu
    split at hu
    · rw [Nat.add_assoc]
      exact hcell _ u (by rw [← hu, List.getElem?_drop])
    · cases hu

theorem Row.cut (h : Row w e s A n xs) {lo m c : Nat} (hm : lo + m ≤ n) (hc : n ≤ c) :
    Row w e s (if c = lo then A else A.map (·.add (lo * s))) m ((xs.drop (lo * s)).take (m * s)) := by
  refine ⟨?_, fun hm0 => ?_⟩
  · rw [List.length_take, List.length_drop, h.1, ← Nat.sub_mul]
    exact Nat.min_eq_left (Nat.mul_le_mul_right _ (by omega))
  · obtain ⟨g, o, cur, rfl, hb, hcell⟩ := h.2 (by omega)
    rw [if_neg (by omega)]
    refine ⟨g, o + lo * s, cur, by simp [Addr.add], hb, fun j u hu => ?_⟩
    rw [List.getElem?_take] at hu
    split at hu
    · rw [Nat.add_assoc]
      exact hcell _ u (by rw [← hu, List.getElem?_drop])
    · cases hu

theorem own_below {base : Nat} {v : Value} (h : w.ownsRow base e s v n xs) (hb : Below w.heap.size w w') : w'.ownsRow base e s v n xs :=
  h.kept (row := none) ⟨hb.os, hb.tape, hb.output, hb.size, fun k hk _ => hb.block k hk⟩ (by cases hv : v.ownBlock <;> simp)

theorem own_only {base g : Nat} {v : Value} (h : w.ownsRow base e s v n xs) (ho : Only g w w') {t : TypeId} {cs : Array Value} (hb : Blk w g t cs) (hne : e ≠ t) : w'.ownsRow base e s v n xs := by
  refine ⟨h.1, ?_⟩
  rcases h.2 with hn | ⟨g', cap, cur, hv, h1, hg, hr⟩
  · exact .inl hn
  · refine .inr ⟨g', cap, cur, hv, h1, ?_, hr⟩
    rw [ho.block g' (lt_of_heap hg) (fun heq => ?_)]
    · exact hg
    · have hgk : g' = g := by simpa using heq
      subst hgk
      unfold Blk at hb
      rw [hb] at hg
      injection hg with hg; injection hg with _ ht
      exact hne ht.symm

theorem own_fresh {base : Nat} {A : Option Addr} {c : Nat} (h : w.ownsRow base e s (.slice A n c) n xs) : ∀ a, A = some a → base ≤ a.block := by
  rintro a rfl
  rcases h.2 with ⟨hv, _⟩ | ⟨g, cap, cur, hv, hb, _⟩
  · cases hv
  · injection hv with hv; injection hv with hv; subst hv; exact hb

theorem own_slice {base : Nat} {v : Value} (h : w.ownsRow base e s v n xs) : ∃ A c, v = .slice A n c ∧ n ≤ c := by
  rcases h.2 with ⟨hv, h0⟩ | ⟨g, cap, cur, hv, _, _, hnc, _⟩
  · subst h0; exact ⟨none, 0, hv, Nat.le_refl _⟩
  · exact ⟨_, cap, hv, hnc⟩

/-- What the call owns reads as a row. -/
theorem Row.of_own {base c : Nat} (h : w.ownsRow base e s (.slice A n c) n xs) : Row w e s A n xs := by
  refine ⟨h.1, fun hn => ?_⟩
  rcases h.2 with ⟨_, h0⟩ | ⟨g, cap, cur, hv, _, hg, _, _, _, htake⟩
  · omega
  · have hA : A = some ⟨g, 0, none⟩ := by injection hv
    refine ⟨g, 0, cur, hA, hg, fun j u hu => ?_⟩
    rw [← htake, List.getElem?_take] at hu
    split at hu
    · simpa using hu
    · cases hu
end

/-- A slice that reads as a list, not in block g. -/
def SlX (w : World) (g s : Nat) (A : Option Addr) (n : Nat) (xs : List Value) : Prop := Sl w s A n xs ∧ (0 < n → ∀ a, A = some a → a.block ≠ g)

theorem SlX.only {w w' : World} {g s n : Nat} {A : Option Addr} {xs : List Value} (h : SlX w g s A n xs) (ho : Only g w w') : SlX w' g s A n xs := by
  refine ⟨⟨h.1.1, fun hn => ?_⟩, h.2⟩
  obtain ⟨k, o, rfl, hk, hc⟩ := h.1.2 hn
  have hne := h.2 hn _ rfl
  refine ⟨k, o, rfl, Nat.lt_of_lt_of_le hk ho.size, fun j u hu => ?_⟩
  rw [World.cell?_of_block (w := w) (ho.block k hk (by simpa using hne))]
  exact hc j u hu

section
variable {P : Program} (w : World)

/-- The cells of a source slice, in the form that the append laws ask. -/
theorem Sl.cells {w : World} {s n : Nat} {A : Option Addr} {xs : List Value} (h : Sl w s A n xs) (a : Addr) (hA : A = some a) : ∀ j u, xs[j]? = some u → w.cell? (a.add j) = some u := by
  intro j u hu
  rcases Nat.eq_zero_or_pos n with h0 | h0
  · subst h0
    have : xs = [] := List.eq_nil_of_length_eq_zero (by simpa using h.1)
    subst this; simp at hu
  · obtain ⟨g, o, hA', _, hc⟩ := h.2 h0
    rw [hA] at hA'
    injection hA' with hA'
    subst hA'
    have := hc j u hu
    simpa [Addr.add_lit] using this

theorem addr_add_zero (A : Option Addr) : A.map (·.add 0) = A := by
  cases A with
  | none => rfl
  | some a => simp [Addr.add]

/-- s[:k] -/
theorem cut_hi (t e : TypeId) (i : TypeInfo) (ht : P.underlying t = some (.slice e)) (hi : P.info? e = some i) (kk : IntKind) (A : Option Addr) (n c k : Nat) (hk : k ≤ c) :
    ∀ w, (Instr.slice t (.slice A n c) none (some (.int kk (k : Int))) none).run P w = .ok (.slice A k c) w := fun w => by
  have h0 : (0 : Int) ≤ (k : Int) := by omega
  have h1 : (k : Int) ≤ (c : Int) := by omega
  simp [Instr.slice, run_underlying ht, Instr.sliceBounds, run_sliceBound, sizeOf, typeInfo, hi, h0, h1, addr_add_zero]

/-- s[:k:k] -/
theorem cut_clip (t e : TypeId) (i : TypeInfo) (ht : P.underlying t = some (.slice e)) (hi : P.info? e = some i) (kk km : IntKind) (A : Option Addr) (n c k : Nat) (hk : k ≤ c) :
    ∀ w, (Instr.slice t (.slice A n c) none (some (.int kk (k : Int))) (some (.int km (k : Int)))).run P w = .ok (.slice A k k) w := fun w => by
  have h0 : (0 : Int) ≤ (k : Int) := by omega
  have h1 : (k : Int) ≤ (c : Int) := by omega
  simp [Instr.slice, run_underlying ht, Instr.sliceBounds, run_sliceBound, sizeOf, typeInfo, hi, h0, h1, addr_add_zero]

/-- s[k:], the index in the walk's own spelling. -/
theorem cut_lo (t e : TypeId) (i : TypeInfo) (ht : P.underlying t = some (.slice e)) (hi : P.info? e = some i) (s : Nat) (hs : i.size = s) (kk : IntKind) (A : Option Addr) (n c : Nat) (z : Int) (k : Nat) (hz : z = k) (hk : k ≤ n) (hc : n ≤ c) :
    ∃ A2, (∀ w, (Instr.slice t (.slice A n c) (some (.int kk z)) none none).run P w = .ok (.slice A2 (n - k) (c - k)) w) ∧
      (∀ w xs, Sl w s A n xs → Sl w s A2 (n - k) (xs.drop (k * s))) ∧ (∀ w e xs, Row w e s A n xs → Row w e s A2 (n - k) (xs.drop (k * s))) := by
  subst hz
  refine ⟨if c = k then A else A.map (·.add (k * s)), fun w => ?_, fun w xs h => ?_, fun w e xs h => ?_⟩
  · have h0 : (0 : Int) ≤ (k : Int) := by omega
    have h1 : (k : Int) ≤ (n : Int) := by omega
    simp [Instr.slice, run_underlying ht, Instr.sliceBounds, run_sliceBound, sizeOf, typeInfo, hi, hs, h0, h1]
  · have := h.cut (lo := k) (m := n - k) (c := c) (by omega) hc
    rwa [List.take_of_length_le (by rw [List.length_drop, h.1, ← Nat.sub_mul]; exact Nat.le_refl _)] at this
  · have := h.cut (lo := k) (m := n - k) (c := c) (by omega) hc
    rwa [List.take_of_length_le (by rw [List.length_drop, h.1, ← Nat.sub_mul]; exact Nat.le_refl _)] at this

theorem Sl.take {w : World} {s n : Nat} {A : Option Addr} {xs : List Value} (h : Sl w s A n xs) {k : Nat} (hk : k ≤ n) : Sl w s A k (xs.take (k * s)) := by
  have := h.cut (lo := 0) (m := k) (c := n + 1) (by omega) (by omega)
  simpa [addr_add_zero] using this
theorem Row.take {w : World} {e : TypeId} {s n : Nat} {A : Option Addr} {xs : List Value} (h : Row w e s A n xs) {k : Nat} (hk : k ≤ n) : Row w e s A k (xs.take (k * s)) := by
  have := h.cut (lo := 0) (m := k) (c := n + 1) (by omega) (by omega)
  simpa [addr_add_zero] using this

/-- append of nothing: nothing turns. -/
theorem run_append_zero (t ty e : TypeId) (i : TypeInfo) (ht : P.underlying t = some (.slice e)) (hi : P.info? e = some i)
    (A : Option Addr) (n c : Nat) (hc : n ≤ c) (A2 : Option Addr) (c2 : Nat) :
    (Builtin.append_ #[t, t] ty #[.slice A n c, .slice A2 0 c2]).run P w = .ok (.slice A n c) w := by
  rcases A with _ | a <;> rcases A2 with _ | b <;>
    simp [Builtin.append_, run_underlying ht, sizeOf, typeInfo, hi, Builtin.lenOf, Builtin.firstCells, hc, storeCells, loadCells, loadCellsFrom]

/-- append onto a slice without spare room (or of nothing): the old row stays as it is; the new one is a row of the same type. -/
theorem run_append_clip (t ty e : TypeId) (i : TypeInfo) (z : Value) (s bytes : Nat) (ht : P.underlying t = some (.slice e)) (hi : P.info? e = some i) (hz : i.zero = some z)
    (hsize : i.size = s) (hby : i.bytes = bytes)
    (A : Option Addr) (n : Nat) (xs : List Value) (hr : Row w e s A n xs)
    (A2 : Option Addr) (m c2 : Nat) (ys : List Value) (hs : Sl w s A2 m ys)
    (h63 : n + m ≤ maxLen) (hbytes : (n + m) * bytes ≤ 140737488355328) :
    ∃ A' c' w', (Builtin.append_ #[t, t] ty #[.slice A n n, .slice A2 m c2]).run P w = .ok (.slice A' (n + m) c') w' ∧
      Row w' e s A' (n + m) (xs ++ ys) ∧ Below w.heap.size w w' ∧ n + m ≤ c' ∧ c' ≤ maxLen ∧ (A' = A ∧ m = 0 ∨ A' = some ⟨w.heap.size, 0, none⟩) := by
  subst hsize
  subst hby
  have hsmall : n + m ≤ 9223372036854775807 := by simp only [maxLen] at h63; omega
  rcases Nat.eq_zero_or_pos m with hm | hm
  · subst hm
    have hy : ys = [] := List.eq_nil_of_length_eq_zero (by simpa using hs.1)
    subst hy
    exact ⟨A, n, w, run_append_zero w t ty e i ht hi A n n (Nat.le_refl _) A2 c2, by simpa using hr, Below.refl _ _, Nat.le_refl _, h63, .inl ⟨rfl, rfl⟩⟩
  · obtain ⟨g2, o2, rfl, _, _⟩ := hs.2 hm
    have hcells := hs.cells _ rfl
    have hlen : (xs ++ ys).length = (n + m) * i.size := by rw [List.length_append, hr.1, hs.1, Nat.add_mul]
    have mk : ∀ (cap : Nat), Row (w.drew.alloc (.cells (xs.toArray ++ ys.toArray ++ Builtin.zeroCells z.cells cap) e)) e i.size (some ⟨w.heap.size, 0, none⟩) (n + m) (xs ++ ys) ∧
        Below w.heap.size w (w.drew.alloc (.cells (xs.toArray ++ ys.toArray ++ Builtin.zeroCells z.cells cap) e)) := fun cap =>
      ⟨⟨hlen, fun _ => ⟨w.heap.size, 0, _, rfl, heap_alloc_new w.drew _, fun j u hu => by
        obtain ⟨hj, _⟩ := List.getElem?_eq_some_iff.1 hu
        have hj' : 0 + j < (xs.toArray ++ ys.toArray).size := by simpa using hj
        rw [Array.getElem?_append_left hj']
        simpa using hu⟩⟩, ((Below.refl _ _).drew).alloc (Nat.le_refl _) _⟩
    rcases Nat.eq_zero_or_pos n with hn | hn
    · subst hn
      have hx : xs = [] := List.eq_nil_of_length_eq_zero (by simpa using hr.1)
      subst hx
      rcases A with _ | a
      · have h := run_append_nil (P := P) w t ty e i z ht hi hz ⟨g2, o2, none⟩ m c2 ys hs.1 hcells (by omega) (by omega) (by have hb := hbytes; simp only [Nat.zero_add] at hb; omega)
        have h2 := mk (grownCap w m 0 e - m)
        simp only [Nat.zero_add, List.nil_append, Array.empty_append] at h2 ⊢
        exact ⟨_, _, _, h, h2.1, h2.2, grownCap_ge w m 0 e, grownCap_le_maxLen w m 0 e (by omega), .inr rfl⟩
      · have h := run_append_grow (P := P) w t ty e i z ht hi hz a 0 0 [] (by simp) (by simp) ⟨g2, o2, none⟩ m c2 ys hs.1 hcells (by omega) (by omega) (growslice_fits (by omega) hbytes)
        exact ⟨_, _, _, h, (mk _).1, (mk _).2, grownCap_ge w _ _ e, grownCap_le_maxLen w _ _ e h63, .inr rfl⟩
    · obtain ⟨g, o, cur, rfl, hg, hc⟩ := hr.2 hn
      have holds : ∀ j u, xs[j]? = some u → w.cell? ((⟨g, o, none⟩ : Addr).add j) = some u := hr.sl.cells _ rfl
      have h := run_append_grow (P := P) w t ty e i z ht hi hz ⟨g, o, none⟩ n n xs hr.1 holds ⟨g2, o2, none⟩ m c2 ys hs.1 hcells (by omega) (by omega) (growslice_fits (by omega) hbytes)
      exact ⟨_, _, _, h, (mk _).1, (mk _).2, grownCap_ge w _ _ e, grownCap_le_maxLen w _ _ e h63, .inr rfl⟩
end

section
variable {P : Program} (w : World)

theorem wp_append_clip {o : Oper} {a : Act} {K : Act → World → Prop} {Q : Exit → Act → World → Prop} (s x : Operand) (t : TypeId)
    (ho : o.op = .call { callee := .builtin .append, args := #[s, x], argTypes := #[t, t] })
    (e : TypeId) (i : TypeInfo) (z : Value) (sz bytes : Nat) (ht : P.underlying t = some (.slice e)) (hi : P.info? e = some i) (hz : i.zero = some z)
    (hsize : i.size = sz) (hby : i.bytes = bytes)
    (A : Option Addr) (n : Nat) (xs : List Value) (hs : a.eval s = .slice A n n) (hr : Row w e sz A n xs)
    (A2 : Option Addr) (m c2 : Nat) (ys : List Value) (hx : a.eval x = .slice A2 m c2) (hy : Sl w sz A2 m ys)
    (h63 : n + m ≤ maxLen) (hbytes : (n + m) * bytes ≤ 140737488355328)
    (h : ∀ A' c' w', Row w' e sz A' (n + m) (xs ++ ys) → Below w.heap.size w w' → n + m ≤ c' → c' ≤ maxLen → (A' = A ∧ m = 0 ∨ A' = some ⟨w.heap.size, 0, none⟩) → K (a.put o.dst (.slice A' (n + m) c')) w') : o.wp P a w K Q := by
  obtain ⟨A', c', w', hr, h2, h3, h4, h5, h6⟩ := run_append_clip (P := P) w t o.type e i z sz bytes ht hi hz hsize hby A n xs hr A2 m c2 ys hy h63 hbytes
  unfold Oper.wp execOp
  simp only [ho, resolve, invoke, builtin, Sem.run_bind, Sem.run_pure, Result.andThen_ok, List.map_toArray, List.map_cons, List.map_nil, hs, hx, hr]
  exact h A' c' w' h2 h3 h4 h5 h6

theorem wpList_append_clip {ops : Array Oper} {rest : List Oper} {o : Oper} {a : Act} {Q : Exit → Act → World → Prop} (hgd : o.guard = none) (s x : Operand) (t : TypeId)
    (ho : o.op = .call { callee := .builtin .append, args := #[s, x], argTypes := #[t, t] })
    (e : TypeId) (i : TypeInfo) (z : Value) (sz bytes : Nat) (ht : P.underlying t = some (.slice e)) (hi : P.info? e = some i) (hz : i.zero = some z)
    (hsize : i.size = sz) (hby : i.bytes = bytes)
    (A : Option Addr) (n : Nat) (xs : List Value) (hs : a.eval s = .slice A n n) (hr : Row w e sz A n xs)
    (A2 : Option Addr) (m c2 : Nat) (ys : List Value) (hx : a.eval x = .slice A2 m c2) (hy : Sl w sz A2 m ys)
    (h63 : n + m ≤ maxLen) (hbytes : (n + m) * bytes ≤ 140737488355328)
    (h : ∀ A' c' w', Row w' e sz A' (n + m) (xs ++ ys) → Below w.heap.size w w' → n + m ≤ c' → c' ≤ maxLen → (A' = A ∧ m = 0 ∨ A' = some ⟨w.heap.size, 0, none⟩) → wpList P ops Q rest (a.put o.dst (.slice A' (n + m) c')) w') : wpList P ops Q (o :: rest) a w :=
  wpList_plain hgd fun _ hK => wp_append_clip w s x t ho e i z sz bytes ht hi hz hsize hby A n xs hs hr A2 m c2 ys hx hy h63 hbytes fun A' c' w' h2 h3 h4 h5 h6 => hK _ _ (h A' c' w' h2 h3 h4 h5 h6)

theorem step_append_clip {ops : Array Oper} {o : Oper} {a : Act} {K : Act → World → Prop} {Q : Exit → Act → World → Prop} {E : Prop} (hgd : o.guard = none) (s x : Operand) (t : TypeId)
    (ho : o.op = .call { callee := .builtin .append, args := #[s, x], argTypes := #[t, t] })
    (e : TypeId) (i : TypeInfo) (z : Value) (sz bytes : Nat) (ht : P.underlying t = some (.slice e)) (hi : P.info? e = some i) (hz : i.zero = some z)
    (hsize : i.size = sz) (hby : i.bytes = bytes)
    (A : Option Addr) (n : Nat) (xs : List Value) (hs : a.eval s = .slice A n n) (hr : Row w e sz A n xs)
    (A2 : Option Addr) (m c2 : Nat) (ys : List Value) (hx : a.eval x = .slice A2 m c2) (hy : Sl w sz A2 m ys)
    (h63 : n + m ≤ maxLen) (hbytes : (n + m) * bytes ≤ 140737488355328)
    (h : ∀ A' c' w', Row w' e sz A' (n + m) (xs ++ ys) → Below w.heap.size w w' → n + m ≤ c' → c' ≤ maxLen → (A' = A ∧ m = 0 ∨ A' = some ⟨w.heap.size, 0, none⟩) → K (a.put o.dst (.slice A' (n + m) c')) w') :
    if Region.wanted o (yielded ops a.tmps) = true then Oper.wp P o a w K Q else E := by
  have hw : Region.wanted o (yielded ops a.tmps) = true := by simp [Region.wanted, hgd]
  rw [if_pos hw]
  exact wp_append_clip w s x t ho e i z sz bytes ht hi hz hsize hby A n xs hs hr A2 m c2 ys hx hy h63 hbytes h
/-- append onto what the call owns, from any source. -/
theorem run_append_src (base : Nat) (t ty e : TypeId) (i : TypeInfo) (z : Value) (s bytes : Nat) (ht : P.underlying t = some (.slice e)) (hi : P.info? e = some i) (hz : i.zero = some z)
    (hsize : i.size = s) (hby : i.bytes = bytes) (hzs : z.cells.size = s) (hsz : 0 < s)
    (v : Value) (n : Nat) (xs : List Value) (hown : w.ownsRow base e s v n xs)
    (A : Option Addr) (m c : Nat) (ys : List Value) (hs : Sl w s A m ys) (h1 : ∀ u ∈ ys, u.oneCell' = true)
    (h63 : n + m ≤ maxLen) (hbytes : (n + m) * bytes ≤ 140737488355328) (hbase : base ≤ w.heap.size) :
    ∃ v' w', (Builtin.append_ #[t, t] ty #[v, .slice A m c]).run P w = .ok v' w' ∧ w'.ownsRow base e s v' (n + m) (xs ++ ys) ∧ w.grownBy w' v.ownBlock ∧
      (v'.ownBlock = v.ownBlock ∨ v'.ownBlock = some w.heap.size) := by
  rcases Nat.eq_zero_or_pos m with h0 | h0
  · subst h0
    have hy : ys = [] := List.eq_nil_of_length_eq_zero (by simpa using hs.1)
    subst hy
    rcases hown.2 with ⟨rfl, rfl⟩ | ⟨g, cap, cur, rfl, hb, hg, hnc, hr⟩
    · exact ⟨_, w, run_append_zero w t ty e i ht hi none 0 0 (Nat.le_refl _) A c, by simpa using hown, World.grownBy.refl w _, .inl rfl⟩
    · exact ⟨_, w, run_append_zero w t ty e i ht hi _ n cap hnc A c, by simpa using hown, World.grownBy.refl w _, .inl rfl⟩
  · obtain ⟨g, o, rfl, _, _⟩ := hs.2 h0
    obtain ⟨v', w', hr, h2, h3, _, h5⟩ := run_append_own_at (P := P) w base t ty e i z s bytes ht hi hz hsize hby hzs hsz v n xs hown ⟨g, o, none⟩ m c ys hs.1 (hs.cells _ rfl) h1 h63 hbytes hbase
    exact ⟨v', w', hr, h2, h3, h5⟩

theorem wp_append_src {o : Oper} {a : Act} {K : Act → World → Prop} {Q : Exit → Act → World → Prop} (so x : Operand) (t : TypeId)
    (ho : o.op = .call { callee := .builtin .append, args := #[so, x], argTypes := #[t, t] })
    (base : Nat) (e : TypeId) (i : TypeInfo) (z : Value) (s bytes : Nat) (ht : P.underlying t = some (.slice e)) (hi : P.info? e = some i) (hz : i.zero = some z)
    (hsize : i.size = s) (hby : i.bytes = bytes) (hzs : z.cells.size = s) (hsz : 0 < s)
    (v : Value) (n : Nat) (xs : List Value) (hs : a.eval so = v) (hown : w.ownsRow base e s v n xs)
    (A : Option Addr) (m c : Nat) (ys : List Value) (hx : a.eval x = .slice A m c) (hy : Sl w s A m ys) (h1 : ∀ u ∈ ys, u.oneCell' = true)
    (h63 : n + m ≤ maxLen) (hbytes : (n + m) * bytes ≤ 140737488355328) (hbase : base ≤ w.heap.size)
    (h : ∀ v' w', w'.ownsRow base e s v' (n + m) (xs ++ ys) → w.grownBy w' v.ownBlock → (v'.ownBlock = v.ownBlock ∨ v'.ownBlock = some w.heap.size) → K (a.put o.dst v') w') : o.wp P a w K Q := by
  obtain ⟨v', w', hr, h2, h3, h4⟩ := run_append_src (P := P) w base t o.type e i z s bytes ht hi hz hsize hby hzs hsz v n xs hown A m c ys hy h1 h63 hbytes hbase
  unfold Oper.wp execOp
  simp only [ho, resolve, invoke, builtin, Sem.run_bind, Sem.run_pure, Result.andThen_ok, List.map_toArray, List.map_cons, List.map_nil, hs, hx, hr]
  exact h v' w' h2 h3 h4

theorem wpList_append_src {ops : Array Oper} {rest : List Oper} {o : Oper} {a : Act} {Q : Exit → Act → World → Prop} (hgd : o.guard = none) (so x : Operand) (t : TypeId)
    (ho : o.op = .call { callee := .builtin .append, args := #[so, x], argTypes := #[t, t] })
    (base : Nat) (e : TypeId) (i : TypeInfo) (z : Value) (s bytes : Nat) (ht : P.underlying t = some (.slice e)) (hi : P.info? e = some i) (hz : i.zero = some z)
    (hsize : i.size = s) (hby : i.bytes = bytes) (hzs : z.cells.size = s) (hsz : 0 < s)
    (v : Value) (n : Nat) (xs : List Value) (hs : a.eval so = v) (hown : w.ownsRow base e s v n xs)
    (A : Option Addr) (m c : Nat) (ys : List Value) (hx : a.eval x = .slice A m c) (hy : Sl w s A m ys) (h1 : ∀ u ∈ ys, u.oneCell' = true)
    (h63 : n + m ≤ maxLen) (hbytes : (n + m) * bytes ≤ 140737488355328) (hbase : base ≤ w.heap.size)
    (h : ∀ v' w', w'.ownsRow base e s v' (n + m) (xs ++ ys) → w.grownBy w' v.ownBlock → (v'.ownBlock = v.ownBlock ∨ v'.ownBlock = some w.heap.size) → wpList P ops Q rest (a.put o.dst v') w') : wpList P ops Q (o :: rest) a w :=
  wpList_plain hgd fun _ hK => wp_append_src w so x t ho base e i z s bytes ht hi hz hsize hby hzs hsz v n xs hs hown A m c ys hx hy h1 h63 hbytes hbase fun v' w' h2 h3 h4 => hK _ _ (h v' w' h2 h3 h4)

theorem step_append_src {ops : Array Oper} {o : Oper} {a : Act} {K : Act → World → Prop} {Q : Exit → Act → World → Prop} {E : Prop} (hgd : o.guard = none) (so x : Operand) (t : TypeId)
    (ho : o.op = .call { callee := .builtin .append, args := #[so, x], argTypes := #[t, t] })
    (base : Nat) (e : TypeId) (i : TypeInfo) (z : Value) (s bytes : Nat) (ht : P.underlying t = some (.slice e)) (hi : P.info? e = some i) (hz : i.zero = some z)
    (hsize : i.size = s) (hby : i.bytes = bytes) (hzs : z.cells.size = s) (hsz : 0 < s)
    (v : Value) (n : Nat) (xs : List Value) (hs : a.eval so = v) (hown : w.ownsRow base e s v n xs)
    (A : Option Addr) (m c : Nat) (ys : List Value) (hx : a.eval x = .slice A m c) (hy : Sl w s A m ys) (h1 : ∀ u ∈ ys, u.oneCell' = true)
    (h63 : n + m ≤ maxLen) (hbytes : (n + m) * bytes ≤ 140737488355328) (hbase : base ≤ w.heap.size)
    (h : ∀ v' w', w'.ownsRow base e s v' (n + m) (xs ++ ys) → w.grownBy w' v.ownBlock → (v'.ownBlock = v.ownBlock ∨ v'.ownBlock = some w.heap.size) → K (a.put o.dst v') w') :
    if Region.wanted o (yielded ops a.tmps) = true then Oper.wp P o a w K Q else E := by
  have hw : Region.wanted o (yielded ops a.tmps) = true := by simp [Region.wanted, hgd]
  rw [if_pos hw]
  exact wp_append_src w so x t ho base e i z s bytes ht hi hz hsize hby hzs hsz v n xs hs hown A m c ys hx hy h1 h63 hbytes hbase h
end

/-! ### copy, of elements of several cells -/
section
variable {P : Program} (w : World)

/-- s[k:], the address written out. -/
theorem cut_at (t e : TypeId) (i : TypeInfo) (ht : P.underlying t = some (.slice e)) (hi : P.info? e = some i) (s : Nat) (hs : i.size = s) (kk : IntKind) (g o n c : Nat) (z : Int) (k : Nat) (hz : z = k) (hk : k ≤ n) (hc : k < c) :
    ∀ w, (Instr.slice t (.slice (some ⟨g, o, none⟩) n c) (some (.int kk z)) none none).run P w = .ok (.slice (some ⟨g, o + k * s, none⟩) (n - k) (c - k)) w := fun w => by
  subst hz
  have h0 : (0 : Int) ≤ (k : Int) := by omega
  have h1 : (k : Int) ≤ (n : Int) := by omega
  have h2 : ¬ c = k := by omega
  simp [Instr.slice, run_underlying ht, Instr.sliceBounds, run_sliceBound, sizeOf, typeInfo, hi, hs, h0, h1, h2, Addr.add_lit]

theorem run_copy_s (dT sT ty elem : TypeId) (s g o dLen dCap : Nat) (a : Addr) (sLen sCap m : Nat) (cur : Array Value) (t : TypeId) (cs : List Value)
    (hu : P.underlying dT = some (.slice elem)) (i : TypeInfo) (hi : P.info? elem = some i) (hs : i.size = s)
    (hg : w.heap[g]? = some (.cells cur t (0, 0))) (hm : Nat.min sLen dLen = m) (hn : cs.length = m * s)
    (hsrc : ∀ j v, cs[j]? = some v → w.cell? (a.add j) = some v) (hfit : o + cs.length ≤ cur.size) (h1 : ∀ v ∈ cs, v.oneCell' = true) :
    (Builtin.copy_ #[dT, sT] ty #[.slice (some ⟨g, o, none⟩) dLen dCap, .slice (some a) sLen sCap]).run P w =
      .ok (goInt m) (w.setRow g (cur.toList.take o ++ cs ++ cur.toList.drop (o + cs.length)).toArray) := by
  have hl := run_loadCells_list (P := P) w a cs hsrc
  rw [hn] at hl
  have hst := run_storeCells_at P g o t cs 0 cur w hg (by simpa using hfit) h1
  simp [Builtin.copy_, run_underlying hu, Builtin.lenOf, Builtin.firstCells, sizeOf, typeInfo, hi, hs, hm, hl, hst]

theorem wp_copy_run {o : Oper} {a : Act} {K : Act → World → Prop} {Q : Exit → Act → World → Prop} (d x : Operand) (t t' : TypeId)
    (ho : o.op = .call { callee := .builtin .copy, args := #[d, x], argTypes := #[t, t'] }) (v u : Value) (hd : a.eval d = v) (hx : a.eval x = u) {v' : Value} {w' : World}
    (hr : (Builtin.copy_ #[t, t'] o.type #[v, u]).run P w = .ok v' w') (h : K (a.put o.dst v') w') : o.wp P a w K Q := by
  unfold Oper.wp execOp
  simp only [ho, resolve, invoke, builtin, Sem.run_bind, Sem.run_pure, Result.andThen_ok, List.map_toArray, List.map_cons, List.map_nil, hd, hx, hr]
  exact h
theorem wpList_copy_run {ops : Array Oper} {rest : List Oper} {o : Oper} {a : Act} {Q : Exit → Act → World → Prop} (hgd : o.guard = none) (d x : Operand) (t t' : TypeId)
    (ho : o.op = .call { callee := .builtin .copy, args := #[d, x], argTypes := #[t, t'] }) (v u : Value) (hd : a.eval d = v) (hx : a.eval x = u) {v' : Value} {w' : World}
    (hr : (Builtin.copy_ #[t, t'] o.type #[v, u]).run P w = .ok v' w') (h : wpList P ops Q rest (a.put o.dst v') w') : wpList P ops Q (o :: rest) a w :=
  wpList_plain hgd fun _ hK => wp_copy_run w d x t t' ho v u hd hx hr (hK _ _ h)
theorem step_copy_run {ops : Array Oper} {o : Oper} {a : Act} {K : Act → World → Prop} {Q : Exit → Act → World → Prop} {E : Prop} (hgd : o.guard = none) (d x : Operand) (t t' : TypeId)
    (ho : o.op = .call { callee := .builtin .copy, args := #[d, x], argTypes := #[t, t'] }) (v u : Value) (hd : a.eval d = v) (hx : a.eval x = u) {v' : Value} {w' : World}
    (hr : (Builtin.copy_ #[t, t'] o.type #[v, u]).run P w = .ok v' w') (h : K (a.put o.dst v') w') :
    if Region.wanted o (yielded ops a.tmps) = true then Oper.wp P o a w K Q else E := by
  have hw : Region.wanted o (yielded ops a.tmps) = true := by simp [Region.wanted, hgd]
  rw [if_pos hw]
  exact wp_copy_run w d x t t' ho v u hd hx hr h
end

/-- Block g holds these cells. -/
def RowIs (w : World) (g : Nat) (e : TypeId) (cs : List Value) : Prop := w.heap[g]? = some (.cells cs.toArray e (0, 0))

theorem RowIs.cell {w : World} {g : Nat} {e : TypeId} {cs : List Value} (h : RowIs w g e cs) (j : Nat) : w.cell? ⟨g, j, none⟩ = cs[j]? := by
  rw [cell_of_row w g j _ e (0, 0) h]; simp
theorem RowIs.below {w w' : World} {g : Nat} {e : TypeId} {cs : List Value} (h : RowIs w g e cs) (hb : Below w.heap.size w w') : RowIs w' g e cs := (hb.block g (lt_of_heap h)).trans h
theorem RowIs.drew {w : World} {g : Nat} {e : TypeId} {cs : List Value} (h : RowIs w g e cs) : RowIs w.drew g e cs := h
theorem RowIs.other {w : World} {g k : Nat} {e : TypeId} {cs : List Value} (h : RowIs w g e cs) (hne : g ≠ k) (xs : Array Value) : RowIs (w.setRow k xs) g e cs := (setRow_other w k g xs hne).trans h
theorem RowIs.set {w : World} {g : Nat} {e : TypeId} {cs : List Value} (h : RowIs w g e cs) (xs : List Value) : RowIs (w.setRow g xs.toArray) g e xs := setRow_heap w g _ _ e _ h
theorem grown_setRow (w : World) (g : Nat) (xs : Array Value) : Only g w (w.setRow g xs) := ⟨rfl, rfl, rfl, by simp [World.setRow], fun k _ hk => setRow_other w g k xs (by simpa using hk)⟩
theorem RowIs.own {w : World} {base g n cap s : Nat} {e : TypeId} {cs xs : List Value} (h : RowIs w g e cs) (hb : base ≤ g) (hn : n ≤ cap) (hm : cap ≤ maxLen) (hl : cs.length = cap * s) (hx : cs.take (n * s) = xs) :
    w.ownsRow base e s (.slice (some ⟨g, 0, none⟩) n cap) n xs :=
  ⟨by rw [← hx, List.length_take, hl]; exact Nat.min_eq_left (Nat.mul_le_mul_right _ hn), .inr ⟨g, cap, cs.toArray, rfl, hb, h, hn, hm, by simpa using hl, by simpa using hx⟩⟩

/-- clear of elements of several cells. -/
theorem run_clear_s {P : Program} (w : World) (t elem ty : TypeId) (i : TypeInfo) (z : Value) (g o n c : Nat) (cur : Array Value) (et : TypeId)
    (hu : P.underlying t = some (.slice elem)) (hi : P.info? elem = some i) (hz : i.zero = some z) (hn : 0 < n)
    (hg : w.heap[g]? = some (.cells cur et (0, 0))) (hfit : o + n * z.cells.size ≤ cur.size) (h1 : ∀ v ∈ z.cells, v.oneCell' = true) :
    (Builtin.clear_ #[t] ty #[.slice (some ⟨g, o, none⟩) n c]).run P w =
      .ok (.tuple #[]) (w.setRow g (cur.toList.take o ++ (Builtin.zeroCells z.cells n).toList ++ cur.toList.drop (o + (Builtin.zeroCells z.cells n).toList.length)).toArray) := by
  have hl : (Builtin.zeroCells z.cells n).toList.length = n * z.cells.size := by rw [Array.length_toList, size_zeroCells]
  have hv : ∀ v ∈ (Builtin.zeroCells z.cells n).toList, v.oneCell' = true := fun v hv => by
    unfold Builtin.zeroCells at hv
    rw [Array.toList_map] at hv
    obtain ⟨k, hk, rfl⟩ := List.mem_map.1 hv
    have hk' : k < n * z.cells.size := by simpa using hk
    have hp : 0 < z.cells.size := by
      rcases Nat.eq_zero_or_pos z.cells.size with h | h
      · rw [h] at hk'; omega
      · exact h
    have hlt := Nat.mod_lt k hp
    rw [getElem!_pos z.cells _ hlt]
    exact h1 _ (Array.getElem_mem hlt)
  have hst := run_storeCells_at P g o et (Builtin.zeroCells z.cells n).toList 0 cur w hg (by rw [hl]; simpa using hfit) hv
  obtain ⟨m, rfl⟩ : ∃ m, n = m + 1 := ⟨n - 1, by omega⟩
  simp [Builtin.clear_, run_underlying hu, zeroValue, typeInfo, hi, hz, hst]

theorem wpList_clear_run {P : Program} (w : World) {ops : Array Oper} {rest : List Oper} {o : Oper} {a : Act} {Q : Exit → Act → World → Prop} (hgd : o.guard = none) (d : Operand) (t : TypeId)
    (ho : o.op = .call { callee := .builtin .clear, args := #[d], argTypes := #[t] }) (v : Value) (hd : a.eval d = v) {v' : Value} {w' : World}
    (hr : (Builtin.clear_ #[t] o.type #[v]).run P w = .ok v' w') (h : wpList P ops Q rest (a.put o.dst v') w') : wpList P ops Q (o :: rest) a w :=
  wpList_plain hgd fun _ hK => by
    unfold Oper.wp execOp
    simp only [ho, resolve, invoke, builtin, Sem.run_bind, Sem.run_pure, Result.andThen_ok, List.map_toArray, List.map_cons, List.map_nil, hd, hr]
    exact hK _ _ h

/-- A region that draws its order: n operations that only read, then a tail that is forced. -/
theorem wp_still_tail {P : Program} {id : Nat} {Q : Exit → Act → World → Prop} {a : Act} {w : World} {l : List Oper} (n : Nat) (hm : P.follows .mixedOrders = true) (hB : Region.lexTailB .any l.toArray n = true)
    (h : wpStill P l.toArray w.drew (fun a' => wpList P l.toArray Q (l.drop n) a' w.drew) (l.take n) a) : (Code.region id l.toArray true).wp P Q a w :=
  wp_region_still_tail n hm hB h

#print axioms step_append_clip
end Go.Proofs.Ythmclonjgbmhhaa
