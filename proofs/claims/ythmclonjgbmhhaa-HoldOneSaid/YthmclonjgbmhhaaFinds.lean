/-
  A message's promise, found; the document's answer too.
-/
import Derived.Test.YthmclonjgbmhhaaFind
namespace Go.Proofs.Ythmclonjgbmhhaa
open Go.RowKit
set_option linter.unusedVariables false

def z0 : Hold := ⟨⟨0, 0⟩, 0, 0⟩
/-- What is handed back of what was found, or not. -/
def FoundRet (w : World) (o : Option Hold) (en : Ending) (w' : World) : Prop :=
  en = .returned (.tuple #[.agg #[.int .i64 (o.getD z0).d.nd, .int .i64 (o.getD z0).d.n, .int .i64 (o.getD z0).rc, .int .i64 (o.getD z0).un], .bool o.isSome]) ∧ Below w.heap.size w w'

def findC (l : List Hold) (d : Dot) : Option Hold := if isC l d then l[pos l d]? else none

theorem found_some {w w' : World} {t : Hold} (h : Below w.heap.size w w') : FoundRet w (some t) (.returned (.tuple #[.agg #[.int .i64 t.d.nd, .int .i64 t.d.n, .int .i64 t.rc, .int .i64 t.un], .bool true])) w' := ⟨rfl, h⟩
theorem found_none {w w' : World} (h : Below w.heap.size w w') : FoundRet w none (.returned (.tuple #[.agg #[.int .i64 0, .int .i64 0, .int .i64 0, .int .i64 0], .bool false])) w' := ⟨rfl, h⟩

section
variable {w : World} {g : Nat} {t : TypeId} {x y z u a b c d : Value}
theorem Blk.four (h : Blk w g t #[x, y, z, u]) : w.cell? ⟨g, 0, none⟩ = some x ∧ w.cell? ⟨g, 1, none⟩ = some y ∧ w.cell? ⟨g, 2, none⟩ = some z ∧ w.cell? ⟨g, 3, none⟩ = some u :=
  ⟨h.cell 0, h.cell 1, h.cell 2, h.cell 3⟩
theorem Blk.put4 (h : Blk w g t #[x, y, z, u]) (a b c d : Value) : Blk ((((w.setCell ⟨g, 0, none⟩ a).setCell ⟨g, 1, none⟩ b).setCell ⟨g, 2, none⟩ c).setCell ⟨g, 3, none⟩ d) g t #[a, b, c, d] := by
  have := (((h.set_ 0 a).set_ 1 b).set_ 2 c).set_ 3 d
  simpa using this
end
theorem below4 {w w' : World} {g : Nat} (h : Below w.heap.size w w') (hg : w.heap.size ≤ g) (a b c d : Value) : Below w.heap.size w ((((w'.setCell ⟨g, 0, none⟩ a).setCell ⟨g, 1, none⟩ b).setCell ⟨g, 2, none⟩ c).setCell ⟨g, 3, none⟩ d) :=
  (((h.setCell hg a).setCell hg b).setCell hg c).setCell hg d

set_option maxHeartbeats 1000000 in
theorem Find_any (A : Option Addr) (c : Nat) (l : List Hold) (d : Dot) (w : World) (hr : Sl w 4 A l.length (hcells l)) (hn : l.length ≤ 9223372036854775807) :
    Calls Try.prog 11 #[.slice A l.length c, .agg #[.int .i64 d.nd, .int .i64 d.n]] w (FoundRet w (findC l d)) := by
  have Hr := Lib.hid hr
  clear hr
  go_enter Try.func11, Try.ntmps11
  go_wp2_with fail
  refine (find_any A c l d _ (Hr.out.below (((Below.refl _ _).alloc (Nat.le_refl _) _).alloc (by simp) _)) hn).mono ?_
  rintro e w' ⟨rfl, hb⟩
  have B := Lib.hid ((((Below.refl w.heap.size w).alloc (Nat.le_refl _) (.cells #[.int .i64 d.nd, .int .i64 d.n] 24)).alloc (by simp) (.cells #[.int .i64 0, .int .i64 0, .int .i64 0, .int .i64 0] 30)).trans (hb.mono (by simp; omega)))
  have hz := (Blk.new (w.alloc (.cells #[.int .i64 d.nd, .int .i64 d.n] 24)) 30 #[.int .i64 0, .int .i64 0, .int .i64 0, .int .i64 0]).below hb
  clear hb
  rw [World.size_alloc] at hz
  have HZ := Lib.hid hz
  obtain ⟨e0, e1, e2, e3⟩ := hz.four
  have hf := fun j => hz.frozen j
  clear hz
  cases hI : isC l d
  · have HF : Hid (findC l d = none) := Lib.hid (by unfold findC; rw [hI]; rfl)
    clear hI
    go_wp2_with fail
    obtain ⟨r0, r1, r2, r3⟩ := (HZ.out.put4 (.int .i64 0) (.int .i64 0) (.int .i64 0) (.int .i64 0)).four
    refine bodyPost_ret (v := .tuple #[.agg #[.int .i64 0, .int .i64 0, .int .i64 0, .int .i64 0], .bool false]) (by simp [results, Try.results11, go_sem, r0, r1, r2, r3]) rfl ?_
    rw [HF.out]
    exact found_none (below4 B.out (by omega) _ _ _ _)
  · have hlt : pos l d < l.length := by
      unfold isC at hI
      rcases Nat.lt_or_ge (pos l d) l.length with h | h
      · exact h
      · rw [List.getElem?_eq_none h] at hI; cases hI
    obtain ⟨g, o, rfl, hg, c0, c1, c2, c3⟩ := hold_cells (Hr.out.below B.out) (List.getElem?_eq_getElem hlt)
    have HF : Hid (findC l d = some l[pos l d]) := Lib.hid (by unfold findC; rw [hI, List.getElem?_eq_getElem hlt]; rfl)
    generalize hz : l[pos l d] = t at c0 c1 c2 c3 HF
    clear hz
    obtain ⟨k, hpk⟩ : ∃ k, pos l d = k := ⟨_, rfl⟩
    rw [hpk] at hlt c0 c1 c2 c3 ⊢
    clear hpk hI
    go_wp2_with fail
    obtain ⟨r0, r1, r2, r3⟩ := (HZ.out.put4 (.int .i64 t.d.nd) (.int .i64 t.d.n) (.int .i64 t.rc) (.int .i64 t.un)).four
    refine bodyPost_ret (v := .tuple #[.agg #[.int .i64 t.d.nd, .int .i64 t.d.n, .int .i64 t.rc, .int .i64 t.un], .bool true]) (by simp [results, Try.results11, go_sem, r0, r1, r2, r3]) rfl ?_
    rw [HF.out]
    exact found_some (below4 B.out (by omega) _ _ _ _)

/-! ### The document's answer -/
def findR : List Hold → Dot → Option Hold
  | [], _ => none
  | t :: l, d => if deq t.d d then some t else findR l d
theorem findR_drop (l : List Hold) (d : Dot) (k : Nat) (hk : k < l.length) : findR (l.drop k) d = if deq l[k].d d then some l[k] else findR (l.drop (k + 1)) d := by
  rw [List.drop_eq_getElem_cons hk]; rfl

/-- What a search leaves: its own two blocks. -/
def On2 (w : World) (d : Dot) (wr : World) : Prop := Below w.heap.size w wr ∧ DotAt wr w.heap.size d ∧ Blk wr (w.heap.size + 1) 30 #[.int .i64 0, .int .i64 0, .int .i64 0, .int .i64 0]
theorem On2.new (w : World) (d : Dot) : On2 w d ((w.alloc (.cells #[.int .i64 d.nd, .int .i64 d.n] 24)).alloc (.cells #[.int .i64 0, .int .i64 0, .int .i64 0, .int .i64 0] 30)) := by
  refine ⟨((Below.refl _ _).alloc (Nat.le_refl _) _).alloc (by simp) _, (DotAt.new w d).alloc _, ?_⟩
  have := Blk.new (w.alloc (.cells #[.int .i64 d.nd, .int .i64 d.n] 24)) 30 #[.int .i64 0, .int .i64 0, .int .i64 0, .int .i64 0]
  simpa using this
theorem On2.drew {w wr : World} {d : Dot} (h : On2 w d wr) (n : Nat) : On2 w d (wr.drewN n) := ⟨below_drewN h.1 n, h.2.1.below (below_drewN (Below.refl _ _) n), h.2.2.below (below_drewN (Below.refl _ _) n)⟩

set_option maxHeartbeats 1000000 in
theorem refFind_any (A : Option Addr) (c : Nat) (l : List Hold) (d : Dot) (w : World) (hr : Sl w 4 A l.length (hcells l)) (hn : l.length ≤ 9223372036854775807) :
    Calls Try.prog 22 #[.slice A l.length c, .agg #[.int .i64 d.nd, .int .i64 d.n]] w (FoundRet w (findR l d)) := by
  have Hr := Lib.hid hr
  clear hr
  have HO := Lib.hid (On2.new w d)
  go_enter Try.func22, Try.ntmps22
  go_wp2_with fail
  go_loopw [6] (fun i wr => ∃ k : Nat, k ≤ l.length ∧ i = .int .i64 k ∧ findR l d = findR (l.drop k) d ∧ On2 w d wr) (fun i _ => l.length - (intOf i).toNat)
  case atStart => exact ⟨0, Nat.zero_le _, rfl, rfl, HO.out⟩
  case round =>
    obtain ⟨k, hk, rfl, hp, ho⟩ := hrel
    have Hp := Lib.hid hp
    have HW := Lib.hid ho
    have hdr := fun n => Lib.hid (ho.drew n)
    obtain ⟨hd0, hd1⟩ := ho.2.1.cells
    obtain ⟨e0, e1, e2, e3⟩ := ho.2.2.four
    have hf := fun j => ho.2.2.frozen j
    clear hp ho HO
    by_cases hlt : k < l.length
    · obtain ⟨g, o, rfl, hg, c0, c1, c2, c3⟩ := hold_cells (Hr.out.below HW.out.1) (List.getElem?_eq_getElem hlt)
      have HK := Lib.hid (findR_drop l d k hlt)
      generalize hz : l[k] = t at c0 c1 c2 c3 HK
      clear hz
      have hq := fun W => eql_dot t.d d W
      have hg := fun op x y W => eqGuard_dot op x y t.d d W
      cases he : deq t.d d
      · have HN : Hid (findR l d = findR (l.drop (k + 1)) d) := Lib.hid (by rw [Hp.out, HK.out, he]; rfl)
        clear HK Hp
        rw [he] at hq
        go_wp2_with fail
        go_quiet (fail)
        go_wp2_with fail
        go_roundw
        case rel => exact ⟨k + 1, by omega, by go_num, HN.out, (hdr _).out⟩
        case measure => simp [intOf]; omega
      · have HN : Hid (findR l d = some t) := Lib.hid (by rw [Hp.out, HK.out, he]; rfl)
        clear HK Hp
        rw [he] at hq
        go_wp2_with fail
        go_quiet (fail)
        go_wp2_with fail
        have R := fun n => ((hdr n).out.2.2.put4 (.int .i64 t.d.nd) (.int .i64 t.d.n) (.int .i64 t.rc) (.int .i64 t.un)).four
        have r0 := fun n => (R n).1
        have r1 := fun n => (R n).2.1
        have r2 := fun n => (R n).2.2.1
        have r3 := fun n => (R n).2.2.2
        try simp only [Exit.inBlock, Exit.then]
        refine bodyPost_ret (v := .tuple #[.agg #[.int .i64 t.d.nd, .int .i64 t.d.n, .int .i64 t.rc, .int .i64 t.un], .bool true]) (by simp [results, Try.results22, go_sem, r0, r1, r2, r3]) rfl ?_
        rw [HN.out]
        exact found_some (below4 (hdr _).out.1 (by omega) _ _ _ _)
    · have HN : Hid (findR l d = none) := Lib.hid (by rw [Hp.out, List.drop_eq_nil_of_le (by omega)]; rfl)
      go_wp2_with fail
      obtain ⟨r0, r1, r2, r3⟩ := (HW.out.2.2.put4 (.int .i64 0) (.int .i64 0) (.int .i64 0) (.int .i64 0)).four
      try simp only [Exit.inBlock, Exit.then]
      refine bodyPost_ret (v := .tuple #[.agg #[.int .i64 0, .int .i64 0, .int .i64 0, .int .i64 0], .bool false]) (by simp [results, Try.results22, go_sem, r0, r1, r2, r3]) rfl ?_
      rw [HN.out]
      exact found_none (below4 HW.out.1 (by omega) _ _ _ _)

#print axioms Find_any
#print axioms refFind_any
end Go.Proofs.Ythmclonjgbmhhaa
