/-
  Free, Gone, Sweep.
-/
import Derived.Test.YthmclonjgbmhhaaDelete
import Derived.Test.YthmclonjgbmhhaaRef
namespace Go.Proofs.Ythmclonjgbmhhaa
open Go.RowKit
set_option linter.unusedVariables false

theorem del_ret {w w1 w2 : World} {base : Nat} {own : Option Nat} {m : List Hold} {en : Ending} (hB : Below w.heap.size w w1) (hbase : w.heap.size ≤ base) (hown : ∀ k, own = some k → w.heap.size ≤ k) (h : DelRet w1 base own m en w2) : HoldRet w m en w2 := by
  obtain ⟨v, rfl, h1, hg⟩ := h
  exact ⟨v, rfl, own_base h1 hbase, hB.grown hg hB.size hown⟩

def IntAt (w : World) (b : Nat) (n : Int) : Prop := Blk w b 3 #[.int .i64 n]
theorem IntAt.cell {w : World} {b : Nat} {n : Int} (h : IntAt w b n) : w.cell? ⟨b, 0, none⟩ = some (.int .i64 n) := Blk.cell h 0
theorem IntAt.below {w w' : World} {b : Nat} {n : Int} (h : IntAt w b n) (hb : Below w.heap.size w w') : IntAt w' b n := Blk.below h hb
theorem IntAt.alloc {w : World} {b : Nat} {n : Int} (h : IntAt w b n) (o : Obj) : IntAt (w.alloc o) b n := Blk.alloc h o
theorem IntAt.new (w : World) (n : Int) : IntAt (w.alloc (.cells #[.int .i64 n] 3)) w.heap.size n := Blk.new w _ _

set_option maxHeartbeats 400000 in
theorem gone1_any (b : Nat) (t : Hold) (d : Dot) (w : World) (hb : DotAt w b d) :
    Calls Try.prog 32 #[.agg #[.int .i64 t.d.nd, .int .i64 t.d.n, .int .i64 t.rc, .int .i64 t.un], .pointer (some ⟨b, 0, none⟩)] w fun e w' => e = .returned (.bool (deq t.d d)) ∧ Below w.heap.size w w' := by
  have hc := fun o => (hb.alloc o).cells.1
  have hc2 := fun o => (hb.alloc o).cells.2
  clear hb
  have hq := fun W => eql_dot t.d d W
  have hg := fun op x y W => eqGuard_dot op x y t.d d W
  have HB := fun o => Lib.hid ((Below.refl w.heap.size w).alloc (Nat.le_refl _) o)
  go_enter Try.func32, Try.ntmps32
  go_wp2_with fail
  go_ret
  exact ⟨rfl, (HB _).out⟩

set_option maxHeartbeats 400000 in
theorem sweep1_any (b : Nat) (t : Hold) (now : Int) (w : World) (hb : IntAt w b now) :
    Calls Try.prog 37 #[.agg #[.int .i64 t.d.nd, .int .i64 t.d.n, .int .i64 t.rc, .int .i64 t.un], .pointer (some ⟨b, 0, none⟩)] w fun e w' => e = .returned (.bool (decide (t.un ≤ now))) ∧ Below w.heap.size w w' := by
  have hc := fun o => (hb.alloc o).cell
  clear hb
  have HB := fun o => Lib.hid ((Below.refl w.heap.size w).alloc (Nat.le_refl _) o)
  go_enter Try.func37, Try.ntmps37
  go_wp2_with fail
  go_ret
  exact ⟨rfl, (HB _).out⟩

set_option maxHeartbeats 400000 in
theorem free1_any (b b2 : Nat) (t : Hold) (d : Dot) (r : Int) (w : World) (hb : DotAt w b d) (hb2 : IntAt w b2 r) :
    Calls Try.prog 31 #[.agg #[.int .i64 t.d.nd, .int .i64 t.d.n, .int .i64 t.rc, .int .i64 t.un], .pointer (some ⟨b, 0, none⟩), .pointer (some ⟨b2, 0, none⟩)] w fun e w' => e = .returned (.bool (deq t.d d && t.rc == r)) ∧ Below w.heap.size w w' := by
  have hc := fun o => (hb.alloc o).cells.1
  have hc2 := fun o => (hb.alloc o).cells.2
  have hc3 := fun o => (hb2.alloc o).cell
  clear hb hb2
  have HB := fun o => Lib.hid ((Below.refl w.heap.size w).alloc (Nat.le_refl _) o)
  have hq := fun W => eql_dot t.d d W
  have hg := fun op x y W => eqGuard_dot op x y t.d d W
  cases he : deq t.d d
  all_goals
    rw [he] at hq
    clear he
    go_enter Try.func31, Try.ntmps31
    go_wp2_with fail
    go_ret
    exact ⟨by simp, (HB _).out⟩

set_option maxHeartbeats 1000000 in
theorem gone_any (A : Option Addr) (c : Nat) (l : List Hold) (d : Dot) (w : World) (hr : Sl w 4 A l.length (hcells l)) (hn : l.length ≤ 10000) :
    Calls Try.prog 14 #[.slice A l.length c, .agg #[.int .i64 d.nd, .int .i64 d.n]] w (HoldRet w (goneL l d)) := by
  have Hr := Lib.hid hr
  clear hr
  go_enter Try.func14, Try.ntmps14
  go_wp2_with fail
  refine (clone_holds A l.length c _ _ (Hr.out.below ((Below.refl _ _).alloc (Nat.le_refl _) _)) (hcells_one l) (by omega)).mono ?_
  rintro e w1 ⟨v1, rfl, hown, hb1⟩
  have B1 := Lib.hid (((Below.refl w.heap.size w).alloc (Nat.le_refl _) (.cells #[.int .i64 d.nd, .int .i64 d.n] 24)).trans (hb1.mono (by simp)))
  have HD := Lib.hid ((DotAt.new w d).below hb1)
  have HO := Lib.hid (own_base hown (base' := w.heap.size + 1) (by simp))
  clear hown hb1
  go_wp2_with fail
  refine (delete_any 32 #[.pointer (some ⟨w.heap.size, 0, none⟩)] (fun t => deq t.d d) (w.heap.size + 1) v1 l w1 HO.out (by omega) (enters_fn Try.func32 (by kernel_rfl) (by kernel_rfl))
    (fun t W hW => gone1_any _ t d W (HD.out.below hW)) (fun g hg t W hW => gone1_any _ t d W (Blk.only HD.out hW (by have := (own_block_lt HO.out g hg).1; omega)))).mono ?_
  rintro e w2 hdel
  have hR := del_ret B1.out (by omega) (fun k hk => by have := (own_block_lt HO.out k hk).1; omega) hdel
  obtain ⟨v2, rfl, ha2⟩ := hR
  have HA := Lib.hid ha2
  clear hdel ha2
  go_wp2_with fail
  go_ret
  exact ⟨v2, rfl, HA.out⟩

theorem sweep_eq (l : List Hold) (now : Int) : (l.filter fun t => !decide (t.un ≤ now)) = sweepL l now := by
  unfold sweepL
  congr 1
  funext t
  rw [Bool.eq_iff_iff]; simp

set_option maxHeartbeats 1000000 in
theorem sweep_any (A : Option Addr) (c : Nat) (l : List Hold) (now : Int) (w : World) (hr : Sl w 4 A l.length (hcells l)) (hn : l.length ≤ 10000) :
    Calls Try.prog 20 #[.slice A l.length c, .int .i64 now] w (HoldRet w (sweepL l now)) := by
  have Hr := Lib.hid hr
  have HE := Lib.hid (sweep_eq l now)
  clear hr
  go_enter Try.func20, Try.ntmps20
  go_wp2_with fail
  refine (clone_holds A l.length c _ _ (Hr.out.below ((Below.refl _ _).alloc (Nat.le_refl _) _)) (hcells_one l) (by omega)).mono ?_
  rintro e w1 ⟨v1, rfl, hown, hb1⟩
  have B1 := Lib.hid (((Below.refl w.heap.size w).alloc (Nat.le_refl _) (.cells #[.int .i64 now] 3)).trans (hb1.mono (by simp)))
  have HD := Lib.hid ((IntAt.new w now).below hb1)
  have HO := Lib.hid (own_base hown (base' := w.heap.size + 1) (by simp))
  clear hown hb1
  go_wp2_with fail
  refine (delete_any 37 #[.pointer (some ⟨w.heap.size, 0, none⟩)] (fun t => decide (t.un ≤ now)) (w.heap.size + 1) v1 l w1 HO.out (by omega) (enters_fn Try.func37 (by kernel_rfl) (by kernel_rfl))
    (fun t W hW => sweep1_any _ t now W (HD.out.below hW)) (fun g hg t W hW => sweep1_any _ t now W (Blk.only HD.out hW (by have := (own_block_lt HO.out g hg).1; omega)))).mono ?_
  rintro e w2 hdel
  have hR := del_ret B1.out (by omega) (fun k hk => by have := (own_block_lt HO.out k hk).1; omega) hdel
  obtain ⟨v2, rfl, ha2⟩ := hR
  rw [HE.out] at ha2
  have HA := Lib.hid ha2
  clear hdel ha2
  go_wp2_with fail
  go_ret
  exact ⟨v2, rfl, HA.out⟩

def freeL (l : List Hold) (d : Dot) (r : Int) : List Hold := l.filter fun t => !(deq t.d d && t.rc == r)

set_option maxHeartbeats 1000000 in
theorem free_any (A : Option Addr) (c : Nat) (l : List Hold) (d : Dot) (r : Int) (w : World) (hr : Sl w 4 A l.length (hcells l)) (hn : l.length ≤ 10000) :
    Calls Try.prog 13 #[.slice A l.length c, .agg #[.int .i64 d.nd, .int .i64 d.n], .int .i64 r] w (HoldRet w (freeL l d r)) := by
  have Hr := Lib.hid hr
  clear hr
  go_enter Try.func13, Try.ntmps13
  go_wp2_with fail
  refine (clone_holds A l.length c _ _ (Hr.out.below (((Below.refl _ _).alloc (Nat.le_refl _) _).alloc (by simp) _)) (hcells_one l) (by omega)).mono ?_
  rintro e w1 ⟨v1, rfl, hown, hb1⟩
  have B1 := Lib.hid ((((Below.refl w.heap.size w).alloc (Nat.le_refl _) (.cells #[.int .i64 d.nd, .int .i64 d.n] 24)).alloc (by simp) (.cells #[.int .i64 r] 3)).trans (hb1.mono (by simp; omega)))
  have HD := Lib.hid (((DotAt.new w d).alloc (.cells #[.int .i64 r] 3)).below hb1)
  have hi1 := (IntAt.new (w.alloc (.cells #[.int .i64 d.nd, .int .i64 d.n] 24)) r).below hb1
  rw [World.size_alloc] at hi1
  have HI := Lib.hid hi1
  have HO := Lib.hid (own_base hown (base' := w.heap.size + 2) (by simp))
  clear hown hb1 hi1
  go_wp2_with fail
  refine (delete_any 31 #[.pointer (some ⟨w.heap.size, 0, none⟩), .pointer (some ⟨w.heap.size + 1, 0, none⟩)] (fun t => deq t.d d && t.rc == r) (w.heap.size + 2) v1 l w1 HO.out (by omega) (enters_fn Try.func31 (by kernel_rfl) (by kernel_rfl))
    (fun t W hW => free1_any _ _ t d r W (HD.out.below hW) (HI.out.below hW)) (fun g hg t W hW => free1_any _ _ t d r W (Blk.only HD.out hW (by have := (own_block_lt HO.out g hg).1; omega)) (Blk.only HI.out hW (by have := (own_block_lt HO.out g hg).1; omega)))).mono ?_
  rintro e w2 hdel
  have hR := del_ret B1.out (by omega) (fun k hk => by have := (own_block_lt HO.out k hk).1; omega) hdel
  obtain ⟨v2, rfl, ha2⟩ := hR
  have HA := Lib.hid ha2
  clear hdel ha2
  go_wp2_with fail
  go_ret
  exact ⟨v2, rfl, HA.out⟩

#print axioms free_any
#print axioms gone_any
#print axioms sweep_any
end Go.Proofs.Ythmclonjgbmhhaa
