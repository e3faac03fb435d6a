/-
  The document's answer: Gone, Free, Sweep, Same.
-/
import Derived.Test.YthmclonjgbmhhaaFinds
namespace Go.Proofs.Ythmclonjgbmhhaa
open Go.RowKit
set_option linter.unusedVariables false

theorem filter_drop (p : Hold → Bool) (l : List Hold) (k : Nat) (hk : k < l.length) : (l.drop k).filter p = if p l[k] then l[k] :: (l.drop (k + 1)).filter p else (l.drop (k + 1)).filter p := by
  rw [List.drop_eq_getElem_cons hk, List.filter_cons]

def goneL (l : List Hold) (d : Dot) : List Hold := l.filter fun t => !deq t.d d
def sweepL (l : List Hold) (now : Int) : List Hold := l.filter fun t => decide (now < t.un)

theorem append_one (pre : List Hold) (t : Hold) (r : List Hold) : pre ++ t :: r = (pre ++ [t]) ++ r := by simp

set_option maxHeartbeats 1000000 in
theorem refGone_any (A : Option Addr) (c : Nat) (l : List Hold) (d : Dot) (w : World) (hr : Sl w 4 A l.length (hcells l)) (hn : l.length ≤ 10000) :
    Calls Try.prog 19 #[.slice A l.length c, .agg #[.int .i64 d.nd, .int .i64 d.n]] w (HoldRet w (goneL l d)) := by
  obtain ⟨W0, hW0⟩ : ∃ W0, w.alloc (.cells #[.int .i64 d.nd, .int .i64 d.n] 24) = W0 := ⟨_, rfl⟩
  have hb0 : Below w.heap.size w W0 := hW0 ▸ (Below.refl _ _).alloc (Nat.le_refl _) _
  have hd0 : DotAt W0 w.heap.size d := hW0 ▸ DotAt.new w d
  have hr0 := hr.below hb0
  have B0 := Lib.hid hb0
  have Hr := Lib.hid hr0
  have HD := Lib.hid hd0
  clear hr hb0 hd0 hr0
  go_enter Try.func19, Try.ntmps19
  go_wp2_with fail
  clear hW0
  go_loopw [5, 6] (fun v i wr => ∃ (k : Nat) (pre : List Hold), k ≤ l.length ∧ i = .int .i64 k ∧ pre.length ≤ k ∧ goneL l d = pre ++ goneL (l.drop k) d ∧ Acc W0 pre v wr) (fun _ i _ => l.length - (intOf i).toNat)
  case atStart => exact ⟨0, [], Nat.zero_le _, rfl, by simp, by simp, Acc.nil (Below.refl _ _)⟩
  case round =>
    obtain ⟨k, pre, hk, rfl, hpl, hp, ha⟩ := hrel
    have Hp := Lib.hid hp
    have HA := Lib.hid ha
    obtain ⟨hd0, hd1⟩ := (HD.out.below ha.2).cells
    have hdr := fun n => Lib.hid (ha.below (below_drewN (Below.refl _ _) n))
    clear hp ha
    by_cases hlt : k < l.length
    · obtain ⟨g, o, rfl, hg, c0, c1, c2, c3⟩ := hold_cells (Hr.out.below HA.out.2) (List.getElem?_eq_getElem hlt)
      have HK := Lib.hid (filter_drop (fun t => !deq t.d d) l k hlt)
      generalize hz : l[k] = t at c0 c1 c2 c3 HK
      clear hz
      have hq := fun W => neq_dot t.d d W
      have hg := fun op x y W => eqGuard_dot op x y t.d d W
      cases he : deq t.d d
      · have HN : Hid (goneL l d = (pre ++ [t]) ++ goneL (l.drop (k + 1)) d) := Lib.hid (by rw [Hp.out]; unfold goneL; rw [HK.out, he]; simp)
        clear HK Hp
        rw [he] at hq
        go_wp2_with fail
        go_quiet (fail)
        go_wp2_with (at_builtin; refine wpList_hold rfl (.tmp 20) (.tmp 25) rfl (hdr _).out t rfl (by simp [Act.eval]) (by omega) ?_)
        intro v1 w1 hA1
        have HA1 := Lib.hid hA1
        clear hA1
        go_wp2_with fail
        go_roundw
        case rel => exact ⟨k + 1, pre ++ [t], by omega, by go_num, by simp; omega, HN.out, HA1.out⟩
        case measure => simp [intOf]; omega
      · have HN : Hid (goneL l d = pre ++ goneL (l.drop (k + 1)) d) := Lib.hid (by rw [Hp.out]; unfold goneL; rw [HK.out, he]; simp)
        clear HK Hp
        rw [he] at hq
        go_wp2_with fail
        go_quiet (fail)
        go_wp2_with fail
        go_roundw
        case rel => exact ⟨k + 1, pre, by omega, by go_num, by omega, HN.out, (hdr _).out⟩
        case measure => simp [intOf]; omega
    · have HN : Hid (goneL l d = pre) := Lib.hid (by rw [Hp.out, List.drop_eq_nil_of_le (by omega)]; simp [goneL])
      go_wp2_with fail
      go_ret
      exact ⟨_, rfl, by rw [HN.out]; exact HA.out.up B0.out⟩

set_option maxHeartbeats 1000000 in
theorem refSweep_any (A : Option Addr) (c : Nat) (l : List Hold) (now : Int) (w : World) (hr : Sl w 4 A l.length (hcells l)) (hn : l.length ≤ 10000) :
    Calls Try.prog 21 #[.slice A l.length c, .int .i64 now] w (HoldRet w (sweepL l now)) := by
  have Hr := Lib.hid hr
  clear hr
  go_enter Try.func21, Try.ntmps21
  go_wp2_with fail
  go_loopw [5, 6] (fun v i wr => ∃ (k : Nat) (pre : List Hold), k ≤ l.length ∧ i = .int .i64 k ∧ pre.length ≤ k ∧ sweepL l now = pre ++ sweepL (l.drop k) now ∧ Acc w pre v wr) (fun _ i _ => l.length - (intOf i).toNat)
  case atStart => exact ⟨0, [], Nat.zero_le _, rfl, by simp, by simp, Acc.nil (Below.refl _ _)⟩
  case round =>
    obtain ⟨k, pre, hk, rfl, hpl, hp, ha⟩ := hrel
    have Hp := Lib.hid hp
    have HA := Lib.hid ha
    clear hp ha
    by_cases hlt : k < l.length
    · obtain ⟨g, o, rfl, hg, c0, c1, c2, c3⟩ := hold_cells (Hr.out.below HA.out.2) (List.getElem?_eq_getElem hlt)
      have HK := Lib.hid (filter_drop (fun t => decide (now < t.un)) l k hlt)
      generalize hz : l[k] = t at c0 c1 c2 c3 HK
      clear hz
      cases he : decide (now < t.un)
      · have HN : Hid (sweepL l now = pre ++ sweepL (l.drop (k + 1)) now) := Lib.hid (by rw [Hp.out]; unfold sweepL; rw [HK.out, he]; simp)
        clear HK Hp
        go_wp2_with fail
        go_roundw
        case rel => exact ⟨k + 1, pre, by omega, by go_num, by omega, HN.out, HA.out⟩
        case measure => simp [intOf]; omega
      · have HN : Hid (sweepL l now = (pre ++ [t]) ++ sweepL (l.drop (k + 1)) now) := Lib.hid (by rw [Hp.out]; unfold sweepL; rw [HK.out, he]; simp)
        clear HK Hp
        go_wp2_with (at_builtin; refine wpList_hold rfl (.tmp 20) (.tmp 25) rfl HA.out t rfl rfl (by omega) ?_)
        intro v1 w1 hA1
        have HA1 := Lib.hid hA1
        clear hA1
        go_wp2_with fail
        go_roundw
        case rel => exact ⟨k + 1, pre ++ [t], by omega, by go_num, by simp; omega, HN.out, HA1.out⟩
        case measure => simp [intOf]; omega
    · have HN : Hid (sweepL l now = pre) := Lib.hid (by rw [Hp.out, List.drop_eq_nil_of_le (by omega)]; simp [sweepL])
      go_wp2_with fail
      go_ret
      exact ⟨_, rfl, by rw [HN.out]; exact HA.out⟩

/-- What hands back a row that reads as l. -/
def SlRet (w : World) (l : List Hold) (en : Ending) (w' : World) : Prop := ∃ A c, en = .returned (.slice A l.length c) ∧ Sl w' 4 A l.length (hcells l) ∧ Below w.heap.size w w'
theorem HoldRet.sl {w w' : World} {l : List Hold} {en : Ending} (h : HoldRet w l en w') : SlRet w l en w' := by
  obtain ⟨v, rfl, ha⟩ := h
  obtain ⟨A, c, rfl, hs, _⟩ := ha.slice
  exact ⟨A, c, rfl, hs, ha.2⟩

def freeR (l : List Hold) (d : Dot) (r : Int) : List Hold := match findR l d with | some h => if h.rc == r then goneL l d else l | none => l

set_option maxHeartbeats 1000000 in
theorem refFree_any (A : Option Addr) (c : Nat) (l : List Hold) (d : Dot) (r : Int) (w : World) (hr : Sl w 4 A l.length (hcells l)) (hn : l.length ≤ 10000) :
    Calls Try.prog 18 #[.slice A l.length c, .agg #[.int .i64 d.nd, .int .i64 d.n], .int .i64 r] w (SlRet w (freeR l d r)) := by
  have Hr := Lib.hid hr
  clear hr
  go_enter Try.func18, Try.ntmps18
  go_wp2_with fail
  refine (refFind_any A c l d _ (Hr.out.below ((Below.refl _ _).alloc (Nat.le_refl _) _)) (by omega)).mono ?_
  rintro e w1 ⟨rfl, hb⟩
  have B1 := Lib.hid (((Below.refl w.heap.size w).alloc (Nat.le_refl _) (.cells #[.int .i64 d.nd, .int .i64 d.n] 24)).trans (hb.mono (by simp)))
  have hd := (DotAt.new w d).below hb
  have HD := Lib.hid hd
  obtain ⟨hd0, hd1⟩ := hd.cells
  clear hb hd
  have hbz : w.heap.size < w1.heap.size := Blk.lt HD.out
  cases hf : findR l d with
  | none =>
    have HF : Hid (freeR l d r = l) := Lib.hid (by unfold freeR; rw [hf])
    clear hf
    simp only [Option.getD_none, Option.isSome_none]
    go_wp2_with fail
    go_ret
    rw [HF.out]
    exact ⟨A, c, rfl, Hr.out.below (B1.out.alloc (by omega) _), B1.out.alloc (by omega) _⟩
  | some t =>
    have HF : Hid (freeR l d r = if t.rc == r then goneL l d else l) := Lib.hid (by unfold freeR; rw [hf])
    clear hf
    simp only [Option.getD_some, Option.isSome_some]
    cases he : (t.rc == r)
    · have HN : Hid (freeR l d r = l) := Lib.hid (by rw [HF.out, he]; rfl)
      clear HF
      go_wp2_with fail
      go_ret
      rw [HN.out]
      exact ⟨A, c, rfl, Hr.out.below (B1.out.alloc (by omega) _), B1.out.alloc (by omega) _⟩
    · have HN : Hid (freeR l d r = goneL l d) := Lib.hid (by rw [HF.out, he]; rfl)
      clear HF
      go_wp2_with fail
      refine (refGone_any A c l d _ (Hr.out.below (B1.out.alloc (by omega) _)) hn).mono ?_
      rintro e w2 ht
      obtain ⟨A2, c2, rfl, hs2, hb2⟩ := HoldRet.sl ht
      have HS := Lib.hid hs2
      have B2 := Lib.hid ((B1.out.alloc (by omega) (.cells #[.int .i64 t.d.nd, .int .i64 t.d.n, .int .i64 t.rc, .int .i64 t.un] 30)).trans (hb2.mono (by simp; omega)))
      clear ht hs2 hb2
      go_wp2_with fail
      go_ret
      rw [HN.out]
      exact ⟨A2, c2, rfl, HS.out, B2.out⟩

theorem neq_hold (a b : Hold) (w : World) : (binOp .neq 30 (.agg #[.int .i64 a.d.nd, .int .i64 a.d.n, .int .i64 a.rc, .int .i64 a.un]) (.agg #[.int .i64 b.d.nd, .int .i64 b.d.n, .int .i64 b.rc, .int .i64 b.un])).run Try.prog w = .ok (.bool !(decide (a = b))) w := by
  have h1 : Try.prog.stoodInHeld 30 = false := by kernel_rfl
  have h2 : Try.prog.underlying 30 = some (.struct (Try.prog.fieldsOf 30)) := by kernel_rfl
  have h3 : Try.prog.stoodInHeld 24 = false := by kernel_rfl
  have h4 : Try.prog.underlying 24 = some (.struct (Try.prog.fieldsOf 24)) := by kernel_rfl
  have h5 : Try.prog.underlying 3 = some (.int .i64) := by kernel_rfl
  rw [run_neq_struct, run_equalIn_struct w 9999 _ _ _ h2 h1]
  simp [Op.eqFields, go_sem]
  have he : (a = b) = (a.d.nd = b.d.nd ∧ a.d.n = b.d.n ∧ a.rc = b.rc ∧ a.un = b.un) := by
    obtain ⟨⟨a1, a2⟩, a3, a4⟩ := a
    obtain ⟨⟨b1, b2⟩, b3, b4⟩ := b
    simp [and_assoc]
  by_cases e1 : a.d.nd = b.d.nd <;> by_cases e2 : a.d.n = b.d.n <;> by_cases e3 : a.rc = b.rc <;> by_cases e4 : a.un = b.un <;> simp [he, e1, e2, e3, e4]
theorem eqGuard_hold (op : BinOp) (x y : Operand) (a b : Hold) (w : World) : (eqGuard op 30 x y (.agg #[.int .i64 a.d.nd, .int .i64 a.d.n, .int .i64 a.rc, .int .i64 a.un]) (.agg #[.int .i64 b.d.nd, .int .i64 b.d.n, .int .i64 b.rc, .int .i64 b.un])).run Try.prog w = .ok () w := run_eqGuard_agg (P := Try.prog) w op _ x y _ _ (by kernel_rfl)

/-- Are two rows the same? -/
def sameH (l m : List Hold) : Bool := decide (l = m)
theorem same_drop (l m : List Hold) (k : Nat) (h1 : k < l.length) (h2 : k < m.length) : sameH (l.drop k) (m.drop k) = (decide (l[k] = m[k]) && sameH (l.drop (k + 1)) (m.drop (k + 1))) := by
  unfold sameH
  rw [Bool.eq_iff_iff, Bool.and_eq_true, decide_eq_true_eq, decide_eq_true_eq, decide_eq_true_eq, List.drop_eq_getElem_cons h1, List.drop_eq_getElem_cons h2, List.cons.injEq]

set_option maxHeartbeats 1000000 in
theorem same_any (A B : Option Addr) (c d : Nat) (l m : List Hold) (w : World) (hr : Sl w 4 A l.length (hcells l)) (hs : Sl w 4 B m.length (hcells m)) (hn : l.length ≤ 10000) (hm : m.length ≤ 10000) :
    Calls Try.prog 17 #[.slice A l.length c, .slice B m.length d] w fun e w' => e = .returned (.bool (sameH l m)) ∧ Below w.heap.size w w' := by
  have Hr := Lib.hid hr
  have Hs := Lib.hid hs
  clear hr hs
  by_cases hlm : l.length = m.length
  · have hd : ((l.length : Int) == (m.length : Int)) = true := by simp; omega
    have Hlm := Lib.hid hlm
    go_enter Try.func17, Try.ntmps17
    go_wp2_with fail
    go_loopw [5] (fun i wr => ∃ (k : Nat), k ≤ l.length ∧ i = .int .i64 k ∧ sameH l m = sameH (l.drop k) (m.drop k) ∧ Below w.heap.size w wr) (fun i _ => l.length - (intOf i).toNat)
    case atStart => exact ⟨0, Nat.zero_le _, rfl, by simp, Below.refl _ _⟩
    case round =>
      obtain ⟨k, hk, rfl, hp, hb⟩ := hrel
      have Hp := Lib.hid hp
      have HB := Lib.hid hb
      clear hp hb
      by_cases hlt : k < l.length
      · have hlt' : k < m.length := by have := Hlm.out; omega
        obtain ⟨g, o, rfl, hg, c0, d0, f0, g0⟩ := hold_cells (Hr.out.below HB.out) (List.getElem?_eq_getElem hlt)
        obtain ⟨g', o', rfl, hg', c1, d1, f1, g1⟩ := hold_cells (Hs.out.below HB.out) (List.getElem?_eq_getElem hlt')
        have HK := Lib.hid (same_drop l m k hlt hlt')
        generalize hz : l[k] = t at c0 d0 f0 g0 HK
        generalize hz' : m[k] = t' at c1 d1 f1 g1 HK
        clear hz hz'
        have hq := fun W => neq_hold t t' W
        have hg := fun op x y W => eqGuard_hold op x y t t' W
        cases he : decide (t = t')
        · have HN : Hid (sameH l m = false) := Lib.hid (by rw [Hp.out, HK.out, he]; rfl)
          clear HK Hp
          rw [he] at hq
          go_wp2_with fail
          go_quiet (fail)
          go_wp2_with fail
          go_ret
          exact ⟨by rw [HN.out]; rfl, below_drewN HB.out _⟩
        · have HN : Hid (sameH l m = sameH (l.drop (k + 1)) (m.drop (k + 1))) := Lib.hid (by rw [Hp.out, HK.out, he]; rfl)
          clear HK Hp
          rw [he] at hq
          have he' : t = t' := by simpa using he
          go_wp2_with fail
          go_quiet (fail)
          go_wp2_with fail
          go_roundw
          case rel => exact ⟨k + 1, by omega, by go_num, HN.out, below_drewN HB.out _⟩
          case measure => simp [intOf]; omega
      · have HN : Hid (sameH l m = true) := Lib.hid (by have := Hlm.out; rw [Hp.out, List.drop_eq_nil_of_le (by omega), List.drop_eq_nil_of_le (by omega)]; rfl)
        go_wp2_with fail
        go_ret
        exact ⟨by rw [HN.out]; rfl, HB.out⟩
  · have hd : ((l.length : Int) == (m.length : Int)) = false := by simp; omega
    have HN : Hid (sameH l m = false) := Lib.hid (by unfold sameH; rw [decide_eq_false]; intro e; exact hlm (by rw [e]))
    clear hlm
    go_enter Try.func17, Try.ntmps17
    go_wp2_with fail
    go_ret
    exact ⟨by rw [HN.out]; rfl, Below.refl _ _⟩

#print axioms same_any
#print axioms refFree_any
end Go.Proofs.Ythmclonjgbmhhaa
