/-
  slices.Grow of nil, slices.Concat of two.
-/
import Derived.Test.YtcggmdidnpdciaaPost
namespace Go.Proofs.Ytcggmdidnpdciaa
open Go.RowKit

/-- What Grow of nil hands back. -/
def Grew (w : World) (n : Nat) (en : Ending) (w' : World) : Prop :=
  ∃ A c, en = .returned (.slice A 0 c) ∧ w'.ownsRow w.heap.size 32 3 (.slice A 0 c) 0 [] ∧ Below w.heap.size w w' ∧ n ≤ c

set_option maxHeartbeats 400000 in
theorem grow_nil (n : Nat) (w : World) (hn : n * 32 ≤ 140737488355328) :
    Calls Try.prog 28 #[.slice none 0 0, .int .i64 n] w (Grew w n) := by
  obtain ⟨i0, hi, hz0, hz1, hz2⟩ := info_parts info_letter
  rcases Nat.eq_zero_or_pos n with h0 | h0
  · subst h0
    go_enter Try.func28, Try.ntmps28
    go_wp2_with fail
    go_ret
    exact ⟨none, 0, rfl, World.ownsRow_nil _ _ _ _, Below.refl _ _, Nat.le_refl _⟩
  · have h1 : ¬ ((n : Int) < 0) := by omega
    have h2 : (0 : Int) < (n : Int) := by omega
    have h3 : (n : Int) ≤ 9223372036854775807 := by omega
    go_enter Try.func28, Try.ntmps28
    go_wp2_with (at_builtin; refine Lib.wpList_append_run _ rfl (.tmp 20) (.tmp 21) 40 3 rfl _ _ rfl rfl _ _ (Lib.run_append_nil_zeros _ _ _ _ _ i0 _ _ .i64 Try.underlying40 Try.underlying3 hi hz0 n h0 ?c1 ?c2 ?c3) ?_)
    case c3 => omega
    go_ret
    have hge := grownCap_ge w n 0 32
    have hm := grownCap_le_maxLen w n 0 32 (by unfold maxLen; omega)
    refine ⟨_, _, rfl, World.ownsRow_made w _ _ (Nat.le_refl _) hm ?_, ((Below.refl _ _).alloc (Nat.le_refl _) _).drew, hge⟩
    rw [Array.size_append, size_zeroCells, size_zeroCells, ← Nat.add_mul]
    show (n + (_ - n)) * 3 = _
    congr 1
    omega

/-- What Concat hands back. -/
def Joined (w : World) (n : Nat) (xs : List Value) (en : Ending) (w' : World) : Prop :=
  ∃ A' c', en = .returned (.slice A' n c') ∧ Row w' 32 3 A' n xs ∧ Below w.heap.size w w' ∧ n ≤ c' ∧ ∀ a, A' = some a → w.heap.size ≤ a.block

set_option maxHeartbeats 800000 in
theorem concat_two (g : Nat) (A1 A2 : Option Addr) (n1 n2 c1 c2 : Nat) (xs ys : List Value) (w : World)
    (hb : Blk w g 40 #[.slice A1 n1 c1, .slice A2 n2 c2]) (h1 : Sl w 3 A1 n1 xs) (h2 : Sl w 3 A2 n2 ys)
    (o1 : ∀ u ∈ xs, u.oneCell' = true) (o2 : ∀ u ∈ ys, u.oneCell' = true) (hn : (n1 + n2) * 32 ≤ 140737488355328) :
    Calls Try.prog 24 #[.slice (some ⟨g, 0, none⟩) 2 2] w (Joined w (n1 + n2) (xs ++ ys)) := by
  obtain ⟨i0, hi, hz0, hz1, hz2⟩ := info_parts info_letter
  have g0 := hb.cell 0
  have g1 := hb.cell 1
  simp at g0 g1
  have H1 := Lib.hid h1
  have H2 := Lib.hid h2
  have HB := Lib.hid hb
  clear h1 h2 hb
  have b1 : (n1 : Int) + (n2 : Int) ≤ 4398046511104 := by omega
  have Q1 := Lib.hid (show 0 + n1 ≤ maxLen by unfold maxLen; omega)
  have Q2 := Lib.hid (show (0 + n1) * 32 ≤ 140737488355328 by omega)
  have Q3 := Lib.hid (show n1 + n2 ≤ maxLen by unfold maxLen; omega)
  have Q4 := Lib.hid (show (n1 + n2) * 32 ≤ 140737488355328 by omega)
  have Hn := Lib.hid hn
  clear hn
  go_enter Try.func24, Try.ntmps24
  go_wp2_with fail
  refine wp_loop_rounds 3 ?_
  rw [rounds_succ]
  go_wp2_with fail
  rw [rounds_succ]
  go_wp2_with fail
  rw [rounds_succ]
  go_wp2_with fail
  rw [show (n1 : Int) + (n2 : Int) = ((n1 + n2 : Nat) : Int) from by omega]
  refine (grow_nil (n1 + n2) w Hn.out).mono ?_
  rintro e w1 ⟨A0, c0, rfl, hown, hb1, hc0⟩
  have k0 := (hb1.cell (p := ⟨g, 0, none⟩) HB.out.lt).trans g0
  have k1 := (hb1.cell (p := ⟨g, 1, none⟩) HB.out.lt).trans g1
  have Hown := Lib.hid hown
  clear hown g0 g1
  go_wp2_with fail
  refine wp_loop_rounds 3 ?_
  rw [rounds_succ]
  go_wp2_with (at_builtin; refine wpList_append_src _ rfl (.tmp 31) (.tmp 32) 40 rfl w.heap.size 32 i0 _ 3 32 Try.underlying40 hi hz0 hz1 hz2 rfl (by decide) _ 0 [] rfl Hown.out A1 n1 c1 xs rfl (H1.out.below hb1) o1 Q1.out Q2.out hb1.size ?_)
  intro v1 w2 hown2 hg2 hat2
  have hb2 : Below w.heap.size w w2 := hb1.grown hg2 hb1.size (fun k hk => (Hown.out.lt k hk).1)
  have Hown2 := Lib.hid hown2
  have m0 := (hb2.cell (p := ⟨g, 0, none⟩) HB.out.lt).trans (HB.out.cell 0)
  have m1 := (hb2.cell (p := ⟨g, 1, none⟩) HB.out.lt).trans (HB.out.cell 1)
  simp at m0 m1
  clear hown2 k0 k1
  go_wp2_with fail
  rw [rounds_succ]
  go_wp2_with (at_builtin; (refine wpList_append_src _ rfl (.tmp 31) (.tmp 32) 40 rfl w.heap.size 32 i0 _ 3 32 Try.underlying40 hi hz0 hz1 hz2 rfl (by decide) _ n1 xs rfl Hown2.out A2 n2 c2 ys rfl (H2.out.below hb2) o2 Q3.out Q4.out hb2.size ?_))
  intro v3 w3 hown3 hg3 hat3
  have hb3 : Below w.heap.size w w3 := hb2.grown hg3 hb2.size (fun k hk => (Hown2.out.lt k hk).1)
  have Hown3 := Lib.hid hown3
  clear hown3
  go_wp2_with fail
  rw [rounds_succ]
  go_wp2_with fail
  go_ret
  obtain ⟨A', c', rfl, hc'⟩ := own_slice Hown3.out
  exact ⟨A', c', rfl, Row.of_own Hown3.out, hb3, hc', own_fresh Hown3.out⟩

#print axioms concat_two
end Go.Proofs.Ytcggmdidnpdciaa
