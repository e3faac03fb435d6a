/-
  slices.Clone of promises; rows of the call's own.
-/
import Derived.Test.YthmclonjgbmhhaaLess
namespace Go.Proofs.Ythmclonjgbmhhaa
open Go.RowKit
set_option linter.unusedVariables false

theorem info_hold : (Try.prog.info? 30).map (fun i => (i.zero, i.size, i.bytes)) = some (some (.agg #[.int .i64 0, .int .i64 0, .int .i64 0, .int .i64 0]), 4, 32) := by kernel_rfl

theorem own_set {w : World} {base : Nat} {e : TypeId} {s n g cap : Nat} {xs : List Value} (h : w.ownsRow base e s (.slice (some ⟨g, 0, none⟩) n cap) n xs) (j : Nat) (u : Value) :
    (w.setCell ⟨g, j, none⟩ u).ownsRow base e s (.slice (some ⟨g, 0, none⟩) n cap) n (xs.set j u) := by
  refine ⟨by simp [h.1], ?_⟩
  rcases h.2 with ⟨hv, _⟩ | ⟨g', cap', cur, hv, hb, hg, hnc, hcm, hsz, ht⟩
  · cases hv
  · injection hv with h1 h2 h3
    injection h1 with h1
    injection h1 with h1
    subst h1; subst h3
    have hB : Blk w g e cur := hg
    refine .inr ⟨g, cap, cur.setIfInBounds j u, rfl, hb, hB.set_ j u, hnc, hcm, by simpa using hsz, ?_⟩
    rw [← ht, Array.toList_setIfInBounds, List.take_set]

theorem own_at {w : World} {base : Nat} {e : TypeId} {s n g o cap : Nat} {xs : List Value} (h : w.ownsRow base e s (.slice (some ⟨g, o, none⟩) n cap) n xs) : o = 0 ∧ base ≤ g ∧ n ≤ cap := by
  rcases h.2 with ⟨hv, _⟩ | ⟨g', cap', cur, hv, hb, hg, hnc, _⟩
  · cases hv
  · injection hv with h1 h2 h3
    injection h1 with h1
    injection h1 with h1 h4
    subst h1; subst h3
    exact ⟨h4, hb, hnc⟩

theorem own_frozen {w : World} {base : Nat} {e : TypeId} {s n g cap : Nat} {xs : List Value} (h : w.ownsRow base e s (.slice (some ⟨g, 0, none⟩) n cap) n xs) (j : Nat) : w.frozen? ⟨g, j, none⟩ = false := by
  rcases h.2 with ⟨hv, _⟩ | ⟨g', cap', cur, hv, hb, hg, _⟩
  · cases hv
  · injection hv with h1 h2 h3
    injection h1 with h1
    injection h1 with h1
    subst h1
    exact Blk.frozen (t := e) (cs := cur) hg j

theorem own_block_lt {w : World} {base : Nat} {e : TypeId} {s n : Nat} {v : Value} {xs : List Value} (h : w.ownsRow base e s v n xs) : ∀ k, v.ownBlock = some k → base ≤ k ∧ k < w.heap.size := by
  intro k hk
  rcases h.2 with ⟨rfl, _⟩ | ⟨g', cap', cur, rfl, hb, hg, _⟩
  · cases hk
  · injection hk with hk; subst hk; exact ⟨hb, lt_of_heap hg⟩

theorem own_base {w : World} {base base' : Nat} {e : TypeId} {s n : Nat} {v : Value} {xs : List Value} (h : w.ownsRow base e s v n xs) (hb : base' ≤ base) : w.ownsRow base' e s v n xs := by
  refine ⟨h.1, ?_⟩
  rcases h.2 with hn | ⟨g, cap, cur, hv, h1, hr⟩
  · exact .inl hn
  · exact .inr ⟨g, cap, cur, hv, by omega, hr⟩

/-- What hands back a row of its own. -/
def OwnRet (w : World) (e : TypeId) (s n : Nat) (xs : List Value) (en : Ending) (w' : World) : Prop :=
  ∃ v, en = .returned v ∧ w'.ownsRow w.heap.size e s v n xs ∧ Below w.heap.size w w'

set_option maxHeartbeats 400000 in
theorem clone_holds (A : Option Addr) (n c : Nat) (xs : List Value) (w : World) (hr : Sl w 4 A n xs) (h1 : ∀ u ∈ xs, u.oneCell' = true) (hn : n * 32 ≤ 140737488355328) :
    Calls Try.prog 28 #[.slice A n c] w (OwnRet w 30 4 n xs) := by
  have Hr := Lib.hid hr
  clear hr
  obtain ⟨i0, hi, hz0, hz1, hz2⟩ := info_parts info_hold
  have hnl := fun (w : World) => Lib.run_eql_slice_nil (P := Try.prog) w 22 30 A n c 0 0 Try.underlying22
  have Q1 := Lib.hid (show 0 + n ≤ maxLen by unfold maxLen; omega)
  have Q2 := Lib.hid (show (0 + n) * 32 ≤ 140737488355328 by omega)
  rcases A with _ | a
  · go_enter Try.func28, Try.ntmps28
    go_wp2_with fail
    go_ret
    have h0 : n = 0 := by
      rcases Nat.eq_zero_or_pos n with h | h
      · exact h
      · obtain ⟨_, _, h, _⟩ := Hr.out.2 h; cases h
    subst h0
    have hx : xs = [] := List.eq_nil_of_length_eq_zero (by simpa using Hr.out.1)
    subst hx
    exact ⟨_, rfl, World.ownsRow_nil _ _ _ _, Below.refl _ _⟩
  · go_enter Try.func28, Try.ntmps28
    go_wp2_with (at_builtin; refine wpList_append_src _ rfl (.tmp 5) (.tmp 6) 22 rfl w.heap.size 30 i0 _ 4 32 Try.underlying22 hi hz0 hz1 hz2 rfl (by decide) _ 0 [] rfl (World.ownsRow_made w #[] 0 (Nat.le_refl _) (Nat.zero_le _) rfl) _ n c xs rfl (Hr.out.below ((Below.refl _ _).alloc (Nat.le_refl _) _)) h1 Q1.out Q2.out (by simp) ?_)
    intro v' w1 hown hg hat
    have Hown := Lib.hid hown
    have Hg := Lib.hid hg
    clear hown hg hat
    go_wp2_with fail
    go_ret
    refine ⟨v', rfl, by simpa using Hown.out, ((Below.refl _ w).alloc (Nat.le_refl _) _).grown Hg.out (by simp) (by intro k hk; simp [Value.ownBlock] at hk; omega)⟩

/-- A row of promises of the call's own. -/
def Acc (w0 : World) (l : List Hold) (v : Value) (wr : World) : Prop := wr.ownsRow w0.heap.size 30 4 v l.length (hcells l) ∧ Below w0.heap.size w0 wr

theorem Acc.nil {w0 wr : World} (h : Below w0.heap.size w0 wr) : Acc w0 [] (.slice none 0 0) wr := ⟨World.ownsRow_nil _ _ _ _, h⟩
theorem Acc.below {w0 wr w' : World} {l : List Hold} {v : Value} (h : Acc w0 l v wr) (hb : Below wr.heap.size wr w') : Acc w0 l v w' := ⟨own_below h.1 hb, h.2.trans (hb.mono h.2.size)⟩
theorem Acc.slice {w0 wr : World} {l : List Hold} {v : Value} (h : Acc w0 l v wr) : ∃ A c, v = .slice A l.length c ∧ Sl wr 4 A l.length (hcells l) ∧ l.length ≤ c := by
  obtain ⟨A, c, rfl, hc⟩ := own_slice h.1
  exact ⟨A, c, rfl, (Row.of_own h.1).sl, hc⟩
theorem Acc.sl {w0 wr : World} {l : List Hold} {A : Option Addr} {n c : Nat} (h : Acc w0 l (.slice A n c) wr) : Sl wr 4 A l.length (hcells l) := by
  obtain ⟨A', c', h1, h2, _⟩ := h.slice
  injection h1 with h1
  subst h1
  exact h2
theorem Acc.up {w0 w1 wr : World} {l : List Hold} {v : Value} (hb : Below w0.heap.size w0 w1) (h : Acc w1 l v wr) : Acc w0 l v wr := ⟨own_base h.1 hb.size, hb.trans (h.2.mono hb.size)⟩

theorem run_hold {w0 wr : World} {l : List Hold} {v : Value} (h : Acc w0 l v wr) (t : Hold) (hl : l.length ≤ 100000) (ty : TypeId) :
    ∃ v' w', (Builtin.append_ #[22, 22] ty #[v, .slice (some ⟨wr.heap.size, 0, none⟩) 1 1]).run Try.prog (wr.alloc (.cells #[.int .i64 t.d.nd, .int .i64 t.d.n, .int .i64 t.rc, .int .i64 t.un] 30)) = .ok v' w' ∧ Acc w0 (l ++ [t]) v' w' := by
  obtain ⟨i0, hi, hz0, hz1, hz2⟩ := info_parts info_hold
  obtain ⟨v', w', hr, ho, hg, _⟩ := run_append_src (P := Try.prog) (wr.alloc (.cells #[.int .i64 t.d.nd, .int .i64 t.d.n, .int .i64 t.rc, .int .i64 t.un] 30)) w0.heap.size 22 ty 30 i0 _ 4 32 Try.underlying22 hi hz0 hz1 hz2 rfl (by decide) v l.length (hcells l) (h.1.alloc _)
    (some ⟨wr.heap.size, 0, none⟩) 1 1 (hcells [t]) (sl_hold wr t _ rfl) (hcells_one _) (by unfold maxLen; omega) (by omega) (by have := h.2.size; simp; omega)
  refine ⟨v', w', hr, ?_, (h.2.alloc h.2.size _).grown hg (by have := h.2.size; simp; omega) (fun k hk => (own_block_lt h.1 k hk).1)⟩
  rw [hcells_append, List.length_append]
  exact ho

theorem wpList_hold {ops : Array Oper} {rest : List Oper} {o : Oper} {a : Act} {Q : Exit → Act → World → Prop} (hgd : o.guard = none) (so x : Operand)
    (ho : o.op = .call { callee := .builtin .append, args := #[so, x], argTypes := #[22, 22] })
    {w0 wr : World} {l : List Hold} {v : Value} (h : Acc w0 l v wr) (t : Hold) (hs : a.eval so = v) (hx : a.eval x = .slice (some ⟨wr.heap.size, 0, none⟩) 1 1) (hl : l.length ≤ 100000)
    (K : ∀ v' w', Acc w0 (l ++ [t]) v' w' → wpList Try.prog ops Q rest (a.put o.dst v') w') : wpList Try.prog ops Q (o :: rest) a (wr.alloc (.cells #[.int .i64 t.d.nd, .int .i64 t.d.n, .int .i64 t.rc, .int .i64 t.un] 30)) := by
  obtain ⟨v', w', hr, hA⟩ := run_hold h t hl o.type
  exact Lib.wpList_append_run _ hgd so x 22 22 ho _ _ hs hx _ _ hr (K v' w' hA)

/-- What hands back a row of its own. -/
def HoldRet (w : World) (l : List Hold) (en : Ending) (w' : World) : Prop := ∃ v, en = .returned v ∧ Acc w l v w'
theorem HoldRet.of {w w' : World} {l : List Hold} {en : Ending} (h : OwnRet w 30 4 l.length (hcells l) en w') : HoldRet w l en w' := by
  obtain ⟨v, rfl, h1, h2⟩ := h
  exact ⟨v, rfl, h1, h2⟩

#print axioms clone_holds
#print axioms wpList_hold
end Go.Proofs.Ythmclonjgbmhhaa
