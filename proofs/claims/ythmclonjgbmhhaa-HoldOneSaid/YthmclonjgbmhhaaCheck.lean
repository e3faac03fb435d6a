/-
  Check.
-/
import Derived.WalkMore
import Derived.Lib.QuietBelow
import Derived.Test.YthmclonjgbmhhaaGrant
namespace Go.Proofs.Ythmclonjgbmhhaa
open Go.RowKit
set_option linter.unusedVariables false

theorem calls_below {P : Program} {f : FuncId} {args : Array Value} {w : World} {v : Value} (h : Calls P f args w fun e w' => e = .returned v ∧ w = w') : Calls P f args w fun e w' => e = .returned v ∧ Below w.heap.size w w' :=
  h.mono fun e w' ⟨he, hw⟩ => by subst hw; exact ⟨he, Below.refl _ _⟩

def Srt (l : List Hold) : Prop := l.Pairwise fun a b => dlt a.d b.d = true
def Good (t : Hold) : Prop := okDot t.d = true ∧ okI t.rc = true ∧ okT t.un = true
def Fine (l : List Hold) : Prop := Srt l ∧ ∀ t ∈ l, Good t

set_option maxHeartbeats 400000 in
theorem check_long (A : Option Addr) (n c : Nat) (w : World) (h : 1000 < n) (hn : n ≤ 9223372036854775807) :
    Calls Try.prog 23 #[.slice A n c] w fun e w' => e = .returned (.int .i64 1) ∧ Below w.heap.size w w' := by
  have hd : decide ((1000 : Int) < (n : Int)) = true := by simp; omega
  go_enter Try.func23, Try.ntmps23
  go_wp2_with fail
  go_step3
  go_wp2_with fail
  try rw [Exit.noGoto_ret]
  go_ret
  exact ⟨rfl, Below.refl _ _⟩

set_option maxHeartbeats 4000000 in
theorem check_ok (A : Option Addr) (c : Nat) (l : List Hold) (w : World) (hr : Sl w 4 A l.length (hcells l)) (hl : l.length ≤ 1000) (hf : Fine l) :
    Calls Try.prog 23 #[.slice A l.length c] w fun e w' => e = .returned (.int .i64 0) ∧ Below w.heap.size w w' := by
  have Hr := Lib.hid hr
  have Hf := Lib.hid hf
  have hd : decide ((1000 : Int) < (l.length : Int)) = false := by simp; omega
  clear hr hf
  go_enter Try.func23, Try.ntmps23
  go_wp2_with fail
  go_step3
  go_wp2_with fail
  go_step3
  go_wp2_with fail
  go_loopw [3, 11] (fun b i wr => ∃ (k : Nat), k ≤ l.length ∧ b = .bool true ∧ i = .int .i64 k ∧ Below w.heap.size w wr) (fun _ i _ => l.length - (intOf i).toNat)
  case atStart => exact ⟨0, Nat.zero_le _, rfl, rfl, Below.refl _ _⟩
  case round =>
    obtain ⟨k, hk, rfl, rfl, hb⟩ := hrel
    have HB := Lib.hid hb
    clear hb
    by_cases hlt : k < l.length
    · obtain ⟨g, o, rfl, hg, c0, c1, c2, c3⟩ := hold_cells (Hr.out.below HB.out) (List.getElem?_eq_getElem hlt)
      obtain ⟨f1, f2, f3⟩ := Hf.out.2 l[k] (List.getElem_mem hlt)
      have HS : Hid (∀ k', k = k' + 1 → ∀ (h : k' < l.length), dlt l[k'].d l[k].d = true) := Lib.hid (fun k' hk' h => List.pairwise_iff_getElem.1 Hf.out.1 k' k h hlt (by omega))
      have ht := List.getElem?_eq_getElem hlt
      generalize hz : l[k] = t at c0 c1 c2 c3 f1 f2 f3 HS
      clear hz ht
      have C1 := Lib.hid (fun W => by have := dotCheck_any t.d W; rw [f1] at this; exact this)
      have C2 := Lib.hid (fun W => by have := receipt_any t.rc W; rw [f2] at this; exact calls_below this)
      have C3 := Lib.hid (fun W => by have := time_any t.un W; rw [f3] at this; exact calls_below this)
      clear f1 f2 f3
      rcases Nat.eq_zero_or_pos k with hk0 | hk0
      · subst hk0
        rw [Nat.zero_mul, Nat.add_zero] at c0 c1 c2 c3
        clear HS
        obtain ⟨W, hW⟩ : ∃ W, wr.alloc (.cells #[.int .i64 t.d.nd, .int .i64 t.d.n, .int .i64 t.rc, .int .i64 t.un] 30) = W := ⟨_, rfl⟩
        have HW := Lib.hid hW
        clear hW
        go_wp2_with fail
        obtain ⟨e0, e1, e2, e3⟩ := (Blk.new wr 30 #[.int .i64 t.d.nd, .int .i64 t.d.n, .int .i64 t.rc, .int .i64 t.un]).four
        have HB1 := HB.out.alloc HB.out.size (.cells #[.int .i64 t.d.nd, .int .i64 t.d.n, .int .i64 t.rc, .int .i64 t.un] 30)
        rw [HW.out] at e0 e1 e2 e3 HB1 ⊢
        have r0 := fun d os => cell_regrown e0 d os
        have r1 := fun d os => cell_regrown e1 d os
        have r2 := fun d os => cell_regrown e2 d os
        have r3 := fun d os => cell_regrown e3 d os
        have HB2 := Lib.hid HB1
        clear HB1 e0 e1 e2 e3 c0 c1 c2 c3
        refine wp_region_quiet_below (by kernel_rfl) (by kernel_rfl) ?_
        repeat (go_big_quiet_step (first | (go_at_call 25; exact Calls.regrown_of (C1.out _)) | (go_at_call 26; exact Calls.regrown_of (C2.out _)) | (go_at_call 27; exact Calls.regrown_of (C3.out _))))
        refine wpQuiet_nil ?_
        intro w5 hw5
        obtain ⟨⟨dq, osq⟩, hw5⟩ := hw5
        have HB5 := Lib.hid (HB2.out.trans ((below_regrown W dq osq).mono HB2.out.size))
        rw [← hw5] at HB5
        clear hw5
        go_wp2_with fail
        go_roundw
        case rel => exact ⟨0 + 1, by omega, rfl, by go_num, HB5.out⟩
        case measure => simp [intOf]; omega
      · obtain ⟨k', rfl⟩ : ∃ k', k = k' + 1 := ⟨k - 1, by omega⟩
        have hlt' : k' < l.length := by omega
        obtain ⟨W, hW⟩ : ∃ W, wr.alloc (.cells #[.int .i64 t.d.nd, .int .i64 t.d.n, .int .i64 t.rc, .int .i64 t.un] 30) = W := ⟨_, rfl⟩
        have HW := Lib.hid hW
        have HB1 := HB.out.alloc HB.out.size (.cells #[.int .i64 t.d.nd, .int .i64 t.d.n, .int .i64 t.rc, .int .i64 t.un] 30)
        rw [hW] at HB1
        obtain ⟨g', o', hgo, hg', x0, x1, x2, x3⟩ := hold_cells (Hr.out.below HB1) (List.getElem?_eq_getElem hlt')
        injection hgo with hgo; injection hgo with hgo1 hgo2; subst hgo1; subst hgo2
        have HT := HS.out k' rfl hlt'
        generalize hz : l[k'] = t' at x0 x1 x2 x3 HT
        clear hz HS hW
        have C4 := Lib.hid (fun W => by have := less_any t'.d t.d W; rw [HT] at this; exact this)
        clear HT
        go_wp2_with fail
        obtain ⟨e0, e1, e2, e3⟩ := (Blk.new wr 30 #[.int .i64 t.d.nd, .int .i64 t.d.n, .int .i64 t.rc, .int .i64 t.un]).four
        rw [HW.out] at e0 e1 e2 e3 ⊢
        have r0 := fun d os => cell_regrown e0 d os
        have r1 := fun d os => cell_regrown e1 d os
        have r2 := fun d os => cell_regrown e2 d os
        have r3 := fun d os => cell_regrown e3 d os
        have y0 := fun d os => cell_regrown x0 d os
        have y1 := fun d os => cell_regrown x1 d os
        have HB2 := Lib.hid HB1
        clear HB1 e0 e1 e2 e3 c0 c1 c2 c3 x0 x1 x2 x3
        have d3 : ((k' : Int) + 1 == 0) = false := beq_eq_false_iff_ne.2 (by omega)
        refine wp_region_quiet_below (by kernel_rfl) (by kernel_rfl) ?_
        repeat (go_big_quiet_step (first | (go_at_call 25; exact Calls.regrown_of (C1.out _)) | (go_at_call 26; exact Calls.regrown_of (C2.out _)) | (go_at_call 27; exact Calls.regrown_of (C3.out _)) | (go_at_call 38; exact Calls.regrown_of (C4.out _))))
        refine wpQuiet_nil ?_
        intro w5 hw5
        obtain ⟨⟨dq, osq⟩, hw5⟩ := hw5
        have HB5 := Lib.hid (HB2.out.trans ((below_regrown W dq osq).mono HB2.out.size))
        rw [← hw5] at HB5
        clear hw5
        go_wp2_with fail
        go_roundw
        case rel => exact ⟨k' + 1 + 1, by omega, rfl, by go_num, HB5.out⟩
        case measure => simp [intOf]; omega
    · go_wp2_with fail
      try rw [Exit.noGoto_ret]
      go_ret
      exact ⟨rfl, HB.out⟩
#print axioms check_ok
end Go.Proofs.Ythmclonjgbmhhaa
