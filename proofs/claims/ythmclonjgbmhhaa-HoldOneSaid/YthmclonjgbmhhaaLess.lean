/-
  The order of names of messages.
-/
import Derived.Test.YthmclonjgbmhhaaHold
namespace Go.Proofs.Ythmclonjgbmhhaa
open Go.RowKit
set_option linter.unusedVariables false

def orI (x y : Int) : Int := if x = 0 then y else x

set_option maxHeartbeats 1000000 in
theorem or_any (g : Nat) (x y : Int) (w : World) (h0 : w.cell? ⟨g, 0, none⟩ = some (.int .i64 x)) (h1 : w.cell? ⟨g, 1, none⟩ = some (.int .i64 y)) :
    Calls Try.prog 47 #[.slice (some ⟨g, 0, none⟩) 2 2] w fun e w' => e = .returned (.int .i64 (orI x y)) ∧ w = w' := by
  have HO : Hid (orI x y = if x = 0 then y else x) := Lib.hid rfl
  go_enter Try.func47, Try.ntmps47
  go_wp2_with fail
  go_loop [8] (fun i => ∃ k : Nat, k ≤ 2 ∧ i = .int .i64 k ∧ (1 ≤ k → x = 0) ∧ (2 ≤ k → y = 0)) (fun i => 2 - (intOf i).toNat)
  case atStart => exact ⟨0, by omega, rfl, by omega, by omega⟩
  case round =>
    obtain ⟨k, hk, rfl, hx, hy⟩ := hrel
    obtain rfl | rfl | rfl : k = 0 ∨ k = 1 ∨ k = 2 := by omega
    · clear hx hy
      by_cases hz : x = 0
      · have hd : (x == 0) = true := by simpa using hz
        have HZ := Lib.hid hz
        clear hz
        go_wp2_with fail
        go_round
        case rel => exact ⟨1, by omega, rfl, fun _ => HZ.out, by omega⟩
        case measure => simp [intOf]
      · have hd : (x == 0) = false := by simpa using hz
        have HN : Hid (orI x y = x) := Lib.hid (by rw [HO.out, if_neg hz])
        clear hz
        go_wp2_with fail
        go_ret
        exact ⟨by rw [HN.out]; rfl, rfl⟩
    · have HX : Hid (orI x y = y) := Lib.hid (by rw [HO.out, if_pos (hx (by omega))])
      clear hx hy
      by_cases hz : y = 0
      · have hd : (y == 0) = true := by simpa using hz
        have HZ := Lib.hid hz
        have HZX := Lib.hid (show 1 ≤ 2 → x = 0 from fun _ => by have := HX.out; rw [HO.out] at this; split at this <;> omega)
        clear hz
        go_wp2_with fail
        go_round
        case rel => exact ⟨2, by omega, rfl, HZX.out, fun _ => HZ.out⟩
        case measure => simp [intOf]
      · have hd : (y == 0) = false := by simpa using hz
        clear hz
        go_wp2_with fail
        go_ret
        exact ⟨by rw [HX.out]; rfl, rfl⟩
    · have HX : Hid (orI x y = 0) := Lib.hid (by rw [HO.out, if_pos (hx (by omega)), hy (by omega)])
      clear hx hy
      go_wp2_with fail
      go_ret
      exact ⟨by rw [HX.out]; rfl, rfl⟩

theorem dlt_or (a b : Dot) : decide (orI (cmpI a.nd b.nd) (cmpI a.n b.n) < 0) = dlt a b := by
  unfold orI cmpI dlt
  rw [Bool.eq_iff_iff]
  simp
  split <;> split <;> (try split) <;> omega

set_option maxHeartbeats 1000000 in
theorem compare_any (a b : Dot) (w : World) :
    Calls Try.prog 45 #[.agg #[.int .i64 a.nd, .int .i64 a.n], .agg #[.int .i64 b.nd, .int .i64 b.n]] w fun e w' => e = .returned (.int .i64 (orI (cmpI a.nd b.nd) (cmpI a.n b.n))) ∧ Below w.heap.size w w' := by
  go_enter Try.func45, Try.ntmps45
  go_wp2_with fail
  refine wp_still_tail 10 (by kernel_rfl) (by kernel_rfl) ?_
  simp only [List.take_succ_cons, List.take_zero, List.drop_succ_cons, List.drop_zero]
  repeat still_step
  still_call ((cmp_any _ _ _).mono fun _ _ ⟨he, hw⟩ => ⟨he, hw.symm⟩)
  repeat still_step
  still_call ((cmp_any _ _ _).mono fun _ _ ⟨he, hw⟩ => ⟨he, hw.symm⟩)
  repeat still_step
  refine wpStill_nil ?_
  obtain ⟨W, hW⟩ : ∃ W, ((w.alloc (.cells #[.int .i64 a.nd, .int .i64 a.n] 24)).alloc (.cells #[.int .i64 b.nd, .int .i64 b.n] 24)).drew = W := ⟨_, rfl⟩
  have hB : Below w.heap.size w W := by rw [← hW]; exact (((Below.refl _ _).alloc (Nat.le_refl _) _).alloc (by simp) _).drew
  rw [hW]
  clear hW
  have HB := Lib.hid (hB.alloc hB.size (.cells #[.int .i64 (cmpI a.nd b.nd), .int .i64 (cmpI a.n b.n)] 3))
  clear hB
  have h0 := (Blk.new W 3 #[.int .i64 (cmpI a.nd b.nd), .int .i64 (cmpI a.n b.n)]).cell 0
  have h1 := (Blk.new W 3 #[.int .i64 (cmpI a.nd b.nd), .int .i64 (cmpI a.n b.n)]).cell 1
  simp only [List.getElem?_toArray, List.getElem?_cons_zero, List.getElem?_cons_succ] at h0 h1
  have H0 := Lib.hid h0
  have H1 := Lib.hid h1
  clear h0 h1
  go_wp2_with fail
  refine (or_any _ _ _ _ H0.out H1.out).mono ?_
  rintro e w' ⟨rfl, rfl⟩
  go_wp2_with fail
  go_ret
  exact ⟨rfl, HB.out⟩

set_option maxHeartbeats 1000000 in
theorem less_any (a b : Dot) (w : World) :
    Calls Try.prog 38 #[.agg #[.int .i64 a.nd, .int .i64 a.n], .agg #[.int .i64 b.nd, .int .i64 b.n]] w fun e w' => e = .returned (.bool (dlt a b)) ∧ Below w.heap.size w w' := by
  have HB := fun o o' => Lib.hid (((Below.refl w.heap.size w).alloc (Nat.le_refl _) o).alloc (by simp) o')
  have HD := Lib.hid (dlt_or a b)
  go_enter Try.func38, Try.ntmps38
  go_wp2_with fail
  refine (compare_any a b _).mono ?_
  rintro e w' ⟨rfl, hb⟩
  have B := Lib.hid ((HB _ _).out.trans (hb.mono (by simp; omega)))
  clear hb HB
  go_wp2_with fail
  go_ret
  exact ⟨by rw [← HD.out]; rfl, B.out⟩

#print axioms less_any

end Go.Proofs.Ythmclonjgbmhhaa
