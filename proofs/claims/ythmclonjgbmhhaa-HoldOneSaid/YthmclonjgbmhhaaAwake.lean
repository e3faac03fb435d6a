/-
  The chapter's examples.
-/
import Derived.Test.YthmclonjgbmhhaaMade
namespace Go.Proofs.Ythmclonjgbmhhaa
open Go.RowKit
set_option linter.unusedVariables false

def d11 : Dot := ⟨1, 1⟩

set_option maxHeartbeats 1000000 in
theorem awake_any (w : World) : Calls Try.prog 8 #[] w fun e w' => e = .returned (.bool true) ∧ Below w.heap.size w w' := by
  obtain ⟨h1, h2⟩ : grantCE [] 5 d11 1 9 = 0 ∧ grantC [] 5 d11 1 9 = [⟨d11, 1, 9⟩] := ⟨by decide, by decide⟩
  obtain ⟨h3, h4⟩ : grantCE [⟨d11, 1, 9⟩] 8 d11 2 20 = 16 ∧ grantC [⟨d11, 1, 9⟩] 8 d11 2 20 = [] := ⟨by decide, by decide⟩
  obtain ⟨h5, h6⟩ : grantCE [⟨d11, 1, 9⟩] 9 d11 2 20 = 0 ∧ grantC [⟨d11, 1, 9⟩] 9 d11 2 20 = [⟨d11, 2, 20⟩] := ⟨by decide, by decide⟩
  have M1 := fun w => grant_any none 0 [] 5 d11 1 9 w (Sl.nil _ _ _) (by simp)
  have M2 := fun A c w hr => grant_any A c [⟨d11, 1, 9⟩] 8 d11 2 20 w hr (by simp)
  have M3 := fun A c w hr => grant_any A c [⟨d11, 1, 9⟩] 9 d11 2 20 w hr (by simp)
  simp only [h1, h2] at M1
  simp only [h3, h4] at M2
  simp only [h5, h6] at M3
  clear h1 h2 h3 h4 h5 h6
  have M1 := Lib.hid M1
  have M2 := Lib.hid M2
  have M3 := Lib.hid M3
  have hd0 : DotAt (w.alloc (.cells #[.int .i64 1, .int .i64 1] 24)) w.heap.size d11 := DotAt.new w d11
  have hB0 : Below w.heap.size w (w.alloc (.cells #[.int .i64 1, .int .i64 1] 24)) := (Below.refl _ _).alloc (Nat.le_refl _) _
  have B0 := Lib.hid hB0
  have D0 := Lib.hid hd0
  clear hd0 hB0
  go_enter Try.func8, Try.ntmps8
  go_wp2_with fail
  refine (M1.out _).mono ?_
  rintro e w1 ht
  obtain ⟨A1, c1, rfl, ha1⟩ := ht.acc
  have D1 := Lib.hid (D0.out.below ha1.2)
  have HA1 := Lib.hid (Acc.up B0.out ha1)
  obtain ⟨q0, q1⟩ := D1.out.cells
  rw [show (d11.nd : Int) = 1 from rfl] at q0
  rw [show (d11.n : Int) = 1 from rfl] at q1
  clear ht ha1
  go_wp2_with fail
  refine (M2.out A1 c1 _ HA1.out.sl).mono ?_
  rintro e w2 ht
  obtain ⟨A2, c2, rfl, ha2⟩ := ht.acc
  have HA12 := Lib.hid (HA1.out.below ha2.2)
  have D2 := Lib.hid (D1.out.below ha2.2)
  clear q0 q1
  obtain ⟨q0, q1⟩ := D2.out.cells
  rw [show (d11.nd : Int) = 1 from rfl] at q0
  rw [show (d11.n : Int) = 1 from rfl] at q1
  clear ht ha2
  go_wp2_with fail
  refine (M3.out A1 c1 _ HA12.out.sl).mono ?_
  rintro e w3 ht
  obtain ⟨A3, c3, rfl, ha3⟩ := ht.acc
  have HA3 := Lib.hid (Acc.up HA12.out.2 ha3)
  obtain ⟨g3, o3, hA3, -, -, -, x2, x3⟩ := hold_cells (l := [⟨d11, 2, 20⟩]) (k := 0) HA3.out.sl rfl
  subst hA3
  rw [Nat.zero_mul, Nat.add_zero] at x2 x3
  clear ht ha3 q0 q1
  go_wp2_with fail
  go_ret
  exact ⟨rfl, HA3.out.2⟩
#print axioms awake_any
end Go.Proofs.Ythmclonjgbmhhaa
