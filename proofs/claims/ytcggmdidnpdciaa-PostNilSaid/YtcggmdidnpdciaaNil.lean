/-
  PostNil: of no post nothing comes; a zero one is new.
-/
import Derived.Test.YtcggmdidnpdciaaAwake
namespace Go.Proofs.Ytcggmdidnpdciaa
open Go.RowKit

set_option maxHeartbeats 4000000 in
theorem nil_walk (i : Int) (w : World) :
    Calls Try.prog 6 #[.int .i64 i] w fun e w' => e = .returned (.bool true) ∧ Below w.heap.size w w' := by
  go_enter Try.func6, Try.ntmps6
  go_wp2_with fail
  have P0 := Lib.hid (post_new w)
  have B0 : Hid (Below w.heap.size w (w.alloc (.cells #[.slice none 0 0, .slice none 0 0] 44))) := Lib.hid ((Below.refl _ _).alloc (Nat.le_refl _) _)
  refine (take_nil i _).mono ?_
  rintro e w1 ⟨rfl, hb1⟩
  have P1 := Lib.hid (P0.out.below hb1)
  have B1 : Hid (Below w.heap.size w w1) := Lib.hid (B0.out.trans (hb1.mono (by simp)))
  clear hb1
  go_wp2_with fail
  refine (part_nil _ _).mono ?_
  rintro e w' ⟨rfl, rfl⟩
  have b2 := ((B1.out.alloc B1.out.size (.cells #[.int .i64 0, .int .i64 0, .string ⟨#[]⟩] 32)).alloc (by have := B1.out.size; simp; omega) (.cells #[.int .i64 1] 3)).alloc (by have := B1.out.size; simp; omega) (.cells #[.slice (some ⟨w1.heap.size + 1, 0, none⟩) 1 1] 28)
  have P2 := Lib.hid (P1.out.below ((((Below.refl _ _).alloc (Nat.le_refl _) (.cells #[.int .i64 0, .int .i64 0, .string ⟨#[]⟩] 32)).alloc (by simp) (.cells #[.int .i64 1] 3)).alloc (by simp; omega) (.cells #[.slice (some ⟨w1.heap.size + 1, 0, none⟩) 1 1] 28)))
  have B2 := Lib.hid b2
  clear b2
  go_wp2_with fail
  refine (awake_any _).mono ?_
  rintro e w3 ⟨rfl, hb3⟩
  have P3 := Lib.hid (P2.out.below hb3)
  have B3 : Hid (Below w.heap.size w w3) := Lib.hid (B2.out.trans (hb3.mono B2.out.size))
  clear hb3
  go_wp2_with fail
  refine (send_nil _ _).mono ?_
  rintro e w' ⟨rfl, rfl⟩
  go_wp2_with fail
  refine (len_nil _).mono ?_
  rintro e w' ⟨rfl, rfl⟩
  go_wp2_with fail
  refine (all_nil _).mono ?_
  rintro e w' ⟨rfl, rfl⟩
  go_wp2_with fail
  have P4 := Lib.hid (P3.out.below ((Below.refl _ _).alloc (Nat.le_refl _) (.cells #[.int .i64 0, .int .i64 0, .string ⟨#[]⟩] 32)))
  have B4 := Lib.hid (B3.out.alloc B3.out.size (.cells #[.int .i64 0, .int .i64 0, .string ⟨#[]⟩] 32))
  refine (met_nil 2 2 _).mono ?_
  rintro e w5 ⟨rfl, hb5⟩
  have P5 := Lib.hid (P4.out.below hb5)
  have B5 : Hid (Below w.heap.size w w5) := Lib.hid (B4.out.trans (hb5.mono B4.out.size))
  clear hb5
  go_wp2_with fail
  refine (met_nil 1 2 _).mono ?_
  rintro e w6 ⟨rfl, hb6⟩
  have P6 := Lib.hid (P5.out.below hb6)
  have B6 : Hid (Below w.heap.size w w6) := Lib.hid (B5.out.trans (hb6.mono B5.out.size))
  clear hb6
  go_wp2_with fail
  refine (twice_nil i _).mono ?_
  rintro e w' ⟨rfl, rfl⟩
  go_wp2_with fail
  refine (lose_nil i _).mono ?_
  rintro e w' ⟨rfl, rfl⟩
  go_wp2_with fail
  refine (late_nil i _).mono ?_
  rintro e w' ⟨rfl, rfl⟩
  go_wp2_with fail
  refine (met_any w.heap.size [] [] 1 2 _ P6.out).mono ?_
  rintro e w7 ⟨rfl, hb7⟩
  have m1 : meets [] 1 2 = true := by decide
  have P7 := Lib.hid (P6.out.below hb7)
  have B7 : Hid (Below w.heap.size w w7) := Lib.hid (B6.out.trans (hb7.mono B6.out.size))
  clear hb7
  go_wp2_with fail
  refine (send_fit w.heap.size [] [] _ 1 [⟨0, 0, ⟨#[]⟩⟩] _ (P7.out.below ((Below.refl _ _).alloc (Nat.le_refl _) _)) (sl_new_letter w7 ⟨0, 0, ⟨#[]⟩⟩) (Nat.le_refl _) (by simp)).mono ?_
  rintro e w8 ⟨rfl, hp8, ho8, -⟩
  have P8 := Lib.hid hp8
  have B8 : Hid (Below w.heap.size w w8) := Lib.hid ((B7.out.alloc B7.out.size _).trans (ho8.below (Nat.le_refl _) (by have := B7.out.size; simp; omega)))
  clear hp8 ho8
  go_wp2_with fail
  refine (len_any w.heap.size _ [] _ P8.out).mono ?_
  rintro e w' ⟨rfl, rfl⟩
  go_wp2_with fail
  go_ret
  exact ⟨rfl, B8.out⟩

#print axioms nil_walk
end Go.Proofs.Ytcggmdidnpdciaa
