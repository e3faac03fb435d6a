/-
  The chapter's examples: awake.
-/
import Derived.Test.YtcggmdidnpdciaaPart
namespace Go.Proofs.Ytcggmdidnpdciaa
open Go.RowKit

theorem post_new (w : World) : PostAt (w.alloc (.cells #[.slice none 0 0, .slice none 0 0] 44)) w.heap.size [] [] :=
  ⟨none, 0, none, 0, Blk.new w _ _, Row.nil _ _ _ _, Nat.le_refl _, by simp, ⟨[], Row.nil _ _ _ _, by simp⟩, by simp⟩

theorem sl_letter (w : World) (l : Letter) (h : Nat) (hh : w.heap.size = h) : Sl (w.alloc (.cells #[.int .i64 l.f, .int .i64 l.t, .string l.b] 32)) 3 (some ⟨h, 0, none⟩) 1 (lcells [l]) := by
  subst hh; exact sl_new_letter w l

theorem slx_two (w : World) (g : Nat) (u v : Value) (t : TypeId) (h : Nat) (hh : w.heap.size = h) (hg : g < h) : SlX (w.alloc (.cells #[u, v] t)) g 1 (some ⟨h, 0, none⟩) 2 [u, v] := by
  subst hh
  refine ⟨⟨rfl, fun _ => ⟨_, _, rfl, by simp, fun j x hx => ?_⟩⟩, fun _ a ha => by injection ha with ha; subst ha; simp; omega⟩
  rw [(Blk.new w _ _).cell]
  simpa using hx

theorem slx_int (w : World) (g : Nat) (z : Int) (h : Nat) (hh : w.heap.size = h) (hg : g < h) : SlX (w.alloc (.cells #[.int .i64 z] 3)) g 1 (some ⟨h, 0, none⟩) 1 (ints [z]) := by
  subst hh
  refine ⟨sl_new_one w _ _, fun _ a ha => by injection ha with ha; subst ha; simp; omega⟩

theorem gslx_two (w : World) (g h : Nat) (a b : Int) (hh : w.heap.size = h) (hg : g < h) :
    GSlX (((w.alloc (.cells #[.int .i64 a] 3)).alloc (.cells #[.int .i64 b] 3)).alloc (.cells #[.slice (some ⟨h, 0, none⟩) 1 1, .slice (some ⟨h + 1, 0, none⟩) 1 1] 28)) g (some ⟨h + 2, 0, none⟩) [[a], [b]] := by
  refine ⟨_, slx_two _ g _ _ _ (h + 2) (by simp [hh]) (by omega), fun i zs hi => ?_⟩
  have o1 : Only g (w.alloc (.cells #[.int .i64 a] 3)) (((w.alloc (.cells #[.int .i64 a] 3)).alloc (.cells #[.int .i64 b] 3)).alloc (.cells #[.slice (some ⟨h, 0, none⟩) 1 1, .slice (some ⟨h + 1, 0, none⟩) 1 1] 28)) :=
    only_below (((Below.refl _ _).alloc (Nat.le_refl _) _).alloc (by simp) _)
  have o2 : Only g ((w.alloc (.cells #[.int .i64 a] 3)).alloc (.cells #[.int .i64 b] 3)) (((w.alloc (.cells #[.int .i64 a] 3)).alloc (.cells #[.int .i64 b] 3)).alloc (.cells #[.slice (some ⟨h, 0, none⟩) 1 1, .slice (some ⟨h + 1, 0, none⟩) 1 1] 28)) :=
    only_below ((Below.refl _ _).alloc (Nat.le_refl _) _)
  match i, hi with
  | 0, hi => simp at hi; subst hi; exact ⟨_, _, rfl, (slx_int w g a h hh hg).only o1, by simp⟩
  | 1, hi => simp at hi; subst hi; exact ⟨_, _, rfl, (slx_int _ g b (h + 1) (by simp [hh]) (by omega)).only o2, by simp⟩

set_option maxHeartbeats 2000000 in
theorem awake_any (w : World) : Calls Try.prog 7 #[] w fun e w' => e = .returned (.bool true) ∧ Below w.heap.size w w' := by
  go_enter Try.func7, Try.ntmps7
  go_wp2_with fail
  refine (new_any w).mono ?_
  rintro e w' ⟨rfl, rfl⟩
  have hp0 := Lib.hid (post_new w)
  have b0 : Hid (Below w.heap.size w (w.alloc (.cells #[.slice none 0 0, .slice none 0 0] 44))) := Lib.hid ((Below.refl _ _).alloc (Nat.le_refl _) _)
  go_wp2_with fail
  refine (send_fit w.heap.size [] [] _ 1 [⟨1, 2, ⟨#[120]⟩⟩] _ (hp0.out.below ((Below.refl _ _).alloc (Nat.le_refl _) _)) (sl_letter _ ⟨1, 2, ⟨#[120]⟩⟩ _ (by simp)) (Nat.le_refl _) (by simp)).mono ?_
  rintro e w2 ⟨rfl, hp2, ho2, -⟩
  have Hp2 := Lib.hid hp2
  have B2 : Hid (Below w.heap.size w w2) := Lib.hid ((b0.out.alloc b0.out.size _).trans (ho2.below (Nat.le_refl _) (by simp; omega)))
  clear hp2 ho2
  go_wp2_with fail
  refine (take_in w.heap.size _ [] 0 ⟨1, 2, ⟨#[120]⟩⟩ _ Hp2.out rfl).mono ?_
  rintro e w3 ⟨rfl, hp3, ho3, -⟩
  have ht : told [] ⟨1, 2, ⟨#[120]⟩⟩ = .tuple #[.agg #[.int .i64 1, .int .i64 2, .string ⟨#[120]⟩], .bool true] := rfl
  rw [ht]
  have Hp3 : Hid (PostAt w3 w.heap.size [] []) := Lib.hid hp3
  have B3 : Hid (Below w.heap.size w w3) := Lib.hid (B2.out.trans (ho3.below (Nat.le_refl _) B2.out.size))
  clear hp3 ho3 ht
  have L3 := Lib.hid (Blk.new w3 32 #[.int .i64 1, .int .i64 2, .string ⟨#[120]⟩])
  go_wp2_with fail
  refine (send_fit w.heap.size [] [] _ 1 [⟨1, 2, ⟨#[]⟩⟩] _ (Hp3.out.below (((Below.refl _ _).alloc (Nat.le_refl _) _).alloc (by simp) _)) (sl_letter _ ⟨1, 2, ⟨#[]⟩⟩ _ (by simp)) (Nat.le_refl _) (by simp)).mono ?_
  rintro e w4 ⟨rfl, hp4, ho4, -⟩
  have Hp4 : Hid (PostAt w4 w.heap.size [⟨1, 2, ⟨#[]⟩⟩] []) := Lib.hid hp4
  have hl3 : w.heap.size < w3.heap.size := by obtain ⟨_, _, _, _, h, _⟩ := Hp3.out; exact h.lt
  have B4 : Hid (Below w.heap.size w w4) := Lib.hid (((B3.out.alloc B3.out.size _).alloc (by have := B3.out.size; simp; omega) _).trans (ho4.below (Nat.le_refl _) (by simp; omega)))
  have L4 := Lib.hid ((L3.out.alloc (.cells #[.int .i64 1, .int .i64 2, .string ⟨#[]⟩] 32)).only ho4 (by omega))
  have hl4 : w.heap.size < w4.heap.size := by obtain ⟨_, _, _, _, h, _⟩ := Hp4.out; exact h.lt
  clear hp4 ho4
  go_wp2_with fail
  refine (part_any w.heap.size [⟨1, 2, ⟨#[]⟩⟩] [] [[1], [2]] _ 2 _ (Hp4.out.below ((((Below.refl _ _).alloc (Nat.le_refl _) _).alloc (by simp) _).alloc (by simp; omega) _)) (gslx_two w4 w.heap.size w4.heap.size 1 2 rfl hl4) (by simp)).mono ?_
  rintro e w5 ⟨rfl, hp5, ho5, -⟩
  have Hp5 := Lib.hid hp5
  have B5 : Hid (Below w.heap.size w w5) := Lib.hid ((((B4.out.alloc B4.out.size _).alloc (by have := B4.out.size; simp; omega) _).alloc (by have := B4.out.size; simp; omega) _).trans (ho5.below (Nat.le_refl _) (by simp; omega)))
  have L5 := Lib.hid ((((L4.out.alloc (.cells #[.int .i64 1] 3)).alloc (.cells #[.int .i64 2] 3)).alloc (.cells #[.slice (some ⟨w4.heap.size, 0, none⟩) 1 1, .slice (some ⟨w4.heap.size + 1, 0, none⟩) 1 1] 28)).only ho5 (by omega))
  clear hp5 ho5
  go_wp2_with fail
  refine (take_in w.heap.size _ [[1], [2]] 0 ⟨1, 2, ⟨#[]⟩⟩ _ Hp5.out rfl).mono ?_
  rintro e w6 ⟨rfl, hp6, ho6, -⟩
  have ht : told [[1], [2]] ⟨1, 2, ⟨#[]⟩⟩ = .tuple #[.agg #[.int .i64 0, .int .i64 0, .string ⟨#[]⟩], .bool false] := by
    have : meets [[1], [2]] 1 2 = false := by decide
    unfold told; rw [this]; rfl
  rw [ht]
  have Hp6 := Lib.hid hp6
  have B6 : Hid (Below w.heap.size w w6) := Lib.hid (B5.out.trans (ho6.below (Nat.le_refl _) B5.out.size))
  have L6 := Lib.hid ((L5.out.only ho6 (by omega)).alloc (.cells #[.int .i64 0, .int .i64 0, .string ⟨#[]⟩] 32))
  have q6 := L6.out.cell 2
  simp only [List.getElem?_toArray, List.getElem?_cons_zero, List.getElem?_cons_succ] at q6
  clear hp6 ho6 ht
  have Hp7 := Lib.hid (Hp6.out.below ((Below.refl _ _).alloc (Nat.le_refl _) (.cells #[.int .i64 0, .int .i64 0, .string ⟨#[]⟩] 32)))
  have m1 : meets [[1], [2]] 1 1 = true := by decide
  have m2 : meets [[1], [2]] 1 2 = false := by decide
  go_wp2_with fail
  refine (met_any w.heap.size _ _ 1 1 _ Hp7.out).mono ?_
  rintro e w7 ⟨rfl, hb7⟩
  have B7 : Hid (Below w.heap.size w w7) := Lib.hid ((B6.out.alloc B6.out.size _).trans (hb7.mono (by have := B6.out.size; simp; omega)))
  have Hp8 := Lib.hid (Hp7.out.below hb7)
  clear hb7
  go_wp2_with fail
  refine (met_any w.heap.size _ _ 1 2 _ Hp8.out).mono ?_
  rintro e w8 ⟨rfl, hb8⟩
  have B8 : Hid (Below w.heap.size w w8) := Lib.hid (B7.out.trans (hb8.mono B7.out.size))
  clear hb8
  go_wp2_with fail
  go_ret
  exact ⟨rfl, B8.out⟩

#print axioms awake_any
end Go.Proofs.Ytcggmdidnpdciaa
