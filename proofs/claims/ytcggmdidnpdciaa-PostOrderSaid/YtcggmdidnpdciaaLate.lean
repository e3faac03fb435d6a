/-
  The post's Late, All; what is told where there is no such place.
-/
import Derived.Test.YtcggmdidnpdciaaTake
namespace Go.Proofs.Ytcggmdidnpdciaa
open Go.RowKit

set_option maxHeartbeats 400000 in
theorem lose_out (g : Nat) (L : List Letter) (G : List (List Int)) (i : Int) (w : World) (hp : PostAt w g L G) (hi : ¬ (0 ≤ i ∧ i < L.length)) :
    Calls Try.prog 15 #[.pointer (some ⟨g, 0, none⟩), .int .i64 i] w fun e w' => e = .returned (.bool false) ∧ w = w' := by
  have d1 : decide (0 ≤ i ∧ i < L.length) = false := by simpa using hi
  have Hi := Lib.hid hi
  clear hi
  go_enter Try.func15, Try.ntmps15
  go_wp2_with fail
  refine (has_any g L G i _ hp).mono ?_
  rintro e w' ⟨rfl, rfl⟩
  go_wp2_with fail
  go_ret
  exact ⟨rfl, rfl⟩

theorem lose_nil (i : Int) (w : World) :
    Calls Try.prog 15 #[.pointer none, .int .i64 i] w fun e w' => e = .returned (.bool false) ∧ w = w' := by
  go_enter Try.func15, Try.ntmps15
  go_wp2_with fail
  refine (has_nil i _).mono ?_
  rintro e w' ⟨rfl, rfl⟩
  go_wp2_with fail
  go_ret
  exact ⟨rfl, rfl⟩

set_option maxHeartbeats 400000 in
theorem late_out (g : Nat) (L : List Letter) (G : List (List Int)) (i : Int) (w : World) (hp : PostAt w g L G) (hi : ¬ (0 ≤ i ∧ i < L.length)) :
    Calls Try.prog 16 #[.pointer (some ⟨g, 0, none⟩), .int .i64 i] w fun e w' => e = .returned (.bool false) ∧ w = w' := by
  have d1 : decide (0 ≤ i ∧ i < L.length) = false := by simpa using hi
  have Hi := Lib.hid hi
  clear hi
  go_enter Try.func16, Try.ntmps16
  go_wp2_with fail
  refine (has_any g L G i _ hp).mono ?_
  rintro e w' ⟨rfl, rfl⟩
  go_wp2_with fail
  go_ret
  exact ⟨rfl, rfl⟩

theorem late_nil (i : Int) (w : World) :
    Calls Try.prog 16 #[.pointer none, .int .i64 i] w fun e w' => e = .returned (.bool false) ∧ w = w' := by
  go_enter Try.func16, Try.ntmps16
  go_wp2_with fail
  refine (has_nil i _).mono ?_
  rintro e w' ⟨rfl, rfl⟩
  go_wp2_with fail
  go_ret
  exact ⟨rfl, rfl⟩

set_option maxHeartbeats 400000 in
theorem twice_out (g : Nat) (L : List Letter) (G : List (List Int)) (i : Int) (w : World) (hp : PostAt w g L G) (hi : ¬ (0 ≤ i ∧ i < L.length)) :
    Calls Try.prog 18 #[.pointer (some ⟨g, 0, none⟩), .int .i64 i] w fun e w' => e = .returned (.bool false) ∧ w = w' := by
  have d1 : decide (0 ≤ i ∧ i < L.length) = false := by simpa using hi
  have Hi := Lib.hid hi
  clear hi
  go_enter Try.func18, Try.ntmps18
  go_wp2_with fail
  refine (has_any g L G i _ hp).mono ?_
  rintro e w' ⟨rfl, rfl⟩
  go_wp2_with fail
  go_ret
  exact ⟨rfl, rfl⟩

theorem twice_nil (i : Int) (w : World) :
    Calls Try.prog 18 #[.pointer none, .int .i64 i] w fun e w' => e = .returned (.bool false) ∧ w = w' := by
  go_enter Try.func18, Try.ntmps18
  go_wp2_with fail
  refine (has_nil i _).mono ?_
  rintro e w' ⟨rfl, rfl⟩
  go_wp2_with fail
  go_ret
  exact ⟨rfl, rfl⟩

theorem sl_new_letter (w : World) (l : Letter) : Sl (w.alloc (.cells #[.int .i64 l.f, .int .i64 l.t, .string l.b] 32)) 3 (some ⟨w.heap.size, 0, none⟩) 1 (lcells [l]) := by
  refine ⟨rfl, fun _ => ⟨_, _, rfl, by simp, fun j u hu => ?_⟩⟩
  rw [(Blk.new w _ _).cell]
  simpa [lcells] using hu

set_option maxHeartbeats 1000000 in
theorem late_in (g : Nat) (L : List Letter) (G : List (List Int)) (k : Nat) (l : Letter) (w : World) (hp : PostAt w g L G) (hl : L[k]? = some l) :
    Calls Try.prog 16 #[.pointer (some ⟨g, 0, none⟩), .int .i64 k] w (Turned w g (.bool true) (L.eraseIdx k ++ [l]) G) := by
  have Hp := Lib.hid hp
  have hk : k < L.length := (List.getElem?_eq_some_iff.1 hl).1
  obtain ⟨A, c, Ag, cg, hb, hr, hc, hL, hG, hGn⟩ := hp
  have hlt := hb.lt
  obtain ⟨ga, oa, rfl, hga, x0, x1, x2⟩ := letter_cells hr.sl hl
  have h0 : w.cell? ⟨g, 0, none⟩ = some (.slice (some ⟨ga, oa, none⟩) L.length c) := by simpa using hb.cell 0
  have HB := Lib.hid hb
  have HK := Lib.hid hk
  clear hb hr hG hl
  have d1 : decide (0 ≤ (k : Int) ∧ (k : Int) < (L.length : Int)) = true := by simp; exact hk
  have k0 : (0 : Int) ≤ (k : Int) := by omega
  have k1 : (k : Int) < (L.length : Int) := by omega
  have Hlen : Hid ((L.eraseIdx k).length + [l].length ≤ 10000) := Lib.hid (by rw [List.length_eraseIdx, if_pos hk]; simp; omega)
  clear hk
  go_enter Try.func16, Try.ntmps16
  go_wp2_with fail
  refine (has_any g L G k _ Hp.out).mono ?_
  rintro e w' ⟨rfl, rfl⟩
  go_wp2_with fail
  refine (lose_yes g L G k _ (Hp.out.below ((Below.refl _ _).alloc (Nat.le_refl _) _)) HK.out).mono ?_
  rintro e w2 ⟨rfl, hp2, ho, haw⟩
  have b6 := (Blk.new w 32 #[.int .i64 l.f, .int .i64 l.t, .string l.b]).only ho (by omega)
  have hc1 := (((HB.out.alloc (.cells #[.int .i64 l.f, .int .i64 l.t, .string l.b] 32)).cell 0).trans (HB.out.cell 0).symm)
  have Hc1 := Lib.hid hc1
  have ho' : Only g w w2 := only_trans (only_below ((Below.refl _ _).alloc (Nat.le_refl _) _)) ho
  have y0 := b6.cell 0
  have y1 := b6.cell 1
  have y2 := b6.cell 2
  simp only [List.getElem?_toArray, List.getElem?_cons_zero, List.getElem?_cons_succ] at y0 y1 y2
  have Hp2 := Lib.hid hp2
  have Hho := Lib.hid ho'
  have Haw := Lib.hid haw
  clear hp2 b6 ho' haw ho x0 x1 x2 h0 hc1
  go_wp2_with fail
  refine (send_fit g (L.eraseIdx k) G _ 1 [l] _ (Hp2.out.below ((Below.refl _ _).alloc (Nat.le_refl _) _)) (sl_new_letter w2 l) (Nat.le_refl _) Hlen.out).mono ?_
  rintro e w3 ⟨rfl, hp3, ho3, haw3⟩
  have Hp3 := Lib.hid hp3
  have Ho3 := Lib.hid ho3
  have Haw3 := Lib.hid haw3
  clear hp3 ho3 haw3
  go_wp2_with fail
  go_ret
  refine ⟨rfl, Hp3.out, only_trans Hho.out (only_trans (only_below ((Below.refl _ _).alloc (Nat.le_refl _) _)) Ho3.out), fun b hb ha => ?_⟩
  have hg2 : g < w2.heap.size := Nat.lt_of_lt_of_le hlt Hho.out.size
  refine Haw3.out b (by have := Hho.out.size; simp; omega) (away_of_cell (World.cell?_of_block (a := ⟨g, 0, none⟩) (Below.heap_alloc w2 _ g hg2)) (Haw.out b (by simp; omega) (away_of_cell Hc1.out ha)))

set_option maxHeartbeats 400000 in
theorem all_any (g : Nat) (L : List Letter) (G : List (List Int)) (w : World) (hp : PostAt w g L G) :
    Calls Try.prog 17 #[.pointer (some ⟨g, 0, none⟩)] w (Cloned w 32 3 L.length (lcells L)) := by
  obtain ⟨A, c, Ag, cg, hb, hr, hc, hL, -⟩ := hp
  have h0 : w.cell? ⟨g, 0, none⟩ = some (.slice A L.length c) := by simpa using hb.cell 0
  have HR := Lib.hid hr.sl
  clear hb hr
  go_enter Try.func17, Try.ntmps17
  go_wp2_with fail
  refine (clone_letters A L.length c (lcells L) w HR.out (by omega)).mono ?_
  rintro e w' ⟨A', c', rfl, h⟩
  have H := Lib.hid h
  clear h
  go_wp2_with fail
  go_ret
  exact ⟨A', c', rfl, H.out⟩

theorem all_nil (w : World) :
    Calls Try.prog 17 #[.pointer none] w fun e w' => e = .returned (.slice none 0 0) ∧ w = w' := by
  go_enter Try.func17, Try.ntmps17
  go_wp2_with fail
  go_ret
  exact ⟨rfl, rfl⟩

theorem len_nil (w : World) :
    Calls Try.prog 14 #[.pointer none] w fun e w' => e = .returned (.int .i64 0) ∧ w = w' := by
  go_enter Try.func14, Try.ntmps14
  go_wp2_with fail
  go_ret
  exact ⟨rfl, rfl⟩

theorem send_nil (v : Value) (w : World) :
    Calls Try.prog 12 #[.pointer none, v] w fun e w' => e = .returned (.int .i64 0) ∧ w = w' := by
  go_enter Try.func12, Try.ntmps12
  go_wp2_with fail
  go_ret
  exact ⟨rfl, rfl⟩

theorem part_nil (v : Value) (w : World) :
    Calls Try.prog 10 #[.pointer none, v] w fun e w' => e = .returned (.tuple #[]) ∧ w = w' := by
  go_enter Try.func10, Try.ntmps10
  go_wp2_with fail
  refine bodyPost_ret (results_none rfl _ _ _) rfl ?_
  exact ⟨rfl, rfl⟩

theorem met_nil (a b : Int) (w : World) :
    Calls Try.prog 11 #[.pointer none, .int .i64 a, .int .i64 b] w fun e w' => e = .returned (.bool (a == b)) ∧ Below w.heap.size w w' := by
  have Hb : Hid (∀ o1 o2, Below w.heap.size w ((w.alloc o1).alloc o2)) := Lib.hid (fun o1 o2 => ((Below.refl _ _).alloc (Nat.le_refl _) _).alloc (by simp) _)
  cases hab : a == b
  · go_enter Try.func11, Try.ntmps11
    go_wp2_with fail
    go_ret
    exact ⟨rfl, Hb.out _ _⟩
  · go_enter Try.func11, Try.ntmps11
    go_wp2_with fail
    go_ret
    exact ⟨rfl, Hb.out _ _⟩

#print axioms late_in
end Go.Proofs.Ytcggmdidnpdciaa
