/-
  The post's Take, Late, Twice, All.
-/
import Derived.Test.YtcggmdidnpdciaaSend
namespace Go.Proofs.Ytcggmdidnpdciaa
open Go.RowKit

theorem letter_cells {w : World} {A : Option Addr} {L : List Letter} {k : Nat} {l : Letter} (h : Sl w 3 A L.length (lcells L)) (hl : L[k]? = some l) :
    ∃ g o, A = some ⟨g, o, none⟩ ∧ g < w.heap.size ∧ w.cell? ⟨g, o + k * 3, none⟩ = some (.int .i64 l.f) ∧ w.cell? ⟨g, o + k * 3 + 1, none⟩ = some (.int .i64 l.t) ∧ w.cell? ⟨g, o + k * 3 + 2, none⟩ = some (.string l.b) := by
  have hk : k < L.length := (List.getElem?_eq_some_iff.1 hl).1
  obtain ⟨g, o, rfl, hg, hc⟩ := h.2 (by omega)
  obtain ⟨h1, h2, h3⟩ := lcells_at L k l hl
  exact ⟨g, o, rfl, hg, hc _ _ h1, by rw [Nat.add_assoc]; exact hc _ _ h2, by rw [Nat.add_assoc]; exact hc _ _ h3⟩

theorem PostAt.other {w w' : World} {g b : Nat} {L : List Letter} {G : List (List Int)} (hp : PostAt w g L G) (ha : Away w g b) (hne : g ≠ b) {cs : Array Value}
    (ht : Blk w b 32 cs) (ho : Only b w w') : PostAt w' g L G := by
  obtain ⟨A, c, Ag, cg, hb, hr, hc, hL, hG, hGn⟩ := hp
  refine ⟨A, c, Ag, cg, hb.only ho hne, ⟨hr.1, fun hn => ?_⟩, hc, hL, ?_, hGn⟩
  · obtain ⟨g', o, cur, rfl, hg, hcc⟩ := hr.2 hn
    have hne' : g' ≠ b := ha ⟨g', o, none⟩ L.length c (by simpa using hb.cell 0) hn
    exact ⟨g', o, cur, rfl, by rw [ho.block g' (lt_of_heap hg) (by simpa using hne')]; exact hg, hcc⟩
  · refine hG.keep fun k hk hty => ho.block k hk fun heq => ?_
    have hgk : k = b := by simpa using heq
    subst hgk
    unfold Blk at ht
    rcases hty with ⟨cur, hc⟩ | ⟨cur, hc⟩ <;> (rw [ht] at hc; injection hc with hc; injection hc with _ ht; cases ht)

theorem only_set3 (w : World) (b : Nat) (x y z : Value) : Only b w (((w.setCell ⟨b, 0, none⟩ x).setCell ⟨b, 1, none⟩ y).setCell ⟨b, 2, none⟩ z) :=
  only_trans (only_trans (only_set w b 0 x) (only_set _ b 1 y)) (only_set _ b 2 z)

theorem away_of_cell {w w' : World} {g b : Nat} (h : w'.cell? ⟨g, 0, none⟩ = w.cell? ⟨g, 0, none⟩) (ha : Away w g b) : Away w' g b := fun a n c hc hn => ha a n c (h ▸ hc) hn

theorem take_close {w w1 w2 w3 : World} {g : Nat} {L' : List Letter} {G : List (List Int)} {v : Value} {cs : Array Value} (x y z : Value) (hg : g < w.heap.size) (hp2 : PostAt w2 g L' G) (hb3 : Below w2.heap.size w2 w3)
    (haw : Away w2 g w.heap.size) (hho : Only g w w2) (hb4 : Blk w2 w.heap.size 32 cs) (h1 : w1.cell? ⟨g, 0, none⟩ = w.cell? ⟨g, 0, none⟩) (hs1 : w.heap.size ≤ w1.heap.size) (hA : ∀ b, b < w1.heap.size → Away w1 g b → Away w2 g b) :
    Turned w g v L' G (.returned v) (((w3.setCell ⟨w.heap.size, 0, none⟩ x).setCell ⟨w.heap.size, 1, none⟩ y).setCell ⟨w.heap.size, 2, none⟩ z) := by
  have ho3 := only_set3 w3 w.heap.size x y z
  have hg2 : g < w2.heap.size := Nat.lt_of_lt_of_le hg hho.size
  have hc3 : w3.cell? ⟨g, 0, none⟩ = w2.cell? ⟨g, 0, none⟩ := hb3.cell (p := ⟨g, 0, none⟩) hg2
  have hcW : (((w3.setCell ⟨w.heap.size, 0, none⟩ x).setCell ⟨w.heap.size, 1, none⟩ y).setCell ⟨w.heap.size, 2, none⟩ z).cell? ⟨g, 0, none⟩ = w2.cell? ⟨g, 0, none⟩ :=
    (World.cell?_of_block (a := ⟨g, 0, none⟩) (ho3.block g (Nat.lt_of_lt_of_le hg2 hb3.size) (by simp; omega))).trans hc3
  refine ⟨rfl, (hp2.below hb3).other (away_of_cell hc3 haw) (by omega) (hb4.below hb3) ho3, ?_, fun b hb ha => ?_⟩
  · exact ⟨ho3.os.trans (hb3.os.trans hho.os), ho3.tape.trans (hb3.tape.trans hho.tape), ho3.output.trans (hb3.output.trans hho.output), Nat.le_trans hho.size (Nat.le_trans hb3.size ho3.size), fun k hk hne =>
      (ho3.block k (by have := hho.size; have := hb3.size; omega) (by simp; omega)).trans ((hb3.block k (Nat.lt_of_lt_of_le hk hho.size)).trans (hho.block k hk hne))⟩
  · exact away_of_cell hcW (hA b (by omega) (away_of_cell h1 ha))

/-- What Take tells. -/
def told (G : List (List Int)) (l : Letter) : Value := .tuple #[if meets G l.f l.t then l.val else .agg #[.int .i64 0, .int .i64 0, .string ⟨#[]⟩], .bool (meets G l.f l.t)]

set_option maxHeartbeats 400000 in
theorem take_out (g : Nat) (L : List Letter) (G : List (List Int)) (i : Int) (w : World) (hp : PostAt w g L G) (hi : ¬ (0 ≤ i ∧ i < L.length)) :
    Calls Try.prog 13 #[.pointer (some ⟨g, 0, none⟩), .int .i64 i] w fun e w' => e = .returned (.tuple #[.agg #[.int .i64 0, .int .i64 0, .string ⟨#[]⟩], .bool false]) ∧ Below w.heap.size w w' := by
  have d1 : decide (0 ≤ i ∧ i < L.length) = false := by simpa using hi
  have Hi := Lib.hid hi
  clear hi
  go_enter Try.func13, Try.ntmps13
  go_wp2_with fail
  refine (has_any g L G i _ (hp.below ((Below.refl _ _).alloc (Nat.le_refl _) _))).mono ?_
  rintro e w' ⟨rfl, rfl⟩
  go_wp2_with fail
  exact bodyPost_ret (v := .tuple #[.agg #[.int .i64 0, .int .i64 0, .string ⟨#[]⟩], .bool false]) (by simp [results, Try.results13, go_sem]) rfl ⟨rfl, (Below.refl _ _).alloc (Nat.le_refl _) _⟩

theorem take_nil (i : Int) (w : World) :
    Calls Try.prog 13 #[.pointer none, .int .i64 i] w fun e w' => e = .returned (.tuple #[.agg #[.int .i64 0, .int .i64 0, .string ⟨#[]⟩], .bool false]) ∧ Below w.heap.size w w' := by
  go_enter Try.func13, Try.ntmps13
  go_wp2_with fail
  refine (has_nil i _).mono ?_
  rintro e w' ⟨rfl, rfl⟩
  go_wp2_with fail
  exact bodyPost_ret (v := .tuple #[.agg #[.int .i64 0, .int .i64 0, .string ⟨#[]⟩], .bool false]) (by simp [results, Try.results13, go_sem]) rfl ⟨rfl, (Below.refl _ _).alloc (Nat.le_refl _) _⟩

set_option maxHeartbeats 1000000 in
theorem take_in (g : Nat) (L : List Letter) (G : List (List Int)) (k : Nat) (l : Letter) (w : World) (hp : PostAt w g L G) (hl : L[k]? = some l) :
    Calls Try.prog 13 #[.pointer (some ⟨g, 0, none⟩), .int .i64 k] w (Turned w g (told G l) (L.eraseIdx k) G) := by
  have Hp := Lib.hid hp
  have hk : k < L.length := (List.getElem?_eq_some_iff.1 hl).1
  obtain ⟨A, c, Ag, cg, hb, hr, hc, hL, hG, hGn⟩ := hp
  have hlt := hb.lt
  obtain ⟨ga, oa, rfl, hga, x0, x1, x2⟩ := letter_cells hr.sl hl
  have h0 : w.cell? ⟨g, 0, none⟩ = some (.slice (some ⟨ga, oa, none⟩) L.length c) := by simpa using hb.cell 0
  have HB := Lib.hid hb
  have HK := Lib.hid hk
  clear hb hr hG hl
  have d1 : decide (0 ≤ (k : Int) ∧ (k : Int) < (L.length : Int)) = true := by simp; exact hk
  have k0 : (0 : Int) ≤ (k : Int) := by omega
  have k1 : (k : Int) < (L.length : Int) := by omega
  clear hk
  go_enter Try.func13, Try.ntmps13
  go_wp2_with fail
  refine (has_any g L G k _ (Hp.out.below ((Below.refl _ _).alloc (Nat.le_refl _) _))).mono ?_
  rintro e w' ⟨rfl, rfl⟩
  go_wp2_with fail
  refine (lose_yes g L G k _ (Hp.out.below (((Below.refl _ _).alloc (Nat.le_refl _) _).alloc (by simp) _)) HK.out).mono ?_
  rintro e w2 ⟨rfl, hp2, ho, haw⟩
  have b4 := ((Blk.new w _ _).alloc _).only ho (by omega)
  have b6 := (Blk.new (w.alloc (.cells #[.int .i64 0, .int .i64 0, .string ⟨#[]⟩] 32)) 32 _).only ho (by simp; omega)
  rw [World.size_alloc] at b6
  have haw2 : Away w2 g w.heap.size := haw w.heap.size (by simp; omega) (fun a n c' hc' hn => by
    have h1 := ((HB.out.alloc (.cells #[.int .i64 0, .int .i64 0, .string ⟨#[]⟩] 32)).alloc (.cells #[.int .i64 l.f, .int .i64 l.t, .string l.b] 32)).cell 0
    rw [h1] at hc'
    simp at hc'
    obtain ⟨rfl, rfl, rfl⟩ := hc'
    simp; omega)
  have hc1 := (((HB.out.alloc (.cells #[.int .i64 0, .int .i64 0, .string ⟨#[]⟩] 32)).alloc (.cells #[.int .i64 l.f, .int .i64 l.t, .string l.b] 32)).cell 0).trans (HB.out.cell 0).symm
  have Hc1 := Lib.hid hc1
  clear hc1
  have ho' : Only g w w2 := only_trans (only_below (((Below.refl _ _).alloc (Nat.le_refl _) _).alloc (by simp) _)) ho
  have y0 := b6.cell 0
  have y1 := b6.cell 1
  simp only [List.getElem?_toArray, List.getElem?_cons_zero, List.getElem?_cons_succ] at y0 y1
  have Hp2 := Lib.hid hp2
  have Hb4 := Lib.hid b4
  have Hb6 := Lib.hid b6
  have Hhaw := Lib.hid haw2
  have Hho := Lib.hid ho'
  have Haw := Lib.hid haw
  clear hp2 b4 b6 haw2 ho' haw ho x0 x1 x2 h0
  go_wp2_with fail
  refine (met_any g (L.eraseIdx k) G l.f l.t _ Hp2.out).mono ?_
  rintro e w3 ⟨rfl, hb3⟩
  have z0 := (Hb4.out.below hb3).cell 0
  have z1 := (Hb4.out.below hb3).cell 1
  have z2 := (Hb4.out.below hb3).cell 2
  have f0 := (Hb4.out.below hb3).frozen 0
  have f1 := (Hb4.out.below hb3).frozen 1
  have f2 := (Hb4.out.below hb3).frozen 2
  have v0 := (Hb6.out.below hb3).cell 0
  have v1 := (Hb6.out.below hb3).cell 1
  have v2 := (Hb6.out.below hb3).cell 2
  simp only [List.getElem?_toArray, List.getElem?_cons_zero, List.getElem?_cons_succ] at z0 z1 z2 v0 v1 v2
  have Hb3 := Lib.hid hb3
  clear hb3 y0 y1
  cases hm : meets G l.f l.t
  · have ht : Hid (told G l = .tuple #[.agg #[.int .i64 0, .int .i64 0, .string ⟨#[]⟩], .bool false]) := Lib.hid (by unfold told; rw [hm]; rfl)
    clear hm
    go_wp2_with fail
    exact bodyPost_ret (v := told G l) (by rw [ht.out]; simp [results, Try.results13, go_sem, z0, z1, z2]) rfl (take_close _ _ _ hlt Hp2.out Hb3.out Hhaw.out Hho.out Hb4.out Hc1.out (by simp; omega) Haw.out)
  · have ht : Hid (told G l = .tuple #[l.val, .bool true]) := Lib.hid (by unfold told; rw [hm]; rfl)
    clear hm
    go_wp2_with fail
    exact bodyPost_ret (v := told G l) (by rw [ht.out]; simp [results, Try.results13, go_sem, z0, z1, z2]) rfl (take_close _ _ _ hlt Hp2.out Hb3.out Hhaw.out Hho.out Hb4.out Hc1.out (by simp; omega) Haw.out)

#print axioms take_in
end Go.Proofs.Ytcggmdidnpdciaa
