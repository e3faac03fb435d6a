/-
  HoldApart: the walk.
-/
import Derived.Deep.CutRange
import Derived.Test.YthmclonjgbmhhaaChanges
namespace Go.Proofs.Ythmclonjgbmhhaa
open Go.RowKit
set_option linter.unusedVariables false

theorem nameD_ok (d : Dot) : okDot (nameD d) = true := by
  have h1 : 0 ≤ bit d.nd 3 ∧ bit d.nd 3 ≤ 3 := bit_in d.nd 3 (by omega)
  have h2 : 0 ≤ bit d.n 7 ∧ bit d.n 7 ≤ 7 := bit_in d.n 7 (by omega)
  unfold okDot okI nameD
  simp
  omega

theorem apart_err {m : List Hold} (hl : m.length ≤ 12) (d : Dot) (hd : okDot d = true) (now r : Int) (hn : now < 200) (hr : okI r = true) : grantCE m now d r 200 = 0 ∨ grantCE m now d r 200 = 16 := by
  unfold grantCE
  rw [show okArg d r = true by (unfold okArg; rw [hd, hr]; rfl), show okTime now 200 = true by (unfold okTime okT; simp; omega)]
  simp only [Bool.not_true, Bool.false_eq_true, if_false]
  cases findC m d with
  | none => simp only; rw [if_neg (by omega)]; exact .inl rfl
  | some h => simp only; split <;> simp
theorem apart_until {m : List Hold} (hs : ∀ t ∈ m, Small t) (d : Dot) (now r : Int) : untilR (findR m d) now r 200 = 200 := by
  unfold untilR
  cases h : findR m d with
  | none => rfl
  | some t =>
    have := (hs t (find_some h).1).2.2.2
    simp only
    rw [show decide ((200 : Int) < t.un) = false by simp; omega]
    simp
theorem apart_grant {m : List Hold} (hf : Fine m) (hs : ∀ t ∈ m, Small t) (d : Dot) (now r : Int) (hE : grantCE m now d r 200 = 0) (o : Dot) (ho : deq d o = false) :
    findC (grantC m now d r 200) o = findC m o ∧ findC (grantC m now d r 200) d = some ⟨d, r, 200⟩ := by
  have hg : grantC m now d r 200 = putC m d ⟨d, r, 200⟩ := by
    unfold grantC; rw [if_pos hE, find_eq hf.1, apart_until hs]
  have hfg := fine_grant hf now d r 200
  rw [hg] at hfg ⊢
  have h1 := find_put hf.1 ⟨d, r, 200⟩ o
  have h2 := find_put hf.1 ⟨d, r, 200⟩ d
  rw [ho] at h1
  rw [deq_self] at h2
  refine ⟨?_, ?_⟩
  · rw [find_eq hfg.1, find_eq hf.1, h1]; rfl
  · rw [find_eq hfg.1, h2]; rfl
theorem apart_free {m : List Hold} (hf : Fine m) (d : Dot) (r : Int) (o : Dot) (ho : deq d o = false) : findC (freeL m d r) o = findC m o := by
  have hs : Srt (freeL m d r) := srt_filter hf.1 _
  rw [find_eq hs, find_eq hf.1, find_free hf.1, ho]
  cases findR m o <;> simp
theorem apart_gone {m : List Hold} (hf : Fine m) (d o : Dot) (ho : deq d o = false) : findC (goneL m d) o = findC m o := by
  have hs : Srt (goneL m d) := srt_filter hf.1 _
  rw [find_eq hs, find_eq hf.1, find_gone hf.1, ho]; rfl
theorem apart_len {m : List Hold} (hl : m.length ≤ 12) (d : Dot) (now r u : Int) : (grantC m now d r u).length ≤ 13 := by
  unfold grantC
  split
  · rw [put_length]; split <;> omega
  · simp

/-- What HoldApart has in its blocks. -/
structure St (w : World) (m : List Hold) (A : Option Addr) (c b9 b10 b5 : Nat) (d o : Dot) (q0 q1 q2 q3 : Int) (wr : World) : Prop where
  acc : Acc w m (.slice A m.length c) wr
  d9 : DotAt wr b9 d
  d10 : DotAt wr b10 o
  f5 : Blk wr b5 25 #[.int .i64 q0, .int .i64 q1, .int .i64 q2, .int .i64 q3]
theorem St.below {w wr w' : World} {m : List Hold} {A : Option Addr} {c b9 b10 b5 : Nat} {d o : Dot} {q0 q1 q2 q3 : Int} (h : St w m A c b9 b10 b5 d o q0 q1 q2 q3 wr) (hb : Below wr.heap.size wr w') : St w m A c b9 b10 b5 d o q0 q1 q2 q3 w' :=
  ⟨h.acc.below hb, h.d9.below hb, h.d10.below hb, h.f5.below hb⟩

/-- What a statement 'x, is := Find(..)' leaves. -/
def Aft (w : World) (m : List Hold) (A : Option Addr) (c b9 b10 b5 : Nat) (d o : Dot) (q0 q1 q2 q3 : Int) (b11 : Nat) (T : Hold) (Bo : Bool) (L : List (Nat × Hold)) (s1 s2 : Value) (wx : World) : Prop :=
  ∃ g : Nat, s1 = .pointer (some ⟨g, 0, none⟩) ∧ s2 = .bool Bo ∧ St w m A c b9 b10 b5 d o q0 q1 q2 q3 wx ∧ HoldAt wx g T ∧ ∀ x ∈ L, HoldAt wx x.1 x.2
theorem only4 (w : World) (g : Nat) (a b c d : Value) : Only g w ((((w.setCell ⟨g, 0, none⟩ a).setCell ⟨g, 1, none⟩ b).setCell ⟨g, 2, none⟩ c).setCell ⟨g, 3, none⟩ d) := only_put4 w g 0 a b c d
theorem acc_put4 {w wr w' : World} {l : List Hold} {v : Value} {g : Nat} (h8 : Acc w l v wr) (hb : Below wr.heap.size wr w') (hg : wr.heap.size ≤ g) (a b c e : Value) :
    Acc w l v ((((w'.setCell ⟨g, 0, none⟩ a).setCell ⟨g, 1, none⟩ b).setCell ⟨g, 2, none⟩ c).setCell ⟨g, 3, none⟩ e) :=
  ⟨(h8.below hb).1.kept (only4 w' g a b c e) (.inr fun he => by have := own_block_lt h8.1 _ he; omega), below4 (h8.below hb).2 (by have := h8.2.size; omega) _ _ _ _⟩
theorem St.put4 {w wr w' : World} {m : List Hold} {A : Option Addr} {c b9 b10 b5 g : Nat} {d o : Dot} {q0 q1 q2 q3 : Int} (h : St w m A c b9 b10 b5 d o q0 q1 q2 q3 wr) (hb : Below wr.heap.size wr w') (hg : wr.heap.size ≤ g) (x y z u : Value) :
    St w m A c b9 b10 b5 d o q0 q1 q2 q3 ((((w'.setCell ⟨g, 0, none⟩ x).setCell ⟨g, 1, none⟩ y).setCell ⟨g, 2, none⟩ z).setCell ⟨g, 3, none⟩ u) :=
  ⟨acc_put4 h.acc hb hg _ _ _ _, Blk.only (h.d9.below hb) (only4 w' g x y z u) (by have := Blk.lt h.d9; omega), Blk.only (h.d10.below hb) (only4 w' g x y z u) (by have := Blk.lt h.d10; omega), Blk.only (h.f5.below hb) (only4 w' g x y z u) (by have := Blk.lt h.f5; omega)⟩
theorem HoldAt.put4 {wr w' : World} {b g : Nat} {t : Hold} (h : HoldAt wr b t) (hb : Below wr.heap.size wr w') (hg : wr.heap.size ≤ g) (x y z u : Value) :
    HoldAt ((((w'.setCell ⟨g, 0, none⟩ x).setCell ⟨g, 1, none⟩ y).setCell ⟨g, 2, none⟩ z).setCell ⟨g, 3, none⟩ u) b t :=
  Blk.only (h.below hb) (only4 w' g x y z u) (by have := Blk.lt h; omega)

theorem aft_last {w wr w' : World} {m : List Hold} {A : Option Addr} {c b9 b10 b5 b11 : Nat} {d o : Dot} {q0 q1 q2 q3 : Int} {T : Hold} {Bo : Bool} {L : List (Nat × Hold)} (h : St w m A c b9 b10 b5 d o q0 q1 q2 q3 wr) (hL : ∀ x ∈ L, HoldAt wr x.1 x.2) (hb : Below wr.heap.size wr w') :
    Aft w m A c b9 b10 b5 d o q0 q1 q2 q3 b11 T Bo L (.pointer (some ⟨w'.heap.size, 0, none⟩)) (.bool Bo) (w'.alloc (.cells #[.int .i64 T.d.nd, .int .i64 T.d.n, .int .i64 T.rc, .int .i64 T.un] 30)) :=
  ⟨_, rfl, rfl, h.below (hb.alloc hb.size _), HoldAt.new w' T, fun x hx => (hL x hx).below (hb.alloc hb.size _)⟩
theorem aft_put {w wr w' : World} {m : List Hold} {A : Option Addr} {c b9 b10 b5 b11 g : Nat} {d o : Dot} {q0 q1 q2 q3 : Int} {T : Hold} {Bo : Bool} {L : List (Nat × Hold)} {e0 e1 e2 e3 : Value} (h : St w m A c b9 b10 b5 d o q0 q1 q2 q3 wr) (hL : ∀ x ∈ L, HoldAt wr x.1 x.2) (hb : Below wr.heap.size wr w') (hg : wr.heap.size ≤ g) (hz : Blk w' g 30 #[e0, e1, e2, e3]) :
    Aft w m A c b9 b10 b5 d o q0 q1 q2 q3 b11 T Bo L (.pointer (some ⟨g, 0, none⟩)) (.bool Bo) ((((w'.setCell ⟨g, 0, none⟩ (.int .i64 T.d.nd)).setCell ⟨g, 1, none⟩ (.int .i64 T.d.n)).setCell ⟨g, 2, none⟩ (.int .i64 T.rc)).setCell ⟨g, 3, none⟩ (.int .i64 T.un)) :=
  ⟨_, rfl, rfl, h.put4 hb hg _ _ _ _, hz.put4 _ _ _ _, fun x hx => (hL x hx).put4 hb hg _ _ _ _⟩
theorem all_nil (W : World) : ∀ x ∈ ([] : List (Nat × Hold)), HoldAt W x.1 x.2 := fun x hx => nomatch hx
theorem all_cons {W : World} {b : Nat} {T : Hold} {L : List (Nat × Hold)} (h : HoldAt W b T) (hL : ∀ x ∈ L, HoldAt W x.1 x.2) : ∀ x ∈ (b, T) :: L, HoldAt W x.1 x.2 := fun x hx => by
  rcases List.mem_cons.1 hx with rfl | hx
  · exact h
  · exact hL x hx

set_option maxRecDepth 20000 in
set_option maxHeartbeats 8000000 in
theorem apart_walk (A0 : Option Addr) (c0 : Nat) (l0 : List Hold) (a : Dot) (q0 q1 q2 q3 : Int) (w : World) (hr : Sl w 4 A0 l0.length (hcells l0)) (hn : l0.length ≤ 9223372036854775807) :
    Calls Try.prog 3 #[.slice A0 l0.length c0, .agg #[.int .i64 a.nd, .int .i64 a.n], .agg #[.int .i64 q0, .int .i64 q1, .int .i64 q2, .int .i64 q3]] w fun e w' => e = .returned (.bool true) ∧ Below w.heap.size w w' := by
  have Hr := Lib.hid hr
  clear hr
  obtain ⟨W0, hW0⟩ : ∃ W0, (w.alloc (.cells #[.int .i64 a.nd, .int .i64 a.n] 24)).alloc (.cells #[.int .i64 q0, .int .i64 q1, .int .i64 q2, .int .i64 q3] 25) = W0 := ⟨_, rfl⟩
  have hb0 : Below w.heap.size w W0 := hW0 ▸ ((Below.refl _ _).alloc (Nat.le_refl _) _).alloc (by simp) _
  have hd0 : DotAt W0 w.heap.size a := hW0 ▸ (DotAt.new w a).alloc _
  have hf0 : Blk W0 (w.heap.size + 1) 25 #[.int .i64 q0, .int .i64 q1, .int .i64 q2, .int .i64 q3] := by
    have := Blk.new (w.alloc (.cells #[.int .i64 a.nd, .int .i64 a.n] 24)) 25 #[.int .i64 q0, .int .i64 q1, .int .i64 q2, .int .i64 q3]
    rw [hW0, World.size_alloc] at this
    exact this
  have B0 := Lib.hid hb0
  have D0 := Lib.hid hd0
  have F0 := Lib.hid hf0
  clear hb0 hd0 hf0
  go_enter Try.func3, Try.ntmps3
  go_wp2_with fail
  refine (awake_any _).mono ?_
  rintro e w1 ⟨rfl, hb⟩
  have B1 := Lib.hid (B0.out.trans (hb.mono B0.out.size))
  have D1 := Lib.hid (D0.out.below hb)
  have F1 := Lib.hid (F0.out.below hb)
  clear hb hW0 D0 F0 B0
  go_wp2_with fail
  refine (made_any A0 c0 l0 _ (Hr.out.below B1.out) hn).mono ?_
  rintro e w2 ⟨v1, rfl, ha⟩
  have MF := Lib.hid (made_fine l0)
  have hml := made_len l0
  have MS := Lib.hid (made_small l0)
  generalize madeL l0 = m at ha MF hml MS
  obtain ⟨A, c, rfl, -, -⟩ := ha.slice
  have D2 := Lib.hid (D1.out.below ha.2)
  have F2 := Lib.hid (F1.out.below ha.2)
  have M2 := Lib.hid (Acc.up B1.out ha)
  clear ha D1 F1 B1 Hr
  obtain ⟨x0, x1⟩ := D2.out.cells
  go_wp2_with fail
  refine (name_any a _).mono ?_
  rintro e w3 ⟨rfl, hb⟩
  have hdok := nameD_ok a
  generalize nameD a = d at hdok ⊢
  have D3 := Lib.hid ((DotAt.new w3 d))
  have F3 := Lib.hid ((F2.out.below hb).alloc (.cells #[.int .i64 d.nd, .int .i64 d.n] 24))
  have M3 := Lib.hid ((M2.out.below hb).below ((Below.refl w3.heap.size w3).alloc (Nat.le_refl _) (.cells #[.int .i64 d.nd, .int .i64 d.n] 24)))
  have hz3 := hb.size
  have hz2 := M2.out.2.size
  clear hb F2 M2 D2 x0 x1
  obtain ⟨y0, y1⟩ : (w3.alloc (.cells #[.int .i64 d.nd, .int .i64 d.n] 24)).cell? ⟨w.heap.size + 1, 0, none⟩ = some (.int .i64 q0) ∧ (w3.alloc (.cells #[.int .i64 d.nd, .int .i64 d.n] 24)).cell? ⟨w.heap.size + 1, 1, none⟩ = some (.int .i64 q1) := ⟨F3.out.cell 0, F3.out.cell 1⟩
  obtain ⟨W3, hW3⟩ : ∃ W3, w3.alloc (.cells #[.int .i64 d.nd, .int .i64 d.n] 24) = W3 := ⟨_, rfl⟩
  rw [hW3] at D3 F3 M3 y0 y1
  have HW3 := Lib.hid hW3
  go_wp2_with fail
  refine (name_any ⟨q0, q1⟩ _).mono ?_
  rintro e w4 ⟨rfl, hb⟩
  have hook := nameD_ok ⟨q0, q1⟩
  generalize nameD ⟨q0, q1⟩ = o at hook ⊢
  have hSt : St w m A c w3.heap.size w4.heap.size (w.heap.size + 1) d o q0 q1 q2 q3 (w4.alloc (.cells #[.int .i64 o.nd, .int .i64 o.n] 24)) :=
    ⟨(M3.out.below hb).below ((Below.refl w4.heap.size w4).alloc (Nat.le_refl _) _), (D3.out.below hb).alloc _, DotAt.new w4 o, (F3.out.below hb).alloc _⟩
  have hz4 : w3.heap.size < w4.heap.size := by have := Blk.lt (D3.out.below hb); exact this
  clear hb y0 y1 HW3 hW3 D3 F3 M3
  obtain ⟨W4, hW4⟩ : ∃ W4, w4.alloc (.cells #[.int .i64 o.nd, .int .i64 o.n] 24) = W4 := ⟨_, rfl⟩
  rw [hW4] at hSt
  obtain ⟨b10, hb10⟩ : ∃ b10, w4.heap.size = b10 := ⟨_, rfl⟩
  obtain ⟨b9, hb9⟩ : ∃ b9, w3.heap.size = b9 := ⟨_, rfl⟩
  rw [hb10, hb9] at hSt
  obtain ⟨x0, x1⟩ := hSt.d9.cells
  obtain ⟨y0, y1⟩ := hSt.d10.cells
  have S4 := Lib.hid hSt
  have hwb : w.heap.size ≤ b9 := by omega
  have hwb2 : b9 < b10 := by omega
  clear hSt hz4 hz3
  have hq := fun W => eql_dot d o W
  have hgq := fun op x y W => eqGuard_dot op x y d o W
  cases hdo : deq d o
  · rw [hdo] at hq
    have HDO := Lib.hid hdo
    clear hdo
    go_wp2_with fail
    clear hq hgq x0 x1 y0 y1 hb9 hb10 hW4
    refine (Find_any A c m o _ S4.out.acc.sl (by omega)).mono ?_
    obtain ⟨X, hX⟩ : ∃ X, findC m o = X := ⟨_, rfl⟩
    obtain ⟨T, hT⟩ : ∃ T, X.getD z0 = T := ⟨_, rfl⟩
    obtain ⟨Bo, hBo⟩ : ∃ Bo, X.isSome = Bo := ⟨_, rfl⟩
    have hr3 : 0 ≤ bit q3 3 ∧ bit q3 3 ≤ 3 := bit_in q3 3 (by omega)
    have hn7 := bit127 q2
    have g1 := apart_err hml d hdok (bit q2 127) (1 + bit q3 3) (by omega) (by unfold okI; simp; omega)
    have FG := Lib.hid (fun hE => apart_grant MF.out MS.out d (bit q2 127) (1 + bit q3 3) hE o HDO.out)
    have FF := Lib.hid (apart_free MF.out d (1 + bit q3 3) o HDO.out)
    have FO := Lib.hid (apart_gone MF.out d o HDO.out)
    have GL := Lib.hid (apart_len hml d (bit q2 127) (1 + bit q3 3) 200)
    have hfl : (freeL m d (1 + bit q3 3)).length ≤ 12 := Nat.le_trans (List.length_filter_le _ _) hml
    have hgl : (goneL m d).length ≤ 12 := Nat.le_trans (goneL_le _ _) hml
    rw [hX] at FG FF FO ⊢
    have HT := Lib.hid hT
    have HB := Lib.hid hBo
    have hw3 : wrap64 (1 + bits .and .i64 q3 3) = 1 + bit q3 3 := wrap_bit q3 3 (by omega)
    clear hX hT hBo
    rintro e w5 ⟨rfl, hb5⟩
    rw [HT.out, HB.out]
    have S5 := Lib.hid ((S4.out.below hb5).below ((Below.refl w5.heap.size w5).alloc (Nat.le_refl _) (.cells #[.int .i64 T.d.nd, .int .i64 T.d.n, .int .i64 T.rc, .int .i64 T.un] 30)))
    have T5 := Lib.hid (HoldAt.new w5 T)
    have hbz5 : b10 < w5.heap.size := Blk.lt (S4.out.below hb5).d10
    clear hb5 S4
    obtain ⟨W5, hW5⟩ : ∃ W5, w5.alloc (.cells #[.int .i64 T.d.nd, .int .i64 T.d.n, .int .i64 T.rc, .int .i64 T.un] 30) = W5 := ⟨_, rfl⟩
    rw [hW5] at S5 T5
    obtain ⟨b11, hb11⟩ : ∃ b11, w5.heap.size = b11 := ⟨_, rfl⟩
    rw [hb11] at T5 hbz5
    obtain ⟨x0, x1⟩ := S5.out.d9.cells
    obtain ⟨-, -, f2, f3⟩ := S5.out.f5.four
    go_wp2_with fail
    clear x0 x1 f2 f3 hb11 hW5
    refine (grant_any A c m (bit q2 127) d (1 + bit q3 3) 200 _ S5.out.acc.sl (by omega)).mono ?_
    rintro e w6 ht
    obtain ⟨A6, c6, rfl, ha6⟩ := ht.acc
    have S6 := Lib.hid (S5.out.below ha6.2)
    have T6 := Lib.hid (T5.out.below ha6.2)
    have N6 := Lib.hid ha6
    clear ht ha6 S5 T5
    rcases g1 with g1 | g1
    · have FG2 := Lib.hid (FG.out g1)
      rw [g1]
      clear g1 FG
      obtain ⟨n, hn0⟩ : ∃ n, grantC m (bit q2 127) d (1 + bit q3 3) 200 = n := ⟨_, rfl⟩
      rw [hn0] at FG2 N6 GL ⊢
      clear hn0
      have hnl := GL.out
      obtain ⟨y0, y1⟩ := S6.out.d10.cells
      go_wp2_with fail
      refine (Find_any A6 c6 n o _ N6.out.sl (by omega)).mono ?_
      rw [FG2.out.1]
      rintro e w7 ⟨rfl, hb7⟩
      rw [HT.out, HB.out]
      have S7 := Lib.hid ((S6.out.below hb7).below ((Below.refl w7.heap.size w7).alloc (Nat.le_refl _) (.cells #[.int .i64 T.d.nd, .int .i64 T.d.n, .int .i64 T.rc, .int .i64 T.un] 30)))
      have T7 := Lib.hid ((T6.out.below hb7).below ((Below.refl w7.heap.size w7).alloc (Nat.le_refl _) (.cells #[.int .i64 T.d.nd, .int .i64 T.d.n, .int .i64 T.rc, .int .i64 T.un] 30)))
      have N7 := Lib.hid ((N6.out.below hb7).below ((Below.refl w7.heap.size w7).alloc (Nat.le_refl _) (.cells #[.int .i64 T.d.nd, .int .i64 T.d.n, .int .i64 T.rc, .int .i64 T.un] 30)))
      have Y7 := Lib.hid (HoldAt.new w7 T)
      clear hb7 S6 T6 N6 y0 y1
      obtain ⟨W7, hW7⟩ : ∃ W7, w7.alloc (.cells #[.int .i64 T.d.nd, .int .i64 T.d.n, .int .i64 T.rc, .int .i64 T.un] 30) = W7 := ⟨_, rfl⟩
      rw [hW7] at S7 T7 N7 Y7
      obtain ⟨b15, hb15⟩ : ∃ b15, w7.heap.size = b15 := ⟨_, rfl⟩
      rw [hb15] at Y7
      obtain ⟨x0, x1⟩ := S7.out.d9.cells
      go_wp2_with fail
      clear x0 x1 hb15 hW7
      refine (Find_any A6 c6 n d _ N7.out.sl (by omega)).mono ?_
      rw [FG2.out.2]
      rintro e w8 ⟨rfl, hb8⟩
      simp only [Option.getD_some, Option.isSome_some]
      have hB8 := hb8.alloc hb8.size (.cells #[.int .i64 d.nd, .int .i64 d.n, .int .i64 (1 + bit q3 3), .int .i64 200] 30)
      have S8 := Lib.hid (S7.out.below hB8)
      have T8 := Lib.hid (T7.out.below hB8)
      have Y8 := Lib.hid (Y7.out.below hB8)
      have Z8 := Lib.hid (HoldAt.new w8 ⟨d, 1 + bit q3 3, 200⟩)
      clear hb8 hB8 S7 T7 Y7 N7
      obtain ⟨W8, hW8⟩ : ∃ W8, w8.alloc (.cells #[.int .i64 d.nd, .int .i64 d.n, .int .i64 (1 + bit q3 3), .int .i64 200] 30) = W8 := ⟨_, rfl⟩
      rw [hW8] at S8 T8 Y8
      have hZ8 : HoldAt W8 w8.heap.size ⟨d, 1 + bit q3 3, 200⟩ := hW8 ▸ Z8.out
      obtain ⟨t0, t1, t2, t3⟩ := T8.out.cells
      obtain ⟨u0, u1, u2, u3⟩ := Y8.out.cells
      obtain ⟨-, -, -, v3⟩ := hZ8.cells
      clear Z8 hZ8
      have hnS := fun W => neq_hold T T W
      have hgS := fun op x y W => eqGuard_hold op x y T T W
      rw [decide_eq_true rfl] at hnS
      simp only [Bool.not_true] at hnS
      go_wp2_with fail
      clear t0 t1 t2 t3 u0 u1 u2 u3 v3 hnS hgS
      have hw4 : IntKind.i64.wrap (1 + bits .and .i64 q3 3) = 1 + bit q3 3 := IntWalk.i64_in (1 + bit q3 3) (by omega)
      have L8 := Lib.hid (all_cons T8.out (all_nil W8))
      obtain ⟨x0, x1⟩ : W8.drew.cell? ⟨b9, 0, none⟩ = some (.int .i64 d.nd) ∧ W8.drew.cell? ⟨b9, 1, none⟩ = some (.int .i64 d.n) := S8.out.d9.cells
      obtain ⟨y0, y1⟩ : W8.drew.cell? ⟨b10, 0, none⟩ = some (.int .i64 o.nd) ∧ W8.drew.cell? ⟨b10, 1, none⟩ = some (.int .i64 o.n) := S8.out.d10.cells
      have f3 : W8.drew.cell? ⟨w.heap.size + 1, 3, none⟩ = some (.int .i64 q3) := S8.out.f5.four.2.2.2
      have HKp := Lib.hid (show ∀ W1 w2 : World, (W1.cell? ⟨b9, 0, none⟩ = some (.int .i64 d.nd) ∧ W1.cell? ⟨b9, 1, none⟩ = some (.int .i64 d.n) ∧ W1.cell? ⟨b10, 0, none⟩ = some (.int .i64 o.nd) ∧ W1.cell? ⟨b10, 1, none⟩ = some (.int .i64 o.n) ∧ W1.cell? ⟨w.heap.size + 1, 3, none⟩ = some (.int .i64 q3)) → Below W1.heap.size W1 w2 → (w2.cell? ⟨b9, 0, none⟩ = some (.int .i64 d.nd) ∧ w2.cell? ⟨b9, 1, none⟩ = some (.int .i64 d.n) ∧ w2.cell? ⟨b10, 0, none⟩ = some (.int .i64 o.nd) ∧ w2.cell? ⟨b10, 1, none⟩ = some (.int .i64 o.n) ∧ w2.cell? ⟨w.heap.size + 1, 3, none⟩ = some (.int .i64 q3)) from fun W1 w2 h hb => by
          obtain ⟨h1, h2, h3, h4, h5⟩ := h
          exact ⟨(hb.cell (p := ⟨b9, 0, none⟩) (World.block_lt_of_cell? W1 _ h1)).trans h1, (hb.cell (p := ⟨b9, 1, none⟩) (World.block_lt_of_cell? W1 _ h2)).trans h2, (hb.cell (p := ⟨b10, 0, none⟩) (World.block_lt_of_cell? W1 _ h3)).trans h3, (hb.cell (p := ⟨b10, 1, none⟩) (World.block_lt_of_cell? W1 _ h4)).trans h4, (hb.cell (p := ⟨w.heap.size + 1, 3, none⟩) (World.block_lt_of_cell? W1 _ h5)).trans h5⟩)
      have l9 := Blk.lt S8.out.d9
      have l10 := Blk.lt S8.out.d10
      have l5 := Blk.lt S8.out.f5
      have HK4 := Lib.hid (show ∀ (W1 : World) (g : Nat) (x y z u : Value), (W1.cell? ⟨b9, 0, none⟩ = some (.int .i64 d.nd) ∧ W1.cell? ⟨b9, 1, none⟩ = some (.int .i64 d.n) ∧ W1.cell? ⟨b10, 0, none⟩ = some (.int .i64 o.nd) ∧ W1.cell? ⟨b10, 1, none⟩ = some (.int .i64 o.n) ∧ W1.cell? ⟨w.heap.size + 1, 3, none⟩ = some (.int .i64 q3)) → W8.heap.size ≤ g → (((((W1.setCell ⟨g, 0, none⟩ x).setCell ⟨g, 1, none⟩ y).setCell ⟨g, 2, none⟩ z).setCell ⟨g, 3, none⟩ u).cell? ⟨b9, 0, none⟩ = some (.int .i64 d.nd) ∧ ((((W1.setCell ⟨g, 0, none⟩ x).setCell ⟨g, 1, none⟩ y).setCell ⟨g, 2, none⟩ z).setCell ⟨g, 3, none⟩ u).cell? ⟨b9, 1, none⟩ = some (.int .i64 d.n) ∧ ((((W1.setCell ⟨g, 0, none⟩ x).setCell ⟨g, 1, none⟩ y).setCell ⟨g, 2, none⟩ z).setCell ⟨g, 3, none⟩ u).cell? ⟨b10, 0, none⟩ = some (.int .i64 o.nd) ∧ ((((W1.setCell ⟨g, 0, none⟩ x).setCell ⟨g, 1, none⟩ y).setCell ⟨g, 2, none⟩ z).setCell ⟨g, 3, none⟩ u).cell? ⟨b10, 1, none⟩ = some (.int .i64 o.n) ∧ ((((W1.setCell ⟨g, 0, none⟩ x).setCell ⟨g, 1, none⟩ y).setCell ⟨g, 2, none⟩ z).setCell ⟨g, 3, none⟩ u).cell? ⟨w.heap.size + 1, 3, none⟩ = some (.int .i64 q3)) from fun W1 g x y z u h hg => by
          obtain ⟨h1, h2, h3, h4, h5⟩ := h
          have hO := only4 W1 g x y z u
          have key : ∀ (b i : Nat) (v : Value), b ≠ g → W1.cell? ⟨b, i, none⟩ = some v → ((((W1.setCell ⟨g, 0, none⟩ x).setCell ⟨g, 1, none⟩ y).setCell ⟨g, 2, none⟩ z).setCell ⟨g, 3, none⟩ u).cell? ⟨b, i, none⟩ = some v := fun b i v hne hv => by
            rw [World.cell?_of_block (w := W1) (hO.block b (World.block_lt_of_cell? W1 _ hv) (by simpa using hne))]; exact hv
          exact ⟨key _ _ _ (by omega) h1, key _ _ _ (by omega) h2, key _ _ _ (by omega) h3, key _ _ _ (by omega) h4, key _ _ _ (by omega) h5⟩)
      have MB := Lib.hid (show Sl W8.drew 4 A m.length (hcells m) from S8.out.acc.sl)
      have MD := Lib.hid (show Sl (W8.alloc (.cells #[.int .i64 0, .int .i64 0, .int .i64 0, .int .i64 0] 30)).drew 4 A m.length (hcells m) from (show Sl (W8.alloc (.cells #[.int .i64 0, .int .i64 0, .int .i64 0, .int .i64 0] 30)) 4 A m.length (hcells m) from (show Sl W8 4 A m.length (hcells m) from MB.out).below ((Below.refl _ _).alloc (Nat.le_refl _) _)))
      have SD := Lib.hid (show ((W8.alloc (.cells #[.int .i64 0, .int .i64 0, .int .i64 0, .int .i64 0] 30)).drew.cell? ⟨b9, 0, none⟩ = some (.int .i64 d.nd) ∧ (W8.alloc (.cells #[.int .i64 0, .int .i64 0, .int .i64 0, .int .i64 0] 30)).drew.cell? ⟨b9, 1, none⟩ = some (.int .i64 d.n) ∧ (W8.alloc (.cells #[.int .i64 0, .int .i64 0, .int .i64 0, .int .i64 0] 30)).drew.cell? ⟨b10, 0, none⟩ = some (.int .i64 o.nd) ∧ (W8.alloc (.cells #[.int .i64 0, .int .i64 0, .int .i64 0, .int .i64 0] 30)).drew.cell? ⟨b10, 1, none⟩ = some (.int .i64 o.n) ∧ (W8.alloc (.cells #[.int .i64 0, .int .i64 0, .int .i64 0, .int .i64 0] 30)).drew.cell? ⟨w.heap.size + 1, 3, none⟩ = some (.int .i64 q3)) from (show ((W8.alloc (.cells #[.int .i64 0, .int .i64 0, .int .i64 0, .int .i64 0] 30)).cell? ⟨b9, 0, none⟩ = some (.int .i64 d.nd) ∧ (W8.alloc (.cells #[.int .i64 0, .int .i64 0, .int .i64 0, .int .i64 0] 30)).cell? ⟨b9, 1, none⟩ = some (.int .i64 d.n) ∧ (W8.alloc (.cells #[.int .i64 0, .int .i64 0, .int .i64 0, .int .i64 0] 30)).cell? ⟨b10, 0, none⟩ = some (.int .i64 o.nd) ∧ (W8.alloc (.cells #[.int .i64 0, .int .i64 0, .int .i64 0, .int .i64 0] 30)).cell? ⟨b10, 1, none⟩ = some (.int .i64 o.n) ∧ (W8.alloc (.cells #[.int .i64 0, .int .i64 0, .int .i64 0, .int .i64 0] 30)).cell? ⟨w.heap.size + 1, 3, none⟩ = some (.int .i64 q3)) from HKp.out W8 (W8.alloc (.cells #[.int .i64 0, .int .i64 0, .int .i64 0, .int .i64 0] 30)) ⟨x0, x1, y0, y1, f3⟩ ((Below.refl _ _).alloc (Nat.le_refl _) _)))
      have ZD := Lib.hid (show Blk (W8.alloc (.cells #[.int .i64 0, .int .i64 0, .int .i64 0, .int .i64 0] 30)).drew W8.heap.size 30 #[.int .i64 0, .int .i64 0, .int .i64 0, .int .i64 0] from Blk.new W8 30 #[.int .i64 0, .int .i64 0, .int .i64 0, .int .i64 0])
      go_cut [19, 20] from 94 to 105 (fun s1 s2 wx => Aft w m A c b9 b10 (w.heap.size + 1) d o q0 q1 q2 q3 b11 T Bo [(b11, T)] s1 s2 wx)
      case first =>
        go_region_held3 (fun w' => w'.cell? ⟨b9, 0, none⟩ = some (.int .i64 d.nd) ∧ w'.cell? ⟨b9, 1, none⟩ = some (.int .i64 d.n) ∧ w'.cell? ⟨b10, 0, none⟩ = some (.int .i64 o.nd) ∧ w'.cell? ⟨b10, 1, none⟩ = some (.int .i64 o.n) ∧ w'.cell? ⟨w.heap.size + 1, 3, none⟩ = some (.int .i64 q3))
          (first
            | with_reducible exact ⟨x0, x1, y0, y1, f3⟩
            | with_reducible exact SD.out
            | with_reducible exact HKp.out W8.drew _ ⟨x0, x1, y0, y1, f3⟩ hb1
            | with_reducible exact HKp.out _ _ SD.out hb1
            | with_reducible exact HKp.out _ _ (HKp.out W8.drew _ ⟨x0, x1, y0, y1, f3⟩ hb1) hb2
            | with_reducible exact HKp.out _ _ (HKp.out _ _ SD.out hb1) hb2
            | with_reducible exact HKp.out _ _ (HKp.out _ _ (HKp.out W8.drew _ ⟨x0, x1, y0, y1, f3⟩ hb1) hb2) ((Below.refl _ _).alloc (Nat.le_refl _) _)
            | with_reducible exact HKp.out _ _ (HKp.out W8.drew _ ⟨x0, x1, y0, y1, f3⟩ hb1) ((Below.refl _ _).alloc (Nat.le_refl _) _)
            | with_reducible exact HKp.out _ _ (HKp.out _ _ (HKp.out W8.drew _ ⟨x0, x1, y0, y1, f3⟩ hb1) ((Below.refl _ _).alloc (Nat.le_refl _) _)) hb2
            | exact HK4.out _ _ _ _ _ _ (by assumption) (by first | omega | exact Nat.le_refl _))
          (first
            | (go_at_call 13; go_must (refine (free_any A c m d (1 + bit q3 3) _ (by first | with_reducible exact MB.out | with_reducible exact MD.out) (by omega)).mono ?_; rintro e w9 ht; obtain ⟨A9, c9, rfl, hs9, hb1⟩ := HoldRet.sl ht; have hlt9 : W8.heap.size ≤ w9.heap.size := Nat.le_trans (by first | exact Nat.le_refl _ | (simp only [World.size_alloc, World.size_drew]; omega)) hb1.size; (first | (have hz : Blk w9 W8.heap.size 30 #[.int .i64 0, .int .i64 0, .int .i64 0, .int .i64 0] := by with_reducible exact ZD.out.below hb1) | skip)))
            | (go_at_call 11; go_must (refine (Find_any A9 c9 (freeL m d (1 + bit q3 3)) o _ (by first | with_reducible exact hs9 | with_reducible exact hs9.below ((Below.refl _ _).alloc (Nat.le_refl _) _)) (by omega)).mono ?_; rw [FF.out]; rintro e w10 ⟨rfl, hb2⟩; rw [HT.out, HB.out]; (first | (have hz2 : Blk w10 w9.heap.size 30 #[.int .i64 0, .int .i64 0, .int .i64 0, .int .i64 0] := (by with_reducible exact (Blk.new w9 30 #[.int .i64 0, .int .i64 0, .int .i64 0, .int .i64 0]).below hb2); obtain ⟨z0, z1, z2, z3⟩ := hz2.four; have hzf := fun j => hz2.frozen j) | (have hz2 : Blk w10 W8.heap.size 30 #[.int .i64 0, .int .i64 0, .int .i64 0, .int .i64 0] := (by with_reducible exact hz.below hb2); obtain ⟨z0, z1, z2, z3⟩ := hz2.four; have hzf := fun j => hz2.frozen j) | skip))))
        all_goals go_wp2_with fail
        all_goals go_meet
        all_goals (clear x0 x1 y0 y1 f3)
        · exact aft_last S8.out L8.out (((Below.refl W8.heap.size W8).drew.trans hb1).trans (hb2.mono hlt9))
        · exact aft_put S8.out L8.out ((((Below.refl W8.heap.size W8).drew.trans hb1).alloc hlt9 _).trans (hb2.mono (by rw [World.size_alloc]; omega))) hlt9 hz2
        · exact aft_put S8.out L8.out ((((Below.refl W8.heap.size W8).alloc (Nat.le_refl _) _).drew.trans (hb1.mono (by simp only [World.size_alloc, World.size_drew]; omega))).trans (hb2.mono hlt9)) (Nat.le_refl _) hz2
      case rest =>
        obtain ⟨b19, rfl, rfl, hS, hR, hL⟩ := hcut
        clear L8 HKp HK4 MB MD SD ZD x0 x1 y0 y1 f3 l9 l10 l5
        have SC := Lib.hid hS
        have LC := Lib.hid (all_cons hR hL)
        clear hS hR hL
        obtain ⟨V2, hV2⟩ : ∃ V2, wc = V2 := ⟨_, rfl⟩
        subst hV2
        go_wp2_with fail
        obtain ⟨x0, x1⟩ : wc.drew.cell? ⟨b9, 0, none⟩ = some (.int .i64 d.nd) ∧ wc.drew.cell? ⟨b9, 1, none⟩ = some (.int .i64 d.n) := SC.out.d9.cells
        obtain ⟨y0, y1⟩ : wc.drew.cell? ⟨b10, 0, none⟩ = some (.int .i64 o.nd) ∧ wc.drew.cell? ⟨b10, 1, none⟩ = some (.int .i64 o.n) := SC.out.d10.cells
        have f3 : wc.drew.cell? ⟨w.heap.size + 1, 3, none⟩ = some (.int .i64 q3) := SC.out.f5.four.2.2.2
        have HKp := Lib.hid (show ∀ W1 w2 : World, (W1.cell? ⟨b9, 0, none⟩ = some (.int .i64 d.nd) ∧ W1.cell? ⟨b9, 1, none⟩ = some (.int .i64 d.n) ∧ W1.cell? ⟨b10, 0, none⟩ = some (.int .i64 o.nd) ∧ W1.cell? ⟨b10, 1, none⟩ = some (.int .i64 o.n) ∧ W1.cell? ⟨w.heap.size + 1, 3, none⟩ = some (.int .i64 q3)) → Below W1.heap.size W1 w2 → (w2.cell? ⟨b9, 0, none⟩ = some (.int .i64 d.nd) ∧ w2.cell? ⟨b9, 1, none⟩ = some (.int .i64 d.n) ∧ w2.cell? ⟨b10, 0, none⟩ = some (.int .i64 o.nd) ∧ w2.cell? ⟨b10, 1, none⟩ = some (.int .i64 o.n) ∧ w2.cell? ⟨w.heap.size + 1, 3, none⟩ = some (.int .i64 q3)) from fun W1 w2 h hb => by
            obtain ⟨h1, h2, h3, h4, h5⟩ := h
            exact ⟨(hb.cell (p := ⟨b9, 0, none⟩) (World.block_lt_of_cell? W1 _ h1)).trans h1, (hb.cell (p := ⟨b9, 1, none⟩) (World.block_lt_of_cell? W1 _ h2)).trans h2, (hb.cell (p := ⟨b10, 0, none⟩) (World.block_lt_of_cell? W1 _ h3)).trans h3, (hb.cell (p := ⟨b10, 1, none⟩) (World.block_lt_of_cell? W1 _ h4)).trans h4, (hb.cell (p := ⟨w.heap.size + 1, 3, none⟩) (World.block_lt_of_cell? W1 _ h5)).trans h5⟩)
        have l9 := Blk.lt SC.out.d9
        have l10 := Blk.lt SC.out.d10
        have l5 := Blk.lt SC.out.f5
        have HK4 := Lib.hid (show ∀ (W1 : World) (g : Nat) (x y z u : Value), (W1.cell? ⟨b9, 0, none⟩ = some (.int .i64 d.nd) ∧ W1.cell? ⟨b9, 1, none⟩ = some (.int .i64 d.n) ∧ W1.cell? ⟨b10, 0, none⟩ = some (.int .i64 o.nd) ∧ W1.cell? ⟨b10, 1, none⟩ = some (.int .i64 o.n) ∧ W1.cell? ⟨w.heap.size + 1, 3, none⟩ = some (.int .i64 q3)) → wc.heap.size ≤ g → (((((W1.setCell ⟨g, 0, none⟩ x).setCell ⟨g, 1, none⟩ y).setCell ⟨g, 2, none⟩ z).setCell ⟨g, 3, none⟩ u).cell? ⟨b9, 0, none⟩ = some (.int .i64 d.nd) ∧ ((((W1.setCell ⟨g, 0, none⟩ x).setCell ⟨g, 1, none⟩ y).setCell ⟨g, 2, none⟩ z).setCell ⟨g, 3, none⟩ u).cell? ⟨b9, 1, none⟩ = some (.int .i64 d.n) ∧ ((((W1.setCell ⟨g, 0, none⟩ x).setCell ⟨g, 1, none⟩ y).setCell ⟨g, 2, none⟩ z).setCell ⟨g, 3, none⟩ u).cell? ⟨b10, 0, none⟩ = some (.int .i64 o.nd) ∧ ((((W1.setCell ⟨g, 0, none⟩ x).setCell ⟨g, 1, none⟩ y).setCell ⟨g, 2, none⟩ z).setCell ⟨g, 3, none⟩ u).cell? ⟨b10, 1, none⟩ = some (.int .i64 o.n) ∧ ((((W1.setCell ⟨g, 0, none⟩ x).setCell ⟨g, 1, none⟩ y).setCell ⟨g, 2, none⟩ z).setCell ⟨g, 3, none⟩ u).cell? ⟨w.heap.size + 1, 3, none⟩ = some (.int .i64 q3)) from fun W1 g x y z u h hg => by
            obtain ⟨h1, h2, h3, h4, h5⟩ := h
            have hO := only4 W1 g x y z u
            have key : ∀ (b i : Nat) (v : Value), b ≠ g → W1.cell? ⟨b, i, none⟩ = some v → ((((W1.setCell ⟨g, 0, none⟩ x).setCell ⟨g, 1, none⟩ y).setCell ⟨g, 2, none⟩ z).setCell ⟨g, 3, none⟩ u).cell? ⟨b, i, none⟩ = some v := fun b i v hne hv => by
              rw [World.cell?_of_block (w := W1) (hO.block b (World.block_lt_of_cell? W1 _ hv) (by simpa using hne))]; exact hv
            exact ⟨key _ _ _ (by omega) h1, key _ _ _ (by omega) h2, key _ _ _ (by omega) h3, key _ _ _ (by omega) h4, key _ _ _ (by omega) h5⟩)
        have MB := Lib.hid (show Sl wc.drew 4 A m.length (hcells m) from SC.out.acc.sl)
        have MD := Lib.hid (show Sl (wc.alloc (.cells #[.int .i64 0, .int .i64 0, .int .i64 0, .int .i64 0] 30)).drew 4 A m.length (hcells m) from (show Sl (wc.alloc (.cells #[.int .i64 0, .int .i64 0, .int .i64 0, .int .i64 0] 30)) 4 A m.length (hcells m) from (show Sl wc 4 A m.length (hcells m) from MB.out).below ((Below.refl _ _).alloc (Nat.le_refl _) _)))
        have SD := Lib.hid (show ((wc.alloc (.cells #[.int .i64 0, .int .i64 0, .int .i64 0, .int .i64 0] 30)).drew.cell? ⟨b9, 0, none⟩ = some (.int .i64 d.nd) ∧ (wc.alloc (.cells #[.int .i64 0, .int .i64 0, .int .i64 0, .int .i64 0] 30)).drew.cell? ⟨b9, 1, none⟩ = some (.int .i64 d.n) ∧ (wc.alloc (.cells #[.int .i64 0, .int .i64 0, .int .i64 0, .int .i64 0] 30)).drew.cell? ⟨b10, 0, none⟩ = some (.int .i64 o.nd) ∧ (wc.alloc (.cells #[.int .i64 0, .int .i64 0, .int .i64 0, .int .i64 0] 30)).drew.cell? ⟨b10, 1, none⟩ = some (.int .i64 o.n) ∧ (wc.alloc (.cells #[.int .i64 0, .int .i64 0, .int .i64 0, .int .i64 0] 30)).drew.cell? ⟨w.heap.size + 1, 3, none⟩ = some (.int .i64 q3)) from (show ((wc.alloc (.cells #[.int .i64 0, .int .i64 0, .int .i64 0, .int .i64 0] 30)).cell? ⟨b9, 0, none⟩ = some (.int .i64 d.nd) ∧ (wc.alloc (.cells #[.int .i64 0, .int .i64 0, .int .i64 0, .int .i64 0] 30)).cell? ⟨b9, 1, none⟩ = some (.int .i64 d.n) ∧ (wc.alloc (.cells #[.int .i64 0, .int .i64 0, .int .i64 0, .int .i64 0] 30)).cell? ⟨b10, 0, none⟩ = some (.int .i64 o.nd) ∧ (wc.alloc (.cells #[.int .i64 0, .int .i64 0, .int .i64 0, .int .i64 0] 30)).cell? ⟨b10, 1, none⟩ = some (.int .i64 o.n) ∧ (wc.alloc (.cells #[.int .i64 0, .int .i64 0, .int .i64 0, .int .i64 0] 30)).cell? ⟨w.heap.size + 1, 3, none⟩ = some (.int .i64 q3)) from HKp.out wc (wc.alloc (.cells #[.int .i64 0, .int .i64 0, .int .i64 0, .int .i64 0] 30)) ⟨x0, x1, y0, y1, f3⟩ ((Below.refl _ _).alloc (Nat.le_refl _) _)))
        have ZD := Lib.hid (show Blk (wc.alloc (.cells #[.int .i64 0, .int .i64 0, .int .i64 0, .int .i64 0] 30)).drew wc.heap.size 30 #[.int .i64 0, .int .i64 0, .int .i64 0, .int .i64 0] from Blk.new wc 30 #[.int .i64 0, .int .i64 0, .int .i64 0, .int .i64 0])
        go_cut [21, 22] from 106 to 113 (fun s1 s2 wx => Aft w m A c b9 b10 (w.heap.size + 1) d o q0 q1 q2 q3 b11 T Bo [(b19, T), (b11, T)] s1 s2 wx)
        case first =>
          go_region_held3 (fun w' => w'.cell? ⟨b9, 0, none⟩ = some (.int .i64 d.nd) ∧ w'.cell? ⟨b9, 1, none⟩ = some (.int .i64 d.n) ∧ w'.cell? ⟨b10, 0, none⟩ = some (.int .i64 o.nd) ∧ w'.cell? ⟨b10, 1, none⟩ = some (.int .i64 o.n) ∧ w'.cell? ⟨w.heap.size + 1, 3, none⟩ = some (.int .i64 q3))
            (first
              | with_reducible exact ⟨x0, x1, y0, y1, f3⟩
              | with_reducible exact SD.out
              | with_reducible exact HKp.out wc.drew _ ⟨x0, x1, y0, y1, f3⟩ hb1
              | with_reducible exact HKp.out _ _ SD.out hb1
              | with_reducible exact HKp.out _ _ (HKp.out wc.drew _ ⟨x0, x1, y0, y1, f3⟩ hb1) hb2
              | with_reducible exact HKp.out _ _ (HKp.out _ _ SD.out hb1) hb2
              | with_reducible exact HKp.out _ _ (HKp.out _ _ (HKp.out wc.drew _ ⟨x0, x1, y0, y1, f3⟩ hb1) hb2) ((Below.refl _ _).alloc (Nat.le_refl _) _)
              | with_reducible exact HKp.out _ _ (HKp.out wc.drew _ ⟨x0, x1, y0, y1, f3⟩ hb1) ((Below.refl _ _).alloc (Nat.le_refl _) _)
              | with_reducible exact HKp.out _ _ (HKp.out _ _ (HKp.out wc.drew _ ⟨x0, x1, y0, y1, f3⟩ hb1) ((Below.refl _ _).alloc (Nat.le_refl _) _)) hb2
              | exact HK4.out _ _ _ _ _ _ (by assumption) (by first | omega | exact Nat.le_refl _))
            (first
              | (go_at_call 14; go_must (refine (gone_any A c m d _ (by first | with_reducible exact MB.out | with_reducible exact MD.out) (by omega)).mono ?_; rintro e w9 ht; obtain ⟨A9, c9, rfl, hs9, hb1⟩ := HoldRet.sl ht; have hlt9 : wc.heap.size ≤ w9.heap.size := Nat.le_trans (by first | exact Nat.le_refl _ | (simp only [World.size_alloc, World.size_drew]; omega)) hb1.size; (first | (have hz : Blk w9 wc.heap.size 30 #[.int .i64 0, .int .i64 0, .int .i64 0, .int .i64 0] := by with_reducible exact ZD.out.below hb1) | skip)))
              | (go_at_call 11; go_must (refine (Find_any A9 c9 (goneL m d) o _ (by first | with_reducible exact hs9 | with_reducible exact hs9.below ((Below.refl _ _).alloc (Nat.le_refl _) _)) (by omega)).mono ?_; rw [FO.out]; rintro e w10 ⟨rfl, hb2⟩; rw [HT.out, HB.out]; (first | (have hz2 : Blk w10 w9.heap.size 30 #[.int .i64 0, .int .i64 0, .int .i64 0, .int .i64 0] := (by with_reducible exact (Blk.new w9 30 #[.int .i64 0, .int .i64 0, .int .i64 0, .int .i64 0]).below hb2); obtain ⟨z0, z1, z2, z3⟩ := hz2.four; have hzf := fun j => hz2.frozen j) | (have hz2 : Blk w10 wc.heap.size 30 #[.int .i64 0, .int .i64 0, .int .i64 0, .int .i64 0] := (by with_reducible exact hz.below hb2); obtain ⟨z0, z1, z2, z3⟩ := hz2.four; have hzf := fun j => hz2.frozen j) | skip))))
          all_goals go_wp2_with fail
          all_goals go_meet
          all_goals (clear x0 x1 y0 y1 f3)
          · exact aft_last SC.out LC.out (((Below.refl wc.heap.size wc).drew.trans hb1).trans (hb2.mono hlt9))
          · exact aft_put SC.out LC.out ((((Below.refl wc.heap.size wc).drew.trans hb1).alloc hlt9 _).trans (hb2.mono (by rw [World.size_alloc]; omega))) hlt9 hz2
          · exact aft_put SC.out LC.out ((((Below.refl wc.heap.size wc).alloc (Nat.le_refl _) _).drew.trans (hb1.mono (by simp only [World.size_alloc, World.size_drew]; omega))).trans (hb2.mono hlt9)) (Nat.le_refl _) hz2
        case rest =>
          obtain ⟨b21, rfl, rfl, hS, hR, hL⟩ := hcut
          obtain ⟨s0, s1, s2, s3⟩ := (hL (b19, T) (by simp)).cells
          obtain ⟨t0, t1, t2, t3⟩ := (hL (b11, T) (by simp)).cells
          obtain ⟨u0, u1, u2, u3⟩ := hR.cells
          have hend := hS.acc.2
          have hqS := fun W => eql_hold T T W
          have hgS := fun op x y W => eqGuard_hold op x y T T W
          rw [decide_eq_true rfl] at hqS
          clear hS hR hL SC LC HKp HK4 MB MD SD ZD
          go_wp2_with fail
          go_ret
          exact ⟨by simp, hend⟩
    · rw [g1]
      clear g1 FG
      generalize grantC m (bit q2 127) d (1 + bit q3 3) 200 = n at N6 ⊢
      go_wp2_with fail
      have hw4 : IntKind.i64.wrap (1 + bits .and .i64 q3 3) = 1 + bit q3 3 := IntWalk.i64_in (1 + bit q3 3) (by omega)
      have L8 := Lib.hid (all_cons T6.out (all_nil w6))
      obtain ⟨x0, x1⟩ : w6.drew.cell? ⟨b9, 0, none⟩ = some (.int .i64 d.nd) ∧ w6.drew.cell? ⟨b9, 1, none⟩ = some (.int .i64 d.n) := S6.out.d9.cells
      obtain ⟨y0, y1⟩ : w6.drew.cell? ⟨b10, 0, none⟩ = some (.int .i64 o.nd) ∧ w6.drew.cell? ⟨b10, 1, none⟩ = some (.int .i64 o.n) := S6.out.d10.cells
      have f3 : w6.drew.cell? ⟨w.heap.size + 1, 3, none⟩ = some (.int .i64 q3) := S6.out.f5.four.2.2.2
      have HKp := Lib.hid (show ∀ W1 w2 : World, (W1.cell? ⟨b9, 0, none⟩ = some (.int .i64 d.nd) ∧ W1.cell? ⟨b9, 1, none⟩ = some (.int .i64 d.n) ∧ W1.cell? ⟨b10, 0, none⟩ = some (.int .i64 o.nd) ∧ W1.cell? ⟨b10, 1, none⟩ = some (.int .i64 o.n) ∧ W1.cell? ⟨w.heap.size + 1, 3, none⟩ = some (.int .i64 q3)) → Below W1.heap.size W1 w2 → (w2.cell? ⟨b9, 0, none⟩ = some (.int .i64 d.nd) ∧ w2.cell? ⟨b9, 1, none⟩ = some (.int .i64 d.n) ∧ w2.cell? ⟨b10, 0, none⟩ = some (.int .i64 o.nd) ∧ w2.cell? ⟨b10, 1, none⟩ = some (.int .i64 o.n) ∧ w2.cell? ⟨w.heap.size + 1, 3, none⟩ = some (.int .i64 q3)) from fun W1 w2 h hb => by
          obtain ⟨h1, h2, h3, h4, h5⟩ := h
          exact ⟨(hb.cell (p := ⟨b9, 0, none⟩) (World.block_lt_of_cell? W1 _ h1)).trans h1, (hb.cell (p := ⟨b9, 1, none⟩) (World.block_lt_of_cell? W1 _ h2)).trans h2, (hb.cell (p := ⟨b10, 0, none⟩) (World.block_lt_of_cell? W1 _ h3)).trans h3, (hb.cell (p := ⟨b10, 1, none⟩) (World.block_lt_of_cell? W1 _ h4)).trans h4, (hb.cell (p := ⟨w.heap.size + 1, 3, none⟩) (World.block_lt_of_cell? W1 _ h5)).trans h5⟩)
      have l9 := Blk.lt S6.out.d9
      have l10 := Blk.lt S6.out.d10
      have l5 := Blk.lt S6.out.f5
      have HK4 := Lib.hid (show ∀ (W1 : World) (g : Nat) (x y z u : Value), (W1.cell? ⟨b9, 0, none⟩ = some (.int .i64 d.nd) ∧ W1.cell? ⟨b9, 1, none⟩ = some (.int .i64 d.n) ∧ W1.cell? ⟨b10, 0, none⟩ = some (.int .i64 o.nd) ∧ W1.cell? ⟨b10, 1, none⟩ = some (.int .i64 o.n) ∧ W1.cell? ⟨w.heap.size + 1, 3, none⟩ = some (.int .i64 q3)) → w6.heap.size ≤ g → (((((W1.setCell ⟨g, 0, none⟩ x).setCell ⟨g, 1, none⟩ y).setCell ⟨g, 2, none⟩ z).setCell ⟨g, 3, none⟩ u).cell? ⟨b9, 0, none⟩ = some (.int .i64 d.nd) ∧ ((((W1.setCell ⟨g, 0, none⟩ x).setCell ⟨g, 1, none⟩ y).setCell ⟨g, 2, none⟩ z).setCell ⟨g, 3, none⟩ u).cell? ⟨b9, 1, none⟩ = some (.int .i64 d.n) ∧ ((((W1.setCell ⟨g, 0, none⟩ x).setCell ⟨g, 1, none⟩ y).setCell ⟨g, 2, none⟩ z).setCell ⟨g, 3, none⟩ u).cell? ⟨b10, 0, none⟩ = some (.int .i64 o.nd) ∧ ((((W1.setCell ⟨g, 0, none⟩ x).setCell ⟨g, 1, none⟩ y).setCell ⟨g, 2, none⟩ z).setCell ⟨g, 3, none⟩ u).cell? ⟨b10, 1, none⟩ = some (.int .i64 o.n) ∧ ((((W1.setCell ⟨g, 0, none⟩ x).setCell ⟨g, 1, none⟩ y).setCell ⟨g, 2, none⟩ z).setCell ⟨g, 3, none⟩ u).cell? ⟨w.heap.size + 1, 3, none⟩ = some (.int .i64 q3)) from fun W1 g x y z u h hg => by
          obtain ⟨h1, h2, h3, h4, h5⟩ := h
          have hO := only4 W1 g x y z u
          have key : ∀ (b i : Nat) (v : Value), b ≠ g → W1.cell? ⟨b, i, none⟩ = some v → ((((W1.setCell ⟨g, 0, none⟩ x).setCell ⟨g, 1, none⟩ y).setCell ⟨g, 2, none⟩ z).setCell ⟨g, 3, none⟩ u).cell? ⟨b, i, none⟩ = some v := fun b i v hne hv => by
            rw [World.cell?_of_block (w := W1) (hO.block b (World.block_lt_of_cell? W1 _ hv) (by simpa using hne))]; exact hv
          exact ⟨key _ _ _ (by omega) h1, key _ _ _ (by omega) h2, key _ _ _ (by omega) h3, key _ _ _ (by omega) h4, key _ _ _ (by omega) h5⟩)
      have MB := Lib.hid (show Sl w6.drew 4 A m.length (hcells m) from S6.out.acc.sl)
      have MD := Lib.hid (show Sl (w6.alloc (.cells #[.int .i64 0, .int .i64 0, .int .i64 0, .int .i64 0] 30)).drew 4 A m.length (hcells m) from (show Sl (w6.alloc (.cells #[.int .i64 0, .int .i64 0, .int .i64 0, .int .i64 0] 30)) 4 A m.length (hcells m) from (show Sl w6 4 A m.length (hcells m) from MB.out).below ((Below.refl _ _).alloc (Nat.le_refl _) _)))
      have SD := Lib.hid (show ((w6.alloc (.cells #[.int .i64 0, .int .i64 0, .int .i64 0, .int .i64 0] 30)).drew.cell? ⟨b9, 0, none⟩ = some (.int .i64 d.nd) ∧ (w6.alloc (.cells #[.int .i64 0, .int .i64 0, .int .i64 0, .int .i64 0] 30)).drew.cell? ⟨b9, 1, none⟩ = some (.int .i64 d.n) ∧ (w6.alloc (.cells #[.int .i64 0, .int .i64 0, .int .i64 0, .int .i64 0] 30)).drew.cell? ⟨b10, 0, none⟩ = some (.int .i64 o.nd) ∧ (w6.alloc (.cells #[.int .i64 0, .int .i64 0, .int .i64 0, .int .i64 0] 30)).drew.cell? ⟨b10, 1, none⟩ = some (.int .i64 o.n) ∧ (w6.alloc (.cells #[.int .i64 0, .int .i64 0, .int .i64 0, .int .i64 0] 30)).drew.cell? ⟨w.heap.size + 1, 3, none⟩ = some (.int .i64 q3)) from (show ((w6.alloc (.cells #[.int .i64 0, .int .i64 0, .int .i64 0, .int .i64 0] 30)).cell? ⟨b9, 0, none⟩ = some (.int .i64 d.nd) ∧ (w6.alloc (.cells #[.int .i64 0, .int .i64 0, .int .i64 0, .int .i64 0] 30)).cell? ⟨b9, 1, none⟩ = some (.int .i64 d.n) ∧ (w6.alloc (.cells #[.int .i64 0, .int .i64 0, .int .i64 0, .int .i64 0] 30)).cell? ⟨b10, 0, none⟩ = some (.int .i64 o.nd) ∧ (w6.alloc (.cells #[.int .i64 0, .int .i64 0, .int .i64 0, .int .i64 0] 30)).cell? ⟨b10, 1, none⟩ = some (.int .i64 o.n) ∧ (w6.alloc (.cells #[.int .i64 0, .int .i64 0, .int .i64 0, .int .i64 0] 30)).cell? ⟨w.heap.size + 1, 3, none⟩ = some (.int .i64 q3)) from HKp.out w6 (w6.alloc (.cells #[.int .i64 0, .int .i64 0, .int .i64 0, .int .i64 0] 30)) ⟨x0, x1, y0, y1, f3⟩ ((Below.refl _ _).alloc (Nat.le_refl _) _)))
      have ZD := Lib.hid (show Blk (w6.alloc (.cells #[.int .i64 0, .int .i64 0, .int .i64 0, .int .i64 0] 30)).drew w6.heap.size 30 #[.int .i64 0, .int .i64 0, .int .i64 0, .int .i64 0] from Blk.new w6 30 #[.int .i64 0, .int .i64 0, .int .i64 0, .int .i64 0])
      go_cut [19, 20] from 94 to 105 (fun s1 s2 wx => Aft w m A c b9 b10 (w.heap.size + 1) d o q0 q1 q2 q3 b11 T Bo [(b11, T)] s1 s2 wx)
      case first =>
        go_region_held3 (fun w' => w'.cell? ⟨b9, 0, none⟩ = some (.int .i64 d.nd) ∧ w'.cell? ⟨b9, 1, none⟩ = some (.int .i64 d.n) ∧ w'.cell? ⟨b10, 0, none⟩ = some (.int .i64 o.nd) ∧ w'.cell? ⟨b10, 1, none⟩ = some (.int .i64 o.n) ∧ w'.cell? ⟨w.heap.size + 1, 3, none⟩ = some (.int .i64 q3))
          (first
            | with_reducible exact ⟨x0, x1, y0, y1, f3⟩
            | with_reducible exact SD.out
            | with_reducible exact HKp.out w6.drew _ ⟨x0, x1, y0, y1, f3⟩ hb1
            | with_reducible exact HKp.out _ _ SD.out hb1
            | with_reducible exact HKp.out _ _ (HKp.out w6.drew _ ⟨x0, x1, y0, y1, f3⟩ hb1) hb2
            | with_reducible exact HKp.out _ _ (HKp.out _ _ SD.out hb1) hb2
            | with_reducible exact HKp.out _ _ (HKp.out _ _ (HKp.out w6.drew _ ⟨x0, x1, y0, y1, f3⟩ hb1) hb2) ((Below.refl _ _).alloc (Nat.le_refl _) _)
            | with_reducible exact HKp.out _ _ (HKp.out w6.drew _ ⟨x0, x1, y0, y1, f3⟩ hb1) ((Below.refl _ _).alloc (Nat.le_refl _) _)
            | with_reducible exact HKp.out _ _ (HKp.out _ _ (HKp.out w6.drew _ ⟨x0, x1, y0, y1, f3⟩ hb1) ((Below.refl _ _).alloc (Nat.le_refl _) _)) hb2
            | exact HK4.out _ _ _ _ _ _ (by assumption) (by first | omega | exact Nat.le_refl _))
          (first
            | (go_at_call 13; go_must (refine (free_any A c m d (1 + bit q3 3) _ (by first | with_reducible exact MB.out | with_reducible exact MD.out) (by omega)).mono ?_; rintro e w9 ht; obtain ⟨A9, c9, rfl, hs9, hb1⟩ := HoldRet.sl ht; have hlt9 : w6.heap.size ≤ w9.heap.size := Nat.le_trans (by first | exact Nat.le_refl _ | (simp only [World.size_alloc, World.size_drew]; omega)) hb1.size; (first | (have hz : Blk w9 w6.heap.size 30 #[.int .i64 0, .int .i64 0, .int .i64 0, .int .i64 0] := by with_reducible exact ZD.out.below hb1) | skip)))
            | (go_at_call 11; go_must (refine (Find_any A9 c9 (freeL m d (1 + bit q3 3)) o _ (by first | with_reducible exact hs9 | with_reducible exact hs9.below ((Below.refl _ _).alloc (Nat.le_refl _) _)) (by omega)).mono ?_; rw [FF.out]; rintro e w10 ⟨rfl, hb2⟩; rw [HT.out, HB.out]; (first | (have hz2 : Blk w10 w9.heap.size 30 #[.int .i64 0, .int .i64 0, .int .i64 0, .int .i64 0] := (by with_reducible exact (Blk.new w9 30 #[.int .i64 0, .int .i64 0, .int .i64 0, .int .i64 0]).below hb2); obtain ⟨z0, z1, z2, z3⟩ := hz2.four; have hzf := fun j => hz2.frozen j) | (have hz2 : Blk w10 w6.heap.size 30 #[.int .i64 0, .int .i64 0, .int .i64 0, .int .i64 0] := (by with_reducible exact hz.below hb2); obtain ⟨z0, z1, z2, z3⟩ := hz2.four; have hzf := fun j => hz2.frozen j) | skip))))
        all_goals go_wp2_with fail
        all_goals go_meet
        all_goals (clear x0 x1 y0 y1 f3)
        · exact aft_last S6.out L8.out (((Below.refl w6.heap.size w6).drew.trans hb1).trans (hb2.mono hlt9))
        · exact aft_put S6.out L8.out ((((Below.refl w6.heap.size w6).drew.trans hb1).alloc hlt9 _).trans (hb2.mono (by rw [World.size_alloc]; omega))) hlt9 hz2
        · exact aft_put S6.out L8.out ((((Below.refl w6.heap.size w6).alloc (Nat.le_refl _) _).drew.trans (hb1.mono (by simp only [World.size_alloc, World.size_drew]; omega))).trans (hb2.mono hlt9)) (Nat.le_refl _) hz2
      case rest =>
        obtain ⟨b19, rfl, rfl, hS, hR, hL⟩ := hcut
        clear L8 HKp HK4 MB MD SD ZD x0 x1 y0 y1 f3 l9 l10 l5
        have SC := Lib.hid hS
        have LC := Lib.hid (all_cons hR hL)
        clear hS hR hL
        obtain ⟨V2, hV2⟩ : ∃ V2, wc = V2 := ⟨_, rfl⟩
        subst hV2
        go_wp2_with fail
        obtain ⟨x0, x1⟩ : wc.drew.cell? ⟨b9, 0, none⟩ = some (.int .i64 d.nd) ∧ wc.drew.cell? ⟨b9, 1, none⟩ = some (.int .i64 d.n) := SC.out.d9.cells
        obtain ⟨y0, y1⟩ : wc.drew.cell? ⟨b10, 0, none⟩ = some (.int .i64 o.nd) ∧ wc.drew.cell? ⟨b10, 1, none⟩ = some (.int .i64 o.n) := SC.out.d10.cells
        have f3 : wc.drew.cell? ⟨w.heap.size + 1, 3, none⟩ = some (.int .i64 q3) := SC.out.f5.four.2.2.2
        have HKp := Lib.hid (show ∀ W1 w2 : World, (W1.cell? ⟨b9, 0, none⟩ = some (.int .i64 d.nd) ∧ W1.cell? ⟨b9, 1, none⟩ = some (.int .i64 d.n) ∧ W1.cell? ⟨b10, 0, none⟩ = some (.int .i64 o.nd) ∧ W1.cell? ⟨b10, 1, none⟩ = some (.int .i64 o.n) ∧ W1.cell? ⟨w.heap.size + 1, 3, none⟩ = some (.int .i64 q3)) → Below W1.heap.size W1 w2 → (w2.cell? ⟨b9, 0, none⟩ = some (.int .i64 d.nd) ∧ w2.cell? ⟨b9, 1, none⟩ = some (.int .i64 d.n) ∧ w2.cell? ⟨b10, 0, none⟩ = some (.int .i64 o.nd) ∧ w2.cell? ⟨b10, 1, none⟩ = some (.int .i64 o.n) ∧ w2.cell? ⟨w.heap.size + 1, 3, none⟩ = some (.int .i64 q3)) from fun W1 w2 h hb => by
            obtain ⟨h1, h2, h3, h4, h5⟩ := h
            exact ⟨(hb.cell (p := ⟨b9, 0, none⟩) (World.block_lt_of_cell? W1 _ h1)).trans h1, (hb.cell (p := ⟨b9, 1, none⟩) (World.block_lt_of_cell? W1 _ h2)).trans h2, (hb.cell (p := ⟨b10, 0, none⟩) (World.block_lt_of_cell? W1 _ h3)).trans h3, (hb.cell (p := ⟨b10, 1, none⟩) (World.block_lt_of_cell? W1 _ h4)).trans h4, (hb.cell (p := ⟨w.heap.size + 1, 3, none⟩) (World.block_lt_of_cell? W1 _ h5)).trans h5⟩)
        have l9 := Blk.lt SC.out.d9
        have l10 := Blk.lt SC.out.d10
        have l5 := Blk.lt SC.out.f5
        have HK4 := Lib.hid (show ∀ (W1 : World) (g : Nat) (x y z u : Value), (W1.cell? ⟨b9, 0, none⟩ = some (.int .i64 d.nd) ∧ W1.cell? ⟨b9, 1, none⟩ = some (.int .i64 d.n) ∧ W1.cell? ⟨b10, 0, none⟩ = some (.int .i64 o.nd) ∧ W1.cell? ⟨b10, 1, none⟩ = some (.int .i64 o.n) ∧ W1.cell? ⟨w.heap.size + 1, 3, none⟩ = some (.int .i64 q3)) → wc.heap.size ≤ g → (((((W1.setCell ⟨g, 0, none⟩ x).setCell ⟨g, 1, none⟩ y).setCell ⟨g, 2, none⟩ z).setCell ⟨g, 3, none⟩ u).cell? ⟨b9, 0, none⟩ = some (.int .i64 d.nd) ∧ ((((W1.setCell ⟨g, 0, none⟩ x).setCell ⟨g, 1, none⟩ y).setCell ⟨g, 2, none⟩ z).setCell ⟨g, 3, none⟩ u).cell? ⟨b9, 1, none⟩ = some (.int .i64 d.n) ∧ ((((W1.setCell ⟨g, 0, none⟩ x).setCell ⟨g, 1, none⟩ y).setCell ⟨g, 2, none⟩ z).setCell ⟨g, 3, none⟩ u).cell? ⟨b10, 0, none⟩ = some (.int .i64 o.nd) ∧ ((((W1.setCell ⟨g, 0, none⟩ x).setCell ⟨g, 1, none⟩ y).setCell ⟨g, 2, none⟩ z).setCell ⟨g, 3, none⟩ u).cell? ⟨b10, 1, none⟩ = some (.int .i64 o.n) ∧ ((((W1.setCell ⟨g, 0, none⟩ x).setCell ⟨g, 1, none⟩ y).setCell ⟨g, 2, none⟩ z).setCell ⟨g, 3, none⟩ u).cell? ⟨w.heap.size + 1, 3, none⟩ = some (.int .i64 q3)) from fun W1 g x y z u h hg => by
            obtain ⟨h1, h2, h3, h4, h5⟩ := h
            have hO := only4 W1 g x y z u
            have key : ∀ (b i : Nat) (v : Value), b ≠ g → W1.cell? ⟨b, i, none⟩ = some v → ((((W1.setCell ⟨g, 0, none⟩ x).setCell ⟨g, 1, none⟩ y).setCell ⟨g, 2, none⟩ z).setCell ⟨g, 3, none⟩ u).cell? ⟨b, i, none⟩ = some v := fun b i v hne hv => by
              rw [World.cell?_of_block (w := W1) (hO.block b (World.block_lt_of_cell? W1 _ hv) (by simpa using hne))]; exact hv
            exact ⟨key _ _ _ (by omega) h1, key _ _ _ (by omega) h2, key _ _ _ (by omega) h3, key _ _ _ (by omega) h4, key _ _ _ (by omega) h5⟩)
        have MB := Lib.hid (show Sl wc.drew 4 A m.length (hcells m) from SC.out.acc.sl)
        have MD := Lib.hid (show Sl (wc.alloc (.cells #[.int .i64 0, .int .i64 0, .int .i64 0, .int .i64 0] 30)).drew 4 A m.length (hcells m) from (show Sl (wc.alloc (.cells #[.int .i64 0, .int .i64 0, .int .i64 0, .int .i64 0] 30)) 4 A m.length (hcells m) from (show Sl wc 4 A m.length (hcells m) from MB.out).below ((Below.refl _ _).alloc (Nat.le_refl _) _)))
        have SD := Lib.hid (show ((wc.alloc (.cells #[.int .i64 0, .int .i64 0, .int .i64 0, .int .i64 0] 30)).drew.cell? ⟨b9, 0, none⟩ = some (.int .i64 d.nd) ∧ (wc.alloc (.cells #[.int .i64 0, .int .i64 0, .int .i64 0, .int .i64 0] 30)).drew.cell? ⟨b9, 1, none⟩ = some (.int .i64 d.n) ∧ (wc.alloc (.cells #[.int .i64 0, .int .i64 0, .int .i64 0, .int .i64 0] 30)).drew.cell? ⟨b10, 0, none⟩ = some (.int .i64 o.nd) ∧ (wc.alloc (.cells #[.int .i64 0, .int .i64 0, .int .i64 0, .int .i64 0] 30)).drew.cell? ⟨b10, 1, none⟩ = some (.int .i64 o.n) ∧ (wc.alloc (.cells #[.int .i64 0, .int .i64 0, .int .i64 0, .int .i64 0] 30)).drew.cell? ⟨w.heap.size + 1, 3, none⟩ = some (.int .i64 q3)) from (show ((wc.alloc (.cells #[.int .i64 0, .int .i64 0, .int .i64 0, .int .i64 0] 30)).cell? ⟨b9, 0, none⟩ = some (.int .i64 d.nd) ∧ (wc.alloc (.cells #[.int .i64 0, .int .i64 0, .int .i64 0, .int .i64 0] 30)).cell? ⟨b9, 1, none⟩ = some (.int .i64 d.n) ∧ (wc.alloc (.cells #[.int .i64 0, .int .i64 0, .int .i64 0, .int .i64 0] 30)).cell? ⟨b10, 0, none⟩ = some (.int .i64 o.nd) ∧ (wc.alloc (.cells #[.int .i64 0, .int .i64 0, .int .i64 0, .int .i64 0] 30)).cell? ⟨b10, 1, none⟩ = some (.int .i64 o.n) ∧ (wc.alloc (.cells #[.int .i64 0, .int .i64 0, .int .i64 0, .int .i64 0] 30)).cell? ⟨w.heap.size + 1, 3, none⟩ = some (.int .i64 q3)) from HKp.out wc (wc.alloc (.cells #[.int .i64 0, .int .i64 0, .int .i64 0, .int .i64 0] 30)) ⟨x0, x1, y0, y1, f3⟩ ((Below.refl _ _).alloc (Nat.le_refl _) _)))
        have ZD := Lib.hid (show Blk (wc.alloc (.cells #[.int .i64 0, .int .i64 0, .int .i64 0, .int .i64 0] 30)).drew wc.heap.size 30 #[.int .i64 0, .int .i64 0, .int .i64 0, .int .i64 0] from Blk.new wc 30 #[.int .i64 0, .int .i64 0, .int .i64 0, .int .i64 0])
        go_cut [21, 22] from 106 to 113 (fun s1 s2 wx => Aft w m A c b9 b10 (w.heap.size + 1) d o q0 q1 q2 q3 b11 T Bo [(b19, T), (b11, T)] s1 s2 wx)
        case first =>
          go_region_held3 (fun w' => w'.cell? ⟨b9, 0, none⟩ = some (.int .i64 d.nd) ∧ w'.cell? ⟨b9, 1, none⟩ = some (.int .i64 d.n) ∧ w'.cell? ⟨b10, 0, none⟩ = some (.int .i64 o.nd) ∧ w'.cell? ⟨b10, 1, none⟩ = some (.int .i64 o.n) ∧ w'.cell? ⟨w.heap.size + 1, 3, none⟩ = some (.int .i64 q3))
            (first
              | with_reducible exact ⟨x0, x1, y0, y1, f3⟩
              | with_reducible exact SD.out
              | with_reducible exact HKp.out wc.drew _ ⟨x0, x1, y0, y1, f3⟩ hb1
              | with_reducible exact HKp.out _ _ SD.out hb1
              | with_reducible exact HKp.out _ _ (HKp.out wc.drew _ ⟨x0, x1, y0, y1, f3⟩ hb1) hb2
              | with_reducible exact HKp.out _ _ (HKp.out _ _ SD.out hb1) hb2
              | with_reducible exact HKp.out _ _ (HKp.out _ _ (HKp.out wc.drew _ ⟨x0, x1, y0, y1, f3⟩ hb1) hb2) ((Below.refl _ _).alloc (Nat.le_refl _) _)
              | with_reducible exact HKp.out _ _ (HKp.out wc.drew _ ⟨x0, x1, y0, y1, f3⟩ hb1) ((Below.refl _ _).alloc (Nat.le_refl _) _)
              | with_reducible exact HKp.out _ _ (HKp.out _ _ (HKp.out wc.drew _ ⟨x0, x1, y0, y1, f3⟩ hb1) ((Below.refl _ _).alloc (Nat.le_refl _) _)) hb2
              | exact HK4.out _ _ _ _ _ _ (by assumption) (by first | omega | exact Nat.le_refl _))
            (first
              | (go_at_call 14; go_must (refine (gone_any A c m d _ (by first | with_reducible exact MB.out | with_reducible exact MD.out) (by omega)).mono ?_; rintro e w9 ht; obtain ⟨A9, c9, rfl, hs9, hb1⟩ := HoldRet.sl ht; have hlt9 : wc.heap.size ≤ w9.heap.size := Nat.le_trans (by first | exact Nat.le_refl _ | (simp only [World.size_alloc, World.size_drew]; omega)) hb1.size; (first | (have hz : Blk w9 wc.heap.size 30 #[.int .i64 0, .int .i64 0, .int .i64 0, .int .i64 0] := by with_reducible exact ZD.out.below hb1) | skip)))
              | (go_at_call 11; go_must (refine (Find_any A9 c9 (goneL m d) o _ (by first | with_reducible exact hs9 | with_reducible exact hs9.below ((Below.refl _ _).alloc (Nat.le_refl _) _)) (by omega)).mono ?_; rw [FO.out]; rintro e w10 ⟨rfl, hb2⟩; rw [HT.out, HB.out]; (first | (have hz2 : Blk w10 w9.heap.size 30 #[.int .i64 0, .int .i64 0, .int .i64 0, .int .i64 0] := (by with_reducible exact (Blk.new w9 30 #[.int .i64 0, .int .i64 0, .int .i64 0, .int .i64 0]).below hb2); obtain ⟨z0, z1, z2, z3⟩ := hz2.four; have hzf := fun j => hz2.frozen j) | (have hz2 : Blk w10 wc.heap.size 30 #[.int .i64 0, .int .i64 0, .int .i64 0, .int .i64 0] := (by with_reducible exact hz.below hb2); obtain ⟨z0, z1, z2, z3⟩ := hz2.four; have hzf := fun j => hz2.frozen j) | skip))))
          all_goals go_wp2_with fail
          all_goals go_meet
          all_goals (clear x0 x1 y0 y1 f3)
          · exact aft_last SC.out LC.out (((Below.refl wc.heap.size wc).drew.trans hb1).trans (hb2.mono hlt9))
          · exact aft_put SC.out LC.out ((((Below.refl wc.heap.size wc).drew.trans hb1).alloc hlt9 _).trans (hb2.mono (by rw [World.size_alloc]; omega))) hlt9 hz2
          · exact aft_put SC.out LC.out ((((Below.refl wc.heap.size wc).alloc (Nat.le_refl _) _).drew.trans (hb1.mono (by simp only [World.size_alloc, World.size_drew]; omega))).trans (hb2.mono hlt9)) (Nat.le_refl _) hz2
        case rest =>
          obtain ⟨b21, rfl, rfl, hS, hR, hL⟩ := hcut
          obtain ⟨s0, s1, s2, s3⟩ := (hL (b19, T) (by simp)).cells
          obtain ⟨t0, t1, t2, t3⟩ := (hL (b11, T) (by simp)).cells
          obtain ⟨u0, u1, u2, u3⟩ := hR.cells
          have hend := hS.acc.2
          have hqS := fun W => eql_hold T T W
          have hgS := fun op x y W => eqGuard_hold op x y T T W
          rw [decide_eq_true rfl] at hqS
          clear hS hR hL SC LC HKp HK4 MB MD SD ZD
          go_wp2_with fail
          go_ret
          exact ⟨by simp, hend⟩
  · rw [hdo] at hq
    go_wp2_with fail
    go_ret
    exact ⟨rfl, S4.out.acc.2⟩
end Go.Proofs.Ythmclonjgbmhhaa
