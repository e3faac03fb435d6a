/-
  HoldChanges: the walk.
-/
import Derived.Test.YthmclonjgbmhhaaBytes
import Derived.Test.YthmclonjgbmhhaaSweeps
namespace Go.Proofs.Ythmclonjgbmhhaa
open Go.RowKit
set_option linter.unusedVariables false

theorem same_refl (l : List Hold) : sameH l l = true := by unfold sameH; simp
theorem eql_hold (a b : Hold) (w : World) : (binOp .eql 30 (.agg #[.int .i64 a.d.nd, .int .i64 a.d.n, .int .i64 a.rc, .int .i64 a.un]) (.agg #[.int .i64 b.d.nd, .int .i64 b.d.n, .int .i64 b.rc, .int .i64 b.un])).run Try.prog w = .ok (.bool (decide (a = b))) w := by
  have h1 : Try.prog.stoodInHeld 30 = false := by kernel_rfl
  have h2 : Try.prog.underlying 30 = some (.struct (Try.prog.fieldsOf 30)) := by kernel_rfl
  have h3 : Try.prog.stoodInHeld 24 = false := by kernel_rfl
  have h4 : Try.prog.underlying 24 = some (.struct (Try.prog.fieldsOf 24)) := by kernel_rfl
  have h5 : Try.prog.underlying 3 = some (.int .i64) := by kernel_rfl
  rw [run_eql_struct, run_equalIn_struct w 9999 _ _ _ h2 h1]
  simp [Op.eqFields, go_sem]
  have he : (a = b) = (a.d.nd = b.d.nd ∧ a.d.n = b.d.n ∧ a.rc = b.rc ∧ a.un = b.un) := by
    obtain ⟨⟨a1, a2⟩, a3, a4⟩ := a
    obtain ⟨⟨b1, b2⟩, b3, b4⟩ := b
    simp [and_assoc]
  by_cases e1 : a.d.nd = b.d.nd <;> by_cases e2 : a.d.n = b.d.n <;> by_cases e3 : a.rc = b.rc <;> by_cases e4 : a.un = b.un <;> simp [he, e1, e2, e3, e4]

/-- Block b holds a promise. -/
def HoldAt (w : World) (b : Nat) (t : Hold) : Prop := Blk w b 30 #[.int .i64 t.d.nd, .int .i64 t.d.n, .int .i64 t.rc, .int .i64 t.un]
theorem HoldAt.below {w w' : World} {b : Nat} {t : Hold} (h : HoldAt w b t) (hb : Below w.heap.size w w') : HoldAt w' b t := Blk.below h hb
theorem HoldAt.alloc {w : World} {b : Nat} {t : Hold} (h : HoldAt w b t) (o : Obj) : HoldAt (w.alloc o) b t := Blk.alloc h o
theorem HoldAt.new (w : World) (t : Hold) : HoldAt (w.alloc (.cells #[.int .i64 t.d.nd, .int .i64 t.d.n, .int .i64 t.rc, .int .i64 t.un] 30)) w.heap.size t := Blk.new w _ _
theorem HoldAt.cells {w : World} {b : Nat} {t : Hold} (h : HoldAt w b t) : w.cell? ⟨b, 0, none⟩ = some (.int .i64 t.d.nd) ∧ w.cell? ⟨b, 1, none⟩ = some (.int .i64 t.d.n) ∧ w.cell? ⟨b, 2, none⟩ = some (.int .i64 t.rc) ∧ w.cell? ⟨b, 3, none⟩ = some (.int .i64 t.un) := Blk.four h
theorem DotAt.put {w : World} {b : Nat} {d : Dot} (h : DotAt w b d) (e : Dot) : DotAt ((w.setCell ⟨b, 0, none⟩ (.int .i64 e.nd)).setCell ⟨b, 1, none⟩ (.int .i64 e.n)) b e := by
  have := (Blk.set_ (Blk.set_ h 0 (.int .i64 e.nd)) 1 (.int .i64 e.n))
  unfold DotAt
  simpa using this

set_option maxRecDepth 20000 in
set_option maxHeartbeats 8000000 in
theorem changes_walk (A0 : Option Addr) (c0 : Nat) (l0 : List Hold) (h : Hold) (qn : Int) (qb : Bool) (w : World) (hr : Sl w 4 A0 l0.length (hcells l0)) (hn : l0.length ≤ 9223372036854775807) :
    Calls Try.prog 4 #[.slice A0 l0.length c0, .agg #[.int .i64 h.d.nd, .int .i64 h.d.n, .int .i64 h.rc, .int .i64 h.un], .agg #[.int .i64 qn, .bool qb]] w fun e w' => e = .returned (.bool true) ∧ Below w.heap.size w w' := by
  have Hr := Lib.hid hr
  clear hr
  obtain ⟨W0, hW0⟩ : ∃ W0, (w.alloc (.cells #[.int .i64 h.d.nd, .int .i64 h.d.n, .int .i64 h.rc, .int .i64 h.un] 30)).alloc (.cells #[.int .i64 qn, .bool qb] 40) = W0 := ⟨_, rfl⟩
  have hb0 : Below w.heap.size w W0 := hW0 ▸ ((Below.refl _ _).alloc (Nat.le_refl _) _).alloc (by simp) _
  have hd0 : HoldAt W0 w.heap.size h := hW0 ▸ (HoldAt.new w h).alloc _
  have hf0 : Blk W0 (w.heap.size + 1) 40 #[.int .i64 qn, .bool qb] := by
    have := Blk.new (w.alloc (.cells #[.int .i64 h.d.nd, .int .i64 h.d.n, .int .i64 h.rc, .int .i64 h.un] 30)) 40 #[.int .i64 qn, .bool qb]
    rw [hW0, World.size_alloc] at this
    exact this
  have B0 := Lib.hid hb0
  have D0 := Lib.hid hd0
  have F0 := Lib.hid hf0
  clear hb0 hd0 hf0
  go_enter Try.func4, Try.ntmps4
  go_wp2_with fail
  refine (awake_any _).mono ?_
  rintro e w1 ⟨rfl, hb⟩
  have B1 := Lib.hid (B0.out.trans (hb.mono B0.out.size))
  have D1 := Lib.hid (D0.out.below hb)
  have F1 := Lib.hid (F0.out.below hb)
  clear hb hW0 D0 F0 B0
  go_wp2_with fail
  refine (made_any A0 c0 l0 _ (Hr.out.below B1.out) hn).mono ?_
  rintro e w2 ⟨v1, rfl, ha⟩
  have MF := Lib.hid (made_fine l0)
  have hml := made_len l0
  generalize madeL l0 = m at ha MF hml
  obtain ⟨A, c, rfl, -, -⟩ := ha.slice
  have D2 := Lib.hid (D1.out.below ha.2)
  have F2 := Lib.hid (F1.out.below ha.2)
  have M2 := Lib.hid (Acc.up B1.out ha)
  clear ha D1 F1 B1 Hr
  go_wp2_with fail
  refine (bytes_any A c m _ M2.out.sl (by omega) MF.out.2).mono ?_
  rintro e w3 ⟨rfl, hb⟩
  have BY := Lib.hid (fun W hsl => bytes_any A c m W hsl (by omega) MF.out.2)
  generalize bytesL m = by_ at BY ⊢
  have D3 := Lib.hid (D2.out.below hb)
  have F3 := Lib.hid (F2.out.below hb)
  have M3 := Lib.hid (M2.out.below hb)
  clear hb D2 F2 M2
  obtain ⟨x0, x1, x2, x3⟩ := D3.out.cells
  obtain ⟨y0, y1⟩ : w3.cell? ⟨w.heap.size + 1, 0, none⟩ = some (.int .i64 qn) ∧ w3.cell? ⟨w.heap.size + 1, 1, none⟩ = some (.bool qb) := ⟨F3.out.cell 0, F3.out.cell 1⟩
  have lt4 := Blk.lt D3.out
  have lt5 := Blk.lt F3.out
  have M4 := Lib.hid (M3.out.below ((Below.refl w3.heap.size w3).alloc (Nat.le_refl _) (.cells #[.int .i64 h.d.nd, .int .i64 h.d.n] 24)))
  have T4 := Lib.hid (DotAt.new w3 h.d)
  have hz3 := M3.out.2.size
  obtain ⟨b10, hb10⟩ : ∃ b, w3.heap.size = b := ⟨_, rfl⟩
  have HB10 := Lib.hid hb10
  clear hb10
  cases qb
  · go_wp2_with fail
    rw [HB10.out] at T4 ⊢
    have MX := M4
    have TX := T4
    generalize h.d = d at *
    generalize h.rc = r at *
    generalize h.un = u at *
    generalize qn = nw at *
    clear M4 T4
    clear x0 x1 x2 x3 y0 y1 D3 F3 M3 lt4 lt5 hz3 HB10
    refine (grant_any A c m nw d r u _ MX.out.sl (by omega)).mono ?_
    rw [grantE_eq MF.out.1, grant_eq MF.out.1]
    rintro e w6 ht
    obtain ⟨A6, c6, rfl, ha6⟩ := ht.acc
    have M6 := Lib.hid (MX.out.below ha6.2)
    have T6 := Lib.hid (TX.out.below ha6.2)
    have R6 := Lib.hid (Acc.up MX.out.2 ha6)
    clear ht ha6 MX TX
    obtain ⟨x0, x1⟩ := T6.out.cells
    go_wp2_with fail
    clear x0 x1
    refine (refGrant_any A c m nw d r u _ M6.out.sl (by omega)).mono ?_
    rintro e w7 ht
    obtain ⟨A7, c7, rfl, ha7⟩ := ht.acc
    have M7 := Lib.hid (M6.out.below ha7.2)
    have T7 := Lib.hid (T6.out.below ha7.2)
    have R7 := Lib.hid (R6.out.below ha7.2)
    have Q7 := Lib.hid (Acc.up M6.out.2 ha7)
    clear ht ha7 M6 T6 R6
    have hgl : (grantR m nw d r u).length ≤ 13 := by
      rw [← grant_eq MF.out.1]
      unfold grantC
      split
      · rw [put_length]; split <;> omega
      · simp
    generalize grantE m nw d r u = E at *
    generalize grantR m nw d r u = G at *
    go_wp2_with fail
    refine (same_any A6 A7 c6 c7 G G _ R7.out.sl Q7.out.sl (by omega) (by omega)).mono ?_
    rw [same_refl]
    rintro e w8 ⟨rfl, hb8⟩
    have M8 := Lib.hid (M7.out.below hb8)
    have T8 := Lib.hid (T7.out.below hb8)
    clear hb8 M7 T7 R7 Q7
    have FS : sameH (freeL m d r) (freeR m d r) = true := by rw [free_eq MF.out.1]; exact same_refl _
    have FS := Lib.hid FS
    have GS := Lib.hid (same_refl (goneL m d))
    have hfl : (freeL m d r).length ≤ 12 := Nat.le_trans (List.length_filter_le _ _) hml
    have hfr : (freeR m d r).length ≤ 12 := by rw [← free_eq MF.out.1]; exact hfl
    have hgo : (goneL m d).length ≤ 12 := Nat.le_trans (goneL_le _ _) hml
    have hsw : (sweepL m nw).length ≤ 12 := Nat.le_trans (List.length_filter_le _ _) hml
    obtain ⟨x0, x1⟩ := T8.out.cells
    have lt10 := Blk.lt T8.out
    have keep : ∀ W1 w2 : World, (W1.cell? ⟨b10, 0, none⟩ = some (.int .i64 d.nd) ∧ W1.cell? ⟨b10, 1, none⟩ = some (.int .i64 d.n)) → Below W1.heap.size W1 w2 → (w2.cell? ⟨b10, 0, none⟩ = some (.int .i64 d.nd) ∧ w2.cell? ⟨b10, 1, none⟩ = some (.int .i64 d.n)) := fun W1 w2 h hb =>
      ⟨(hb.cell (p := ⟨b10, 0, none⟩) (World.block_lt_of_cell? W1 _ h.1)).trans h.1, (hb.cell (p := ⟨b10, 1, none⟩) (World.block_lt_of_cell? W1 _ h.2)).trans h.2⟩
    have HKp := Lib.hid keep
    clear keep
    have MS8 := Lib.hid (show Sl w8.drew 4 A m.length (hcells m) from M8.out.sl)
    go_wp2_with fail
    go_region_held3 (fun w' => w'.cell? ⟨b10, 0, none⟩ = some (.int .i64 d.nd) ∧ w'.cell? ⟨b10, 1, none⟩ = some (.int .i64 d.n))
      (first | exact ⟨x0, x1⟩ | exact HKp.out w8.drew _ ⟨x0, x1⟩ hb1 | exact HKp.out _ _ (HKp.out w8.drew _ ⟨x0, x1⟩ hb1) hb2 | exact HKp.out _ _ (HKp.out _ _ (HKp.out w8.drew _ ⟨x0, x1⟩ hb1) hb2) hb3)
      (first
        | (go_at_call 13; refine (free_any A c m d r _ MS8.out (by omega)).mono ?_; rintro e w9 ht; obtain ⟨A9, c9, rfl, hs9, hb1⟩ := HoldRet.sl ht)
        | (go_at_call 18; refine (refFree_any A c m d r _ (MS8.out.below hb1) (by omega)).mono ?_; rintro e w10 ht; obtain ⟨A10, c10, rfl, hs10, hb2⟩ := ht)
        | (go_at_call 17; refine (same_any A9 A10 c9 c10 (freeL m d r) (freeR m d r) _ (hs9.below hb2) hs10 (by omega) (by omega)).mono ?_; rw [FS.out]; rintro e w11 ⟨rfl, hb3⟩))
    have M11 := Lib.hid (((M8.out.below ((Below.refl w8.heap.size w8).drew.trans hb1)).below hb2).below hb3)
    have T11 := Lib.hid (((T8.out.below ((Below.refl w8.heap.size w8).drew.trans hb1)).below hb2).below hb3)
    clear x0 x1 hs9 hs10 hb1 hb2 hb3 MS8 M8 T8 lt10
    obtain ⟨x0, x1⟩ := T11.out.cells
    have lt10 := Blk.lt T11.out
    have MS11 := Lib.hid (show Sl w11.drew 4 A m.length (hcells m) from M11.out.sl)
    go_wp2_with fail
    go_region_held3 (fun w' => w'.cell? ⟨b10, 0, none⟩ = some (.int .i64 d.nd) ∧ w'.cell? ⟨b10, 1, none⟩ = some (.int .i64 d.n))
      (first | exact ⟨x0, x1⟩ | exact HKp.out w11.drew _ ⟨x0, x1⟩ hb1 | exact HKp.out _ _ (HKp.out w11.drew _ ⟨x0, x1⟩ hb1) hb2 | exact HKp.out _ _ (HKp.out _ _ (HKp.out w11.drew _ ⟨x0, x1⟩ hb1) hb2) hb3)
      (first
        | (go_at_call 14; refine (gone_any A c m d _ MS11.out (by omega)).mono ?_; rintro e w12 ht; obtain ⟨A12, c12, rfl, hs12, hb1⟩ := HoldRet.sl ht)
        | (go_at_call 19; refine (refGone_any A c m d _ (MS11.out.below hb1) (by omega)).mono ?_; rintro e w13 ht; obtain ⟨A13, c13, rfl, hs13, hb2⟩ := HoldRet.sl ht)
        | (go_at_call 17; refine (same_any A12 A13 c12 c13 (goneL m d) (goneL m d) _ (hs12.below hb2) hs13 (by omega) (by omega)).mono ?_; rw [GS.out]; rintro e w14 ⟨rfl, hb3⟩))
    have M14 := Lib.hid (((M11.out.below ((Below.refl w11.heap.size w11).drew.trans hb1)).below hb2).below hb3)
    have T14 := Lib.hid (((T11.out.below ((Below.refl w11.heap.size w11).drew.trans hb1)).below hb2).below hb3)
    clear x0 x1 hs12 hs13 hb1 hb2 hb3 MS11 M11 T11 lt10
    go_wp2_with fail
    refine (sweep_any A c m nw _ M14.out.sl (by omega)).mono ?_
    rintro e w15 ht
    obtain ⟨A15, c15, rfl, hs15, hb15⟩ := HoldRet.sl ht
    have M15 := Lib.hid (M14.out.below hb15)
    have T15 := Lib.hid (T14.out.below hb15)
    have X15 := Lib.hid hs15
    clear ht hs15 hb15 M14 T14
    go_wp2_with fail
    refine (refSweep_any A c m nw _ M15.out.sl (by omega)).mono ?_
    rintro e w16 ht
    obtain ⟨A16, c16, rfl, hs16, hb16⟩ := HoldRet.sl ht
    have M16 := Lib.hid (M15.out.below hb16)
    have T16 := Lib.hid (T15.out.below hb16)
    have X16 := Lib.hid (X15.out.below hb16)
    have Y16 := Lib.hid hs16
    clear ht hs16 hb16 M15 T15 X15
    go_wp2_with fail
    refine (same_any A15 A16 c15 c16 (sweepL m nw) (sweepL m nw) _ X16.out Y16.out (by omega) (by omega)).mono ?_
    rw [same_refl]
    rintro e w17 ⟨rfl, hb17⟩
    have M17 := Lib.hid (M16.out.below hb17)
    have T17 := Lib.hid (T16.out.below hb17)
    clear hb17 M16 T16 X16 Y16
    obtain ⟨x0, x1⟩ := T17.out.cells
    have lt10 := Blk.lt T17.out
    go_wp2_with fail
    refine (Find_any A c m d _ M17.out.sl (by omega)).mono ?_
    rw [find_eq MF.out.1]
    obtain ⟨X, hX⟩ : ∃ X, findR m d = X := ⟨_, rfl⟩
    obtain ⟨Y, hY⟩ : ∃ Y, X.getD z0 = Y := ⟨_, rfl⟩
    obtain ⟨Bo, hBo⟩ : ∃ Bo, X.isSome = Bo := ⟨_, rfl⟩
    have HX := Lib.hid hX
    have HY := Lib.hid hY
    have HBo := Lib.hid hBo
    clear hX hY hBo
    rintro e w18 ⟨rfl, hb18⟩
    rw [HX.out, HY.out, HBo.out]
    have M18 := Lib.hid ((M17.out.below hb18).below ((Below.refl w18.heap.size w18).alloc (Nat.le_refl _) (.cells #[.int .i64 Y.d.nd, .int .i64 Y.d.n, .int .i64 Y.rc, .int .i64 Y.un] 30)))
    have hT18 := T17.out.below hb18
    have T18 := Lib.hid (hT18.alloc (.cells #[.int .i64 Y.d.nd, .int .i64 Y.d.n, .int .i64 Y.rc, .int .i64 Y.un] 30))
    have Y18 := Lib.hid (HoldAt.new w18 Y)
    clear x0 x1 lt10
    obtain ⟨x0, x1⟩ := hT18.cells
    have lt10 := Blk.lt hT18
    clear hb18 hT18 M17 T17
    go_wp2_with fail
    refine (refFind_any A c m d _ M18.out.sl (by omega)).mono ?_
    rintro e w19 ⟨rfl, hb19⟩
    rw [HX.out, HY.out, HBo.out]
    have M19 := Lib.hid ((M18.out.below hb19).below ((Below.refl w19.heap.size w19).alloc (Nat.le_refl _) (.cells #[.int .i64 Y.d.nd, .int .i64 Y.d.n, .int .i64 Y.rc, .int .i64 Y.un] 30)))
    have hY19 := Y18.out.below hb19
    obtain ⟨y0, y1, y2, y3⟩ := hY19.cells
    have lt18 := Blk.lt hY19
    have hq := fun W => eql_hold Y Y W
    have hgq := fun op x y W => eqGuard_hold op x y Y Y W
    rw [decide_eq_true rfl] at hq
    clear hb19 hY19 M18 T18 Y18 x0 x1 lt10
    go_wp2_with fail
    refine (BY.out _ M19.out.sl).mono ?_
    rintro e w20 ⟨rfl, hb20⟩
    have M20 := Lib.hid (M19.out.below hb20)
    clear hb20 M19
    go_wp2_with fail
    go_ret
    exact ⟨rfl, M20.out.2⟩
  · have hw1 : wrap64 (1 + bits .and .i64 h.rc 3) = 1 + bit h.rc 3 := wrap_bit h.rc 3 (by omega)
    go_wp2_with fail
    refine (name_any h.d _).mono ?_
    rintro e w5 ⟨rfl, hb5⟩
    have T5 := T4.out.below hb5
    obtain ⟨p0, p1⟩ := T5.cells
    have hfz := fun j => Blk.frozen (t := 24) (cs := #[.int .i64 h.d.nd, .int .i64 h.d.n]) T5 j
    have MM := M4.out.below hb5
    have MX := Lib.hid (show Acc w m (.slice A m.length c) ((w5.setCell ⟨w3.heap.size, 0, none⟩ (.int .i64 (nameD h.d).nd)).setCell ⟨w3.heap.size, 1, none⟩ (.int .i64 (nameD h.d).n)) from
      ⟨own_only (own_only MM.1 (only_set w5 w3.heap.size 0 _) T5 (by decide)) (only_set _ w3.heap.size 1 _) (Blk.set_ T5 0 _) (by decide), (MM.2.setCell hz3 _).setCell hz3 _⟩)
    have TX := Lib.hid (T5.put (nameD h.d))
    clear hb5 MM M4 T4 T5
    go_wp2_with fail
    rw [HB10.out] at TX MX ⊢
    simp only [hw1]
    generalize nameD h.d = d at *
    generalize 1 + bit h.rc 3 = r at *
    generalize bits BinOp.and IntKind.i64 h.un 127 = u at *
    generalize bits BinOp.and IntKind.i64 qn 127 = nw at *
    clear p0 p1 hfz
    clear x0 x1 x2 x3 y0 y1 D3 F3 M3 lt4 lt5 hz3 HB10
    refine (grant_any A c m nw d r u _ MX.out.sl (by omega)).mono ?_
    rw [grantE_eq MF.out.1, grant_eq MF.out.1]
    rintro e w6 ht
    obtain ⟨A6, c6, rfl, ha6⟩ := ht.acc
    have M6 := Lib.hid (MX.out.below ha6.2)
    have T6 := Lib.hid (TX.out.below ha6.2)
    have R6 := Lib.hid (Acc.up MX.out.2 ha6)
    clear ht ha6 MX TX
    obtain ⟨x0, x1⟩ := T6.out.cells
    go_wp2_with fail
    clear x0 x1
    refine (refGrant_any A c m nw d r u _ M6.out.sl (by omega)).mono ?_
    rintro e w7 ht
    obtain ⟨A7, c7, rfl, ha7⟩ := ht.acc
    have M7 := Lib.hid (M6.out.below ha7.2)
    have T7 := Lib.hid (T6.out.below ha7.2)
    have R7 := Lib.hid (R6.out.below ha7.2)
    have Q7 := Lib.hid (Acc.up M6.out.2 ha7)
    clear ht ha7 M6 T6 R6
    have hgl : (grantR m nw d r u).length ≤ 13 := by
      rw [← grant_eq MF.out.1]
      unfold grantC
      split
      · rw [put_length]; split <;> omega
      · simp
    generalize grantE m nw d r u = E at *
    generalize grantR m nw d r u = G at *
    go_wp2_with fail
    refine (same_any A6 A7 c6 c7 G G _ R7.out.sl Q7.out.sl (by omega) (by omega)).mono ?_
    rw [same_refl]
    rintro e w8 ⟨rfl, hb8⟩
    have M8 := Lib.hid (M7.out.below hb8)
    have T8 := Lib.hid (T7.out.below hb8)
    clear hb8 M7 T7 R7 Q7
    have FS : sameH (freeL m d r) (freeR m d r) = true := by rw [free_eq MF.out.1]; exact same_refl _
    have FS := Lib.hid FS
    have GS := Lib.hid (same_refl (goneL m d))
    have hfl : (freeL m d r).length ≤ 12 := Nat.le_trans (List.length_filter_le _ _) hml
    have hfr : (freeR m d r).length ≤ 12 := by rw [← free_eq MF.out.1]; exact hfl
    have hgo : (goneL m d).length ≤ 12 := Nat.le_trans (goneL_le _ _) hml
    have hsw : (sweepL m nw).length ≤ 12 := Nat.le_trans (List.length_filter_le _ _) hml
    obtain ⟨x0, x1⟩ := T8.out.cells
    have lt10 := Blk.lt T8.out
    have keep : ∀ W1 w2 : World, (W1.cell? ⟨b10, 0, none⟩ = some (.int .i64 d.nd) ∧ W1.cell? ⟨b10, 1, none⟩ = some (.int .i64 d.n)) → Below W1.heap.size W1 w2 → (w2.cell? ⟨b10, 0, none⟩ = some (.int .i64 d.nd) ∧ w2.cell? ⟨b10, 1, none⟩ = some (.int .i64 d.n)) := fun W1 w2 h hb =>
      ⟨(hb.cell (p := ⟨b10, 0, none⟩) (World.block_lt_of_cell? W1 _ h.1)).trans h.1, (hb.cell (p := ⟨b10, 1, none⟩) (World.block_lt_of_cell? W1 _ h.2)).trans h.2⟩
    have HKp := Lib.hid keep
    clear keep
    have MS8 := Lib.hid (show Sl w8.drew 4 A m.length (hcells m) from M8.out.sl)
    go_wp2_with fail
    go_region_held3 (fun w' => w'.cell? ⟨b10, 0, none⟩ = some (.int .i64 d.nd) ∧ w'.cell? ⟨b10, 1, none⟩ = some (.int .i64 d.n))
      (first | exact ⟨x0, x1⟩ | exact HKp.out w8.drew _ ⟨x0, x1⟩ hb1 | exact HKp.out _ _ (HKp.out w8.drew _ ⟨x0, x1⟩ hb1) hb2 | exact HKp.out _ _ (HKp.out _ _ (HKp.out w8.drew _ ⟨x0, x1⟩ hb1) hb2) hb3)
      (first
        | (go_at_call 13; refine (free_any A c m d r _ MS8.out (by omega)).mono ?_; rintro e w9 ht; obtain ⟨A9, c9, rfl, hs9, hb1⟩ := HoldRet.sl ht)
        | (go_at_call 18; refine (refFree_any A c m d r _ (MS8.out.below hb1) (by omega)).mono ?_; rintro e w10 ht; obtain ⟨A10, c10, rfl, hs10, hb2⟩ := ht)
        | (go_at_call 17; refine (same_any A9 A10 c9 c10 (freeL m d r) (freeR m d r) _ (hs9.below hb2) hs10 (by omega) (by omega)).mono ?_; rw [FS.out]; rintro e w11 ⟨rfl, hb3⟩))
    have M11 := Lib.hid (((M8.out.below ((Below.refl w8.heap.size w8).drew.trans hb1)).below hb2).below hb3)
    have T11 := Lib.hid (((T8.out.below ((Below.refl w8.heap.size w8).drew.trans hb1)).below hb2).below hb3)
    clear x0 x1 hs9 hs10 hb1 hb2 hb3 MS8 M8 T8 lt10
    obtain ⟨x0, x1⟩ := T11.out.cells
    have lt10 := Blk.lt T11.out
    have MS11 := Lib.hid (show Sl w11.drew 4 A m.length (hcells m) from M11.out.sl)
    go_wp2_with fail
    go_region_held3 (fun w' => w'.cell? ⟨b10, 0, none⟩ = some (.int .i64 d.nd) ∧ w'.cell? ⟨b10, 1, none⟩ = some (.int .i64 d.n))
      (first | exact ⟨x0, x1⟩ | exact HKp.out w11.drew _ ⟨x0, x1⟩ hb1 | exact HKp.out _ _ (HKp.out w11.drew _ ⟨x0, x1⟩ hb1) hb2 | exact HKp.out _ _ (HKp.out _ _ (HKp.out w11.drew _ ⟨x0, x1⟩ hb1) hb2) hb3)
      (first
        | (go_at_call 14; refine (gone_any A c m d _ MS11.out (by omega)).mono ?_; rintro e w12 ht; obtain ⟨A12, c12, rfl, hs12, hb1⟩ := HoldRet.sl ht)
        | (go_at_call 19; refine (refGone_any A c m d _ (MS11.out.below hb1) (by omega)).mono ?_; rintro e w13 ht; obtain ⟨A13, c13, rfl, hs13, hb2⟩ := HoldRet.sl ht)
        | (go_at_call 17; refine (same_any A12 A13 c12 c13 (goneL m d) (goneL m d) _ (hs12.below hb2) hs13 (by omega) (by omega)).mono ?_; rw [GS.out]; rintro e w14 ⟨rfl, hb3⟩))
    have M14 := Lib.hid (((M11.out.below ((Below.refl w11.heap.size w11).drew.trans hb1)).below hb2).below hb3)
    have T14 := Lib.hid (((T11.out.below ((Below.refl w11.heap.size w11).drew.trans hb1)).below hb2).below hb3)
    clear x0 x1 hs12 hs13 hb1 hb2 hb3 MS11 M11 T11 lt10
    go_wp2_with fail
    refine (sweep_any A c m nw _ M14.out.sl (by omega)).mono ?_
    rintro e w15 ht
    obtain ⟨A15, c15, rfl, hs15, hb15⟩ := HoldRet.sl ht
    have M15 := Lib.hid (M14.out.below hb15)
    have T15 := Lib.hid (T14.out.below hb15)
    have X15 := Lib.hid hs15
    clear ht hs15 hb15 M14 T14
    go_wp2_with fail
    refine (refSweep_any A c m nw _ M15.out.sl (by omega)).mono ?_
    rintro e w16 ht
    obtain ⟨A16, c16, rfl, hs16, hb16⟩ := HoldRet.sl ht
    have M16 := Lib.hid (M15.out.below hb16)
    have T16 := Lib.hid (T15.out.below hb16)
    have X16 := Lib.hid (X15.out.below hb16)
    have Y16 := Lib.hid hs16
    clear ht hs16 hb16 M15 T15 X15
    go_wp2_with fail
    refine (same_any A15 A16 c15 c16 (sweepL m nw) (sweepL m nw) _ X16.out Y16.out (by omega) (by omega)).mono ?_
    rw [same_refl]
    rintro e w17 ⟨rfl, hb17⟩
    have M17 := Lib.hid (M16.out.below hb17)
    have T17 := Lib.hid (T16.out.below hb17)
    clear hb17 M16 T16 X16 Y16
    obtain ⟨x0, x1⟩ := T17.out.cells
    have lt10 := Blk.lt T17.out
    go_wp2_with fail
    refine (Find_any A c m d _ M17.out.sl (by omega)).mono ?_
    rw [find_eq MF.out.1]
    obtain ⟨X, hX⟩ : ∃ X, findR m d = X := ⟨_, rfl⟩
    obtain ⟨Y, hY⟩ : ∃ Y, X.getD z0 = Y := ⟨_, rfl⟩
    obtain ⟨Bo, hBo⟩ : ∃ Bo, X.isSome = Bo := ⟨_, rfl⟩
    have HX := Lib.hid hX
    have HY := Lib.hid hY
    have HBo := Lib.hid hBo
    clear hX hY hBo
    rintro e w18 ⟨rfl, hb18⟩
    rw [HX.out, HY.out, HBo.out]
    have M18 := Lib.hid ((M17.out.below hb18).below ((Below.refl w18.heap.size w18).alloc (Nat.le_refl _) (.cells #[.int .i64 Y.d.nd, .int .i64 Y.d.n, .int .i64 Y.rc, .int .i64 Y.un] 30)))
    have hT18 := T17.out.below hb18
    have T18 := Lib.hid (hT18.alloc (.cells #[.int .i64 Y.d.nd, .int .i64 Y.d.n, .int .i64 Y.rc, .int .i64 Y.un] 30))
    have Y18 := Lib.hid (HoldAt.new w18 Y)
    clear x0 x1 lt10
    obtain ⟨x0, x1⟩ := hT18.cells
    have lt10 := Blk.lt hT18
    clear hb18 hT18 M17 T17
    go_wp2_with fail
    refine (refFind_any A c m d _ M18.out.sl (by omega)).mono ?_
    rintro e w19 ⟨rfl, hb19⟩
    rw [HX.out, HY.out, HBo.out]
    have M19 := Lib.hid ((M18.out.below hb19).below ((Below.refl w19.heap.size w19).alloc (Nat.le_refl _) (.cells #[.int .i64 Y.d.nd, .int .i64 Y.d.n, .int .i64 Y.rc, .int .i64 Y.un] 30)))
    have hY19 := Y18.out.below hb19
    obtain ⟨y0, y1, y2, y3⟩ := hY19.cells
    have lt18 := Blk.lt hY19
    have hq := fun W => eql_hold Y Y W
    have hgq := fun op x y W => eqGuard_hold op x y Y Y W
    rw [decide_eq_true rfl] at hq
    clear hb19 hY19 M18 T18 Y18 x0 x1 lt10
    go_wp2_with fail
    refine (BY.out _ M19.out.sl).mono ?_
    rintro e w20 ⟨rfl, hb20⟩
    have M20 := Lib.hid (M19.out.below hb20)
    clear hb20 M19
    go_wp2_with fail
    go_ret
    exact ⟨rfl, M20.out.2⟩
end Go.Proofs.Ythmclonjgbmhhaa
