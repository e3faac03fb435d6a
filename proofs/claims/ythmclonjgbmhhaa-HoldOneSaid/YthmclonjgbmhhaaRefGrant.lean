/-
  The document's answer: Grant.
-/
import Derived.Test.YthmclonjgbmhhaaRef
namespace Go.Proofs.Ythmclonjgbmhhaa
open Go.RowKit
set_option linter.unusedVariables false

/-- What hands back a row of its own, and an error. -/
def HoldsE (w : World) (er : Int) (l : List Hold) (en : Ending) (w' : World) : Prop := ∃ v, en = .returned (.tuple #[v, .int .i64 er]) ∧ Acc w l v w'
theorem holds_nil {w w' : World} (er : Int) (h : Below w.heap.size w w') : HoldsE w er [] (.returned (.tuple #[.slice none 0 0, .int .i64 er])) w' := ⟨_, rfl, Acc.nil h⟩
theorem HoldsE.acc {w w' : World} {er : Int} {l : List Hold} {en : Ending} (h : HoldsE w er l en w') : ∃ A c, en = .returned (.tuple #[.slice A l.length c, .int .i64 er]) ∧ Acc w l (.slice A l.length c) w' := by
  obtain ⟨v, rfl, h1⟩ := h
  obtain ⟨A, c, rfl, _⟩ := h1.slice
  exact ⟨A, c, rfl, h1⟩

def putR : List Hold → Hold → Bool → List Hold
  | [], h, put => if put then [] else [h]
  | t :: l, h, put => (if !put && dlt h.d t.d then [h] else []) ++ (t :: putR l h (put || dlt h.d t.d))
theorem putR_drop (l : List Hold) (h : Hold) (put : Bool) (k : Nat) (hk : k < l.length) : putR (l.drop k) h put = (if !put && dlt h.d l[k].d then [h] else []) ++ (l[k] :: putR (l.drop (k + 1)) h (put || dlt h.d l[k].d)) := by
  rw [List.drop_eq_getElem_cons hk]; rfl

def okArg (d : Dot) (r : Int) : Bool := okDot d && okI r
def okTime (now u : Int) : Bool := decide (now < u) && okT u
def untilR (o : Option Hold) (now r u : Int) : Int := match o with | some h => if h.rc == r && decide (now < h.un) && decide (u < h.un) then h.un else u | none => u
def grantE (l : List Hold) (now : Int) (d : Dot) (r u : Int) : Int :=
  if !okArg d r then 1 else if !okTime now u then 18 else match findR l d with
  | some h => if !(h.rc == r) && decide (now < h.un) then 16 else 0
  | none => if l.length ≥ 1000 then 15 else 0
def grantR (l : List Hold) (now : Int) (d : Dot) (r u : Int) : List Hold := if grantE l now d r u = 0 then putR (goneL l d) ⟨d, r, untilR (findR l d) now r u⟩ false else []

theorem grant_bad {l : List Hold} {now : Int} {d : Dot} {r u : Int} (h : okArg d r = false) : grantE l now d r u = 1 ∧ grantR l now d r u = [] := by
  have : grantE l now d r u = 1 := by unfold grantE; rw [h]; rfl
  exact ⟨this, by unfold grantR; rw [this]; rfl⟩
theorem grant_late {l : List Hold} {now : Int} {d : Dot} {r u : Int} (h : okArg d r = true) (h2 : okTime now u = false) : grantE l now d r u = 18 ∧ grantR l now d r u = [] := by
  have : grantE l now d r u = 18 := by unfold grantE; rw [h, h2]; rfl
  exact ⟨this, by unfold grantR; rw [this]; rfl⟩

theorem goneL_le (l : List Hold) (d : Dot) : (goneL l d).length ≤ l.length := List.length_filter_le _ _

set_option maxRecDepth 20000 in
set_option maxHeartbeats 4000000 in
theorem refGrant_any (A : Option Addr) (c : Nat) (l : List Hold) (now : Int) (d : Dot) (r u : Int) (w : World) (hr : Sl w 4 A l.length (hcells l)) (hn : l.length ≤ 10000) :
    Calls Try.prog 16 #[.slice A l.length c, .int .i64 now, .agg #[.int .i64 d.nd, .int .i64 d.n], .int .i64 r, .int .i64 u] w (HoldsE w (grantE l now d r u) (grantR l now d r u)) := by
  obtain ⟨W0, hW0⟩ : ∃ W0, w.alloc (.cells #[.int .i64 d.nd, .int .i64 d.n] 24) = W0 := ⟨_, rfl⟩
  have hb0 : Below w.heap.size w W0 := hW0 ▸ (Below.refl _ _).alloc (Nat.le_refl _) _
  have hd0 : DotAt W0 w.heap.size d := hW0 ▸ DotAt.new w d
  have hr0 := hr.below hb0
  have B0 := Lib.hid hb0
  have Hr := Lib.hid hr0
  have HD := Lib.hid hd0
  obtain ⟨q0, q1⟩ := hd0.cells
  have hz0 := Blk.lt hd0
  clear hr hb0 hd0 hr0
  go_enter Try.func16, Try.ntmps16
  go_wp2_with fail
  refine (refCheck_any d _).mono ?_
  rintro e w1 ⟨rfl, hb⟩
  have B1 := Lib.hid (B0.out.trans (hb.mono B0.out.size))
  have HD1 := Lib.hid (HD.out.below hb)
  have Hr1 := Lib.hid (Hr.out.below hb)
  obtain ⟨q0, q1⟩ := HD1.out.cells
  clear hb hW0 Hr
  cases hA : okArg d r
  · have HN : Hid (grantE l now d r u = 1 ∧ grantR l now d r u = []) := Lib.hid (grant_bad hA)
    have hA' : okDot d = false ∨ okDot d = true ∧ r < 1 ∨ okDot d = true ∧ 1 ≤ r ∧ 1099511627776 < r := by
      unfold okArg okI at hA
      cases h : okDot d
      · exact .inl rfl
      · rw [h] at hA; simp at hA; by_cases hr1 : r < 1
        · exact .inr (.inl ⟨rfl, hr1⟩)
        · exact .inr (.inr ⟨rfl, by omega, hA (by omega)⟩)
    clear hA
    rcases hA' with h1 | ⟨h1, h2⟩ | ⟨h1, h2, h3⟩
    all_goals
      rw [h1]
      clear h1
      go_wp2_with fail
      ((try simp only [Exit.inBlock, Exit.then]); refine bodyPost_ret (results_tmp2 rfl _ _ _) rfl ?_)
      rw [HN.out.1, HN.out.2]
      exact holds_nil 1 B1.out
  · have hA' : okDot d = true ∧ 1 ≤ r ∧ r ≤ 1099511627776 := by
      unfold okArg okI at hA
      simp at hA; exact hA
    obtain ⟨h1, h2, h3⟩ := hA'
    rw [h1]
    have h4 : decide (r < 1) = false := by simp; omega
    have h5 : decide (1099511627776 < r) = false := by simp; omega
    have HA := Lib.hid hA
    clear h1 hA
    cases hT : okTime now u
    · have HN : Hid (grantE l now d r u = 18 ∧ grantR l now d r u = []) := Lib.hid (grant_late HA.out hT)
      have hT' : u ≤ now ∨ now < u ∧ u < 1 ∨ now < u ∧ 1 ≤ u ∧ 1125899906842624 < u := by
        unfold okTime okT at hT
        simp at hT; omega
      clear hT
      rcases hT' with h6 | ⟨h6, h7⟩ | ⟨h6, h7, h8⟩
      all_goals
        try have h9 : decide (u ≤ now) = false := by simp; omega
        go_wp2_with fail
        ((try simp only [Exit.inBlock, Exit.then]); refine bodyPost_ret (results_tmp2 rfl _ _ _) rfl ?_)
        rw [HN.out.1, HN.out.2]
        exact holds_nil 18 B1.out
    · have hT' : now < u ∧ 1 ≤ u ∧ u ≤ 1125899906842624 := by
        unfold okTime okT at hT
        simp at hT; exact hT
      obtain ⟨h6, h7, h8⟩ := hT'
      have h9 : decide (u ≤ now) = false := by simp; omega
      have h10 : decide (u < 1) = false := by simp; omega
      have h11 : decide (1125899906842624 < u) = false := by simp; omega
      have HT := Lib.hid hT
      clear hT h6
      go_wp2_with fail
      refine (refFind_any A c l d _ Hr1.out (by omega)).mono ?_
      rintro e w2 ⟨rfl, hb⟩
      have B2 := Lib.hid ((B1.out.trans (hb.mono B1.out.size)).alloc (by have := hb.size; have := B1.out.size; omega) (.cells #[.int .i64 ((findR l d).getD z0).d.nd, .int .i64 ((findR l d).getD z0).d.n, .int .i64 ((findR l d).getD z0).rc, .int .i64 ((findR l d).getD z0).un] 30))
      have HD2 := Lib.hid ((HD1.out.below hb).alloc (.cells #[.int .i64 ((findR l d).getD z0).d.nd, .int .i64 ((findR l d).getD z0).d.n, .int .i64 ((findR l d).getD z0).rc, .int .i64 ((findR l d).getD z0).un] 30))
      have Hr2 := Lib.hid ((Hr1.out.below hb).below ((Below.refl _ _).alloc (Nat.le_refl _) (.cells #[.int .i64 ((findR l d).getD z0).d.nd, .int .i64 ((findR l d).getD z0).d.n, .int .i64 ((findR l d).getD z0).rc, .int .i64 ((findR l d).getD z0).un] 30)))
      obtain ⟨q0, q1⟩ := (HD1.out.below hb).cells
      have hz2 := Blk.lt (HD1.out.below hb)
      clear hb HD1 Hr1 B1 B0 HD
      have hmain : ∀ U, untilR (findR l d) now r u = U → grantE l now d r u = 0 → Hid (grantE l now d r u = 0 ∧ grantR l now d r u = putR (goneL l d) ⟨d, r, U⟩ false) := fun U h1 h2 => Lib.hid ⟨h2, by unfold grantR; rw [if_pos h2, h1]⟩
      have hnil : ∀ E, grantE l now d r u = E → E ≠ 0 → Hid (grantE l now d r u = E ∧ grantR l now d r u = []) := fun E h1 h2 => Lib.hid ⟨h1, by unfold grantR; rw [h1, if_neg h2]⟩
      have HM := Lib.hid hmain
      have HN := Lib.hid hnil
      clear hmain hnil
      cases hf : findR l d with
      | none =>
        rw [hf] at B2 HD2 Hr2
        simp only [Option.getD_none, Option.isSome_none] at B2 HD2 Hr2 ⊢
        have HZ : Hid (z0.rc = 0 ∧ z0.un = 0) := Lib.hid ⟨rfl, rfl⟩
        generalize z0 = h at B2 HD2 Hr2 ⊢
        by_cases h1000 : l.length ≥ 1000
        · have d1 : decide ((1000 : Int) ≤ (l.length : Int)) = true := by simp; omega
          have HQ := HN.out 15 (by unfold grantE; rw [HA.out, HT.out, hf]; simp [h1000]) (by omega)
          clear hf
          go_wp2_with fail
          ((try simp only [Exit.inBlock, Exit.then]); refine bodyPost_ret (results_tmp2 rfl _ _ _) rfl ?_)
          rw [HQ.out.1, HQ.out.2]
          exact holds_nil 15 B2.out
        · have d1 : decide ((1000 : Int) ≤ (l.length : Int)) = false := by simp; omega
          obtain ⟨U, hU⟩ : ∃ U, u = U := ⟨_, rfl⟩
          have HQ := HM.out U (by rw [← hU, hf]; rfl) (by unfold grantE; rw [HA.out, HT.out, hf]; simp [h1000])
          have HU := Lib.hid hU
          clear hU
          clear hf
          go_wp2_with fail
          clear HM HN HA HT
          simp only [HU.out] at B2 HD2 Hr2 ⊢
          refine (refGone_any A c l d _ Hr2.out hn).mono ?_
          rintro e w3 ht
          obtain ⟨A3, c3, rfl, hs3, hb3⟩ := HoldRet.sl ht
          have HS3 := Lib.hid hs3
          have B3 := Lib.hid (B2.out.trans (hb3.mono B2.out.size))
          have HD3 := Lib.hid (HD2.out.below hb3)
          have hrest := goneL_le l d
          clear ht hs3 hb3 B2 HD2 Hr2 q0 q1
          generalize goneL l d = rest at HQ HS3 hrest ⊢
          go_wp2_with fail
          go_loopw [16, 17, 18] (fun v b i wr => ∃ (k : Nat) (put : Bool) (pre : List Hold), k ≤ rest.length ∧ i = .int .i64 k ∧ b = .bool put ∧ pre.length ≤ 2 * k ∧ putR rest ⟨d, r, U⟩ false = pre ++ putR (rest.drop k) ⟨d, r, U⟩ put ∧ Acc w3 pre v wr) (fun _ _ i _ => rest.length - (intOf i).toNat)
          case atStart => exact ⟨0, false, [], Nat.zero_le _, rfl, rfl, by simp, by simp, Acc.nil (Below.refl _ _)⟩
          case round =>
            obtain ⟨k, put, pre, hk, rfl, rfl, hpl, hp, ha⟩ := hrel
            have Hp := Lib.hid hp
            have HA := Lib.hid ha
            obtain ⟨q0, q1⟩ := (HD3.out.below ha.2).cells
            have hwz := ha.2.size
            clear hp ha
            by_cases hlt : k < rest.length
            · obtain ⟨g, o, rfl, hg, c0, c1, c2, c3⟩ := hold_cells (HS3.out.below HA.out.2) (List.getElem?_eq_getElem hlt)
              have HK := Lib.hid (putR_drop rest ⟨d, r, U⟩ put k hlt)
              generalize hz : rest[k] = t at c0 c1 c2 c3 HK
              have HT := Lib.hid hz
              clear hz
              go_wp2_with fail
              refine wp_still_tail 6 (by kernel_rfl) (by kernel_rfl) ?_
              simp only [List.take_succ_cons, List.take_zero, List.drop_succ_cons, List.drop_zero]
              repeat still_step
              refine wpStill_nil ?_
              go_wp2_with fail
              refine (refLess_any d t.d _).mono ?_
              rintro e w4 ⟨rfl, hb⟩
              have HA4 := Lib.hid (HA.out.below ((Below.refl _ _).drew.trans hb))
              obtain ⟨q0, q1⟩ := (HD3.out.below HA4.out.2).cells
              obtain ⟨g', o', hgo, -, c0, c1, c2, c3⟩ := hold_cells (HS3.out.below HA4.out.2) (List.getElem?_eq_getElem hlt)
              injection hgo with hgo; injection hgo with hgo1 hgo2; subst hgo1; subst hgo2
              rw [HT.out] at c0 c1 c2 c3
              clear hb
              cases hb : (!put && dlt d t.d)
              · have HN : Hid (putR rest ⟨d, r, U⟩ false = (pre ++ [t]) ++ putR (rest.drop (k + 1)) ⟨d, r, U⟩ (put || dlt d t.d)) := Lib.hid (by rw [Hp.out, HK.out]; simp [hb])
                have HP : Hid ((put || dlt d t.d) = put) := Lib.hid (by revert hb; cases put <;> cases dlt d t.d <;> simp)
                clear HK Hp
                cases put
                · have hl : dlt d t.d = false := by simpa using hb
                  rw [hl]
                  clear hb
                  go_wp2_with (at_builtin; refine wpList_hold rfl (.tmp 118) (.tmp 123) rfl HA4.out t rfl (by simp [Act.eval]) (by omega) ?_)
                  intro v5 w5 hA5
                  have HA5 := Lib.hid hA5
                  have HX := Lib.hid (show putR rest ⟨d, r, U⟩ false = (pre ++ [t]) ++ putR (rest.drop (k + 1)) ⟨d, r, U⟩ false by rw [HN.out, HP.out])
                  clear hA5 hl
                  go_wp2_with fail
                  go_roundw
                  case rel => exact ⟨k + 1, false, pre ++ [t], by omega, by go_num, rfl, by simp; omega, HX.out, HA5.out⟩
                  case measure => simp [intOf]; omega
                · clear hb
                  go_wp2_with (at_builtin; refine wpList_hold rfl (.tmp 118) (.tmp 123) rfl HA4.out t rfl (by simp [Act.eval]) (by omega) ?_)
                  intro v5 w5 hA5
                  have HA5 := Lib.hid hA5
                  have HX := Lib.hid (show putR rest ⟨d, r, U⟩ false = (pre ++ [t]) ++ putR (rest.drop (k + 1)) ⟨d, r, U⟩ true by rw [HN.out, HP.out])
                  clear hA5
                  go_wp2_with fail
                  go_roundw
                  case rel => exact ⟨k + 1, true, pre ++ [t], by omega, by go_num, rfl, by simp; omega, HX.out, HA5.out⟩
                  case measure => simp [intOf]; omega
              · obtain ⟨hp0, hl⟩ : put = false ∧ dlt d t.d = true := by revert hb; cases put <;> cases dlt d t.d <;> simp
                have HN : Hid (putR rest ⟨d, r, U⟩ false = ((pre ++ [⟨d, r, U⟩]) ++ [t]) ++ putR (rest.drop (k + 1)) ⟨d, r, U⟩ true) := Lib.hid (by rw [Hp.out, HK.out]; simp [hl, hp0])
                subst hp0
                rw [hl]
                clear HK Hp hb hl
                go_wp2_with (at_builtin; refine wpList_hold rfl (.tmp 111) (.tmp 116) rfl HA4.out ⟨d, r, U⟩ rfl (by simp [Act.eval]) (by omega) ?_)
                intro v5 w5 hA5
                obtain ⟨pre5, hpre5⟩ : ∃ p, pre ++ [⟨d, r, U⟩] = p := ⟨_, rfl⟩
                have hpl5 : pre5.length = pre.length + 1 := by rw [← hpre5]; simp
                rw [hpre5] at hA5
                have HX := Lib.hid (show putR rest ⟨d, r, U⟩ false = (pre5 ++ [t]) ++ putR (rest.drop (k + 1)) ⟨d, r, U⟩ true by rw [HN.out, hpre5])
                have HA5 := Lib.hid hA5
                obtain ⟨g', o', hgo, -, c0, c1, c2, c3⟩ := hold_cells (HS3.out.below HA5.out.2) (List.getElem?_eq_getElem hlt)
                injection hgo with hgo; injection hgo with hgo1 hgo2; subst hgo1; subst hgo2
                rw [HT.out] at c0 c1 c2 c3
                clear hA5 hpre5 HN
                go_wp2_with (at_builtin; refine wpList_hold rfl (.tmp 118) (.tmp 123) rfl HA5.out t rfl (by simp [Act.eval]) (by omega) ?_)
                intro v6 w6 hA6
                have HA6 := Lib.hid hA6
                clear hA6
                go_wp2_with fail
                go_roundw
                case rel => exact ⟨k + 1, true, pre5 ++ [t], by omega, by go_num, rfl, by simp; omega, HX.out, HA6.out⟩
                case measure => simp [intOf]; omega
            · cases put
              · have HN : Hid (putR rest ⟨d, r, U⟩ false = pre ++ [⟨d, r, U⟩]) := Lib.hid (by rw [Hp.out, List.drop_eq_nil_of_le (by omega)]; rfl)
                clear Hp
                go_wp2_with (at_builtin; refine wpList_hold rfl (.tmp 127) (.tmp 132) rfl HA.out ⟨d, r, U⟩ rfl (by simp [Act.eval]) (by omega) ?_)
                intro v5 w5 hA5
                have HA5 := Lib.hid hA5
                clear hA5
                go_wp2_with fail
                ((try simp only [Exit.inBlock, Exit.then]); refine bodyPost_ret (results_tmp2 rfl _ _ _) rfl ?_)
                rw [HQ.out.1, HQ.out.2, HN.out]
                exact ⟨_, rfl, HA5.out.up B3.out⟩
              · have HN : Hid (putR rest ⟨d, r, U⟩ false = pre) := Lib.hid (by rw [Hp.out, List.drop_eq_nil_of_le (by omega)]; simp [putR])
                clear Hp
                go_wp2_with fail
                ((try simp only [Exit.inBlock, Exit.then]); refine bodyPost_ret (results_tmp2 rfl _ _ _) rfl ?_)
                rw [HQ.out.1, HQ.out.2, HN.out]
                exact ⟨_, rfl, HA.out.up B3.out⟩
      | some h =>
        rw [hf] at B2 HD2 Hr2
        simp only [Option.getD_some, Option.isSome_some] at B2 HD2 Hr2 ⊢
        cases e1 : (h.rc == r) <;> cases e2 : decide (now < h.un)
        all_goals have e1n : (h.rc != r) = !(h.rc == r) := rfl
        all_goals rw [e1] at e1n
        all_goals simp only [Bool.not_true, Bool.not_false] at e1n
        · obtain ⟨U, hU⟩ : ∃ U, u = U := ⟨_, rfl⟩
          have HQ := HM.out U (by rw [← hU, hf]; simp [untilR, e1]) (by unfold grantE; rw [HA.out, HT.out, hf]; simp [e1, e2])
          have HU := Lib.hid hU
          clear hU
          clear hf
          go_wp2_with fail
          clear HM HN HA HT
          simp only [HU.out] at B2 HD2 Hr2 ⊢
          refine (refGone_any A c l d _ Hr2.out hn).mono ?_
          rintro e w3 ht
          obtain ⟨A3, c3, rfl, hs3, hb3⟩ := HoldRet.sl ht
          have HS3 := Lib.hid hs3
          have B3 := Lib.hid (B2.out.trans (hb3.mono B2.out.size))
          have HD3 := Lib.hid (HD2.out.below hb3)
          have hrest := goneL_le l d
          clear ht hs3 hb3 B2 HD2 Hr2 q0 q1
          generalize goneL l d = rest at HQ HS3 hrest ⊢
          go_wp2_with fail
          go_loopw [16, 17, 18] (fun v b i wr => ∃ (k : Nat) (put : Bool) (pre : List Hold), k ≤ rest.length ∧ i = .int .i64 k ∧ b = .bool put ∧ pre.length ≤ 2 * k ∧ putR rest ⟨d, r, U⟩ false = pre ++ putR (rest.drop k) ⟨d, r, U⟩ put ∧ Acc w3 pre v wr) (fun _ _ i _ => rest.length - (intOf i).toNat)
          case atStart => exact ⟨0, false, [], Nat.zero_le _, rfl, rfl, by simp, by simp, Acc.nil (Below.refl _ _)⟩
          case round =>
            obtain ⟨k, put, pre, hk, rfl, rfl, hpl, hp, ha⟩ := hrel
            have Hp := Lib.hid hp
            have HA := Lib.hid ha
            obtain ⟨q0, q1⟩ := (HD3.out.below ha.2).cells
            have hwz := ha.2.size
            clear hp ha
            by_cases hlt : k < rest.length
            · obtain ⟨g, o, rfl, hg, c0, c1, c2, c3⟩ := hold_cells (HS3.out.below HA.out.2) (List.getElem?_eq_getElem hlt)
              have HK := Lib.hid (putR_drop rest ⟨d, r, U⟩ put k hlt)
              generalize hz : rest[k] = t at c0 c1 c2 c3 HK
              have HT := Lib.hid hz
              clear hz
              go_wp2_with fail
              refine wp_still_tail 6 (by kernel_rfl) (by kernel_rfl) ?_
              simp only [List.take_succ_cons, List.take_zero, List.drop_succ_cons, List.drop_zero]
              repeat still_step
              refine wpStill_nil ?_
              go_wp2_with fail
              refine (refLess_any d t.d _).mono ?_
              rintro e w4 ⟨rfl, hb⟩
              have HA4 := Lib.hid (HA.out.below ((Below.refl _ _).drew.trans hb))
              obtain ⟨q0, q1⟩ := (HD3.out.below HA4.out.2).cells
              obtain ⟨g', o', hgo, -, c0, c1, c2, c3⟩ := hold_cells (HS3.out.below HA4.out.2) (List.getElem?_eq_getElem hlt)
              injection hgo with hgo; injection hgo with hgo1 hgo2; subst hgo1; subst hgo2
              rw [HT.out] at c0 c1 c2 c3
              clear hb
              cases hb : (!put && dlt d t.d)
              · have HN : Hid (putR rest ⟨d, r, U⟩ false = (pre ++ [t]) ++ putR (rest.drop (k + 1)) ⟨d, r, U⟩ (put || dlt d t.d)) := Lib.hid (by rw [Hp.out, HK.out]; simp [hb])
                have HP : Hid ((put || dlt d t.d) = put) := Lib.hid (by revert hb; cases put <;> cases dlt d t.d <;> simp)
                clear HK Hp
                cases put
                · have hl : dlt d t.d = false := by simpa using hb
                  rw [hl]
                  clear hb
                  go_wp2_with (at_builtin; refine wpList_hold rfl (.tmp 118) (.tmp 123) rfl HA4.out t rfl (by simp [Act.eval]) (by omega) ?_)
                  intro v5 w5 hA5
                  have HA5 := Lib.hid hA5
                  have HX := Lib.hid (show putR rest ⟨d, r, U⟩ false = (pre ++ [t]) ++ putR (rest.drop (k + 1)) ⟨d, r, U⟩ false by rw [HN.out, HP.out])
                  clear hA5 hl
                  go_wp2_with fail
                  go_roundw
                  case rel => exact ⟨k + 1, false, pre ++ [t], by omega, by go_num, rfl, by simp; omega, HX.out, HA5.out⟩
                  case measure => simp [intOf]; omega
                · clear hb
                  go_wp2_with (at_builtin; refine wpList_hold rfl (.tmp 118) (.tmp 123) rfl HA4.out t rfl (by simp [Act.eval]) (by omega) ?_)
                  intro v5 w5 hA5
                  have HA5 := Lib.hid hA5
                  have HX := Lib.hid (show putR rest ⟨d, r, U⟩ false = (pre ++ [t]) ++ putR (rest.drop (k + 1)) ⟨d, r, U⟩ true by rw [HN.out, HP.out])
                  clear hA5
                  go_wp2_with fail
                  go_roundw
                  case rel => exact ⟨k + 1, true, pre ++ [t], by omega, by go_num, rfl, by simp; omega, HX.out, HA5.out⟩
                  case measure => simp [intOf]; omega
              · obtain ⟨hp0, hl⟩ : put = false ∧ dlt d t.d = true := by revert hb; cases put <;> cases dlt d t.d <;> simp
                have HN : Hid (putR rest ⟨d, r, U⟩ false = ((pre ++ [⟨d, r, U⟩]) ++ [t]) ++ putR (rest.drop (k + 1)) ⟨d, r, U⟩ true) := Lib.hid (by rw [Hp.out, HK.out]; simp [hl, hp0])
                subst hp0
                rw [hl]
                clear HK Hp hb hl
                go_wp2_with (at_builtin; refine wpList_hold rfl (.tmp 111) (.tmp 116) rfl HA4.out ⟨d, r, U⟩ rfl (by simp [Act.eval]) (by omega) ?_)
                intro v5 w5 hA5
                obtain ⟨pre5, hpre5⟩ : ∃ p, pre ++ [⟨d, r, U⟩] = p := ⟨_, rfl⟩
                have hpl5 : pre5.length = pre.length + 1 := by rw [← hpre5]; simp
                rw [hpre5] at hA5
                have HX := Lib.hid (show putR rest ⟨d, r, U⟩ false = (pre5 ++ [t]) ++ putR (rest.drop (k + 1)) ⟨d, r, U⟩ true by rw [HN.out, hpre5])
                have HA5 := Lib.hid hA5
                obtain ⟨g', o', hgo, -, c0, c1, c2, c3⟩ := hold_cells (HS3.out.below HA5.out.2) (List.getElem?_eq_getElem hlt)
                injection hgo with hgo; injection hgo with hgo1 hgo2; subst hgo1; subst hgo2
                rw [HT.out] at c0 c1 c2 c3
                clear hA5 hpre5 HN
                go_wp2_with (at_builtin; refine wpList_hold rfl (.tmp 118) (.tmp 123) rfl HA5.out t rfl (by simp [Act.eval]) (by omega) ?_)
                intro v6 w6 hA6
                have HA6 := Lib.hid hA6
                clear hA6
                go_wp2_with fail
                go_roundw
                case rel => exact ⟨k + 1, true, pre5 ++ [t], by omega, by go_num, rfl, by simp; omega, HX.out, HA6.out⟩
                case measure => simp [intOf]; omega
            · cases put
              · have HN : Hid (putR rest ⟨d, r, U⟩ false = pre ++ [⟨d, r, U⟩]) := Lib.hid (by rw [Hp.out, List.drop_eq_nil_of_le (by omega)]; rfl)
                clear Hp
                go_wp2_with (at_builtin; refine wpList_hold rfl (.tmp 127) (.tmp 132) rfl HA.out ⟨d, r, U⟩ rfl (by simp [Act.eval]) (by omega) ?_)
                intro v5 w5 hA5
                have HA5 := Lib.hid hA5
                clear hA5
                go_wp2_with fail
                ((try simp only [Exit.inBlock, Exit.then]); refine bodyPost_ret (results_tmp2 rfl _ _ _) rfl ?_)
                rw [HQ.out.1, HQ.out.2, HN.out]
                exact ⟨_, rfl, HA5.out.up B3.out⟩
              · have HN : Hid (putR rest ⟨d, r, U⟩ false = pre) := Lib.hid (by rw [Hp.out, List.drop_eq_nil_of_le (by omega)]; simp [putR])
                clear Hp
                go_wp2_with fail
                ((try simp only [Exit.inBlock, Exit.then]); refine bodyPost_ret (results_tmp2 rfl _ _ _) rfl ?_)
                rw [HQ.out.1, HQ.out.2, HN.out]
                exact ⟨_, rfl, HA.out.up B3.out⟩
        · have HQ := HN.out 16 (by unfold grantE; rw [HA.out, HT.out, hf]; simp [e1, e2]) (by omega)
          clear hf
          go_wp2_with fail
          ((try simp only [Exit.inBlock, Exit.then]); refine bodyPost_ret (results_tmp2 rfl _ _ _) rfl ?_)
          rw [HQ.out.1, HQ.out.2]
          exact holds_nil 16 B2.out
        · obtain ⟨U, hU⟩ : ∃ U, u = U := ⟨_, rfl⟩
          have HQ := HM.out U (by rw [← hU, hf]; simp [untilR, e1, e2]) (by unfold grantE; rw [HA.out, HT.out, hf]; simp [e1, e2])
          have HU := Lib.hid hU
          clear hU
          clear hf
          go_wp2_with fail
          clear HM HN HA HT
          simp only [HU.out] at B2 HD2 Hr2 ⊢
          refine (refGone_any A c l d _ Hr2.out hn).mono ?_
          rintro e w3 ht
          obtain ⟨A3, c3, rfl, hs3, hb3⟩ := HoldRet.sl ht
          have HS3 := Lib.hid hs3
          have B3 := Lib.hid (B2.out.trans (hb3.mono B2.out.size))
          have HD3 := Lib.hid (HD2.out.below hb3)
          have hrest := goneL_le l d
          clear ht hs3 hb3 B2 HD2 Hr2 q0 q1
          generalize goneL l d = rest at HQ HS3 hrest ⊢
          go_wp2_with fail
          go_loopw [16, 17, 18] (fun v b i wr => ∃ (k : Nat) (put : Bool) (pre : List Hold), k ≤ rest.length ∧ i = .int .i64 k ∧ b = .bool put ∧ pre.length ≤ 2 * k ∧ putR rest ⟨d, r, U⟩ false = pre ++ putR (rest.drop k) ⟨d, r, U⟩ put ∧ Acc w3 pre v wr) (fun _ _ i _ => rest.length - (intOf i).toNat)
          case atStart => exact ⟨0, false, [], Nat.zero_le _, rfl, rfl, by simp, by simp, Acc.nil (Below.refl _ _)⟩
          case round =>
            obtain ⟨k, put, pre, hk, rfl, rfl, hpl, hp, ha⟩ := hrel
            have Hp := Lib.hid hp
            have HA := Lib.hid ha
            obtain ⟨q0, q1⟩ := (HD3.out.below ha.2).cells
            have hwz := ha.2.size
            clear hp ha
            by_cases hlt : k < rest.length
            · obtain ⟨g, o, rfl, hg, c0, c1, c2, c3⟩ := hold_cells (HS3.out.below HA.out.2) (List.getElem?_eq_getElem hlt)
              have HK := Lib.hid (putR_drop rest ⟨d, r, U⟩ put k hlt)
              generalize hz : rest[k] = t at c0 c1 c2 c3 HK
              have HT := Lib.hid hz
              clear hz
              go_wp2_with fail
              refine wp_still_tail 6 (by kernel_rfl) (by kernel_rfl) ?_
              simp only [List.take_succ_cons, List.take_zero, List.drop_succ_cons, List.drop_zero]
              repeat still_step
              refine wpStill_nil ?_
              go_wp2_with fail
              refine (refLess_any d t.d _).mono ?_
              rintro e w4 ⟨rfl, hb⟩
              have HA4 := Lib.hid (HA.out.below ((Below.refl _ _).drew.trans hb))
              obtain ⟨q0, q1⟩ := (HD3.out.below HA4.out.2).cells
              obtain ⟨g', o', hgo, -, c0, c1, c2, c3⟩ := hold_cells (HS3.out.below HA4.out.2) (List.getElem?_eq_getElem hlt)
              injection hgo with hgo; injection hgo with hgo1 hgo2; subst hgo1; subst hgo2
              rw [HT.out] at c0 c1 c2 c3
              clear hb
              cases hb : (!put && dlt d t.d)
              · have HN : Hid (putR rest ⟨d, r, U⟩ false = (pre ++ [t]) ++ putR (rest.drop (k + 1)) ⟨d, r, U⟩ (put || dlt d t.d)) := Lib.hid (by rw [Hp.out, HK.out]; simp [hb])
                have HP : Hid ((put || dlt d t.d) = put) := Lib.hid (by revert hb; cases put <;> cases dlt d t.d <;> simp)
                clear HK Hp
                cases put
                · have hl : dlt d t.d = false := by simpa using hb
                  rw [hl]
                  clear hb
                  go_wp2_with (at_builtin; refine wpList_hold rfl (.tmp 118) (.tmp 123) rfl HA4.out t rfl (by simp [Act.eval]) (by omega) ?_)
                  intro v5 w5 hA5
                  have HA5 := Lib.hid hA5
                  have HX := Lib.hid (show putR rest ⟨d, r, U⟩ false = (pre ++ [t]) ++ putR (rest.drop (k + 1)) ⟨d, r, U⟩ false by rw [HN.out, HP.out])
                  clear hA5 hl
                  go_wp2_with fail
                  go_roundw
                  case rel => exact ⟨k + 1, false, pre ++ [t], by omega, by go_num, rfl, by simp; omega, HX.out, HA5.out⟩
                  case measure => simp [intOf]; omega
                · clear hb
                  go_wp2_with (at_builtin; refine wpList_hold rfl (.tmp 118) (.tmp 123) rfl HA4.out t rfl (by simp [Act.eval]) (by omega) ?_)
                  intro v5 w5 hA5
                  have HA5 := Lib.hid hA5
                  have HX := Lib.hid (show putR rest ⟨d, r, U⟩ false = (pre ++ [t]) ++ putR (rest.drop (k + 1)) ⟨d, r, U⟩ true by rw [HN.out, HP.out])
                  clear hA5
                  go_wp2_with fail
                  go_roundw
                  case rel => exact ⟨k + 1, true, pre ++ [t], by omega, by go_num, rfl, by simp; omega, HX.out, HA5.out⟩
                  case measure => simp [intOf]; omega
              · obtain ⟨hp0, hl⟩ : put = false ∧ dlt d t.d = true := by revert hb; cases put <;> cases dlt d t.d <;> simp
                have HN : Hid (putR rest ⟨d, r, U⟩ false = ((pre ++ [⟨d, r, U⟩]) ++ [t]) ++ putR (rest.drop (k + 1)) ⟨d, r, U⟩ true) := Lib.hid (by rw [Hp.out, HK.out]; simp [hl, hp0])
                subst hp0
                rw [hl]
                clear HK Hp hb hl
                go_wp2_with (at_builtin; refine wpList_hold rfl (.tmp 111) (.tmp 116) rfl HA4.out ⟨d, r, U⟩ rfl (by simp [Act.eval]) (by omega) ?_)
                intro v5 w5 hA5
                obtain ⟨pre5, hpre5⟩ : ∃ p, pre ++ [⟨d, r, U⟩] = p := ⟨_, rfl⟩
                have hpl5 : pre5.length = pre.length + 1 := by rw [← hpre5]; simp
                rw [hpre5] at hA5
                have HX := Lib.hid (show putR rest ⟨d, r, U⟩ false = (pre5 ++ [t]) ++ putR (rest.drop (k + 1)) ⟨d, r, U⟩ true by rw [HN.out, hpre5])
                have HA5 := Lib.hid hA5
                obtain ⟨g', o', hgo, -, c0, c1, c2, c3⟩ := hold_cells (HS3.out.below HA5.out.2) (List.getElem?_eq_getElem hlt)
                injection hgo with hgo; injection hgo with hgo1 hgo2; subst hgo1; subst hgo2
                rw [HT.out] at c0 c1 c2 c3
                clear hA5 hpre5 HN
                go_wp2_with (at_builtin; refine wpList_hold rfl (.tmp 118) (.tmp 123) rfl HA5.out t rfl (by simp [Act.eval]) (by omega) ?_)
                intro v6 w6 hA6
                have HA6 := Lib.hid hA6
                clear hA6
                go_wp2_with fail
                go_roundw
                case rel => exact ⟨k + 1, true, pre5 ++ [t], by omega, by go_num, rfl, by simp; omega, HX.out, HA6.out⟩
                case measure => simp [intOf]; omega
            · cases put
              · have HN : Hid (putR rest ⟨d, r, U⟩ false = pre ++ [⟨d, r, U⟩]) := Lib.hid (by rw [Hp.out, List.drop_eq_nil_of_le (by omega)]; rfl)
                clear Hp
                go_wp2_with (at_builtin; refine wpList_hold rfl (.tmp 127) (.tmp 132) rfl HA.out ⟨d, r, U⟩ rfl (by simp [Act.eval]) (by omega) ?_)
                intro v5 w5 hA5
                have HA5 := Lib.hid hA5
                clear hA5
                go_wp2_with fail
                ((try simp only [Exit.inBlock, Exit.then]); refine bodyPost_ret (results_tmp2 rfl _ _ _) rfl ?_)
                rw [HQ.out.1, HQ.out.2, HN.out]
                exact ⟨_, rfl, HA5.out.up B3.out⟩
              · have HN : Hid (putR rest ⟨d, r, U⟩ false = pre) := Lib.hid (by rw [Hp.out, List.drop_eq_nil_of_le (by omega)]; simp [putR])
                clear Hp
                go_wp2_with fail
                ((try simp only [Exit.inBlock, Exit.then]); refine bodyPost_ret (results_tmp2 rfl _ _ _) rfl ?_)
                rw [HQ.out.1, HQ.out.2, HN.out]
                exact ⟨_, rfl, HA.out.up B3.out⟩
        · cases e3 : decide (u < h.un)
          · obtain ⟨U, hU⟩ : ∃ U, u = U := ⟨_, rfl⟩
            have HQ := HM.out U (by rw [← hU, hf]; simp [untilR, e1, e2, e3]) (by unfold grantE; rw [HA.out, HT.out, hf]; simp [e1, e2])
            have HU := Lib.hid hU
            clear hU
            clear hf
            go_wp2_with fail
            clear HM HN HA HT
            simp only [HU.out] at B2 HD2 Hr2 ⊢
            refine (refGone_any A c l d _ Hr2.out hn).mono ?_
            rintro e w3 ht
            obtain ⟨A3, c3, rfl, hs3, hb3⟩ := HoldRet.sl ht
            have HS3 := Lib.hid hs3
            have B3 := Lib.hid (B2.out.trans (hb3.mono B2.out.size))
            have HD3 := Lib.hid (HD2.out.below hb3)
            have hrest := goneL_le l d
            clear ht hs3 hb3 B2 HD2 Hr2 q0 q1
            generalize goneL l d = rest at HQ HS3 hrest ⊢
            go_wp2_with fail
            go_loopw [16, 17, 18] (fun v b i wr => ∃ (k : Nat) (put : Bool) (pre : List Hold), k ≤ rest.length ∧ i = .int .i64 k ∧ b = .bool put ∧ pre.length ≤ 2 * k ∧ putR rest ⟨d, r, U⟩ false = pre ++ putR (rest.drop k) ⟨d, r, U⟩ put ∧ Acc w3 pre v wr) (fun _ _ i _ => rest.length - (intOf i).toNat)
            case atStart => exact ⟨0, false, [], Nat.zero_le _, rfl, rfl, by simp, by simp, Acc.nil (Below.refl _ _)⟩
            case round =>
              obtain ⟨k, put, pre, hk, rfl, rfl, hpl, hp, ha⟩ := hrel
              have Hp := Lib.hid hp
              have HA := Lib.hid ha
              obtain ⟨q0, q1⟩ := (HD3.out.below ha.2).cells
              have hwz := ha.2.size
              clear hp ha
              by_cases hlt : k < rest.length
              · obtain ⟨g, o, rfl, hg, c0, c1, c2, c3⟩ := hold_cells (HS3.out.below HA.out.2) (List.getElem?_eq_getElem hlt)
                have HK := Lib.hid (putR_drop rest ⟨d, r, U⟩ put k hlt)
                generalize hz : rest[k] = t at c0 c1 c2 c3 HK
                have HT := Lib.hid hz
                clear hz
                go_wp2_with fail
                refine wp_still_tail 6 (by kernel_rfl) (by kernel_rfl) ?_
                simp only [List.take_succ_cons, List.take_zero, List.drop_succ_cons, List.drop_zero]
                repeat still_step
                refine wpStill_nil ?_
                go_wp2_with fail
                refine (refLess_any d t.d _).mono ?_
                rintro e w4 ⟨rfl, hb⟩
                have HA4 := Lib.hid (HA.out.below ((Below.refl _ _).drew.trans hb))
                obtain ⟨q0, q1⟩ := (HD3.out.below HA4.out.2).cells
                obtain ⟨g', o', hgo, -, c0, c1, c2, c3⟩ := hold_cells (HS3.out.below HA4.out.2) (List.getElem?_eq_getElem hlt)
                injection hgo with hgo; injection hgo with hgo1 hgo2; subst hgo1; subst hgo2
                rw [HT.out] at c0 c1 c2 c3
                clear hb
                cases hb : (!put && dlt d t.d)
                · have HN : Hid (putR rest ⟨d, r, U⟩ false = (pre ++ [t]) ++ putR (rest.drop (k + 1)) ⟨d, r, U⟩ (put || dlt d t.d)) := Lib.hid (by rw [Hp.out, HK.out]; simp [hb])
                  have HP : Hid ((put || dlt d t.d) = put) := Lib.hid (by revert hb; cases put <;> cases dlt d t.d <;> simp)
                  clear HK Hp
                  cases put
                  · have hl : dlt d t.d = false := by simpa using hb
                    rw [hl]
                    clear hb
                    go_wp2_with (at_builtin; refine wpList_hold rfl (.tmp 118) (.tmp 123) rfl HA4.out t rfl (by simp [Act.eval]) (by omega) ?_)
                    intro v5 w5 hA5
                    have HA5 := Lib.hid hA5
                    have HX := Lib.hid (show putR rest ⟨d, r, U⟩ false = (pre ++ [t]) ++ putR (rest.drop (k + 1)) ⟨d, r, U⟩ false by rw [HN.out, HP.out])
                    clear hA5 hl
                    go_wp2_with fail
                    go_roundw
                    case rel => exact ⟨k + 1, false, pre ++ [t], by omega, by go_num, rfl, by simp; omega, HX.out, HA5.out⟩
                    case measure => simp [intOf]; omega
                  · clear hb
                    go_wp2_with (at_builtin; refine wpList_hold rfl (.tmp 118) (.tmp 123) rfl HA4.out t rfl (by simp [Act.eval]) (by omega) ?_)
                    intro v5 w5 hA5
                    have HA5 := Lib.hid hA5
                    have HX := Lib.hid (show putR rest ⟨d, r, U⟩ false = (pre ++ [t]) ++ putR (rest.drop (k + 1)) ⟨d, r, U⟩ true by rw [HN.out, HP.out])
                    clear hA5
                    go_wp2_with fail
                    go_roundw
                    case rel => exact ⟨k + 1, true, pre ++ [t], by omega, by go_num, rfl, by simp; omega, HX.out, HA5.out⟩
                    case measure => simp [intOf]; omega
                · obtain ⟨hp0, hl⟩ : put = false ∧ dlt d t.d = true := by revert hb; cases put <;> cases dlt d t.d <;> simp
                  have HN : Hid (putR rest ⟨d, r, U⟩ false = ((pre ++ [⟨d, r, U⟩]) ++ [t]) ++ putR (rest.drop (k + 1)) ⟨d, r, U⟩ true) := Lib.hid (by rw [Hp.out, HK.out]; simp [hl, hp0])
                  subst hp0
                  rw [hl]
                  clear HK Hp hb hl
                  go_wp2_with (at_builtin; refine wpList_hold rfl (.tmp 111) (.tmp 116) rfl HA4.out ⟨d, r, U⟩ rfl (by simp [Act.eval]) (by omega) ?_)
                  intro v5 w5 hA5
                  obtain ⟨pre5, hpre5⟩ : ∃ p, pre ++ [⟨d, r, U⟩] = p := ⟨_, rfl⟩
                  have hpl5 : pre5.length = pre.length + 1 := by rw [← hpre5]; simp
                  rw [hpre5] at hA5
                  have HX := Lib.hid (show putR rest ⟨d, r, U⟩ false = (pre5 ++ [t]) ++ putR (rest.drop (k + 1)) ⟨d, r, U⟩ true by rw [HN.out, hpre5])
                  have HA5 := Lib.hid hA5
                  obtain ⟨g', o', hgo, -, c0, c1, c2, c3⟩ := hold_cells (HS3.out.below HA5.out.2) (List.getElem?_eq_getElem hlt)
                  injection hgo with hgo; injection hgo with hgo1 hgo2; subst hgo1; subst hgo2
                  rw [HT.out] at c0 c1 c2 c3
                  clear hA5 hpre5 HN
                  go_wp2_with (at_builtin; refine wpList_hold rfl (.tmp 118) (.tmp 123) rfl HA5.out t rfl (by simp [Act.eval]) (by omega) ?_)
                  intro v6 w6 hA6
                  have HA6 := Lib.hid hA6
                  clear hA6
                  go_wp2_with fail
                  go_roundw
                  case rel => exact ⟨k + 1, true, pre5 ++ [t], by omega, by go_num, rfl, by simp; omega, HX.out, HA6.out⟩
                  case measure => simp [intOf]; omega
              · cases put
                · have HN : Hid (putR rest ⟨d, r, U⟩ false = pre ++ [⟨d, r, U⟩]) := Lib.hid (by rw [Hp.out, List.drop_eq_nil_of_le (by omega)]; rfl)
                  clear Hp
                  go_wp2_with (at_builtin; refine wpList_hold rfl (.tmp 127) (.tmp 132) rfl HA.out ⟨d, r, U⟩ rfl (by simp [Act.eval]) (by omega) ?_)
                  intro v5 w5 hA5
                  have HA5 := Lib.hid hA5
                  clear hA5
                  go_wp2_with fail
                  ((try simp only [Exit.inBlock, Exit.then]); refine bodyPost_ret (results_tmp2 rfl _ _ _) rfl ?_)
                  rw [HQ.out.1, HQ.out.2, HN.out]
                  exact ⟨_, rfl, HA5.out.up B3.out⟩
                · have HN : Hid (putR rest ⟨d, r, U⟩ false = pre) := Lib.hid (by rw [Hp.out, List.drop_eq_nil_of_le (by omega)]; simp [putR])
                  clear Hp
                  go_wp2_with fail
                  ((try simp only [Exit.inBlock, Exit.then]); refine bodyPost_ret (results_tmp2 rfl _ _ _) rfl ?_)
                  rw [HQ.out.1, HQ.out.2, HN.out]
                  exact ⟨_, rfl, HA.out.up B3.out⟩
          · obtain ⟨U, hU⟩ : ∃ U, h.un = U := ⟨_, rfl⟩
            have HQ := HM.out U (by rw [← hU, hf]; simp [untilR, e1, e2, e3]) (by unfold grantE; rw [HA.out, HT.out, hf]; simp [e1, e2])
            have HU := Lib.hid hU
            clear hU
            clear hf
            go_wp2_with fail
            clear HM HN HA HT
            simp only [HU.out] at B2 HD2 Hr2 ⊢
            refine (refGone_any A c l d _ Hr2.out hn).mono ?_
            rintro e w3 ht
            obtain ⟨A3, c3, rfl, hs3, hb3⟩ := HoldRet.sl ht
            have HS3 := Lib.hid hs3
            have B3 := Lib.hid (B2.out.trans (hb3.mono B2.out.size))
            have HD3 := Lib.hid (HD2.out.below hb3)
            have hrest := goneL_le l d
            clear ht hs3 hb3 B2 HD2 Hr2 q0 q1
            generalize goneL l d = rest at HQ HS3 hrest ⊢
            go_wp2_with fail
            go_loopw [16, 17, 18] (fun v b i wr => ∃ (k : Nat) (put : Bool) (pre : List Hold), k ≤ rest.length ∧ i = .int .i64 k ∧ b = .bool put ∧ pre.length ≤ 2 * k ∧ putR rest ⟨d, r, U⟩ false = pre ++ putR (rest.drop k) ⟨d, r, U⟩ put ∧ Acc w3 pre v wr) (fun _ _ i _ => rest.length - (intOf i).toNat)
            case atStart => exact ⟨0, false, [], Nat.zero_le _, rfl, rfl, by simp, by simp, Acc.nil (Below.refl _ _)⟩
            case round =>
              obtain ⟨k, put, pre, hk, rfl, rfl, hpl, hp, ha⟩ := hrel
              have Hp := Lib.hid hp
              have HA := Lib.hid ha
              obtain ⟨q0, q1⟩ := (HD3.out.below ha.2).cells
              have hwz := ha.2.size
              clear hp ha
              by_cases hlt : k < rest.length
              · obtain ⟨g, o, rfl, hg, c0, c1, c2, c3⟩ := hold_cells (HS3.out.below HA.out.2) (List.getElem?_eq_getElem hlt)
                have HK := Lib.hid (putR_drop rest ⟨d, r, U⟩ put k hlt)
                generalize hz : rest[k] = t at c0 c1 c2 c3 HK
                have HT := Lib.hid hz
                clear hz
                go_wp2_with fail
                refine wp_still_tail 6 (by kernel_rfl) (by kernel_rfl) ?_
                simp only [List.take_succ_cons, List.take_zero, List.drop_succ_cons, List.drop_zero]
                repeat still_step
                refine wpStill_nil ?_
                go_wp2_with fail
                refine (refLess_any d t.d _).mono ?_
                rintro e w4 ⟨rfl, hb⟩
                have HA4 := Lib.hid (HA.out.below ((Below.refl _ _).drew.trans hb))
                obtain ⟨q0, q1⟩ := (HD3.out.below HA4.out.2).cells
                obtain ⟨g', o', hgo, -, c0, c1, c2, c3⟩ := hold_cells (HS3.out.below HA4.out.2) (List.getElem?_eq_getElem hlt)
                injection hgo with hgo; injection hgo with hgo1 hgo2; subst hgo1; subst hgo2
                rw [HT.out] at c0 c1 c2 c3
                clear hb
                cases hb : (!put && dlt d t.d)
                · have HN : Hid (putR rest ⟨d, r, U⟩ false = (pre ++ [t]) ++ putR (rest.drop (k + 1)) ⟨d, r, U⟩ (put || dlt d t.d)) := Lib.hid (by rw [Hp.out, HK.out]; simp [hb])
                  have HP : Hid ((put || dlt d t.d) = put) := Lib.hid (by revert hb; cases put <;> cases dlt d t.d <;> simp)
                  clear HK Hp
                  cases put
                  · have hl : dlt d t.d = false := by simpa using hb
                    rw [hl]
                    clear hb
                    go_wp2_with (at_builtin; refine wpList_hold rfl (.tmp 118) (.tmp 123) rfl HA4.out t rfl (by simp [Act.eval]) (by omega) ?_)
                    intro v5 w5 hA5
                    have HA5 := Lib.hid hA5
                    have HX := Lib.hid (show putR rest ⟨d, r, U⟩ false = (pre ++ [t]) ++ putR (rest.drop (k + 1)) ⟨d, r, U⟩ false by rw [HN.out, HP.out])
                    clear hA5 hl
                    go_wp2_with fail
                    go_roundw
                    case rel => exact ⟨k + 1, false, pre ++ [t], by omega, by go_num, rfl, by simp; omega, HX.out, HA5.out⟩
                    case measure => simp [intOf]; omega
                  · clear hb
                    go_wp2_with (at_builtin; refine wpList_hold rfl (.tmp 118) (.tmp 123) rfl HA4.out t rfl (by simp [Act.eval]) (by omega) ?_)
                    intro v5 w5 hA5
                    have HA5 := Lib.hid hA5
                    have HX := Lib.hid (show putR rest ⟨d, r, U⟩ false = (pre ++ [t]) ++ putR (rest.drop (k + 1)) ⟨d, r, U⟩ true by rw [HN.out, HP.out])
                    clear hA5
                    go_wp2_with fail
                    go_roundw
                    case rel => exact ⟨k + 1, true, pre ++ [t], by omega, by go_num, rfl, by simp; omega, HX.out, HA5.out⟩
                    case measure => simp [intOf]; omega
                · obtain ⟨hp0, hl⟩ : put = false ∧ dlt d t.d = true := by revert hb; cases put <;> cases dlt d t.d <;> simp
                  have HN : Hid (putR rest ⟨d, r, U⟩ false = ((pre ++ [⟨d, r, U⟩]) ++ [t]) ++ putR (rest.drop (k + 1)) ⟨d, r, U⟩ true) := Lib.hid (by rw [Hp.out, HK.out]; simp [hl, hp0])
                  subst hp0
                  rw [hl]
                  clear HK Hp hb hl
                  go_wp2_with (at_builtin; refine wpList_hold rfl (.tmp 111) (.tmp 116) rfl HA4.out ⟨d, r, U⟩ rfl (by simp [Act.eval]) (by omega) ?_)
                  intro v5 w5 hA5
                  obtain ⟨pre5, hpre5⟩ : ∃ p, pre ++ [⟨d, r, U⟩] = p := ⟨_, rfl⟩
                  have hpl5 : pre5.length = pre.length + 1 := by rw [← hpre5]; simp
                  rw [hpre5] at hA5
                  have HX := Lib.hid (show putR rest ⟨d, r, U⟩ false = (pre5 ++ [t]) ++ putR (rest.drop (k + 1)) ⟨d, r, U⟩ true by rw [HN.out, hpre5])
                  have HA5 := Lib.hid hA5
                  obtain ⟨g', o', hgo, -, c0, c1, c2, c3⟩ := hold_cells (HS3.out.below HA5.out.2) (List.getElem?_eq_getElem hlt)
                  injection hgo with hgo; injection hgo with hgo1 hgo2; subst hgo1; subst hgo2
                  rw [HT.out] at c0 c1 c2 c3
                  clear hA5 hpre5 HN
                  go_wp2_with (at_builtin; refine wpList_hold rfl (.tmp 118) (.tmp 123) rfl HA5.out t rfl (by simp [Act.eval]) (by omega) ?_)
                  intro v6 w6 hA6
                  have HA6 := Lib.hid hA6
                  clear hA6
                  go_wp2_with fail
                  go_roundw
                  case rel => exact ⟨k + 1, true, pre5 ++ [t], by omega, by go_num, rfl, by simp; omega, HX.out, HA6.out⟩
                  case measure => simp [intOf]; omega
              · cases put
                · have HN : Hid (putR rest ⟨d, r, U⟩ false = pre ++ [⟨d, r, U⟩]) := Lib.hid (by rw [Hp.out, List.drop_eq_nil_of_le (by omega)]; rfl)
                  clear Hp
                  go_wp2_with (at_builtin; refine wpList_hold rfl (.tmp 127) (.tmp 132) rfl HA.out ⟨d, r, U⟩ rfl (by simp [Act.eval]) (by omega) ?_)
                  intro v5 w5 hA5
                  have HA5 := Lib.hid hA5
                  clear hA5
                  go_wp2_with fail
                  ((try simp only [Exit.inBlock, Exit.then]); refine bodyPost_ret (results_tmp2 rfl _ _ _) rfl ?_)
                  rw [HQ.out.1, HQ.out.2, HN.out]
                  exact ⟨_, rfl, HA5.out.up B3.out⟩
                · have HN : Hid (putR rest ⟨d, r, U⟩ false = pre) := Lib.hid (by rw [Hp.out, List.drop_eq_nil_of_le (by omega)]; simp [putR])
                  clear Hp
                  go_wp2_with fail
                  ((try simp only [Exit.inBlock, Exit.then]); refine bodyPost_ret (results_tmp2 rfl _ _ _) rfl ?_)
                  rw [HQ.out.1, HQ.out.2, HN.out]
                  exact ⟨_, rfl, HA.out.up B3.out⟩

end Go.Proofs.Ythmclonjgbmhhaa
