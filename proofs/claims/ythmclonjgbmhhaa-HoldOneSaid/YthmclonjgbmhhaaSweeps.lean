/-
  HoldSweeps: the walk.
-/
import Derived.Test.YthmclonjgbmhhaaRow
namespace Go.Proofs.Ythmclonjgbmhhaa
open Go.RowKit
set_option linter.unusedVariables false

theorem good_ok {t : Hold} (h : Good t) (r : Int) (hr : okI r = true) : okArg t.d r = true := by unfold okArg; rw [h.1, hr]; rfl

/-- What a swept row answers of a promise that there was. -/
theorem sweep_find {l : List Hold} (hf : Fine l) (now : Int) {t : Hold} (ht : t ∈ l) : findC (sweepL l now) t.d = if now < t.un then some t else none := by
  have hS : Srt (sweepL l now) := srt_filter hf.1 _
  rw [find_eq hS, find_sweep hf.1, find_mem hf.1 ht]
theorem sweep_grant {l : List Hold} (hf : Fine l) (hl : l.length ≤ 12) (now : Int) (hn : now < 200) {t : Hold} (ht : t ∈ l) (hrc : t.rc ≠ 9) : (grantCE (sweepL l now) now t.d 9 200 == 0) = !decide (now < t.un) := by
  unfold grantCE
  rw [good_ok (hf.2 t ht) 9 (by decide), show okTime now 200 = true by (unfold okTime okT; simp; omega), sweep_find hf now ht]
  have hlen : (sweepL l now).length ≤ 12 := Nat.le_trans (List.length_filter_le _ _) hl
  by_cases h : now < t.un
  · have e9 : (t.rc == 9) = false := by simpa using hrc
    rw [if_pos h]
    simp [e9, h]
  · rw [if_neg h]
    simp [h]; omega

/-- What is made is of receipts from 1 to 4, up to times from 1 to 64. -/
def Small (t : Hold) : Prop := 1 ≤ t.rc ∧ t.rc ≤ 4 ∧ 1 ≤ t.un ∧ t.un ≤ 64
theorem madeH_small (t : Hold) : Small (madeH t) := by
  have h1 : 0 ≤ bit t.rc 3 ∧ bit t.rc 3 ≤ 3 := bit_in t.rc 3 (by omega)
  have h2 : 0 ≤ bit t.un 63 ∧ bit t.un 63 ≤ 63 := bit_in t.un 63 (by omega)
  unfold Small madeH
  simp only
  omega
theorem mem_gone {l : List Hold} {d : Dot} {x : Hold} (h : x ∈ goneL l d) : x ∈ l := (List.mem_filter.1 h).1
theorem step_small {out : List Hold} (hf : Fine out) (hs : ∀ t ∈ out, Small t) (t : Hold) : ∀ x ∈ stepL out t, Small x := by
  intro x hx
  unfold stepL at hx
  split at hx
  · rename_i h
    rw [← grant_eq hf.1] at hx
    unfold grantC at hx
    rw [grantE_eq hf.1, if_pos h] at hx
    rcases mem_putC hx with rfl | hx
    · have hm := madeH_small t
      refine ⟨hm.1, hm.2.1, ?_⟩
      simp only
      unfold untilR
      rw [find_eq hf.1]
      cases hfi : findR out (madeH t).d with
      | none => exact hm.2.2
      | some y =>
        simp only
        split
        · exact (hs y (find_some hfi).1).2.2
        · exact hm.2.2
    · exact hs x hx
  · exact hs x hx
theorem made_small (l : List Hold) : ∀ t ∈ madeL l, Small t := by
  unfold madeL madeG
  have key : ∀ (m : List Hold) (out : List Hold), Fine out → (∀ t ∈ out, Small t) → ∀ t ∈ m.foldl stepL out, Small t := by
    intro m
    induction m with
    | nil => intro out _ h; exact h
    | cons t m ih => intro out hf h; exact ih _ (step_fine hf t) (step_small hf h t)
  exact key (l.take 12) [] fine_nil (fun t ht => by cases ht)

theorem bit127 (n : Int) : 0 ≤ bit n 127 ∧ bit n 127 ≤ 127 := bit_in n 127 (by omega)

set_option maxRecDepth 20000 in
set_option maxHeartbeats 4000000 in
theorem sweeps_walk (A0 : Option Addr) (c0 : Nat) (l0 : List Hold) (at_ : Int) (w : World) (hr : Sl w 4 A0 l0.length (hcells l0)) (hn : l0.length ≤ 9223372036854775807) :
    Calls Try.prog 6 #[.slice A0 l0.length c0, .int .i64 at_] w fun e w' => e = .returned (.bool true) ∧ Below w.heap.size w w' := by
  have Hr := Lib.hid hr
  clear hr
  go_enter Try.func6, Try.ntmps6
  go_wp2_with fail
  refine (awake_any _).mono ?_
  rintro e w0 ⟨rfl, hb0⟩
  have B0 := Lib.hid hb0
  have Hr0 := Lib.hid (Hr.out.below hb0)
  clear hb0
  go_wp2_with fail
  refine (made_any A0 c0 l0 _ Hr0.out hn).mono ?_
  rintro e w1 ⟨v1, rfl, ha1⟩
  have MF := Lib.hid (made_fine l0)
  have hml := made_len l0
  have MS := Lib.hid (made_small l0)
  generalize madeL l0 = m at ha1 MF hml MS
  obtain ⟨A, c, rfl, hsl, hc⟩ := ha1.slice
  have HA := Lib.hid (Acc.up B0.out ha1)
  clear ha1 hsl hc
  obtain ⟨now, hnow⟩ : ∃ now, bits .and .i64 at_ 127 = now := ⟨_, rfl⟩
  have hn7 := bit127 at_
  rw [show bit at_ 127 = now from hnow] at hn7
  go_wp2_with fail
  clear hnow
  refine (sweep_any A c m now _ HA.out.sl (by omega)).mono ?_
  rintro e w2 ⟨v2, rfl, ha2⟩
  obtain ⟨S, sc, rfl, hsl2, hsc⟩ := ha2.slice
  have HS := Lib.hid (Acc.up HA.out.2 ha2)
  have HM := Lib.hid (HA.out.below ha2.2)
  have hslen : (sweepL m now).length ≤ m.length := List.length_filter_le _ _
  clear ha2 hsl2 hsc
  go_wp2_with fail
  go_loopw [9] (fun i wr => ∃ (k : Nat), k ≤ m.length ∧ i = .int .i64 k ∧ Acc w m (.slice A m.length c) wr ∧ Acc w (sweepL m now) (.slice S (sweepL m now).length sc) wr) (fun i _ => m.length - (intOf i).toNat)
  case atStart => exact ⟨0, Nat.zero_le _, rfl, HM.out, HS.out⟩
  case round =>
    obtain ⟨k, hk, rfl, hm, hs⟩ := hrel
    have HM := Lib.hid hm
    have HS := Lib.hid hs
    clear hm hs
    by_cases hlt : k < m.length
    · obtain ⟨g, o, rfl, hg, x0, x1, x2, x3⟩ := hold_cells HM.out.sl (List.getElem?_eq_getElem hlt)
      have hmem := List.getElem_mem hlt
      have HF := Lib.hid (sweep_find MF.out now hmem)
      have HE := Lib.hid (sweep_grant MF.out hml now (by omega) hmem (by have := MS.out _ hmem; unfold Small at this; omega))
      have HZ := Lib.hid (List.getElem?_eq_getElem hlt)
      clear hmem
      generalize hz : m[k] = t at x0 x1 x2 x3 HF HE HZ
      clear hz
      go_wp2_with fail
      have HB3 := Lib.hid (fun (w3 : World) (hb3 : Below wr.heap.size wr w3) (n : Nat) (ob : Obj) => (show Acc w m (.slice (some ⟨g, o, none⟩) m.length c) ((w3.alloc ob).drewN n) ∧ Acc w (sweepL m now) (.slice S (sweepL m now).length sc) ((w3.alloc ob).drewN n) from by
        have hb : Below wr.heap.size wr ((w3.alloc ob).drewN n) := below_drewN (hb3.alloc hb3.size ob) n
        exact ⟨HM.out.below hb, HS.out.below hb⟩))
      refine (Find_any S sc (sweepL m now) t.d _ HS.out.sl (by omega)).mono ?_
      by_cases hu : now < t.un
      · have HF2 : Hid (findC (sweepL m now) t.d = some t) := Lib.hid (by rw [HF.out, if_pos hu])
        have hE : (grantCE (sweepL m now) now t.d 9 200 == 0) = false := by rw [HE.out]; simpa using hu
        have HE2 := Lib.hid hE
        clear HF HE hE
        rw [HF2.out]
        rintro e w3 ⟨rfl, hb3⟩
        simp only [Option.getD_some, Option.isSome_some]
        obtain ⟨g', o', hgo, hg3, y0, y1, y2, y3⟩ := hold_cells (HM.out.below hb3).sl HZ.out
        injection hgo with hgo; injection hgo with hgo1 hgo2; subst hgo1; subst hgo2
        have HB4 := Lib.hid (fun n o => HB3.out w3 hb3 n o)
        have hq := fun W => neq_hold t t W
        have hgq := fun op x y W => eqGuard_hold op x y t t W
        rw [decide_eq_true rfl] at hq
        simp only [Bool.not_true] at hq
        clear hb3 x0 x1 x2 x3 HF2 HZ
        go_wp2_with fail
        go_quiet (fail)
        go_wp2_with fail
        refine (grant_any S sc (sweepL m now) now t.d 9 200 _ (HB4.out _ _).2.sl (by omega)).mono ?_
        have e2 := HE2.out
        generalize grantCE (sweepL m now) now t.d 9 200 = E at e2 ⊢
        rintro e w5 ht
        obtain ⟨A5, c5, rfl, ha5⟩ := ht.acc
        have HM5 := Lib.hid ((HB4.out _ _).1.below ha5.2)
        have HS5 := Lib.hid ((HB4.out _ _).2.below ha5.2)
        clear ht ha5
        go_wp2_with fail
        go_roundw
        case rel => exact ⟨k + 1, by omega, by go_num, HM5.out, HS5.out⟩
        case measure => simp [intOf]; omega
      · have HF2 : Hid (findC (sweepL m now) t.d = none) := Lib.hid (by rw [HF.out, if_neg hu])
        have hE : (grantCE (sweepL m now) now t.d 9 200 == 0) = true := by rw [HE.out]; simpa using hu
        have hu' : decide (now < t.un) = false := by simpa using hu
        have HE2 := Lib.hid hE
        clear HF HE hE hu
        rw [HF2.out]
        rintro e w3 ⟨rfl, hb3⟩
        simp only [Option.getD_none, Option.isSome_none]
        obtain ⟨g', o', hgo, hg3, y0, y1, y2, y3⟩ := hold_cells (HM.out.below hb3).sl HZ.out
        injection hgo with hgo; injection hgo with hgo1 hgo2; subst hgo1; subst hgo2
        have HB4 := Lib.hid (fun n o => HB3.out w3 hb3 n o)
        clear hb3 x0 x1 x2 x3 HF2 HZ
        go_wp2_with fail
        go_quiet (fail)
        go_wp2_with fail
        refine (grant_any S sc (sweepL m now) now t.d 9 200 _ (HB4.out _ _).2.sl (by omega)).mono ?_
        have e2 := HE2.out
        generalize grantCE (sweepL m now) now t.d 9 200 = E at e2 ⊢
        rintro e w5 ht
        obtain ⟨A5, c5, rfl, ha5⟩ := ht.acc
        have HM5 := Lib.hid ((HB4.out _ _).1.below ha5.2)
        have HS5 := Lib.hid ((HB4.out _ _).2.below ha5.2)
        clear ht ha5
        go_wp2_with fail
        go_roundw
        case rel => exact ⟨k + 1, by omega, by go_num, HM5.out, HS5.out⟩
        case measure => simp [intOf]; omega
    · go_wp2_with fail
      refine (check_ok S sc _ _ HS.out.sl (by omega) (fine_filter MF.out _)).mono ?_
      rintro e w3 ⟨rfl, hb3⟩
      have HM3 := Lib.hid (HM.out.below hb3)
      clear hb3
      have e1 : decide (((sweepL m now).length : Int) ≤ (m.length : Int)) = true := by simp; omega
      go_wp2_with fail
      go_ret
      exact ⟨rfl, HM3.out.2⟩

end Go.Proofs.Ythmclonjgbmhhaa
