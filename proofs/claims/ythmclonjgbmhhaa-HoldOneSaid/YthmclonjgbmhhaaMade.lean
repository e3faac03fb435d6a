/-
  Names and promises that may be.
-/
import Derived.Test.YthmclonjgbmhhaaQuietTail
namespace Go.Proofs.Ythmclonjgbmhhaa
open Go.RowKit Go.Sort
set_option linter.unusedVariables false

def nameD (d : Dot) : Dot := ⟨1 + bit d.nd 3, 1 + bit d.n 7⟩

theorem wrap_bit (n : Int) (m : Nat) (hm : m < 1000) : wrap64 (1 + bits .and .i64 n m) = 1 + bit n m := by
  have h := bit_in n m hm
  show wrap64 (1 + bit n m) = 1 + bit n m
  unfold wrap64; omega

set_option maxHeartbeats 400000 in
theorem name_any (d : Dot) (w : World) :
    Calls Try.prog 10 #[.agg #[.int .i64 d.nd, .int .i64 d.n]] w fun e w' => e = .returned (.agg #[.int .i64 (nameD d).nd, .int .i64 (nameD d).n]) ∧ Below w.heap.size w w' := by
  have hw1 : wrap64 (1 + bits .and .i64 d.nd 3) = 1 + bit d.nd 3 := wrap_bit d.nd 3 (by omega)
  have hw2 : wrap64 (1 + bits .and .i64 d.n 7) = 1 + bit d.n 7 := wrap_bit d.n 7 (by omega)
  have HN : Hid (nameD d = ⟨1 + bit d.nd 3, 1 + bit d.n 7⟩) := Lib.hid rfl
  have HB := fun o o' => Lib.hid (((Below.refl w.heap.size w).alloc (Nat.le_refl _) o).alloc (by simp) o')
  go_enter Try.func10, Try.ntmps10
  go_wp2_with fail
  refine bodyPost_ret (v := .agg #[.int .i64 (1 + bit d.nd 3), .int .i64 (1 + bit d.n 7)]) (by simp [results, Try.results10, go_sem]) rfl ?_
  exact ⟨by rw [HN.out], (HB _ _).out⟩

/-- A promise that may be, of any one. -/
def madeH (t : Hold) : Hold := ⟨nameD t.d, 1 + bit t.rc 3, 1 + bit t.un 63⟩
def stepL (out : List Hold) (t : Hold) : List Hold := if grantE out 0 (madeH t).d (madeH t).rc (madeH t).un = 0 then grantR out 0 (madeH t).d (madeH t).rc (madeH t).un else out
def madeG (out : List Hold) (l : List Hold) : List Hold := l.foldl stepL out
def madeL (l : List Hold) : List Hold := madeG [] (l.take 12)

theorem putR_le (l : List Hold) (h : Hold) (put : Bool) : (putR l h put).length ≤ l.length + 1 := by
  have key : ∀ (l : List Hold) (put : Bool), (putR l h put).length ≤ l.length + if put then 0 else 1 := by
    intro l
    induction l with
    | nil => intro put; cases put <;> simp [putR]
    | cons t l ih =>
      intro put
      have h1 := ih (put || dlt h.d t.d)
      unfold putR
      cases put <;> cases h2 : dlt h.d t.d <;> simp [h2] at h1 ⊢ <;> omega
  have := key l put
  split at this <;> omega
theorem stepL_le (out : List Hold) (t : Hold) : (stepL out t).length ≤ out.length + 1 := by
  unfold stepL
  split
  · rename_i h
    unfold grantR
    rw [if_pos h]
    have := putR_le (goneL out (madeH t).d) ⟨(madeH t).d, (madeH t).rc, untilR (findR out (madeH t).d) 0 (madeH t).rc (madeH t).un⟩ false
    have := goneL_le out (madeH t).d
    omega
  · omega

set_option maxHeartbeats 4000000 in
theorem made_any (A : Option Addr) (c : Nat) (l : List Hold) (w : World) (hr : Sl w 4 A l.length (hcells l)) (hn : l.length ≤ 9223372036854775807) :
    Calls Try.prog 9 #[.slice A l.length c] w (HoldRet w (madeL l)) := by
  have Hr := Lib.hid hr
  have htl : (l.take 12).length = min 12 l.length := by simp
  have Htl := Lib.hid htl
  clear hr htl
  go_enter Try.func9, Try.ntmps9
  go_wp2_with fail
  go_loopw [3, 4] (fun v i wr => ∃ (k : Nat) (cur : List Hold), k ≤ (l.take 12).length ∧ i = .int .i64 k ∧ cur.length ≤ k ∧ madeL l = madeG cur ((l.take 12).drop k) ∧ Acc w cur v wr) (fun _ i _ => 12 - (intOf i).toNat)
  case atStart => exact ⟨0, [], Nat.zero_le _, rfl, by simp, by simp [madeL], Acc.nil (Below.refl _ _)⟩
  case round =>
    obtain ⟨k, cur, hk, rfl, hpl, hp, ha⟩ := hrel
    have Hp := Lib.hid hp
    obtain ⟨Ac, cc, rfl, hsl, hcc⟩ := ha.slice
    have HA := Lib.hid ha
    have Hsl := Lib.hid hsl
    clear hp ha hsl hcc
    by_cases hlt : k < (l.take 12).length
    · have hkl : k < l.length := by have := Htl.out; omega
      have hk12 : k < 12 := by have := Htl.out; omega
      have d1 : decide ((k : Int) < (l.length : Int)) = true := by simp; omega
      have d2 : decide ((k : Int) < 12) = true := by simp; omega
      obtain ⟨g, o, rfl, hg, c0, c1, c2, c3⟩ := hold_cells (Hr.out.below HA.out.2) (List.getElem?_eq_getElem hkl)
      have hat : (l.take 12)[k] = l[k] := by simp
      have HK : Hid (madeG cur ((l.take 12).drop k) = madeG (stepL cur l[k]) ((l.take 12).drop (k + 1))) := Lib.hid (by rw [List.drop_eq_getElem_cons hlt, hat]; rfl)
      clear hat
      generalize hz : l[k] = t at c0 c1 c2 c3 HK
      clear hz
      have hw1 : wrap64 (1 + bits .and .i64 t.rc 3) = 1 + bit t.rc 3 := wrap_bit t.rc 3 (by omega)
      have hw2 : wrap64 (1 + bits .and .i64 t.un 63) = 1 + bit t.un 63 := wrap_bit t.un 63 (by omega)
      have HN := Lib.hid (fun W => name_any t.d W)
      have r0 := fun d os => cell_regrown c0 d os
      have r1 := fun d os => cell_regrown c1 d os
      have r2 := fun d os => cell_regrown c2 d os
      have r3 := fun d os => cell_regrown c3 d os
      have hkI : (k : Int) < (l.length : Int) := by omega
      have hkI0 : (0 : Int) ≤ (k : Int) := by omega
      clear c0 c1 c2 c3
      go_wp2_with fail
      refine wp_below_one 21 _ rfl rfl (by kernel_rfl) (by kernel_rfl) ?_
      simp only [List.take_succ_cons, List.take_zero, List.drop_succ_cons, List.drop_zero]
      repeat (go_big_quiet_step (first | (go_at_call 10; exact Calls.regrown_of (HN.out _))))
      refine wpQuiet_nil ?_
      intro w2 hw2' K hK
      obtain ⟨⟨dq, osq⟩, hw2'⟩ := hw2'
      have hb2 : Below wr.heap.size wr w2 := by rw [hw2']; exact below_regrown wr dq osq
      have HA2 := Lib.hid (HA.out.below hb2)
      have Hsl2 := Lib.hid (Hsl.out.below hb2)
      clear hw2' hb2 r0 r1 r2 r3
      go_simp
      refine (refGrant_any Ac cc cur 0 (nameD t.d) (1 + bit t.rc 3) (1 + bit t.un 63) _ Hsl2.out (by omega)).mono ?_
      rintro e w3 ht
      obtain ⟨A3, c3, rfl, ha3⟩ := ht.acc
      have HA3 := Lib.hid (HA2.out.below ha3.2)
      have HG := Lib.hid (Acc.up HA2.out.2 ha3)
      have hstep : stepL cur t = if grantE cur 0 (nameD t.d) (1 + bit t.rc 3) (1 + bit t.un 63) = 0 then grantR cur 0 (nameD t.d) (1 + bit t.rc 3) (1 + bit t.un 63) else cur := rfl
      have hsl := stepL_le cur t
      have HS := Lib.hid hstep
      clear ht ha3 hstep
      go_simp
      refine hK _ _ ?_
      clear hK K
      repeat (go_big_quiet_step (fail))
      refine wpQuiet_nil ?_
      by_cases hg0 : grantE cur 0 (nameD t.d) (1 + bit t.rc 3) (1 + bit t.un 63) = 0
      · have hS : stepL cur t = grantR cur 0 (nameD t.d) (1 + bit t.rc 3) (1 + bit t.un 63) := by rw [HS.out, if_pos hg0]
        rw [hS] at hsl
        have HX : Hid (madeL l = madeG (grantR cur 0 (nameD t.d) (1 + bit t.rc 3) (1 + bit t.un 63)) ((l.take 12).drop (k + 1))) := Lib.hid (by rw [Hp.out, HK.out, hS])
        have HG0 := Lib.hid hg0
        clear hg0 hS HS HK Hp
        generalize grantE cur 0 (nameD t.d) (1 + bit t.rc 3) (1 + bit t.un 63) = E at HG0 HG ⊢
        have e0 : (E == 0) = true := by have := HG0.out; simpa using this
        go_wp2_with fail
        go_roundw
        case rel => exact ⟨k + 1, _, by omega, by go_num, by omega, HX.out, HG.out⟩
        case measure => simp [intOf]; omega
      · have hS : stepL cur t = cur := by rw [HS.out, if_neg hg0]
        have HX : Hid (madeL l = madeG cur ((l.take 12).drop (k + 1))) := Lib.hid (by rw [Hp.out, HK.out, hS])
        have HG0 := Lib.hid hg0
        clear hg0 hS HS HK Hp
        generalize grantE cur 0 (nameD t.d) (1 + bit t.rc 3) (1 + bit t.un 63) = E at HG0 HG ⊢
        have e0 : (E == 0) = false := by have := HG0.out; simpa using this
        go_wp2_with fail
        go_roundw
        case rel => exact ⟨k + 1, _, by omega, by go_num, by omega, HX.out, HA3.out⟩
        case measure => simp [intOf]; omega
    · have hkk : k = (l.take 12).length := by omega
      have HN : Hid (madeL l = cur) := Lib.hid (by rw [Hp.out, List.drop_eq_nil_of_le (by omega)]; rfl)
      have Htl' := Htl.out
      by_cases h12 : l.length ≤ 12
      · have d1 : decide ((k : Int) < (l.length : Int)) = false := by simp; omega
        clear Htl'
        go_wp2_with fail
        go_ret
        exact ⟨_, rfl, by rw [HN.out]; exact HA.out⟩
      · have d1 : decide ((k : Int) < (l.length : Int)) = true := by simp; omega
        have d2 : decide ((k : Int) < 12) = false := by simp; omega
        clear Htl'
        go_wp2_with fail
        go_ret
        exact ⟨_, rfl, by rw [HN.out]; exact HA.out⟩

end Go.Proofs.Ythmclonjgbmhhaa
