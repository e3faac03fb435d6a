/-
  The post's Send, where all letters find room.
-/
import Derived.Test.YtcggmdidnpdciaaMeth
namespace Go.Proofs.Ytcggmdidnpdciaa
open Go.RowKit

attribute [local go_sem ↓] Go.wp_at_zero Go.wp_at_succ

set_option maxHeartbeats 2000000 in
theorem send_fit (g : Nat) (L : List Letter) (G : List (List Int)) (Am : Option Addr) (cm : Nat) (M : List Letter) (w : World) (hp : PostAt w g L G)
    (hm : Sl w 3 Am M.length (lcells M)) (hcm : M.length ≤ cm) (hfit : L.length + M.length ≤ 10000) :
    Calls Try.prog 12 #[.pointer (some ⟨g, 0, none⟩), .slice Am M.length cm] w (Turned w g (.int .i64 M.length) (L ++ M) G) := by
  obtain ⟨A, c, Ag, cg, hb, hr, hc, hL, hG, hGn⟩ := hp
  have hlt := hb.lt
  have h0 := hb.cell 0
  simp at h0
  obtain ⟨i0, hi, hz0, hz1, hz2⟩ := info_parts info_letter
  have sl1 := cut_clip (P := Try.prog) 40 32 i0 Try.underlying40 hi .i64 .i64 A L.length c L.length hc
  have sl2 := cut_hi (P := Try.prog) 40 32 i0 Try.underlying40 hi .i64 Am M.length cm M.length (by omega)
  have S2 := Lib.hid hm
  have HB := Lib.hid hb
  have HR := Lib.hid hr
  have HG := Lib.hid hG
  clear hb hr hG hm
  have Q1 := Lib.hid (show L.length + M.length ≤ maxLen by unfold maxLen; omega)
  have Q2 := Lib.hid (show (L.length + M.length) * 32 ≤ 140737488355328 by omega)
  have k4 : (L.length : Int) ≤ 10000 := by omega
  have k5 : (M.length : Int) ≤ 10000 - (L.length : Int) := by omega
  have kw : IntKind.i64.wrap (10000 - (L.length : Int)) = 10000 - (L.length : Int) := IntWalk.i64_in _ (by omega)
  go_enter Try.func12, Try.ntmps12
  go_wp2_with fail
  go_region_law ((refine step_append_clip _ rfl (.tmp 32) (.tmp 35) 40 rfl 32 i0 _ 3 32 Try.underlying40 hi hz0 hz1 hz2 A L.length (lcells L) (by rfl) HR.out.drew Am M.length cm (lcells M) (by rfl) S2.out.drew Q1.out Q2.out ?_; intro A' c' w1 hrow hb1 hc1 hc2 hfr; have Hfr := Lib.hid hfr; clear hfr; have Hrow := Lib.hid hrow; have Hb1 := Lib.hid hb1; clear hrow hb1; have g0 := (Hb1.out.cell (p := ⟨g, 0, none⟩) HB.out.lt).trans (HB.out.cell 0); simp only [List.getElem?_toArray, List.getElem?_cons_zero] at g0; have f1 := (Hb1.out.frozen (p := ⟨g, 0, none⟩) HB.out.lt).trans (HB.out.frozen 0)))
  all_goals
    go_wp2_with fail
    go_ret
    exact turned_letters _ HB.out HG.out rfl (((Below.refl _ w).drew).trans (Hb1.out.mono (Nat.le_refl _))) (by rw [lcells_append]; exact Hrow.out) (by rw [List.length_append]) hc1 (by rw [List.length_append]; omega) hGn (fun a ha h0 => by
      rcases Hfr.out with ⟨h, hm⟩ | h
      · exact .inl ⟨h ▸ ha, by omega⟩
      · rw [h] at ha; injection ha with ha; subst ha; exact .inr (Nat.le_refl _))

#print axioms send_fit
end Go.Proofs.Ytcggmdidnpdciaa
