/-
  groups: at most 3, of 5 nodes each.
-/
import Derived.Test.YtcggmdidnpdciaaAwake
namespace Go.Proofs.Ytcggmdidnpdciaa
open Go.RowKit

/-- Rows of ints that came in; none lies in block g. -/
def GIn (w : World) (g : Nat) (A : Option Addr) (G : List (List Int)) : Prop :=
  ∃ vs, SlX w g 1 A G.length vs ∧ ∀ (i : Nat) (zs : List Int), G[i]? = some zs → ∃ Ai ci, vs[i]? = some (Value.slice Ai zs.length ci) ∧ SlX w g 1 Ai zs.length (ints zs) ∧ zs.length ≤ ci ∧ ci ≤ 9223372036854775807

def trim (G : List (List Int)) : List (List Int) := (G.take 3).map (List.take 5)

theorem SlX.take {w : World} {g s n : Nat} {A : Option Addr} {xs : List Value} (h : SlX w g s A n xs) {k : Nat} (hk : k ≤ n) : SlX w g s A k (xs.take (k * s)) :=
  ⟨h.1.take hk, fun h0 a ha => h.2 (by omega) a ha⟩

/-- After k groups. -/
def GrpInv (w : World) (g : Nat) (G : List (List Int)) (k : Nat) (v : Value) (wr : World) : Prop :=
  ∃ vs, wr.ownsRow w.heap.size 28 1 v k vs ∧ Below w.heap.size w wr ∧
    ∀ (i : Nat) (zs : List Int), ((trim G).take k)[i]? = some zs → ∃ Ai ci, vs[i]? = some (Value.slice Ai zs.length ci) ∧ SlX w g 1 Ai zs.length (ints zs)

/-- What groups hands back. -/
def Grps (w : World) (g : Nat) (G : List (List Int)) (en : Ending) (w' : World) : Prop :=
  ∃ A' c', en = .returned (.slice A' (trim G).length c') ∧ GSlX w' g A' (trim G) ∧ Below w.heap.size w w' ∧ (trim G).length ≤ c'

theorem trim_le (G : List (List Int)) : (trim G).length ≤ 3 := by unfold trim; simp; omega

theorem grp_step {w wr w2 : World} {g k n : Nat} {v v' : Value} {G : List (List Int)} {Ai : Option Addr} {ci : Nat} {vs : List Value} (hown2 : w2.ownsRow w.heap.size 28 1 v' (k + 1) (vs ++ [.slice Ai n ci]))
    (hl : vs.length = k) (hb : Below w.heap.size w wr) (hg2 : (wr.alloc (.cells #[.slice Ai n ci] 28)).grownBy w2 v.ownBlock) (hv : ∀ b, v.ownBlock = some b → w.heap.size ≤ b)
    (hin : ∀ (i : Nat) (zs : List Int), ((trim G).take k)[i]? = some zs → ∃ Ai ci, vs[i]? = some (Value.slice Ai zs.length ci) ∧ SlX w g 1 Ai zs.length (ints zs))
    (hk : k < (trim G).length) (hz : (trim G)[k].length = n) (hs : SlX w g 1 Ai n (ints (trim G)[k])) : GrpInv w g G (k + 1) v' w2 := by
  refine ⟨_, hown2, (hb.alloc hb.size _).grown hg2 (by have := hb.size; simp; omega) hv, fun i zs' hi => ?_⟩
  rw [List.take_succ_eq_append_getElem hk] at hi
  rcases Nat.lt_or_ge i k with hlt | hge
  · rw [List.getElem?_append_left (by simp; omega)] at hi
    obtain ⟨Aj, cj, h1, h2⟩ := hin i zs' hi
    exact ⟨Aj, cj, by rw [List.getElem?_append_left (by omega)]; exact h1, h2⟩
  · have hi' : i = k := by
      have := (List.getElem?_eq_some_iff.1 hi).1
      simp at this; omega
    subst hi'
    rw [List.getElem?_append_right (by simp; omega)] at hi
    have e0 : i - (List.take i (trim G)).length = 0 := by simp; omega
    rw [e0] at hi
    simp only [List.getElem?_cons_zero, Option.some.injEq] at hi
    subst hi
    exact ⟨Ai, ci, by rw [List.getElem?_append_right (by omega), hl, Nat.sub_self]; simp [hz], by rw [hz]; exact hs⟩

theorem grp_end {w wr : World} {g : Nat} {v : Value} {G : List (List Int)} (hlt : g < w.heap.size) (hi : GrpInv w g G (trim G).length v wr) : Grps w g G (.returned v) wr := by
  obtain ⟨vs, hown, hb, hin⟩ := hi
  obtain ⟨A', c', rfl, hc⟩ := own_slice hown
  refine ⟨A', c', rfl, ⟨vs, ⟨(Row.of_own hown).sl, fun _ a ha => ?_⟩, fun i zs hz => ?_⟩, hb, hc⟩
  · have := own_fresh hown a ha
    omega
  · obtain ⟨Ai, ci, h1, h2⟩ := hin i zs (by rw [List.take_length]; exact hz)
    refine ⟨Ai, ci, h1, ⟨h2.1.below hb, h2.2⟩, ?_⟩
    have hm : zs ∈ trim G := List.mem_of_getElem? hz
    unfold trim at hm
    obtain ⟨y, _, rfl⟩ := List.mem_map.1 hm
    simp; omega

set_option maxHeartbeats 2000000 in
theorem groups_any (g : Nat) (A : Option Addr) (c : Nat) (G : List (List Int)) (w : World) (hG : GIn w g A G) (hlt : g < w.heap.size) (hn : G.length ≤ 9223372036854775807) :
    Calls Try.prog 9 #[.slice A G.length c] w (Grps w g G) := by
  obtain ⟨i0, hi, hz0, hz1, hz2⟩ := info_parts info_intss
  obtain ⟨gs, hgs, hGi⟩ := hG
  have Hgs := Lib.hid hgs
  have HGi := Lib.hid hGi
  clear hgs hGi
  go_enter Try.func9, Try.ntmps9
  go_wp2_with fail
  go_loopw [3, 4, 5] (fun v i _ wr => ∃ k : Nat, k ≤ (trim G).length ∧ i = .int .i64 k ∧ GrpInv w g G k v wr) (fun _ i _ _ => 3 - (intOf i).toNat)
  case atStart => exact ⟨0, Nat.zero_le _, rfl, [], World.ownsRow_nil _ _ _ _, Below.refl _ _, by simp⟩
  case round =>
    obtain ⟨k, hk, rfl, hinv⟩ := hrel
    have ht3 := trim_le G
    have htl : (trim G).length = min 3 G.length := by unfold trim; simp
    have Htl := Lib.hid htl
    by_cases h3 : k < 3
    · by_cases hkn : k < G.length
      · have h3' : decide ((k : Int) < 3) = true := by simp; omega
        have hkn' : decide ((k : Int) < (G.length : Int)) = true := by simp; omega
        have hkt : k < (trim G).length := by omega
        obtain ⟨vs, hown, hb, hin⟩ := hinv
        obtain ⟨ga, oa, rfl, hga, hca⟩ := Hgs.out.1.2 (by omega)
        obtain ⟨Ai, ci, hv, hs, hz, hci⟩ := HGi.out k G[k] (List.getElem?_eq_getElem hkn)
        have hck : wr.cell? ⟨ga, oa + k, none⟩ = some (.slice Ai G[k].length ci) := (hb.cell (p := ⟨ga, oa + k, none⟩) hga).trans (hca k _ hv)
        have htk : Hid ((trim G)[k] = G[k].take 5) := Lib.hid (by unfold trim; simp)
        generalize hzz : G[k] = zs at hck hs hz htk
        have Hs := Lib.hid hs
        have Hown := Lib.hid hown
        have Hb := Lib.hid hb
        have Hin := Lib.hid hin
        clear hs hown hb hin hzz hca hv htl
        have Q1 := Lib.hid (show k + 1 ≤ maxLen by unfold maxLen; omega)
        have Q2 := Lib.hid (show (k + 1) * 24 ≤ 140737488355328 by omega)
        by_cases h5 : 5 < zs.length
        · have h5' : (5 : Int) < (zs.length : Int) := by omega
          have sl1 := fun w => cut_hi (P := Try.prog) 28 3 _ Try.underlying28 (info_parts info_int).choose_spec.1 .i64 Ai zs.length ci 5 (by omega) w
          go_wp2_with (at_builtin; refine wpList_append_src _ rfl (.tmp 25) (.tmp 27) 22 rfl w.heap.size 28 i0 _ 1 24 Try.underlying22 hi hz0 hz1 hz2 rfl (by decide) _ k vs rfl (Hown.out.alloc _) (some ⟨wr.heap.size, 0, none⟩) 1 1 [.slice Ai 5 ci] rfl (sl_new_one wr _ _) (by simp [Value.oneCell']) Q1.out Q2.out (by have := Hb.out.size; simp; omega) ?_)
          intro v2 w2 hown2 hg2 hat2
          have Hown2 := Lib.hid hown2
          have Hg2 := Lib.hid hg2
          clear hown2 hg2 hat2
          go_wp2_with fail
          go_roundw
          case rel => exact ⟨k + 1, by omega, by go_num, grp_step Hown2.out (by have := Hown.out.1; omega) Hb.out Hg2.out (fun b hb => (Hown.out.lt b hb).1) Hin.out hkt (by rw [htk.out]; simp; omega) (by rw [htk.out]; have := Hs.out.take (k := 5) (by omega); rw [Nat.mul_one, ← List.map_take] at this; exact this)⟩
          case measure => simp [intOf]; omega
        · have h5' : (zs.length : Int) ≤ 5 := by omega
          go_wp2_with (at_builtin; refine wpList_append_src _ rfl (.tmp 25) (.tmp 27) 22 rfl w.heap.size 28 i0 _ 1 24 Try.underlying22 hi hz0 hz1 hz2 rfl (by decide) _ k vs rfl (Hown.out.alloc _) (some ⟨wr.heap.size, 0, none⟩) 1 1 [.slice Ai zs.length ci] rfl (sl_new_one wr _ _) (by simp [Value.oneCell']) Q1.out Q2.out (by have := Hb.out.size; simp; omega) ?_)
          intro v2 w2 hown2 hg2 hat2
          have Hown2 := Lib.hid hown2
          have Hg2 := Lib.hid hg2
          clear hown2 hg2 hat2
          go_wp2_with fail
          go_roundw
          case rel => exact ⟨k + 1, by omega, by go_num, grp_step Hown2.out (by have := Hown.out.1; omega) Hb.out Hg2.out (fun b hb => (Hown.out.lt b hb).1) Hin.out hkt (by rw [htk.out, List.take_of_length_le (by omega)]) (by rw [htk.out, List.take_of_length_le (by omega)]; exact Hs.out)⟩
          case measure => simp [intOf]; omega
      · have hkn' : decide ((k : Int) < (G.length : Int)) = false := by simp; omega
        have hkt : k = (trim G).length := by omega
        have Hinv := Lib.hid hinv
        have Hkt := Lib.hid hkt
        clear hinv hkt htl
        go_wp2_with fail
        go_ret
        exact grp_end hlt (by rw [← Hkt.out]; exact Hinv.out)
    · have h3' : decide ((k : Int) < 3) = false := by simp; omega
      have hkt : k = (trim G).length := by omega
      have hkn : k ≤ G.length := by omega
      have Hinv := Lib.hid hinv
      have Hkt := Lib.hid hkt
      clear hinv hkt htl
      by_cases hkn2 : k < G.length
      · have hkn' : decide ((k : Int) < (G.length : Int)) = true := by simp; omega
        go_wp2_with fail
        go_ret
        exact grp_end hlt (by rw [← Hkt.out]; exact Hinv.out)
      · have hkn' : decide ((k : Int) < (G.length : Int)) = false := by simp; omega
        go_wp2_with fail
        go_ret
        exact grp_end hlt (by rw [← Hkt.out]; exact Hinv.out)

#print axioms groups_any
end Go.Proofs.Ytcggmdidnpdciaa
