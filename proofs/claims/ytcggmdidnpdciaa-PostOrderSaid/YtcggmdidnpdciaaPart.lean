/-
  The post's Part.
-/
import Derived.Test.YtcggmdidnpdciaaLate
namespace Go.Proofs.Ytcggmdidnpdciaa
open Go.RowKit

attribute [local go_sem ↓] Go.wp_at_zero Go.wp_at_succ

/-- A slice of slices of ints that lies nowhere in block g. -/
def GSlX (w : World) (g : Nat) (A : Option Addr) (G : List (List Int)) : Prop :=
  ∃ vs, SlX w g 1 A G.length vs ∧ ∀ (i : Nat) (zs : List Int), G[i]? = some zs → ∃ Ai ci, vs[i]? = some (Value.slice Ai zs.length ci) ∧ SlX w g 1 Ai zs.length (ints zs) ∧ zs.length ≤ 1000000

theorem GSlX.only {w w' : World} {g : Nat} {A : Option Addr} {G : List (List Int)} (h : GSlX w g A G) (ho : Only g w w') : GSlX w' g A G := by
  obtain ⟨vs, h1, h2⟩ := h
  refine ⟨vs, h1.only ho, fun i zs hi => ?_⟩
  obtain ⟨Ai, ci, h3, h4, h5⟩ := h2 i zs hi
  exact ⟨Ai, ci, h3, h4.only ho, h5⟩

/-- After k groups. -/
def PartInv (w : World) (g : Nat) (vl : Value) (G : List (List Int)) (k : Nat) (wr : World) : Prop :=
  ∃ A c vs, Blk wr g 44 #[vl, .slice A k c] ∧ wr.ownsRow w.heap.size 28 1 (.slice A k c) k vs ∧ Only g w wr ∧
    ∀ (i : Nat) (zs : List Int), (G.take k)[i]? = some zs → ∃ Ai ci, vs[i]? = some (Value.slice Ai zs.length ci) ∧ Row wr 3 1 Ai zs.length (ints zs) ∧ zs.length ≤ 9223372036854775807

theorem info_intss : (Try.prog.info? 28).map (fun i => (i.zero, i.size, i.bytes)) = some (some (.slice none 0 0), 1, 24) := by kernel_rfl

theorem part_blk {w wr w1 w2 : World} {g k : Nat} {vl : Value} {A : Option Addr} {c : Nat} {vs : List Value} (hb : Blk wr g 44 #[vl, .slice A k c])
    (hown : wr.ownsRow w.heap.size 28 1 (.slice A k c) k vs) (hb1 : Below wr.heap.size wr w1) (hg2 : w1.grownBy w2 (Value.slice A k c).ownBlock) : Blk w2 g 44 #[vl, .slice A k c] := by
  have hbw1 := hb.below hb1
  refine (hg2.block g hbw1.lt (fun h => ?_)).trans hbw1
  have hown1 := own_below hown hb1
  rcases hown1.2 with ⟨hv, _⟩ | ⟨g', cap, cur, hv, _, hg', _⟩
  · rw [hv] at h; simp [Value.ownBlock] at h
  · rw [hv] at h
    have : g = g' := by simpa [Value.ownBlock] using h
    subst this
    unfold Blk at hbw1
    rw [hbw1] at hg'
    injection hg' with hg'; injection hg' with _ ht; cases ht

/-- One group more. -/
theorem part_step {w wr w1 w2 : World} {g k : Nat} {vl : Value} {G : List (List Int)} {zs : List Int} {A A' Ai : Option Addr} {c c' ci : Nat} {vs : List Value}
    (hg : g < w.heap.size) (hb : Blk wr g 44 #[vl, .slice A k c]) (ho : Only g w wr) (hlk : vs.length = k)
    (hin : ∀ (i : Nat) (zs : List Int), (G.take k)[i]? = some zs → ∃ Ai ci, vs[i]? = some (Value.slice Ai zs.length ci) ∧ Row wr 3 1 Ai zs.length (ints zs) ∧ zs.length ≤ 9223372036854775807)
    (hown : wr.ownsRow w.heap.size 28 1 (.slice A k c) k vs)
    (hb1 : Below wr.heap.size wr w1) (hr1 : Row w1 3 1 Ai zs.length (ints zs)) (hz : zs.length ≤ 1000000)
    (hg2 : w1.grownBy w2 (Value.slice A k c).ownBlock) (hown2 : w2.ownsRow w.heap.size 28 1 (.slice A' (k + 1) c') (k + 1) (vs ++ [.slice Ai zs.length ci]))
    (hk : k < G.length) (hzs : G[k] = zs) :
    PartInv w g vl G (k + 1) (w2.setCell ⟨g, 1, none⟩ (.slice A' (k + 1) c')) := by
  have hbw1 := hb.below hb1
  have hne : (Value.slice A k c).ownBlock ≠ some g := by
    intro h
    have hown1 := own_below hown hb1
    rcases hown1.2 with ⟨hv, _⟩ | ⟨g', cap, cur, hv, _, hg', _⟩
    · rw [hv] at h; simp [Value.ownBlock] at h
    · rw [hv] at h
      have : g' = g := by simpa [Value.ownBlock] using h
      subst this
      unfold Blk at hbw1
      rw [hbw1] at hg'
      injection hg' with hg'; injection hg' with _ ht; cases ht
  have hbw2 : Blk w2 g 44 #[vl, .slice A k c] := (hg2.block g hbw1.lt (Ne.symm hne)).trans hbw1
  have hset := only_set w2 g 1 (.slice A' (k + 1) c')
  have hint : ∀ (Ai : Option Addr) (n : Nat) (xs : List Value), Row w1 3 1 Ai n xs → Row (w2.setCell ⟨g, 1, none⟩ (.slice A' (k + 1) c')) 3 1 Ai n xs := fun Ai n xs hr => by
    have hr2 : Row w2 3 1 Ai n xs := hr.keep fun b hb' ⟨cur, hcur⟩ => hg2.block b hb' (fun heq => by
      have hown1 := own_below hown hb1
      rcases hown1.2 with ⟨hv, _⟩ | ⟨g', cap, cur', hv, _, hg', _⟩
      · rw [hv] at heq; simp [Value.ownBlock] at heq
      · rw [hv] at heq
        have : b = g' := by simpa [Value.ownBlock] using heq
        subst this
        rw [hcur] at hg'
        injection hg' with hg'; injection hg' with _ ht; cases ht)
    exact hr2.only hset hbw2 (by decide)
  refine ⟨A', c', _, hbw2.set_ 1 _, own_only hown2 hset hbw2 (by decide), ?_, fun i zs' hi => ?_⟩
  · refine only_trans (w' := w2) ⟨hg2.os.trans (hb1.os.trans ho.os), hg2.tape.trans (hb1.tape.trans ho.tape), hg2.output.trans (hb1.output.trans ho.output), Nat.le_trans ho.size (Nat.le_trans hb1.size hg2.size), fun b hb' hne' => ?_⟩ hset
    have hs1 := ho.size
    have hs2 := hb1.size
    refine (hg2.block b (by omega) (fun heq => ?_)).trans ((hb1.block b (by omega)).trans (ho.block b hb' hne'))
    have := (hown.lt b heq.symm).1
    omega
  · rw [List.take_succ_eq_append_getElem hk, hzs] at hi
    rcases Nat.lt_or_ge i k with hlt | hge
    · rw [List.getElem?_append_left (by simp; omega)] at hi
      obtain ⟨Aj, cj, h1, h2, h3⟩ := hin i zs' hi
      exact ⟨Aj, cj, by rw [List.getElem?_append_left (by omega)]; exact h1, hint _ _ _ (h2.below hb1), h3⟩
    · have hi' : i = k := by
        have := (List.getElem?_eq_some_iff.1 hi).1
        simp at this; omega
      subst hi'
      rw [List.getElem?_append_right (by simp; omega)] at hi
      have e0 : i - (List.take i G).length = 0 := by simp; omega
      rw [e0] at hi
      simp at hi
      subst hi
      exact ⟨Ai, ci, by rw [List.getElem?_append_right (by omega), hlk, Nat.sub_self]; rfl, hint _ _ _ hr1, by omega⟩

theorem part_end {w wr : World} {g c : Nat} {L : List Letter} {A Ag : Option Addr} {m cg : Nat} {G : List (List Int)} (hb : Blk w g 44 #[.slice A L.length c, .slice Ag m cg])
    (hr : Row w 32 3 A L.length (lcells L)) (hc : L.length ≤ c) (hL : L.length ≤ 10000) (hn : G.length ≤ 1000000) (hi : PartInv w g (.slice A L.length c) G G.length wr) :
    Turned w g (.tuple #[]) L G (.returned (.tuple #[])) wr := by
  obtain ⟨Av, cv, vs, hb2, hown, ho, hin⟩ := hi
  refine ⟨rfl, ⟨A, c, Av, cv, hb2, hr.only ho hb (by decide), hc, hL, ⟨vs, Row.of_own hown, fun i zs hz => ?_⟩, hn⟩, ho, fun b hb' ha => ?_⟩
  · exact hin i zs (by rw [List.take_length]; exact hz)
  · refine away_of_cell ?_ ha
    rw [hb2.cell 0, hb.cell 0]
    rfl

theorem sl_new_one (w : World) (v : Value) (t : TypeId) : Sl (w.alloc (.cells #[v] t)) 1 (some ⟨w.heap.size, 0, none⟩) 1 [v] := by
  refine ⟨rfl, fun _ => ⟨_, _, rfl, by simp, fun j u hu => ?_⟩⟩
  rw [(Blk.new w _ _).cell]
  simpa using hu

set_option maxHeartbeats 2000000 in
theorem part_any (g : Nat) (L : List Letter) (G0 G : List (List Int)) (Ap : Option Addr) (cp : Nat) (w : World) (hp : PostAt w g L G0) (hG : GSlX w g Ap G) (hn : G.length ≤ 1000000) :
    Calls Try.prog 10 #[.pointer (some ⟨g, 0, none⟩), .slice Ap G.length cp] w (Turned w g (.tuple #[]) L G) := by
  obtain ⟨A, c, Ag, cg, hb, hr, hc, hL, -⟩ := hp
  have hlt := hb.lt
  have h1 : w.cell? ⟨g, 1, none⟩ = some (.slice Ag G0.length cg) := by simpa using hb.cell 1
  have f1 := hb.frozen 1
  obtain ⟨i0, hi, hz0, hz1, hz2⟩ := info_parts info_intss
  have HB := Lib.hid hb
  have HR := Lib.hid hr
  have HG := Lib.hid hG
  clear hb hr hG
  have k4 : (G.length : Int) ≤ 1000000 := by omega
  go_enter Try.func10, Try.ntmps10
  go_wp2_with fail
  go_loopw [13, 5] (fun i _ wr => ∃ k : Nat, k ≤ G.length ∧ i = .int .i64 k ∧ PartInv w g (.slice A L.length c) G k wr) (fun i _ _ => G.length - (intOf i).toNat)
  case atStart =>
    refine ⟨0, Nat.zero_le _, rfl, none, 0, [], ?_, World.ownsRow_nil _ _ _ _, only_set _ _ _ _, by simp⟩
    have := HB.out.set_ 1 (.slice none 0 0)
    simpa using this
  case round =>
    obtain ⟨k, hk, rfl, hinv⟩ := hrel
    by_cases hlk : k < G.length
    · obtain ⟨Av, cv, vs, hb2, hown, ho, hin⟩ := hinv
      obtain ⟨gs, hgs, hGi⟩ := HG.out.only ho
      obtain ⟨ga, oa, rfl, hga, hca⟩ := hgs.1.2 (by omega)
      obtain ⟨Ai, ci, hv, hs, hz⟩ := hGi k G[k] (List.getElem?_eq_getElem hlk)
      have hck : wr.cell? ⟨ga, oa + k, none⟩ = some (.slice Ai G[k].length ci) := hca k _ hv
      have Hzs : Hid (G[k] = G[k]) := Lib.hid rfl
      generalize hzz : G[k] = zs at hck hs hz Hzs
      have Hzz := Lib.hid hzz
      clear hzz hca hGi hgs hv Hzs
      have c1 : wr.cell? ⟨g, 1, none⟩ = some (.slice Av k cv) := by simpa using hb2.cell 1
      have Hs := Lib.hid hs
      have HB2 := Lib.hid hb2
      have Hown := Lib.hid hown
      have Ho := Lib.hid ho
      have Hin := Lib.hid hin
      clear hs hb2 hown ho hin
      have hgw : g < wr.heap.size := HB2.out.lt
      have hcl : Hid (∀ W, Below wr.heap.size wr W → Sl W 1 Ai zs.length (ints zs)) := Lib.hid (fun W hW => Hs.out.1.below hW)
      have hzb : zs.length * 8 ≤ 140737488355328 := by omega
      have Q1 := Lib.hid (show k + 1 ≤ maxLen by unfold maxLen; omega)
      have Q2 := Lib.hid (show (k + 1) * 24 ≤ 140737488355328 by omega)
      go_wp2_with fail
      go_region_law (first
        | (go_simp; go_at_call 19; refine (clone_ints Ai zs.length ci (ints zs) _ (hcl.out _ (Below.refl _ _).drew) hzb).mono ?_; rintro e w1 ⟨A', c', rfl, hrow, hb1, hc1, hc2, hfr⟩; have Hrow := Lib.hid hrow; have Hb1 : Hid (Below wr.heap.size wr w1) := Lib.hid (((Below.refl _ wr).drew).trans (hb1.mono (Nat.le_refl _))); clear hrow hb1 hfr; have g0 := (Hb1.out.cell (p := ⟨g, 1, none⟩) hgw).trans (HB2.out.cell 1); simp only [List.getElem?_toArray, List.getElem?_cons_zero, List.getElem?_cons_succ] at g0; have g2 : g < w1.heap.size := Nat.lt_of_lt_of_le hgw Hb1.out.size)
        | (refine step_append_src _ rfl (.tmp 21) (.tmp 24) 22 rfl w.heap.size 28 i0 _ 1 24 Try.underlying22 hi hz0 hz1 hz2 rfl (by decide) (.slice Av k cv) k vs (by rfl) (own_below Hown.out (Hb1.out.alloc Hb1.out.size _)) (some ⟨w1.heap.size, 0, none⟩) 1 1 [.slice A' zs.length c'] (by rfl) (sl_new_one w1 _ _) (by simp [Value.oneCell']) Q1.out Q2.out (by have := Ho.out.size; have := Hb1.out.size; simp; omega) ?_; intro v2 w2 hown2 hg2 hat2; obtain ⟨gv, cap, rfl, _, _⟩ := World.ownsRow.form hown2 (by omega); have hb5 := part_blk HB2.out Hown.out (Hb1.out.alloc Hb1.out.size _) hg2; have Hown2 := Lib.hid hown2; have Hg2 := Lib.hid hg2; have HB5 := Lib.hid hb5; clear hown2 hg2 hb5 hat2; have g5 := HB5.out.cell 1; have g6 := HB5.out.frozen 1; simp only [List.getElem?_toArray, List.getElem?_cons_zero, List.getElem?_cons_succ] at g5))
      all_goals
        go_wp2_with fail
        go_roundw
        case rel => exact ⟨k + 1, by omega, by go_num, part_step hlt HB2.out Ho.out (by have := Hown.out.1; omega) Hin.out Hown.out (Hb1.out.alloc Hb1.out.size _) (Hrow.out.below ((Below.refl _ _).alloc (Nat.le_refl _) _)) hz Hg2.out Hown2.out hlk Hzz.out⟩
        case measure => simp [intOf]; omega
    · have hkl : G.length = k := by omega
      have Hkl := Lib.hid hkl
      have Hinv := Lib.hid hinv
      clear hkl hinv
      go_wp2_with fail
      go_end0
      exact part_end HB.out HR.out hc hL hn (by rw [Hkl.out]; exact Hinv.out)

#print axioms part_step
end Go.Proofs.Ytcggmdidnpdciaa
