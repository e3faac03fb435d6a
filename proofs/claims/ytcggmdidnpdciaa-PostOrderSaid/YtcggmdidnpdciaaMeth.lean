/-
  The post's methods: Met, Lose, Send, ..
-/
import Derived.Test.YtcggmdidnpdciaaConcat
namespace Go.Proofs.Ytcggmdidnpdciaa
open Go.RowKit

attribute [local go_sem ↓] Go.wp_at_zero Go.wp_at_succ

set_option maxHeartbeats 400000 in
theorem met_any (g : Nat) (L : List Letter) (G : List (List Int)) (a b : Int) (w : World) (hp : PostAt w g L G) :
    Calls Try.prog 11 #[.pointer (some ⟨g, 0, none⟩), .int .i64 a, .int .i64 b] w fun e w' => e = .returned (.bool (meets G a b)) ∧ Below w.heap.size w w' := by
  obtain ⟨A, c, Ag, cg, hb, -, -, -, hG, hGn⟩ := hp
  have hlt := hb.lt
  have h1 : ∀ o1 o2, ((w.alloc o1).alloc o2).cell? ⟨g, 1, none⟩ = some (.slice Ag G.length cg) := fun o1 o2 => by
    have := ((hb.alloc o1).alloc o2).cell 1
    simpa using this
  have hbel : ∀ o1 o2, Below w.heap.size w ((w.alloc o1).alloc o2) := fun o1 o2 => ((Below.refl _ _).alloc (Nat.le_refl _) _).alloc (by simp) _
  have HG := Lib.hid hG.gsl
  have Hb := Lib.hid hbel
  clear hb hG hbel
  have hmf : ∀ (fn : Fn) (first cap : Array Value) (w : World), (Instr.makeFunc fn first cap).run Try.prog w = .ok (.func fn first cap) w := fun _ _ _ _ => rfl
  by_cases hab : a = b
  · have HM : Hid (meets G a b = true) := Lib.hid (by simp [meets, hab])
    have hab' : (a == b) = true := by simpa using hab
    clear hab
    go_enter Try.func11, Try.ntmps11
    go_wp2_with fail
    go_ret
    exact ⟨by rw [HM.out]; rfl, Hb.out _ _⟩
  · have hab' : (a == b) = false := by simpa using hab
    by_cases hz : G.length = 0
    · have HM : Hid (meets G a b = true) := Lib.hid (by simp [meets, hz])
      have hz' : ((G.length : Int) == 0) = true := by simp [hz]
      clear hab hz
      go_enter Try.func11, Try.ntmps11
      go_wp2_with fail
      go_ret
      exact ⟨by rw [HM.out]; rfl, Hb.out _ _⟩
    · have HM : Hid (meets G a b = G.any (both a b)) := Lib.hid (by simp [meets, hz, hab'])
      have hz' : ((G.length : Int) == 0) = false := by simp; intro h; exact hz (by simp [h])
      clear hab hz
      go_enter Try.func11, Try.ntmps11
      go_wp2_with fail
      refine (containsFunc_any a b _ _ Ag G.length cg G _ ?_ (by omega) ?_ ?_).mono ?_
      · obtain ⟨vs, h2, h3, h4⟩ := HG.out
        refine ⟨vs, h2.below (Hb.out _ _), h3, fun i zs hi => ?_⟩
        obtain ⟨Ai, ci, h5, h6, h7⟩ := h4 i zs hi
        exact ⟨Ai, ci, h5, h6.below (Hb.out _ _), h7⟩
      · go_simp
      · go_simp
      rintro e w' ⟨rfl, rfl⟩
      go_wp2_with fail
      go_ret
      exact ⟨by rw [HM.out]; rfl, Hb.out _ _⟩

theorem lcells_one (L : List Letter) : ∀ u ∈ lcells L, u.oneCell' = true := by
  intro u hu
  unfold lcells at hu
  rw [List.mem_flatMap] at hu
  obtain ⟨l, _, h⟩ := hu
  simp at h
  rcases h with rfl | rfl | rfl <;> rfl

/-- The post's letters lie in another block than b. -/
def Away (w : World) (g b : Nat) : Prop := ∀ a n c, w.cell? ⟨g, 0, none⟩ = some (.slice (some a) n c) → 0 < n → a.block ≠ b

def Turned (w : World) (g : Nat) (v : Value) (L : List Letter) (G : List (List Int)) (en : Ending) (w' : World) : Prop :=
  en = .returned v ∧ PostAt w' g L G ∧ Only g w w' ∧ ∀ b, b < w.heap.size → Away w g b → Away w' g b

theorem GRow.only {w w' : World} {A : Option Addr} {G : List (List Int)} (h : GRow w A G) {g : Nat} (ho : Only g w w') {cs : Array Value} (hb : Blk w g 44 cs) : GRow w' A G :=
  h.keep fun k hk ht => ho.block k hk fun heq => by
    have hgk : k = g := by simpa using heq
    subst hgk
    unfold Blk at hb
    rcases ht with ⟨cur, hc⟩ | ⟨cur, hc⟩ <;> (rw [hb] at hc; injection hc with hc; injection hc with _ ht; cases ht)

/-- The letters' field is stored anew. -/
theorem turned_letters {w w1 : World} {g n c m cg n' c' : Nat} {A Ag A' : Option Addr} {L' : List Letter} {G : List (List Int)} (v : Value)
    (hb : Blk w g 44 #[.slice A n c, .slice Ag m cg]) (hG : GRow w Ag G) (hm : G.length = m) (hb1 : Below w.heap.size w w1)
    (hr : Row w1 32 3 A' n' (lcells L')) (hn : n' = L'.length) (hc : n' ≤ c') (hL : L'.length ≤ 10000) (hGn : G.length ≤ 1000000)
    (hF : ∀ a, A' = some a → 0 < n' → (A = some a ∧ 0 < n) ∨ w.heap.size ≤ a.block) :
    Turned w g v L' G (.returned v) (w1.setCell ⟨g, 0, none⟩ (.slice A' n' c')) := by
  subst hn
  subst hm
  have hbw := hb.below hb1
  have ho := only_set w1 g 0 (.slice A' L'.length c')
  refine ⟨rfl, ⟨A', c', Ag, cg, ?_, hr.only ho hbw (by decide), hc, hL, (hG.below hb1).only ho hbw, hGn⟩, only_trans (only_below hb1) ho, fun b hlt haw => ?_⟩
  · exact hbw.set_ 0 _
  · intro a n' c'' hc0 hn0
    have h1 := (hbw.set_ 0 (.slice A' L'.length c')).cell 0
    rw [h1] at hc0
    simp at hc0
    obtain ⟨rfl, rfl, rfl⟩ := hc0
    rcases hF a rfl hn0 with ⟨rfl, hn⟩ | hge
    · have h2 := hb.cell 0
      exact haw a n c (by simpa using h2) hn
    · omega

set_option maxHeartbeats 1000000 in
theorem lose_yes (g : Nat) (L : List Letter) (G : List (List Int)) (k : Nat) (w : World) (hp : PostAt w g L G) (hk : k < L.length) :
    Calls Try.prog 15 #[.pointer (some ⟨g, 0, none⟩), .int .i64 k] w (Turned w g (.bool true) (L.eraseIdx k) G) := by
  have Hp := Lib.hid hp
  obtain ⟨A, c, Ag, cg, hb, hr, hc, hL, hG, hGn⟩ := hp
  have hlt := hb.lt
  have h0 := hb.cell 0
  have f0 := hb.frozen 0
  simp at h0
  have HB := Lib.hid hb
  have HR := Lib.hid hr
  have HG := Lib.hid hG
  clear hb hr hG
  have d1 : decide (0 ≤ (k : Int) ∧ (k : Int) < (L.length : Int)) = true := by simp; exact hk
  have k0 : (0 : Int) ≤ (k : Int) := by omega
  have k1 : (k : Int) ≤ (c : Int) := by omega
  have k2 : (k : Int) + 1 ≤ (c : Int) := by omega
  have k3 : (k : Int) + 1 ≤ (L.length : Int) := by omega
  have k4 : (L.length : Int) ≤ 10000 := by omega
  have k5 : (k : Int) ≤ (L.length : Int) := by omega
  have kw : IntKind.i64.wrap ((k : Int) + 1) = (k : Int) + 1 := IntWalk.i64_in _ (by omega)
  obtain ⟨i0, hi, hz0, hz1, hz2⟩ := info_parts info_letter
  have sl1 := cut_hi (P := Try.prog) 40 32 i0 Try.underlying40 hi .i64 A L.length c k (by omega)
  obtain ⟨A2, sl2, s2, -⟩ := cut_lo (P := Try.prog) 40 32 i0 Try.underlying40 hi 3 hz1 .i64 A L.length c ((k : Int) + 1) (k + 1) (by omega) (by omega) hc
  have S1 : Hid (Sl w 3 A k (lcells (L.take k))) := Lib.hid (by rw [lcells_take]; exact HR.out.sl.take (by omega))
  have S2 : Hid (Sl w 3 A2 (L.length - (k + 1)) (lcells (L.drop (k + 1)))) := Lib.hid (by rw [lcells_drop]; exact s2 _ _ HR.out.sl)
  have E1 : Hid (k + (L.length - (k + 1)) = (L.eraseIdx k).length) := Lib.hid (by rw [List.length_eraseIdx, if_pos hk]; omega)
  have E2 : Hid (lcells (L.take k) ++ lcells (L.drop (k + 1)) = lcells (L.eraseIdx k)) := Lib.hid (by rw [← lcells_append, List.eraseIdx_eq_take_drop_succ])
  clear hi hz0 hz1 hz2 s2
  go_enter Try.func15, Try.ntmps15
  go_wp2_with fail
  refine (has_any g L G k w Hp.out).mono ?_
  rintro e w' ⟨rfl, rfl⟩
  go_wp2_with fail
  go_region_law (first | (go_simp; go_at_call 24; refine (concat_two w.heap.size A A2 k (L.length - (k + 1)) c (c - (k + 1)) (lcells (L.take k)) (lcells (L.drop (k + 1))) _ (Blk.new w _ _).drew (S1.out.below ((Below.refl _ _).alloc (Nat.le_refl _) _).drew) (S2.out.below ((Below.refl _ _).alloc (Nat.le_refl _) _).drew) (lcells_one _) (lcells_one _) (by omega)).mono ?_; rintro e w1 ⟨A', c', rfl, hrow, hb1, hc', hfr⟩; have Hfr := Lib.hid hfr; clear hfr; have Hrow := Lib.hid hrow; have Hb1 := Lib.hid hb1; clear hrow hb1; have g0 := (Hb1.out.cell (p := ⟨g, 0, none⟩) (by simp; omega)).trans (((HB.out.alloc _).cell 0)); simp only [List.getElem?_toArray, List.getElem?_cons_zero] at g0; have f1 := (Hb1.out.frozen (p := ⟨g, 0, none⟩) (by simp; omega)).trans ((HB.out.alloc _).frozen 0)))
  all_goals
    have hbw : Below w.heap.size w w1 := (((Below.refl _ _).alloc (Nat.le_refl _) _).drew).trans (Hb1.out.mono (by simp))
    have HBW := Lib.hid hbw
    clear hbw
    go_wp2_with fail
    go_ret
    exact turned_letters _ HB.out HG.out rfl HBW.out (by rw [← E2.out]; exact Hrow.out) E1.out (by omega) (by rw [← E1.out]; omega) hGn (fun a ha _ => .inr (by have := Hfr.out a ha; simp at this; omega))

#print axioms met_any
end Go.Proofs.Ytcggmdidnpdciaa
