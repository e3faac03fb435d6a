/-
  PostParts: nodes of one group meet, of none in common do not.
-/
import Derived.Test.YtcggmdidnpdciaaGroups
namespace Go.Proofs.Ytcggmdidnpdciaa
open Go.RowKit

/-- Rows of ints that came in. -/
def GOld (w : World) (A : Option Addr) (G : List (List Int)) : Prop :=
  ∃ vs, Sl w 1 A G.length vs ∧ ∀ (i : Nat) (zs : List Int), G[i]? = some zs → ∃ Ai ci, vs[i]? = some (Value.slice Ai zs.length ci) ∧ Sl w 1 Ai zs.length (ints zs) ∧ zs.length ≤ ci ∧ ci ≤ 9223372036854775807

theorem Sl.slx {w w' : World} {g s n : Nat} {A : Option Addr} {xs : List Value} (h : Sl w s A n xs) (hb : Below w.heap.size w w') (hg : w.heap.size ≤ g) : SlX w' g s A n xs :=
  ⟨h.below hb, fun hn a ha => by
    obtain ⟨k, o, he, hk, _⟩ := h.2 hn
    rw [he] at ha; injection ha with ha; subst ha; simp; omega⟩

theorem GOld.gin {w w' : World} {g : Nat} {A : Option Addr} {G : List (List Int)} (h : GOld w A G) (hb : Below w.heap.size w w') (hg : w.heap.size ≤ g) : GIn w' g A G := by
  obtain ⟨vs, h1, h2⟩ := h
  refine ⟨vs, h1.slx hb hg, fun i zs hi => ?_⟩
  obtain ⟨Ai, ci, h3, h4, h5, h6⟩ := h2 i zs hi
  exact ⟨Ai, ci, h3, h4.slx hb hg, h5, h6⟩

/-- What 'is' holds after k groups. -/
def isAt (G : List (List Int)) (a b : Int) (k : Nat) : Bool := (G.length == 0 || a == b) || (G.take k).any (both a b)

theorem isAt_end (G : List (List Int)) (a b : Int) : isAt G a b G.length = meets G a b := by
  unfold isAt meets
  rw [List.take_length]
  cases a == b <;> cases G.length == 0 <;> simp

theorem isAt_succ (G : List (List Int)) (a b : Int) (k : Nat) (h : k < G.length) : isAt G a b (k + 1) = (isAt G a b k || both a b G[k]) := by
  unfold isAt
  rw [List.take_succ_eq_append_getElem h, List.any_append]
  simp [Bool.or_assoc]

theorem meets_comm (G : List (List Int)) (a b : Int) : meets G b a = meets G a b := by
  unfold meets
  have h1 : (b == a) = (a == b) := Bool.beq_comm
  have h2 : both b a = both a b := by funext zs; unfold both; rw [Bool.and_comm]
  rw [h1, h2]

theorem meets_self (G : List (List Int)) (a : Int) : meets G a a = true := by simp [meets]

/-- Has v been met among the first k? -/
def seen (zs : List Int) (v : Int) (k : Nat) : Bool := decide (v ∈ zs.take k)
theorem seen_succ (zs : List Int) (v : Int) (k : Nat) (h : k < zs.length) : seen zs v (k + 1) = (seen zs v k || (zs[k] == v)) := by
  unfold seen
  rw [List.take_succ_eq_append_getElem h, Bool.eq_iff_iff]
  simp only [decide_eq_true_eq, List.mem_append, List.mem_singleton, Bool.or_eq_true, beq_iff_eq]
  exact ⟨fun h => h.imp id Eq.symm, fun h => h.imp id Eq.symm⟩
theorem seen_end (zs : List Int) (v : Int) : seen zs v zs.length = decide (v ∈ zs) := by unfold seen; rw [List.take_length]

theorem gslx_nil {w : World} {g : Nat} : GSlX w g none [] := ⟨[], ⟨Sl.nil _ _ _, fun h => absurd h (by simp)⟩, by simp⟩

set_option maxHeartbeats 4000000 in
set_option maxRecDepth 100000 in
theorem parts_walk (A : Option Addr) (c : Nat) (G0 : List (List Int)) (a b : Int) (w : World) (hG : GOld w A G0) (hn : G0.length ≤ 9223372036854775807) :
    Calls Try.prog 3 #[.slice A G0.length c, .int .i64 a, .int .i64 b] w fun e w' => e = .returned (.bool true) ∧ Below w.heap.size w w' := by
  have HG0 := Lib.hid hG
  clear hG
  go_enter Try.func3, Try.ntmps3
  go_wp2_with fail
  refine (awake_any _).mono ?_
  rintro e w1 ⟨rfl, hb1⟩
  have B1 := Lib.hid hb1
  clear hb1
  go_wp2_with fail
  refine (new_any _).mono ?_
  rintro e w' ⟨rfl, rfl⟩
  have P0 := Lib.hid (post_new w1)
  have B0 := Lib.hid (B1.out.alloc B1.out.size (.cells #[.slice none 0 0, .slice none 0 0] 44))
  go_wp2_with fail
  refine (groups_any w1.heap.size A c G0 _ (HG0.out.gin B0.out B1.out.size) (by simp) hn).mono ?_
  rintro e w2 ⟨Ag, cg, rfl, hgs, hb2, hcg⟩
  have hG3 := trim_le G0
  generalize trim G0 = G at hgs hcg hG3 ⊢
  have P2 := Lib.hid (P0.out.below hb2)
  have B2 : Hid (Below w.heap.size w w2) := Lib.hid (B0.out.trans (hb2.mono B0.out.size))
  have Hgs := Lib.hid hgs
  clear hgs hb2
  go_wp2_with fail
  refine (part_any w1.heap.size [] [] G Ag cg _ P2.out Hgs.out (by omega)).mono ?_
  rintro e w3 ⟨rfl, hp3, ho3, -⟩
  have P3 := Lib.hid hp3
  have B3 : Hid (Below w.heap.size w w3) := Lib.hid (B2.out.trans (ho3.below B1.out.size B2.out.size))
  have Hgs3 := Lib.hid (Hgs.out.only ho3)
  clear hp3 ho3
  by_cases hGe : G = []
  · subst hGe
    have hm : Hid (meets [] a b = true) := Lib.hid (by simp [meets])
    go_wp2_with fail
    refine wp_loop_rounds 1 ?_
    rw [rounds_succ]
    go_wp2_with fail
    refine (met_any w1.heap.size [] _ a b _ P3.out).mono ?_
    rintro e w4 ⟨rfl, hb4⟩
    rw [hm.out]
    have P4 := Lib.hid (P3.out.below hb4)
    have B4 : Hid (Below w.heap.size w w4) := Lib.hid (B3.out.trans (hb4.mono B3.out.size))
    clear hb4
    go_wp2_with fail
    refine (met_any w1.heap.size [] _ b a _ P4.out).mono ?_
    rintro e w5 ⟨rfl, hb5⟩
    rw [meets_comm, hm.out]
    have P5 := Lib.hid (P4.out.below hb5)
    have B5 : Hid (Below w.heap.size w w5) := Lib.hid (B4.out.trans (hb5.mono B4.out.size))
    clear hb5
    go_wp2_with fail
    refine (met_any w1.heap.size [] _ a a _ P5.out).mono ?_
    rintro e w6 ⟨rfl, hb6⟩
    rw [meets_self]
    have P6 := Lib.hid (P5.out.below hb6)
    have B6 : Hid (Below w.heap.size w w6) := Lib.hid (B5.out.trans (hb6.mono B5.out.size))
    clear hb6
    go_wp2_with fail
    refine (send_fit w1.heap.size [] _ _ 1 [⟨a, b, ⟨#[]⟩⟩] _ (P6.out.below ((Below.refl _ _).alloc (Nat.le_refl _) _)) (sl_new_letter w6 ⟨a, b, ⟨#[]⟩⟩) (Nat.le_refl _) (by simp)).mono ?_
    rintro e w7 ⟨rfl, hp7, ho7, -⟩
    have P7 := Lib.hid hp7
    have B7 : Hid (Below w.heap.size w w7) := Lib.hid ((B6.out.alloc B6.out.size _).trans (ho7.below B1.out.size (by have := B6.out.size; simp; omega)))
    clear hp7 ho7
    go_wp2_with fail
    refine (take_in w1.heap.size _ _ 0 ⟨a, b, ⟨#[]⟩⟩ _ P7.out rfl).mono ?_
    rintro e w8 ⟨rfl, hp8, ho8, -⟩
    have ht : told [] ⟨a, b, ⟨#[]⟩⟩ = .tuple #[.agg #[.int .i64 a, .int .i64 b, .string ⟨#[]⟩], .bool true] := by unfold told; rw [hm.out]; rfl
    rw [ht]
    have P8 := Lib.hid hp8
    have B8 : Hid (Below w.heap.size w w8) := Lib.hid (B7.out.trans (ho8.below B1.out.size B7.out.size))
    clear hp8 ho8 ht
    go_wp2_with fail
    refine (part_any w1.heap.size [] _ [] none 0 _ (P8.out.below ((Below.refl _ _).alloc (Nat.le_refl _) _)) gslx_nil (by simp)).mono ?_
    rintro e w9 ⟨rfl, hp9, ho9, -⟩
    have P9 := Lib.hid hp9
    have B9 : Hid (Below w.heap.size w w9) := Lib.hid ((B8.out.alloc B8.out.size _).trans (ho9.below B1.out.size (by have := B8.out.size; simp; omega)))
    have hme : meets [] a b = true := by simp [meets]
    clear hp9 ho9
    go_wp2_with fail
    refine (met_any w1.heap.size [] [] a b _ P9.out).mono ?_
    rintro e w10 ⟨rfl, hb10⟩
    rw [hme]
    have P10 := Lib.hid (P9.out.below hb10)
    have B10 : Hid (Below w.heap.size w w10) := Lib.hid (B9.out.trans (hb10.mono B9.out.size))
    clear hb10 hme
    go_wp2_with fail
    refine (len_any w1.heap.size [] [] _ P10.out).mono ?_
    rintro e w' ⟨rfl, rfl⟩
    go_wp2_with fail
    go_ret
    exact ⟨rfl, B10.out⟩
  · have hne : (G.length == 0) = false := by simpa using hGe
    have hE1 : Hid (isAt G a b 0 = (a == b)) := Lib.hid (by unfold isAt; rw [hne]; simp)
    have hz1 : ((G.length : Int) == 0) = false := by simpa using hGe
    go_wp2_with fail
    go_loopw [11, 10, 12, 13, 14] (fun i is _ _ _ wr => ∃ k : Nat, k ≤ G.length ∧ i = .int .i64 k ∧ is = .bool (isAt G a b k) ∧ wr = w3) (fun i _ _ _ _ _ => G.length - (intOf i).toNat)
    case atStart => exact ⟨0, Nat.zero_le _, rfl, by rw [hE1.out], rfl⟩
    case round =>
      obtain ⟨k, hk, rfl, rfl, rfl⟩ := hrel
      by_cases hlt : k < G.length
      · obtain ⟨gs, hgs, hGi⟩ := Hgs3.out
        obtain ⟨ga, oa, rfl, hga, hca⟩ := hgs.1.2 (by omega)
        obtain ⟨Ai, ci, hv, hs, hz⟩ := hGi k G[k] (List.getElem?_eq_getElem hlt)
        have hck : wr.cell? ⟨ga, oa + k, none⟩ = some (.slice Ai G[k].length ci) := hca k _ hv
        have HK := Lib.hid (isAt_succ G a b k hlt)
        generalize hzz : G[k] = zs at hck hs hz HK
        have Hs := Lib.hid hs
        have hkl : (k : Int) < (G.length : Int) := by omega
        clear hs hzz hca hv hgs hGi
        generalize hx : isAt G a b k = x0 at *
        have Hx := Lib.hid hx
        clear hx
        go_wp2_with fail
        go_loopw [14, 12, 13] (fun j x y wq => ∃ q : Nat, q ≤ zs.length ∧ j = .int .i64 q ∧ x = .bool (seen zs a q) ∧ y = .bool (seen zs b q) ∧ wq = wr) (fun j _ _ _ => zs.length - (intOf j).toNat)
        case atStart => exact ⟨0, Nat.zero_le _, rfl, by simp [seen], by simp [seen], rfl⟩
        case round =>
          obtain ⟨q, hq, rfl, rfl, rfl, rfl⟩ := hrel
          by_cases hql : q < zs.length
          · have hql' : (q : Int) < (zs.length : Int) := by omega
            obtain ⟨gi, oi, rfl, hgi, hci⟩ := Hs.out.1.2 (by omega)
            have hcq : wr.cell? ⟨gi, oi + q, none⟩ = some (.int .i64 zs[q]) := hci q _ (by simp)
            have HA := Lib.hid (seen_succ zs a q hql)
            have HB := Lib.hid (seen_succ zs b q hql)
            generalize hzq : zs[q] = z at hcq HA HB
            clear hzq hci
            generalize hsa : seen zs a q = sa at *
            generalize hsb : seen zs b q = sb at *
            clear hsa hsb
            cases sa <;> cases sb
            all_goals
              go_wp2_with fail
              go_roundw
              case rel => exact ⟨q + 1, by omega, by go_num, by rw [HA.out]; simp, by rw [HB.out]; simp, by simp⟩
              case measure => simp [intOf]; omega
          · have hqz : q = zs.length := by omega
            have hql' : ¬ ((q : Int) < (zs.length : Int)) := by omega
            have HBo : Hid (both a b zs = (seen zs a q && seen zs b q)) := Lib.hid (by rw [hqz, seen_end, seen_end]; rfl)
            generalize hsa : seen zs a q = sa at *
            generalize hsb : seen zs b q = sb at *
            clear hsa hsb hqz
            cases x0 <;> cases sa <;> cases sb
            all_goals
              go_wp2_with fail
              go_roundw
              case rel => exact ⟨k + 1, by omega, by go_num, by rw [HK.out, HBo.out]; rfl, by simp⟩
              case measure => simp [intOf]; omega
      · have hkl : ¬ ((k : Int) < (G.length : Int)) := by omega
        have hkG : k = G.length := by omega
        have HI : Hid (isAt G a b k = meets G a b) := Lib.hid (by rw [hkG, isAt_end])
        clear hkG
        generalize hi0 : isAt G a b k = m0 at *
        clear hi0
        cases m0
        · have hm : Hid (meets G a b = false) := Lib.hid HI.out.symm
          clear HI
          go_wp2_with fail
          refine (met_any w1.heap.size [] _ a b _ P3.out).mono ?_
          rintro e w4 ⟨rfl, hb4⟩
          rw [hm.out]
          have P4 := Lib.hid (P3.out.below hb4)
          have B4 : Hid (Below w.heap.size w w4) := Lib.hid (B3.out.trans (hb4.mono B3.out.size))
          clear hb4
          go_wp2_with fail
          refine (met_any w1.heap.size [] _ b a _ P4.out).mono ?_
          rintro e w5 ⟨rfl, hb5⟩
          rw [meets_comm, hm.out]
          have P5 := Lib.hid (P4.out.below hb5)
          have B5 : Hid (Below w.heap.size w w5) := Lib.hid (B4.out.trans (hb5.mono B4.out.size))
          clear hb5
          go_wp2_with fail
          refine (met_any w1.heap.size [] _ a a _ P5.out).mono ?_
          rintro e w6 ⟨rfl, hb6⟩
          rw [meets_self]
          have P6 := Lib.hid (P5.out.below hb6)
          have B6 : Hid (Below w.heap.size w w6) := Lib.hid (B5.out.trans (hb6.mono B5.out.size))
          clear hb6
          go_wp2_with fail
          refine (send_fit w1.heap.size [] _ _ 1 [⟨a, b, ⟨#[]⟩⟩] _ (P6.out.below ((Below.refl _ _).alloc (Nat.le_refl _) _)) (sl_new_letter w6 ⟨a, b, ⟨#[]⟩⟩) (Nat.le_refl _) (by simp)).mono ?_
          rintro e w7 ⟨rfl, hp7, ho7, -⟩
          have P7 := Lib.hid hp7
          have B7 : Hid (Below w.heap.size w w7) := Lib.hid ((B6.out.alloc B6.out.size _).trans (ho7.below B1.out.size (by have := B6.out.size; simp; omega)))
          clear hp7 ho7
          go_wp2_with fail
          refine (take_in w1.heap.size _ _ 0 ⟨a, b, ⟨#[]⟩⟩ _ P7.out rfl).mono ?_
          rintro e w8 ⟨rfl, hp8, ho8, -⟩
          have ht : told G ⟨a, b, ⟨#[]⟩⟩ = .tuple #[.agg #[.int .i64 0, .int .i64 0, .string ⟨#[]⟩], .bool false] := by unfold told; rw [hm.out]; rfl
          rw [ht]
          have P8 := Lib.hid hp8
          have B8 : Hid (Below w.heap.size w w8) := Lib.hid (B7.out.trans (ho8.below B1.out.size B7.out.size))
          clear hp8 ho8 ht
          go_wp2_with fail
          refine (part_any w1.heap.size [] _ [] none 0 _ (P8.out.below ((Below.refl _ _).alloc (Nat.le_refl _) _)) gslx_nil (by simp)).mono ?_
          rintro e w9 ⟨rfl, hp9, ho9, -⟩
          have P9 := Lib.hid hp9
          have B9 : Hid (Below w.heap.size w w9) := Lib.hid ((B8.out.alloc B8.out.size _).trans (ho9.below B1.out.size (by have := B8.out.size; simp; omega)))
          have hme : meets [] a b = true := by simp [meets]
          clear hp9 ho9
          go_wp2_with fail
          refine (met_any w1.heap.size [] [] a b _ P9.out).mono ?_
          rintro e w10 ⟨rfl, hb10⟩
          rw [hme]
          have P10 := Lib.hid (P9.out.below hb10)
          have B10 : Hid (Below w.heap.size w w10) := Lib.hid (B9.out.trans (hb10.mono B9.out.size))
          clear hb10 hme
          go_wp2_with fail
          refine (len_any w1.heap.size [] [] _ P10.out).mono ?_
          rintro e w' ⟨rfl, rfl⟩
          go_wp2_with fail
          go_ret
          exact ⟨rfl, B10.out⟩
        · have hm : Hid (meets G a b = true) := Lib.hid HI.out.symm
          clear HI
          go_wp2_with fail
          refine (met_any w1.heap.size [] _ a b _ P3.out).mono ?_
          rintro e w4 ⟨rfl, hb4⟩
          rw [hm.out]
          have P4 := Lib.hid (P3.out.below hb4)
          have B4 : Hid (Below w.heap.size w w4) := Lib.hid (B3.out.trans (hb4.mono B3.out.size))
          clear hb4
          go_wp2_with fail
          refine (met_any w1.heap.size [] _ b a _ P4.out).mono ?_
          rintro e w5 ⟨rfl, hb5⟩
          rw [meets_comm, hm.out]
          have P5 := Lib.hid (P4.out.below hb5)
          have B5 : Hid (Below w.heap.size w w5) := Lib.hid (B4.out.trans (hb5.mono B4.out.size))
          clear hb5
          go_wp2_with fail
          refine (met_any w1.heap.size [] _ a a _ P5.out).mono ?_
          rintro e w6 ⟨rfl, hb6⟩
          rw [meets_self]
          have P6 := Lib.hid (P5.out.below hb6)
          have B6 : Hid (Below w.heap.size w w6) := Lib.hid (B5.out.trans (hb6.mono B5.out.size))
          clear hb6
          go_wp2_with fail
          refine (send_fit w1.heap.size [] _ _ 1 [⟨a, b, ⟨#[]⟩⟩] _ (P6.out.below ((Below.refl _ _).alloc (Nat.le_refl _) _)) (sl_new_letter w6 ⟨a, b, ⟨#[]⟩⟩) (Nat.le_refl _) (by simp)).mono ?_
          rintro e w7 ⟨rfl, hp7, ho7, -⟩
          have P7 := Lib.hid hp7
          have B7 : Hid (Below w.heap.size w w7) := Lib.hid ((B6.out.alloc B6.out.size _).trans (ho7.below B1.out.size (by have := B6.out.size; simp; omega)))
          clear hp7 ho7
          go_wp2_with fail
          refine (take_in w1.heap.size _ _ 0 ⟨a, b, ⟨#[]⟩⟩ _ P7.out rfl).mono ?_
          rintro e w8 ⟨rfl, hp8, ho8, -⟩
          have ht : told G ⟨a, b, ⟨#[]⟩⟩ = .tuple #[.agg #[.int .i64 a, .int .i64 b, .string ⟨#[]⟩], .bool true] := by unfold told; rw [hm.out]; rfl
          rw [ht]
          have P8 := Lib.hid hp8
          have B8 : Hid (Below w.heap.size w w8) := Lib.hid (B7.out.trans (ho8.below B1.out.size B7.out.size))
          clear hp8 ho8 ht
          go_wp2_with fail
          refine (part_any w1.heap.size [] _ [] none 0 _ (P8.out.below ((Below.refl _ _).alloc (Nat.le_refl _) _)) gslx_nil (by simp)).mono ?_
          rintro e w9 ⟨rfl, hp9, ho9, -⟩
          have P9 := Lib.hid hp9
          have B9 : Hid (Below w.heap.size w w9) := Lib.hid ((B8.out.alloc B8.out.size _).trans (ho9.below B1.out.size (by have := B8.out.size; simp; omega)))
          have hme : meets [] a b = true := by simp [meets]
          clear hp9 ho9
          go_wp2_with fail
          refine (met_any w1.heap.size [] [] a b _ P9.out).mono ?_
          rintro e w10 ⟨rfl, hb10⟩
          rw [hme]
          have P10 := Lib.hid (P9.out.below hb10)
          have B10 : Hid (Below w.heap.size w w10) := Lib.hid (B9.out.trans (hb10.mono B9.out.size))
          clear hb10 hme
          go_wp2_with fail
          refine (len_any w1.heap.size [] [] _ P10.out).mono ?_
          rintro e w' ⟨rfl, rfl⟩
          go_wp2_with fail
          go_ret
          exact ⟨rfl, B10.out⟩

#print axioms parts_walk
end Go.Proofs.Ytcggmdidnpdciaa
