/-
  Grant.
-/
import Derived.Test.YthmclonjgbmhhaaFree
import Derived.Test.YthmclonjgbmhhaaRefGrant
namespace Go.Proofs.Ythmclonjgbmhhaa
open Go.RowKit
set_option linter.unusedVariables false

def grantCE (l : List Hold) (now : Int) (d : Dot) (r u : Int) : Int :=
  if !okArg d r then 1 else if !okTime now u then 18 else match findC l d with
  | some h => if !(h.rc == r) && decide (now < h.un) then 16 else 0
  | none => if l.length ≥ 1000 then 15 else 0
def putC (l : List Hold) (d : Dot) (h : Hold) : List Hold := if isC l d then l.set (pos l d) h else l.take (pos l d) ++ [h] ++ l.drop (pos l d)
def grantC (l : List Hold) (now : Int) (d : Dot) (r u : Int) : List Hold := if grantCE l now d r u = 0 then putC l d ⟨d, r, untilR (findC l d) now r u⟩ else []

theorem grantC_bad {l : List Hold} {now : Int} {d : Dot} {r u : Int} (h : okArg d r = false) : grantCE l now d r u = 1 ∧ grantC l now d r u = [] := by
  have : grantCE l now d r u = 1 := by unfold grantCE; rw [h]; rfl
  exact ⟨this, by unfold grantC; rw [this]; rfl⟩
theorem grantC_late {l : List Hold} {now : Int} {d : Dot} {r u : Int} (h : okArg d r = true) (h2 : okTime now u = false) : grantCE l now d r u = 18 ∧ grantC l now d r u = [] := by
  have : grantCE l now d r u = 18 := by unfold grantCE; rw [h, h2]; rfl
  exact ⟨this, by unfold grantC; rw [this]; rfl⟩

theorem isC_some {l : List Hold} {d : Dot} (h : isC l d = true) : ∃ t, l[pos l d]? = some t ∧ findC l d = some t ∧ pos l d < l.length := by
  unfold isC at h
  cases hk : l[pos l d]? with
  | none => rw [hk] at h; cases h
  | some t => exact ⟨t, rfl, by unfold findC; rw [show isC l d = true by unfold isC; rw [hk]; rw [hk] at h; exact h, hk]; rfl, (List.getElem?_eq_some_iff.1 hk).1⟩
theorem isC_none {l : List Hold} {d : Dot} (h : isC l d = false) : findC l d = none := by unfold findC; rw [h]; rfl

theorem own_put4 {w : World} {base : Nat} {n g cap : Nat} {L : List Hold} (h : w.ownsRow base 30 4 (.slice (some ⟨g, 0, none⟩) n cap) n (hcells L)) (i : Nat) (hi : i < L.length) (t : Hold) :
    ((((w.setCell ⟨g, i * 4, none⟩ (.int .i64 t.d.nd)).setCell ⟨g, i * 4 + 1, none⟩ (.int .i64 t.d.n)).setCell ⟨g, i * 4 + 2, none⟩ (.int .i64 t.rc)).setCell ⟨g, i * 4 + 3, none⟩ (.int .i64 t.un)).ownsRow base 30 4 (.slice (some ⟨g, 0, none⟩) n cap) n (hcells (L.set i t)) := by
  have := own_set (own_set (own_set (own_set h (i * 4) (.int .i64 t.d.nd)) (i * 4 + 1) (.int .i64 t.d.n)) (i * 4 + 2) (.int .i64 t.rc)) (i * 4 + 3) (.int .i64 t.un)
  have hs := hcells_set L i hi t []
  simp only [List.append_nil] at hs
  rw [hs] at this
  exact this
theorem put4_ret {w w3 : World} {n g cap i : Nat} {L L' : List Hold} {er : Int} (h : w3.ownsRow (w.heap.size + 1) 30 4 (.slice (some ⟨g, 0, none⟩) n cap) n (hcells L)) (hb : Below w.heap.size w w3) (hi : i < L.length) (t : Hold) (hl : L.length = n) (hgb : w.heap.size ≤ g) (hL : L' = L.set i t) :
    HoldsE w er L' (.returned (.tuple #[.slice (some ⟨g, 0, none⟩) n cap, .int .i64 er])) ((((w3.setCell ⟨g, i * 4, none⟩ (.int .i64 t.d.nd)).setCell ⟨g, i * 4 + 1, none⟩ (.int .i64 t.d.n)).setCell ⟨g, i * 4 + 2, none⟩ (.int .i64 t.rc)).setCell ⟨g, i * 4 + 3, none⟩ (.int .i64 t.un)) := by
  subst hL
  have h2 := own_base (own_put4 h i hi t) (base' := w.heap.size) (by omega)
  refine ⟨_, rfl, ?_, (((hb.setCell hgb _).setCell hgb _).setCell hgb _).setCell hgb _⟩
  rw [List.length_set, hl]
  exact h2
theorem set_new (l : List Hold) (k : Nat) (hk : k ≤ l.length) (a b : Hold) : (l.take k ++ [a] ++ l.drop k).set k b = l.take k ++ [b] ++ l.drop k := by
  have hl : (l.take k).length = k := by simp; omega
  rw [List.append_assoc, List.set_append_right _ _ (by omega), hl, List.append_assoc]
  simp

set_option maxRecDepth 20000 in
set_option maxHeartbeats 4000000 in
theorem grant_any (A : Option Addr) (c : Nat) (l : List Hold) (now : Int) (d : Dot) (r u : Int) (w : World) (hr : Sl w 4 A l.length (hcells l)) (hn : l.length ≤ 10000) :
    Calls Try.prog 12 #[.slice A l.length c, .int .i64 now, .agg #[.int .i64 d.nd, .int .i64 d.n], .int .i64 r, .int .i64 u] w (HoldsE w (grantCE l now d r u) (grantC l now d r u)) := by
  obtain ⟨W0, hW0⟩ : ∃ W0, w.alloc (.cells #[.int .i64 d.nd, .int .i64 d.n] 24) = W0 := ⟨_, rfl⟩
  have hb0 : Below w.heap.size w W0 := hW0 ▸ (Below.refl _ _).alloc (Nat.le_refl _) _
  have hd0 : DotAt W0 w.heap.size d := hW0 ▸ DotAt.new w d
  have hr0 := hr.below hb0
  have B0 := Lib.hid hb0
  have Hr := Lib.hid hr0
  have HD := Lib.hid hd0
  obtain ⟨q0, q1⟩ := hd0.cells
  clear hr hb0 hd0 hr0
  go_enter Try.func12, Try.ntmps12
  go_wp2_with fail
  refine (dotCheck_any d _).mono ?_
  rintro e w1 ⟨rfl, hb⟩
  have B1 := Lib.hid (B0.out.trans (hb.mono B0.out.size))
  have HD1 := Lib.hid (HD.out.below hb)
  have Hr1 := Lib.hid (Hr.out.below hb)
  clear hb hW0 Hr q0 q1
  obtain ⟨q0, q1⟩ := HD1.out.cells
  have hz1 := Blk.lt HD1.out
  cases hA : okArg d r
  · have HN : Hid (grantCE l now d r u = 1 ∧ grantC l now d r u = []) := Lib.hid (grantC_bad hA)
    unfold okArg at hA
    cases h1 : okDot d
    · clear hA h1
      go_wp2_with fail
      ((try simp only [Exit.inBlock, Exit.then]); refine bodyPost_ret (results_tmp2 rfl _ _ _) rfl ?_)
      rw [HN.out.1, HN.out.2]
      exact holds_nil 1 B1.out
    · have h2 : okI r = false := by rw [h1] at hA; simpa using hA
      clear hA h1
      go_wp2_with fail
      refine (receipt_any r _).mono ?_
      rintro e w' ⟨rfl, rfl⟩
      rw [h2]
      clear h2
      go_wp2_with fail
      ((try simp only [Exit.inBlock, Exit.then]); refine bodyPost_ret (results_tmp2 rfl _ _ _) rfl ?_)
      rw [HN.out.1, HN.out.2]
      exact holds_nil 1 B1.out
  · have hA' : okDot d = true ∧ okI r = true := by
      unfold okArg at hA
      simpa using hA
    obtain ⟨h1, h2⟩ := hA'
    rw [h1]
    have HA := Lib.hid hA
    clear h1 hA
    go_wp2_with fail
    refine (receipt_any r _).mono ?_
    rintro e w' ⟨rfl, rfl⟩
    rw [h2]
    clear h2
    cases hT : okTime now u
    · have HN : Hid (grantCE l now d r u = 18 ∧ grantC l now d r u = []) := Lib.hid (grantC_late HA.out hT)
      unfold okTime at hT
      by_cases h6 : u ≤ now
      · clear hT
        go_wp2_with fail
        ((try simp only [Exit.inBlock, Exit.then]); refine bodyPost_ret (results_tmp2 rfl _ _ _) rfl ?_)
        rw [HN.out.1, HN.out.2]
        exact holds_nil 18 B1.out
      · have h7 : okT u = false := by
          have : decide (now < u) = true := by simp; omega
          rw [this] at hT; simpa using hT
        have h8 : decide (u ≤ now) = false := by simpa using h6
        clear hT h6
        go_wp2_with fail
        refine (time_any u _).mono ?_
        rintro e w' ⟨rfl, rfl⟩
        rw [h7]
        clear h7
        go_wp2_with fail
        ((try simp only [Exit.inBlock, Exit.then]); refine bodyPost_ret (results_tmp2 rfl _ _ _) rfl ?_)
        rw [HN.out.1, HN.out.2]
        exact holds_nil 18 B1.out
    · have hT' : now < u ∧ okT u = true := by
        unfold okTime at hT
        simpa using hT
      obtain ⟨h6, h7⟩ := hT'
      have h8 : decide (u ≤ now) = false := by simp; omega
      have HT := Lib.hid hT
      clear hT h6
      go_wp2_with fail
      refine (time_any u _).mono ?_
      rintro e w' ⟨rfl, rfl⟩
      rw [h7]
      clear h7 h8
      go_wp2_with fail
      refine (clone_holds A l.length c _ _ Hr1.out (hcells_one l) (by omega)).mono ?_
      rintro e w2 ⟨v2, rfl, hown, hb2⟩
      have B2 := Lib.hid (B1.out.trans (hb2.mono B1.out.size))
      have HD2 := Lib.hid (HD1.out.below hb2)
      have HO2 := Lib.hid (own_base hown (base' := w.heap.size + 1) (by omega))
      clear hown hb2 HD1 Hr1 q0 q1
      obtain ⟨q0, q1⟩ := HD2.out.cells
      obtain ⟨A2, c2, rfl, hlc⟩ := own_slice HO2.out
      go_wp2_with fail
      refine (find_any A2 c2 l d _ (Row.of_own HO2.out).sl (by omega)).mono ?_
      rintro e w3 ⟨rfl, hb3⟩
      have B3 := Lib.hid (B2.out.trans (hb3.mono B2.out.size))
      have HD3 := Lib.hid (HD2.out.below hb3)
      have HO3 := Lib.hid (own_below HO2.out hb3)
      clear hb3 HD2 HO2 q0 q1
      obtain ⟨q0, q1⟩ := HD3.out.cells
      have hz3 := Blk.lt HD3.out
      have hmain : ∀ U, untilR (findC l d) now r u = U → grantCE l now d r u = 0 → Hid (grantCE l now d r u = 0 ∧ grantC l now d r u = putC l d ⟨d, r, U⟩) := fun U h1 h2 => Lib.hid ⟨h2, by unfold grantC; rw [if_pos h2, h1]⟩
      have hnil : ∀ E, grantCE l now d r u = E → E ≠ 0 → Hid (grantCE l now d r u = E ∧ grantC l now d r u = []) := fun E h1 h2 => Lib.hid ⟨h1, by unfold grantC; rw [h1, if_neg h2]⟩
      have HM := Lib.hid hmain
      have HN := Lib.hid hnil
      clear hmain hnil
      cases hI : isC l d
      · have hf := isC_none hI
        have HP : Hid (∀ h, putC l d h = l.take (pos l d) ++ [h] ++ l.drop (pos l d)) := Lib.hid (fun h => by unfold putC; rw [hI]; rfl)
        have hle : pos l d ≤ l.length := idx_le _ l
        clear hI
        obtain ⟨k, hpk⟩ : ∃ k, pos l d = k := ⟨_, rfl⟩
        rw [hpk] at HP hle ⊢
        clear hpk
        by_cases h1000 : l.length ≥ 1000
        · have d1 : decide ((1000 : Int) ≤ (l.length : Int)) = true := by simp; omega
          have HQ := HN.out 15 (by unfold grantCE; rw [HA.out, HT.out, hf]; simp [h1000]) (by omega)
          clear hf
          go_wp2_with fail
          ((try simp only [Exit.inBlock, Exit.then]); refine bodyPost_ret (results_tmp2 rfl _ _ _) rfl ?_)
          rw [HQ.out.1, HQ.out.2]
          exact holds_nil 15 B3.out
        · have d1 : decide ((1000 : Int) ≤ (l.length : Int)) = false := by simp; omega
          have HQ := HM.out u (by rw [hf]; rfl) (by unfold grantCE; rw [HA.out, HT.out, hf]; simp [h1000])
          clear hf
          go_wp2_with fail
          refine (insert_own (w.heap.size + 1) l.length k _ (hcells l) [.int .i64 0, .int .i64 0, .int .i64 0, .int .i64 0] w3.heap.size _ (own_below HO3.out ((Below.refl _ _).alloc (Nat.le_refl _) _)) (Blk.new _ _ _) rfl (by simp; omega) (fun k hk => by have := own_block_lt HO3.out k hk; omega) (hcells_one l) (by simp [Value.oneCell']) hle (by omega)).mono ?_
          rintro e w4 ⟨v4, rfl, hown4, hg4⟩
          obtain ⟨L4, hL4⟩ : ∃ L4, l.take k ++ [z0] ++ l.drop k = L4 := ⟨_, rfl⟩
          have hl4 : L4.length = l.length + 1 := by rw [← hL4]; simp; omega
          have hx4 : (hcells l).take (k * 4) ++ [.int .i64 0, .int .i64 0, .int .i64 0, .int .i64 0] ++ (hcells l).drop (k * 4) = hcells L4 := by
            rw [← hL4, hcells_append, hcells_append, hcells_take, hcells_drop]; rfl
          have hS4 := Lib.hid (show ∀ h, L4.set k h = l.take k ++ [h] ++ l.drop k from fun h => by rw [← hL4]; exact set_new l k hle z0 h)
          rw [hx4, ← hl4] at hown4
          have hB4 : Below w.heap.size w w4 := (B3.out.alloc B3.out.size _).grown hg4 (by have := B3.out.size; simp; omega) (fun k hk => by have := (own_block_lt HO3.out k hk).1; omega)
          have hd4 : DotAt w4 w.heap.size d := (hg4.block _ (by simp; omega) (fun hk => by have := (own_block_lt HO3.out _ hk.symm).1; omega)).trans (HD3.out.alloc _)
          obtain ⟨A4, c4, rfl, hnc4⟩ := own_slice hown4
          have hkL : k < L4.length := by omega
          obtain ⟨g, o, rfl, hg, c0, c1, c2', c3⟩ := hold_cells (Row.of_own hown4).sl (List.getElem?_eq_getElem hkL)
          generalize L4[k] = y at c0 c1 c2' c3
          obtain ⟨rfl, hgb, -⟩ := own_at hown4
          have hfz := fun j => own_frozen hown4 j
          rw [Nat.zero_add] at c0 c1 c2' c3
          have HO4 := Lib.hid hown4
          have B4 := Lib.hid hB4
          clear q0 q1
          obtain ⟨q0, q1⟩ := hd4.cells
          have Hl4 := Lib.hid hl4
          clear hown4 hg4 hB4 hL4 hx4 hd4 hl4
          go_wp2_with fail
          ((try simp only [Exit.inBlock, Exit.then]); refine bodyPost_ret (results_tmp2 rfl _ _ _) rfl ?_)
          rw [HQ.out.1, HQ.out.2, HP.out, ← hS4.out]
          exact put4_ret HO4.out B4.out hkL ⟨d, r, u⟩ rfl (by omega) rfl
      · obtain ⟨t0, hlt, hf, hkl⟩ := isC_some hI
        have HP : Hid (∀ h, putC l d h = l.set (pos l d) h) := Lib.hid (fun h => by unfold putC; rw [hI]; rfl)
        clear hI
        obtain ⟨g, o, rfl, hg, c0, c1, c2', c3⟩ := hold_cells (Row.of_own HO3.out).sl hlt
        obtain ⟨rfl, hgb, -⟩ := own_at HO3.out
        have hfz := fun j => own_frozen HO3.out j
        rw [Nat.zero_add] at c0 c1 c2' c3
        obtain ⟨k, hpk⟩ : ∃ k, pos l d = k := ⟨_, rfl⟩
        rw [hpk] at HP hkl c0 c1 c2' c3 ⊢
        clear hpk hlt
        cases e1 : (t0.rc == r) <;> cases e2 : decide (now < t0.un)
        all_goals have e1n : (t0.rc != r) = !(t0.rc == r) := rfl
        all_goals rw [e1] at e1n
        all_goals simp only [Bool.not_true, Bool.not_false] at e1n
        · have HQ := HM.out u (by rw [hf]; simp [untilR, e1]) (by unfold grantCE; rw [HA.out, HT.out, hf]; simp [e1, e2])
          clear hf
          go_wp2_with fail
          ((try simp only [Exit.inBlock, Exit.then]); refine bodyPost_ret (results_tmp2 rfl _ _ _) rfl ?_)
          rw [HQ.out.1, HQ.out.2, HP.out]
          exact put4_ret HO3.out B3.out hkl ⟨d, r, u⟩ rfl (by omega) rfl
        · have HQ := HN.out 16 (by unfold grantCE; rw [HA.out, HT.out, hf]; simp [e1, e2]) (by omega)
          clear hf
          go_wp2_with fail
          ((try simp only [Exit.inBlock, Exit.then]); refine bodyPost_ret (results_tmp2 rfl _ _ _) rfl ?_)
          rw [HQ.out.1, HQ.out.2]
          exact holds_nil 16 B3.out
        · have HQ := HM.out u (by rw [hf]; simp [untilR, e1, e2]) (by unfold grantCE; rw [HA.out, HT.out, hf]; simp [e1, e2])
          clear hf
          go_wp2_with fail
          ((try simp only [Exit.inBlock, Exit.then]); refine bodyPost_ret (results_tmp2 rfl _ _ _) rfl ?_)
          rw [HQ.out.1, HQ.out.2, HP.out]
          exact put4_ret HO3.out B3.out hkl ⟨d, r, u⟩ rfl (by omega) rfl
        · cases e3 : decide (u < t0.un)
          · have HQ := HM.out u (by rw [hf]; simp [untilR, e1, e2, e3]) (by unfold grantCE; rw [HA.out, HT.out, hf]; simp [e1, e2])
            clear hf
            go_wp2_with fail
            all_goals
              ((try simp only [Exit.inBlock, Exit.then]); refine bodyPost_ret (results_tmp2 rfl _ _ _) rfl ?_)
              rw [HQ.out.1, HQ.out.2, HP.out]
              first
                | (exfalso; simp at e3; omega)
                | exact put4_ret HO3.out B3.out hkl ⟨d, r, u⟩ rfl (by omega) rfl
                | (have he : t0.un = u := by (simp at e3; omega)
                   rw [he]
                   exact put4_ret HO3.out B3.out hkl ⟨d, r, u⟩ rfl (by omega) rfl)
          · have HQ := HM.out t0.un (by rw [hf]; simp [untilR, e1, e2, e3]) (by unfold grantCE; rw [HA.out, HT.out, hf]; simp [e1, e2])
            clear hf
            go_wp2_with fail
            all_goals
              ((try simp only [Exit.inBlock, Exit.then]); refine bodyPost_ret (results_tmp2 rfl _ _ _) rfl ?_)
              rw [HQ.out.1, HQ.out.2, HP.out]
              first
                | (exfalso; simp at e3; omega)
                | exact put4_ret HO3.out B3.out hkl ⟨d, r, t0.un⟩ rfl (by omega) rfl
                | (have he : t0.un = u := by (simp at e3; omega)
                   rw [he]
                   exact put4_ret HO3.out B3.out hkl ⟨d, r, u⟩ rfl (by omega) rfl)

#print axioms grant_any
end Go.Proofs.Ythmclonjgbmhhaa
