/-
  HoldFull: the walk.
-/
import Derived.Test.YthmclonjgbmhhaaPlain
namespace Go.Proofs.Ythmclonjgbmhhaa
open Go.RowKit
set_option linter.unusedVariables false

def hf (i : Nat) : Hold := ⟨⟨1, (i : Int) + 1⟩, 1, 10⟩
def lf (k : Nat) : List Hold := (List.range k).map hf
theorem lf_len (k : Nat) : (lf k).length = k := by simp [lf]
theorem lf_succ (k : Nat) : lf (k + 1) = lf k ++ [hf k] := by unfold lf; rw [List.range_succ, List.map_append]; rfl
theorem lf_srt (k : Nat) : Srt (lf k) := by
  unfold Srt lf
  rw [List.pairwise_map]
  exact List.pairwise_lt_range.imp fun h => by rw [dlt_iff]; simp [hf]; omega
theorem lf_mem {k : Nat} {t : Hold} (h : t ∈ lf k) : ∃ i, i < k ∧ t = hf i := by
  unfold lf at h
  obtain ⟨i, hi, rfl⟩ := List.mem_map.1 h
  exact ⟨i, List.mem_range.1 hi, rfl⟩
theorem lf_fine {k : Nat} (hk : k ≤ 10000) : Fine (lf k) := ⟨lf_srt k, fun t ht => by
  obtain ⟨i, hi, rfl⟩ := lf_mem ht
  refine ⟨?_, rfl, rfl⟩
  unfold okDot okI hf; simp; omega⟩
theorem lf_take {k m : Nat} (h : m ≤ k) : (lf k).take m = lf m := by unfold lf; rw [← List.map_take, List.take_range, Nat.min_eq_left h]

theorem find_none {l : List Hold} {d : Dot} (h : ∀ t ∈ l, deq t.d d = false) : findR l d = none := by
  induction l with
  | nil => rfl
  | cons a l ih =>
    unfold findR
    rw [h a List.mem_cons_self, ih fun t ht => h t (List.mem_cons_of_mem _ ht)]; rfl
theorem filter_set_one {p : Hold → Bool} {x : Hold} (hx : p x = true) : ∀ (l : List Hold) (i : Nat), i < l.length → (∀ t ∈ l, p t = false) → (l.set i x).filter p = [x]
  | [], _, h, _ => by simp at h
  | a :: l, 0, _, hp => by
    rw [List.set_cons_zero, List.filter_cons, hx]
    simp only [if_true]
    rw [List.filter_eq_nil_iff.2 fun t ht => by simp [hp t (List.mem_cons_of_mem _ ht)]]
  | a :: l, i + 1, h, hp => by
    rw [List.set_cons_succ, List.filter_cons, hp a List.mem_cons_self]
    simp only [Bool.false_eq_true, if_false]
    exact filter_set_one hx l i (by simpa using h) fun t ht => hp t (List.mem_cons_of_mem _ ht)

theorem lf_other (K : Nat) : grantCE (lf K) 5 ⟨2, 1⟩ 1 9 = if K ≥ 1000 then 15 else 0 := by
  have h1 : findR (lf K) ⟨2, 1⟩ = none := find_none fun t ht => by
    obtain ⟨i, hi, rfl⟩ := lf_mem ht
    rw [deq_not]; simp [hf]
  unfold grantCE
  rw [find_eq (lf_srt K), h1, show okArg ⟨2, 1⟩ 1 = true by decide, show okTime 5 9 = true by decide, lf_len]
  rfl

theorem lf_again {K : Nat} (hK : 7 ≤ K) : grantCE (lf K) 5 ⟨1, 7⟩ 1 12 = 0 ∧ (grantC (lf K) 5 ⟨1, 7⟩ 1 12).length = K ∧ (grantC (lf K) 5 ⟨1, 7⟩ 1 12)[6]? = some ⟨⟨1, 7⟩, 1, 12⟩ ∧ (sweepL (grantC (lf K) 5 ⟨1, 7⟩ 1 12) 10).length = 1 := by
  have hs := lf_srt K
  have h6 : hf 6 ∈ lf K := List.mem_map.2 ⟨6, List.mem_range.2 (by omega), rfl⟩
  have h1 : findR (lf K) ⟨1, 7⟩ = some (hf 6) := find_mem hs h6
  have hE : grantCE (lf K) 5 ⟨1, 7⟩ 1 12 = 0 := by
    unfold grantCE
    rw [find_eq hs, h1, show okArg ⟨1, 7⟩ 1 = true by decide, show okTime 5 12 = true by decide]
    rfl
  have hI : isC (lf K) ⟨1, 7⟩ = true := by rw [isC_find hs, h1]; rfl
  obtain ⟨t, ht1, ht2, ht3⟩ := isC_some hI
  rw [find_eq hs, h1] at ht2
  injection ht2 with ht2
  subst ht2
  have hp : pos (lf K) ⟨1, 7⟩ = 6 := by
    have : (lf K)[pos (lf K) ⟨1, 7⟩]? = some (hf (pos (lf K) ⟨1, 7⟩)) := by
      rw [lf_len] at ht3
      unfold lf at ht3 ⊢
      simp [ht3]
    rw [ht1] at this
    injection this with this
    have := congrArg (fun h => h.d.n) this
    simp [hf] at this
    omega
  have hG : grantC (lf K) 5 ⟨1, 7⟩ 1 12 = (lf K).set 6 ⟨⟨1, 7⟩, 1, 12⟩ := by
    unfold grantC putC
    rw [if_pos hE, hI, hp, find_eq hs, h1]
    rfl
  rw [hG]
  refine ⟨hE, by rw [List.length_set, lf_len], by rw [List.getElem?_set_self (by rw [lf_len]; omega)], ?_⟩
  unfold sweepL
  rw [filter_set_one (p := fun t => decide (10 < t.un)) (x := ⟨⟨1, 7⟩, 1, 12⟩) (by decide) _ _ (by rw [lf_len]; omega) (fun t ht => by
    obtain ⟨i, hi, rfl⟩ := lf_mem ht
    rfl)]
  rfl

theorem rest20 (n : Int) : -19 ≤ n.tmod 20 ∧ n.tmod 20 ≤ 19 := by
  rcases Int.le_total 0 n with h | h
  · rw [Int.tmod_eq_emod_of_nonneg h]; omega
  · have e : n.tmod 20 = -((-n).tmod 20) := by rw [Int.neg_tmod]; omega
    rw [e, Int.tmod_eq_emod_of_nonneg (by omega)]; omega
theorem many (n : Int) : ∃ k : Nat, 990 ≤ k ∧ k ≤ 1009 ∧ wrap64 (990 + (wrap64 (n.tmod 20 + 20)).tmod 20) = k := by
  have h := rest20 n
  have e : wrap64 (n.tmod 20 + 20) = n.tmod 20 + 20 := by unfold wrap64; omega
  rw [e, Int.tmod_eq_emod_of_nonneg (by omega)]
  refine ⟨(990 + (n.tmod 20 + 20) % 20).toNat, by omega, by omega, ?_⟩
  unfold wrap64; omega

set_option maxRecDepth 20000 in
set_option maxHeartbeats 4000000 in
theorem full_walk (n : Int) (w : World) :
    Calls Try.prog 5 #[.int .i64 n] w fun e w' => e = .returned (.bool true) ∧ Below w.heap.size w w' := by
  go_enter Try.func5, Try.ntmps5
  go_wp2_with fail
  refine (awake_any _).mono ?_
  rintro e w0 ⟨rfl, hb0⟩
  have B0 := Lib.hid hb0
  clear hb0
  go_wp2_with fail
  obtain ⟨k, hk1, hk2, hk⟩ := many n
  rw [hk]
  clear hk
  go_loopw [5, 6] (fun v i wr => ∃ (j : Nat), j ≤ k ∧ i = .int .i64 ((j : Int) + 1) ∧ Acc w (lf j) v wr) (fun _ i _ => k + 1 - (intOf i).toNat)
  case atStart => exact ⟨0, Nat.zero_le _, rfl, Acc.nil B0.out⟩
  case round =>
    obtain ⟨j, hj, rfl, ha⟩ := hrel
    have HA := Lib.hid ha
    clear ha
    by_cases hlt : j < k
    · have d1 : decide ((j : Int) + 1 ≤ (k : Int)) = true := by simp; omega
      go_wp2_with (at_builtin; refine wpList_hold rfl (.tmp 22) (.tmp 26) rfl HA.out (hf j) rfl rfl (by rw [lf_len]; omega) ?_)
      intro v1 w1 hA
      rw [← lf_succ] at hA
      have HA1 := Lib.hid hA
      clear hA
      go_wp2_with fail
      go_roundw
      case rel => exact ⟨j + 1, by omega, by go_num, HA1.out⟩
      case measure => simp [intOf]; omega
    · have hjk : j = k := by omega
      subst hjk
      have d1 : decide ((j : Int) + 1 ≤ (j : Int)) = false := by simp; omega
      obtain ⟨A, c, rfl, hsl, hc⟩ := HA.out.slice
      obtain ⟨K, hK, hK2⟩ : ∃ K, K = min j 1000 ∧ 7 ≤ K := ⟨_, rfl, by omega⟩
      obtain ⟨g1, g2, g3, g4⟩ := lf_again hK2
      have g0 := lf_other K
      have gl := lf_len K
      have jl := lf_len j
      have hS : Sl w0 4 A K (hcells (lf K)) ∨ True := .inr trivial
      have HT : Hid ((lf j).take K = lf K) := Lib.hid (lf_take (by omega))
      have HF := Lib.hid (lf_fine (k := j) (by omega))
      obtain ⟨i0, hi, hz0, hz1, hz2⟩ := info_parts info_hold
      have hcut := cut_hi (P := Try.prog) 22 30 i0 Try.underlying22 hi .i64 A j c 1000
      obtain ⟨G, hG⟩ : ∃ G, grantC (lf K) 5 ⟨1, 7⟩ 1 12 = G := ⟨_, rfl⟩
      obtain ⟨E, hE⟩ : ∃ E, grantCE (lf K) 5 ⟨2, 1⟩ 1 9 = E := ⟨_, rfl⟩
      have Q1 : ∀ (W : World) (cc : Nat), Sl W 4 A K (hcells (lf K)) → Calls Try.prog 12 #[.slice A K cc, .int .i64 5, .agg #[.int .i64 2, .int .i64 1], .int .i64 1, .int .i64 9] W (HoldsE W E (grantC (lf K) 5 ⟨2, 1⟩ 1 9)) := fun W cc h => by
        have := grant_any A cc (lf K) 5 ⟨2, 1⟩ 1 9 W (by rw [gl]; exact h) (by omega)
        rw [gl, hE] at this; exact this
      have Q2 : ∀ (W : World) (cc : Nat), Sl W 4 A K (hcells (lf K)) → Calls Try.prog 12 #[.slice A K cc, .int .i64 5, .agg #[.int .i64 1, .int .i64 7], .int .i64 1, .int .i64 12] W (HoldsE W 0 G) := fun W cc h => by
        have := grant_any A cc (lf K) 5 ⟨1, 7⟩ 1 12 W (by rw [gl]; exact h) (by omega)
        rw [gl, g1, hG] at this; exact this
      rw [hG] at g2 g3 g4
      rw [hE] at g0
      have Q3 := fun (B : Option Addr) (cc : Nat) (W : World) h => sweep_any B cc G 10 W h (by omega)
      rw [jl] at hsl hc ⊢
      have Q1 := Lib.hid Q1
      have Q2 := Lib.hid Q2
      have Q3 := Lib.hid Q3
      have Hsl := Lib.hid hsl
      have G2 := Lib.hid g2
      have G3 := Lib.hid g3
      have G4 := Lib.hid g4
      have G4i := Lib.hid (show (((sweepL G 10).length : Int) == 1) = true by rw [g4]; rfl)
      have G6 := Lib.hid (show (6 : Int) < (G.length : Int) by omega)
      have hcases : (j < 1000 ∧ K = j ∧ E = 0) ∨ (j = 1000 ∧ K = j ∧ E = 15) ∨ (1000 < j ∧ K = 1000 ∧ E = 15) := by
        rcases Nat.lt_trichotomy j 1000 with h | h | h
        · exact .inl ⟨h, by omega, by rw [g0, if_neg (by omega)]⟩
        · exact .inr (.inl ⟨h, by omega, by rw [g0, if_pos (by omega)]⟩)
        · exact .inr (.inr ⟨h, by omega, by rw [g0, if_pos (by omega)]⟩)
      have Hc := Lib.hid hc
      have Jl := Lib.hid jl
      have Hcut := Lib.hid hcut
      clear g0 g1 gl jl hS g2 g3 g4 hG hE hsl hcut hc hi hz0 hz1 hz2
      rcases hcases with ⟨h1, h2, h3⟩ | ⟨h1, h2, h3⟩ | ⟨h1, h2, h3⟩
      · obtain rfl : j = K := h2.symm
        subst h3
        have d2 : decide ((j : Int) ≤ 1000) = true := by simp; omega
        have d3 : decide ((1000 : Int) < (j : Int)) = false := by simp; omega
        have d4 : decide ((j : Int) < 1000) = true := by simp; omega
        have G2i := Lib.hid (show ((G.length : Int) == (j : Int)) = true by rw [G2.out]; simp)
        have HSL : Hid (Sl wr 4 A j (hcells (lf j))) := Hsl
        have HCK := Lib.hid (fun W (h : Sl W 4 A j (hcells (lf j))) => by have := check_ok A c (lf j) W (by rw [Jl.out]; exact h) (by rw [Jl.out]; omega) HF.out; rw [Jl.out] at this; exact this)
        clear hK hK2 h1
        go_wp2_with fail
        refine (HCK.out _ HSL.out).mono ?_
        rintro e w1 ⟨rfl, hb⟩
        have HA1 := Lib.hid (HA.out.below hb)
        have Hsl1 := Lib.hid (HSL.out.below hb)
        clear hb
        go_wp2_with fail
        refine (Q1.out _ _ Hsl1.out).mono ?_
        rintro e w2 ht
        obtain ⟨A2, c2, rfl, ha2⟩ := ht.acc
        have HA2 := Lib.hid (HA1.out.below ha2.2)
        have Hsl2 := Lib.hid (Hsl1.out.below ha2.2)
        clear ht ha2
        go_wp2_with fail
        refine (Q2.out _ _ Hsl2.out).mono ?_
        rintro e w3 ht
        obtain ⟨A3, c3, rfl, ha3⟩ := ht.acc
        have HA3 := Lib.hid (HA2.out.below ha3.2)
        obtain ⟨g, o, rfl, hg, -, -, -, x3⟩ := hold_cells ha3.sl G3.out
        have HG3 := Lib.hid ha3
        rw [show o + 6 * 4 + 3 = o + 27 by omega] at x3
        have e1 := G2i.out
        have e2 := G6.out
        clear ht ha3
        go_wp2_with fail
        refine (Q3.out _ _ _ HG3.out.sl).mono ?_
        rintro e w4 ht
        obtain ⟨A4, c4, rfl, hs4, hb4⟩ := HoldRet.sl ht
        have HA4 := Lib.hid (HA3.out.below hb4)
        have e3 := G4i.out
        clear ht hs4 hb4
        go_wp2_with fail
        go_ret
        exact ⟨rfl, HA4.out.2⟩
      · obtain rfl : j = K := h2.symm
        subst h3
        have d2 : decide ((j : Int) ≤ 1000) = true := by simp; omega
        have d3 : decide ((1000 : Int) < (j : Int)) = false := by simp; omega
        have d4 : decide ((j : Int) < 1000) = false := by simp; omega
        have G2i := Lib.hid (show ((G.length : Int) == (j : Int)) = true by rw [G2.out]; simp)
        have HSL : Hid (Sl wr 4 A j (hcells (lf j))) := Hsl
        have HCK := Lib.hid (fun W (h : Sl W 4 A j (hcells (lf j))) => by have := check_ok A c (lf j) W (by rw [Jl.out]; exact h) (by rw [Jl.out]; omega) HF.out; rw [Jl.out] at this; exact this)
        clear hK hK2 h1
        go_wp2_with fail
        refine (HCK.out _ HSL.out).mono ?_
        rintro e w1 ⟨rfl, hb⟩
        have HA1 := Lib.hid (HA.out.below hb)
        have Hsl1 := Lib.hid (HSL.out.below hb)
        clear hb
        go_wp2_with fail
        refine (Q1.out _ _ Hsl1.out).mono ?_
        rintro e w2 ht
        obtain ⟨A2, c2, rfl, ha2⟩ := ht.acc
        have HA2 := Lib.hid (HA1.out.below ha2.2)
        have Hsl2 := Lib.hid (Hsl1.out.below ha2.2)
        clear ht ha2
        go_wp2_with fail
        refine (Q2.out _ _ Hsl2.out).mono ?_
        rintro e w3 ht
        obtain ⟨A3, c3, rfl, ha3⟩ := ht.acc
        have HA3 := Lib.hid (HA2.out.below ha3.2)
        obtain ⟨g, o, rfl, hg, -, -, -, x3⟩ := hold_cells ha3.sl G3.out
        have HG3 := Lib.hid ha3
        rw [show o + 6 * 4 + 3 = o + 27 by omega] at x3
        have e1 := G2i.out
        have e2 := G6.out
        clear ht ha3
        go_wp2_with fail
        refine (Q3.out _ _ _ HG3.out.sl).mono ?_
        rintro e w4 ht
        obtain ⟨A4, c4, rfl, hs4, hb4⟩ := HoldRet.sl ht
        have HA4 := Lib.hid (HA3.out.below hb4)
        have e3 := G4i.out
        clear ht hs4 hb4
        go_wp2_with fail
        go_ret
        exact ⟨rfl, HA4.out.2⟩
      · subst h2
        subst h3
        have d2 : decide ((j : Int) ≤ 1000) = false := by simp; omega
        have d3 : decide ((1000 : Int) < (j : Int)) = true := by simp; omega
        have G2i := Lib.hid (show ((G.length : Int) == 1000) = true by rw [G2.out]; simp)
        have HSL : Hid (Sl wr 4 A 1000 (hcells (lf 1000))) := Lib.hid (by have := Hsl.out.take (k := 1000) (by omega); rw [← hcells_take, HT.out] at this; exact this)
        have hcut := Hcut.out (by have := Hc.out; omega)
        rw [show ((1000 : Nat) : Int) = 1000 from rfl] at hcut
        have HCK := Lib.hid (fun W => check_long A j c W h1 (by omega))
        clear hK hK2 h1
        go_wp2_with fail
        refine (HCK.out _).mono ?_
        rintro e w1 ⟨rfl, hb⟩
        have HA1 := Lib.hid (HA.out.below hb)
        have Hsl1 := Lib.hid (HSL.out.below hb)
        clear hb
        go_wp2_with fail
        refine (Q1.out _ _ Hsl1.out).mono ?_
        rintro e w2 ht
        obtain ⟨A2, c2, rfl, ha2⟩ := ht.acc
        have HA2 := Lib.hid (HA1.out.below ha2.2)
        have Hsl2 := Lib.hid (Hsl1.out.below ha2.2)
        clear ht ha2
        go_wp2_with fail
        refine (Q2.out _ _ Hsl2.out).mono ?_
        rintro e w3 ht
        obtain ⟨A3, c3, rfl, ha3⟩ := ht.acc
        have HA3 := Lib.hid (HA2.out.below ha3.2)
        obtain ⟨g, o, rfl, hg, -, -, -, x3⟩ := hold_cells ha3.sl G3.out
        have HG3 := Lib.hid ha3
        rw [show o + 6 * 4 + 3 = o + 27 by omega] at x3
        have e1 := G2i.out
        have e2 := G6.out
        clear ht ha3
        go_wp2_with fail
        refine (Q3.out _ _ _ HG3.out.sl).mono ?_
        rintro e w4 ht
        obtain ⟨A4, c4, rfl, hs4, hb4⟩ := HoldRet.sl ht
        have HA4 := Lib.hid (HA3.out.below hb4)
        have e3 := G4i.out
        clear ht hs4 hb4
        go_wp2_with fail
        go_ret
        exact ⟨rfl, HA4.out.2⟩

#print axioms full_walk
end Go.Proofs.Ythmclonjgbmhhaa
