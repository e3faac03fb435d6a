/-
  slices.Insert of one struct into a row of the call's own.
-/
import Derived.Test.YthmclonjgbmhhaaClone
namespace Go.Proofs.Ythmclonjgbmhhaa
open Go.RowKit
set_option linter.unusedVariables false

/-- What Insert hands back. -/
def InsRet (w : World) (base : Nat) (own : Option Nat) (n : Nat) (xs : List Value) (en : Ending) (w' : World) : Prop :=
  ∃ v, en = .returned v ∧ w'.ownsRow base 30 4 v (n + 1) xs ∧ w.grownBy w' own

theorem sl_row {w : World} {g : Nat} {e : TypeId} {s n : Nat} {cs : List Value} (h : RowIs w g e cs) (hl : cs.length = n * s) : Sl w s (some ⟨g, 0, none⟩) n cs :=
  ⟨hl, fun _ => ⟨g, 0, rfl, lt_of_heap h, fun j u hu => by rw [Nat.zero_add, h.cell]; exact hu⟩⟩

set_option maxHeartbeats 1000000 in
theorem insert_end (base : Nat) (A : Option Addr) (n c : Nat) (xs ys : List Value) (vb : Nat) (w : World) (hown : w.ownsRow base 30 4 (.slice A n c) n xs) (hvb : RowIs w vb 30 ys) (hy : ys.length = 4)
    (hbase : base ≤ w.heap.size) (h1 : ∀ u ∈ ys, u.oneCell' = true) (hb : (n + 1) * 32 ≤ 140737488355328) (hnc : n ≤ c) :
    Calls Try.prog 29 #[.slice A n c, .int .i64 n, .slice (some ⟨vb, 0, none⟩) 1 1] w (InsRet w base (Value.slice A n c).ownBlock n (xs ++ ys)) := by
  obtain ⟨i0, hi, hz0, hz1, hz2⟩ := info_parts info_hold
  have O := Lib.hid hown
  have V := Lib.hid (sl_row (s := 4) (n := 1) hvb (by omega))
  clear hown hvb
  have Q1 := Lib.hid (show n + 1 ≤ maxLen by unfold maxLen; omega)
  have Hb := Lib.hid hb
  have k1 : (n : Int) ≤ 9223372036854775807 := by omega
  have k2 : (n : Int) ≤ (c : Int) := by omega
  obtain ⟨A2, sl0, -, -⟩ := cut_lo (P := Try.prog) 22 30 i0 Try.underlying22 hi 4 hz1 .i64 A n c (n : Int) n rfl (Nat.le_refl _) hnc
  clear hb
  go_enter Try.func29, Try.ntmps29
  go_wp2_with (at_builtin; refine wpList_append_src _ rfl (.tmp 23) (.tmp 24) 22 rfl base 30 i0 _ 4 32 Try.underlying22 hi hz0 hz1 hz2 rfl (by decide) _ n xs rfl O.out (some ⟨vb, 0, none⟩) 1 1 ys rfl V.out h1 Q1.out Hb.out hbase ?_)
  intro v' w1 hown hg hat
  have Hown := Lib.hid hown
  have Hg := Lib.hid hg
  clear hown hg hat
  go_wp2_with fail
  go_ret
  exact ⟨v', rfl, Hown.out, Hg.out⟩

set_option maxHeartbeats 2000000 in
theorem insert_shift (base g n c i : Nat) (cs xs ys : List Value) (vb : Nat) (w : World) (hg : RowIs w g 30 cs) (hbg : base ≤ g) (hcl : cs.length = c * 4) (hx : cs.take (n * 4) = xs) (hvb : RowIs w vb 30 ys) (hy : ys.length = 4)
    (hne : vb ≠ g) (h1x : ∀ u ∈ xs, u.oneCell' = true) (h1 : ∀ u ∈ ys, u.oneCell' = true) (hin : i < n) (hroom : n + 1 ≤ c) (hc63 : c ≤ 9223372036854775807) :
    Calls Try.prog 29 #[.slice (some ⟨g, 0, none⟩) n c, .int .i64 i, .slice (some ⟨vb, 0, none⟩) 1 1] w (InsRet w base (some g) n (xs.take (i * 4) ++ ys ++ xs.drop (i * 4))) := by
  obtain ⟨i0, hi, hz0, hz1, hz2⟩ := info_parts info_hold
  have hxl : xs.length = n * 4 := by rw [← hx, List.length_take, hcl]; omega
  have hov : ∀ lb cb, (callFunc 42 #[.slice (some ⟨vb, 0, none⟩) 1 1, .slice (some ⟨g, (i + 1) * 4, none⟩) lb cb]).run Try.prog w = .ok (.value (.bool false)) w := fun lb cb => by
    rw [run_callFunc_extern Try.func42 (by kernel_rfl) (by kernel_rfl) (by kernel_rfl) (e := Extern.SlicesOverlaps.overlaps #[22, 22] #[4]) (by kernel_rfl),
      Lib.run_overlaps_apart w 22 4 30 Try.underlying22 4 (fun w => by simp [sizeOf, typeInfo, hi, hz1]) ⟨vb, 0, none⟩ ⟨g, (i + 1) * 4, none⟩ 1 1 lb cb hne 30 30 ys.toArray.size cs.toArray.size
        (by have h : w.heap[vb]? = some (.cells ys.toArray 30 (0, 0)) := hvb; simp [World.shape?, h]) (by have h : w.heap[g]? = some (.cells cs.toArray 30 (0, 0)) := hg; simp [World.shape?, h]) (by simp; intro h; subst h; simp at hcl; omega)
        (by have h : w.heap[vb]? = some (.cells ys.toArray 30 (0, 0)) := hvb; simp [World.frozen?, h]) (by have h : w.heap[vb]? = some (.cells ys.toArray 30 (0, 0)) := hvb; simp [World.frozen?, h])]
    rfl
  have sl0 := cut_hi (P := Try.prog) 22 30 i0 Try.underlying22 hi .i64 (some ⟨g, 0, none⟩) n c (n + 1) hroom
  have sl1 := cut_at (P := Try.prog) 22 30 i0 Try.underlying22 hi 4 hz1 .i64 g 0 (n + 1) c ((i : Int) + 1) (i + 1) (by omega) (by omega) (by omega)
  have sl2 := cut_at (P := Try.prog) 22 30 i0 Try.underlying22 hi 4 hz1 .i64 g 0 (n + 1) c (i : Int) i rfl (by omega) (by omega)
  have sl3 := cut_at (P := Try.prog) 22 30 i0 Try.underlying22 hi 4 hz1 .i64 g 0 n c (i : Int) i rfl (by omega) (by omega)
  rw [Nat.zero_add] at sl1 sl2 sl3
  rw [show ((n + 1 : Nat) : Int) = (n : Int) + 1 from rfl] at sl0
  obtain ⟨cs1, hcs1⟩ : ∃ l, cs.take ((i + 1) * 4) ++ xs.drop (i * 4) ++ cs.drop ((i + 1) * 4 + (xs.drop (i * 4)).length) = l := ⟨_, rfl⟩
  have hdl : (xs.drop (i * 4)).length = (n - i) * 4 := by rw [List.length_drop, hxl]; omega
  have hcs1l : cs1.length = c * 4 := by rw [← hcs1]; simp only [List.length_append, List.length_take, List.length_drop, hcl, hxl]; omega
  obtain ⟨cs2, hcs2⟩ : ∃ l, cs1.take (i * 4) ++ ys ++ cs1.drop (i * 4 + ys.length) = l := ⟨_, rfl⟩
  have hcs2l : cs2.length = c * 4 := by rw [← hcs2]; simp only [List.length_append, List.length_take, List.length_drop, hcs1l, hy]; omega
  have hcp1 : ∀ (W : World), RowIs W g 30 cs → ∀ ty dc sc, (Builtin.copy_ #[22, 22] ty #[.slice (some ⟨g, (i + 1) * 4, none⟩) (n - i) dc, .slice (some ⟨g, i * 4, none⟩) (n + 1 - i) sc]).run Try.prog W = .ok (goInt (n - i : Nat)) (W.setRow g cs1.toArray) := fun W hW ty dc sc => by
    have h := run_copy_s (P := Try.prog) W 22 22 ty 30 4 g ((i + 1) * 4) (n - i) dc ⟨g, i * 4, none⟩ (n + 1 - i) sc (n - i) cs.toArray 30 (xs.drop (i * 4)) Try.underlying22 i0 hi hz1 hW
      (by simp only [Nat.min_def]; split <;> omega) hdl
      (fun j v hj => by
        rw [Addr.add_lit, hW.cell]
        have hjl : j < (xs.drop (i * 4)).length := (List.getElem?_eq_some_iff.1 hj).1
        rw [List.getElem?_drop, ← hx, List.getElem?_take] at hj
        rw [hdl] at hjl
        rwa [if_pos (by omega)] at hj)
      (by rw [hdl]; simp [hcl]; omega) (fun v hv => h1x v (List.mem_of_mem_drop hv))
    rw [h]
    simp only [hcs1]
  have hcp2 : ∀ (W : World), RowIs W g 30 cs1 → RowIs W vb 30 ys → ∀ ty dc, (Builtin.copy_ #[22, 22] ty #[.slice (some ⟨g, i * 4, none⟩) (n + 1 - i) dc, .slice (some ⟨vb, 0, none⟩) 1 1]).run Try.prog W = .ok (goInt (1 : Nat)) (W.setRow g cs2.toArray) := fun W hW hV ty dc => by
    have h := run_copy_s (P := Try.prog) W 22 22 ty 30 4 g (i * 4) (n + 1 - i) dc ⟨vb, 0, none⟩ 1 1 1 cs1.toArray 30 ys Try.underlying22 i0 hi hz1 hW
      (by simp only [Nat.min_def]; split <;> omega) (by omega)
      (fun j v hj => by rw [Addr.add_lit, hV.cell, Nat.zero_add]; exact hj)
      (by rw [hy]; simp [hcs1l]; omega) h1
    rw [h]
    simp only [hcs2]
  have hfin : Hid (InsRet w base (some g) n (xs.take (i * 4) ++ ys ++ xs.drop (i * 4)) (.returned (.slice (some ⟨g, 0, none⟩) (n + 1) c)) ((w.drew.setRow g cs1.toArray).setRow g cs2.toArray)) := Lib.hid (by
    refine ⟨_, rfl, RowIs.own (cs := cs2) ((hg.drew.set cs1).set cs2) hbg hroom (by unfold maxLen; omega) hcs2l ?_, ?_⟩
    · rw [← hcs2, ← hcs1]
      have e1 : (cs.take ((i + 1) * 4) ++ xs.drop (i * 4) ++ cs.drop ((i + 1) * 4 + (xs.drop (i * 4)).length)).take (i * 4) = xs.take (i * 4) := by
        rw [List.append_assoc, List.take_append_of_le_length (by rw [List.length_take, hcl]; omega), List.take_take, ← hx, List.take_take]
        congr 1; omega
      have e2 : ((cs.take ((i + 1) * 4) ++ xs.drop (i * 4) ++ cs.drop ((i + 1) * 4 + (xs.drop (i * 4)).length)).drop (i * 4 + ys.length)).take ((n - i) * 4) = xs.drop (i * 4) := by
        have hl : (cs.take ((i + 1) * 4)).length = i * 4 + ys.length := by rw [List.length_take, hcl, hy]; omega
        rw [← hl, List.append_assoc, List.drop_left, List.take_append_of_le_length (by rw [hdl]; exact Nat.le_refl _), List.take_of_length_le (by rw [hdl]; exact Nat.le_refl _)]
      have hl1 : (xs.take (i * 4) ++ ys).length = i * 4 + 4 := by rw [List.length_append, List.length_take, hxl, hy]; omega
      rw [e1, List.take_append, hl1, List.take_of_length_le (by rw [hl1]; omega)]
      congr 1
      rw [show (n + 1) * 4 - (i * 4 + 4) = (n - i) * 4 by omega]
      exact e2
    · exact only_trans (only_trans (show Only g w w.drew from ⟨rfl, rfl, rfl, Nat.le_refl _, fun _ _ _ => rfl⟩) (grown_setRow _ _ _)) (grown_setRow _ _ _))
  have HG := Lib.hid hg
  have HV := Lib.hid hvb
  have HN := Lib.hid hne
  clear hg hvb hcs1 hcs2 hcs1l hcs2l hdl hxl hx h1x h1 hcl hy hne
  have k1 : (n : Int) + 1 ≤ (c : Int) := by omega
  have k2 : (i : Int) < (n : Int) := by omega
  have k3 : ((i : Int) == (n : Int)) = false := by simp; omega
  have k4 : (c : Int) ≤ 9223372036854775807 := by omega
  have k5 : IntKind.i64.wrap ((i : Int) + 1) = (i : Int) + 1 := IntWalk.i64_in _ (by omega)
  go_enter Try.func29, Try.ntmps29
  go_wp2_with (simp only [hov])
  go_region_law (refine step_copy_run _ rfl (.tmp 73) (.tmp 76) 22 22 rfl (.slice (some ⟨g, (i + 1) * 4, none⟩) (n - i) (c - (i + 1))) (.slice (some ⟨g, i * 4, none⟩) (n + 1 - i) (c - i)) (by simp [Act.eval, Act.put]) (by simp [Act.eval, Act.put]) (hcp1 _ HG.out.drew _ _ _) ?_)
  go_wp2_with (refine wpList_copy_run _ rfl (.tmp 80) (.tmp 81) 22 22 rfl _ _ rfl rfl (hcp2 _ (HG.out.drew.set cs1) (HV.out.drew.other HN.out _) _ _) ?_)
  go_ret
  exact hfin.out

set_option maxHeartbeats 2000000 in
theorem insert_grow (base g n i : Nat) (cs xs ys : List Value) (vb : Nat) (w : World) (hg : RowIs w g 30 cs) (hcl : cs.length = n * 4) (hx : cs = xs) (hvb : RowIs w vb 30 ys) (hy : ys.length = 4)
    (hbase : base ≤ w.heap.size) (h1x : ∀ u ∈ xs, u.oneCell' = true) (h1 : ∀ u ∈ ys, u.oneCell' = true) (hin : i < n) (hb : (n + 1) * 32 ≤ 140737488355328) :
    Calls Try.prog 29 #[.slice (some ⟨g, 0, none⟩) n n, .int .i64 i, .slice (some ⟨vb, 0, none⟩) 1 1] w (InsRet w base (some g) n (xs.take (i * 4) ++ ys ++ xs.drop (i * 4))) := by
  subst hx
  obtain ⟨i0, hi, hz0, hz1, hz2⟩ := info_parts info_hold
  have hg0 : g < w.heap.size := lt_of_heap hg
  have hv0 : vb < w.heap.size := lt_of_heap hvb
  obtain ⟨G, hG⟩ : ∃ G, w.heap.size = G := ⟨_, rfl⟩
  obtain ⟨K, hK⟩ : ∃ K, grownCap w (i + (n + 1 - i)) n 30 = K := ⟨_, rfl⟩
  have hKge : n + 1 ≤ K := by have := grownCap_ge w (i + (n + 1 - i)) n 30; omega
  have hKle : K ≤ 9223372036854775807 := by have := grownCap_le_maxLen w (i + (n + 1 - i)) n 30 (by unfold maxLen; omega); unfold maxLen at this; omega
  have hap := Lib.run_append_grow_zeros (P := Try.prog) w 22 3 22 30 i0 _ .i64 .i64 Try.underlying22 Try.underlying3 hi hz0 (some ⟨g, 0, none⟩) i n (cs.take (i * 4))
    (by rw [hz1]; exact run_firstCells_some (P := Try.prog) w.drew 4 i ⟨g, 0, none⟩ i n (cs.take (i * 4)) (by rw [List.length_take, hcl]; omega) (fun j v hj => by
      rw [Addr.add_lit, Nat.zero_add, hg.drew.cell]
      rw [List.getElem?_take] at hj
      split at hj
      · exact hj
      · cases hj)) (n + 1 - i) (by omega) (by rw [hz1]; decide) (by omega) (by omega) (by rw [hz2]; omega) (by rw [hz2]; exact growslice_fits (by omega) (by rw [show i + (n + 1 - i) = n + 1 by omega]; exact hb))
  rw [hK, hG, show i + (n + 1 - i) = n + 1 by omega, show ((n + 1 - i : Nat) : Int) = (n : Int) + 1 - (i : Int) by omega] at hap
  obtain ⟨Z, hZ⟩ : ∃ Z : Array Value, (cs.take (i * 4)).toArray ++ Builtin.zeroCells (Value.agg #[.int .i64 0, .int .i64 0, .int .i64 0, .int .i64 0]).cells (n + 1 - i) ++ Builtin.zeroCells (Value.agg #[.int .i64 0, .int .i64 0, .int .i64 0, .int .i64 0]).cells (K - (n + 1)) = Z := ⟨_, rfl⟩
  obtain ⟨zs, hzs⟩ : ∃ l : List Value, Z = l.toArray := ⟨Z.toList, by simp⟩
  rw [hZ] at hap
  subst hZ
  have hzl : zs.length = K * 4 := by
    have := congrArg Array.size hzs
    simp only [Array.size_append, List.size_toArray, size_zeroCells, List.length_take, hcl] at this
    rw [← this]
    show min (i * 4) (n * 4) + (n + 1 - i) * 4 + (K - (n + 1)) * 4 = K * 4
    omega
  have hzt : zs.take (i * 4) = cs.take (i * 4) := by
    have h2 : zs = cs.take (i * 4) ++ ((Builtin.zeroCells (Value.agg #[.int .i64 0, .int .i64 0, .int .i64 0, .int .i64 0]).cells (n + 1 - i)).toList ++ (Builtin.zeroCells (Value.agg #[.int .i64 0, .int .i64 0, .int .i64 0, .int .i64 0]).cells (K - (n + 1))).toList) := by
      have := congrArg Array.toList hzs
      simpa [List.append_assoc] using this.symm
    rw [h2, List.take_append_of_le_length (by rw [List.length_take, hcl]; omega), List.take_take, Nat.min_self]
  rw [hzs] at hap
  obtain ⟨W, hW⟩ : ∃ W, w.drew.alloc (.cells zs.toArray 30) = W := ⟨_, rfl⟩
  rw [hW] at hap
  have hRG : RowIs W G 30 zs := by rw [← hW, ← hG]; exact heap_alloc_new w.drew _
  have hRg : RowIs W g 30 cs := by rw [← hW]; exact (Below.heap_alloc w.drew _ g hg0).trans hg
  have hRv : RowIs W vb 30 ys := by rw [← hW]; exact (Below.heap_alloc w.drew _ vb hv0).trans hvb
  have hBW : Below w.heap.size w W := by rw [← hW]; exact ((Below.refl _ _).drew).alloc (Nat.le_refl _) _
  have sl0 := cut_at (P := Try.prog) 22 30 i0 Try.underlying22 hi 4 hz1 .i64 g 0 n n (i : Int) i rfl (by omega) (by omega)
  have sl1 := cut_hi (P := Try.prog) 22 30 i0 Try.underlying22 hi .i64 (some ⟨g, 0, none⟩) n n i (by omega)
  have sl2 := cut_at (P := Try.prog) 22 30 i0 Try.underlying22 hi 4 hz1 .i64 G 0 (n + 1) K (i : Int) i rfl (by omega) (by omega)
  have sl3 := cut_at (P := Try.prog) 22 30 i0 Try.underlying22 hi 4 hz1 .i64 G 0 (n + 1) K ((i : Int) + 1) (i + 1) (by omega) (by omega) (by omega)
  rw [Nat.zero_add] at sl0 sl2 sl3
  obtain ⟨cs1, hcs1⟩ : ∃ l, zs.take (i * 4) ++ ys ++ zs.drop (i * 4 + ys.length) = l := ⟨_, rfl⟩
  have hcs1l : cs1.length = K * 4 := by rw [← hcs1]; simp only [List.length_append, List.length_take, List.length_drop, hzl, hy]; omega
  have hdl : (cs.drop (i * 4)).length = (n - i) * 4 := by rw [List.length_drop, hcl]; omega
  obtain ⟨cs2, hcs2⟩ : ∃ l, cs1.take ((i + 1) * 4) ++ cs.drop (i * 4) ++ cs1.drop ((i + 1) * 4 + (cs.drop (i * 4)).length) = l := ⟨_, rfl⟩
  have hcs2l : cs2.length = K * 4 := by rw [← hcs2]; simp only [List.length_append, List.length_take, List.length_drop, hcs1l, hcl]; omega
  have hgG : g ≠ G := by omega
  have hcp1 : ∀ ty dc, (Builtin.copy_ #[22, 22] ty #[.slice (some ⟨G, i * 4, none⟩) (n + 1 - i) dc, .slice (some ⟨vb, 0, none⟩) 1 1]).run Try.prog W = .ok (goInt (1 : Nat)) (W.setRow G cs1.toArray) := fun ty dc => by
    have h := run_copy_s (P := Try.prog) W 22 22 ty 30 4 G (i * 4) (n + 1 - i) dc ⟨vb, 0, none⟩ 1 1 1 zs.toArray 30 ys Try.underlying22 i0 hi hz1 hRG
      (by simp only [Nat.min_def]; split <;> omega) (by omega)
      (fun j v hj => by rw [Addr.add_lit, hRv.cell, Nat.zero_add]; exact hj)
      (by rw [hy]; simp [hzl]; omega) h1
    rw [h]
    simp only [hcs1]
  have hcp2 : ∀ (W' : World), RowIs W' G 30 cs1 → RowIs W' g 30 cs → ∀ ty dc, (Builtin.copy_ #[22, 22] ty #[.slice (some ⟨G, (i + 1) * 4, none⟩) (n - i) dc, .slice (some ⟨g, i * 4, none⟩) (n - i) (n - i)]).run Try.prog W' = .ok (goInt (n - i : Nat)) (W'.setRow G cs2.toArray) := fun W' hW1 hW2 ty dc => by
    have h := run_copy_s (P := Try.prog) W' 22 22 ty 30 4 G ((i + 1) * 4) (n - i) dc ⟨g, i * 4, none⟩ (n - i) (n - i) (n - i) cs1.toArray 30 (cs.drop (i * 4)) Try.underlying22 i0 hi hz1 hW1
      (Nat.min_self _) hdl
      (fun j v hj => by
        rw [Addr.add_lit, hW2.cell]
        rwa [List.getElem?_drop] at hj)
      (by rw [hdl]; simp [hcs1l]; omega) (fun v hv => h1x v (List.mem_of_mem_drop hv))
    rw [h]
    simp only [hcs2]
  have hfin : Hid (InsRet w base (some g) n (cs.take (i * 4) ++ ys ++ cs.drop (i * 4)) (.returned (.slice (some ⟨G, 0, none⟩) (n + 1) K)) ((W.setRow G cs1.toArray).drew.setRow G cs2.toArray)) := Lib.hid (by
    refine ⟨_, rfl, RowIs.own (cs := cs2) ((hRG.set cs1).drew.set cs2) (by omega) hKge (by unfold maxLen; omega) hcs2l ?_, ?_⟩
    · rw [← hcs2, ← hcs1]
      have hl1 : (zs.take (i * 4) ++ ys).length = (i + 1) * 4 := by rw [List.length_append, List.length_take, hzl, hy]; omega
      have e1 : (zs.take (i * 4) ++ ys ++ zs.drop (i * 4 + ys.length)).take ((i + 1) * 4) = zs.take (i * 4) ++ ys := by
        rw [← hl1, List.take_left]
      have hl2 : (zs.take (i * 4) ++ ys ++ cs.drop (i * 4)).length = (n + 1) * 4 := by rw [List.length_append, hl1, hdl]; omega
      rw [e1, ← hl2, List.take_left, hzt]
    · have hB0 : Below w.heap.size w (W.setRow G cs1.toArray).drew := (hBW.grown (grown_setRow W G _) hBW.size (by rintro k ⟨⟩; omega)).drew
      exact only_below (hB0.grown (grown_setRow _ G _) hB0.size (by rintro k ⟨⟩; omega)))
  have HG := Lib.hid hRG
  have Hg := Lib.hid hRg
  have HV := Lib.hid hRv
  have HGG := Lib.hid hgG
  clear hg hvb hcs1 hcs2 hcs1l hcs2l hdl hcl hzs hzl hzt hRG hRg hRv hBW hK hG h1x h1 hy hb hgG hW
  have k1 : (n : Int) < (n : Int) + 1 := by omega
  have k2 : (i : Int) < (n : Int) := by omega
  have k3 : ((i : Int) == (n : Int)) = false := by simp; omega
  have k4 : (n : Int) + 1 ≤ 9223372036854775807 := by omega
  have k5 : IntKind.i64.wrap ((i : Int) + 1) = (i : Int) + 1 := IntWalk.i64_in _ (by omega)
  go_enter Try.func29, Try.ntmps29
  go_wp2_with (first | (at_builtin; refine Lib.wpList_append_run _ rfl (.tmp 34) (.tmp 39) 22 3 rfl _ _ rfl rfl _ _ hap ?_) | (refine wpList_copy_run _ rfl (.tmp 43) (.tmp 44) 22 22 rfl _ _ rfl rfl (hcp1 _ _) ?_))
  go_region_law (refine step_copy_run _ rfl (.tmp 50) (.tmp 53) 22 22 rfl (.slice (some ⟨G, (i + 1) * 4, none⟩) (n - i) (K - (i + 1))) (.slice (some ⟨g, i * 4, none⟩) (n - i) (n - i)) (by simp [Act.eval, Act.put]) (by simp [Act.eval, Act.put]) (hcp2 _ (HG.out.set cs1).drew (Hg.out.other HGG.out _).drew _ _) ?_)
  go_wp2_with fail
  go_ret
  exact hfin.out

theorem oneCell_append {xs ys : List Value} (hx : ∀ u ∈ xs, u.oneCell' = true) (hy : ∀ u ∈ ys, u.oneCell' = true) : ∀ u ∈ xs ++ ys, u.oneCell' = true := by
  intro u hu
  rcases List.mem_append.1 hu with h | h
  · exact hx u h
  · exact hy u h

theorem own_row {w : World} {base : Nat} {e : TypeId} {s n : Nat} {v : Value} {xs : List Value} (h : w.ownsRow base e s v n xs) (hn : 0 < n) :
    ∃ g cap cs, v = .slice (some ⟨g, 0, none⟩) n cap ∧ base ≤ g ∧ RowIs w g e cs ∧ cs.length = cap * s ∧ cs.take (n * s) = xs ∧ n ≤ cap ∧ cap ≤ maxLen := by
  rcases h.2 with ⟨_, h0⟩ | ⟨g, cap, cur, hv, hb, hg, hnc, hcm, hsz, ht⟩
  · omega
  · exact ⟨g, cap, cur.toList, hv, hb, by unfold RowIs; simpa using hg, by simpa using hsz, ht, hnc, hcm⟩

/-- Insert of one struct into a row of the caller's own. -/
theorem insert_own (base n i : Nat) (v : Value) (xs ys : List Value) (vb : Nat) (w : World) (hown : w.ownsRow base 30 4 v n xs) (hvb : RowIs w vb 30 ys) (hy : ys.length = 4)
    (hbase : base ≤ w.heap.size) (hne : ∀ k, v.ownBlock = some k → vb ≠ k) (h1x : ∀ u ∈ xs, u.oneCell' = true) (h1 : ∀ u ∈ ys, u.oneCell' = true) (hin : i ≤ n) (hb : (n + 1) * 32 ≤ 140737488355328) :
    Calls Try.prog 29 #[v, .int .i64 i, .slice (some ⟨vb, 0, none⟩) 1 1] w (InsRet w base v.ownBlock n (xs.take (i * 4) ++ ys ++ xs.drop (i * 4))) := by
  have hxl : xs.length = n * 4 := hown.1
  rcases Nat.lt_or_ge i n with hlt | hge
  · obtain ⟨g, cap, cs, rfl, hbg, hg, hcl, hx, hnc, hcm⟩ := own_row hown (by omega)
    rcases Nat.lt_or_ge n cap with hc | hc
    · exact insert_shift base g n cap i cs xs ys vb w hg hbg hcl hx hvb hy (hne g rfl) h1x h1 hlt hc (by unfold maxLen at hcm; omega)
    · obtain rfl : n = cap := by omega
      have hx' : cs = xs := by rw [← hx, List.take_of_length_le (by omega)]
      exact insert_grow base g n i cs xs ys vb w hg hcl hx' hvb hy hbase h1x h1 hlt hb
  · obtain rfl : i = n := by omega
    obtain ⟨A, c, rfl, hnc⟩ := own_slice hown
    rw [List.take_of_length_le (by omega), List.drop_eq_nil_of_le (by omega), List.append_nil]
    exact insert_end base A i c xs ys vb w hown hvb hy hbase h1 hb hnc

#print axioms insert_own
end Go.Proofs.Ythmclonjgbmhhaa
