/-
  slices.DeleteFunc on a row of promises of the caller's own.
-/
import Derived.Test.YthmclonjgbmhhaaFinds
namespace Go.Proofs.Ythmclonjgbmhhaa
open Go.RowKit
set_option linter.unusedVariables false

/-- A function value that tells of a promise, in any world in which of the old only block g has turned. -/
def TellsIn (w0 : World) (g : Nat) (K : Nat) (caps : Array Value) (p : Hold → Bool) : Prop := ∀ t W, Only g w0 W → Calls Try.prog K (#[.agg #[.int .i64 t.d.nd, .int .i64 t.d.n, .int .i64 t.rc, .int .i64 t.un]] ++ caps) W fun e W' => e = .returned (.bool (p t)) ∧ Below W.heap.size W W'

theorem sl_spare {w : World} {g : Nat} {e : TypeId} {q : List Hold} {sp : List Value} (h : RowIs w g e (hcells q ++ sp)) : Sl w 4 (some ⟨g, 0, none⟩) q.length (hcells q) :=
  ⟨hcells_length q, fun _ => ⟨g, 0, rfl, lt_of_heap h, fun j u hu => by
    rw [Nat.zero_add, h.cell, List.getElem?_append_left (List.getElem?_eq_some_iff.1 hu).1]; exact hu⟩⟩

theorem hcells_set (q : List Hold) (i : Nat) (hi : i < q.length) (t : Hold) (sp : List Value) :
    ((((hcells q ++ sp).set (i * 4) (.int .i64 t.d.nd)).set (i * 4 + 1) (.int .i64 t.d.n)).set (i * 4 + 2) (.int .i64 t.rc)).set (i * 4 + 3) (.int .i64 t.un) = hcells (q.set i t) ++ sp := by
  induction q generalizing i with
  | nil => simp at hi
  | cons a q ih =>
    cases i with
    | zero => simp [hcells, hcs]
    | succ i =>
      have h := ih i (by simpa using hi)
      have e : hcells (a :: q) ++ sp = hcs a ++ (hcells q ++ sp) := by simp [hcells]
      have e2 : hcells ((a :: q).set (i + 1) t) ++ sp = hcs a ++ (hcells (q.set i t) ++ sp) := by simp [hcells]
      rw [e, e2, ← h]
      have k : ∀ (xs : List Value) (j : Nat) (v : Value), (hcs a ++ xs).set (j + 4) v = hcs a ++ xs.set j v := fun xs j v => by
        rw [List.set_append_right _ _ (by simp [hcs_len])]; simp [hcs_len]
      rw [show (i + 1) * 4 = i * 4 + 4 by omega, k, show i * 4 + 4 + 1 = (i * 4 + 1) + 4 by omega, k, show i * 4 + 4 + 2 = (i * 4 + 2) + 4 by omega, k, show i * 4 + 4 + 3 = (i * 4 + 3) + 4 by omega, k]

theorem RowIs.put4 {w : World} {g : Nat} {e : TypeId} {q : List Hold} {sp : List Value} (h : RowIs w g e (hcells q ++ sp)) (i : Nat) (hi : i < q.length) (t : Hold) :
    RowIs ((((w.setCell ⟨g, i * 4, none⟩ (.int .i64 t.d.nd)).setCell ⟨g, i * 4 + 1, none⟩ (.int .i64 t.d.n)).setCell ⟨g, i * 4 + 2, none⟩ (.int .i64 t.rc)).setCell ⟨g, i * 4 + 3, none⟩ (.int .i64 t.un)) g e (hcells (q.set i t) ++ sp) := by
  have hb : Blk w g e (hcells q ++ sp).toArray := h
  have := (((hb.set_ (i * 4) (.int .i64 t.d.nd)).set_ (i * 4 + 1) (.int .i64 t.d.n)).set_ (i * 4 + 2) (.int .i64 t.rc)).set_ (i * 4 + 3) (.int .i64 t.un)
  rw [← hcells_set q i hi t sp]
  unfold Blk at this
  unfold RowIs
  rw [this]
  simp only [List.setIfInBounds_toArray]

theorem only_put4 (w : World) (g i : Nat) (a b c d : Value) : Only g w ((((w.setCell ⟨g, i, none⟩ a).setCell ⟨g, i + 1, none⟩ b).setCell ⟨g, i + 2, none⟩ c).setCell ⟨g, i + 3, none⟩ d) :=
  only_trans (only_trans (only_trans (only_set w g i a) (only_set _ g (i + 1) b)) (only_set _ g (i + 2) c)) (only_set _ g (i + 3) d)

/-- What DeleteFunc hands back. -/
def DelRet (w : World) (base : Nat) (own : Option Nat) (m : List Hold) (en : Ending) (w' : World) : Prop :=
  ∃ v, en = .returned v ∧ w'.ownsRow base 30 4 v m.length (hcells m) ∧ w.grownBy w' own

theorem filter_none (p : Hold → Bool) (l : List Hold) (h : l.length ≤ idx p l) : l.filter (fun t => !p t) = l := by
  induction l with
  | nil => rfl
  | cons t l ih =>
    unfold idx at h
    cases hp : p t
    · rw [hp] at h
      rw [List.filter_cons, hp, ih (by simpa using h)]; rfl
    · rw [hp] at h; simp at h
theorem filter_first (p : Hold → Bool) (l : List Hold) (h : idx p l < l.length) : (l.take (idx p l + 1)).filter (fun t => !p t) = l.take (idx p l) := by
  induction l with
  | nil => simp at h
  | cons t l ih =>
    unfold idx at h ⊢
    cases hp : p t
    · rw [hp] at h
      have := ih (by simpa using h)
      simp only [Bool.false_eq_true, if_false, List.take_succ_cons, List.filter_cons, hp, Bool.not_false, if_true]
      rw [this]
    · simp [hp]

/-- Where the deleting stands: q in the row, i kept, j looked at. -/
structure DelAt (p : Hold → Bool) (l q : List Hold) (i j : Nat) : Prop where
  len : q.length = l.length
  lt : i < j
  le : j ≤ l.length
  done : q.take i = (l.take j).filter fun t => !p t
  todo : q.drop j = l.drop j

theorem DelAt.start (p : Hold → Bool) (l : List Hold) (h : idx p l < l.length) : DelAt p l l (idx p l) (idx p l + 1) := ⟨rfl, by omega, by omega, (filter_first p l h).symm, rfl⟩
theorem DelAt.at_ {p : Hold → Bool} {l q : List Hold} {i j : Nat} (h : DelAt p l q i j) (hj : j < l.length) : q[j]? = some l[j] := by
  have : (q.drop j)[0]? = (l.drop j)[0]? := by rw [h.todo]
  rw [List.getElem?_drop, List.getElem?_drop, Nat.add_zero] at this
  rw [this, List.getElem?_eq_getElem hj]
theorem take_filter (p : Hold → Bool) (l : List Hold) (j : Nat) (hj : j < l.length) : (l.take (j + 1)).filter (fun t => !p t) = (l.take j).filter (fun t => !p t) ++ if p l[j] then [] else [l[j]] := by
  rw [List.take_succ_eq_append_getElem hj, List.filter_append]
  congr 1
  cases h : p l[j] <;> simp [h]
theorem DelAt.skip {p : Hold → Bool} {l q : List Hold} {i j : Nat} (h : DelAt p l q i j) (hj : j < l.length) (hp : p l[j] = true) : DelAt p l q i (j + 1) :=
  ⟨h.len, by have := h.lt; omega, by omega, by rw [take_filter p l j hj, hp, h.done]; simp, by rw [← List.drop_drop, h.todo, List.drop_drop]⟩
theorem DelAt.keep {p : Hold → Bool} {l q : List Hold} {i j : Nat} (h : DelAt p l q i j) (hj : j < l.length) (hp : p l[j] = false) : DelAt p l (q.set i l[j]) (i + 1) (j + 1) := by
  have hi := h.lt
  refine ⟨by simp [h.len], by omega, by omega, ?_, ?_⟩
  · rw [take_filter p l j hj, hp, List.take_succ_eq_append_getElem (by simp [h.len]; omega), List.take_set_of_le (by omega), h.done]
    simp
  · rw [List.drop_set_of_lt (by omega), ← List.drop_drop, h.todo, List.drop_drop]

theorem own_rowIs {w : World} {base : Nat} {l : List Hold} {v : Value} (h : w.ownsRow base 30 4 v l.length (hcells l)) (hn : 0 < l.length) :
    ∃ g cap sp, v = .slice (some ⟨g, 0, none⟩) l.length cap ∧ base ≤ g ∧ RowIs w g 30 (hcells l ++ sp) ∧ l.length ≤ cap ∧ cap ≤ maxLen ∧ (hcells l ++ sp).length = cap * 4 := by
  obtain ⟨g, cap, cs, hv, hb, hr, hl, ht, hn, hc⟩ := own_row h hn
  refine ⟨g, cap, cs.drop (l.length * 4), hv, hb, ?_, hn, hc, ?_⟩
  · rw [← ht, List.take_append_drop]; exact hr
  · rw [← ht, List.take_append_drop]; exact hl

set_option maxHeartbeats 2000000 in
theorem delete_any (K : Nat) (caps : Array Value) (p : Hold → Bool) (base : Nat) (v : Value) (l : List Hold) (w : World) (hown : w.ownsRow base 30 4 v l.length (hcells l))
    (hn : l.length ≤ 1000000) (hent : ∀ args W, (callFunc K args).run Try.prog W = .ok (.enter K args) W) (ht : Tells w K caps p) (hp : ∀ g, v.ownBlock = some g → TellsIn w g K caps p) :
    Calls Try.prog 30 #[v, .func (.func K) #[] caps] w (DelRet w base v.ownBlock (l.filter fun t => !p t)) := by
  obtain ⟨i0, hi, hz0, hz1, hz2⟩ := info_parts info_hold
  rcases Nat.lt_or_ge (idx p l) l.length with hk | hk
  · obtain ⟨g, cap, sp, rfl, hbg, hrow, hlc, hcm, hcl⟩ := own_rowIs hown (by omega)
    have HR := Lib.hid hrow
    have HP := Lib.hid (hp g rfl)
    have HI := Lib.hid (index_any K caps p (some ⟨g, 0, none⟩) cap l w (sl_spare hrow) (by omega) hent ht)
    have HS := Lib.hid (DelAt.start p l hk)
    have hx : ixv (idx p l) l.length = (idx p l : Nat) := by simp [ixv, hk]
    rw [hx] at HI
    clear hx hown hp ht hrow
    obtain ⟨k0, hk0⟩ : ∃ k0, idx p l = k0 := ⟨_, rfl⟩
    rw [hk0] at HI HS hk
    clear hk0
    have hk1 : ((k0 : Int) == -1) = false := beq_eq_false_iff_ne.2 (by omega)
    have Hcl := Lib.hid hcl
    have Hcm := Lib.hid hcm
    clear hcl hcm
    go_enter Try.func30, Try.ntmps30
    go_wp2_with fail
    refine HI.out.mono ?_
    rintro e w1 ⟨rfl, hb1⟩
    have HR1 := Lib.hid (HR.out.below hb1)
    have HO1 := Lib.hid (only_below (g := g) hb1)
    clear hb1 HI HR
    go_wp2_with fail
    go_loopw [5, 6] (fun vi vj wr => ∃ (i j : Nat) (q : List Hold), vi = .int .i64 i ∧ vj = .int .i64 j ∧ DelAt p l q i j ∧ RowIs wr g 30 (hcells q ++ sp) ∧ Only g w wr) (fun _ vj _ => l.length - (intOf vj).toNat)
    case atStart => exact ⟨k0, k0 + 1, l, rfl, by go_num, HS.out, HR1.out, HO1.out⟩
    case round =>
      obtain ⟨i, j, q, rfl, rfl, hd, hr, ho⟩ := hrel
      have HD := Lib.hid hd
      have HRr := Lib.hid hr
      have HO := Lib.hid ho
      have hij := hd.lt
      have hjl := hd.le
      have hql := hd.len
      clear hr ho HR1 HO1 HS
      by_cases hlt : j < l.length
      · obtain ⟨g', o', hgo, hg0, c0, c1, c2, c3⟩ := hold_cells (sl_spare HRr.out) (hd.at_ hlt)
        injection hgo with hgo; injection hgo with hgo1 hgo2; subst hgo1; subst hgo2
        rw [Nat.zero_add] at c0 c1 c2 c3
        have HQ := Lib.hid hql
        clear hd hql
        have HKeep := Lib.hid (fun hp => HD.out.keep hlt hp)
        have HSkip := Lib.hid (fun hp => HD.out.skip hlt hp)
        generalize hz : l[j] = t at c0 c1 c2 c3 HKeep HSkip
        clear hz
        go_wp2_with fail
        refine (HP.out t _ (only_trans HO.out (only_below ((Below.refl _ _).alloc (Nat.le_refl _) _)))).mono ?_
        rintro e w2 ⟨rfl, hb2⟩
        have HO2 := Lib.hid (only_trans (only_trans HO.out (only_below ((Below.refl wr.heap.size wr).alloc (Nat.le_refl _) (.cells #[.int .i64 t.d.nd, .int .i64 t.d.n, .int .i64 t.rc, .int .i64 t.un] 30)))) (only_below hb2))
        have HR2 := Lib.hid ((HRr.out.below ((Below.refl wr.heap.size wr).alloc (Nat.le_refl _) (.cells #[.int .i64 t.d.nd, .int .i64 t.d.n, .int .i64 t.rc, .int .i64 t.un] 30))).below hb2)
        obtain ⟨e0, e1, e2, e3⟩ := ((Blk.new wr 30 #[.int .i64 t.d.nd, .int .i64 t.d.n, .int .i64 t.rc, .int .i64 t.un]).below hb2).four
        have hil : i < l.length := by omega
        have hiq : i < q.length := by rw [HQ.out]; exact hil
        obtain ⟨g', o', hgo, hg2, f0, f1, f2, f3⟩ := hold_cells (sl_spare HR2.out) (List.getElem?_eq_getElem hiq)
        injection hgo with hgo; injection hgo with hgo1 hgo2; subst hgo1; subst hgo2
        rw [Nat.zero_add] at f0 f1 f2 f3
        generalize q[i] = y at f0 f1 f2 f3
        have hfz := fun j => Blk.frozen (t := 30) (cs := (hcells q ++ sp).toArray) HR2.out j
        clear hb2 HRr HO hiq
        cases he : p t
        · have HN := Lib.hid (HKeep.out he)
          have HRn := Lib.hid (HR2.out.put4 i (by rw [HQ.out]; exact hil) t)
          have HOn := Lib.hid (only_trans HO2.out (only_put4 w2 g (i * 4) (.int .i64 t.d.nd) (.int .i64 t.d.n) (.int .i64 t.rc) (.int .i64 t.un)))
          clear HKeep HSkip HD
          go_wp2_with fail
          go_roundw
          case rel => exact ⟨i + 1, j + 1, q.set i t, by go_num, by go_num, HN.out, HRn.out, HOn.out⟩
          case measure => simp [intOf]; omega
        · have HN := Lib.hid (HSkip.out he)
          clear HKeep HSkip HD
          go_wp2_with fail
          go_roundw
          case rel => exact ⟨i, j + 1, q, rfl, by go_num, HN.out, HR2.out, HO2.out⟩
          case measure => simp [intOf]; omega
      · have hj : j = l.length := by omega
        have hil : i < l.length := by omega
        have sl0 := cut_at (P := Try.prog) 22 30 i0 Try.underlying22 hi 4 hz1 .i64 g 0 l.length cap (i : Int) i rfl (by omega) (by omega)
        have sl1 := cut_hi (P := Try.prog) 22 30 i0 Try.underlying22 hi .i64 (some ⟨g, 0, none⟩) l.length cap i (by omega)
        rw [Nat.zero_add] at sl0
        have hql' : (hcells q).length = l.length * 4 := by rw [hcells_length, hql]
        have hfull : (hcells q ++ sp).length = cap * 4 := by have := Hcl.out; rw [List.length_append, hcells_length] at this; rw [List.length_append, hcells_length, hql]; exact this
        obtain ⟨cs1, hcs1⟩ : ∃ cs1, (hcells q ++ sp).take (i * 4) ++ (Builtin.zeroCells (Value.agg #[.int .i64 0, .int .i64 0, .int .i64 0, .int .i64 0]).cells (l.length - i)).toList ++ (hcells q ++ sp).drop (i * 4 + (Builtin.zeroCells (Value.agg #[.int .i64 0, .int .i64 0, .int .i64 0, .int .i64 0]).cells (l.length - i)).toList.length) = cs1 := ⟨_, rfl⟩
        have hzl : (Builtin.zeroCells (Value.agg #[.int .i64 0, .int .i64 0, .int .i64 0, .int .i64 0]).cells (l.length - i)).toList.length = (l.length - i) * 4 := by rw [Array.length_toList, size_zeroCells]; rfl
        have hcl : ∀ (ty : TypeId), (Builtin.clear_ #[22] ty #[.slice (some ⟨g, i * 4, none⟩) (l.length - i) (cap - i)]).run Try.prog wr = .ok (.tuple #[]) (wr.setRow g cs1.toArray) := fun ty => by
          have h := run_clear_s (P := Try.prog) wr 22 30 ty i0 _ g (i * 4) (l.length - i) (cap - i) (hcells q ++ sp).toArray 30 Try.underlying22 hi hz0 (by omega) HRr.out
            (by simp only [List.size_toArray, hfull]; show i * 4 + (l.length - i) * 4 ≤ cap * 4; omega) (fun v hv => by simp [Value.cells] at hv; subst hv; rfl)
          rw [h]
          simp only [hcs1]
        have hcs1l : cs1.length = cap * 4 := by
          rw [← hcs1]; simp only [List.length_append, List.length_take, List.length_drop, hzl]
          simp only [List.length_append] at hfull
          rw [hfull]; omega
        have htk : cs1.take (i * 4) = hcells (l.filter fun t => !p t) := by
          rw [← hcs1, List.append_assoc, List.take_append_of_le_length (by rw [List.length_take, hfull]; omega), List.take_take, Nat.min_self, List.take_append_of_le_length (by omega), ← hcells_take, hd.done, hj, List.take_of_length_le (Nat.le_refl _)]
        have hml : (l.filter fun t => !p t).length = i := by
          have := congrArg List.length hd.done
          rw [hj, List.take_of_length_le (Nat.le_refl _), List.length_take, hql] at this
          omega
        have hfin : Hid (DelRet w base (some g) (l.filter fun t => !p t) (.returned (.slice (some ⟨g, 0, none⟩) i cap)) (wr.setRow g cs1.toArray)) := Lib.hid
          ⟨_, rfl, by rw [hml]; exact RowIs.own (cs := cs1) (HRr.out.set cs1) hbg (by omega) Hcm.out hcs1l htk, only_trans HO.out (grown_setRow _ _ _)⟩
        have hcap : (l.length : Int) ≤ (cap : Int) := by omega
        clear hd hcs1 hcs1l htk hml hfull hql' hzl HD HRr HO
        subst hj
        go_wp2_with (refine wpList_clear_run _ rfl (.tmp 38) 22 rfl _ rfl (hcl _) ?_)
        go_ret
        exact hfin.out
  · have HF := Lib.hid (filter_none p l hk)
    obtain ⟨A, c, rfl, hlc⟩ := own_slice hown
    have HI := Lib.hid (index_any K caps p A c l w (Row.of_own hown).sl (by omega) hent ht)
    have hx : ixv (idx p l) l.length = -1 := by simp [ixv]; omega
    rw [hx] at HI
    have HO := Lib.hid hown
    clear hx hown hp ht hk
    go_enter Try.func30, Try.ntmps30
    go_wp2_with fail
    refine HI.out.mono ?_
    rintro e w1 ⟨rfl, hb1⟩
    have B := Lib.hid hb1
    clear hb1
    go_wp2_with fail
    go_ret
    exact ⟨_, rfl, by rw [HF.out]; exact own_below HO.out B.out, ⟨B.out.os, B.out.tape, B.out.output, B.out.size, fun k hk _ => B.out.block k hk⟩⟩

#print axioms delete_any
end Go.Proofs.Ythmclonjgbmhhaa
