/-
  Has, more, Make, Drop.
-/
import Derived.Test.YtkfpnpfopinbkaaFind
namespace Go.Proofs.Ytkfpnpfopinbkaa
open Go.RowKit
set_option linter.unusedVariables false

def hasC (l : List Tag) (s : List UInt8) : Bool := match l[posL l s]? with | some t => t.nm == s && t.n.tmod 2 == 1 | none => false

set_option maxHeartbeats 1000000 in
theorem has_any (A : Option Addr) (c : Nat) (l : List Tag) (s : List UInt8) (w : World) (hr : Sl w 2 A l.length (tcells l)) (hn : l.length ≤ 9223372036854775807) :
    Calls Try.prog 19 #[.slice A l.length c, .string (str s)] w fun e w' => e = .returned (.bool (hasC l s)) ∧ Below w.heap.size w w' := by
  have Hr := Lib.hid hr
  clear hr
  go_enter Try.func19, Try.ntmps19
  go_wp2_with fail
  refine (find_any A c l s _ Hr.out hn).mono ?_
  rintro e w' ⟨rfl, hb⟩
  have B := Lib.hid hb
  clear hb
  rcases Nat.lt_or_ge (posL l s) l.length with h | h
  · obtain ⟨g, o, rfl, hg, c0, c1⟩ := tag_cells (Hr.out.below B.out) (List.getElem?_eq_getElem h)
    have HI : Hid (isL l s = (l[posL l s].nm == s)) := Lib.hid (by unfold isL; rw [List.getElem?_eq_getElem h])
    have HH : Hid (hasC l s = (l[posL l s].nm == s && l[posL l s].n.tmod 2 == 1)) := Lib.hid (by unfold hasC; rw [List.getElem?_eq_getElem h])
    generalize hz : l[posL l s] = t at c0 c1 HI HH
    clear hz
    generalize posL l s = k at *
    rw [HI.out]
    cases he : (t.nm == s)
    · have HF : Hid (hasC l s = false) := Lib.hid (by rw [HH.out, he]; rfl)
      clear HH
      go_wp2_with fail
      go_ret
      exact ⟨by rw [HF.out]; rfl, B.out⟩
    · have HF : Hid (hasC l s = (t.n.tmod 2 == 1)) := Lib.hid (by rw [HH.out, he]; rfl)
      clear HH
      go_wp2_with fail
      go_ret
      exact ⟨by rw [HF.out]; rfl, B.out⟩
  · have HI : Hid (isL l s = false) := Lib.hid (by unfold isL; rw [List.getElem?_eq_none h])
    have HH : Hid (hasC l s = false) := Lib.hid (by unfold hasC; rw [List.getElem?_eq_none h])
    rw [HI.out]
    clear h
    go_wp2_with fail
    go_ret
    exact ⟨by rw [HH.out]; rfl, B.out⟩

/-- What hands back a catalogue of its own, and an error. -/
def TagsE (w : World) (er : Int) (l : List Tag) (en : Ending) (w' : World) : Prop :=
  ∃ v, en = .returned (.tuple #[v, .int .i64 er]) ∧ w'.ownsRow w.heap.size 42 2 v l.length (tcells l) ∧ Below w.heap.size w w'

theorem tags_nil {w w' : World} (er : Int) (h : Below w.heap.size w w') : TagsE w er [] (.returned (.tuple #[.slice none 0 0, .int .i64 er])) w' :=
  ⟨_, rfl, World.ownsRow_nil _ _ _ _, h⟩

def fullC (l : List Tag) (s : List UInt8) : Bool := match l[posL l s]? with | some t => if t.nm == s then decide (t.n ≥ 1048576) else decide (l.length ≥ 100) | none => decide (l.length ≥ 100)

def incC (l : List Tag) (s : List UInt8) : List Tag := match l[posL l s]? with
  | some t => if t.nm == s then l.set (posL l s) ⟨t.nm, t.n + 1⟩ else l.take (posL l s) ++ [⟨s, 1⟩] ++ l.drop (posL l s)
  | none => l ++ [⟨s, 1⟩]

def moreL (l : List Tag) (s : List UInt8) : List Tag := if fullC l s then [] else incC l s
def moreE (l : List Tag) (s : List UInt8) : Int := if fullC l s then 15 else 0

theorem fullC_new {l : List Tag} {s : List UInt8} (h : isL l s = false) : fullC l s = decide (l.length ≥ 100) := by
  unfold isL at h; unfold fullC
  cases hk : l[posL l s]? with
  | none => rfl
  | some t => rw [hk] at h; simp only at h ⊢; rw [h]; rfl
theorem incC_new {l : List Tag} {s : List UInt8} (h : isL l s = false) : incC l s = l.take (posL l s) ++ [⟨s, 1⟩] ++ l.drop (posL l s) := by
  unfold isL at h; unfold incC
  cases hk : l[posL l s]? with
  | none =>
    have := List.getElem?_eq_none_iff.1 hk
    simp only
    rw [List.take_of_length_le this, List.drop_eq_nil_of_le this, List.append_nil]
  | some t => rw [hk] at h; simp only at h ⊢; rw [h]; rfl
theorem isL_some {l : List Tag} {s : List UInt8} (h : isL l s = true) : ∃ t, l[posL l s]? = some t ∧ t.nm = s ∧ fullC l s = decide (t.n ≥ 1048576) ∧ incC l s = l.set (posL l s) ⟨t.nm, t.n + 1⟩ := by
  unfold isL at h; unfold fullC incC
  cases hk : l[posL l s]? with
  | none => rw [hk] at h; cases h
  | some t => rw [hk] at h; simp only at h ⊢; rw [h]; exact ⟨t, rfl, by simpa using h, rfl, rfl⟩

theorem own_set {w : World} {base : Nat} {e : TypeId} {s n g cap : Nat} {xs : List Value} (h : w.ownsRow base e s (.slice (some ⟨g, 0, none⟩) n cap) n xs) (j : Nat) (u : Value) :
    (w.setCell ⟨g, j, none⟩ u).ownsRow base e s (.slice (some ⟨g, 0, none⟩) n cap) n (xs.set j u) := by
  refine ⟨by simp [h.1], ?_⟩
  rcases h.2 with ⟨hv, _⟩ | ⟨g', cap', cur, hv, hb, hg, hnc, hcm, hsz, ht⟩
  · cases hv
  · injection hv with h1 h2 h3
    injection h1 with h1
    injection h1 with h1
    subst h1; subst h3
    have hB : Blk w g e cur := hg
    refine .inr ⟨g, cap, cur.setIfInBounds j u, rfl, hb, hB.set_ j u, hnc, hcm, by simpa using hsz, ?_⟩
    rw [← ht, Array.toList_setIfInBounds, List.take_set]

theorem fm_set (l : List Tag) (k : Nat) (t t' : Tag) (h : l[k]? = some t) (hnm : t'.nm = t.nm) : tcells (l.set k t') = (tcells l).set (k * 2 + 1) (.int .i64 t'.n) := by
  induction l generalizing k with
  | nil => cases h
  | cons a l ih =>
    cases k with
    | zero =>
      injection h with h
      subst h
      show tc t' ++ tcells l = (tc a ++ tcells l).set 1 _
      simp [tc, hnm]
    | succ k =>
      show tc a ++ tcells (l.set k t') = (tc a ++ tcells l).set _ _
      rw [ih k h, show (k + 1) * 2 + 1 = k * 2 + 1 + (tc a).length by rw [tc_len]; omega, List.set_append_right _ _ (by omega)]
      simp

theorem tcells_set_new (l : List Tag) (k : Nat) (hk : k ≤ l.length) (s : List UInt8) (n m : Int) : (tcells (l.take k ++ [⟨s, n⟩] ++ l.drop k)).set (k * 2 + 1) (.int .i64 m) = tcells (l.take k ++ [⟨s, m⟩] ++ l.drop k) := by
  have hl : (l.take k).length = k := by simp; omega
  have h := fm_set (l.take k ++ [⟨s, n⟩] ++ l.drop k) k ⟨s, n⟩ ⟨s, m⟩ (by rw [List.append_assoc, List.getElem?_append_right (by omega), hl]; simp) rfl
  rw [← h]
  congr 1
  rw [List.append_assoc, List.set_append_right _ _ (by omega), hl, List.append_assoc]
  simp

theorem tags_ret {w w3 : World} {l l' : List Tag} {n g cap : Nat} {er : Int} {u : Value} {j : Nat} (h : w3.ownsRow w.heap.size 42 2 (.slice (some ⟨g, 0, none⟩) n cap) n (tcells l)) (hb : Below w.heap.size w w3) (hl : l'.length = n) (hx : tcells l' = (tcells l).set j u) (hgb : w.heap.size ≤ g) :
    TagsE w er l' (.returned (.tuple #[.slice (some ⟨g, 0, none⟩) n cap, .int .i64 er])) (w3.setCell ⟨g, j, none⟩ u) := by
  subst hl
  exact ⟨_, rfl, by rw [hx]; exact own_set h j u, hb.setCell hgb u⟩

theorem own_at {w : World} {base : Nat} {e : TypeId} {s n g o cap : Nat} {xs : List Value} (h : w.ownsRow base e s (.slice (some ⟨g, o, none⟩) n cap) n xs) : o = 0 ∧ base ≤ g ∧ n ≤ cap := by
  rcases h.2 with ⟨hv, _⟩ | ⟨g', cap', cur, hv, hb, hg, hnc, _⟩
  · cases hv
  · injection hv with h1 h2 h3
    injection h1 with h1
    injection h1 with h1 h4
    subst h1; subst h3
    exact ⟨h4, hb, hnc⟩

theorem own_frozen {w : World} {base : Nat} {e : TypeId} {s n g cap : Nat} {xs : List Value} (h : w.ownsRow base e s (.slice (some ⟨g, 0, none⟩) n cap) n xs) (j : Nat) : w.frozen? ⟨g, j, none⟩ = false := by
  rcases h.2 with ⟨hv, _⟩ | ⟨g', cap', cur, hv, hb, hg, _⟩
  · cases hv
  · injection hv with h1 h2 h3
    injection h1 with h1
    injection h1 with h1
    subst h1
    exact Blk.frozen (t := e) (cs := cur) hg j

theorem own_block_lt {w : World} {base : Nat} {e : TypeId} {s n : Nat} {v : Value} {xs : List Value} (h : w.ownsRow base e s v n xs) : ∀ k, v.ownBlock = some k → base ≤ k ∧ k < w.heap.size := by
  intro k hk
  rcases h.2 with ⟨rfl, _⟩ | ⟨g', cap', cur, rfl, hb, hg, _⟩
  · cases hk
  · injection hk with hk; subst hk; exact ⟨hb, lt_of_heap hg⟩

set_option maxHeartbeats 2000000 in
theorem more_any (A : Option Addr) (c : Nat) (l : List Tag) (s : List UInt8) (w : World) (hr : Sl w 2 A l.length (tcells l)) (hn : l.length ≤ 1000) (hok : ∀ t ∈ l, 0 ≤ t.n) :
    Calls Try.prog 25 #[.slice A l.length c, .string (str s)] w (TagsE w (moreE l s) (moreL l s)) := by
  have Hr := Lib.hid hr
  have Hok := Lib.hid hok
  clear hr hok
  go_enter Try.func25, Try.ntmps25
  go_wp2_with fail
  refine (clone_tags A l.length c _ _ Hr.out (tcells_one l) (by omega)).mono ?_
  rintro e w1 ⟨v1, rfl, hown, hb1⟩
  obtain ⟨A1, c1, rfl, hnc⟩ := own_slice hown
  have Hown := Lib.hid hown
  have B1 := Lib.hid hb1
  have Hnc := Lib.hid hnc
  clear hown hb1 hnc
  go_wp2_with fail
  refine (find_any A1 c1 l s _ (Row.of_own Hown.out).sl (by omega)).mono ?_
  rintro e w2 ⟨rfl, hb2⟩
  have B2 := Lib.hid (B1.out.trans (hb2.mono B1.out.size))
  have Hown2 := Lib.hid (own_below Hown.out hb2)
  clear hb2 Hown B1
  have HP := posL_le l s
  cases hI : isL l s
  · have HF := fullC_new hI
    have HC := Lib.hid (incC_new hI)
    clear hI
    obtain ⟨k, hpk⟩ : ∃ k, posL l s = k := ⟨_, rfl⟩
    rw [hpk] at HC HP ⊢
    clear hpk
    by_cases h100 : l.length ≥ 100
    · have hd : decide ((100 : Int) ≤ (l.length : Int)) = true := by simp; omega
      have HL : Hid (moreL l s = [] ∧ moreE l s = 15) := Lib.hid (by unfold moreL moreE; rw [HF]; simp [h100])
      clear HF
      go_wp2_with fail
      ((try simp only [Exit.inBlock, Exit.then]); refine bodyPost_ret (results_tmp2 rfl _ _ _) rfl ?_)
      rw [HL.out.1, HL.out.2]
      exact tags_nil 15 B2.out
    · have hd : decide ((100 : Int) ≤ (l.length : Int)) = false := by simp; omega
      have HL : Hid (moreL l s = l.take k ++ [⟨s, 1⟩] ++ l.drop k ∧ moreE l s = 0) := Lib.hid (by unfold moreL moreE; rw [HF, HC.out]; simp [h100])
      clear HF
      have hal := fun o => Hown2.out.alloc o
      go_wp2_with fail
      refine (insert_own w.heap.size l.length k _ (tcells l) [.string (str s), .int .i64 0] w2.heap.size _ (own_below Hown2.out ((Below.refl _ _).alloc (Nat.le_refl _) _)) (Blk.new _ _ _) rfl (by have := B2.out.size; simp; omega) (fun k hk => by have := own_block_lt Hown2.out k hk; omega) (tcells_one l) (by simp [Value.oneCell']) HP (by omega)).mono ?_
      rintro e w3 ⟨v3, rfl, hown3, hg3⟩
      obtain ⟨L3, hL3⟩ : ∃ L3, l.take k ++ [⟨s, 0⟩] ++ l.drop k = L3 := ⟨_, rfl⟩
      have hl3 : L3.length = l.length + 1 := by rw [← hL3]; simp; omega
      have hx3 : (tcells l).take (k * 2) ++ [.string (str s), .int .i64 0] ++ (tcells l).drop (k * 2) = tcells L3 := by
        rw [← hL3, tcells_append, tcells_append, tcells_take, tcells_drop]; rfl
      have hat3 : L3[k]? = some ⟨s, 0⟩ := by
        rw [← hL3, List.append_assoc, List.getElem?_append_right (by simp; omega)]
        simp [Nat.min_eq_left HP]
      have hS3 := Lib.hid (show (tcells L3).set (k * 2 + 1) (.int .i64 1) = tcells (l.take k ++ [⟨s, 1⟩] ++ l.drop k) by rw [← hL3]; exact tcells_set_new l k HP s 0 1)
      rw [hx3, ← hl3] at hown3
      have B3 : Below w.heap.size w w3 := ((B2.out.alloc B2.out.size _).grown hg3 (by have := B2.out.size; simp; omega) (fun k hk => (own_block_lt Hown2.out k hk).1))
      obtain ⟨A3, c3, rfl, hnc3⟩ := own_slice hown3
      obtain ⟨g, o, rfl, hg, c0, c1'⟩ := tag_cells (Row.of_own hown3).sl hat3
      obtain ⟨rfl, hgb, -⟩ := own_at hown3
      have hfz := fun j => own_frozen hown3 j
      rw [Nat.zero_add] at c0 c1'
      have Hown3 := Lib.hid hown3
      have HB3 := Lib.hid B3
      have hkl : k < L3.length := by omega
      have HL3 := Lib.hid hL3
      have Hl3 := Lib.hid hl3
      clear hown3 hg3 B3 hal hL3 hx3 hat3 hl3
      go_wp2_with fail
      ((try simp only [Exit.inBlock, Exit.then]); refine bodyPost_ret (results_tmp2 rfl _ _ _) rfl ?_)
      rw [HL.out.1, HL.out.2]
      exact tags_ret Hown3.out HB3.out (by rw [← HL3.out]; simp) hS3.out.symm hgb
  · obtain ⟨t, hlt, hnm, HF, hC⟩ := isL_some hI
    have HC := Lib.hid hC
    clear hI hC
    have h0 := Hok.out t (List.mem_of_getElem? hlt)
    obtain ⟨g, o, rfl, hg, c0, c1'⟩ := tag_cells (Row.of_own Hown2.out).sl hlt
    obtain ⟨rfl, hgb, -⟩ := own_at Hown2.out
    have hfz := fun j => own_frozen Hown2.out j
    rw [Nat.zero_add] at c0 c1'
    obtain ⟨k, hpk⟩ : ∃ k, posL l s = k := ⟨_, rfl⟩
    rw [hpk] at HC HP hlt c0 c1' ⊢
    clear hpk
    have hkl : k < l.length := (List.getElem?_eq_some_iff.1 hlt).1
    have HT := Lib.hid hlt
    have Hnm := Lib.hid hnm
    clear hlt hnm
    by_cases hbig : t.n ≥ 1048576
    · have hd : decide ((1048576 : Int) ≤ t.n) = true := by simpa using hbig
      have HL : Hid (moreL l s = [] ∧ moreE l s = 15) := Lib.hid (by unfold moreL moreE; rw [HF]; simp [hbig])
      clear HF
      go_wp2_with fail
      ((try simp only [Exit.inBlock, Exit.then]); refine bodyPost_ret (results_tmp2 rfl _ _ _) rfl ?_)
      rw [HL.out.1, HL.out.2]
      exact tags_nil 15 B2.out
    · have hd : decide ((1048576 : Int) ≤ t.n) = false := by simpa using hbig
      have HL : Hid (moreL l s = l.set k ⟨t.nm, t.n + 1⟩ ∧ moreE l s = 0) := Lib.hid (by unfold moreL moreE; rw [HF, HC.out]; simp [hbig])
      have hw : IntKind.i64.wrap (t.n + 1) = t.n + 1 := IntWalk.i64_in _ (by omega)
      clear HF
      go_wp2_with fail
      ((try simp only [Exit.inBlock, Exit.then]); refine bodyPost_ret (results_tmp2 rfl _ _ _) rfl ?_)
      rw [HL.out.1, HL.out.2]
      exact tags_ret Hown2.out B2.out (by simp) (fm_set l k t _ HT.out rfl) hgb

theorem own_base {w : World} {base base' : Nat} {e : TypeId} {s n : Nat} {v : Value} {xs : List Value} (h : w.ownsRow base e s v n xs) (hb : base' ≤ base) : w.ownsRow base' e s v n xs := by
  refine ⟨h.1, ?_⟩
  rcases h.2 with hn | ⟨g, cap, cur, hv, h1, hr⟩
  · exact .inl hn
  · exact .inr ⟨g, cap, cur, hv, by omega, hr⟩

theorem tags_below {w0 w w' : World} {er : Int} {l : List Tag} {en : Ending} (hb : Below w0.heap.size w0 w) (h : TagsE w er l en w') : TagsE w0 er l en w' := by
  obtain ⟨v, rfl, ho, hb2⟩ := h
  exact ⟨v, rfl, own_base ho hb.size, hb.trans (hb2.mono hb.size)⟩

def makeL (l : List Tag) (s : List UInt8) : List Tag := if !okName s then [] else if hasC l s then [] else moreL l s
def makeE (l : List Tag) (s : List UInt8) : Int := if !okName s then 1 else if hasC l s then 13 else moreE l s
def dropL (l : List Tag) (s : List UInt8) : List Tag := if !hasC l s then [] else moreL l s
def dropE (l : List Tag) (s : List UInt8) : Int := if !hasC l s then 12 else moreE l s

set_option maxHeartbeats 1000000 in
theorem make_any (A : Option Addr) (c : Nat) (l : List Tag) (s : List UInt8) (w : World) (hr : Sl w 2 A l.length (tcells l)) (hn : l.length ≤ 1000) (hok : ∀ t ∈ l, 0 ≤ t.n) (hs : s.length ≤ 9223372036854775807) :
    Calls Try.prog 11 #[.slice A l.length c, .string (str s)] w (TagsE w (makeE l s) (makeL l s)) := by
  have Hr := Lib.hid hr
  have Hok := Lib.hid hok
  clear hr hok
  go_enter Try.func11, Try.ntmps11
  go_wp2_with fail
  refine (may_any s _ hs).mono ?_
  rintro e w' ⟨rfl, rfl⟩
  cases h1 : okName s
  · have H : Hid (makeL l s = [] ∧ makeE l s = 1) := Lib.hid (by unfold makeL makeE; rw [h1]; exact ⟨rfl, rfl⟩)
    go_wp2_with fail
    ((try simp only [Exit.inBlock, Exit.then]); refine bodyPost_ret (results_tmp2 rfl _ _ _) rfl ?_)
    rw [H.out.1, H.out.2]
    exact tags_nil 1 (Below.refl _ _)
  · go_wp2_with fail
    refine (has_any A c l s _ Hr.out (by omega)).mono ?_
    rintro e w1 ⟨rfl, hb⟩
    have B := Lib.hid hb
    clear hb
    cases h2 : hasC l s
    · have H : Hid (makeL l s = moreL l s ∧ makeE l s = moreE l s) := Lib.hid (by unfold makeL makeE; rw [h1, h2]; exact ⟨rfl, rfl⟩)
      clear h1 h2
      go_wp2_with fail
      refine (more_any A c l s _ (Hr.out.below B.out) hn Hok.out).mono ?_
      rintro e w2 ⟨v, rfl, ho, hb2⟩
      have Ho := Lib.hid ho
      have B2 := Lib.hid hb2
      clear ho hb2
      go_wp2_with fail
      ((try simp only [Exit.inBlock, Exit.then]); refine bodyPost_ret (results_tmp2 rfl _ _ _) rfl ?_)
      rw [H.out.1, H.out.2]
      exact tags_below B.out ⟨v, rfl, Ho.out, B2.out⟩
    · have H : Hid (makeL l s = [] ∧ makeE l s = 13) := Lib.hid (by unfold makeL makeE; rw [h1, h2]; exact ⟨rfl, rfl⟩)
      clear h1 h2
      go_wp2_with fail
      ((try simp only [Exit.inBlock, Exit.then]); refine bodyPost_ret (results_tmp2 rfl _ _ _) rfl ?_)
      rw [H.out.1, H.out.2]
      exact tags_nil 13 B.out

set_option maxHeartbeats 1000000 in
theorem drop_any (A : Option Addr) (c : Nat) (l : List Tag) (s : List UInt8) (w : World) (hr : Sl w 2 A l.length (tcells l)) (hn : l.length ≤ 1000) (hok : ∀ t ∈ l, 0 ≤ t.n) :
    Calls Try.prog 14 #[.slice A l.length c, .string (str s)] w (TagsE w (dropE l s) (dropL l s)) := by
  have Hr := Lib.hid hr
  have Hok := Lib.hid hok
  clear hr hok
  go_enter Try.func14, Try.ntmps14
  go_wp2_with fail
  refine (has_any A c l s _ Hr.out (by omega)).mono ?_
  rintro e w1 ⟨rfl, hb⟩
  have B := Lib.hid hb
  clear hb
  cases h2 : hasC l s
  · have H : Hid (dropL l s = [] ∧ dropE l s = 12) := Lib.hid (by unfold dropL dropE; rw [h2]; exact ⟨rfl, rfl⟩)
    clear h2
    go_wp2_with fail
    ((try simp only [Exit.inBlock, Exit.then]); refine bodyPost_ret (results_tmp2 rfl _ _ _) rfl ?_)
    rw [H.out.1, H.out.2]
    exact tags_nil 12 B.out
  · have H : Hid (dropL l s = moreL l s ∧ dropE l s = moreE l s) := Lib.hid (by unfold dropL dropE; rw [h2]; exact ⟨rfl, rfl⟩)
    clear h2
    go_wp2_with fail
    refine (more_any A c l s _ (Hr.out.below B.out) hn Hok.out).mono ?_
    rintro e w2 ⟨v, rfl, ho, hb2⟩
    have Ho := Lib.hid ho
    have B2 := Lib.hid hb2
    clear ho hb2
    go_wp2_with fail
    ((try simp only [Exit.inBlock, Exit.then]); refine bodyPost_ret (results_tmp2 rfl _ _ _) rfl ?_)
    rw [H.out.1, H.out.2]
    exact tags_below B.out ⟨v, rfl, Ho.out, B2.out⟩

#print axioms make_any
#print axioms drop_any
end Go.Proofs.Ytkfpnpfopinbkaa
