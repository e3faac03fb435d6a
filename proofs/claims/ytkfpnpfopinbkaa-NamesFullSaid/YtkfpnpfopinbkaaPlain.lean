/-
  The plain law: on a sorted catalogue the code's answer is the document's.
-/
import Derived.Test.YtkfpnpfopinbkaaAwake
namespace Go.Proofs.Ytkfpnpfopinbkaa
open Go.RowKit
set_option linter.unusedVariables false

theorem lt_irrefl (x : List UInt8) : lt x x = false := by
  induction x with
  | nil => rfl
  | cons a x ih =>
    unfold lt at ih
    simp [lt, Op.bytesLess, ih]
theorem lt_trans (x y z : List UInt8) (h1 : lt x y = true) (h2 : lt y z = true) : lt x z = true := by
  induction x generalizing y z with
  | nil => cases z with
    | nil => cases y <;> simp [lt, Op.bytesLess] at h1 h2
    | cons c z => rfl
  | cons a x ih => cases y with
    | nil => simp [lt, Op.bytesLess] at h1
    | cons b y => cases z with
      | nil => simp [lt, Op.bytesLess] at h2
      | cons c z =>
        have ih' := ih y z
        unfold lt at ih' h1 h2 ⊢
        simp only [Op.bytesLess, Bool.or_eq_true, decide_eq_true_eq, Bool.and_eq_true, beq_iff_eq] at h1 h2 ⊢
        rcases h1 with h1 | ⟨rfl, h1⟩
        · rcases h2 with h2 | ⟨rfl, h2⟩
          · exact .inl (UInt8.lt_trans h1 h2)
          · exact .inl h1
        · rcases h2 with h2 | ⟨rfl, h2⟩
          · exact .inl h2
          · exact .inr ⟨rfl, ih' h1 h2⟩
theorem lt_total (x y : List UInt8) (h1 : lt x y = false) (h2 : lt y x = false) : x = y := by
  induction x generalizing y with
  | nil => cases y with
    | nil => rfl
    | cons b y => simp [lt, Op.bytesLess] at h1
  | cons a x ih => cases y with
    | nil => simp [lt, Op.bytesLess] at h2
    | cons b y =>
      have ih' := ih y
      unfold lt at ih' h1 h2
      simp only [Op.bytesLess, Bool.or_eq_false_iff, decide_eq_false_iff_not, Bool.and_eq_false_iff, beq_eq_false_iff_ne] at h1 h2
      have hab : a = b := by
        have q1 := h1.1; have q2 := h2.1
        apply UInt8.toNat_inj.1
        rw [UInt8.lt_iff_toNat_lt] at q1 q2
        omega
      subst hab
      rw [ih' (by rcases h1.2 with h | h; exact absurd rfl h; exact h) (by rcases h2.2 with h | h; exact absurd rfl h; exact h)]
theorem lt_ne {x y : List UInt8} (h : lt x y = true) : x ≠ y := by
  rintro rfl
  rw [lt_irrefl] at h
  cases h
theorem lt_gt {x y : List UInt8} (h : lt x y = true) : lt y x = false := by
  cases h2 : lt y x
  · rfl
  · rw [← lt_irrefl x]; exact (lt_trans x y x h h2).symm ▸ rfl

/-- A sorted catalogue. -/
def Srt (l : List Tag) : Prop := l.Pairwise fun a b => lt a.nm b.nm = true

theorem withR_true (l : List Tag) (s : List UInt8) (n : Int) (h : ∀ u ∈ l, u.nm ≠ s) : withR l s n true = l := by
  induction l with
  | nil => rfl
  | cons t l ih =>
    have h1 : (t.nm == s) = false := by simpa using h t List.mem_cons_self
    unfold withR withP withQ
    rw [h1, Bool.true_or, ih fun u hu => h u (List.mem_cons_of_mem _ hu)]
    rfl
theorem numL_none (l : List Tag) (s : List UInt8) (h : ∀ u ∈ l, u.nm ≠ s) : numL l s = 0 := by
  induction l with
  | nil => rfl
  | cons t l ih =>
    have h1 : (t.nm == s) = false := by simpa using h t List.mem_cons_self
    unfold numL
    rw [h1, ih fun u hu => h u (List.mem_cons_of_mem _ hu)]
    rfl

/-- What a sorted catalogue holds of a name. -/
def Plain (l : List Tag) (s : List UInt8) : Prop :=
  (∃ t, isL l s = true ∧ l[posL l s]? = some t ∧ t.nm = s ∧ numL l s = t.n ∧ ∀ n, withL l s n = l.set (posL l s) ⟨s, n⟩) ∨
  (isL l s = false ∧ (∀ u ∈ l, u.nm ≠ s) ∧ ∀ n, withL l s n = l.take (posL l s) ++ [⟨s, n⟩] ++ l.drop (posL l s))

theorem plain {l : List Tag} (h : Srt l) (s : List UInt8) : Plain l s := by
  induction l with
  | nil => exact .inr ⟨rfl, (fun u hu => by cases hu), fun n => rfl⟩
  | cons t l ih =>
    obtain ⟨h1, h2⟩ := List.pairwise_cons.1 h
    cases hlt : lt t.nm s
    · have hp : posL (t :: l) s = 0 := by unfold posL; rw [hlt]; rfl
      cases he : (t.nm == s)
      · have hgt : lt s t.nm = true := by
          cases hx : lt s t.nm
          · have := lt_total _ _ hlt hx
            rw [this] at he; simp at he
          · rfl
        have hne : ∀ u ∈ l, u.nm ≠ s := fun u hu hus => by
          have := lt_trans _ _ _ hgt (h1 u hu)
          rw [hus, lt_irrefl] at this; cases this
        refine .inr ⟨?_, ?_, fun n => ?_⟩
        · unfold isL; rw [hp]; simpa using he
        · intro u hu
          rcases List.mem_cons.1 hu with rfl | hu
          · simpa using he
          · exact hne u hu
        · rw [hp]
          unfold withL withR withP withQ
          rw [hlt, he]
          simp only [Bool.not_false, Bool.and_self, Bool.false_or]
          rw [withR_true l s n hne]
          rfl
      · have hts : t.nm = s := by simpa using he
        have hne : ∀ u ∈ l, u.nm ≠ s := fun u hu hus => by
          have := h1 u hu
          rw [hus, hts, lt_irrefl] at this; cases this
        refine .inl ⟨t, ?_, ?_, hts, ?_, fun n => ?_⟩
        · unfold isL; rw [hp]; simpa using he
        · rw [hp]; rfl
        · unfold numL; rw [he]; rfl
        · rw [hp]
          unfold withL withR withP withQ
          rw [hlt, he]
          simp only [Bool.not_false, Bool.and_self, Bool.false_or]
          rw [withR_true l s n hne]
          rfl
    · have hp : posL (t :: l) s = posL l s + 1 := by show (if lt t.nm s then posL l s + 1 else 0) = _; rw [hlt]; rfl
      have hne := lt_ne hlt
      have he : (t.nm == s) = false := by simpa using hne
      have hw : ∀ n, withL (t :: l) s n = t :: withL l s n := fun n => by
        unfold withL
        rw [withR]
        unfold withP withQ
        rw [hlt, he]
        rfl
      rcases ih h2 with ⟨u, a1, a2, a3, a4, a5⟩ | ⟨a1, a2, a3⟩
      · refine .inl ⟨u, ?_, ?_, a3, ?_, fun n => ?_⟩
        · unfold isL at a1 ⊢; rw [hp, List.getElem?_cons_succ]; exact a1
        · rw [hp, List.getElem?_cons_succ]; exact a2
        · unfold numL; rw [he]; exact a4
        · rw [hw, a5, hp]; rfl
      · refine .inr ⟨?_, ?_, fun n => ?_⟩
        · unfold isL at a1 ⊢; rw [hp, List.getElem?_cons_succ]; exact a1
        · intro v hv
          rcases List.mem_cons.1 hv with rfl | hv
          · exact hne
          · exact a2 v hv
        · rw [hw, a3, hp]; rfl

theorem hasC_eq {l : List Tag} (h : Srt l) (s : List UInt8) : hasC l s = hasL l s := by
  unfold hasC hasL
  rcases plain h s with ⟨t, a1, a2, a3, a4, a5⟩ | ⟨a1, a2, a3⟩
  · rw [a2, a4, ← a3]; simp
  · rw [numL_none l s a2]
    unfold isL at a1
    cases hk : l[posL l s]? with
    | none => rfl
    | some t => rw [hk] at a1; simp only at a1 ⊢; rw [a1]; rfl

theorem more_eq {l : List Tag} (h : Srt l) (hn : ∀ t ∈ l, 1 ≤ t.n) (s : List UInt8) : moreL l s = (if refFull l s then [] else withL l s (numL l s + 1)) ∧ moreE l s = (if refFull l s then 15 else 0) := by
  have key : fullC l s = refFull l s ∧ (incC l s = withL l s (numL l s + 1)) := by
    rcases plain h s with ⟨t, a1, a2, a3, a4, a5⟩ | ⟨a1, a2, a3⟩
    · obtain ⟨t', b1, b2, b3, b4⟩ := isL_some a1
      rw [a2] at b1
      injection b1 with b1
      subst b1
      have h1 := hn t (List.mem_of_getElem? a2)
      refine ⟨?_, ?_⟩
      · rw [b3]; unfold refFull; rw [a4]
        have : (t.n == 0) = false := by simp; omega
        rw [this]; rfl
      · rw [b4, a5, a4, a3]
    · have hz := numL_none l s a2
      refine ⟨?_, ?_⟩
      · rw [fullC_new a1]; unfold refFull; rw [hz]; simp
      · rw [incC_new a1, a3, hz]; rfl
  unfold moreL moreE
  rw [key.1, key.2]
  exact ⟨rfl, rfl⟩

theorem make_eq {l : List Tag} (h : Srt l) (hn : ∀ t ∈ l, 1 ≤ t.n) (s : List UInt8) : rMakeL l s = makeL l s ∧ rMakeE l s = makeE l s := by
  unfold rMakeL makeL rMakeE makeE
  rw [hasC_eq h s, (more_eq h hn s).1, (more_eq h hn s).2]
  exact ⟨rfl, rfl⟩

theorem drop_eq {l : List Tag} (h : Srt l) (hn : ∀ t ∈ l, 1 ≤ t.n) (s : List UInt8) : rDropL l s = dropL l s ∧ rDropE l s = dropE l s := by
  unfold rDropL dropL rDropE dropE
  rw [hasC_eq h s, (more_eq h hn s).1, (more_eq h hn s).2]
  cases hh : hasL l s
  · exact ⟨rfl, rfl⟩
  · have hz : (numL l s == 0) = false := by
      unfold hasL at hh
      cases hz : (numL l s == 0)
      · rfl
      · have : numL l s = 0 := by simpa using hz
        rw [this] at hh; cases hh
    unfold refFull
    rw [hz]
    simp

/-! ### What 'made' makes is sorted. -/

def Good (l : List Tag) : Prop := Srt l ∧ ∀ t ∈ l, 1 ≤ t.n

theorem Srt.nil : Srt [] := List.Pairwise.nil
theorem Good.nil : Good [] := ⟨Srt.nil, fun _ h => by cases h⟩
theorem Good.take {l : List Tag} (h : Good l) (k : Nat) : Good (l.take k) := ⟨h.1.sublist (List.take_sublist k l), fun t ht => h.2 t (List.mem_of_mem_take ht)⟩

/-- All ahead of the place are below the name, what stands there and behind is not. -/
theorem posL_take (l : List Tag) (s : List UInt8) : ∀ u ∈ l.take (posL l s), lt u.nm s = true := by
  induction l with
  | nil => intro u hu; cases hu
  | cons t l ih =>
    cases hlt : lt t.nm s
    · have hp : posL (t :: l) s = 0 := by unfold posL; rw [hlt]; rfl
      rw [hp]; intro u hu; cases hu
    · have hp : posL (t :: l) s = posL l s + 1 := by show (if lt t.nm s then posL l s + 1 else 0) = _; rw [hlt]; rfl
      rw [hp, List.take_succ_cons]
      intro u hu
      rcases List.mem_cons.1 hu with rfl | hu
      · exact hlt
      · exact ih u hu
theorem posL_rest {l : List Tag} (h : Srt l) (s : List UInt8) : ∀ u ∈ l.drop (posL l s), lt u.nm s = false := by
  induction l with
  | nil => intro u hu; cases hu
  | cons t l ih =>
    obtain ⟨h1, h2⟩ := List.pairwise_cons.1 h
    cases hlt : lt t.nm s
    · have hp : posL (t :: l) s = 0 := by unfold posL; rw [hlt]; rfl
      rw [hp, List.drop_zero]
      intro u hu
      rcases List.mem_cons.1 hu with rfl | hu
      · exact hlt
      · cases hx : lt u.nm s
        · rfl
        · rw [lt_trans _ _ _ (h1 u hu) hx] at hlt; cases hlt
    · have hp : posL (t :: l) s = posL l s + 1 := by show (if lt t.nm s then posL l s + 1 else 0) = _; rw [hlt]; rfl
      rw [hp, List.drop_succ_cons]
      exact ih h2

theorem with_good {l : List Tag} (h : Good l) (s : List UInt8) (n : Int) (hn : 1 ≤ n) : Good (withL l s n) := by
  have hne : ∀ u v : Tag, u ∈ l → lt u.nm s = false → u.nm ≠ s → lt s u.nm = true := fun u v _ h1 h2 => by
    cases hx : lt s u.nm
    · exact absurd (lt_total _ _ h1 hx) h2
    · rfl
  rcases plain h.1 s with ⟨t, a1, a2, a3, a4, a5⟩ | ⟨a1, a2, a3⟩
  · rw [a5]
    refine ⟨?_, ?_⟩
    · have hm : (l.set (posL l s) ⟨s, n⟩).map (·.nm) = l.map (·.nm) := by
        rw [List.map_set]
        have : (l.map (·.nm))[posL l s]? = some s := by rw [List.getElem?_map, a2]; simp [a3]
        obtain ⟨hk, hv⟩ := List.getElem?_eq_some_iff.1 this
        have hq := List.set_getElem_self hk
        rw [hv] at hq
        exact hq
      have h2 : (l.map (·.nm)).Pairwise fun a b => lt a b = true := List.pairwise_map.2 h.1
      rw [← hm] at h2
      exact List.pairwise_map.1 h2
    · intro u hu
      rcases List.mem_or_eq_of_mem_set hu with hu | rfl
      · exact h.2 u hu
      · exact hn
  · rw [a3]
    have hs := h.1
    rw [← List.take_append_drop (posL l s) l] at hs
    obtain ⟨b1, b2, b3⟩ := List.pairwise_append.1 hs
    refine ⟨?_, ?_⟩
    · rw [List.append_assoc]
      refine List.pairwise_append.2 ⟨b1, List.pairwise_cons.2 ⟨fun u hu => ?_, b2⟩, fun u hu v hv => ?_⟩
      · exact hne u u (List.mem_of_mem_drop hu) (posL_rest h.1 s u hu) (a2 u (List.mem_of_mem_drop hu))
      · rcases List.mem_cons.1 hv with rfl | hv
        · exact posL_take l s u hu
        · exact b3 u hu v hv
    · intro u hu
      rcases List.mem_append.1 hu with hu | hu
      · rcases List.mem_append.1 hu with hu | hu
        · exact h.2 u (List.mem_of_mem_take hu)
        · rw [List.mem_singleton.1 hu]; exact hn
      · exact h.2 u (List.mem_of_mem_drop hu)

theorem rJoinF_good {l : List Tag} (h : Good l) (t : Tag) (ht : 1 ≤ t.n) : Good (rJoinF l t) := by
  unfold rJoinF; split
  · exact with_good h _ _ ht
  · exact h
theorem rJoinG_good {a b : List Tag} (h : Good a) (hb : ∀ t ∈ b, 1 ≤ t.n) : Good (rJoinG a b) := by
  unfold rJoinG
  induction b generalizing a with
  | nil => exact h
  | cons t b ih => exact ih (rJoinF_good h t (hb t List.mem_cons_self)) fun u hu => hb u (List.mem_cons_of_mem _ hu)
theorem rJoin_good {a b : List Tag} (h : Good a) (hb : ∀ t ∈ b, 1 ≤ t.n) : Good (rJoinL a b) := (rJoinG_good h hb).take 100
theorem madeG_good {a : List Tag} (h : Good a) (l : List Tag) : Good (madeG a l) := by
  unfold madeG
  induction l generalizing a with
  | nil => exact h
  | cons t l ih => exact ih (rJoin_good h fun u hu => by rw [List.mem_singleton.1 hu]; have := bit7_in t.n; show 1 ≤ 1 + bit7 t.n; omega)
theorem made_good (l : List Tag) : Good (madeL l) := madeG_good Good.nil _

theorem madeG_le (l a : List Tag) : (madeG a l).length ≤ a.length + l.length := by
  unfold madeG
  induction l generalizing a with
  | nil => exact Nat.le_refl _
  | cons t l ih =>
    have h1 := ih (rJoinL a [madeT t])
    have h2 : (rJoinL a [madeT t]).length ≤ a.length + 1 := by
      unfold rJoinL rJoinG
      rw [List.length_take]
      have := rJoinF_length a (madeT t)
      exact Nat.le_trans (Nat.min_le_right _ _) this
    rw [List.foldl_cons, List.length_cons]
    omega
theorem made_le (l : List Tag) : (madeL l).length ≤ 20 := by
  have := madeG_le (l.take 20) []
  unfold madeL
  simp at this ⊢
  omega

#print axioms make_eq
#print axioms drop_eq
#print axioms made_good
end Go.Proofs.Ytkfpnpfopinbkaa
