/-
  Plain: the number of a name, and how many queues there are, behind a make or a drop.
-/
import Derived.Test.YtkfpnpfopinbkaaCheck
import Derived.Test.YtkfpnpfopinbkaaChanges
namespace Go.Proofs.Ytkfpnpfopinbkaa
open Go.RowKit
set_option linter.unusedVariables false

theorem withL_lt {t : Tag} {l : List Tag} {s : List UInt8} {n : Int} (h : lt t.nm s = true) : withL (t :: l) s n = t :: withL l s n := by
  have he : (t.nm == s) = false := by simpa using lt_ne h
  unfold withL
  rw [withR]
  unfold withP withQ
  rw [h, he]
  rfl
theorem withL_eq {t : Tag} {l : List Tag} {s : List UInt8} {n : Int} (h : Srt (t :: l)) (he : t.nm = s) : withL (t :: l) s n = ⟨s, n⟩ :: l := by
  obtain ⟨h1, h2⟩ := List.pairwise_cons.1 h
  have hne : ∀ u ∈ l, u.nm ≠ s := fun u hu hus => by
    have := h1 u hu
    rw [hus, he, lt_irrefl] at this; cases this
  have he' : (t.nm == s) = true := by simpa using he
  have hlt : lt t.nm s = false := by rw [he]; exact lt_irrefl s
  unfold withL withR withP withQ
  rw [hlt, he']
  simp only [Bool.not_false, Bool.and_self, Bool.false_or]
  rw [withR_true l s n hne]
  rfl
theorem gt_rest {t : Tag} {l : List Tag} {s : List UInt8} (h : Srt (t :: l)) (hlt : lt t.nm s = false) (he : t.nm ≠ s) : ∀ u ∈ l, u.nm ≠ s := fun u hu hus => by
  obtain ⟨h1, h2⟩ := List.pairwise_cons.1 h
  have hgt : lt s t.nm = true := by
    cases hx : lt s t.nm
    · exact absurd (lt_total _ _ hlt hx) he
    · rfl
  have := lt_trans _ _ _ hgt (h1 u hu)
  rw [hus, lt_irrefl] at this; cases this
theorem withL_gt {t : Tag} {l : List Tag} {s : List UInt8} {n : Int} (h : Srt (t :: l)) (hlt : lt t.nm s = false) (he : t.nm ≠ s) : withL (t :: l) s n = ⟨s, n⟩ :: t :: l := by
  have hne := gt_rest h hlt he
  have he' : (t.nm == s) = false := by simpa using he
  unfold withL withR withP withQ
  rw [hlt, he']
  simp only [Bool.not_false, Bool.and_self, Bool.false_or]
  rw [withR_true l s n hne]
  rfl

theorem numL_cons (t : Tag) (l : List Tag) (r : List UInt8) : numL (t :: l) r = if t.nm == r then t.n else numL l r := rfl

theorem numL_with {l : List Tag} (h : Srt l) (s : List UInt8) (n : Int) (r : List UInt8) : numL (withL l s n) r = if s == r then n else numL l r := by
  induction l with
  | nil => rfl
  | cons t l ih =>
    have h2 := (List.pairwise_cons.1 h).2
    cases hlt : lt t.nm s
    · by_cases he : t.nm = s
      · rw [withL_eq h he, numL_cons, numL_cons, he]
        by_cases hr : s = r
        · simp [hr]
        · simp [hr]
      · rw [withL_gt h hlt he, numL_cons]
    · rw [withL_lt hlt, numL_cons, numL_cons, ih h2]
      by_cases hr : s = r
      · subst hr
        have := lt_ne hlt
        simp [this]
      · simp [hr]

def par (n : Int) : Nat := if n.tmod 2 == 1 then 1 else 0

theorem listL_cons_len (t : Tag) (l : List Tag) : (listL (t :: l)).length = par t.n + (listL l).length := by
  show ((if t.n.tmod 2 == 1 then [t.nm] else []) ++ listL l).length = _
  unfold par; split <;> simp [Nat.add_comm]

theorem count_with {l : List Tag} (h : Srt l) (s : List UInt8) (n : Int) : (listL (withL l s n)).length + par (numL l s) = (listL l).length + par n := by
  induction l with
  | nil =>
    show (listL [⟨s, n⟩]).length + 0 = 0 + par n
    rw [listL_cons_len]; simp [listL]
  | cons t l ih =>
    have h2 := (List.pairwise_cons.1 h).2
    cases hlt : lt t.nm s
    · by_cases he : t.nm = s
      · rw [withL_eq h he, numL_cons, he, listL_cons_len, listL_cons_len]
        simp; omega
      · rw [withL_gt h hlt he, numL_cons, listL_cons_len, numL_none l s (gt_rest h hlt he)]
        have : (t.nm == s) = false := by simpa using he
        rw [this]
        simp [par]; omega
    · rw [withL_lt hlt, numL_cons, listL_cons_len, listL_cons_len]
      have : (t.nm == s) = false := by simpa using lt_ne hlt
      have ih' := ih h2
      rw [this]
      simp only [Bool.false_eq_true, if_false]
      omega

theorem mem_withR {l : List Tag} {s : List UInt8} {n : Int} {put : Bool} {u : Tag} (h : u ∈ withR l s n put) : u ∈ l ∨ u = ⟨s, n⟩ := by
  induction l generalizing put with
  | nil => cases put <;> simp [withR] at h; exact .inr h
  | cons t l ih =>
    unfold withR at h
    rcases List.mem_append.1 h with h | h
    · unfold withP at h; split at h
      · exact .inr (List.mem_singleton.1 h)
      · cases h
    · rcases List.mem_append.1 h with h | h
      · unfold withQ at h; split at h
        · cases h
        · rw [List.mem_singleton.1 h]; exact .inl List.mem_cons_self
      · rcases ih h with h | h
        · exact .inl (List.mem_cons_of_mem _ h)
        · exact .inr h

theorem with_fine {l : List Tag} {b b' : Int} {s : List UInt8} {n : Int} (h : Fine b l) (hs : okName s = true) (h1 : 1 ≤ n) (h2 : n ≤ b') (hb : b ≤ b') : Fine b' (withL l s n) := by
  refine ⟨with_good h.1 s n h1, fun t ht => ?_⟩
  rcases mem_withR ht with ht | rfl
  · obtain ⟨e1, e2⟩ := h.2 t ht
    exact ⟨e1, by omega⟩
  · exact ⟨hs, h2⟩

theorem numL_le {l : List Tag} {b : Int} (h : ∀ t ∈ l, t.n ≤ b) (hb : 0 ≤ b) (s : List UInt8) : numL l s ≤ b := by
  induction l with
  | nil => exact hb
  | cons t l ih =>
    rw [numL_cons]; split
    · exact h t List.mem_cons_self
    · exact ih fun u hu => h u (List.mem_cons_of_mem _ hu)

theorem Fine.num {l : List Tag} {b : Int} (h : Fine b l) (hb : 0 ≤ b) (s : List UInt8) : 0 ≤ numL l s ∧ numL l s ≤ b :=
  ⟨numL_nonneg (fun t ht => by have := h.1.2 t ht; omega) s, numL_le (fun t ht => (h.2 t ht).2) hb s⟩

theorem name4_ok (s : List UInt8) : okName (sh (110 :: s) 4) = true := by
  unfold okName sh
  rw [List.take_succ_cons]
  simp
  omega

theorem rJoinF_fine {l : List Tag} {b : Int} {t : Tag} (h : Fine b l) (hs : okName t.nm = true) (h1 : 1 ≤ t.n) (h2 : t.n ≤ b) : Fine b (rJoinF l t) := by
  unfold rJoinF; split
  · exact with_fine h hs h1 h2 (Int.le_refl _)
  · exact h
theorem Fine.take {l : List Tag} {b : Int} (h : Fine b l) (k : Nat) : Fine b (l.take k) := ⟨h.1.take k, fun t ht => h.2 t (List.mem_of_mem_take ht)⟩
theorem rJoinG_fine {a c : List Tag} {b : Int} (h : Fine b a) (hc : ∀ t ∈ c, okName t.nm = true ∧ 1 ≤ t.n ∧ t.n ≤ b) : Fine b (rJoinG a c) := by
  unfold rJoinG
  induction c generalizing a with
  | nil => exact h
  | cons t c ih =>
    obtain ⟨e1, e2, e3⟩ := hc t List.mem_cons_self
    exact ih (rJoinF_fine h e1 e2 e3) fun u hu => hc u (List.mem_cons_of_mem _ hu)
theorem made_fine (l : List Tag) : Fine 8 (madeL l) := by
  unfold madeL madeG
  have : ∀ (l a : List Tag), Fine 8 a → Fine 8 (l.foldl (fun out t => rJoinL out [madeT t]) a) := by
    intro l
    induction l with
    | nil => exact fun a h => h
    | cons t l ih =>
      intro a h
      refine ih _ ((rJoinG_fine h fun u hu => ?_).take 100)
      rw [List.mem_singleton.1 hu]
      have := bit7_in t.n
      exact ⟨name4_ok _, by show 1 ≤ 1 + bit7 t.n; omega, by show 1 + bit7 t.n ≤ 8; omega⟩
  exact this _ _ ⟨Good.nil, fun _ h => by cases h⟩

/-- One turn: the name's number is one more. -/
def nextL (l : List Tag) (s : List UInt8) : List Tag := withL l s (numL l s + 1)

theorem more_next {l : List Tag} {b : Int} (h : Fine b l) (hb : b < 1048576) (hb0 : 0 ≤ b) (hl : l.length < 100) (s : List UInt8) : moreL l s = nextL l s ∧ moreE l s = 0 := by
  have hn := h.num hb0 s
  have hf : refFull l s = false := by
    unfold refFull
    have e1 : decide (100 ≤ l.length) = false := by simp; omega
    have e2 : decide (1048576 ≤ numL l s) = false := by simp; omega
    rw [e1, e2, Bool.and_false]; rfl
  obtain ⟨e1, e2⟩ := more_eq h.1.1 h.1.2 s
  rw [e1, e2, hf]
  exact ⟨rfl, rfl⟩
theorem make_next {l : List Tag} {b : Int} (h : Fine b l) (hb : b < 1048576) (hb0 : 0 ≤ b) (hl : l.length < 100) {s : List UInt8} (hs : okName s = true) (hh : hasC l s = false) : makeL l s = nextL l s ∧ makeE l s = 0 := by
  unfold makeL makeE
  rw [hs, hh, (more_next h hb hb0 hl s).1, (more_next h hb hb0 hl s).2]
  exact ⟨rfl, rfl⟩
theorem make_has {l : List Tag} {s : List UInt8} (hs : okName s = true) (hh : hasC l s = true) : makeL l s = [] ∧ makeE l s = 13 := by
  unfold makeL makeE
  rw [hs, hh]
  exact ⟨rfl, rfl⟩
theorem drop_next {l : List Tag} {b : Int} (h : Fine b l) (hb : b < 1048576) (hb0 : 0 ≤ b) (hl : l.length < 100) {s : List UInt8} (hh : hasC l s = true) : dropL l s = nextL l s ∧ dropE l s = 0 := by
  unfold dropL dropE
  rw [hh, (more_next h hb hb0 hl s).1, (more_next h hb hb0 hl s).2]
  exact ⟨rfl, rfl⟩
theorem next_fine {l : List Tag} {b : Int} (h : Fine b l) (hb0 : 0 ≤ b) {s : List UInt8} (hs : okName s = true) : Fine (b + 1) (nextL l s) := by
  have hn := h.num hb0 s
  exact with_fine h hs (by omega) (by omega) (by omega)
theorem next_num {l : List Tag} (h : Srt l) (s : List UInt8) : numL (nextL l s) s = numL l s + 1 := by
  unfold nextL; rw [numL_with h]; simp
theorem par_next {n : Int} (h : 0 ≤ n) : ((n + 1).tmod 2 == 1) = !(n.tmod 2 == 1) := by
  rw [Int.tmod_eq_emod_of_nonneg h, Int.tmod_eq_emod_of_nonneg (by omega)]
  rcases (show n % 2 = 0 ∨ n % 2 = 1 by omega) with h1 | h1
  · have : (n + 1) % 2 = 1 := by omega
    rw [h1, this]; rfl
  · have : (n + 1) % 2 = 0 := by omega
    rw [h1, this]; rfl
theorem next_has {l : List Tag} {b : Int} (h : Fine b l) (hb0 : 0 ≤ b) (s : List UInt8) (hs : okName s = true) : hasC (nextL l s) s = !hasC l s := by
  rw [hasC_eq (next_fine h hb0 hs).1.1, hasC_eq h.1.1]
  unfold hasL
  rw [next_num h.1.1, par_next (h.num hb0 s).1]
theorem next_count {l : List Tag} {b : Int} (h : Fine b l) (hb0 : 0 ≤ b) (s : List UInt8) : (listL (nextL l s)).length + (if hasC l s then 1 else 0) = (listL l).length + (if hasC l s then 0 else 1) := by
  have h1 := count_with h.1.1 s (numL l s + 1)
  rw [hasC_eq h.1.1]
  unfold hasL
  unfold par at h1
  rw [par_next (h.num hb0 s).1] at h1
  unfold nextL
  cases hc : (numL l s).tmod 2 == 1
  · rw [hc] at h1; simpa using h1
  · rw [hc] at h1; simpa using h1

#print axioms next_count
#print axioms made_fine
end Go.Proofs.Ytkfpnpfopinbkaa
