/-
  Plain: a join's numbers are the greater ones; a sorted catalogue is told by its numbers.
-/
import Derived.Test.YtkfpnpfopinbkaaJoin
namespace Go.Proofs.Ytkfpnpfopinbkaa
open Go.RowKit
set_option linter.unusedVariables false

/-- A sorted catalogue is told by its numbers. -/
theorem told_by {l m : List Tag} (hl : Good l) (hm : Good m) (h : ∀ s, numL l s = numL m s) : l = m := by
  induction l generalizing m with
  | nil => cases m with
    | nil => rfl
    | cons t m =>
      have := h t.nm
      rw [numL_cons] at this
      have h1 := hm.2 t List.mem_cons_self
      simp [numL] at this
      omega
  | cons t l ih => cases m with
    | nil =>
      have := h t.nm
      rw [numL_cons] at this
      have h1 := hl.2 t List.mem_cons_self
      simp [numL] at this
      omega
    | cons u m =>
      obtain ⟨a1, a2⟩ := List.pairwise_cons.1 hl.1
      obtain ⟨b1, b2⟩ := List.pairwise_cons.1 hm.1
      have ht := hl.2 t List.mem_cons_self
      have hu := hm.2 u List.mem_cons_self
      have hnm : t.nm = u.nm := by
        refine lt_total _ _ ?_ ?_
        · cases hx : lt t.nm u.nm
          · rfl
          · have := h t.nm
            rw [numL_cons, numL_none (u :: m) t.nm (fun v hv => by
              rcases List.mem_cons.1 hv with rfl | hv
              · exact (lt_ne hx).symm
              · exact (lt_ne (lt_trans _ _ _ hx (b1 v hv))).symm)] at this
            simp at this; omega
        · cases hx : lt u.nm t.nm
          · rfl
          · have := h u.nm
            rw [numL_cons u, numL_none (t :: l) u.nm (fun v hv => by
              rcases List.mem_cons.1 hv with rfl | hv
              · exact (lt_ne hx).symm
              · exact (lt_ne (lt_trans _ _ _ hx (a1 v hv))).symm)] at this
            simp at this; omega
      have hn : t.n = u.n := by
        have := h t.nm
        rw [numL_cons, numL_cons, hnm] at this
        simpa using this
      have htu : t = u := by cases t; cases u; simp_all
      subst htu
      congr 1
      refine ih ⟨a2, fun v hv => hl.2 v (List.mem_cons_of_mem _ hv)⟩ ⟨b2, fun v hv => hm.2 v (List.mem_cons_of_mem _ hv)⟩ fun s => ?_
      by_cases hs : t.nm = s
      · subst hs
        rw [numL_none l _ (fun v hv => (lt_ne (a1 v hv)).symm), numL_none m _ (fun v hv => (lt_ne (b1 v hv)).symm)]
      · have := h s
        rw [numL_cons, numL_cons] at this
        simpa [hs] using this

theorem merge_left_all (a : List Tag) : mergeL a [] = a := by
  induction a with
  | nil => exact merge_nil
  | cons s a ih => rw [merge_left, ih]
theorem merge_right_all (b : List Tag) : mergeL [] b = b := by
  induction b with
  | nil => exact merge_nil
  | cons s a ih => rw [merge_right, ih]

/-- The names of a merge. -/
theorem merge_mem (P : Tag → Prop) (hP : ∀ s t : Tag, P s → P t → P ⟨s.nm, max s.n t.n⟩) : ∀ (n : Nat) (a b : List Tag), a.length + b.length ≤ n → (∀ t ∈ a, P t) → (∀ t ∈ b, P t) → ∀ t ∈ mergeL a b, P t
  | n, [], b, _, _, hb => by rw [merge_right_all]; exact hb
  | n, s :: a, [], _, ha, _ => by rw [merge_left_all]; exact ha
  | 0, s :: a, t :: b, hn, _, _ => by simp at hn
  | n + 1, s :: a, t :: b, hn, ha, hb => by
    simp only [List.length_cons] at hn
    rw [merge_both]
    have hs := ha s List.mem_cons_self
    have ht := hb t List.mem_cons_self
    have ha' : ∀ t ∈ a, P t := fun u hu => ha u (List.mem_cons_of_mem _ hu)
    have hb' : ∀ t ∈ b, P t := fun u hu => hb u (List.mem_cons_of_mem _ hu)
    split
    · intro u hu
      rcases List.mem_cons.1 hu with rfl | hu
      · exact hs
      · exact merge_mem P hP n a (t :: b) (by simp only [List.length_cons]; omega) ha' hb u hu
    · split
      · intro u hu
        rcases List.mem_cons.1 hu with rfl | hu
        · exact hP s t hs ht
        · exact merge_mem P hP n a b (by omega) ha' hb' u hu
      · intro u hu
        rcases List.mem_cons.1 hu with rfl | hu
        · exact ht
        · exact merge_mem P hP n (s :: a) b (by simp only [List.length_cons]; omega) ha hb' u hu

theorem merge_srt : ∀ (n : Nat) (a b : List Tag), a.length + b.length ≤ n → Srt a → Srt b → Srt (mergeL a b)
  | n, [], b, _, _, hb => by rw [merge_right_all]; exact hb
  | n, s :: a, [], _, ha, _ => by rw [merge_left_all]; exact ha
  | 0, s :: a, t :: b, hn, _, _ => by simp at hn
  | n + 1, s :: a, t :: b, hn, ha, hb => by
    simp only [List.length_cons] at hn
    rw [merge_both]
    obtain ⟨a1, a2⟩ := List.pairwise_cons.1 ha
    obtain ⟨b1, b2⟩ := List.pairwise_cons.1 hb
    split
    · rename_i hlt
      refine List.pairwise_cons.2 ⟨?_, merge_srt n a (t :: b) (by simp only [List.length_cons]; omega) a2 hb⟩
      refine merge_mem (fun u => lt s.nm u.nm = true) (fun _ _ h _ => h) _ _ _ (Nat.le_refl _) a1 fun u hu => ?_
      rcases List.mem_cons.1 hu with rfl | hu
      · exact hlt
      · exact lt_trans _ _ _ hlt (b1 u hu)
    · rename_i hlt
      split
      · rename_i he
        have he : s.nm = t.nm := by simpa using he
        refine List.pairwise_cons.2 ⟨?_, merge_srt n a b (by omega) a2 b2⟩
        exact merge_mem (fun u => lt s.nm u.nm = true) (fun _ _ h _ => h) _ _ _ (Nat.le_refl _) a1 fun u hu => by rw [he]; exact b1 u hu
      · rename_i he
        have hgt : lt t.nm s.nm = true := by
          cases hx : lt t.nm s.nm
          · exact absurd (by simpa using lt_total _ _ (by simpa using hlt) hx) he
          · rfl
        refine List.pairwise_cons.2 ⟨?_, merge_srt n (s :: a) b (by simp only [List.length_cons]; omega) ha b2⟩
        refine merge_mem (fun u => lt t.nm u.nm = true) (fun _ _ h _ => h) _ _ _ (Nat.le_refl _) (fun u hu => ?_) b1
        rcases List.mem_cons.1 hu with rfl | hu
        · exact hgt
        · exact lt_trans _ _ _ hgt (a1 u hu)

theorem num_merge (r : List UInt8) : ∀ (n : Nat) (a b : List Tag), a.length + b.length ≤ n → Good a → Good b → numL (mergeL a b) r = max (numL a r) (numL b r)
  | n, [], b, _, _, hb => by
    rw [merge_right_all]
    have := numL_nonneg (fun t ht => by have := hb.2 t ht; omega) r
    show numL b r = max 0 (numL b r); omega
  | n, s :: a, [], _, ha, _ => by
    rw [merge_left_all]
    have := numL_nonneg (fun t ht => by have := ha.2 t ht; omega) r
    show numL (s :: a) r = max (numL (s :: a) r) 0; omega
  | 0, s :: a, t :: b, hn, _, _ => by simp at hn
  | n + 1, s :: a, t :: b, hn, ha, hb => by
    simp only [List.length_cons] at hn
    rw [merge_both]
    obtain ⟨a1, a2⟩ := List.pairwise_cons.1 ha.1
    obtain ⟨b1, b2⟩ := List.pairwise_cons.1 hb.1
    have ha' : Good a := ⟨a2, fun v hv => ha.2 v (List.mem_cons_of_mem _ hv)⟩
    have hb' : Good b := ⟨b2, fun v hv => hb.2 v (List.mem_cons_of_mem _ hv)⟩
    have hs := ha.2 s List.mem_cons_self
    have ht := hb.2 t List.mem_cons_self
    split
    · rename_i hlt
      rw [numL_cons, numL_cons, num_merge r n a (t :: b) (by simp only [List.length_cons]; omega) ha' hb]
      by_cases hr : s.nm = r
      · subst hr
        rw [numL_none (t :: b) s.nm (fun u hu => by
          rcases List.mem_cons.1 hu with rfl | hu
          · exact (lt_ne hlt).symm
          · exact (lt_ne (lt_trans _ _ _ hlt (b1 u hu))).symm)]
        simp; omega
      · simp [hr]
    · rename_i hlt
      split
      · rename_i he
        have he : s.nm = t.nm := by simpa using he
        rw [numL_cons, numL_cons, numL_cons, num_merge r n a b (by omega) ha' hb']
        by_cases hr : s.nm = r
        · rw [← he]; simp [hr]
        · rw [← he]; simp [hr]
      · rename_i he
        have hgt : lt t.nm s.nm = true := by
          cases hx : lt t.nm s.nm
          · exact absurd (by simpa using lt_total _ _ (by simpa using hlt) hx) he
          · rfl
        rw [numL_cons, numL_cons t, num_merge r n (s :: a) b (by simp only [List.length_cons]; omega) ha hb']
        by_cases hr : t.nm = r
        · subst hr
          rw [numL_none (s :: a) t.nm (fun u hu => by
            rcases List.mem_cons.1 hu with rfl | hu
            · exact (lt_ne hgt).symm
            · exact (lt_ne (lt_trans _ _ _ hgt (a1 u hu))).symm)]
          simp; omega
        · simp [hr]

theorem merge_length : ∀ (n : Nat) (a b : List Tag), a.length + b.length ≤ n → (mergeL a b).length ≤ a.length + b.length
  | n, [], b, _ => by rw [merge_right_all]; simp
  | n, s :: a, [], _ => by rw [merge_left_all]; simp
  | 0, s :: a, t :: b, hn => by simp at hn
  | n + 1, s :: a, t :: b, hn => by
    simp only [List.length_cons] at hn
    rw [merge_both]
    split
    · have := merge_length n a (t :: b) (by simp only [List.length_cons]; omega)
      simp only [List.length_cons] at this ⊢; omega
    · split
      · have := merge_length n a b (by omega)
        simp only [List.length_cons]; omega
      · have := merge_length n (s :: a) b (by simp only [List.length_cons]; omega)
        simp only [List.length_cons] at this ⊢; omega

theorem join_eq {a b : List Tag} (h : a.length + b.length ≤ 100) : joinL a b = mergeL a b := by
  unfold joinL
  exact List.take_of_length_le (by have := merge_length _ a b (Nat.le_refl _); omega)
theorem join_len (a b : List Tag) : (joinL a b).length ≤ a.length + b.length := by
  have := merge_length _ a b (Nat.le_refl _)
  unfold joinL; rw [List.length_take]; omega
theorem join_fine {a b : List Tag} {k : Int} (ha : Fine k a) (hb : Fine k b) : Fine k (joinL a b) := by
  refine Fine.take ⟨⟨merge_srt _ _ _ (Nat.le_refl _) ha.1.1 hb.1.1, merge_mem (fun t => 1 ≤ t.n) (fun s t h1 h2 => by show 1 ≤ max s.n t.n; omega) _ _ _ (Nat.le_refl _) ha.1.2 hb.1.2⟩, ?_⟩ 100
  exact merge_mem (fun t => okName t.nm = true ∧ t.n ≤ k) (fun s t h1 h2 => ⟨h1.1, by have := h1.2; have := h2.2; show max s.n t.n ≤ k; omega⟩) _ _ _ (Nat.le_refl _) ha.2 hb.2
theorem num_join {a b : List Tag} {k : Int} (ha : Fine k a) (hb : Fine k b) (h : a.length + b.length ≤ 100) (r : List UInt8) : numL (joinL a b) r = max (numL a r) (numL b r) := by
  rw [join_eq h]; exact num_merge r _ a b (Nat.le_refl _) ha.1 hb.1

theorem num_rJoinF {l : List Tag} (h : Good l) (t : Tag) (ht : 1 ≤ t.n) (r : List UInt8) : numL (rJoinF l t) r = max (numL l r) (numL [t] r) := by
  have h0 := numL_nonneg (fun u hu => by have := h.2 u hu; omega) r
  unfold rJoinF
  split
  · rename_i hc
    have hc : numL l t.nm < t.n := by simpa using hc
    rw [numL_with h.1, numL_cons]
    by_cases hr : t.nm = r
    · subst hr; simp; omega
    · simp [hr, numL]; omega
  · rename_i hc
    have hc : t.n ≤ numL l t.nm := by simpa using hc
    rw [numL_cons]
    by_cases hr : t.nm = r
    · subst hr; simp; omega
    · simp [hr, numL]; omega
theorem num_rJoin (r : List UInt8) : ∀ {a b : List Tag}, Good a → Good b → numL (rJoinG a b) r = max (numL a r) (numL b r)
  | a, [], ha, _ => by
    have := numL_nonneg (fun t ht => by have := ha.2 t ht; omega) r
    show numL a r = max (numL a r) 0; omega
  | a, t :: b, ha, hb => by
    obtain ⟨b1, b2⟩ := List.pairwise_cons.1 hb.1
    have ht := hb.2 t List.mem_cons_self
    have hb' : Good b := ⟨b2, fun v hv => hb.2 v (List.mem_cons_of_mem _ hv)⟩
    show numL (rJoinG (rJoinF a t) b) r = _
    rw [num_rJoin r (rJoinF_good ha t ht) hb', num_rJoinF ha t ht, numL_cons]
    have h0 := numL_nonneg (fun t ht => by have := hb'.2 t ht; omega) r
    by_cases hr : t.nm = r
    · subst hr
      rw [numL_none b _ (fun u hu => (lt_ne (b1 u hu)).symm)]
      simp [numL]; omega
    · simp [hr, numL]; omega
theorem rJoinG_length (a b : List Tag) : (rJoinG a b).length ≤ a.length + b.length := by
  induction b generalizing a with
  | nil => exact Nat.le_refl _
  | cons t b ih =>
    have h1 := ih (rJoinF a t)
    have h2 := rJoinF_length a t
    show (rJoinG (rJoinF a t) b).length ≤ _
    simp only [List.length_cons]; omega

/-- The document's join is the code's. -/
theorem rJoin_eq {a b : List Tag} {k : Int} (ha : Fine k a) (hb : Fine k b) (h : a.length + b.length ≤ 100) : rJoinL a b = joinL a b := by
  have e : rJoinL a b = rJoinG a b := by
    unfold rJoinL
    exact List.take_of_length_le (by have := rJoinG_length a b; omega)
  rw [e]
  exact told_by (rJoinG_good ha.1 hb.1.2) (join_fine ha hb).1 fun s => by rw [num_rJoin s ha.1 hb.1, num_join ha hb h]
theorem join_comm {a b : List Tag} {k : Int} (ha : Fine k a) (hb : Fine k b) (h : a.length + b.length ≤ 100) : joinL b a = joinL a b :=
  told_by (join_fine hb ha).1 (join_fine ha hb).1 fun s => by rw [num_join hb ha (by omega), num_join ha hb h]; omega
theorem join_self {a : List Tag} {k : Int} (ha : Fine k a) (h : a.length + a.length ≤ 100) : joinL a a = a :=
  told_by (join_fine ha ha).1 ha.1 fun s => by rw [num_join ha ha h]; omega
theorem join_assoc {a b c : List Tag} {k : Int} (ha : Fine k a) (hb : Fine k b) (hc : Fine k c) (h : a.length + b.length + c.length ≤ 100) : joinL (joinL a b) c = joinL a (joinL b c) := by
  have l1 := join_len a b
  have l2 := join_len b c
  exact told_by (join_fine (join_fine ha hb) hc).1 (join_fine ha (join_fine hb hc)).1 fun s => by
    rw [num_join (join_fine ha hb) hc (by omega), num_join ha hb (by omega), num_join ha (join_fine hb hc) (by omega), num_join hb hc (by omega)]; omega

#print axioms rJoin_eq
#print axioms join_assoc
end Go.Proofs.Ytkfpnpfopinbkaa
