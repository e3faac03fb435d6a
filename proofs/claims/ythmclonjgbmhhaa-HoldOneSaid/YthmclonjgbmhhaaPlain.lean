/-
  Promises, plain: rows in order.
-/
import Derived.Test.YthmclonjgbmhhaaAwake
namespace Go.Proofs.Ythmclonjgbmhhaa
open Go.RowKit
set_option linter.unusedVariables false

theorem dlt_iff (a b : Dot) : dlt a b = true ↔ a.nd < b.nd ∨ a.nd = b.nd ∧ a.n < b.n := by unfold dlt; simp
theorem dlt_not (a b : Dot) : dlt a b = false ↔ ¬ (a.nd < b.nd ∨ a.nd = b.nd ∧ a.n < b.n) := by rw [← dlt_iff, Bool.not_eq_true]
theorem deq_iff' (a b : Dot) : deq a b = true ↔ a.nd = b.nd ∧ a.n = b.n := by unfold deq; simp
theorem deq_not (a b : Dot) : deq a b = false ↔ ¬ (a.nd = b.nd ∧ a.n = b.n) := by rw [← deq_iff', Bool.not_eq_true]
theorem dlt_trans {a b c : Dot} (h1 : dlt a b = true) (h2 : dlt b c = true) : dlt a c = true := by rw [dlt_iff] at *; omega
theorem dlt_self (a : Dot) : dlt a a = false := by rw [dlt_not]; omega
theorem dlt_asym {a b : Dot} (h : dlt a b = true) : dlt b a = false := by rw [dlt_iff] at h; rw [dlt_not]; omega
theorem dlt_deq {a b : Dot} (h : dlt a b = true) : deq a b = false := by rw [dlt_iff] at h; rw [deq_not]; omega
theorem dlt_deq' {a b : Dot} (h : dlt a b = true) : deq b a = false := by rw [dlt_iff] at h; rw [deq_not]; omega
theorem dlt_tri {a b : Dot} (h1 : dlt a b = false) (h2 : deq a b = false) : dlt b a = true := by rw [dlt_not] at h1; rw [deq_not] at h2; rw [dlt_iff]; omega
theorem deq_comm (a b : Dot) : deq a b = deq b a := by rw [Bool.eq_iff_iff, deq_iff', deq_iff']; omega
theorem deq_self (a : Dot) : deq a a = true := by rw [deq_iff]

theorem Srt.tail {a : Hold} {l : List Hold} (h : Srt (a :: l)) : Srt l := (List.pairwise_cons.1 h).2
theorem Srt.head {a : Hold} {l : List Hold} (h : Srt (a :: l)) : ∀ b ∈ l, dlt a.d b.d = true := (List.pairwise_cons.1 h).1
theorem Srt.cons {a : Hold} {l : List Hold} (h1 : ∀ b ∈ l, dlt a.d b.d = true) (h2 : Srt l) : Srt (a :: l) := List.pairwise_cons.2 ⟨h1, h2⟩

/-- d lies ahead of all. -/
def Ahead (d : Dot) (l : List Hold) : Prop := ∀ b ∈ l, dlt d b.d = true
theorem Ahead.find {d : Dot} {l : List Hold} (h : Ahead d l) : findR l d = none := by
  induction l with
  | nil => rfl
  | cons a l ih =>
    unfold findR
    rw [dlt_deq' (h a List.mem_cons_self), ih fun b hb => h b (List.mem_cons_of_mem _ hb)]; rfl
theorem Ahead.gone {d : Dot} {l : List Hold} (h : Ahead d l) : goneL l d = l := by
  unfold goneL
  rw [List.filter_eq_self]
  intro a ha
  rw [dlt_deq' (h a ha)]; rfl
theorem Ahead.free {d : Dot} {l : List Hold} (h : Ahead d l) (r : Int) : freeL l d r = l := by
  unfold freeL
  rw [List.filter_eq_self]
  intro a ha
  rw [dlt_deq' (h a ha)]; rfl
theorem Ahead.of {d e : Dot} {l : List Hold} (h : Ahead e l) (hd : dlt d e = true) : Ahead d l := fun b hb => dlt_trans hd (h b hb)
theorem Ahead.same {d e : Dot} {l : List Hold} (h : Ahead e l) (hd : deq e d = true) : Ahead d l := by rw [deq_iff] at hd; exact hd ▸ h

theorem putR_true (l : List Hold) (h : Hold) : putR l h true = l := by
  induction l with
  | nil => rfl
  | cons a l ih => unfold putR; simp [ih]
theorem putR_ahead {l : List Hold} {h : Hold} (ha : Ahead h.d l) : putR l h false = h :: l := by
  cases l with
  | nil => rfl
  | cons a l =>
    unfold putR
    rw [ha a List.mem_cons_self, Bool.or_true, putR_true]; rfl

theorem pos_cons (a : Hold) (l : List Hold) (d : Dot) : pos (a :: l) d = if dlt a.d d then pos l d + 1 else 0 := by
  unfold pos
  rw [idx]
  cases dlt a.d d <;> rfl
theorem isC_cons (a : Hold) (l : List Hold) (d : Dot) : isC (a :: l) d = if dlt a.d d then isC l d else deq a.d d := by
  unfold isC
  rw [pos_cons]
  cases h : dlt a.d d <;> simp
theorem findC_cons (a : Hold) (l : List Hold) (d : Dot) : findC (a :: l) d = if dlt a.d d then findC l d else if deq a.d d then some a else none := by
  unfold findC
  rw [isC_cons, pos_cons]
  cases h : dlt a.d d <;> simp
theorem putC_nil (d : Dot) (h : Hold) : putC [] d h = [h] := rfl
theorem putC_cons (a : Hold) (l : List Hold) (d : Dot) (h : Hold) : putC (a :: l) d h = if dlt a.d d then a :: putC l d h else if deq a.d d then h :: l else h :: a :: l := by
  unfold putC
  rw [isC_cons, pos_cons]
  cases h1 : dlt a.d d
  · cases h2 : deq a.d d <;> simp
  · cases h2 : isC l d <;> simp

theorem find_eq {l : List Hold} (hs : Srt l) (d : Dot) : findC l d = findR l d := by
  induction l with
  | nil => rfl
  | cons a l ih =>
    rw [findC_cons]
    unfold findR
    cases h1 : dlt a.d d
    · cases h2 : deq a.d d
      · have := (show Ahead a.d l from hs.head).of (dlt_tri h1 h2)
        simp [this.find]
      · simp
    · rw [dlt_deq h1, ih hs.tail]; simp

theorem put_eq {l : List Hold} (hs : Srt l) (h : Hold) : putC l h.d h = putR (goneL l h.d) h false := by
  induction l with
  | nil => rfl
  | cons a l ih =>
    rw [putC_cons]
    have hg : goneL (a :: l) h.d = if deq a.d h.d then goneL l h.d else a :: goneL l h.d := by
      unfold goneL; rw [List.filter_cons]; cases deq a.d h.d <;> rfl
    rw [hg]
    have hA : Ahead a.d l := hs.head
    cases h1 : dlt a.d h.d
    · cases h2 : deq a.d h.d
      · have hlt := dlt_tri h1 h2
        have := hA.of hlt
        simp only [Bool.false_eq_true, if_false, this.gone]
        rw [putR_ahead (l := a :: l) (fun b hb => by
          rcases List.mem_cons.1 hb with rfl | hb
          · exact hlt
          · exact this b hb)]
      · have := hA.same h2
        simp only [Bool.false_eq_true, if_false, if_true, this.gone]
        rw [putR_ahead this]
    · rw [dlt_deq h1]
      simp only [Bool.false_eq_true, if_false, if_true]
      rw [ih hs.tail]
      conv => rhs; unfold putR
      rw [dlt_asym h1]; simp

theorem free_eq {l : List Hold} (hs : Srt l) (d : Dot) (r : Int) : freeL l d r = freeR l d r := by
  induction l with
  | nil => rfl
  | cons a l ih =>
    have hA : Ahead a.d l := hs.head
    have hf : freeL (a :: l) d r = if (deq a.d d && a.rc == r) then freeL l d r else a :: freeL l d r := by
      unfold freeL; rw [List.filter_cons]; cases (deq a.d d && a.rc == r) <;> rfl
    have hg : goneL (a :: l) d = if deq a.d d then goneL l d else a :: goneL l d := by
      unfold goneL; rw [List.filter_cons]; cases deq a.d d <;> rfl
    rw [hf]
    unfold freeR findR
    cases h2 : deq a.d d
    · rw [ih hs.tail]
      unfold freeR
      simp only [Bool.false_and, Bool.false_eq_true, if_false]
      cases findR l d with
      | none => rfl
      | some h => simp only; rw [hg, h2]; split <;> rfl
    · have hd := hA.same h2
      simp only [Bool.true_and, if_true, hd.free]
      rw [hg, h2]
      simp only [if_true, hd.gone]

/-! ### What a row tells of a message -/

theorem mem_putC {l : List Hold} {d : Dot} {h x : Hold} (hx : x ∈ putC l d h) : x = h ∨ x ∈ l := by
  induction l with
  | nil => rw [putC_nil] at hx; simpa using hx
  | cons a l ih =>
    rw [putC_cons] at hx
    split at hx
    · rcases List.mem_cons.1 hx with rfl | hx
      · exact .inr List.mem_cons_self
      · rcases ih hx with rfl | h2
        · exact .inl rfl
        · exact .inr (List.mem_cons_of_mem _ h2)
    · split at hx
      · rcases List.mem_cons.1 hx with rfl | hx
        · exact .inl rfl
        · exact .inr (List.mem_cons_of_mem _ hx)
      · rcases List.mem_cons.1 hx with rfl | hx
        · exact .inl rfl
        · exact .inr hx
theorem srt_put {l : List Hold} (hs : Srt l) (h : Hold) : Srt (putC l h.d h) := by
  induction l with
  | nil => rw [putC_nil]; exact Srt.cons (fun _ hb => by cases hb) List.Pairwise.nil
  | cons a l ih =>
    have hA : Ahead a.d l := hs.head
    rw [putC_cons]
    cases h1 : dlt a.d h.d
    · cases h2 : deq a.d h.d
      · have hlt := dlt_tri h1 h2
        simp only [Bool.false_eq_true, if_false]
        exact Srt.cons (fun b hb => by
          rcases List.mem_cons.1 hb with rfl | hb
          · exact hlt
          · exact hA.of hlt b hb) hs
      · simp only [Bool.false_eq_true, if_false, if_true]
        exact Srt.cons (hA.same h2) hs.tail
    · simp only [if_true]
      exact Srt.cons (fun b hb => by
        rcases mem_putC hb with rfl | hb
        · exact h1
        · exact hA b hb) (ih hs.tail)
theorem srt_filter {l : List Hold} (hs : Srt l) (p : Hold → Bool) : Srt (l.filter p) := List.Pairwise.sublist List.filter_sublist hs

theorem find_put {l : List Hold} (hs : Srt l) (h : Hold) (d : Dot) : findR (putC l h.d h) d = if deq h.d d then some h else findR l d := by
  induction l with
  | nil => rw [putC_nil]; unfold findR; cases deq h.d d <;> rfl
  | cons a l ih =>
    have hA : Ahead a.d l := hs.head
    rw [putC_cons]
    cases h1 : dlt a.d h.d
    · cases h2 : deq a.d h.d
      · simp only [Bool.false_eq_true, if_false]
        conv => lhs; unfold findR
      · simp only [Bool.false_eq_true, if_false, if_true]
        conv => lhs; unfold findR
        conv => rhs; unfold findR
        rw [deq_iff] at h2
        rw [h2]
        cases deq h.d d <;> rfl
    · simp only [if_true]
      conv => lhs; unfold findR
      conv => rhs; unfold findR
      rw [ih hs.tail]
      cases h3 : deq a.d d
      · rfl
      · rw [deq_iff] at h3
        rw [← h3, dlt_deq' h1]; rfl

theorem find_filter {l : List Hold} (hs : Srt l) (p : Hold → Bool) (d : Dot) : findR (l.filter p) d = (findR l d).filter p := by
  induction l with
  | nil => rfl
  | cons a l ih =>
    have hA : Ahead a.d l := hs.head
    rw [List.filter_cons]
    conv => rhs; unfold findR
    cases h1 : p a
    · simp only [Bool.false_eq_true, if_false]
      rw [ih hs.tail]
      cases h2 : deq a.d d
      · rfl
      · rw [(hA.same h2).find]; simp only [if_true]; rw [Option.filter_some, h1]; rfl
    · simp only [if_true]
      conv => lhs; unfold findR
      rw [ih hs.tail]
      cases h2 : deq a.d d
      · rfl
      · simp only [if_true]; rw [Option.filter_some, h1]; rfl

theorem find_some {l : List Hold} {d : Dot} {h : Hold} (hf : findR l d = some h) : h ∈ l ∧ h.d = d := by
  induction l with
  | nil => cases hf
  | cons a l ih =>
    unfold findR at hf
    cases h2 : deq a.d d
    · rw [h2] at hf
      obtain ⟨h3, h4⟩ := ih hf
      exact ⟨List.mem_cons_of_mem _ h3, h4⟩
    · rw [h2] at hf
      simp at hf
      subst hf
      exact ⟨List.mem_cons_self, (deq_iff _ _).1 h2⟩
theorem find_mem {l : List Hold} (hs : Srt l) {h : Hold} (hm : h ∈ l) : findR l h.d = some h := by
  induction l with
  | nil => cases hm
  | cons a l ih =>
    unfold findR
    rcases List.mem_cons.1 hm with rfl | hm
    · rw [deq_self]; rfl
    · rw [dlt_deq (hs.head h hm)]
      exact ih hs.tail hm

theorem find_gone {l : List Hold} (hs : Srt l) (d e : Dot) : findR (goneL l d) e = if deq d e then none else findR l e := by
  unfold goneL
  rw [find_filter hs]
  cases hf : findR l e with
  | none => simp
  | some h =>
    obtain ⟨-, rfl⟩ := find_some hf
    rw [deq_comm d h.d]
    cases h1 : deq h.d d <;> simp [h1]
theorem find_free {l : List Hold} (hs : Srt l) (d : Dot) (r : Int) (e : Dot) : findR (freeL l d r) e = match findR l e with | some h => if deq d e && h.rc == r then none else some h | none => none := by
  unfold freeL
  rw [find_filter hs]
  cases hf : findR l e with
  | none => rfl
  | some h =>
    obtain ⟨-, rfl⟩ := find_some hf
    simp only
    rw [deq_comm d h.d]
    cases h1 : (deq h.d d && h.rc == r)
    · rw [Option.filter_some, h1]; rfl
    · rw [Option.filter_some, h1]; rfl
theorem find_sweep {l : List Hold} (hs : Srt l) (now : Int) (e : Dot) : findR (sweepL l now) e = match findR l e with | some h => if now < h.un then some h else none | none => none := by
  unfold sweepL
  rw [find_filter hs]
  cases hf : findR l e with
  | none => rfl
  | some h => simp [Option.filter_some]

theorem isC_find {l : List Hold} (hs : Srt l) (d : Dot) : isC l d = (findR l d).isSome := by
  rw [← find_eq hs]
  unfold findC
  cases h : isC l d
  · rfl
  · obtain ⟨t, h1, -, h3⟩ := isC_some h
    rw [h1]; rfl
theorem put_length {l : List Hold} (d : Dot) (h : Hold) : (putC l d h).length = if isC l d then l.length else l.length + 1 := by
  unfold putC
  cases hI : isC l d
  · have := idx_le (fun t => !dlt t.d d) l
    simp; unfold pos; omega
  · simp

theorem grantE_eq {l : List Hold} (hs : Srt l) (now : Int) (d : Dot) (r u : Int) : grantCE l now d r u = grantE l now d r u := by
  unfold grantCE grantE
  rw [find_eq hs]
  rfl
theorem grant_eq {l : List Hold} (hs : Srt l) (now : Int) (d : Dot) (r u : Int) : grantC l now d r u = grantR l now d r u := by
  unfold grantC grantR
  rw [grantE_eq hs, find_eq hs, put_eq hs ⟨d, r, untilR (findR l d) now r u⟩]

theorem grantE_zero {l : List Hold} {now : Int} {d : Dot} {r u : Int} (h : grantE l now d r u = 0) : okArg d r = true ∧ okTime now u = true := by
  unfold grantE at h
  cases h1 : okArg d r
  · rw [h1] at h; simp at h
  · cases h2 : okTime now u
    · rw [h1, h2] at h; simp at h
    · exact ⟨rfl, rfl⟩
theorem until_good {l : List Hold} (hf : ∀ t ∈ l, Good t) {now : Int} {d : Dot} {r u : Int} (h2 : okTime now u = true) : okT (untilR (findR l d) now r u) = true := by
  have hu : okT u = true := by unfold okTime at h2; simp at h2; exact h2.2
  unfold untilR
  cases h : findR l d with
  | none => exact hu
  | some t =>
    simp only
    split
    · exact (hf t (find_some h).1).2.2
    · exact hu
theorem fine_grant {l : List Hold} (hf : Fine l) (now : Int) (d : Dot) (r u : Int) : Fine (grantC l now d r u) := by
  unfold grantC
  split
  · rename_i h
    rw [grantE_eq hf.1] at h
    obtain ⟨h1, h2⟩ := grantE_zero h
    rw [find_eq hf.1]
    refine ⟨srt_put hf.1 ⟨d, r, untilR (findR l d) now r u⟩, fun t ht => ?_⟩
    rcases mem_putC ht with rfl | ht
    · unfold okArg at h1
      simp at h1
      exact ⟨h1.1, h1.2, until_good hf.2 h2⟩
    · exact hf.2 t ht
  · exact ⟨List.Pairwise.nil, fun t ht => by cases ht⟩
theorem fine_filter {l : List Hold} (hf : Fine l) (p : Hold → Bool) : Fine (l.filter p) := ⟨srt_filter hf.1 p, fun t ht => hf.2 t (List.mem_filter.1 ht).1⟩
theorem fine_nil : Fine [] := ⟨List.Pairwise.nil, fun t ht => by cases ht⟩

theorem step_fine {out : List Hold} (hf : Fine out) (t : Hold) : Fine (stepL out t) := by
  unfold stepL
  split
  · rw [← grant_eq hf.1]; exact fine_grant hf _ _ _ _
  · exact hf
theorem made_fine (l : List Hold) : Fine (madeL l) := by
  unfold madeL madeG
  generalize l.take 12 = m
  have key : ∀ (m : List Hold) (out : List Hold), Fine out → Fine (m.foldl stepL out) := by
    intro m
    induction m with
    | nil => intro out h; exact h
    | cons t m ih => intro out h; exact ih _ (step_fine h t)
  exact key m [] fine_nil
theorem made_len (l : List Hold) : (madeL l).length ≤ 12 := by
  unfold madeL madeG
  have key : ∀ (m : List Hold) (out : List Hold), (m.foldl stepL out).length ≤ out.length + m.length := by
    intro m
    induction m with
    | nil => intro out; simp
    | cons t m ih => intro out; have := ih (stepL out t); have := stepL_le out t; simp; omega
  have := key (l.take 12) []
  simp at this ⊢
  omega

#print axioms grant_eq
#print axioms made_fine
end Go.Proofs.Ythmclonjgbmhhaa
