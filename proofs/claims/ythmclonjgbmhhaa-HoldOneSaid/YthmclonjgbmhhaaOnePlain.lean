/-
  HoldOne, plain: what an owner's promises and the times that were told have to do with one another.
-/
import Derived.Test.YthmclonjgbmhhaaRow
namespace Go.Proofs.Ythmclonjgbmhhaa
open Go.RowKit
set_option linter.unusedVariables false

def dd : Dot := ⟨3, 7⟩
def upd (U : Nat → Int) (k : Nat) (v : Int) : Nat → Int := fun j => if j = k then v else U j
theorem upd_same (U : Nat → Int) (k : Nat) (v : Int) : upd U k v k = v := by simp [upd]
theorem upd_ne (U : Nat → Int) {k j : Nat} (v : Int) (h : j ≠ k) : upd U k v j = U j := by simp [upd, h]

/-- Another receipt holds: of the first n. -/
def othN (U : Nat → Int) (now : Int) (r : Nat) : Nat → Bool
  | 0 => false
  | n + 1 => othN U now r n || (!decide (n + 1 = r) && decide (now < U (n + 1)))
/-- The times of the others, of the first n, struck. -/
def zerN (U : Nat → Int) (r : Nat) : Nat → Nat → Int
  | 0 => U
  | n + 1 => if n + 1 = r then zerN U r n else upd (zerN U r n) (n + 1) 0
/-- What a grant leaves. -/
def gotU (U : Nat → Int) (now : Int) (r : Nat) (e : Int) : Nat → Int := if (zerN U r 4 r ≤ now ∨ zerN U r 4 r < e) then upd (zerN U r 4) r e else zerN U r 4

theorem oth_iff (U : Nat → Int) (now : Int) (r : Nat) (n : Nat) : othN U now r n = true ↔ ∃ k, 1 ≤ k ∧ k ≤ n ∧ k ≠ r ∧ now < U k := by
  induction n with
  | zero => simp [othN]; intro k h1 h2; omega
  | succ n ih =>
    unfold othN
    rw [Bool.or_eq_true, ih]
    constructor
    · rintro (⟨k, h1, h2, h3, h4⟩ | h)
      · exact ⟨k, h1, by omega, h3, h4⟩
      · simp at h
        exact ⟨n + 1, by omega, by omega, h.1, h.2⟩
    · rintro ⟨k, h1, h2, h3, h4⟩
      by_cases hk : k = n + 1
      · subst hk
        exact .inr (by simp [h3, h4])
      · exact .inl ⟨k, h1, by omega, h3, h4⟩
theorem zer_same (U : Nat → Int) (r n : Nat) : zerN U r n r = U r := by
  induction n with
  | zero => rfl
  | succ n ih =>
    unfold zerN
    split
    · exact ih
    · rw [upd_ne _ _ (by omega), ih]
theorem zer_ne (U : Nat → Int) (r n k : Nat) (h1 : 1 ≤ k) (h2 : k ≤ n) (h3 : k ≠ r) : zerN U r n k = 0 := by
  induction n with
  | zero => omega
  | succ n ih =>
    unfold zerN
    by_cases hk : k = n + 1
    · subst hk
      rw [if_neg h3, upd_same]
    · split
      · exact ih (by omega)
      · rw [upd_ne _ _ hk]; exact ih (by omega)

/-- The owner's promises and the times told. -/
structure Inv (l : List Hold) (U : Nat → Int) (now : Int) : Prop where
  one : l = [] ∨ ∃ (r : Nat) (un : Int), l = [⟨dd, r, un⟩] ∧ 1 ≤ r ∧ r ≤ 4 ∧ 1 ≤ un ∧ un ≤ 1000 ∧ (now < un → U r = un)
  has : ∀ k : Nat, 1 ≤ k → k ≤ 4 → now < U k → l = [⟨dd, k, U k⟩]

theorem inv_start : Inv [] (fun _ => 0) 0 := ⟨.inl rfl, fun k _ _ h => by simp at h⟩
theorem Inv.later {l : List Hold} {U : Nat → Int} {now t : Int} (h : Inv l U now) (ht : now ≤ t) : Inv l U t := by
  refine ⟨?_, fun k h1 h2 h3 => h.has k h1 h2 (by omega)⟩
  rcases h.one with h1 | ⟨r, un, h1, h2, h3, h4, h5, h6⟩
  · exact .inl h1
  · exact .inr ⟨r, un, h1, h2, h3, h4, h5, fun hh => h6 (by omega)⟩
theorem Inv.len {l : List Hold} {U : Nat → Int} {now : Int} (h : Inv l U now) : l.length ≤ 1 := by
  rcases h.one with rfl | ⟨r, un, rfl, _⟩ <;> simp
theorem one_fine {r : Nat} {un : Int} (h2 : 1 ≤ r) (h3 : r ≤ 4) (h4 : 1 ≤ un) (h5 : un ≤ 1000) : Fine [⟨dd, r, un⟩] := by
  refine ⟨List.pairwise_singleton _ _, fun t ht => ?_⟩
  rw [List.mem_singleton] at ht
  subst ht
  refine ⟨show okDot dd = true by decide, ?_, ?_⟩
  · unfold okI; simp; omega
  · unfold okT; simp; omega
theorem Inv.fine {l : List Hold} {U : Nat → Int} {now : Int} (h : Inv l U now) : Fine l := by
  rcases h.one with rfl | ⟨r, un, rfl, h2, h3, h4, h5, _⟩
  · exact fine_nil
  · exact one_fine h2 h3 h4 h5
theorem find_one (r un : Int) : findC [⟨dd, r, un⟩] dd = some ⟨dd, r, un⟩ := rfl
theorem find_no : findC [] dd = none := rfl
theorem Inv.told {l : List Hold} {U : Nat → Int} {now : Int} (h : Inv l U now) {k : Nat} (h1 : 1 ≤ k) (h2 : k ≤ 4) (h3 : now < U k) : findC l dd = some ⟨dd, k, U k⟩ := by
  rw [h.has k h1 h2 h3]; exact find_one _ _

theorem free_one (rc un r : Int) : freeL [⟨dd, rc, un⟩] dd r = if rc = r then [] else [⟨dd, rc, un⟩] := by
  unfold freeL
  by_cases h : rc = r
  · subst h; simp [deq]
  · simp [deq, h]
theorem Inv.free {l : List Hold} {U : Nat → Int} {now : Int} (h : Inv l U now) (hn : 0 ≤ now) {r : Nat} (h1 : 1 ≤ r) (h4 : r ≤ 4) : Inv (freeL l dd r) (upd U r 0) now := by
  constructor
  · rcases h.one with rfl | ⟨rc, un, rfl, h2, h3, h4, h5, h6⟩
    · exact .inl rfl
    · rw [free_one]
      split
      · exact .inl rfl
      · rename_i hne
        exact .inr ⟨rc, un, rfl, h2, h3, h4, h5, fun hh => by rw [upd_ne _ _ (by omega)]; exact h6 hh⟩
  · intro k k1 k2 k3
    by_cases hk : k = r
    · subst hk; rw [upd_same] at k3; omega
    · rw [upd_ne _ _ hk] at k3 ⊢
      rw [h.has k k1 k2 k3, free_one, if_neg (by omega)]
theorem sweep_one (rc un now : Int) : sweepL [⟨dd, rc, un⟩] now = if now < un then [⟨dd, rc, un⟩] else [] := by
  unfold sweepL
  by_cases h : now < un <;> simp [h]
theorem Inv.sweep {l : List Hold} {U : Nat → Int} {now : Int} (h : Inv l U now) : Inv (sweepL l now) U now := by
  constructor
  · rcases h.one with rfl | ⟨rc, un, rfl, h2, h3, h4, h5, h6⟩
    · exact .inl rfl
    · rw [sweep_one]
      split
      · exact .inr ⟨rc, un, rfl, h2, h3, h4, h5, h6⟩
      · exact .inl rfl
  · intro k k1 k2 k3
    rw [h.has k k1 k2 k3, sweep_one, if_pos k3]

theorem ok_arg {r : Nat} (h1 : 1 ≤ r) (h4 : r ≤ 4) : okArg dd r = true := by unfold okArg okI; rw [show okDot dd = true by decide]; simp; omega
theorem ok_time {now u : Int} (hn : 0 ≤ now) (h1 : now < u) (h2 : u ≤ 1000) : okTime now u = true := by unfold okTime okT; simp; omega
theorem grant_none {now : Int} {r : Nat} {u : Int} (h1 : 1 ≤ r) (h4 : r ≤ 4) (hn : 0 ≤ now) (hu : now < u) (h2 : u ≤ 1000) : grantCE [] now dd r u = 0 ∧ grantC [] now dd r u = [⟨dd, r, u⟩] := by
  have hE : grantCE [] now dd r u = 0 := by unfold grantCE; rw [ok_arg h1 h4, ok_time hn hu h2, find_no]; rfl
  refine ⟨hE, ?_⟩
  unfold grantC
  rw [if_pos hE, find_no]; rfl
theorem grant_one {now : Int} {rc r : Nat} {un u : Int} (h1 : 1 ≤ r) (h4 : r ≤ 4) (hn : 0 ≤ now) (hu : now < u) (h2 : u ≤ 1000) :
    grantCE [⟨dd, rc, un⟩] now dd r u = (if rc ≠ r ∧ now < un then 16 else 0) ∧ (¬ (rc ≠ r ∧ now < un) → grantC [⟨dd, rc, un⟩] now dd r u = [⟨dd, r, if rc = r ∧ now < un ∧ u < un then un else u⟩]) := by
  have hE : grantCE [⟨dd, rc, un⟩] now dd r u = (if rc ≠ r ∧ now < un then 16 else 0) := by
    unfold grantCE; rw [ok_arg h1 h4, ok_time hn hu h2, find_one]
    simp only [Bool.not_true, Bool.false_eq_true, if_false]
    by_cases c1 : rc = r <;> by_cases c2 : now < un <;> simp [c1, c2]
    intro h; omega
  refine ⟨hE, fun hc => ?_⟩
  rw [if_neg hc] at hE
  unfold grantC
  rw [if_pos hE, find_one]
  have hu : untilR (some ⟨dd, rc, un⟩) now r u = if rc = r ∧ now < un ∧ u < un then un else u := by
    unfold untilR
    by_cases c1 : rc = r <;> by_cases c2 : now < un <;> by_cases c3 : u < un <;> simp [c1, c2, c3]
    all_goals (intro h; omega)
  rw [hu]; rfl
theorem Inv.refuse {l : List Hold} {U : Nat → Int} {now : Int} (h : Inv l U now) (hn : 0 ≤ now) {r : Nat} (h1 : 1 ≤ r) (h4 : r ≤ 4) {u : Int} (hu : now < u) (h2 : u ≤ 1000) (ho : othN U now r 4 = true) : grantCE l now dd r u = 16 := by
  obtain ⟨k, k1, k2, k3, k4⟩ := (oth_iff _ _ _ _).1 ho
  rw [h.has k k1 k2 k4, (grant_one h1 h4 hn hu h2).1, if_pos ⟨k3, k4⟩]
theorem Inv.grant {l : List Hold} {U : Nat → Int} {now : Int} (h : Inv l U now) (hn : 0 ≤ now) {r : Nat} (h1 : 1 ≤ r) (h4 : r ≤ 4) {u : Int} (hu : now < u) (h2 : u ≤ 1000) (ho : othN U now r 4 = false) :
    grantCE l now dd r u = 0 ∧ Inv (grantC l now dd r u) (gotU U now r u) now := by
  have hno : ∀ k, 1 ≤ k → k ≤ 4 → k ≠ r → ¬ now < U k := fun k k1 k2 k3 k4 => by
    have := (oth_iff U now r 4).2 ⟨k, k1, k2, k3, k4⟩
    rw [ho] at this; cases this
  have hgr : gotU U now r u r = if U r ≤ now ∨ U r < u then u else U r := by
    unfold gotU; rw [zer_same]; split
    · rw [upd_same]
    · rw [zer_same]
  have hgn : ∀ k, 1 ≤ k → k ≤ 4 → k ≠ r → gotU U now r u k = 0 := fun k k1 k2 k3 => by
    unfold gotU; split
    · rw [upd_ne _ _ k3]; exact zer_ne U r 4 k k1 k2 k3
    · exact zer_ne U r 4 k k1 k2 k3
  have key : grantCE l now dd r u = 0 ∧ grantC l now dd r u = [⟨dd, r, gotU U now r u r⟩] ∧ 1 ≤ gotU U now r u r ∧ gotU U now r u r ≤ 1000 := by
    rw [hgr]
    rcases h.one with rfl | ⟨rc, un, rfl, c2, c3, c4, c5, c6⟩
    · obtain ⟨e1, e2⟩ := grant_none h1 h4 hn hu h2
      have hle : U r ≤ now := by
        rcases Int.lt_or_le now (U r) with hlt | hle
        · have := h.has r h1 h4 hlt; simp at this
        · exact hle
      rw [if_pos (.inl hle)]
      exact ⟨e1, e2, by omega, h2⟩
    · have hcn : ¬ (rc ≠ r ∧ now < un) := fun ⟨q1, q2⟩ => hno rc c2 c3 q1 (by rw [c6 q2]; exact q2)
      obtain ⟨e1, e2⟩ := grant_one (un := un) (rc := rc) h1 h4 hn hu h2
      rw [if_neg hcn] at e1
      refine ⟨e1, ?_⟩
      rw [e2 hcn]
      rcases Int.lt_or_le now (U r) with hlt | hle
      · have := h.has r h1 h4 hlt
        simp only [List.cons.injEq, Hold.mk.injEq, true_and, and_true] at this
        obtain ⟨t1, t2⟩ := this
        have t1 : rc = r := by omega
        subst t1 t2
        by_cases q : U rc < u
        · rw [if_neg (by omega), if_pos (.inr q)]
          exact ⟨rfl, by omega, h2⟩
        · rw [if_neg (c := U rc ≤ now ∨ U rc < u) (by omega)]
          refine ⟨?_, by omega, c5⟩
          split
          · rfl
          · have : u = U rc := by omega
            rw [this]
      · rw [if_pos (c := U r ≤ now ∨ U r < u) (.inl hle), if_neg (c := rc = r ∧ now < un ∧ u < un) (fun ⟨q1, q2, q3⟩ => by subst q1; have := c6 q2; omega)]
        exact ⟨rfl, by omega, h2⟩
  obtain ⟨k1, k2, k3, k4⟩ := key
  refine ⟨k1, ?_⟩
  rw [k2]
  refine ⟨.inr ⟨r, _, rfl, h1, h4, k3, k4, fun _ => rfl⟩, fun k q1 q2 q3 => ?_⟩
  by_cases hk : k = r
  · subst hk; rfl
  · rw [hgn k q1 q2 hk] at q3; omega

#print axioms Inv.grant
end Go.Proofs.Ythmclonjgbmhhaa
