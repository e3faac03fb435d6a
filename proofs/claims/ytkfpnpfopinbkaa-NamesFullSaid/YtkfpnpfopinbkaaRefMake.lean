/-
  The document's answer: Make, Drop, Join.
-/
import Derived.Test.YtkfpnpfopinbkaaSame
namespace Go.Proofs.Ytkfpnpfopinbkaa
open Go.RowKit
set_option linter.unusedVariables false

def refFull (l : List Tag) (s : List UInt8) : Bool := (numL l s == 0 && decide (100 ≤ l.length)) || decide (1048576 ≤ numL l s)
def rMakeL (l : List Tag) (s : List UInt8) : List Tag := if !okName s then [] else if hasL l s then [] else if refFull l s then [] else withL l s (numL l s + 1)
def rMakeE (l : List Tag) (s : List UInt8) : Int := if !okName s then 1 else if hasL l s then 13 else if refFull l s then 15 else 0
def rDropL (l : List Tag) (s : List UInt8) : List Tag := if !hasL l s then [] else if decide (1048576 ≤ numL l s) then [] else withL l s (numL l s + 1)
def rDropE (l : List Tag) (s : List UInt8) : Int := if !hasL l s then 12 else if decide (1048576 ≤ numL l s) then 15 else 0

theorem numL_nonneg {l : List Tag} (h : ∀ t ∈ l, 0 ≤ t.n) (s : List UInt8) : 0 ≤ numL l s := by
  induction l with
  | nil => exact Int.le_refl _
  | cons t l ih =>
    unfold numL
    split
    · exact h t (List.mem_cons_self)
    · exact ih fun t ht => h t (List.mem_cons_of_mem _ ht)

theorem tags_of_acc {w w' : World} {er : Int} {l : List Tag} {v : Value} (h : Acc w l v w') : TagsE w er l (.returned (.tuple #[v, .int .i64 er])) w' := ⟨v, rfl, h.1, h.2⟩

set_option maxHeartbeats 1000000 in
theorem refMake_any (A : Option Addr) (c : Nat) (l : List Tag) (s : List UInt8) (w : World) (hr : Sl w 2 A l.length (tcells l)) (hn : l.length ≤ 1000) (hok : ∀ t ∈ l, 0 ≤ t.n) (hs : s.length ≤ 9223372036854775807) :
    Calls Try.prog 12 #[.slice A l.length c, .string (str s)] w (TagsE w (rMakeE l s) (rMakeL l s)) := by
  have Hr := Lib.hid hr
  have hnn := numL_nonneg hok s
  clear hr hok
  go_enter Try.func12, Try.ntmps12
  go_wp2_with fail
  refine (name_any s _ hs).mono ?_
  rintro e w' ⟨rfl, rfl⟩
  go_wp2_with fail
  refine (refHas_any A c l s _ Hr.out (by omega)).mono ?_
  rintro e w' ⟨rfl, rfl⟩
  go_wp2_with fail
  refine (number_any A c l s _ Hr.out (by omega)).mono ?_
  rintro e w' ⟨rfl, rfl⟩
  cases h1 : okName s
  · have H : Hid (rMakeL l s = [] ∧ rMakeE l s = 1) := Lib.hid (by unfold rMakeL rMakeE; rw [h1]; exact ⟨rfl, rfl⟩)
    clear h1
    go_wp2_with fail
    ((try simp only [Exit.inBlock, Exit.then]); refine bodyPost_ret (results_tmp2 rfl _ _ _) rfl ?_)
    rw [H.out.1, H.out.2]
    exact tags_nil 1 (Below.refl _ _)
  · cases h2 : hasL l s
    · cases h3 : refFull l s
      · have H : Hid (rMakeL l s = withL l s (numL l s + 1) ∧ rMakeE l s = 0) := Lib.hid (by unfold rMakeL rMakeE; rw [h1, h2, h3]; exact ⟨rfl, rfl⟩)
        unfold refFull at h3
        generalize numL l s = m at *
        have hbig : decide ((1048576 : Int) ≤ m) = false := by
          cases hb : decide ((1048576 : Int) ≤ m)
          · rfl
          · rw [hb] at h3; simp at h3
        have hw : IntKind.i64.wrap (m + 1) = m + 1 := IntWalk.i64_in _ (by simp at hbig; omega)
        rw [hbig, Bool.or_false] at h3
        cases h4 : (m == 0)
        · clear h1 h2 h3
          go_wp2_with fail
          refine (with_any A c l s _ _ Hr.out hn).mono ?_
          rintro e w1 ⟨v, rfl, ha⟩
          have HA := Lib.hid ha
          clear ha
          go_wp2_with fail
          ((try simp only [Exit.inBlock, Exit.then]); refine bodyPost_ret (results_tmp2 rfl _ _ _) rfl ?_)
          rw [H.out.1, H.out.2]
          exact tags_of_acc HA.out
        · have h5 : decide ((100 : Int) ≤ (l.length : Int)) = false := by
            rw [h4] at h3; simp at h3 ⊢; omega
          clear h1 h2 h3
          go_wp2_with fail
          refine (with_any A c l s _ _ Hr.out hn).mono ?_
          rintro e w1 ⟨v, rfl, ha⟩
          have HA := Lib.hid ha
          clear ha
          go_wp2_with fail
          ((try simp only [Exit.inBlock, Exit.then]); refine bodyPost_ret (results_tmp2 rfl _ _ _) rfl ?_)
          rw [H.out.1, H.out.2]
          exact tags_of_acc HA.out
      · have H : Hid (rMakeL l s = [] ∧ rMakeE l s = 15) := Lib.hid (by unfold rMakeL rMakeE; rw [h1, h2, h3]; exact ⟨rfl, rfl⟩)
        unfold refFull at h3
        generalize numL l s = m at *
        cases hbig : decide ((1048576 : Int) ≤ m)
        · rw [hbig, Bool.or_false] at h3
          have h4 : (m == 0) = true := by
            cases hb : (m == 0)
            · rw [hb] at h3; simp at h3
            · rfl
          have h5 : decide ((100 : Int) ≤ (l.length : Int)) = true := by
            rw [h4] at h3; simp at h3 ⊢; omega
          clear h1 h2 h3
          go_wp2_with fail
          ((try simp only [Exit.inBlock, Exit.then]); refine bodyPost_ret (results_tmp2 rfl _ _ _) rfl ?_)
          rw [H.out.1, H.out.2]
          exact tags_nil 15 (Below.refl _ _)
        · clear h1 h2 h3
          have h4 : (m == 0) = false := by simp at hbig ⊢; omega
          go_wp2_with fail
          ((try simp only [Exit.inBlock, Exit.then]); refine bodyPost_ret (results_tmp2 rfl _ _ _) rfl ?_)
          rw [H.out.1, H.out.2]
          exact tags_nil 15 (Below.refl _ _)
    · have H : Hid (rMakeL l s = [] ∧ rMakeE l s = 13) := Lib.hid (by unfold rMakeL rMakeE; rw [h1, h2]; exact ⟨rfl, rfl⟩)
      clear h1 h2
      go_wp2_with fail
      ((try simp only [Exit.inBlock, Exit.then]); refine bodyPost_ret (results_tmp2 rfl _ _ _) rfl ?_)
      rw [H.out.1, H.out.2]
      exact tags_nil 13 (Below.refl _ _)

set_option maxHeartbeats 1000000 in
theorem refDrop_any (A : Option Addr) (c : Nat) (l : List Tag) (s : List UInt8) (w : World) (hr : Sl w 2 A l.length (tcells l)) (hn : l.length ≤ 1000) (hok : ∀ t ∈ l, 0 ≤ t.n) :
    Calls Try.prog 15 #[.slice A l.length c, .string (str s)] w (TagsE w (rDropE l s) (rDropL l s)) := by
  have Hr := Lib.hid hr
  have hnn := numL_nonneg hok s
  clear hr hok
  go_enter Try.func15, Try.ntmps15
  go_wp2_with fail
  refine (refHas_any A c l s _ Hr.out (by omega)).mono ?_
  rintro e w' ⟨rfl, rfl⟩
  go_wp2_with fail
  refine (number_any A c l s _ Hr.out (by omega)).mono ?_
  rintro e w' ⟨rfl, rfl⟩
  cases h2 : hasL l s
  · have H : Hid (rDropL l s = [] ∧ rDropE l s = 12) := Lib.hid (by unfold rDropL rDropE; rw [h2]; exact ⟨rfl, rfl⟩)
    clear h2
    go_wp2_with fail
    ((try simp only [Exit.inBlock, Exit.then]); refine bodyPost_ret (results_tmp2 rfl _ _ _) rfl ?_)
    rw [H.out.1, H.out.2]
    exact tags_nil 12 (Below.refl _ _)
  · cases h3 : decide (1048576 ≤ numL l s)
    · have H : Hid (rDropL l s = withL l s (numL l s + 1) ∧ rDropE l s = 0) := Lib.hid (by unfold rDropL rDropE; rw [h2, h3]; exact ⟨rfl, rfl⟩)
      generalize numL l s = m at *
      have hw : IntKind.i64.wrap (m + 1) = m + 1 := IntWalk.i64_in _ (by simp at h3; omega)
      clear h2
      go_wp2_with fail
      refine (with_any A c l s _ _ Hr.out hn).mono ?_
      rintro e w1 ⟨v, rfl, ha⟩
      have HA := Lib.hid ha
      clear ha
      go_wp2_with fail
      ((try simp only [Exit.inBlock, Exit.then]); refine bodyPost_ret (results_tmp2 rfl _ _ _) rfl ?_)
      rw [H.out.1, H.out.2]
      exact tags_of_acc HA.out
    · have H : Hid (rDropL l s = [] ∧ rDropE l s = 15) := Lib.hid (by unfold rDropL rDropE; rw [h2, h3]; exact ⟨rfl, rfl⟩)
      generalize numL l s = m at *
      clear h2
      go_wp2_with fail
      ((try simp only [Exit.inBlock, Exit.then]); refine bodyPost_ret (results_tmp2 rfl _ _ _) rfl ?_)
      rw [H.out.1, H.out.2]
      exact tags_nil 15 (Below.refl _ _)

#print axioms refMake_any
#print axioms refDrop_any
end Go.Proofs.Ytkfpnpfopinbkaa
