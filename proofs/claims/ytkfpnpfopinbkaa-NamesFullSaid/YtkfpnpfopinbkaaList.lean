/-
  The lists of names.
-/
import Derived.Test.YtkfpnpfopinbkaaRef
namespace Go.Proofs.Ytkfpnpfopinbkaa
open Go.RowKit
set_option linter.unusedVariables false

def listL : List Tag → List (List UInt8)
  | [] => []
  | t :: l => (if t.n.tmod 2 == 1 then [t.nm] else []) ++ listL l

theorem listL_drop (l : List Tag) (k : Nat) (hk : k < l.length) : listL (l.drop k) = (if l[k].n.tmod 2 == 1 then [l[k].nm] else []) ++ listL (l.drop (k + 1)) := by
  rw [List.drop_eq_getElem_cons hk]; rfl

set_option maxHeartbeats 1000000 in
theorem refList_any (A : Option Addr) (c : Nat) (l : List Tag) (w : World) (hr : Sl w 2 A l.length (tcells l)) (hn : l.length ≤ 1000) :
    Calls Try.prog 18 #[.slice A l.length c] w (TxtRet w (listL l)) := by
  have Hr := Lib.hid hr
  clear hr
  go_enter Try.func18, Try.ntmps18
  go_wp2_with fail
  go_loopw [3, 4] (fun v i wr => ∃ (k : Nat) (pre : List (List UInt8)), k ≤ l.length ∧ i = .int .i64 k ∧ pre.length ≤ k ∧ listL l = pre ++ listL (l.drop k) ∧ AccS w pre v wr) (fun _ i _ => l.length - (intOf i).toNat)
  case atStart => exact ⟨0, [], Nat.zero_le _, rfl, by simp, by simp, AccS.nil (Below.refl _ _)⟩
  case round =>
    obtain ⟨k, pre, hk, rfl, hpl, hp, ha⟩ := hrel
    have Hp := Lib.hid hp
    have HA := Lib.hid ha
    clear hp ha
    by_cases hlt : k < l.length
    · obtain ⟨g, o, rfl, hg, c0, c1⟩ := tag_cells (Hr.out.below HA.out.2) (List.getElem?_eq_getElem hlt)
      have HK := Lib.hid (listL_drop l k hlt)
      generalize hz : l[k] = t at c0 c1 HK
      clear hz
      cases he : (t.n.tmod 2 == 1)
      · have HN : Hid (listL l = pre ++ listL (l.drop (k + 1))) := Lib.hid (by rw [Hp.out, HK.out, he]; rfl)
        clear HK Hp
        go_wp2_with fail
        go_roundw
        case rel => exact ⟨k + 1, pre, by omega, by go_num, by omega, HN.out, HA.out⟩
        case measure => simp [intOf]; omega
      · have HN : Hid (listL l = (pre ++ [t.nm]) ++ listL (l.drop (k + 1))) := Lib.hid (by rw [Hp.out, HK.out, he]; simp)
        clear HK Hp
        go_wp2_with (at_builtin; refine wpList_str rfl (.tmp 18) (.tmp 24) rfl HA.out t.nm rfl rfl (by omega) ?_)
        intro v1 w1 hA1
        have HA1 := Lib.hid hA1
        clear hA1
        go_wp2_with fail
        go_roundw
        case rel => exact ⟨k + 1, pre ++ [t.nm], by omega, by go_num, by simp; omega, HN.out, HA1.out⟩
        case measure => simp [intOf]; omega
    · have HN : Hid (listL l = pre) := Lib.hid (by rw [Hp.out, List.drop_eq_nil_of_le (by omega)]; simp [listL])
      go_wp2_with fail
      go_ret
      exact ⟨_, rfl, by rw [HN.out]; exact HA.out⟩

set_option maxHeartbeats 1000000 in
theorem list_any (A : Option Addr) (c : Nat) (l : List Tag) (w : World) (hr : Sl w 2 A l.length (tcells l)) (hn : l.length ≤ 1000) :
    Calls Try.prog 17 #[.slice A l.length c] w (TxtRet w (listL l)) := by
  have Hr := Lib.hid hr
  clear hr
  go_enter Try.func17, Try.ntmps17
  go_wp2_with fail
  go_loopw [3, 8] (fun v i wr => ∃ (k : Nat) (pre : List (List UInt8)), k ≤ l.length ∧ i = .int .i64 k ∧ pre.length ≤ k ∧ listL l = pre ++ listL (l.drop k) ∧ AccS w pre v wr) (fun _ i _ => l.length - (intOf i).toNat)
  case atStart => exact ⟨0, [], Nat.zero_le _, rfl, by simp, by simp, AccS.nil (Below.refl _ _)⟩
  case round =>
    obtain ⟨k, pre, hk, rfl, hpl, hp, ha⟩ := hrel
    have Hp := Lib.hid hp
    have HA := Lib.hid ha
    clear hp ha
    by_cases hlt : k < l.length
    · obtain ⟨g, o, rfl, hg, c0, c1⟩ := tag_cells (Hr.out.below HA.out.2) (List.getElem?_eq_getElem hlt)
      have HK := Lib.hid (listL_drop l k hlt)
      generalize hz : l[k] = t at c0 c1 HK
      clear hz
      have HA0 := fun (o : Obj) => Lib.hid (HA.out.below ((Below.refl _ _).alloc (Nat.le_refl _) o))
      cases he : (t.n.tmod 2 == 1)
      · have HN : Hid (listL l = pre ++ listL (l.drop (k + 1))) := Lib.hid (by rw [Hp.out, HK.out, he]; rfl)
        clear HK Hp
        go_wp2_with fail
        go_roundw
        case rel => exact ⟨k + 1, pre, by omega, by go_num, by omega, HN.out, (HA0 _).out⟩
        case measure => simp [intOf]; omega
      · have HN : Hid (listL l = (pre ++ [t.nm]) ++ listL (l.drop (k + 1))) := Lib.hid (by rw [Hp.out, HK.out, he]; simp)
        clear HK Hp
        go_wp2_with (at_builtin; refine wpList_str rfl (.tmp 16) (.tmp 19) rfl (HA0 _).out t.nm rfl (by simp [Act.eval]) (by omega) ?_)
        intro v1 w1 hA1
        have HA1 := Lib.hid hA1
        clear hA1
        go_wp2_with fail
        go_roundw
        case rel => exact ⟨k + 1, pre ++ [t.nm], by omega, by go_num, by simp; omega, HN.out, HA1.out⟩
        case measure => simp [intOf]; omega
    · have HN : Hid (listL l = pre) := Lib.hid (by rw [Hp.out, List.drop_eq_nil_of_le (by omega)]; simp [listL])
      go_wp2_with fail
      go_ret
      exact ⟨_, rfl, by rw [HN.out]; exact HA.out⟩
#print axioms refList_any
end Go.Proofs.Ytkfpnpfopinbkaa
