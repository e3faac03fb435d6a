/-
  The document's answer: with, List.
-/
import Derived.Test.YtkfpnpfopinbkaaAcc
namespace Go.Proofs.Ytkfpnpfopinbkaa
open Go.RowKit
set_option linter.unusedVariables false

def withP (t : Tag) (s : List UInt8) (n : Int) (put : Bool) : List Tag := if !put && !lt t.nm s then [⟨s, n⟩] else []
def withQ (t : Tag) (s : List UInt8) : List Tag := if t.nm == s then [] else [t]
def withR : List Tag → List UInt8 → Int → Bool → List Tag
  | [], s, n, put => if put then [] else [⟨s, n⟩]
  | t :: l, s, n, put => withP t s n put ++ (withQ t s ++ withR l s n (put || !lt t.nm s))
def withL (l : List Tag) (s : List UInt8) (n : Int) : List Tag := withR l s n false

theorem withR_drop (l : List Tag) (s : List UInt8) (n : Int) (put : Bool) (k : Nat) (hk : k < l.length) : withR (l.drop k) s n put = withP l[k] s n put ++ (withQ l[k] s ++ withR (l.drop (k + 1)) s n (put || !lt l[k].nm s)) := by
  rw [List.drop_eq_getElem_cons hk]; rfl

set_option maxHeartbeats 2000000 in
theorem with_any (A : Option Addr) (c : Nat) (l : List Tag) (s : List UInt8) (n : Int) (w : World) (hr : Sl w 2 A l.length (tcells l)) (hn : l.length ≤ 1000) :
    Calls Try.prog 28 #[.slice A l.length c, .string (str s), .int .i64 n] w (TagRet w (withL l s n)) := by
  have Hr := Lib.hid hr
  clear hr
  go_enter Try.func28, Try.ntmps28
  go_wp2_with fail
  go_loopw [7, 8, 9] (fun v b i wr => ∃ (k : Nat) (put : Bool) (pre : List Tag), k ≤ l.length ∧ i = .int .i64 k ∧ b = .bool put ∧ pre.length ≤ 2 * k ∧ withL l s n = pre ++ withR (l.drop k) s n put ∧ Acc w pre v wr) (fun _ _ i _ => l.length - (intOf i).toNat)
  case atStart => exact ⟨0, false, [], Nat.zero_le _, rfl, rfl, by simp, by simp [withL], Acc.nil (Below.refl _ _)⟩
  case round =>
    obtain ⟨k, put, pre, hk, rfl, rfl, hpl, hp, ha⟩ := hrel
    have Hp := Lib.hid hp
    have HA := Lib.hid ha
    clear hp ha
    by_cases hlt : k < l.length
    · obtain ⟨g, o, rfl, hg, c0, c1⟩ := tag_cells (Hr.out.below HA.out.2) (List.getElem?_eq_getElem hlt)
      have HK := Lib.hid (withR_drop l s n put k hlt)
      have HT := Lib.hid (List.getElem?_eq_getElem hlt)
      generalize hz : l[k] = t at c0 c1 HK HT
      clear hz
      cases put
      · cases he : Op.bytesLess t.nm s
        · go_wp2_with (at_builtin; refine wpList_tag rfl (.tmp 27) (.tmp 31) rfl HA.out ⟨s, n⟩ rfl rfl (by omega) ?_)
          intro v1 w1 hA1
          obtain ⟨pre1, hp1⟩ : ∃ p, pre ++ [⟨s, n⟩] = p := ⟨_, rfl⟩
          rw [hp1] at hA1
          have hpl1 : pre1.length ≤ 2 * k + 1 := by rw [← hp1]; simp; omega
          have Hp1 := Lib.hid hp1
          clear hp1
          have HA1 := Lib.hid hA1
          have D := Lib.hid (tag_cells (Hr.out.below HA1.out.2) HT.out)
          obtain ⟨g', o', hgo, -, d0, d1⟩ := D.out
          injection hgo with hgo; injection hgo with hgo1 hgo2; subst hgo1; subst hgo2
          clear hA1
          clear D c0 c1
          cases hq : (t.nm == s)
          · have HN : Hid (withL l s n = (pre1 ++ [t]) ++ withR (l.drop (k + 1)) s n true) := Lib.hid (by rw [Hp.out, HK.out, ← Hp1.out]; simp [withP, withQ, lt, he, hq])
            clear HK Hp
            go_wp2_with (at_builtin; refine wpList_tag rfl (.tmp 40) (.tmp 45) rfl HA1.out t rfl rfl (by omega) ?_)
            intro v2 w2 hA2
            have HA2 := Lib.hid hA2
            clear hA2
            go_wp2_with fail
            go_roundw
            case rel => exact ⟨k + 1, true, pre1 ++ [t], by omega, by go_num, rfl, by first | omega | (simp; omega), HN.out, HA2.out⟩
            case measure => simp [intOf]; omega
          · have HN : Hid (withL l s n = pre1 ++ withR (l.drop (k + 1)) s n true) := Lib.hid (by rw [Hp.out, HK.out, ← Hp1.out]; simp [withP, withQ, lt, he, hq])
            clear HK Hp
            go_wp2_with fail
            go_roundw
            case rel => exact ⟨k + 1, true, pre1, by omega, by go_num, rfl, by first | omega | (simp; omega), HN.out, HA1.out⟩
            case measure => simp [intOf]; omega
        · skip
          cases hq : (t.nm == s)
          · have HN : Hid (withL l s n = (pre ++ [t]) ++ withR (l.drop (k + 1)) s n false) := Lib.hid (by rw [Hp.out, HK.out]; simp [withP, withQ, lt, he, hq])
            clear HK Hp
            go_wp2_with (at_builtin; refine wpList_tag rfl (.tmp 40) (.tmp 45) rfl HA.out t rfl rfl (by omega) ?_)
            intro v2 w2 hA2
            have HA2 := Lib.hid hA2
            clear hA2
            go_wp2_with fail
            go_roundw
            case rel => exact ⟨k + 1, false, pre ++ [t], by omega, by go_num, rfl, by first | omega | (simp; omega), HN.out, HA2.out⟩
            case measure => simp [intOf]; omega
          · have HN : Hid (withL l s n = pre ++ withR (l.drop (k + 1)) s n false) := Lib.hid (by rw [Hp.out, HK.out]; simp [withP, withQ, lt, he, hq])
            clear HK Hp
            go_wp2_with fail
            go_roundw
            case rel => exact ⟨k + 1, false, pre, by omega, by go_num, rfl, by first | omega | (simp; omega), HN.out, HA.out⟩
            case measure => simp [intOf]; omega
      · skip
        cases hq : (t.nm == s)
        · have HN : Hid (withL l s n = (pre ++ [t]) ++ withR (l.drop (k + 1)) s n true) := Lib.hid (by rw [Hp.out, HK.out]; simp [withP, withQ, lt, hq])
          clear HK Hp
          go_wp2_with (at_builtin; refine wpList_tag rfl (.tmp 40) (.tmp 45) rfl HA.out t rfl rfl (by omega) ?_)
          intro v2 w2 hA2
          have HA2 := Lib.hid hA2
          clear hA2
          go_wp2_with fail
          go_roundw
          case rel => exact ⟨k + 1, true, pre ++ [t], by omega, by go_num, rfl, by first | omega | (simp; omega), HN.out, HA2.out⟩
          case measure => simp [intOf]; omega
        · have HN : Hid (withL l s n = pre ++ withR (l.drop (k + 1)) s n true) := Lib.hid (by rw [Hp.out, HK.out]; simp [withP, withQ, lt, hq])
          clear HK Hp
          go_wp2_with fail
          go_roundw
          case rel => exact ⟨k + 1, true, pre, by omega, by go_num, rfl, by first | omega | (simp; omega), HN.out, HA.out⟩
          case measure => simp [intOf]; omega
    · have HN : Hid (withL l s n = pre ++ if put then [] else [⟨s, n⟩]) := Lib.hid (by rw [Hp.out, List.drop_eq_nil_of_le (by omega)]; rfl)
      cases put
      · go_wp2_with (at_builtin; refine wpList_tag rfl (.tmp 49) (.tmp 53) rfl HA.out ⟨s, n⟩ rfl rfl (by omega) ?_)
        intro v' w' hA'
        have HA' := Lib.hid hA'
        clear hA'
        go_wp2_with fail
        go_ret
        exact ⟨_, rfl, by rw [HN.out]; exact HA'.out⟩
      · go_wp2_with fail
        go_ret
        exact ⟨_, rfl, by rw [HN.out]; simpa using HA.out⟩
end Go.Proofs.Ytkfpnpfopinbkaa
