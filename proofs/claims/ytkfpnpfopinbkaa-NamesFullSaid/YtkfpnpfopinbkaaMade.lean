/-
  A catalogue that may be.
-/
import Derived.Laws.Concat
import Derived.Test.YtkfpnpfopinbkaaRefJoin
namespace Go.Proofs.Ytkfpnpfopinbkaa
open Go.RowKit
set_option linter.unusedVariables false

def name4 (s : List UInt8) : List UInt8 := sh (110 :: s) 4
def bit7 (n : Int) : Int := bits .and .i64 n 7
theorem bit7_in (n : Int) : 0 ≤ bit7 n ∧ bit7 n ≤ 7 := by
  have h : (BitVec.ofInt 64 n &&& BitVec.ofInt 64 7).toNat ≤ 7 := by rw [BitVec.toNat_and]; exact Nat.and_le_right
  have h2 : bit7 n = ((BitVec.ofInt 64 n &&& BitVec.ofInt 64 7).toNat : Nat) := by
    show IntKind.i64.wrap (((BitVec.ofInt 64 n &&& BitVec.ofInt 64 7).toNat : Nat) : Int) = _
    rw [IntKind.wrap_i64]; omega
  omega
def madeT (t : Tag) : Tag := ⟨name4 t.nm, 1 + bit7 t.n⟩
def madeG (out : List Tag) (l : List Tag) : List Tag := l.foldl (fun out t => rJoinL out [madeT t]) out
def madeL (l : List Tag) : List Tag := madeG [] (l.take 20)

theorem rJoinL_le (a b : List Tag) : (rJoinL a b).length ≤ 100 := by unfold rJoinL; simp; omega

theorem str_cons (s : List UInt8) : (⟨#[110]⟩ : ByteArray) ++ str s = str (110 :: s) := by
  unfold str
  apply ByteArray.ext
  rw [ByteArray.data_append]
  simp

set_option maxHeartbeats 2000000 in
theorem made_any (A : Option Addr) (c : Nat) (l : List Tag) (w : World) (hr : Sl w 2 A l.length (tcells l)) (hn : l.length ≤ 9223372036854775807) (hsz : ∀ t ∈ l, t.nm.length < 9223372036854775807) :
    Calls Try.prog 9 #[.slice A l.length c] w (TagRet w (madeL l)) := by
  have Hr := Lib.hid hr
  have Hsz := Lib.hid hsz
  have htl : (l.take 20).length = min 20 l.length := by simp
  have Htl := Lib.hid htl
  clear hr hsz htl
  go_enter Try.func9, Try.ntmps9
  go_wp2_with fail
  go_loopw [3, 4] (fun v i wr => ∃ (k : Nat) (cur : List Tag), k ≤ (l.take 20).length ∧ i = .int .i64 k ∧ cur.length ≤ 100 ∧ madeL l = madeG cur ((l.take 20).drop k) ∧ Acc w cur v wr) (fun _ i _ => 20 - (intOf i).toNat)
  case atStart => exact ⟨0, [], Nat.zero_le _, rfl, by simp, by simp [madeL], Acc.nil (Below.refl _ _)⟩
  case round =>
    obtain ⟨k, cur, hk, rfl, hpl, hp, ha⟩ := hrel
    have Hp := Lib.hid hp
    obtain ⟨Ac, cc, rfl, hsl, hcc⟩ := ha.slice
    have HA := Lib.hid ha
    have Hsl := Lib.hid hsl
    clear hp ha hsl hcc
    by_cases hlt : k < (l.take 20).length
    · have hkl : k < l.length := by have := Htl.out; omega
      have hk20 : k < 20 := by have := Htl.out; omega
      have d1 : decide ((k : Int) < (l.length : Int)) = true := by simp; omega
      have d2 : decide ((k : Int) < 20) = true := by simp; omega
      obtain ⟨g, o, rfl, hg, c0, c1⟩ := tag_cells (Hr.out.below HA.out.2) (List.getElem?_eq_getElem hkl)
      have hat : (l.take 20)[k] = l[k] := by simp
      have HK : Hid (madeG cur ((l.take 20).drop k) = madeG (rJoinL cur [madeT l[k]]) ((l.take 20).drop (k + 1))) := Lib.hid (by rw [List.drop_eq_getElem_cons hlt, hat]; rfl)
      have HT := Lib.hid (Hsz.out l[k] (List.getElem_mem hkl))
      clear hat
      generalize hz : l[k] = t at c0 c1 HK HT
      clear hz
      have hcat := fun (W : World) => run_string_add_sum (P := Try.prog) W ⟨#[110]⟩ (str t.nm) (by rw [str_size, show (⟨#[110]⟩ : ByteArray).size = 1 from rfl]; have := HT.out; omega)
      rw [str_cons] at hcat
      go_wp2_with fail
      refine (short_any (110 :: t.nm) 4 _ (by have := HT.out; simp; omega) (by omega)).mono ?_
      rintro e w' ⟨rfl, rfl⟩
      have hb7 := bit7_in t.n
      have hw7 : wrap64 (1 + bits .and .i64 t.n 7) = 1 + bit7 t.n := by
        show wrap64 (1 + bit7 t.n) = 1 + bit7 t.n
        unfold wrap64; omega
      go_wp2_with fail
      refine (refJoin_any _ _ _ _ cur [⟨sh (110 :: t.nm) 4, 1 + bit7 t.n⟩] _ (Hsl.out.below ((Below.refl _ _).alloc (Nat.le_refl _) _)) (sl_tag wr ⟨sh (110 :: t.nm) 4, 1 + bit7 t.n⟩ _ rfl) (by omega) (by simp)).mono ?_
      rintro e w2 ⟨v, rfl, ha2⟩
      have HA2 := Lib.hid (Acc.up (HA.out.2.alloc HA.out.2.size _) ha2)
      have HN : Hid (madeL l = madeG (rJoinL cur [⟨sh (110 :: t.nm) 4, 1 + bit7 t.n⟩]) ((l.take 20).drop (k + 1))) := Lib.hid (by rw [Hp.out, HK.out]; rfl)
      clear ha2 Hp HK hb7 hw7
      go_wp2_with fail
      go_roundw
      case rel => exact ⟨k + 1, _, by omega, by go_num, rJoinL_le _ _, HN.out, HA2.out⟩
      case measure => simp [intOf]; omega
    · have hkk : k = (l.take 20).length := by omega
      have HN : Hid (madeL l = cur) := Lib.hid (by rw [Hp.out, List.drop_eq_nil_of_le (by omega)]; rfl)
      have Htl' := Htl.out
      by_cases h20 : l.length ≤ 20
      · have d1 : decide ((k : Int) < (l.length : Int)) = false := by simp; omega
        clear Htl'
        go_wp2_with fail
        go_ret
        exact ⟨_, rfl, by rw [HN.out]; exact HA.out⟩
      · have d1 : decide ((k : Int) < (l.length : Int)) = true := by simp; omega
        have d2 : decide ((k : Int) < 20) = false := by simp; omega
        clear Htl'
        go_wp2_with fail
        go_ret
        exact ⟨_, rfl, by rw [HN.out]; exact HA.out⟩
#print axioms made_any
end Go.Proofs.Ytkfpnpfopinbkaa
