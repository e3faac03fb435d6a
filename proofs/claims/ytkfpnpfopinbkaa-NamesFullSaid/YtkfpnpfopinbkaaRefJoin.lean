/-
  The document's answer: Join.
-/
import Derived.Test.YtkfpnpfopinbkaaRefMake
namespace Go.Proofs.Ytkfpnpfopinbkaa
open Go.RowKit
set_option linter.unusedVariables false

def rJoinF (out : List Tag) (t : Tag) : List Tag := if decide (t.n > numL out t.nm) then withL out t.nm t.n else out
def rJoinG (a b : List Tag) : List Tag := b.foldl rJoinF a
def rJoinL (a b : List Tag) : List Tag := (rJoinG a b).take 100

theorem withR_length (l : List Tag) (s : List UInt8) (n : Int) (put : Bool) : (withR l s n put).length ≤ l.length + if put then 0 else 1 := by
  induction l generalizing put with
  | nil => cases put <;> simp [withR]
  | cons t l ih =>
    unfold withR
    rw [List.length_append, List.length_append]
    have h1 := ih (put || !lt t.nm s)
    have h2 : (withQ t s).length ≤ 1 := by unfold withQ; split <;> simp
    have h3 : (withP t s n put).length + (if (put || !lt t.nm s) then 0 else 1) ≤ if put then 0 else 1 := by
      unfold withP; cases put <;> cases lt t.nm s <;> simp
    rw [List.length_cons]
    omega
theorem withL_length (l : List Tag) (s : List UInt8) (n : Int) : (withL l s n).length ≤ l.length + 1 := by unfold withL; simpa using withR_length l s n false
theorem rJoinF_length (l : List Tag) (t : Tag) : (rJoinF l t).length ≤ l.length + 1 := by
  unfold rJoinF; split
  · exact withL_length _ _ _
  · omega

theorem Acc.up {w0 wr w' : World} {l : List Tag} {v : Value} (hb : Below w0.heap.size w0 wr) (h : Acc wr l v w') : Acc w0 l v w' := ⟨own_base h.1 hb.size, hb.trans (h.2.mono hb.size)⟩
theorem Acc.drewN {w0 wr : World} {l : List Tag} {v : Value} (h : Acc w0 l v wr) (n : Nat) : Acc w0 l v (wr.drewN n) := h.below (below_drewN (Below.refl _ _) n)

theorem own_take {w : World} {base : Nat} {e : TypeId} {s n c k : Nat} {A : Option Addr} {xs : List Value} (h : w.ownsRow base e s (.slice A n c) n xs) (hk : k ≤ n) : w.ownsRow base e s (.slice A k c) k (xs.take (k * s)) := by
  have hks : k * s ≤ n * s := Nat.mul_le_mul_right s hk
  refine ⟨by rw [List.length_take, h.1]; omega, ?_⟩
  rcases h.2 with ⟨hv, h0⟩ | ⟨g, cap, cur, hv, hb, hg, hnc, hcm, hsz, ht⟩
  · injection hv with h1 h2 h3
    subst h1; subst h3
    have : k = 0 := by omega
    subst this
    exact .inl ⟨rfl, rfl⟩
  · injection hv with h1 h2 h3
    subst h1; subst h3
    exact .inr ⟨g, c, cur, rfl, hb, hg, by omega, hcm, hsz, by rw [← ht, List.take_take, Nat.min_eq_left hks]⟩
theorem Acc.take {w0 wr : World} {l : List Tag} {A : Option Addr} {c k : Nat} (h : Acc w0 l (.slice A l.length c) wr) (hk : k ≤ l.length) : Acc w0 (l.take k) (.slice A k c) wr := by
  have hl : (l.take k).length = k := by simp; omega
  refine ⟨?_, h.2⟩
  rw [hl, tcells_take]
  exact own_take h.1 hk

set_option maxHeartbeats 2000000 in
theorem refJoin_any (A B : Option Addr) (c d : Nat) (a b : List Tag) (w : World) (hr : Sl w 2 A a.length (tcells a)) (hs : Sl w 2 B b.length (tcells b)) (hn : a.length ≤ 200) (hm : b.length ≤ 200) :
    Calls Try.prog 23 #[.slice A a.length c, .slice B b.length d] w (TagRet w (rJoinL a b)) := by
  obtain ⟨i0, hi, hz0, hz1, hz2⟩ := info_parts info_tag
  have Hr := Lib.hid hr
  have Hs := Lib.hid hs
  have Q1 := Lib.hid (show 0 + a.length ≤ maxLen by unfold maxLen; omega)
  have Q2 := Lib.hid (show (0 + a.length) * 24 ≤ 140737488355328 by omega)
  clear hr hs
  go_enter Try.func23, Try.ntmps23
  go_wp2_with (at_builtin; refine wpList_append_src _ rfl (.tmp 7) (.tmp 8) 22 rfl w.heap.size 42 i0 _ 2 24 Try.underlying22 hi hz0 hz1 hz2 rfl (by decide) _ 0 [] rfl (World.ownsRow_nil _ _ _ _) A a.length c (tcells a) rfl Hr.out (tcells_one a) Q1.out Q2.out (Nat.le_refl _) ?_)
  intro v0 w0 hown hg hat
  have ha0 : Acc w a v0 w0 := ⟨by simpa using hown, (Below.refl _ _).grown hg (Nat.le_refl _) (fun k hk => by cases hk)⟩
  have HA0 := Lib.hid ha0
  clear hown hg hat ha0
  go_wp2_with fail
  go_loopw [5, 6] (fun v i wr => ∃ (k : Nat) (cur : List Tag), k ≤ b.length ∧ i = .int .i64 k ∧ cur.length ≤ a.length + k ∧ rJoinG a b = rJoinG cur (b.drop k) ∧ Acc w cur v wr) (fun _ i _ => b.length - (intOf i).toNat)
  case atStart => exact ⟨0, a, Nat.zero_le _, rfl, by omega, by simp, HA0.out⟩
  case round =>
    obtain ⟨k, cur, hk, rfl, hpl, hp, ha⟩ := hrel
    have Hp := Lib.hid hp
    obtain ⟨Ac, cc, rfl, hsl, hcc⟩ := ha.slice
    have HA := Lib.hid ha
    have Hsl := Lib.hid hsl
    have Hcc := Lib.hid hcc
    clear hp ha hsl hcc
    by_cases hlt : k < b.length
    · obtain ⟨g, o, rfl, hg, c0, c1⟩ := tag_cells (Hs.out.below HA.out.2) (List.getElem?_eq_getElem hlt)
      have HK : Hid (rJoinG cur (b.drop k) = rJoinG (rJoinF cur b[k]) (b.drop (k + 1))) := Lib.hid (by rw [List.drop_eq_getElem_cons hlt]; rfl)
      have HT := Lib.hid (List.getElem?_eq_getElem hlt)
      generalize hz : b[k] = t at c0 c1 HK HT
      clear hz
      cases he : decide (numL cur t.nm < t.n)
      · have HN : Hid (rJoinG a b = rJoinG cur (b.drop (k + 1))) := Lib.hid (by rw [Hp.out, HK.out]; unfold rJoinF; rw [show decide (t.n > numL cur t.nm) = false from he]; rfl)
        clear HK Hp
        go_wp2_with fail
        go_quiet (exact Calls.quiet_of_same ((number_any _ _ cur t.nm _ (Hsl.out.below (below_drewN (Below.refl _ _) _)) (by omega)).mono (by rintro e w' ⟨rfl, rfl⟩; exact ⟨rfl, rfl⟩)))
        go_wp2_with fail
        go_roundw
        case rel => exact ⟨k + 1, cur, by omega, by go_num, by omega, HN.out, HA.out.drewN _⟩
        case measure => simp [intOf]; omega
      · have HN : Hid (rJoinG a b = rJoinG (withL cur t.nm t.n) (b.drop (k + 1))) := Lib.hid (by rw [Hp.out, HK.out]; unfold rJoinF; rw [show decide (t.n > numL cur t.nm) = true from he]; rfl)
        have hwl := withL_length cur t.nm t.n
        clear HK Hp
        go_wp2_with fail
        go_quiet (exact Calls.quiet_of_same ((number_any _ _ cur t.nm _ (Hsl.out.below (below_drewN (Below.refl _ _) _)) (by omega)).mono (by rintro e w' ⟨rfl, rfl⟩; exact ⟨rfl, rfl⟩)))
        go_wp2_with fail
        go_region_law (first | (go_simp; go_at_call 28; refine (with_any _ _ cur t.nm t.n _ (Hsl.out.below (by first | exact Below.refl _ _ | exact below_drewN (Below.refl _ _) _)) (by omega)).mono ?_; rintro e w2 ⟨v, rfl, ha⟩; try simp only []))
        all_goals
          have HA2 := Lib.hid (Acc.up (below_drewN HA.out.2 _) ha)
          clear ha
          go_wp2_with fail
          go_roundw
          case rel => exact ⟨k + 1, withL cur t.nm t.n, by omega, by go_num, by omega, HN.out, HA2.out⟩
          case measure => simp [intOf]; omega
    · have HN : Hid (rJoinL a b = cur.take 100) := Lib.hid (by unfold rJoinL; rw [Hp.out, List.drop_eq_nil_of_le (by omega)]; rfl)
      by_cases h100 : 100 < cur.length
      · have hd : decide ((100 : Int) < (cur.length : Int)) = true := by simp; omega
        have hcut := cut_hi (P := Try.prog) 22 42 i0 Try.underlying22 hi .i64 Ac cur.length cc 100 (by have := Hcc.out; omega)
        rw [show ((100 : Nat) : Int) = 100 from rfl] at hcut
        go_wp2_with fail
        go_ret
        exact ⟨_, rfl, by rw [HN.out]; exact HA.out.take (by omega)⟩
      · have hd : decide ((100 : Int) < (cur.length : Int)) = false := by simp; omega
        go_wp2_with fail
        go_ret
        exact ⟨_, rfl, by rw [HN.out, List.take_of_length_le (by omega)]; exact HA.out⟩
#print axioms refJoin_any
end Go.Proofs.Ytkfpnpfopinbkaa
