/-
  NamesChanges: the walk.
-/
import Derived.Test.YtkfpnpfopinbkaaRow
namespace Go.Proofs.Ytkfpnpfopinbkaa
open Go.RowKit
set_option linter.unusedVariables false

theorem AccS.sl {w0 wr : World} {l : List (List UInt8)} {A : Option Addr} {n c : Nat} (h : AccS w0 l (.slice A n c) wr) : Sl wr 1 A l.length (scells l) := by
  obtain ⟨A', c', h1, h2, _⟩ := h.slice
  injection h1 with h1
  subst h1
  exact h2
theorem TxtRet.acc {w w' : World} {l : List (List UInt8)} {en : Ending} (h : TxtRet w l en w') : ∃ A c, en = .returned (.slice A l.length c) ∧ AccS w l (.slice A l.length c) w' := by
  obtain ⟨v, rfl, h1⟩ := h
  obtain ⟨A, c, rfl, _⟩ := h1.slice
  exact ⟨A, c, rfl, h1⟩
theorem TagRet.acc {w w' : World} {l : List Tag} {en : Ending} (h : TagRet w l en w') : ∃ A c, en = .returned (.slice A l.length c) ∧ Acc w l (.slice A l.length c) w' := by
  obtain ⟨v, rfl, h1⟩ := h
  obtain ⟨A, c, rfl, _⟩ := h1.slice
  exact ⟨A, c, rfl, h1⟩

theorem listL_len (l : List Tag) : (listL l).length ≤ l.length := by
  induction l with
  | nil => simp [listL]
  | cons t l ih => unfold listL; split <;> simp <;> omega
theorem incC_len (l : List Tag) (s : List UInt8) : (incC l s).length ≤ l.length + 1 := by
  unfold incC
  split
  · split
    · simp
    · simp; omega
  · simp
theorem more_len {l : List Tag} {k : Nat} (h : l.length ≤ k) (s : List UInt8) : (moreL l s).length ≤ k + 1 := by
  unfold moreL; split
  · simp
  · have := incC_len l s; omega
theorem make_len {l : List Tag} {k : Nat} (h : l.length ≤ k) (s : List UInt8) : (makeL l s).length ≤ k + 1 := by
  unfold makeL; split
  · simp
  · split
    · simp
    · exact more_len h s
theorem drop_len {l : List Tag} {k : Nat} (h : l.length ≤ k) (s : List UInt8) : (dropL l s).length ≤ k + 1 := by
  unfold dropL; split
  · simp
  · exact more_len h s

set_option maxHeartbeats 2000000 in
theorem changes_walk (A : Option Addr) (c : Nat) (l : List Tag) (s : List UInt8) (own : Bool) (w : World) (hr : Sl w 2 A l.length (tcells l)) (hn : l.length ≤ 9223372036854775807) (hsz : ∀ t ∈ l, t.nm.length < 9223372036854775807) (hs : s.length ≤ 9223372036854775807) :
    Calls Try.prog 3 #[.slice A l.length c, .string (str s), .bool own] w fun e w' => e = .returned (.bool true) ∧ Below w.heap.size w w' := by
  have Hr := Lib.hid hr
  have Hsz := Lib.hid hsz
  clear hr hsz
  go_enter Try.func3, Try.ntmps3
  go_wp2_with fail
  refine (awake_any _).mono ?_
  rintro e w0 ⟨rfl, hb0⟩
  have B0 := Lib.hid hb0
  clear hb0
  go_wp2_with fail
  refine (made_any A c l _ (Hr.out.below B0.out) hn Hsz.out).mono ?_
  rintro e w1 ht
  obtain ⟨M, hM⟩ : ∃ M, madeL l = M := ⟨_, rfl⟩
  have hgd : Good M := hM ▸ made_good l
  have Hgd := Lib.hid hgd
  have hML : M.length ≤ 20 := hM ▸ made_le l
  rw [hM] at ht
  clear hM hgd
  obtain ⟨A1, c1, rfl, ha1⟩ := ht.acc
  have HA0 := Lib.hid (Acc.up B0.out ha1)
  clear ht ha1
  go_wp2_with fail
  refine (short_any s 60 _ hs (by omega)).mono ?_
  rintro e w' ⟨rfl, rfl⟩
  obtain ⟨S0, hS0⟩ : ∃ S, sh s 60 = S := ⟨_, rfl⟩
  have hSl0 : S0.length ≤ 60 := by rw [← hS0]; simp [sh]; omega
  rw [hS0]
  clear hS0
  cases own
  · go_wp2_with fail
    have hSl := hSl0
    have hgd := Hgd.out
    have hnn : ∀ t ∈ M, 0 ≤ t.n := fun t ht => by have := hgd.2 t ht; omega
    have Hnn := Lib.hid hnn
    obtain ⟨q1, q2⟩ := make_eq hgd.1 hgd.2 S0
    obtain ⟨q3, q4⟩ := drop_eq hgd.1 hgd.2 S0
    have q5 := hasC_eq hgd.1 S0
    have hm1 := make_len hML S0
    have hm2 := drop_len hML S0
    have RM := fun A c w hr => refMake_any A c M S0 w hr (by omega) hnn (by omega)
    have RD := fun A c w hr => refDrop_any A c M S0 w hr (by omega) hnn
    have RH := fun A c w hr => refHas_any A c M S0 w hr (by omega)
    rw [q1, q2] at RM
    rw [q3, q4] at RD
    rw [← q5] at RH
    have RM := Lib.hid RM
    have RD := Lib.hid RD
    have RH := Lib.hid RH
    clear hgd hnn q1 q2 q3 q4 q5
    refine (make_any A1 c1 M S0 _ HA0.out.sl (by omega) Hnn.out (by omega)).mono ?_
    rintro e w2 ht
    obtain ⟨A2, c2, rfl, ha2⟩ := ht.acc
    have HA2 := Lib.hid ha2
    have H2 := Lib.hid (HA0.out.below ha2.2)
    clear ht ha2
    go_wp2_with fail
    refine (RM.out A1 c1 _ H2.out.sl).mono ?_
    rintro e w3 ht
    obtain ⟨A3, c3, rfl, ha3⟩ := ht.acc
    have HA3 := Lib.hid ha3
    have H3 := Lib.hid (H2.out.below ha3.2)
    have HA23 := Lib.hid (HA2.out.below ha3.2)
    clear ht ha3
    go_wp2_with fail
    refine (same_any A2 A3 c2 c3 _ _ _ HA23.out.sl HA3.out.sl (by omega) (by omega)).mono ?_
    rintro e w4 ⟨rfl, hb4⟩
    have H4 := Lib.hid (H3.out.below hb4)
    rw [(sameT_iff _ _).2 rfl]
    clear hb4
    go_wp2_with fail
    refine (drop_any A1 c1 M S0 _ H4.out.sl (by omega) Hnn.out).mono ?_
    rintro e w5 ht
    obtain ⟨A5, c5, rfl, ha5⟩ := ht.acc
    have HA5 := Lib.hid ha5
    have H5 := Lib.hid (H4.out.below ha5.2)
    clear ht ha5
    go_wp2_with fail
    refine (RD.out A1 c1 _ H5.out.sl).mono ?_
    rintro e w6 ht
    obtain ⟨A6, c6, rfl, ha6⟩ := ht.acc
    have HA6 := Lib.hid ha6
    have H6 := Lib.hid (H5.out.below ha6.2)
    have HA56 := Lib.hid (HA5.out.below ha6.2)
    clear ht ha6
    go_wp2_with fail
    refine (same_any A5 A6 c5 c6 _ _ _ HA56.out.sl HA6.out.sl (by omega) (by omega)).mono ?_
    rintro e w7 ⟨rfl, hb7⟩
    have H7 := Lib.hid (H6.out.below hb7)
    rw [(sameT_iff _ _).2 rfl]
    clear hb7
    go_wp2_with fail
    refine (list_any A1 c1 M _ H7.out.sl (by omega)).mono ?_
    rintro e w8 ht
    obtain ⟨A8, c8, rfl, ha8⟩ := ht.acc
    have HA8 := Lib.hid ha8
    have H8 := Lib.hid (H7.out.below ha8.2)
    clear ht ha8
    go_wp2_with fail
    refine (refList_any A1 c1 M _ H8.out.sl (by omega)).mono ?_
    rintro e w9 ht
    obtain ⟨A9, c9, rfl, ha9⟩ := ht.acc
    have HA9 := Lib.hid ha9
    have H9 := Lib.hid (H8.out.below ha9.2)
    have HA89 := Lib.hid (HA8.out.below ha9.2)
    have hll := listL_len M
    clear ht ha9
    go_wp2_with fail
    refine (sameTexts_any A8 A9 c8 c9 _ _ _ HA89.out.sl HA9.out.sl (by omega) (by omega)).mono ?_
    rintro e w10 ⟨rfl, hb10⟩
    have H10 := Lib.hid (H9.out.below hb10)
    rw [(sameS_iff _ _).2 rfl]
    clear hb10
    go_wp2_with fail
    refine (has_any A1 c1 M S0 _ H10.out.sl (by omega)).mono ?_
    rintro e w11 ⟨rfl, hb11⟩
    have H11 := Lib.hid (H10.out.below hb11)
    clear hb11
    go_wp2_with fail
    refine (RH.out A1 c1 _ H11.out.sl).mono ?_
    rintro e w12 ⟨rfl, rfl⟩
    go_wp2_with fail
    go_ret
    exact ⟨by simp, H11.out.2⟩
  · have hcat := fun (W : World) => run_string_add_sum (P := Try.prog) W ⟨#[110]⟩ (str S0) (by rw [str_size, show (⟨#[110]⟩ : ByteArray).size = 1 from rfl]; omega)
    rw [str_cons] at hcat
    go_wp2_with fail
    refine (short_any (110 :: S0) 4 _ (by simp; omega) (by omega)).mono ?_
    rintro e w' ⟨rfl, rfl⟩
    obtain ⟨S, hS⟩ : ∃ S, sh (110 :: S0) 4 = S := ⟨_, rfl⟩
    have hSl : S.length ≤ 60 := by rw [← hS]; simp [sh]; omega
    rw [hS]
    clear hS hcat
    go_wp2_with fail
    have hgd := Hgd.out
    have hnn : ∀ t ∈ M, 0 ≤ t.n := fun t ht => by have := hgd.2 t ht; omega
    have Hnn := Lib.hid hnn
    obtain ⟨q1, q2⟩ := make_eq hgd.1 hgd.2 S
    obtain ⟨q3, q4⟩ := drop_eq hgd.1 hgd.2 S
    have q5 := hasC_eq hgd.1 S
    have hm1 := make_len hML S
    have hm2 := drop_len hML S
    have RM := fun A c w hr => refMake_any A c M S w hr (by omega) hnn (by omega)
    have RD := fun A c w hr => refDrop_any A c M S w hr (by omega) hnn
    have RH := fun A c w hr => refHas_any A c M S w hr (by omega)
    rw [q1, q2] at RM
    rw [q3, q4] at RD
    rw [← q5] at RH
    have RM := Lib.hid RM
    have RD := Lib.hid RD
    have RH := Lib.hid RH
    clear hgd hnn q1 q2 q3 q4 q5
    refine (make_any A1 c1 M S _ HA0.out.sl (by omega) Hnn.out (by omega)).mono ?_
    rintro e w2 ht
    obtain ⟨A2, c2, rfl, ha2⟩ := ht.acc
    have HA2 := Lib.hid ha2
    have H2 := Lib.hid (HA0.out.below ha2.2)
    clear ht ha2
    go_wp2_with fail
    refine (RM.out A1 c1 _ H2.out.sl).mono ?_
    rintro e w3 ht
    obtain ⟨A3, c3, rfl, ha3⟩ := ht.acc
    have HA3 := Lib.hid ha3
    have H3 := Lib.hid (H2.out.below ha3.2)
    have HA23 := Lib.hid (HA2.out.below ha3.2)
    clear ht ha3
    go_wp2_with fail
    refine (same_any A2 A3 c2 c3 _ _ _ HA23.out.sl HA3.out.sl (by omega) (by omega)).mono ?_
    rintro e w4 ⟨rfl, hb4⟩
    have H4 := Lib.hid (H3.out.below hb4)
    rw [(sameT_iff _ _).2 rfl]
    clear hb4
    go_wp2_with fail
    refine (drop_any A1 c1 M S _ H4.out.sl (by omega) Hnn.out).mono ?_
    rintro e w5 ht
    obtain ⟨A5, c5, rfl, ha5⟩ := ht.acc
    have HA5 := Lib.hid ha5
    have H5 := Lib.hid (H4.out.below ha5.2)
    clear ht ha5
    go_wp2_with fail
    refine (RD.out A1 c1 _ H5.out.sl).mono ?_
    rintro e w6 ht
    obtain ⟨A6, c6, rfl, ha6⟩ := ht.acc
    have HA6 := Lib.hid ha6
    have H6 := Lib.hid (H5.out.below ha6.2)
    have HA56 := Lib.hid (HA5.out.below ha6.2)
    clear ht ha6
    go_wp2_with fail
    refine (same_any A5 A6 c5 c6 _ _ _ HA56.out.sl HA6.out.sl (by omega) (by omega)).mono ?_
    rintro e w7 ⟨rfl, hb7⟩
    have H7 := Lib.hid (H6.out.below hb7)
    rw [(sameT_iff _ _).2 rfl]
    clear hb7
    go_wp2_with fail
    refine (list_any A1 c1 M _ H7.out.sl (by omega)).mono ?_
    rintro e w8 ht
    obtain ⟨A8, c8, rfl, ha8⟩ := ht.acc
    have HA8 := Lib.hid ha8
    have H8 := Lib.hid (H7.out.below ha8.2)
    clear ht ha8
    go_wp2_with fail
    refine (refList_any A1 c1 M _ H8.out.sl (by omega)).mono ?_
    rintro e w9 ht
    obtain ⟨A9, c9, rfl, ha9⟩ := ht.acc
    have HA9 := Lib.hid ha9
    have H9 := Lib.hid (H8.out.below ha9.2)
    have HA89 := Lib.hid (HA8.out.below ha9.2)
    have hll := listL_len M
    clear ht ha9
    go_wp2_with fail
    refine (sameTexts_any A8 A9 c8 c9 _ _ _ HA89.out.sl HA9.out.sl (by omega) (by omega)).mono ?_
    rintro e w10 ⟨rfl, hb10⟩
    have H10 := Lib.hid (H9.out.below hb10)
    rw [(sameS_iff _ _).2 rfl]
    clear hb10
    go_wp2_with fail
    refine (has_any A1 c1 M S _ H10.out.sl (by omega)).mono ?_
    rintro e w11 ⟨rfl, hb11⟩
    have H11 := Lib.hid (H10.out.below hb11)
    clear hb11
    go_wp2_with fail
    refine (RH.out A1 c1 _ H11.out.sl).mono ?_
    rintro e w12 ⟨rfl, rfl⟩
    go_wp2_with fail
    go_ret
    exact ⟨by simp, H11.out.2⟩
#print axioms changes_walk
end Go.Proofs.Ytkfpnpfopinbkaa
