/-
  NamesTurns: the walk.
-/
import Derived.Test.YtkfpnpfopinbkaaCount
namespace Go.Proofs.Ytkfpnpfopinbkaa
open Go.RowKit
set_option linter.unusedVariables false

theorem and15 (n : Int) : ∃ k : Nat, k ≤ 15 ∧ bits .and .i64 n 15 = k := by
  refine ⟨(BitVec.ofInt 64 n &&& BitVec.ofInt 64 15).toNat, ?_, ?_⟩
  · rw [BitVec.toNat_and]
    exact Nat.and_le_right
  · have h : (BitVec.ofInt 64 n &&& BitVec.ofInt 64 15).toNat ≤ 15 := by rw [BitVec.toNat_and]; exact Nat.and_le_right
    show IntKind.i64.wrap (((BitVec.ofInt 64 n &&& BitVec.ofInt 64 15).toNat : Nat) : Int) = _
    rw [IntKind.wrap_i64]; omega

/-- Where the turns stand: ahead of turn i. -/
structure At (w : World) (s : List UInt8) (others i : Nat) (M : List Tag) (v : Value) (wr : World) : Prop where
  fine : Fine (9 + i) M
  len : M.length ≤ 21 + i
  has : hasC M s = (i % 2 == 1)
  cnt : (listL M).length = others + i % 2
  acc : Acc w M v wr

theorem At.next {w wr w' : World} {s : List UInt8} {others i : Nat} {M : List Tag} {v v' : Value} (h : At w s others i M v wr) (hs : okName s = true) (ha : Acc w (nextL M s) v' w') : At w s others (i + 1) (nextL M s) v' w' := by
  refine ⟨?_, ?_, ?_, ?_, ha⟩
  · have := next_fine h.fine (by omega) hs
    rwa [Int.add_assoc] at this
  · have := withL_length M s (numL M s + 1)
    have h2 := h.len
    unfold nextL; omega
  · rw [next_has h.fine (by omega) s hs, h.has]
    rcases Nat.mod_two_eq_zero_or_one i with e | e
    · rw [show (i + 1) % 2 = 1 by omega, e]; rfl
    · rw [show (i + 1) % 2 = 0 by omega, e]; rfl
  · have := next_count h.fine (by omega) s
    rw [h.has, h.cnt] at this
    rcases Nat.mod_two_eq_zero_or_one i with e | e
    · rw [e] at this
      simp at this
      omega
    · rw [e] at this
      simp at this
      omega

theorem Fine.up {l : List Tag} {k : Nat} (h : Fine (9 + k) l) (hk : k ≤ 1000 := by omega) : Fine 1048576 l := ⟨h.1, fun t ht => by have := h.2 t ht; exact ⟨this.1, by omega⟩⟩
theorem At.below {w wr w' : World} {s : List UInt8} {others i : Nat} {M : List Tag} {v : Value} (h : At w s others i M v wr) (hb : Below wr.heap.size wr w') : At w s others i M v w' := ⟨h.fine, h.len, h.has, h.cnt, h.acc.below hb⟩

set_option maxHeartbeats 4000000 in
theorem turns_walk (A : Option Addr) (c : Nat) (l : List Tag) (s : List UInt8) (times : Int) (w : World) (hr : Sl w 2 A l.length (tcells l)) (hn : l.length ≤ 9223372036854775807) (hsz : ∀ t ∈ l, t.nm.length < 9223372036854775807) (hs : s.length < 9223372036854775807) :
    Calls Try.prog 4 #[.slice A l.length c, .string (str s), .int .i64 times] w fun e w' => e = .returned (.bool true) ∧ Below w.heap.size w w' := by
  have Hr := Lib.hid hr
  have Hsz := Lib.hid hsz
  obtain ⟨T, hT15, hT⟩ := and15 times
  clear hr hsz
  have hcat := fun (W : World) => run_string_add_sum (P := Try.prog) W ⟨#[110]⟩ (str s) (by rw [str_size, show (⟨#[110]⟩ : ByteArray).size = 1 from rfl]; omega)
  rw [str_cons] at hcat
  go_enter Try.func4, Try.ntmps4
  go_wp2_with fail
  refine (awake_any _).mono ?_
  rintro e w0 ⟨rfl, hb0⟩
  have B0 := Lib.hid hb0
  clear hb0
  go_wp2_with fail
  refine (made_any A c l _ (Hr.out.below B0.out) hn Hsz.out).mono ?_
  rintro e w1 ht
  obtain ⟨M, hM⟩ : ∃ M, madeL l = M := ⟨_, rfl⟩
  have hfm : Fine 8 M := hM ▸ made_fine l
  have hML : M.length ≤ 20 := hM ▸ made_le l
  have Hfm := Lib.hid hfm
  rw [hM] at ht
  clear hM hfm
  obtain ⟨A1, c1, rfl, ha1⟩ := ht.acc
  have HA0 := Lib.hid (Acc.up B0.out ha1)
  clear ht ha1
  go_wp2_with fail
  refine (short_any (110 :: s) 4 _ (by simp; omega) (by omega)).mono ?_
  rintro e w' ⟨rfl, rfl⟩
  obtain ⟨S, hS⟩ : ∃ S, sh (110 :: s) 4 = S := ⟨_, rfl⟩
  have hok : okName S = true := hS ▸ name4_ok s
  have Hok := Lib.hid hok
  have hSl := okName_len hok
  rw [hS]
  clear hS hcat hok
  go_wp2_with fail
  refine (list_any A1 c1 M _ HA0.out.sl (by omega)).mono ?_
  rintro e w2 ht
  obtain ⟨A2, c2, rfl, ha2⟩ := ht.acc
  have H2 := Lib.hid (HA0.out.below ha2.2)
  have hll := listL_len M
  clear ht ha2
  go_wp2_with fail
  refine (has_any A1 c1 M S _ H2.out.sl (by omega)).mono ?_
  rintro e w3 ⟨rfl, hb3⟩
  have H3 := Lib.hid (H2.out.below hb3)
  clear hb3
  cases hh : hasC M S
  · have h0 := Lib.hid (show At w S (listL M).length 0 M (.slice A1 M.length c1) w3 from ⟨⟨Hfm.out.1, fun t ht => by have := Hfm.out.2 t ht; exact ⟨this.1, by omega⟩⟩, by omega, by rw [hh]; rfl, rfl, H3.out⟩)
    clear hh
    obtain ⟨others, ho⟩ : ∃ o, (listL M).length = o := ⟨_, rfl⟩
    rw [ho] at h0 hll ⊢
    clear ho
    have hml := hML
    go_wp2_with fail
    go_loopw [8, 12] (fun v i wr => ∃ (k : Nat) (M : List Tag), k ≤ T ∧ i = .int .i64 k ∧ At w S others k M v wr) (fun _ i _ => T - (intOf i).toNat)
    case atStart => exact ⟨0, _, Nat.zero_le _, rfl, h0.out⟩
    case round =>
      clear hml
      obtain ⟨k, M, hk, rfl, hat⟩ := hrel
      obtain ⟨Ac, cc, rfl, -, -⟩ := hat.acc.slice
      have HT := Lib.hid hat
      have hlen := hat.len
      clear hat
      by_cases hlt : k < T
      · have hnl := withL_length M S (numL M S + 1)
        have hnl2 : (nextL M S).length ≤ M.length + 1 := hnl
        have hfin := HT.out.fine
        rcases Nat.mod_two_eq_zero_or_one k with hp | hp
        · have hm : (k : Int).tmod 2 = 0 := by rw [Int.tmod_eq_emod_of_nonneg (by omega)]; omega
          have hh : hasC M S = false := by rw [HT.out.has, hp]; rfl
          obtain ⟨q1, q2⟩ := make_next hfin (by omega) (by omega) (by omega) Hok.out hh
          have hx : hasC (nextL M S) S = true := by rw [next_has hfin (by omega) S Hok.out, hh]; rfl
          have Mk := make_any Ac cc M S wr HT.out.acc.sl (by omega) (fun t ht => by have := hfin.1.2 t ht; omega) (by omega)
          rw [q1, q2] at Mk
          have Mk := Lib.hid Mk
          clear q1 q2 hh hfin hnl
          go_wp2_with fail
          refine Mk.out.mono ?_
          rintro e w5 ht
          obtain ⟨A5, c5, rfl, ha5⟩ := ht.acc
          have H5 := Lib.hid (HT.out.next Hok.out (Acc.up HT.out.acc.2 ha5))
          clear ht ha5 Mk
          go_wp2_with fail
          refine (has_any A5 c5 (nextL M S) S _ H5.out.acc.sl (by omega)).mono ?_
          rintro e w6 ⟨rfl, hb6⟩
          have H6 := Lib.hid (H5.out.below hb6)
          clear hb6
          rw [hx]
          clear hx
          go_wp2_with fail
          refine (list_any A5 c5 (nextL M S) _ H6.out.acc.sl (by omega)).mono ?_
          rintro e w7 ht
          obtain ⟨A7, c7, rfl, ha7⟩ := ht.acc
          have H7 := Lib.hid (H6.out.below ha7.2)
          have hcn := H7.out.cnt
          clear ht ha7
          rw [show (k + 1) % 2 = 1 by omega] at hcn
          rw [hcn]
          clear hcn
          go_wp2_with fail
          refine (check_ok A5 c5 (nextL M S) _ H7.out.acc.sl (by omega) H7.out.fine.up).mono ?_
          rintro e w8 ⟨rfl, hb8⟩
          have H8 := Lib.hid (H7.out.below hb8)
          clear hb8
          go_wp2_with fail
          go_roundw
          case rel => exact ⟨k + 1, nextL M S, by omega, by go_num, H8.out⟩
          case measure => simp [intOf]; omega
        · have hm : (k : Int).tmod 2 = 1 := by rw [Int.tmod_eq_emod_of_nonneg (by omega)]; omega
          have hh : hasC M S = true := by rw [HT.out.has, hp]; rfl
          obtain ⟨q1, q2⟩ := make_has Hok.out hh
          obtain ⟨q3, q4⟩ := drop_next hfin (by omega) (by omega) (by omega) hh
          have hx : hasC (nextL M S) S = false := by rw [next_has hfin (by omega) S Hok.out, hh]; rfl
          have Mk := make_any Ac cc M S wr HT.out.acc.sl (by omega) (fun t ht => by have := hfin.1.2 t ht; omega) (by omega)
          rw [q1, q2] at Mk
          have Mk := Lib.hid Mk
          have Dk := fun wq hsl => drop_any Ac cc M S wq hsl (by omega) (fun t ht => by have := hfin.1.2 t ht; omega)
          rw [q3, q4] at Dk
          have Dk := Lib.hid Dk
          clear q1 q2 q3 q4 hh hfin hnl
          go_wp2_with fail
          refine Mk.out.mono ?_
          rintro e w4 ht
          obtain ⟨A4, c4, rfl, ha4⟩ := ht.acc
          have H4 := Lib.hid (HT.out.below ha4.2)
          clear ht ha4 Mk
          go_wp2_with fail
          refine (Dk.out _ H4.out.acc.sl).mono ?_
          rintro e w5 ht
          obtain ⟨A5, c5, rfl, ha5⟩ := ht.acc
          have H5 := Lib.hid (H4.out.next Hok.out (Acc.up H4.out.acc.2 ha5))
          clear ht ha5 Dk
          go_wp2_with fail
          refine (has_any A5 c5 (nextL M S) S _ H5.out.acc.sl (by omega)).mono ?_
          rintro e w6 ⟨rfl, hb6⟩
          have H6 := Lib.hid (H5.out.below hb6)
          clear hb6
          rw [hx]
          clear hx
          go_wp2_with fail
          refine (list_any A5 c5 (nextL M S) _ H6.out.acc.sl (by omega)).mono ?_
          rintro e w7 ht
          obtain ⟨A7, c7, rfl, ha7⟩ := ht.acc
          have H7 := Lib.hid (H6.out.below ha7.2)
          have hcn := H7.out.cnt
          clear ht ha7
          rw [show (k + 1) % 2 = 0 by omega] at hcn
          rw [hcn]
          clear hcn
          go_wp2_with fail
          refine (check_ok A5 c5 (nextL M S) _ H7.out.acc.sl (by omega) H7.out.fine.up).mono ?_
          rintro e w8 ⟨rfl, hb8⟩
          have H8 := Lib.hid (H7.out.below hb8)
          clear hb8
          go_wp2_with fail
          go_roundw
          case rel => exact ⟨k + 1, nextL M S, by omega, by go_num, H8.out⟩
          case measure => simp [intOf]; omega
      · go_wp2_with fail
        go_ret
        exact ⟨rfl, HT.out.acc.2⟩
  · have h0 := Lib.hid (show ∀ v' w', Acc w (nextL M S) v' w' → At w S ((listL M).length - 1) 0 (nextL M S) v' w' from fun v' w' ha => by
      refine ⟨next_fine Hfm.out (by omega) Hok.out, ?_, ?_, ?_, ha⟩
      · have := withL_length M S (numL M S + 1)
        unfold nextL; omega
      · rw [next_has Hfm.out (by omega) S Hok.out, hh]; rfl
      · have := next_count Hfm.out (by omega) S
        rw [hh] at this
        simp at this
        omega)
    have HP := Lib.hid (show 1 ≤ (listL M).length by
      have := next_count Hfm.out (by omega) S
      rw [hh] at this
      simp at this
      omega)
    obtain ⟨d1, d2⟩ := drop_next Hfm.out (by omega) (by omega) (by omega) hh
    clear hh
    have Dk := drop_any A1 c1 M S w3 H3.out.sl (by omega) (fun t ht => by have := Hfm.out.1.2 t ht; omega)
    rw [d1, d2] at Dk
    have Dk := Lib.hid Dk
    clear d1 d2
    have hml := hML
    go_wp2_with fail
    refine Dk.out.mono ?_
    rintro e w3' ht
    obtain ⟨A3', c3', rfl, ha3'⟩ := ht.acc
    have h0' := Lib.hid (h0.out _ _ (Acc.up H3.out.2 ha3'))
    obtain ⟨o1, ho1⟩ : ∃ o, (listL M).length = o := ⟨_, rfl⟩
    have hpos : 0 < o1 := by
      rw [← ho1]
      have := HP.out
      omega
    obtain ⟨others, ho⟩ : ∃ o, o1 - 1 = o := ⟨_, rfl⟩
    rw [ho1] at h0' hll ⊢
    rw [ho] at h0'
    have ho' : (o1 : Int) - 1 = others := by omega
    clear ht ha3' Dk h0 ho1 ho
    go_wp2_with fail
    go_loopw [8, 12] (fun v i wr => ∃ (k : Nat) (M : List Tag), k ≤ T ∧ i = .int .i64 k ∧ At w S others k M v wr) (fun _ i _ => T - (intOf i).toNat)
    case atStart => exact ⟨0, _, Nat.zero_le _, rfl, h0'.out⟩
    case round =>
      clear hml
      obtain ⟨k, M, hk, rfl, hat⟩ := hrel
      obtain ⟨Ac, cc, rfl, -, -⟩ := hat.acc.slice
      have HT := Lib.hid hat
      have hlen := hat.len
      clear hat
      by_cases hlt : k < T
      · have hnl := withL_length M S (numL M S + 1)
        have hnl2 : (nextL M S).length ≤ M.length + 1 := hnl
        have hfin := HT.out.fine
        rcases Nat.mod_two_eq_zero_or_one k with hp | hp
        · have hm : (k : Int).tmod 2 = 0 := by rw [Int.tmod_eq_emod_of_nonneg (by omega)]; omega
          have hh : hasC M S = false := by rw [HT.out.has, hp]; rfl
          obtain ⟨q1, q2⟩ := make_next hfin (by omega) (by omega) (by omega) Hok.out hh
          have hx : hasC (nextL M S) S = true := by rw [next_has hfin (by omega) S Hok.out, hh]; rfl
          have Mk := make_any Ac cc M S wr HT.out.acc.sl (by omega) (fun t ht => by have := hfin.1.2 t ht; omega) (by omega)
          rw [q1, q2] at Mk
          have Mk := Lib.hid Mk
          clear q1 q2 hh hfin hnl
          go_wp2_with fail
          refine Mk.out.mono ?_
          rintro e w5 ht
          obtain ⟨A5, c5, rfl, ha5⟩ := ht.acc
          have H5 := Lib.hid (HT.out.next Hok.out (Acc.up HT.out.acc.2 ha5))
          clear ht ha5 Mk
          go_wp2_with fail
          refine (has_any A5 c5 (nextL M S) S _ H5.out.acc.sl (by omega)).mono ?_
          rintro e w6 ⟨rfl, hb6⟩
          have H6 := Lib.hid (H5.out.below hb6)
          clear hb6
          rw [hx]
          clear hx
          go_wp2_with fail
          refine (list_any A5 c5 (nextL M S) _ H6.out.acc.sl (by omega)).mono ?_
          rintro e w7 ht
          obtain ⟨A7, c7, rfl, ha7⟩ := ht.acc
          have H7 := Lib.hid (H6.out.below ha7.2)
          have hcn := H7.out.cnt
          clear ht ha7
          rw [show (k + 1) % 2 = 1 by omega] at hcn
          rw [hcn]
          clear hcn
          go_wp2_with fail
          refine (check_ok A5 c5 (nextL M S) _ H7.out.acc.sl (by omega) H7.out.fine.up).mono ?_
          rintro e w8 ⟨rfl, hb8⟩
          have H8 := Lib.hid (H7.out.below hb8)
          clear hb8
          go_wp2_with fail
          go_roundw
          case rel => exact ⟨k + 1, nextL M S, by omega, by go_num, H8.out⟩
          case measure => simp [intOf]; omega
        · have hm : (k : Int).tmod 2 = 1 := by rw [Int.tmod_eq_emod_of_nonneg (by omega)]; omega
          have hh : hasC M S = true := by rw [HT.out.has, hp]; rfl
          obtain ⟨q1, q2⟩ := make_has Hok.out hh
          obtain ⟨q3, q4⟩ := drop_next hfin (by omega) (by omega) (by omega) hh
          have hx : hasC (nextL M S) S = false := by rw [next_has hfin (by omega) S Hok.out, hh]; rfl
          have Mk := make_any Ac cc M S wr HT.out.acc.sl (by omega) (fun t ht => by have := hfin.1.2 t ht; omega) (by omega)
          rw [q1, q2] at Mk
          have Mk := Lib.hid Mk
          have Dk := fun wq hsl => drop_any Ac cc M S wq hsl (by omega) (fun t ht => by have := hfin.1.2 t ht; omega)
          rw [q3, q4] at Dk
          have Dk := Lib.hid Dk
          clear q1 q2 q3 q4 hh hfin hnl
          go_wp2_with fail
          refine Mk.out.mono ?_
          rintro e w4 ht
          obtain ⟨A4, c4, rfl, ha4⟩ := ht.acc
          have H4 := Lib.hid (HT.out.below ha4.2)
          clear ht ha4 Mk
          go_wp2_with fail
          refine (Dk.out _ H4.out.acc.sl).mono ?_
          rintro e w5 ht
          obtain ⟨A5, c5, rfl, ha5⟩ := ht.acc
          have H5 := Lib.hid (H4.out.next Hok.out (Acc.up H4.out.acc.2 ha5))
          clear ht ha5 Dk
          go_wp2_with fail
          refine (has_any A5 c5 (nextL M S) S _ H5.out.acc.sl (by omega)).mono ?_
          rintro e w6 ⟨rfl, hb6⟩
          have H6 := Lib.hid (H5.out.below hb6)
          clear hb6
          rw [hx]
          clear hx
          go_wp2_with fail
          refine (list_any A5 c5 (nextL M S) _ H6.out.acc.sl (by omega)).mono ?_
          rintro e w7 ht
          obtain ⟨A7, c7, rfl, ha7⟩ := ht.acc
          have H7 := Lib.hid (H6.out.below ha7.2)
          have hcn := H7.out.cnt
          clear ht ha7
          rw [show (k + 1) % 2 = 0 by omega] at hcn
          rw [hcn]
          clear hcn
          go_wp2_with fail
          refine (check_ok A5 c5 (nextL M S) _ H7.out.acc.sl (by omega) H7.out.fine.up).mono ?_
          rintro e w8 ⟨rfl, hb8⟩
          have H8 := Lib.hid (H7.out.below hb8)
          clear hb8
          go_wp2_with fail
          go_roundw
          case rel => exact ⟨k + 1, nextL M S, by omega, by go_num, H8.out⟩
          case measure => simp [intOf]; omega
      · go_wp2_with fail
        go_ret
        exact ⟨rfl, HT.out.acc.2⟩
#print axioms turns_walk
end Go.Proofs.Ytkfpnpfopinbkaa
