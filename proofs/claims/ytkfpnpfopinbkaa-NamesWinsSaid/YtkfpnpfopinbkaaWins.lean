/-
  NamesWins: the walk.
-/
import Derived.Test.YtkfpnpfopinbkaaJoins
namespace Go.Proofs.Ytkfpnpfopinbkaa
open Go.RowKit
set_option linter.unusedVariables false

theorem Fine.mono {l : List Tag} {a b : Int} (h : Fine a l) (hab : a ≤ b) : Fine b l := ⟨h.1, fun t ht => by have := h.2 t ht; exact ⟨this.1, by omega⟩⟩
theorem Cat.up9 {w wr : World} {n : Nat} {l : List Tag} {A : Option Addr} {c : Nat} (h : Cat w 8 n l A c wr) : Cat w 9 n l A c wr := ⟨h.fine.mono (by omega), h.len, h.cap, h.acc⟩

theorem wins_has {X Y : List Tag} (hX : Fine 8 X) (hY : Fine 8 Y) (h1 : X.length ≤ 20) (h2 : Y.length ≤ 20) {s : List UInt8} (hs : okName s = true) :
    hasC (nextL (joinL X Y) s) s = !hasC (joinL X Y) s ∧ hasC (joinL (nextL (joinL X Y) s) Y) s = !hasC (joinL X Y) s ∧ hasC (joinL X (nextL (joinL X Y) s)) s = !hasC (joinL X Y) s := by
  have hJ := join_fine hX hY
  have hl := join_len X Y
  have hK := next_fine hJ (by omega) hs
  have hkl : (nextL (joinL X Y) s).length ≤ 41 := by
    have := withL_length (joinL X Y) s (numL (joinL X Y) s + 1)
    unfold nextL; omega
  have e0 := next_has hJ (by omega) s hs
  have n0 := next_num hJ.1.1 s
  have nj := num_join hX hY (by omega) s
  have n1 := num_join hK (hY.mono (by omega)) (by omega) s
  have n2 := num_join (hX.mono (by omega)) hK (by omega) s
  refine ⟨e0, ?_, ?_⟩
  · rw [hasC_eq (join_fine hK (hY.mono (by omega))).1.1, ← e0, hasC_eq hK.1.1]
    unfold hasL
    rw [n1, n0, nj]
    congr 2; omega
  · rw [hasC_eq (join_fine (hX.mono (by omega)) hK).1.1, ← e0, hasC_eq hK.1.1]
    unfold hasL
    rw [n2, n0, nj]
    congr 2; omega

set_option maxRecDepth 20000 in
set_option maxHeartbeats 4000000 in
theorem wins_walk (A : Option Addr) (c : Nat) (l : List Tag) (A' : Option Addr) (c' : Nat) (l' : List Tag) (s : List UInt8) (w : World) (hr : Sl w 2 A l.length (tcells l)) (hn : l.length ≤ 9223372036854775807) (hsz : ∀ t ∈ l, t.nm.length < 9223372036854775807)
    (hr' : Sl w 2 A' l'.length (tcells l')) (hn' : l'.length ≤ 9223372036854775807) (hsz' : ∀ t ∈ l', t.nm.length < 9223372036854775807) (hs : s.length < 9223372036854775807) :
    Calls Try.prog 5 #[.slice A l.length c, .slice A' l'.length c', .string (str s)] w fun e w' => e = .returned (.bool true) ∧ Below w.heap.size w w' := by
  have Hr := Lib.hid hr
  have Hsz := Lib.hid hsz
  have Hr' := Lib.hid hr'
  have Hsz' := Lib.hid hsz'
  clear hr hsz hr' hsz'
  go_enter Try.func5, Try.ntmps5
  go_wp2_with fail
  refine (awake_any _).mono ?_
  rintro e w0 ⟨rfl, hb0⟩
  have B0 := Lib.hid hb0
  clear hb0
  go_wp2_with fail
  refine (made_cat B0.out A c l (Hr.out.below B0.out) hn Hsz.out).mono ?_
  rintro e w1 ⟨Ax, cx, rfl, hx, hb⟩
  obtain ⟨X, hX⟩ : ∃ X, madeL l = X := ⟨_, rfl⟩
  rw [hX] at hx ⊢
  clear hX
  have B1 := Lib.hid hx.acc.2
  have X1 := Lib.hid hx
  clear hx hb
  go_wp2_with fail
  refine (made_cat B1.out A' c' l' (Hr'.out.below B1.out) hn' Hsz'.out).mono ?_
  rintro e w2 ⟨Ay, cy, rfl, hy, hb⟩
  obtain ⟨Y, hY⟩ : ∃ X, madeL l' = X := ⟨_, rfl⟩
  rw [hY] at hy ⊢
  clear hY
  have Y2 := Lib.hid hy
  have X2 := Lib.hid (X1.out.below hb)
  clear hy hb
  go_wp2_with fail
  refine (short_any s 9 _ (by omega) (by omega)).mono ?_
  rintro e w' ⟨rfl, rfl⟩
  obtain ⟨S0, hS0⟩ : ∃ S, sh s 9 = S := ⟨_, rfl⟩
  have hSl0 : S0.length ≤ 9 := by rw [← hS0]; simp [sh]; omega
  rw [hS0]
  clear hS0
  have hcat := fun (W : World) => run_string_add_sum (P := Try.prog) W ⟨#[110]⟩ (str S0) (by rw [str_size, show (⟨#[110]⟩ : ByteArray).size = 1 from rfl]; omega)
  rw [str_cons] at hcat
  go_wp2_with fail
  refine (short_any (110 :: S0) 4 _ (by simp; omega) (by omega)).mono ?_
  rintro e w' ⟨rfl, rfl⟩
  obtain ⟨S, hS⟩ : ∃ S, sh (110 :: S0) 4 = S := ⟨_, rfl⟩
  have hok : okName S = true := hS ▸ name4_ok S0
  have Hok := Lib.hid hok
  have hSl := okName_len hok
  rw [hS]
  clear hS hcat hok
  go_wp2_with fail
  refine (join_cat X2.out Y2.out (by omega)).mono ?_
  rintro e w4 ⟨Aj, cj, rfl, hj, hb⟩
  obtain ⟨g1, g2, g3⟩ := wins_has X2.out.fine Y2.out.fine X2.out.len Y2.out.len Hok.out
  obtain ⟨J, hJ⟩ : ∃ J, joinL X Y = J := ⟨_, rfl⟩
  rw [hJ] at hj g1 g2 g3 ⊢
  clear hJ
  have G1 := Lib.hid g1
  have G2 := Lib.hid g2
  have G3 := Lib.hid g3
  have J4 := Lib.hid hj
  have X4 := Lib.hid (X2.out.below hb)
  have Y4 := Lib.hid (Y2.out.below hb)
  clear hj hb g1 g2 g3
  go_wp2_with fail
  refine (has_any Aj cj J S _ J4.out.sl (by have := J4.out.len; omega)).mono ?_
  rintro e w5 ⟨rfl, hb⟩
  have J5 := Lib.hid (J4.out.below hb)
  have X5 := Lib.hid (X4.out.below hb)
  have Y5 := Lib.hid (Y4.out.below hb)
  clear hb
  cases hh : hasC J S
  · rw [hh] at G1 G2 G3
    obtain ⟨q1, q2⟩ := make_next J5.out.fine (by omega) (by omega) (by have := J5.out.len; omega) Hok.out hh
    have Q := make_any Aj cj J S w5 J5.out.sl (by have := J5.out.len; omega) (fun t ht => by have := J5.out.fine.1.2 t ht; omega) (by omega)
    rw [q1, q2] at Q
    have Q := Lib.hid Q
    clear q1 q2 hh
    go_wp2_with fail
    refine Q.out.mono ?_
    rintro e w6 ht
    obtain ⟨Ak, ck, rfl, hk⟩ := ht.acc
    have K6 := Lib.hid (show Cat w 9 41 (nextL J S) Ak ck w6 from ⟨next_fine J5.out.fine (by omega) Hok.out, by have := withL_length J S (numL J S + 1); have := J5.out.len; unfold nextL; omega, hk.cap, Acc.up J5.out.acc.2 hk⟩)
    have X6 := Lib.hid ((X5.out.below hk.2).up9)
    have Y6 := Lib.hid ((Y5.out.below hk.2).up9)
    clear ht hk Q
    go_wp2_with fail
    refine (has_any Ak ck (nextL J S) S _ K6.out.sl (by have := K6.out.len; omega)).mono ?_
    rintro e w7 ⟨rfl, hb⟩
    have K7 := Lib.hid (K6.out.below hb)
    have X7 := Lib.hid (X6.out.below hb)
    have Y7 := Lib.hid (Y6.out.below hb)
    clear hb
    rw [G1.out]
    go_wp2_with fail
    refine (join_cat K7.out Y7.out (by omega)).mono ?_
    rintro e w8 ⟨A8, c8, rfl, h8, hb⟩
    have R8 := Lib.hid h8
    have K8 := Lib.hid (K7.out.below hb)
    have X8 := Lib.hid (X7.out.below hb)
    clear h8 hb
    go_wp2_with fail
    refine (has_any A8 c8 (joinL (nextL J S) Y) S _ R8.out.sl (by have := R8.out.len; omega)).mono ?_
    rintro e w9 ⟨rfl, hb⟩
    have K9 := Lib.hid (K8.out.below hb)
    have X9 := Lib.hid (X8.out.below hb)
    clear hb
    rw [G2.out]
    go_wp2_with fail
    refine (join_cat X9.out K9.out (by omega)).mono ?_
    rintro e w10 ⟨A10, c10, rfl, h10, hb⟩
    have R10 := Lib.hid h10
    clear h10 hb
    go_wp2_with fail
    refine (has_any A10 c10 (joinL X (nextL J S)) S _ R10.out.sl (by have := R10.out.len; omega)).mono ?_
    rintro e w11 ⟨rfl, hb⟩
    have R11 := Lib.hid (R10.out.below hb)
    clear hb
    rw [G3.out]
    go_wp2_with fail
    go_ret
    exact ⟨rfl, R11.out.acc.2⟩
  · rw [hh] at G1 G2 G3
    obtain ⟨q1, q2⟩ := drop_next J5.out.fine (by omega) (by omega) (by have := J5.out.len; omega) hh
    have Q := drop_any Aj cj J S w5 J5.out.sl (by have := J5.out.len; omega) (fun t ht => by have := J5.out.fine.1.2 t ht; omega)
    rw [q1, q2] at Q
    have Q := Lib.hid Q
    clear q1 q2 hh
    go_wp2_with fail
    refine Q.out.mono ?_
    rintro e w6 ht
    obtain ⟨Ak, ck, rfl, hk⟩ := ht.acc
    have K6 := Lib.hid (show Cat w 9 41 (nextL J S) Ak ck w6 from ⟨next_fine J5.out.fine (by omega) Hok.out, by have := withL_length J S (numL J S + 1); have := J5.out.len; unfold nextL; omega, hk.cap, Acc.up J5.out.acc.2 hk⟩)
    have X6 := Lib.hid ((X5.out.below hk.2).up9)
    have Y6 := Lib.hid ((Y5.out.below hk.2).up9)
    clear ht hk Q
    go_wp2_with fail
    refine (has_any Ak ck (nextL J S) S _ K6.out.sl (by have := K6.out.len; omega)).mono ?_
    rintro e w7 ⟨rfl, hb⟩
    have K7 := Lib.hid (K6.out.below hb)
    have X7 := Lib.hid (X6.out.below hb)
    have Y7 := Lib.hid (Y6.out.below hb)
    clear hb
    rw [G1.out]
    go_wp2_with fail
    refine (join_cat K7.out Y7.out (by omega)).mono ?_
    rintro e w8 ⟨A8, c8, rfl, h8, hb⟩
    have R8 := Lib.hid h8
    have K8 := Lib.hid (K7.out.below hb)
    have X8 := Lib.hid (X7.out.below hb)
    clear h8 hb
    go_wp2_with fail
    refine (has_any A8 c8 (joinL (nextL J S) Y) S _ R8.out.sl (by have := R8.out.len; omega)).mono ?_
    rintro e w9 ⟨rfl, hb⟩
    have K9 := Lib.hid (K8.out.below hb)
    have X9 := Lib.hid (X8.out.below hb)
    clear hb
    rw [G2.out]
    go_wp2_with fail
    refine (join_cat X9.out K9.out (by omega)).mono ?_
    rintro e w10 ⟨A10, c10, rfl, h10, hb⟩
    have R10 := Lib.hid h10
    clear h10 hb
    go_wp2_with fail
    refine (has_any A10 c10 (joinL X (nextL J S)) S _ R10.out.sl (by have := R10.out.len; omega)).mono ?_
    rintro e w11 ⟨rfl, hb⟩
    have R11 := Lib.hid (R10.out.below hb)
    clear hb
    rw [G3.out]
    go_wp2_with fail
    go_ret
    exact ⟨rfl, R11.out.acc.2⟩

#print axioms wins_walk
end Go.Proofs.Ytkfpnpfopinbkaa
