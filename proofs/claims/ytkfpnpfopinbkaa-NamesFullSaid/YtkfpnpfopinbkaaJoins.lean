/-
  NamesJoins, NamesWins: the walks.
-/
import Derived.Test.YtkfpnpfopinbkaaJoinPlain
import Derived.Test.YtkfpnpfopinbkaaTurns
namespace Go.Proofs.Ytkfpnpfopinbkaa
open Go.RowKit
set_option linter.unusedVariables false

/-- A catalogue of the call's own, with its slice. -/
structure Cat (w : World) (k : Int) (n : Nat) (l : List Tag) (A : Option Addr) (c : Nat) (wr : World) : Prop where
  fine : Fine k l
  len : l.length ≤ n
  cap : l.length ≤ c
  acc : Acc w l (.slice A l.length c) wr

theorem Acc.cap {w0 wr : World} {l : List Tag} {A : Option Addr} {n c : Nat} (h : Acc w0 l (.slice A n c) wr) : l.length ≤ c := by
  obtain ⟨A', c', h1, _, h2⟩ := h.slice
  injection h1 with _ _ h1
  omega
theorem Cat.below {w wr w' : World} {k : Int} {n : Nat} {l : List Tag} {A : Option Addr} {c : Nat} (h : Cat w k n l A c wr) (hb : Below wr.heap.size wr w') : Cat w k n l A c w' := ⟨h.fine, h.len, h.cap, h.acc.below hb⟩
theorem Cat.sl {w wr : World} {k : Int} {n : Nat} {l : List Tag} {A : Option Addr} {c : Nat} (h : Cat w k n l A c wr) : Sl wr 2 A l.length (tcells l) := h.acc.sl

/-- made, as a catalogue. -/
theorem made_cat {w0 w : World} (hb : Below w0.heap.size w0 w) (A : Option Addr) (c : Nat) (l : List Tag) (hr : Sl w 2 A l.length (tcells l)) (hn : l.length ≤ 9223372036854775807) (hsz : ∀ t ∈ l, t.nm.length < 9223372036854775807) :
    Calls Try.prog 9 #[.slice A l.length c] w fun e w' => ∃ A1 c1, e = .returned (.slice A1 (madeL l).length c1) ∧ Cat w0 8 20 (madeL l) A1 c1 w' ∧ Below w.heap.size w w' :=
  (made_any A c l w hr hn hsz).mono fun e w' ht => by
    obtain ⟨A1, c1, rfl, ha⟩ := ht.acc
    exact ⟨A1, c1, rfl, ⟨made_fine l, made_le l, ha.cap, Acc.up hb ha⟩, ha.2⟩

/-- Join, as a catalogue. -/
theorem join_cat {w0 w : World} {k : Int} {n m : Nat} {a b : List Tag} {A B : Option Addr} {c d : Nat} (ha : Cat w0 k n a A c w) (hb : Cat w0 k m b B d w) (h : n + m ≤ 100) :
    Calls Try.prog 22 #[.slice A a.length c, .slice B b.length d] w fun e w' => ∃ A1 c1, e = .returned (.slice A1 (joinL a b).length c1) ∧ Cat w0 k (n + m) (joinL a b) A1 c1 w' ∧ Below w.heap.size w w' :=
  (join_any A B c d a b w ha.sl hb.sl ha.cap hb.cap (by have := ha.len; omega) (by have := hb.len; omega)).mono fun e w' ht => by
    obtain ⟨A1, c1, rfl, hj⟩ := ht.acc
    exact ⟨A1, c1, rfl, ⟨join_fine ha.fine hb.fine, by have := join_len a b; have := ha.len; have := hb.len; omega, hj.cap, Acc.up ha.acc.2 hj⟩, hj.2⟩
theorem refJoin_cat {w0 w : World} {k : Int} {n m : Nat} {a b : List Tag} {A B : Option Addr} {c d : Nat} (ha : Cat w0 k n a A c w) (hb : Cat w0 k m b B d w) (h : n + m ≤ 100) :
    Calls Try.prog 23 #[.slice A a.length c, .slice B b.length d] w fun e w' => ∃ A1 c1, e = .returned (.slice A1 (joinL a b).length c1) ∧ Cat w0 k (n + m) (joinL a b) A1 c1 w' ∧ Below w.heap.size w w' :=
  (refJoin_any A B c d a b w ha.sl hb.sl (by have := ha.len; omega) (by have := hb.len; omega)).mono fun e w' ht => by
    rw [rJoin_eq ha.fine hb.fine (by have := ha.len; have := hb.len; omega)] at ht
    obtain ⟨A1, c1, rfl, hj⟩ := ht.acc
    exact ⟨A1, c1, rfl, ⟨join_fine ha.fine hb.fine, by have := join_len a b; have := ha.len; have := hb.len; omega, hj.cap, Acc.up ha.acc.2 hj⟩, hj.2⟩
theorem same_cat {w0 w : World} {k : Int} {n m : Nat} {a b : List Tag} {A B : Option Addr} {c d : Nat} (ha : Cat w0 k n a A c w) (hb : Cat w0 k m b B d w) (h : a = b) (hn : n ≤ 1000) (hm : m ≤ 1000) :
    Calls Try.prog 13 #[.slice A a.length c, .slice B b.length d] w fun e w' => e = .returned (.bool true) ∧ Below w.heap.size w w' :=
  (same_any A B c d a b w ha.sl hb.sl (by have := ha.len; omega) (by have := hb.len; omega)).mono fun e w' ht => by
    rw [(sameT_iff a b).2 h] at ht
    exact ht

set_option maxRecDepth 20000 in
set_option maxHeartbeats 4000000 in
theorem joins_walk (A : Option Addr) (c : Nat) (l : List Tag) (A' : Option Addr) (c' : Nat) (l' : List Tag) (A'' : Option Addr) (c'' : Nat) (l'' : List Tag) (w : World) (hr : Sl w 2 A l.length (tcells l)) (hn : l.length ≤ 9223372036854775807) (hsz : ∀ t ∈ l, t.nm.length < 9223372036854775807)
    (hr' : Sl w 2 A' l'.length (tcells l')) (hn' : l'.length ≤ 9223372036854775807) (hsz' : ∀ t ∈ l', t.nm.length < 9223372036854775807)
    (hr'' : Sl w 2 A'' l''.length (tcells l'')) (hn'' : l''.length ≤ 9223372036854775807) (hsz'' : ∀ t ∈ l'', t.nm.length < 9223372036854775807) :
    Calls Try.prog 6 #[.slice A l.length c, .slice A' l'.length c', .slice A'' l''.length c''] w fun e w' => e = .returned (.bool true) ∧ Below w.heap.size w w' := by
  have Hr := Lib.hid hr
  have Hsz := Lib.hid hsz
  have Hr' := Lib.hid hr'
  have Hsz' := Lib.hid hsz'
  have Hr'' := Lib.hid hr''
  have Hsz'' := Lib.hid hsz''
  clear hr hsz hr' hsz' hr'' hsz''
  go_enter Try.func6, Try.ntmps6
  go_wp2_with fail
  refine (awake_any _).mono ?_
  rintro e w0 ⟨rfl, hb0⟩
  have B0 := Lib.hid hb0
  clear hb0
  go_wp2_with fail
  refine (made_cat B0.out A c l (Hr.out.below B0.out) hn Hsz.out).mono ?_
  rintro e w1 ⟨Ax, cx, rfl, hx, hb⟩
  obtain ⟨X, hX⟩ : ∃ X, madeL l = X := ⟨_, rfl⟩
  rw [hX] at hx ⊢
  clear hX
  have B1 := Lib.hid hx.acc.2
  have X1 := Lib.hid hx
  clear hx hb
  go_wp2_with fail
  refine (made_cat B1.out A' c' l' (Hr'.out.below B1.out) hn' Hsz'.out).mono ?_
  rintro e w2 ⟨Ay, cy, rfl, hy, hb⟩
  obtain ⟨Y, hY⟩ : ∃ X, madeL l' = X := ⟨_, rfl⟩
  rw [hY] at hy ⊢
  clear hY
  have B2 := Lib.hid hy.acc.2
  have Y2 := Lib.hid hy
  have X2 := Lib.hid (X1.out.below hb)
  clear hy hb
  go_wp2_with fail
  refine (made_cat B2.out A'' c'' l'' (Hr''.out.below B2.out) hn'' Hsz''.out).mono ?_
  rintro e w3 ⟨Az, cz, rfl, hz, hb⟩
  obtain ⟨Z, hZ⟩ : ∃ X, madeL l'' = X := ⟨_, rfl⟩
  rw [hZ] at hz ⊢
  clear hZ
  have Z3 := Lib.hid hz
  have X3 := Lib.hid (X2.out.below hb)
  have Y3 := Lib.hid (Y2.out.below hb)
  clear hz hb
  go_wp2_with fail
  refine (join_cat X3.out Y3.out (by omega)).mono ?_
  rintro e w4 ⟨Axy, cxy, rfl, hxy, hb⟩
  have XY4 := Lib.hid hxy
  have X4 := Lib.hid (X3.out.below hb)
  have Y4 := Lib.hid (Y3.out.below hb)
  have Z4 := Lib.hid (Z3.out.below hb)
  clear hxy hb
  go_wp2_with fail
  refine (refJoin_cat X4.out Y4.out (by omega)).mono ?_
  rintro e w5 ⟨A5, c5, rfl, h5, hb⟩
  have R5 := Lib.hid h5
  have XY5 := Lib.hid (XY4.out.below hb)
  have X5 := Lib.hid (X4.out.below hb)
  have Y5 := Lib.hid (Y4.out.below hb)
  have Z5 := Lib.hid (Z4.out.below hb)
  clear h5 hb
  go_wp2_with fail
  refine (same_cat XY5.out R5.out rfl (by omega) (by omega)).mono ?_
  rintro e w6 ⟨rfl, hb⟩
  have XY6 := Lib.hid (XY5.out.below hb)
  have X6 := Lib.hid (X5.out.below hb)
  have Y6 := Lib.hid (Y5.out.below hb)
  have Z6 := Lib.hid (Z5.out.below hb)
  clear hb
  go_wp2_with fail
  refine (join_cat Y6.out X6.out (by omega)).mono ?_
  rintro e w7 ⟨A7, c7, rfl, h7, hb⟩
  have R7 := Lib.hid h7
  have XY7 := Lib.hid (XY6.out.below hb)
  have X7 := Lib.hid (X6.out.below hb)
  have Y7 := Lib.hid (Y6.out.below hb)
  have Z7 := Lib.hid (Z6.out.below hb)
  clear h7 hb
  go_wp2_with fail
  refine (same_cat XY7.out R7.out (join_comm X7.out.fine Y7.out.fine (by have := X7.out.len; have := Y7.out.len; omega)).symm (by omega) (by omega)).mono ?_
  rintro e w8 ⟨rfl, hb⟩
  have XY8 := Lib.hid (XY7.out.below hb)
  have X8 := Lib.hid (X7.out.below hb)
  have Y8 := Lib.hid (Y7.out.below hb)
  have Z8 := Lib.hid (Z7.out.below hb)
  clear hb
  go_wp2_with fail
  refine (join_cat XY8.out Z8.out (by omega)).mono ?_
  rintro e w9 ⟨A9, c9, rfl, h9, hb⟩
  have R9 := Lib.hid h9
  have XY9 := Lib.hid (XY8.out.below hb)
  have X9 := Lib.hid (X8.out.below hb)
  have Y9 := Lib.hid (Y8.out.below hb)
  have Z9 := Lib.hid (Z8.out.below hb)
  clear h9 hb
  go_wp2_with fail
  refine (join_cat Y9.out Z9.out (by omega)).mono ?_
  rintro e w10 ⟨A10, c10, rfl, h10, hb⟩
  have YZ10 := Lib.hid h10
  have R10 := Lib.hid (R9.out.below hb)
  have XY10 := Lib.hid (XY9.out.below hb)
  have X10 := Lib.hid (X9.out.below hb)
  clear h10 hb
  go_wp2_with fail
  refine (join_cat X10.out YZ10.out (by omega)).mono ?_
  rintro e w11 ⟨A11, c11, rfl, h11, hb⟩
  have S11 := Lib.hid h11
  have R11 := Lib.hid (R10.out.below hb)
  have XY11 := Lib.hid (XY10.out.below hb)
  have X11 := Lib.hid (X10.out.below hb)
  clear h11 hb
  go_wp2_with fail
  refine (same_cat R11.out S11.out (join_assoc X9.out.fine Y9.out.fine Z9.out.fine (by have := X9.out.len; have := Y9.out.len; have := Z9.out.len; omega)) (by omega) (by omega)).mono ?_
  rintro e w12 ⟨rfl, hb⟩
  have XY12 := Lib.hid (XY11.out.below hb)
  have X12 := Lib.hid (X11.out.below hb)
  clear hb
  go_wp2_with fail
  refine (join_cat X12.out X12.out (by omega)).mono ?_
  rintro e w13 ⟨A13, c13, rfl, h13, hb⟩
  have R13 := Lib.hid h13
  have XY13 := Lib.hid (XY12.out.below hb)
  have X13 := Lib.hid (X12.out.below hb)
  clear h13 hb
  go_wp2_with fail
  refine (same_cat R13.out X13.out (join_self X13.out.fine (by have := X13.out.len; omega)) (by omega) (by omega)).mono ?_
  rintro e w14 ⟨rfl, hb⟩
  have XY14 := Lib.hid (XY13.out.below hb)
  clear hb
  go_wp2_with fail
  refine (check_ok _ _ _ _ XY14.out.sl (by have := XY14.out.len; omega) ⟨XY14.out.fine.1, fun t ht => by have := XY14.out.fine.2 t ht; exact ⟨this.1, by omega⟩⟩).mono ?_
  rintro e w15 ⟨rfl, hb⟩
  have XY15 := Lib.hid (XY14.out.below hb)
  clear hb
  go_wp2_with fail
  go_ret
  exact ⟨rfl, XY15.out.acc.2⟩

#print axioms joins_walk
end Go.Proofs.Ytkfpnpfopinbkaa
