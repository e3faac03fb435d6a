/-
  The chapter's examples.
-/
import Derived.Test.YtkfpnpfopinbkaaMade
namespace Go.Proofs.Ytkfpnpfopinbkaa
open Go.RowKit
set_option linter.unusedVariables false

theorem TagsE.acc {w w' : World} {er : Int} {l : List Tag} {en : Ending} (h : TagsE w er l en w') : ∃ A c, en = .returned (.tuple #[.slice A l.length c, .int .i64 er]) ∧ Acc w l (.slice A l.length c) w' := by
  obtain ⟨v, rfl, h1, h2⟩ := h
  obtain ⟨A, c, rfl, _⟩ := own_slice h1
  exact ⟨A, c, rfl, h1, h2⟩

theorem Acc.sl {w0 wr : World} {l : List Tag} {A : Option Addr} {n c : Nat} (h : Acc w0 l (.slice A n c) wr) : Sl wr 2 A l.length (tcells l) := by
  obtain ⟨A', c', h1, h2, _⟩ := h.slice
  injection h1 with h1
  subst h1
  exact h2

set_option maxHeartbeats 1000000 in
theorem awake_any (w : World) : Calls Try.prog 8 #[] w fun e w' => e = .returned (.bool true) ∧ Below w.heap.size w w' := by
  obtain ⟨h1, h2⟩ : makeE [] [97] = 0 ∧ makeL [] [97] = [⟨[97], 1⟩] := ⟨by rfl, by rfl⟩
  obtain ⟨h3, h4⟩ : makeE [⟨[97], 1⟩] [97] = 13 ∧ makeL [⟨[97], 1⟩] [97] = [] := ⟨by rfl, by rfl⟩
  obtain ⟨h5, h6⟩ : dropE [⟨[97], 1⟩] [97] = 0 ∧ dropL [⟨[97], 1⟩] [97] = [⟨[97], 2⟩] := ⟨by rfl, by rfl⟩
  obtain ⟨h7, h8⟩ : hasC [⟨[97], 2⟩] [97] = false ∧ hasC [⟨[97], 1⟩] [97] = true := ⟨by rfl, by rfl⟩
  have M1 := make_any none 0 [] [97] w (Sl.nil _ _ _) (by simp) (by simp) (by simp)
  have M2 := fun A c w hr => make_any A c [⟨[97], 1⟩] [97] w hr (by simp) (by simp) (by simp)
  have D2 := fun A c w hr => drop_any A c [⟨[97], 1⟩] [97] w hr (by simp) (by simp)
  have H1 := fun A c w hr => has_any A c [⟨[97], 2⟩] [97] w hr (by simp)
  have H2 := fun A c w hr => has_any A c [⟨[97], 1⟩] [97] w hr (by simp)
  rw [h1, h2] at M1
  rw [h3, h4] at M2
  rw [h5, h6] at D2
  rw [h7] at H1
  rw [h8] at H2
  clear h1 h2 h3 h4 h5 h6 h7 h8
  have M1 := Lib.hid M1
  have M2 := Lib.hid M2
  have D2 := Lib.hid D2
  have H1 := Lib.hid H1
  have H2 := Lib.hid H2
  go_enter Try.func8, Try.ntmps8
  go_wp2_with fail
  refine (M1.out).mono ?_
  rintro e w1 ht
  obtain ⟨A1, c1, rfl, ha1⟩ := ht.acc
  have HA1 := Lib.hid ha1
  clear ht ha1
  go_wp2_with fail
  refine (M2.out A1 c1 _ HA1.out.sl).mono ?_
  rintro e w2 ht
  obtain ⟨A2, c2, rfl, ha2⟩ := ht.acc
  have HA12 := Lib.hid (HA1.out.below ha2.2)
  clear ht ha2
  go_wp2_with fail
  refine (D2.out A1 c1 _ HA12.out.sl).mono ?_
  rintro e w3 ht
  obtain ⟨A3, c3, rfl, ha3⟩ := ht.acc
  have HA13 := Lib.hid (HA12.out.below ha3.2)
  have HA3 := Lib.hid ha3
  obtain ⟨g1, o1, hA1, -, -, d1⟩ := tag_cells (l := [⟨[97], 1⟩]) (k := 0) HA13.out.sl rfl
  obtain ⟨g3, o3, hA3, -, -, d3⟩ := tag_cells (l := [⟨[97], 2⟩]) (k := 0) HA3.out.sl rfl
  subst hA1
  subst hA3
  rw [Nat.zero_mul, Nat.add_zero] at d1 d3
  clear ht ha3
  go_wp2_with fail
  refine (H1.out _ _ _ HA3.out.sl).mono ?_
  rintro e w4 ⟨rfl, hb4⟩
  have HA14 := Lib.hid (HA13.out.below hb4)
  clear hb4
  go_wp2_with fail
  refine (H2.out _ _ _ HA14.out.sl).mono ?_
  rintro e w5 ⟨rfl, hb5⟩
  have HA15 := Lib.hid (HA14.out.below hb5)
  clear hb5
  go_wp2_with fail
  go_ret
  exact ⟨rfl, HA15.out.2⟩
#print axioms awake_any
end Go.Proofs.Ytkfpnpfopinbkaa
