/-
  PostOrder: a letter that is late stands behind all others; one that is lost leaves them in their order.
-/
import Derived.Test.YtcggmdidnpdciaaAwake
namespace Go.Proofs.Ytcggmdidnpdciaa
open Go.RowKit

/-- Letter number i. -/
def oltr (i : Nat) : Letter := ⟨i, i, ⟨#[]⟩⟩
theorem eraseIdx_oltr (l : List Nat) (i : Nat) : (l.map oltr).eraseIdx i = (l.eraseIdx i).map oltr := by
  rw [List.eraseIdx_eq_take_drop_succ, List.eraseIdx_eq_take_drop_succ, List.map_append, List.map_take, List.map_drop]
/-- Numbers, as cells. -/
def nv (l : List Nat) : List Value := l.map fun (i : Nat) => Value.int .i64 (i : Int)

theorem nv_one (l : List Nat) : ∀ u ∈ nv l, u.oneCell' = true := by
  intro u hu
  obtain ⟨i, _, rfl⟩ := List.mem_map.1 hu
  rfl
theorem nv_take (l : List Nat) (k : Nat) : (nv l).take (k * 1) = nv (l.take k) := by unfold nv; rw [Nat.mul_one, List.map_take]
theorem nv_drop (l : List Nat) (k : Nat) : (nv l).drop (k * 1) = nv (l.drop k) := by unfold nv; rw [Nat.mul_one, List.map_drop]
theorem nv_append (l m : List Nat) : nv (l ++ m) = nv l ++ nv m := by unfold nv; rw [List.map_append]

theorem sl_number (w : World) (i h : Nat) (hh : w.heap.size = h) : Sl (w.alloc (.cells #[.int .i64 (i : Int)] 3)) 1 (some ⟨h, 0, none⟩) 1 (nv [i]) := by
  subst hh; exact sl_new_one w _ _

theorem PostAt.blk {w : World} {g : Nat} {L : List Letter} {G : List (List Int)} (h : PostAt w g L G) : ∃ cs, Blk w g 44 cs := by
  obtain ⟨_, _, _, _, h, _⟩ := h; exact ⟨_, h⟩

theorem own_base {w : World} {base base' : Nat} {e : TypeId} {s n : Nat} {v : Value} {xs : List Value} (h : w.ownsRow base e s v n xs) (hb : base' ≤ base) : w.ownsRow base' e s v n xs := by
  refine ⟨h.1, ?_⟩
  rcases h.2 with hn | ⟨g, cap, cur, hv, h1, hr⟩
  · exact .inl hn
  · exact .inr ⟨g, cap, cur, hv, by omega, hr⟩

/-- An unparted post stays while a row of numbers grows. -/
theorem post_grown {w w' : World} {g base n : Nat} {L : List Letter} {v : Value} {xs : List Value} (hp : PostAt w g L []) (ho : w.ownsRow base 3 1 v n xs) (hg : w.grownBy w' v.ownBlock) : PostAt w' g L [] := by
  have hk : ∀ (b : Nat) (cs : Array Value) (t : TypeId), w.heap[b]? = some (.cells cs t (0, 0)) → t ≠ 3 → w'.heap[b]? = w.heap[b]? := by
    intro b cs t hb hne
    refine hg.block b (lt_of_heap hb) (fun heq => ?_)
    rcases ho.2 with ⟨hv, _⟩ | ⟨g', cap, cur, hv, _, hg', _⟩
    · rw [hv] at heq; simp [Value.ownBlock] at heq
    · rw [hv] at heq
      have : b = g' := by simpa [Value.ownBlock] using heq
      subst this
      rw [hb] at hg'
      injection hg' with hg'; injection hg' with _ ht
      exact hne ht
  obtain ⟨A, c, Ag, cg, hb, hr, hc, hL, -, hGn⟩ := hp
  refine ⟨A, c, Ag, cg, (hk _ _ _ hb (by decide)).trans hb, ⟨hr.1, fun hn => ?_⟩, hc, hL, ⟨[], Row.nil _ _ _ _, by simp⟩, hGn⟩
  obtain ⟨g', o, cur, hA, hcur, hcc⟩ := hr.2 hn
  exact ⟨g', o, cur, hA, (hk _ _ _ hcur (by decide)).trans hcur, hcc⟩

set_option maxHeartbeats 8000000 in
set_option maxRecDepth 100000 in
theorem order_walk (n a b : Int) (w : World) :
    Calls Try.prog 5 #[.int .i64 n, .int .i64 a, .int .i64 b] w fun e w' => e = .returned (.bool true) ∧ Below w.heap.size w w' := by
  have t1 : n.tmod 12 < 12 := Int.tmod_lt_of_pos _ (by omega)
  have t2 : -12 < n.tmod 12 := Int.lt_tmod_of_pos _ (by omega)
  obtain ⟨i0, hi, hz0, hz1, hz2⟩ := info_parts info_int
  go_enter Try.func5, Try.ntmps5
  go_wp2_with fail
  refine (awake_any _).mono ?_
  rintro e w1 ⟨rfl, hb1⟩
  have B1 := Lib.hid hb1
  clear hb1
  go_wp2_with fail
  refine (new_any _).mono ?_
  rintro e w' ⟨rfl, rfl⟩
  have P0 := Lib.hid (post_new w1)
  have B0 := Lib.hid (B1.out.alloc B1.out.size (.cells #[.slice none 0 0, .slice none 0 0] 44))
  go_wp2_with fail
  obtain ⟨k, hk1, hk2, hk⟩ : ∃ k : Nat, 1 ≤ k ∧ k ≤ 12 ∧ 1 + n.tmod 12 % 12 = (k : Int) := ⟨(1 + n.tmod 12 % 12).toNat, by omega, by omega, by omega⟩
  rw [hk]
  obtain ⟨z25, hz25⟩ : ∃ z : Int, (n.tmod 12 + 12) % 12 = z := ⟨_, rfl⟩
  rw [hz25]
  clear hk t1 t2 hz25
  go_loopw [11, 10] (fun i v wr => ∃ j : Nat, j ≤ k ∧ i = .int .i64 j ∧ PostAt wr w1.heap.size ((List.range j).map oltr) [] ∧ wr.ownsRow w.heap.size 3 1 v j (nv (List.range j)) ∧ Below w.heap.size w wr) (fun i _ _ => k - (intOf i).toNat)
  case atStart => exact ⟨0, Nat.zero_le _, rfl, P0.out, World.ownsRow_nil _ _ _ _, B0.out⟩
  case round =>
    obtain ⟨j, hj, rfl, hp, hown, hb⟩ := hrel
    have P := Lib.hid hp
    have B := Lib.hid hb
    have O := Lib.hid hown
    clear hp hb hown
    by_cases hlt : j < k
    · have Q1 := Lib.hid (show j + 1 ≤ maxLen by unfold maxLen; omega)
      have Q2 := Lib.hid (show (j + 1) * 8 ≤ 140737488355328 by omega)
      go_wp2_with fail
      refine (send_fit w1.heap.size ((List.range j).map oltr) [] _ 1 [oltr j] _ (P.out.below ((Below.refl _ _).alloc (Nat.le_refl _) _)) (sl_new_letter wr (oltr j)) (Nat.le_refl _) (by simp; omega)).mono ?_
      rintro e w2 ⟨rfl, hp2, ho2, -⟩
      have P2 : Hid (PostAt w2 w1.heap.size ((List.range (j + 1)).map oltr) []) := Lib.hid (by rw [List.range_succ, List.map_append]; exact hp2)
      have B2 : Hid (Below w.heap.size w w2) := Lib.hid ((B.out.alloc B.out.size _).trans (ho2.below B1.out.size (by have := B.out.size; simp; omega)))
      have O2 : Hid (w2.ownsRow w.heap.size 3 1 u10 j (nv (List.range j))) := Lib.hid (by
        obtain ⟨cs, hcs⟩ := P.out.blk
        exact own_only (own_below O.out ((Below.refl _ _).alloc (Nat.le_refl _) _)) ho2 (hcs.alloc _) (by decide))
      clear hp2 ho2
      go_wp2_with (at_builtin; refine wpList_append_src _ rfl (.tmp 38) (.tmp 40) 28 rfl w.heap.size 3 i0 _ 1 8 Try.underlying28 hi hz0 hz1 hz2 rfl (by decide) _ j (nv (List.range j)) rfl (O2.out.alloc _) (some ⟨w2.heap.size, 0, none⟩) 1 1 (nv [j]) rfl (sl_number w2 j _ rfl) (nv_one _) Q1.out Q2.out (by have := B2.out.size; simp; omega) ?_)
      intro v3 w3 hown3 hg3 hat3
      have O3 : Hid (w3.ownsRow w.heap.size 3 1 v3 (j + 1) (nv (List.range (j + 1)))) := Lib.hid (by rw [List.range_succ, nv_append]; exact hown3)
      have B3 : Hid (Below w.heap.size w w3) := Lib.hid ((B2.out.alloc B2.out.size _).grown hg3 (by have := B2.out.size; simp; omega) (fun b hb => (O2.out.lt b hb).1))
      have P3 : Hid (PostAt w3 w1.heap.size ((List.range (j + 1)).map oltr) []) := Lib.hid (post_grown (P2.out.below ((Below.refl _ _).alloc (Nat.le_refl _) _)) (O2.out.alloc _) hg3)
      clear hown3 hg3 hat3
      go_wp2_with fail
      go_roundw
      case rel =>
        exact ⟨j + 1, by omega, by go_num, P3.out, O3.out, B3.out⟩
      case measure => simp [intOf]; omega
    · have hjk : j = k := by omega
      have Hjk := Lib.hid hjk
      clear hjk
      obtain ⟨Av, cv, hv, hcv⟩ := own_slice O.out
      subst hv
      have P1 : Hid (PostAt wr w1.heap.size ((List.range k).map oltr) []) := Lib.hid (by rw [← Hjk.out]; exact P.out)
      have W1 : Hid (Row wr 3 1 Av k (nv (List.range k))) := Lib.hid (by have := Row.of_own O.out; rw [Hjk.out] at this; exact this)
      have hkcv : k ≤ cv := by omega
      have ej : j = k := Hjk.out
      have Ej := Lib.hid ej
      clear ej P O hcv hj hlt Hjk
      obtain rfl := Ej.out
      clear Ej
      have a1 : a.tmod (j : Int) < j := Int.tmod_lt_of_pos _ (by omega)
      have a2 : -(j : Int) < a.tmod (j : Int) := Int.lt_tmod_of_pos _ (by omega)
      have b1 : b.tmod (j : Int) < j := Int.tmod_lt_of_pos _ (by omega)
      have b2 : -(j : Int) < b.tmod (j : Int) := Int.lt_tmod_of_pos _ (by omega)
      obtain ⟨x, hx1, hx⟩ : ∃ x : Nat, x < j ∧ a.tmod (j : Int) % (j : Int) = (x : Int) := ⟨(a.tmod (j : Int) % (j : Int)).toNat, by
        have := Int.emod_lt_of_pos (a.tmod (j : Int)) (show (0 : Int) < j by omega)
        have := Int.emod_nonneg (a.tmod (j : Int)) (show (j : Int) ≠ 0 by omega)
        omega, by
        have := Int.emod_nonneg (a.tmod (j : Int)) (show (j : Int) ≠ 0 by omega)
        omega⟩
      obtain ⟨y, hy1, hy⟩ : ∃ y : Nat, y < j ∧ b.tmod (j : Int) % (j : Int) = (y : Int) := ⟨(b.tmod (j : Int) % (j : Int)).toNat, by
        have := Int.emod_lt_of_pos (b.tmod (j : Int)) (show (0 : Int) < j by omega)
        have := Int.emod_nonneg (b.tmod (j : Int)) (show (j : Int) ≠ 0 by omega)
        omega, by
        have := Int.emod_nonneg (b.tmod (j : Int)) (show (j : Int) ≠ 0 by omega)
        omega⟩
      have j0 : ((j : Int) == 0) = false := by simp; omega
      have j1 : (1 : Int) ≤ (j : Int) := by omega
      have j12 : (j : Int) ≤ 12 := by omega
      obtain ⟨late, hlate⟩ : ∃ l, (List.range j).eraseIdx x ++ [x] = l := ⟨_, rfl⟩
      obtain ⟨l1, hl1⟩ : ∃ l, (List.range j).take x = l := ⟨_, rfl⟩
      obtain ⟨l2, hl2⟩ : ∃ l, (List.range j).drop (x + 1) = l := ⟨_, rfl⟩
      have EL : Hid (((List.range j).map oltr).eraseIdx x ++ [oltr x] = late.map oltr) := Lib.hid (by rw [← hlate, List.map_append, eraseIdx_oltr]; rfl)
      have ELn : Hid (late.length = j) := Lib.hid (by rw [← hlate, List.length_append, List.length_eraseIdx, if_pos (by simpa using hx1)]; simp; omega)
      have EL2 : Hid (nv l1 ++ nv l2 ++ nv [x] = nv late) := Lib.hid (by rw [← hlate, ← hl1, ← hl2, ← nv_append, ← nv_append, ← List.eraseIdx_eq_take_drop_succ])
      have hcx := Lib.hid (show x + (j - (x + 1)) + 1 = j by omega)
      obtain ⟨A2, sl2, -, r2⟩ := cut_lo (P := Try.prog) 28 3 i0 Try.underlying28 hi 1 hz1 .i64 Av j cv ((x : Int) + 1) (x + 1) (by omega) (by omega) hkcv
      have sl1 := cut_hi (P := Try.prog) 28 3 i0 Try.underlying28 hi .i64 Av j cv x (by omega)
      have R1 : Hid (Row wr 3 1 Av x (nv l1)) := Lib.hid (by rw [← hl1, ← nv_take]; exact W1.out.take (by omega))
      have R2 : Hid (Row wr 3 1 A2 (j - (x + 1)) (nv l2)) := Lib.hid (by rw [← hl2, ← nv_drop]; exact r2 _ _ _ W1.out)
      have q1 := Lib.hid (show 0 + x ≤ maxLen by unfold maxLen; omega)
      have q2 := Lib.hid (show (0 + x) * 8 ≤ 140737488355328 by omega)
      have q3 := Lib.hid (show x + (j - (x + 1)) ≤ maxLen by unfold maxLen; omega)
      have q4 := Lib.hid (show (x + (j - (x + 1))) * 8 ≤ 140737488355328 by omega)
      have q5 := Lib.hid (show x + (j - (x + 1)) + 1 ≤ maxLen by unfold maxLen; omega)
      have q6 := Lib.hid (show (x + (j - (x + 1)) + 1) * 8 ≤ 140737488355328 by omega)
      have kx : (x : Int) + 1 ≤ (j : Int) := by omega
      clear r2 W1 hlate hl1 hl2
      go_wp2_with fail
      refine (late_in w1.heap.size _ [] x (oltr x) _ P1.out (by simp [hx1])).mono ?_
      rintro e w6 ⟨rfl, hp6, ho6, -⟩
      have P6 : Hid (PostAt w6 w1.heap.size (late.map oltr) []) := Lib.hid (by rw [← EL.out]; exact hp6)
      have B6 : Hid (Below w.heap.size w w6) := Lib.hid (B.out.trans (ho6.below B1.out.size B.out.size))
      obtain ⟨cs0, hcs0⟩ := P1.out.blk
      have R1b := Lib.hid (R1.out.only ho6 hcs0 (by decide))
      have R2b := Lib.hid (R2.out.only ho6 hcs0 (by decide))
      clear hp6 ho6 hcs0 R1 R2 P1 B EL
      go_wp2_with (at_builtin; refine wpList_append_src _ rfl (.tmp 60) (.tmp 63) 28 rfl w6.heap.size 3 i0 _ 1 8 Try.underlying28 hi hz0 hz1 hz2 rfl (by decide) _ 0 [] rfl (World.ownsRow_nil _ _ _ _) Av x cv _ rfl R1b.out.sl (nv_one _) q1.out q2.out (Nat.le_refl _) ?_)
      intro v7 w7 hown7 hg7 hat7
      have O7 : Hid (w7.ownsRow w6.heap.size 3 1 v7 x (nv l1)) := Lib.hid hown7
      have B7 : Hid (Below w6.heap.size w6 w7) := Lib.hid ((Below.refl _ _).grown hg7 (Nat.le_refl _) (by simp [Value.ownBlock]))
      have R2c := Lib.hid (R2b.out.below B7.out)
      clear hown7 hg7 hat7 R1b R2b
      go_wp2_with (at_builtin; refine wpList_append_src _ rfl (.tmp 65) (.tmp 69) 28 rfl w6.heap.size 3 i0 _ 1 8 Try.underlying28 hi hz0 hz1 hz2 rfl (by decide) _ x (nv l1) rfl O7.out A2 (j - (x + 1)) (cv - (x + 1)) _ rfl R2c.out.sl (nv_one _) q3.out q4.out B7.out.size ?_)
      intro v8 w8 hown8 hg8 hat8
      have O8 : Hid (w8.ownsRow w6.heap.size 3 1 v8 (x + (j - (x + 1))) (nv l1 ++ nv l2)) := Lib.hid hown8
      have B8 : Hid (Below w6.heap.size w6 w8) := Lib.hid (B7.out.grown hg8 B7.out.size (fun b hb => (O7.out.lt b hb).1))
      clear hown8 hg8 hat8 O7 R2c
      go_wp2_with (at_builtin; refine wpList_append_src _ rfl (.tmp 71) (.tmp 73) 28 rfl w6.heap.size 3 i0 _ 1 8 Try.underlying28 hi hz0 hz1 hz2 rfl (by decide) _ (x + (j - (x + 1))) (nv l1 ++ nv l2) rfl (O8.out.alloc _) (some ⟨w8.heap.size, 0, none⟩) 1 1 (nv [x]) rfl (sl_number w8 x _ rfl) (nv_one _) q5.out q6.out (by have := B8.out.size; simp; omega) ?_)
      intro v9 w9 hown9 hg9 hat9
      have O9 : Hid (w9.ownsRow w6.heap.size 3 1 v9 j (nv late)) := Lib.hid (by
        have h := hown9
        rw [hcx.out] at h
        rw [← EL2.out, List.append_assoc]
        exact h)
      have B9 : Hid (Below w6.heap.size w6 w9) := Lib.hid ((B8.out.alloc B8.out.size _).grown hg9 (by have := B8.out.size; simp; omega) (fun b hb => (O8.out.lt b hb).1))
      clear hown9 hg9 hat9 O8 EL2 hcx q1 q2 q3 q4 q5 q6 sl1 sl2 kx
      obtain ⟨A9, c9, hv9, hc9⟩ := own_slice O9.out
      subst hv9
      have P9 := Lib.hid (P6.out.below B9.out)
      have BB9 : Hid (Below w.heap.size w w9) := Lib.hid (B6.out.trans (B9.out.mono B6.out.size))
      obtain ⟨left, hleft⟩ : ∃ l, late.eraseIdx y = l := ⟨_, rfl⟩
      obtain ⟨l3, hl3⟩ : ∃ l, late.take y = l := ⟨_, rfl⟩
      obtain ⟨l4, hl4⟩ : ∃ l, late.drop (y + 1) = l := ⟨_, rfl⟩
      have ML : Hid ((late.map oltr).eraseIdx y = left.map oltr) := Lib.hid (by rw [eraseIdx_oltr, hleft])
      have MLn : Hid (left.length = y + (j - (y + 1))) := Lib.hid (by rw [← hleft, List.length_eraseIdx, ELn.out, if_pos hy1]; omega)
      have ML2 : Hid (nv l3 ++ nv l4 = nv left) := Lib.hid (by rw [← hleft, ← hl3, ← hl4, ← nv_append, ← List.eraseIdx_eq_take_drop_succ])
      obtain ⟨A4, sl4, -, r4⟩ := cut_lo (P := Try.prog) 28 3 i0 Try.underlying28 hi 1 hz1 .i64 A9 j c9 ((y : Int) + 1) (y + 1) (by omega) (by omega) hc9
      have sl3 := cut_hi (P := Try.prog) 28 3 i0 Try.underlying28 hi .i64 A9 j c9 y (by omega)
      have R3 : Hid (Row w9 3 1 A9 y (nv l3)) := Lib.hid (by rw [← hl3, ← nv_take]; exact (Row.of_own O9.out).take (by omega))
      have R4 : Hid (Row w9 3 1 A4 (j - (y + 1)) (nv l4)) := Lib.hid (by rw [← hl4, ← nv_drop]; exact r4 _ _ _ (Row.of_own O9.out))
      have q1 := Lib.hid (show 0 + y ≤ maxLen by unfold maxLen; omega)
      have q2 := Lib.hid (show (0 + y) * 8 ≤ 140737488355328 by omega)
      have q3 := Lib.hid (show y + (j - (y + 1)) ≤ maxLen by unfold maxLen; omega)
      have q4 := Lib.hid (show (y + (j - (y + 1))) * 8 ≤ 140737488355328 by omega)
      have ky : (y : Int) + 1 ≤ (j : Int) := by omega
      clear r4 hleft hl3 hl4 hc9 O9 B9 B6 P6
      go_wp2_with fail
      refine (lose_yes w1.heap.size _ [] y _ P9.out (by rw [List.length_map, ELn.out]; exact hy1)).mono ?_
      rintro e w10 ⟨rfl, hp10, ho10, -⟩
      have P10 : Hid (PostAt w10 w1.heap.size (left.map oltr) []) := Lib.hid (by rw [← ML.out]; exact hp10)
      have B10 : Hid (Below w.heap.size w w10) := Lib.hid (BB9.out.trans (ho10.below B1.out.size BB9.out.size))
      obtain ⟨cs1, hcs1⟩ := P9.out.blk
      have R3b := Lib.hid (R3.out.only ho10 hcs1 (by decide))
      have R4b := Lib.hid (R4.out.only ho10 hcs1 (by decide))
      clear hp10 ho10 hcs1 R3 R4 P9 BB9 ML
      go_wp2_with (at_builtin; refine wpList_append_src _ rfl (.tmp 79) (.tmp 82) 28 rfl w10.heap.size 3 i0 _ 1 8 Try.underlying28 hi hz0 hz1 hz2 rfl (by decide) _ 0 [] rfl (World.ownsRow_nil _ _ _ _) A9 y c9 _ rfl R3b.out.sl (nv_one _) q1.out q2.out (Nat.le_refl _) ?_)
      intro v11 w11 hown11 hg11 hat11
      have O11 : Hid (w11.ownsRow w10.heap.size 3 1 v11 y (nv l3)) := Lib.hid hown11
      have B11 : Hid (Below w10.heap.size w10 w11) := Lib.hid ((Below.refl _ _).grown hg11 (Nat.le_refl _) (by simp [Value.ownBlock]))
      have R4c := Lib.hid (R4b.out.below B11.out)
      clear hown11 hg11 hat11 R3b R4b
      go_wp2_with (at_builtin; refine wpList_append_src _ rfl (.tmp 84) (.tmp 88) 28 rfl w10.heap.size 3 i0 _ 1 8 Try.underlying28 hi hz0 hz1 hz2 rfl (by decide) _ y (nv l3) rfl O11.out A4 (j - (y + 1)) (c9 - (y + 1)) _ rfl R4c.out.sl (nv_one _) q3.out q4.out B11.out.size ?_)
      intro v12 w12 hown12 hg12 hat12
      have O12 : Hid (w12.ownsRow w10.heap.size 3 1 v12 (y + (j - (y + 1))) (nv left)) := Lib.hid (by rw [← ML2.out]; exact hown12)
      have B12 : Hid (Below w10.heap.size w10 w12) := Lib.hid (B11.out.grown hg12 B11.out.size (fun b hb => (O11.out.lt b hb).1))
      clear hown12 hg12 hat12 O11 R4c ML2 q1 q2 q3 q4 sl3 sl4 ky
      obtain ⟨A12, c12, hv12, hc12⟩ := own_slice O12.out
      subst hv12
      have P12 := Lib.hid (P10.out.below B12.out)
      have BB12 : Hid (Below w.heap.size w w12) := Lib.hid (B10.out.trans (B12.out.mono B10.out.size))
      have W12 : Hid (Row w12 3 1 A12 (y + (j - (y + 1))) (nv left)) := Lib.hid (Row.of_own O12.out)
      clear O12 B12 P10 B10 hc12
      go_wp2_with fail
      refine (all_any w1.heap.size _ [] _ P12.out).mono ?_
      rintro e w13 ⟨A13, c13, rfl, hr13, hb13, -⟩
      rw [List.length_map, MLn.out] at hr13 ⊢
      obtain ⟨m, hm⟩ : ∃ m, y + (j - (y + 1)) = m := ⟨_, rfl⟩
      have hmj : m + 1 = j := by omega
      have Hmj := Lib.hid hmj
      have hm12 : (m : Int) ≤ 12 := by omega
      have hmn : m ≤ 12 := by omega
      have W13 : Hid (Row w13 3 1 A12 m (nv left)) := Lib.hid (by rw [← hm]; exact W12.out.below hb13)
      have V13 : Hid (Row w13 32 3 A13 m (lcells (left.map oltr))) := Lib.hid (by rw [← hm]; exact hr13)
      have P13 := Lib.hid (P12.out.below hb13)
      have B13 : Hid (Below w.heap.size w w13) := Lib.hid (BB12.out.trans (hb13.mono BB12.out.size))
      have Ml : Hid (left.length = m) := Lib.hid (MLn.out.trans hm)
      rw [hm]
      clear hm hmj hr13 hb13 W12 P12 BB12 MLn ELn
      go_wp2_with fail
      go_loopw [17] (fun i wq => ∃ q : Nat, q ≤ m ∧ i = .int .i64 q ∧ ∃ nd, wq = w13.drewN nd) (fun i _ => m - (intOf i).toNat)
      case atStart => exact ⟨0, Nat.zero_le _, rfl, 0, rfl⟩
      case round =>
        obtain ⟨q, hq, rfl, nd, rfl⟩ := hrel
        by_cases hql : q < m
        · have hqi : (q : Int) < (m : Int) := by omega
          have hqn : (0 : Int) ≤ (q : Int) := by omega
          obtain ⟨ga, oa, rfl, hga, hca⟩ := V13.out.sl.2 (by omega)
          obtain ⟨gb, ob, rfl, hgb, hcb⟩ := W13.out.sl.2 (by omega)
          have hlq : left[q]? = some (left[q]'(by rw [Ml.out]; exact hql)) := List.getElem?_eq_getElem _
          generalize left[q]'(by rw [Ml.out]; exact hql) = z at hlq
          have hc1 : w13.cell? ⟨ga, oa + q * 3, none⟩ = some (.int .i64 (z : Int)) := hca _ _ (lcells_at (left.map oltr) q (oltr z) (by rw [List.getElem?_map, hlq]; rfl)).1
          have hc2 : w13.cell? ⟨gb, ob + q, none⟩ = some (.int .i64 (z : Int)) := hcb _ _ (by unfold nv; rw [List.getElem?_map, hlq]; rfl)
          clear hca hcb hlq
          go_wp2_with fail
          go_quiet (fail)
          go_wp2_with fail
          go_roundw
          case rel => exact ⟨q + 1, by omega, by go_num, _, rfl⟩
          case measure => simp [intOf]; omega
        · have P14 := Lib.hid (P13.out.below (below_drewN (Below.refl _ w13) nd))
          have B14 : Hid (Below w.heap.size w (w13.drewN nd)) := Lib.hid (below_drewN B13.out nd)
          have hout : Hid (¬ (0 ≤ (j : Int) ∧ (j : Int) < (left.map oltr).length)) := Lib.hid (by rw [List.length_map, Ml.out]; have := Hmj.out; omega)
          go_wp2_with fail
          refine (late_out w1.heap.size _ [] j _ P14.out hout.out).mono ?_
          rintro e w' ⟨rfl, rfl⟩
          go_wp2_with fail
          refine (lose_out w1.heap.size _ [] (-1) _ P14.out (by omega)).mono ?_
          rintro e w' ⟨rfl, rfl⟩
          go_wp2_with fail
          refine (twice_out w1.heap.size _ [] j _ P14.out hout.out).mono ?_
          rintro e w' ⟨rfl, rfl⟩
          go_wp2_with fail
          go_ret
          exact ⟨rfl, B14.out⟩

#print axioms order_walk
end Go.Proofs.Ytcggmdidnpdciaa
