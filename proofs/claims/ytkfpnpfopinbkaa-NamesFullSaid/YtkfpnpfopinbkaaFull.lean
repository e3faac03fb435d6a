/-
  NamesFull: the walk.
-/
import Derived.Test.YtkfpnpfopinbkaaFullPlain
namespace Go.Proofs.Ytkfpnpfopinbkaa
open Go.RowKit
set_option linter.unusedVariables false

theorem run_tag2 {w0 wr : World} {l : List Tag} {v : Value} (h : Acc w0 l v wr) (nm : List UInt8) (nn : Int) (hl : l.length ≤ 10000) (ty : TypeId) :
    ∃ v' w', (Builtin.append_ #[22, 22] ty #[v, .slice (some ⟨wr.heap.size, 0, none⟩) 1 1]).run Try.prog (wr.alloc (.cells #[.string (str nm), .int .i64 nn] 42)) = .ok v' w' ∧ Acc w0 (l ++ [⟨nm, nn⟩]) v' w' ∧
      (wr.alloc (.cells #[.string (str nm), .int .i64 nn] 42)).grownBy w' v.ownBlock ∧ (v'.ownBlock = v.ownBlock ∨ v'.ownBlock = some (wr.heap.size + 1)) := by
  obtain ⟨i0, hi, hz0, hz1, hz2⟩ := info_parts info_tag
  obtain ⟨v', w', hr, ho, hg, hb⟩ := run_append_src (P := Try.prog) (wr.alloc (.cells #[.string (str nm), .int .i64 nn] 42)) w0.heap.size 22 ty 42 i0 _ 2 24 Try.underlying22 hi hz0 hz1 hz2 rfl (by decide) v l.length (tcells l) (h.1.alloc _)
    (some ⟨wr.heap.size, 0, none⟩) 1 1 (tcells [⟨nm, nn⟩]) (sl_tag wr ⟨nm, nn⟩ _ rfl) (tcells_one _) (by unfold maxLen; omega) (by omega) (by have := h.2.size; simp; omega)
  refine ⟨v', w', hr, ⟨?_, (h.2.alloc h.2.size _).grown hg (by have := h.2.size; simp; omega) (fun k hk => (own_block_lt h.1 k hk).1)⟩, hg, by simpa using hb⟩
  rw [tcells_append, List.length_append]
  exact ho

theorem wpList_tag2 {ops : Array Oper} {rest : List Oper} {o : Oper} {a : Act} {Q : Exit → Act → World → Prop} (hgd : o.guard = none) (so x : Operand)
    (ho : o.op = .call { callee := .builtin .append, args := #[so, x], argTypes := #[22, 22] })
    {w0 wr : World} {l : List Tag} {v : Value} (h : Acc w0 l v wr) (nm : List UInt8) (nn : Int) (hs : a.eval so = v) (hx : a.eval x = .slice (some ⟨wr.heap.size, 0, none⟩) 1 1) (hl : l.length ≤ 10000)
    (K : ∀ v' w', Acc w0 (l ++ [⟨nm, nn⟩]) v' w' → (wr.alloc (.cells #[.string (str nm), .int .i64 nn] 42)).grownBy w' v.ownBlock → (v'.ownBlock = v.ownBlock ∨ v'.ownBlock = some (wr.heap.size + 1)) → wpList Try.prog ops Q rest (a.put o.dst v') w') :
    wpList Try.prog ops Q (o :: rest) a (wr.alloc (.cells #[.string (str nm), .int .i64 nn] 42)) := by
  obtain ⟨v', w', hr, hA, hg, hb⟩ := run_tag2 h nm nn hl o.type
  exact Lib.wpList_append_run _ hgd so x 22 22 ho _ _ hs hx _ _ hr (K v' w' hA hg hb)

/-- The other row stays. -/
theorem Acc.grown {w0 wr w' : World} {l : List Tag} {v : Value} {b : Option Nat} (h : Acc w0 l v wr) (hg : wr.grownBy w' b) (hb : ∀ k, b = some k → w0.heap.size ≤ k) (hne : v.ownBlock = none ∨ v.ownBlock ≠ b) : Acc w0 l v w' :=
  ⟨h.1.kept hg hne, h.2.grown hg h.2.size hb⟩

/-- Two rows that share no block. -/
def Ap (v v' : Value) : Prop := ∀ k, v.ownBlock = some k → v'.ownBlock = some k → False
theorem Ap.symm {v v' : Value} (h : Ap v v') : Ap v' v := fun k h1 h2 => h k h2 h1
theorem Ap.to {v v' : Value} (h : Ap v v') : v.ownBlock = none ∨ v.ownBlock ≠ v'.ownBlock := by
  cases hv : v.ownBlock with
  | none => exact .inl rfl
  | some k => exact .inr fun e => h k hv e.symm
theorem Ap.next {v v' u : Value} {N : Nat} (h : Ap v v') (hu : u.ownBlock = v.ownBlock ∨ u.ownBlock = some N) (hl : ∀ k, v'.ownBlock = some k → k < N) : Ap u v' := fun k h1 h2 => by
  rcases hu with e | e
  · exact h k (e ▸ h1) h2
  · rw [e] at h1; injection h1 with h1
    have := hl k h2; omega

theorem full_first {w wr w1 : World} {l m : List Tag} {u u' v1 : Value} {o0 e : Obj} {cs : Array Value} {t : TypeId} {N : Nat} (ha : Acc w l u wr) (hm : Acc w m u' wr) (hap : Ap u u')
    (hg : (((wr.alloc o0).alloc (.cells cs t)).alloc e).grownBy w1 u.ownBlock) (hb : v1.ownBlock = u.ownBlock ∨ v1.ownBlock = some N) (hN : wr.heap.size ≤ N) : Acc w m u' w1 ∧ Ap v1 u' ∧ Blk w1 (wr.heap.size + 1) t cs := by
  have hbl : Below wr.heap.size wr (((wr.alloc o0).alloc (.cells cs t)).alloc e) := (((Below.refl _ _).alloc (Nat.le_refl _) o0).alloc (by simp) _).alloc (by simp; omega) e
  refine ⟨(hm.below hbl).grown hg (fun k hk => (own_block_lt ha.1 k hk).1) hap.symm.to, hap.next hb fun k hk => Nat.lt_of_lt_of_le (own_block_lt hm.1 k hk).2 hN, ?_⟩
  have h1 : Blk ((wr.alloc o0).alloc (.cells cs t)) (wr.heap.size + 1) t cs := by
    have := Blk.new (wr.alloc o0) t cs
    simpa using this
  have h2 := h1.alloc e
  exact (hg.block _ h2.lt (fun hk => by have := (own_block_lt ha.1 _ hk.symm).2; omega)).trans h2

theorem conv2 (W : World) (h j : Nat) (hj : j < 1000) (hh : W.heap.size = h) :
    (convert 40 9 (.slice (some ⟨h, 0, none⟩) 2 2)).run Try.prog (W.alloc (.cells #[.int .u8 (97 + (j : Int) / 26), .int .u8 (97 + (j : Int) % 26)] 5)) = .ok (.string (str (tagF j).nm)) (W.alloc (.cells #[.int .u8 (97 + (j : Int) / 26), .int .u8 (97 + (j : Int) % 26)] 5)) := by
  subst hh
  rw [run_convert_bytes_string _ _ _ 5 _ _ _ Try.underlying40 Try.underlying5 Try.underlying9]
  have h1 := run_loadCells_list (P := Try.prog) (W.alloc (.cells #[.int .u8 (97 + (j : Int) / 26), .int .u8 (97 + (j : Int) % 26)] 5)) ⟨W.heap.size, 0, none⟩ [.int .u8 (97 + (j : Int) / 26), .int .u8 (97 + (j : Int) % 26)] (fun i v hv => by
    rw [Addr.add_lit, Nat.zero_add, (Blk.new W _ _).cell]
    simpa using hv)
  have h2 := run_bytesToString (P := Try.prog) (W.alloc (.cells #[.int .u8 (97 + (j : Int) / 26), .int .u8 (97 + (j : Int) % 26)] 5)) ⟨W.heap.size, 0, none⟩ 2 2 [97 + (j : Int) / 26, 97 + (j : Int) % 26] (by simpa using h1)
  rw [h2]
  have e1 : (97 + (j : Int) / 26).toNat = 97 + j / 26 := by omega
  have e2 : (97 + (j : Int) % 26).toNat = 97 + j % 26 := by omega
  simp only [List.foldl_cons, List.foldl_nil, e1, e2]
  rfl

theorem rest10 (n : Int) : -9 ≤ n.tmod 10 ∧ n.tmod 10 ≤ 9 := by
  rcases Int.le_total 0 n with h | h
  · rw [Int.tmod_eq_emod_of_nonneg h]; omega
  · have e : n.tmod 10 = -((-n).tmod 10) := by rw [Int.neg_tmod]; omega
    rw [e, Int.tmod_eq_emod_of_nonneg (by omega)]; omega

theorem many (n : Int) : ∃ k : Nat, 95 ≤ k ∧ k ≤ 104 ∧ wrap64 (95 + (wrap64 (n.tmod 10 + 10)).tmod 10) = k := by
  have h := rest10 n
  have e : wrap64 (n.tmod 10 + 10) = n.tmod 10 + 10 := by unfold wrap64; omega
  rw [e, Int.tmod_eq_emod_of_nonneg (by omega)]
  refine ⟨(95 + (n.tmod 10 + 10) % 10).toNat, by omega, by omega, ?_⟩
  unfold wrap64; omega

set_option maxRecDepth 20000 in
set_option maxHeartbeats 4000000 in
theorem full_walk (n : Int) (w : World) :
    Calls Try.prog 7 #[.int .i64 n] w fun e w' => e = .returned (.bool true) ∧ Below w.heap.size w w' := by
  go_enter Try.func7, Try.ntmps7
  go_wp2_with fail
  refine (awake_any _).mono ?_
  rintro e w0 ⟨rfl, hb0⟩
  have B0 := Lib.hid hb0
  clear hb0
  go_wp2_with fail
  obtain ⟨k, hk1, hk2, hk⟩ := many n
  rw [hk]
  clear hk
  go_loopw [5, 6, 7] (fun v v' i wr => ∃ (j : Nat), j ≤ k ∧ i = .int .i64 j ∧ Acc w (lst (min j 100)) v wr ∧ Acc w (lst j) v' wr ∧ Ap v v') (fun _ _ i _ => k - (intOf i).toNat)
  case atStart => exact ⟨0, Nat.zero_le _, rfl, Acc.nil B0.out, Acc.nil B0.out, fun k h => by cases h⟩
  case round =>
    obtain ⟨j, hj, rfl, ha, ha', hap⟩ := hrel
    have HP := Lib.hid hap
    have HA := Lib.hid ha
    have HA' := Lib.hid ha'
    clear ha ha' hap
    by_cases hlt : j < k
    · have hcv := conv2 wr wr.heap.size j (by omega) rfl
      have HW := fun o o' => Lib.hid (HA.out.below (((Below.refl _ _).alloc (Nat.le_refl _) o).alloc (by simp) o'))
      have HW' := fun o o' => Lib.hid (HA'.out.below (((Below.refl _ _).alloc (Nat.le_refl _) o).alloc (by simp) o'))
      by_cases h100 : j < 100
      · have d1 : decide ((j : Int) < 100) = true := by simp; omega
        go_wp2_with (at_builtin; refine wpList_tag2 rfl (.tmp 41) (.tmp 43) rfl (HW _ _).out (tagF j).nm 1 rfl (by simp [Act.eval]) (by rw [lst_len]; omega) ?_)
        intro v1 w1 hA hg hb
        obtain ⟨hm1, hap1, hblk⟩ := full_first HA.out HA'.out HP.out hg hb (by first | omega | (simp; omega))
        rw [show min j 100 = j by omega, show lst j ++ [⟨(tagF j).nm, 1⟩] = lst (j + 1) from (lst_succ j).symm] at hA
        have e0 := hblk.cell 0
        have e1 := hblk.cell 1
        simp only [List.getElem?_toArray, List.getElem?_cons_zero, List.getElem?_cons_succ] at e0 e1
        have HA1 := Lib.hid hA
        have HM1 := Lib.hid hm1
        have HP1 := Lib.hid hap1
        have HL := Lib.hid hblk.lt
        clear hA hg hb hm1 hap1 hblk hcv HW HW'
        go_wp2_with (at_builtin; refine wpList_tag2 rfl (.tmp 45) (.tmp 47) rfl HM1.out (tagF j).nm 1 rfl rfl (by rw [lst_len]; omega) ?_)
        intro v2 w2 hA hg hb
        have hl1 : Acc w (lst (j + 1)) v1 w2 := (HA1.out.below ((Below.refl _ _).alloc (Nat.le_refl _) _)).grown hg (fun k hk => (own_block_lt HM1.out.1 k hk).1) HP1.out.to
        have hap2 : Ap v1 v2 := (HP1.out.symm.next hb fun k hk => by have := (own_block_lt HA1.out.1 k hk).2; omega).symm
        rw [show lst j ++ [⟨(tagF j).nm, 1⟩] = lst (j + 1) from (lst_succ j).symm] at hA
        have R := Lib.hid (show Acc w (lst (min (j + 1) 100)) v1 w2 ∧ Acc w (lst (j + 1)) v2 w2 ∧ Ap v1 v2 from ⟨by rw [show min (j + 1) 100 = j + 1 by omega]; exact hl1, hA, hap2⟩)
        clear hA hg hb hl1 hap2
        go_wp2_with fail
        go_roundw
        case rel => exact ⟨j + 1, by omega, by go_num, R.out⟩
        case measure => simp [intOf]; omega
      · have d1 : decide ((j : Int) < 100) = false := by simp; omega
        go_wp2_with (at_builtin; refine wpList_tag2 rfl (.tmp 45) (.tmp 47) rfl (HW' _ _).out (tagF j).nm 1 rfl (by simp [Act.eval]) (by rw [lst_len]; omega) ?_)
        intro v2 w2 hA hg hb
        obtain ⟨hl1, hap2, -⟩ := full_first HA'.out HA.out HP.out.symm hg hb (by first | omega | (simp; omega))
        rw [show lst j ++ [⟨(tagF j).nm, 1⟩] = lst (j + 1) from (lst_succ j).symm] at hA
        have R := Lib.hid (show Acc w (lst (min (j + 1) 100)) _ w2 ∧ Acc w (lst (j + 1)) v2 w2 ∧ Ap _ v2 from ⟨by rw [show min (j + 1) 100 = min j 100 by omega]; exact hl1, hA, hap2.symm⟩)
        clear hA hg hb hl1 hap2
        go_wp2_with fail
        go_roundw
        case rel => exact ⟨j + 1, by omega, by go_num, R.out⟩
        case measure => simp [intOf]; omega
    · have hjk : j = k := by omega
      subst hjk
      obtain ⟨AL, cL, rfl, -, hcL⟩ := HA.out.slice
      obtain ⟨AM, cM, rfl, -, hcM⟩ := HA'.out.slice
      obtain ⟨q, hq, hqk⟩ : ∃ q, q < 6 ∧ min j 100 = 95 + q := ⟨min j 100 - 95, by omega, by omega⟩
      obtain ⟨E, hE⟩ : ∃ E : Int, (if q == 5 then 15 else 0) = E := ⟨_, rfl⟩
      have f1 := full_zz q hq
      rw [hE] at f1
      obtain ⟨f2, f3, f4, f5⟩ := full_drop q hq
      have f6 := full_join (k := 95 + q) (by omega)
      have f7 := lst_len (95 + q)
      have f8 := lst_fine (k := 95 + q) (by omega)
      rw [hqk] at HA hcL ⊢
      obtain ⟨L, hL⟩ : ∃ L, lst (95 + q) = L := ⟨_, rfl⟩
      rw [hL] at f1 f2 f3 f4 f5 f6 f7 f8 HA hcL ⊢
      obtain ⟨M, hM⟩ : ∃ M, lst j = M := ⟨_, rfl⟩
      have m1 : M.length = j := hM ▸ lst_len j
      have m2 : Fine 1 M := hM ▸ lst_fine hk2
      rw [hM] at HA' hcM ⊢
      clear hL hM
      obtain ⟨J, hJ⟩ : ∃ J, (⟨[97], 3⟩ :: L).take 100 = J := ⟨_, rfl⟩
      have j1 : J.length = min (L.length + 1) 100 := by rw [← hJ]; simp; omega
      have j2 : J[0]? = some ⟨[97], 3⟩ := by rw [← hJ]; simp
      have Q1 := make_any AL cL L [122, 122] wr HA.out.sl (by omega) (fun t ht => by have := f8.1.2 t ht; omega) (by simp)
      have Q2 := fun W hsl => drop_any AL cL L [97, 98] W hsl (by omega) (fun t ht => by have := f8.1.2 t ht; omega)
      have Q3 := fun A c W hsl => make_any A c (dropL L [97, 98]) [97, 98] W hsl (by omega) f5 (by simp)
      have Q4 := fun A W hsl hsl2 => join_any AL A cL 1 L [⟨[97], 3⟩] W hsl hsl2 hcL (by simp) (by omega) (by simp)
      rw [f1] at Q1
      rw [f2] at Q2
      rw [f3] at Q3
      rw [show joinL L [⟨[97], 3⟩] = J by unfold joinL; rw [f6, hJ]] at Q4
      have Q5 : Hid (∀ W, Acc w M (.slice AM M.length cM) W → Calls Try.prog 21 #[.slice AM M.length cM] W fun e w' => e = .returned (.int .i64 (if j ≤ 100 then 0 else 1)) ∧ Below W.heap.size W w') := Lib.hid (fun W hM => by
        by_cases h : j ≤ 100
        · rw [if_pos h]; exact check_ok AM cM M W hM.sl (by omega) ⟨m2.1, fun t ht => by have := m2.2 t ht; exact ⟨this.1, by omega⟩⟩
        · rw [if_neg h]; exact check_long AM M.length cM W (by omega) (by omega))
      obtain ⟨B, D, b1, b2, d1, d2, d3, d4, hBD⟩ : ∃ B D : Bool, decide ((j : Int) ≤ 100) = B ∧ (if j ≤ 100 then (0 : Int) else 1) = (if B then 0 else 1) ∧ E = (if D then 15 else 0) ∧ ((L.length : Int) == 100) = D ∧ decide ((100 : Int) < (L.length : Int) + 1) = D ∧ ((J.length : Int) = if D then 100 else (L.length : Int) + 1) ∧ (B = false → D = true) := by
        refine ⟨decide (j ≤ 100), decide (q = 5), by rw [decide_eq_decide]; omega, by simp, by rw [← hE]; simp, by rw [Bool.eq_iff_iff]; simp; omega, by rw [decide_eq_decide]; omega, ?_, by simp; omega⟩
        by_cases h : q = 5
        · simp [h]; omega
        · simp [h]; omega
      rw [b2] at Q5
      have Q1 := Lib.hid Q1
      have Q2 := Lib.hid Q2
      have Q3 := Lib.hid Q3
      have Q4 := Lib.hid Q4
      have hLl : L.length ≤ 100 := by omega
      have hJ0 : 0 < J.length := by omega
      have J2 := Lib.hid j2
      have HBD := Lib.hid hBD
      subst d1
      clear f1 f2 f3 f5 f6 f8 f7 f4 m1 m2 j1 j2 hJ hE b2 hBD hcL hcM
      cases B <;> cases D
      · exact absurd (HBD.out rfl) (by simp)
      all_goals
        have B1 := Lib.hid b1
        have D2 := Lib.hid d2
        have D3 := Lib.hid d3
        have D4 := Lib.hid d4
        clear b1 d2 d3 d4
        go_wp2_with fail
        refine Q1.out.mono ?_
        rintro e w1 ht
        obtain ⟨A1, c1, rfl, h1⟩ := ht.acc
        have HL1 := Lib.hid (HA.out.below h1.2)
        have HM1 := Lib.hid (HA'.out.below h1.2)
        clear ht h1
        go_wp2_with fail
        refine (Q2.out _ HL1.out.sl).mono ?_
        rintro e w2 ht
        obtain ⟨A2, c2, rfl, h2⟩ := ht.acc
        have HL2 := Lib.hid (HL1.out.below h2.2)
        have HM2 := Lib.hid (HM1.out.below h2.2)
        have HD2 := Lib.hid h2
        clear ht h2
        go_wp2_with fail
        refine (Q3.out _ _ _ HD2.out.sl).mono ?_
        rintro e w3 ht
        obtain ⟨A3, c3, rfl, h3⟩ := ht.acc
        have HL3 := Lib.hid (HL2.out.below h3.2)
        have HM3 := Lib.hid (HM2.out.below h3.2)
        clear ht h3
        go_wp2_with fail
        refine (Q4.out _ _ (HL3.out.below ((Below.refl _ _).alloc (Nat.le_refl _) _)).sl (sl_tag w3 ⟨[97], 3⟩ _ rfl)).mono ?_
        rintro e w4 ⟨v, rfl, h4⟩
        obtain ⟨AJ, cJ, rfl, -, -⟩ := h4.slice
        have HM4 := Lib.hid ((HM3.out.below ((Below.refl _ _).alloc (Nat.le_refl _) _)).below h4.2)
        have HJ4 := Lib.hid h4
        clear h4
        have e3 := D3.out
        have e4 := D4.out
        go_wp2_with fail
        refine (Q5.out _ HM4.out).mono ?_
        rintro e w5 ⟨rfl, hb⟩
        have HM5 := Lib.hid (HM4.out.below hb)
        have HJ5 := Lib.hid (HJ4.out.below hb)
        clear hb
        have e1 := B1.out
        have e2 := D2.out
        obtain ⟨gj, oj, rfl, hgj, cj0, cj1⟩ := tag_cells HJ5.out.sl J2.out
        rw [Nat.zero_mul, Nat.add_zero] at cj0 cj1
        go_wp2_with fail
        go_ret
        exact ⟨rfl, HM5.out.2⟩
end Go.Proofs.Ytkfpnpfopinbkaa
