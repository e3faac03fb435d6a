/-
  names.Join.
-/
import Derived.WalkMore
import Derived.Test.YtkfpnpfopinbkaaCount
namespace Go.Proofs.Ytkfpnpfopinbkaa
open Go.RowKit
set_option linter.unusedVariables false

theorem step_tag {ops : Array Oper} {o : Oper} {a : Act} {K : Act → World → Prop} {Q : Exit → Act → World → Prop} {E : Prop} (hgd : o.guard = none) (so x : Operand)
    (ho : o.op = .call { callee := .builtin .append, args := #[so, x], argTypes := #[22, 22] })
    {w0 wr : World} {l : List Tag} {v : Value} (h : Acc w0 l v wr) (nm : List UInt8) (nn : Int) (hs : a.eval so = v) (hx : a.eval x = .slice (some ⟨wr.heap.size, 0, none⟩) 1 1) (hl : l.length ≤ 10000)
    (k : ∀ v' w', Acc w0 (l ++ [⟨nm, nn⟩]) v' w' → K (a.put o.dst v') w') :
    if Region.wanted o (yielded ops a.tmps) = true then Oper.wp Try.prog o a (wr.alloc (.cells #[.string (str nm), .int .i64 nn] 42)) K Q else E := by
  have hw : Region.wanted o (yielded ops a.tmps) = true := by simp [Region.wanted, hgd]
  rw [if_pos hw]
  obtain ⟨v', w', hr, hA⟩ := run_tag h ⟨nm, nn⟩ hl o.type
  exact Lib.wp_append_run _ so x 22 22 ho _ _ hs hx _ _ hr (k v' w' hA)

def mergeL : List Tag → List Tag → List Tag
  | [], [] => []
  | s :: a, [] => s :: mergeL a []
  | [], t :: b => t :: mergeL [] b
  | s :: a, t :: b => if lt s.nm t.nm then s :: mergeL a (t :: b) else if s.nm == t.nm then ⟨s.nm, max s.n t.n⟩ :: mergeL a b else t :: mergeL (s :: a) b
termination_by a b => a.length + b.length

theorem merge_nil : mergeL [] [] = [] := by rw [mergeL]
theorem merge_left (s : Tag) (a : List Tag) : mergeL (s :: a) [] = s :: mergeL a [] := by rw [mergeL]
theorem merge_right (t : Tag) (b : List Tag) : mergeL [] (t :: b) = t :: mergeL [] b := by rw [mergeL]
theorem merge_both (s t : Tag) (a b : List Tag) : mergeL (s :: a) (t :: b) = if lt s.nm t.nm then s :: mergeL a (t :: b) else if s.nm == t.nm then ⟨s.nm, max s.n t.n⟩ :: mergeL a b else t :: mergeL (s :: a) b := by rw [mergeL]

theorem compare_lt (x y : List UInt8) : decide (Lib.compareBytes x y < 0) = lt x y := by
  induction x generalizing y with
  | nil => cases y <;> simp [Lib.compareBytes, lt, Op.bytesLess]
  | cons a x ih => cases y with
    | nil => simp [Lib.compareBytes, lt, Op.bytesLess]
    | cons b y =>
      have ih' := ih y
      unfold lt at ih' ⊢
      rw [Op.bytesLess, ← ih']
      show decide ((if a < b then -1 else if b < a then 1 else Lib.compareBytes x y) < 0) = _
      by_cases h1 : a < b
      · simp [h1]
      · by_cases h2 : b < a
        · have h3 : (a == b) = false := by
            simp only [beq_eq_false_iff_ne]
            rintro rfl
            exact h1 h2
          simp [h1, h2, h3]
        · have h3 : a = b := by
            apply UInt8.toNat_inj.1
            rw [UInt8.lt_iff_toNat_lt] at h1 h2
            omega
          subst h3
          simp [h1]

def joinL (a b : List Tag) : List Tag := (mergeL a b).take 100

/-- Where the merge stands. -/
structure Mg (w : World) (a b la lb pre : List Tag) (Aa Ab : Option Addr) (ca cb : Nat) (v : Value) (wr : World) : Prop where
  sa : Sl w 2 Aa la.length (tcells la)
  sb : Sl w 2 Ab lb.length (tcells lb)
  ka : la.length ≤ ca
  kb : lb.length ≤ cb
  eq : mergeL a b = pre ++ mergeL la lb
  len : pre.length + la.length + lb.length ≤ 400
  acc : Acc w pre v wr

theorem Mg.step {w wr w' : World} {a b la lb la' lb' pre : List Tag} {Aa Ab Aa' Ab' : Option Addr} {ca cb ca' cb' : Nat} {v v' : Value} {u : Tag} (h : Mg w a b la lb pre Aa Ab ca cb v wr)
    (sa : Sl w 2 Aa' la'.length (tcells la')) (sb : Sl w 2 Ab' lb'.length (tcells lb')) (ka : la'.length ≤ ca') (kb : lb'.length ≤ cb') (eq : mergeL la lb = u :: mergeL la' lb') (len : la'.length + lb'.length + 1 ≤ la.length + lb.length)
    (acc : Acc w (pre ++ [u]) v' w') : Mg w a b la' lb' (pre ++ [u]) Aa' Ab' ca' cb' v' w' :=
  ⟨sa, sb, ka, kb, by rw [h.eq, eq]; simp, by have := h.len; simp; omega, acc⟩

theorem Mg.drewN {w wr : World} {a b la lb pre : List Tag} {Aa Ab : Option Addr} {ca cb : Nat} {v : Value} (h : Mg w a b la lb pre Aa Ab ca cb v wr) (n : Nat) : Mg w a b la lb pre Aa Ab ca cb v (wr.drewN n) :=
  ⟨h.sa, h.sb, h.ka, h.kb, h.eq, h.len, h.acc.drewN n⟩

theorem cut1 {w : World} {A : Option Addr} {c : Nat} {t : Tag} {l : List Tag} (h : Sl w 2 A (t :: l).length (tcells (t :: l))) (hc : (t :: l).length ≤ c) :
    ∃ A2, (∀ W, (Instr.slice 22 (.slice A (l.length + 1) c) (some (.int .i64 1)) none none).run Try.prog W = .ok (.slice A2 l.length (c - 1)) W) ∧ Sl w 2 A2 l.length (tcells l) ∧ l.length ≤ c - 1 := by
  obtain ⟨i0, hi, hz0, hz1, hz2⟩ := info_parts info_tag
  obtain ⟨A2, e, s, _⟩ := cut_lo (P := Try.prog) 22 42 i0 Try.underlying22 hi 2 hz1 .i64 A (t :: l).length c 1 1 rfl (by simp) hc
  refine ⟨A2, fun W => e W, ?_, by simp at hc; omega⟩
  have := s w _ h
  rw [← tcells_drop] at this
  exact this

theorem head_cells {w : World} {A : Option Addr} {t : Tag} {l : List Tag} (h : Sl w 2 A (t :: l).length (tcells (t :: l))) :
    ∃ g o, A = some ⟨g, o, none⟩ ∧ g < w.heap.size ∧ w.cell? ⟨g, o, none⟩ = some (.string (str t.nm)) ∧ w.cell? ⟨g, o + 1, none⟩ = some (.int .i64 t.n) := by
  obtain ⟨g, o, e, hg, c0, c1⟩ := tag_cells (l := t :: l) (k := 0) h rfl
  simp only [Nat.zero_mul, Nat.add_zero] at c0 c1
  exact ⟨g, o, e, hg, c0, c1⟩

set_option maxRecDepth 20000 in
set_option maxHeartbeats 4000000 in
theorem join_any (A B : Option Addr) (c d : Nat) (a b : List Tag) (w : World) (hr : Sl w 2 A a.length (tcells a)) (hs : Sl w 2 B b.length (tcells b)) (hc : a.length ≤ c) (hd : b.length ≤ d) (hn : a.length ≤ 200) (hm : b.length ≤ 200) :
    Calls Try.prog 22 #[.slice A a.length c, .slice B b.length d] w (TagRet w (joinL a b)) := by
  obtain ⟨i0, hi, hz0, hz1, hz2⟩ := info_parts info_tag
  have H0 := Lib.hid (show Mg w a b a b [] A B c d (.slice none 0 0) w from ⟨hr, hs, hc, hd, by simp, by simp; omega, Acc.nil (Below.refl _ _)⟩)
  clear hr hs hc hd
  go_enter Try.func22, Try.ntmps22
  go_wp2_with fail
  go_step3
  go_wp2_with fail
  go_step3
  go_wp2_with fail
  go_loopw [0, 1, 5] (fun va vb v wr => ∃ (la lb pre : List Tag) (Aa Ab : Option Addr) (ca cb na nb : Nat), va = .slice Aa na ca ∧ vb = .slice Ab nb cb ∧ na = la.length ∧ nb = lb.length ∧ Mg w a b la lb pre Aa Ab ca cb v wr) (fun va vb _ _ => (match va with | .slice _ n _ => n | _ => 0) + (match vb with | .slice _ n _ => n | _ => 0))
  case atStart => exact ⟨a, b, [], A, B, c, d, _, _, rfl, rfl, rfl, rfl, H0.out⟩
  case round =>
    obtain ⟨la, lb, pre, Aa, Ab, ca, cb, na, nb, rfl, rfl, hna, hnb, hmg⟩ := hrel
    have HM := Lib.hid hmg
    have hlen := hmg.len
    have hpre : pre.length ≤ 400 := by omega
    clear hmg hlen
    cases la with
    | nil =>
      cases lb with
      | nil =>
        have HN : Hid (joinL a b = pre.take 100) := Lib.hid (by unfold joinL; rw [HM.out.eq, merge_nil, List.append_nil])
        obtain ⟨Ap, cp, rfl, hsp, hcp⟩ := HM.out.acc.slice
        clear hsp
        obtain rfl : na = 0 := hna
        obtain rfl : nb = 0 := hnb
        by_cases h100 : pre.length ≤ 100
        · have hcut := cut_hi (P := Try.prog) 22 42 i0 Try.underlying22 hi .i64 Ap pre.length cp pre.length hcp
          have hmin : min (pre.length : Int) 100 = (pre.length : Int) := by omega
          have hd1 : decide ((pre.length : Int) ≤ 100) = true := by simp; omega
          go_wp2_with fail
          rw [Exit.noGoto_ret]
          go_ret
          exact ⟨_, rfl, by rw [HN.out, List.take_of_length_le h100]; exact HM.out.acc⟩
        · have hcut := cut_hi (P := Try.prog) 22 42 i0 Try.underlying22 hi .i64 Ap pre.length cp 100 (by omega)
          have hmin : min (pre.length : Int) 100 = 100 := by omega
          rw [show ((100 : Nat) : Int) = 100 from rfl] at hcut
          go_wp2_with fail
          rw [Exit.noGoto_ret]
          go_ret
          exact ⟨_, rfl, by rw [HN.out]; exact HM.out.acc.take (by omega)⟩
      | cons t lb =>
        obtain ⟨A2, hcut, s2, k2⟩ := cut1 HM.out.sb HM.out.kb
        obtain ⟨g, o, rfl, hg, c0, c1⟩ := head_cells (HM.out.sb.below HM.out.acc.2)
        have S2 := Lib.hid s2
        have K2 := Lib.hid k2
        clear s2 k2
        obtain rfl : na = 0 := hna
        obtain rfl : nb = lb.length + 1 := hnb
        have z1 : ((lb.length : Int) + 1 == 0) = false := by simp; omega
        go_wp2_with fail
        go_quiet (fail)
        go_wp2_with fail
        go_quiet (fail)
        go_wp2_with (at_builtin; refine wpList_tag rfl (.tmp 56) (.tmp 60) rfl (HM.out.acc.drewN _) t rfl rfl (by omega) ?_)
        intro v' w' hA
        have HS := Lib.hid (HM.out.step HM.out.sa S2.out HM.out.ka K2.out (merge_right t lb) (by simp <;> omega) hA)
        clear hA
        go_wp2_with fail
        go_roundw
        case rel => exact ⟨[], lb, pre ++ [t], _, _, _, _, _, _, rfl, rfl, rfl, rfl, HS.out⟩
        case measure => simp
    | cons s la =>
      cases lb with
      | nil =>
        obtain ⟨A2, hcut, s2, k2⟩ := cut1 HM.out.sa HM.out.ka
        obtain ⟨g, o, rfl, hg, c0, c1⟩ := head_cells (HM.out.sa.below HM.out.acc.2)
        have S2 := Lib.hid s2
        have K2 := Lib.hid k2
        clear s2 k2
        obtain rfl : na = la.length + 1 := hna
        obtain rfl : nb = 0 := hnb
        go_wp2_with fail
        go_quiet (fail)
        go_wp2_with (at_builtin; refine wpList_tag rfl (.tmp 34) (.tmp 38) rfl (HM.out.acc.drewN _) s rfl rfl (by omega) ?_)
        intro v' w' hA
        have HS := Lib.hid (HM.out.step S2.out HM.out.sb K2.out HM.out.kb (merge_left s la) (by simp <;> omega) hA)
        clear hA
        go_wp2_with fail
        go_roundw
        case rel => exact ⟨la, [], pre ++ [s], _, _, _, _, _, _, rfl, rfl, rfl, rfl, HS.out⟩
        case measure => simp
      | cons t lb =>
        obtain ⟨A2, hcut, s2, k2⟩ := cut1 HM.out.sa HM.out.ka
        obtain ⟨B2, hcut', s2', k2'⟩ := cut1 HM.out.sb HM.out.kb
        obtain ⟨g, o, rfl, hg, c0, c1⟩ := head_cells (HM.out.sa.below HM.out.acc.2)
        obtain ⟨g', o', rfl, hg', e0, e1⟩ := head_cells (HM.out.sb.below HM.out.acc.2)
        have S2 := Lib.hid s2
        have K2 := Lib.hid k2
        have S2' := Lib.hid s2'
        have K2' := Lib.hid k2'
        clear s2 k2 s2' k2'
        have hcmp := compare_lt s.nm t.nm
        obtain rfl : na = la.length + 1 := hna
        obtain rfl : nb = lb.length + 1 := hnb
        have z1 : ((lb.length : Int) + 1 == 0) = false := by simp; omega
        have z2 : ((la.length : Int) + 1 == 0) = false := by simp; omega
        have z3 : decide ((0 : Int) < (la.length : Int) + 1) = true := by simp <;> omega
        cases hlt : lt s.nm t.nm
        · have hmb := merge_both s t la lb
          rw [hlt] at hmb hcmp
          cases he : (s.nm == t.nm)
          · rw [he] at hmb
            have Hmb := Lib.hid hmb
            clear hmb hlt
            go_wp2_with fail
            go_quiet (exact Calls.quiet_of_same ((compare_any s.nm t.nm _).mono (by rintro e w' ⟨rfl, rfl⟩; exact ⟨rfl, rfl⟩)))
            go_wp2_with fail
            go_quiet (fail)
            go_wp2_with (at_builtin; refine wpList_tag rfl (.tmp 56) (.tmp 60) rfl (HM.out.acc.drewN _) t rfl rfl (by omega) ?_)
            intro v' w' hA
            have HS := Lib.hid (HM.out.step HM.out.sa S2'.out HM.out.ka K2'.out Hmb.out (by simp <;> omega) hA)
            clear hA
            go_wp2_with fail
            go_roundw
            case rel => exact ⟨s :: la, lb, pre ++ [t], _, _, _, _, _, _, rfl, rfl, rfl, rfl, HS.out⟩
            case measure => simp
          · rw [he] at hmb
            have Hmb := Lib.hid hmb
            clear hmb hlt
            have hmx : (if s.n < t.n then t.n else s.n) = max s.n t.n := by split <;> omega
            go_wp2_with fail
            go_quiet (exact Calls.quiet_of_same ((compare_any s.nm t.nm _).mono (by rintro e w' ⟨rfl, rfl⟩; exact ⟨rfl, rfl⟩)))
            go_wp2_with fail
            go_quiet (fail)
            go_wp2_with fail
            go_region_law (refine step_tag rfl (.tmp 64) (.tmp 79) rfl (by first | exact HM.out.acc.drewN _ | exact (HM.out.acc.drewN _).drewN _ | exact ((HM.out.acc.drewN _).drewN _).drewN _) s.nm (max s.n t.n) (by rfl) (by rfl) (by omega) ?_; intro v' w' hA)
            all_goals
              have HS := Lib.hid (HM.out.step S2.out S2'.out K2.out K2'.out Hmb.out (by simp <;> omega) hA)
              clear hA
              go_wp2_with fail
              go_quiet (fail)
              go_wp2_with fail
              go_roundw
              case rel => exact ⟨la, lb, pre ++ [⟨s.nm, max s.n t.n⟩], _, _, _, _, _, _, rfl, rfl, rfl, rfl, HS.out.drewN _⟩
              case measure => simp <;> omega
        · have hmb := merge_both s t la lb
          rw [hlt] at hmb hcmp
          have Hmb := Lib.hid hmb
          clear hmb hlt
          go_wp2_with fail
          go_quiet (exact Calls.quiet_of_same ((compare_any s.nm t.nm _).mono (by rintro e w' ⟨rfl, rfl⟩; exact ⟨rfl, rfl⟩)))
          go_wp2_with (at_builtin; refine wpList_tag rfl (.tmp 34) (.tmp 38) rfl (HM.out.acc.drewN _) s rfl rfl (by omega) ?_)
          intro v' w' hA
          have HS := Lib.hid (HM.out.step S2.out HM.out.sb K2.out HM.out.kb Hmb.out (by simp <;> omega) hA)
          clear hA
          go_wp2_with fail
          go_roundw
          case rel => exact ⟨la, t :: lb, pre ++ [s], _, _, _, _, _, _, rfl, rfl, rfl, rfl, HS.out⟩
          case measure => simp
#print axioms join_any
end Go.Proofs.Ytkfpnpfopinbkaa
