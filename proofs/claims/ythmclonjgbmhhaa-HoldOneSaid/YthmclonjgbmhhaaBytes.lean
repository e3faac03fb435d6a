/-
  The document's bytes.
-/
import Derived.Laws.Concat
import Derived.Test.YthmclonjgbmhhaaRow
namespace Go.Proofs.Ythmclonjgbmhhaa
open Go.RowKit Go.Sort
set_option linter.unusedVariables false

/-- A text, by its bytes. -/
def str (l : List UInt8) : ByteArray := ⟨l.toArray⟩
@[go_sem] theorem str_toList (l : List UInt8) : (str l).toList = l := ByteArray.toList_mk l
@[go_sem] theorem str_size (l : List UInt8) : (str l).size = l.length := ByteArray.size_mk_toArray l
theorem str_append (a b : List UInt8) : str a ++ str b = str (a ++ b) := by
  unfold str
  apply ByteArray.ext
  rw [ByteArray.data_append]
  simp

/-- A number of 64 bits. -/
def U64 (m : Nat) : Prop := m < 18446744073709551616
theorem U64.div {m : Nat} (h : U64 m) : U64 (m / 128) := by unfold U64 at *; omega

def numR (n : Nat) (s : List UInt8) : List UInt8 := if h : 128 ≤ n then numR (n / 128) (UInt8.ofNat (128 + n / 128 % 128) :: s) else s
termination_by n
decreasing_by omega
def numS (n : Nat) : List UInt8 := numR n [UInt8.ofNat (n % 128)]
def intS (z : Int) : List UInt8 := numS z.toNat
def dotS (d : Dot) : List UInt8 := intS d.nd ++ intS d.n
def holdS (h : Hold) : List UInt8 := dotS h.d ++ intS h.rc ++ intS h.un

theorem numR_step {n : Nat} (h : 128 ≤ n) (s : List UInt8) : numR n s = numR (n / 128) (UInt8.ofNat (128 + n / 128 % 128) :: s) := by rw [numR, dif_pos h]
theorem numR_end {n : Nat} (h : n < 128) (s : List UInt8) : numR n s = s := by rw [numR, dif_neg (by omega)]
theorem numR_len (k : Nat) : ∀ (n : Nat) (s : List UInt8), n < 128 ^ (k + 1) → (numR n s).length ≤ s.length + k := by
  induction k with
  | zero => intro n s h; rw [numR_end (by simpa using h)]; omega
  | succ k ih =>
    intro n s h
    by_cases h1 : 128 ≤ n
    · rw [numR_step h1]
      have := ih (n / 128) (UInt8.ofNat (128 + n / 128 % 128) :: s) (by rw [Nat.div_lt_iff_lt_mul (by omega)]; rw [Nat.pow_succ] at h; exact h)
      rw [List.length_cons] at this
      omega
    · rw [numR_end (by omega)]; omega
theorem numR_ge (k : Nat) : ∀ (n : Nat) (s : List UInt8), n ≤ k → s.length ≤ (numR n s).length := by
  induction k with
  | zero => intro n s h; rw [numR_end (by omega)]; exact Nat.le_refl _
  | succ k ih =>
    intro n s h
    by_cases h1 : 128 ≤ n
    · rw [numR_step h1]
      have := ih (n / 128) (UInt8.ofNat (128 + n / 128 % 128) :: s) (by omega)
      rw [List.length_cons] at this
      omega
    · rw [numR_end (by omega)]; exact Nat.le_refl _
theorem numS_len {n : Nat} (h : n < 18446744073709551616) : (numS n).length ≤ 11 := by
  have := numR_len 10 n [UInt8.ofNat (n % 128)] (by omega)
  unfold numS
  simp at this
  omega
theorem intS_len {z : Int} (h : z < 9223372036854775808) : (intS z).length ≤ 11 := numS_len (by omega)

theorem conv_at (W : World) (h j : Nat) (z : Int) (hz : z = j) (hh : W.heap.size = h) :
    (convert 67 9 (.slice (some ⟨h, 0, none⟩) 1 1)).run Try.prog (W.alloc (.cells #[.int .u8 z] 5)) = .ok (.string (str [UInt8.ofNat j])) (W.alloc (.cells #[.int .u8 z] 5)) := by
  subst hh
  subst hz
  rw [run_convert_bytes_string _ _ _ 5 _ _ _ Try.underlying67 Try.underlying5 Try.underlying9]
  have h1 := run_loadCells_list (P := Try.prog) (W.alloc (.cells #[.int .u8 (j : Int)] 5)) ⟨W.heap.size, 0, none⟩ [.int .u8 (j : Int)] (fun i v hv => by
    rw [Addr.add_lit, Nat.zero_add, (Blk.new W _ _).cell]
    simpa using hv)
  have h2 := run_bytesToString (P := Try.prog) (W.alloc (.cells #[.int .u8 (j : Int)] 5)) ⟨W.heap.size, 0, none⟩ 1 1 [(j : Int)] (by simpa using h1)
  rw [h2]
  rfl

set_option maxHeartbeats 2000000 in
set_option maxRecDepth 20000 in
theorem num_any (n : Nat) (w : World) (hn : n < 18446744073709551616) :
    Calls Try.prog 44 #[.int .u64 n] w fun e w' => e = .returned (.string (str (numS n))) ∧ Below w.heap.size w w' := by
  have hcv := conv_at w w.heap.size (n % 128) ((n : Int) % 128) (by omega) rfl
  have hL := numS_len hn
  have HL := Lib.hid hL
  have HU := Lib.hid (show U64 n from hn)
  clear hn
  have HB := Lib.hid ((Below.refl w.heap.size w).alloc (Nat.le_refl _) (.cells #[.int .u8 ((n : Int) % 128)] 5))
  clear hL
  go_enter Try.func44, Try.ntmps44
  go_wp2_with fail
  go_loopw [0, 3] (fun v0 v3 wr => ∃ (m : Nat) (s : List UInt8), v0 = .int .u64 m ∧ v3 = .string (str s) ∧ U64 m ∧ numS n = numR m s ∧ Below w.heap.size w wr) (fun v0 _ _ => (intOf v0).toNat)
  case atStart => exact ⟨n, [UInt8.ofNat (n % 128)], rfl, rfl, HU.out, rfl, HB.out⟩
  case round =>
    obtain ⟨m, s, rfl, rfl, hm, hp, hb⟩ := hrel
    have Hp := Lib.hid hp
    have B := Lib.hid hb
    have HM := Lib.hid hm
    clear hp hb hcv hm
    by_cases hlt : 128 ≤ m
    · have hsl : s.length ≤ 11 := by have := numR_ge m m s (Nat.le_refl _); rw [← Hp.out] at this; have := HL.out; omega
      have HN : Hid (numS n = numR (m / 128) (UInt8.ofNat (128 + m / 128 % 128) :: s)) := Lib.hid (by rw [Hp.out, numR_step hlt])
      have hm2 := HM.out
      have e1 : IntKind.u64.wrap ((m : Int) / 128) = ((m / 128 : Nat) : Int) := by rw [IntWalk.u64_in _ (by unfold U64 at hm2; omega)]; rfl
      have HM2 := Lib.hid hm2.div
      obtain ⟨q, hq⟩ : ∃ q, m / 128 = q := ⟨_, rfl⟩
      have hqm : q < m := by omega
      rw [hq] at e1 HM2 HN
      clear hq hm2
      have e3 : IntKind.u64.wrap (128 + (q : Int) % 128) = 128 + (q : Int) % 128 := IntWalk.u64_in _ (by omega)
      have e4 : (128 + (q : Int) % 128) % 256 = 128 + (q : Int) % 128 := by omega
      have hcv := conv_at wr wr.heap.size (128 + q % 128) (128 + (q : Int) % 128) (by omega) rfl
      obtain ⟨b8, hb8⟩ : ∃ b8, UInt8.ofNat (128 + q % 128) = b8 := ⟨_, rfl⟩
      rw [hb8] at hcv HN
      clear hb8
      have hcat := fun (W : World) => run_string_add_sum (P := Try.prog) W (str [b8]) (str s) (by rw [str_size, str_size]; simp; omega)
      rw [str_append] at hcat
      have HB1 := Lib.hid (B.out.alloc B.out.size (.cells #[.int .u8 (128 + (q : Int) % 128)] 5))
      clear Hp
      go_wp2_with fail
      go_roundw
      case rel => exact ⟨q, b8 :: s, rfl, rfl, HM2.out, HN.out, HB1.out⟩
      case measure => simp [intOf]; omega
    · have HN : Hid (numS n = s) := Lib.hid (by rw [Hp.out, numR_end (by omega)])
      go_wp2_with fail
      go_ret
      exact ⟨by rw [HN.out]; rfl, B.out⟩

set_option maxHeartbeats 1000000 in
theorem int_any (z : Int) (w : World) (hz : z < 9223372036854775808) :
    Calls Try.prog 33 #[.int .i64 z] w fun e w' => e = .returned (.string (str (intS z))) ∧ Below w.heap.size w w' := by
  by_cases h : z < 0
  · have HI : Hid (intS z = numS 0) := Lib.hid (by unfold intS; rw [show z.toNat = 0 by omega])
    go_enter Try.func33, Try.ntmps33
    go_wp2_with fail
    refine (num_any 0 _ (by omega)).mono ?_
    rintro e w1 ⟨rfl, hb⟩
    have B := Lib.hid hb
    clear hb
    go_wp2_with fail
    go_ret
    exact ⟨by rw [HI.out]; rfl, B.out⟩
  · obtain ⟨n, rfl⟩ : ∃ n : Nat, z = n := ⟨z.toNat, by omega⟩
    have HI : Hid (intS (n : Int) = numS n) := Lib.hid (by unfold intS; rw [show (n : Int).toNat = n by omega])
    have hd : decide ((n : Int) < 0) = false := by simp
    go_enter Try.func33, Try.ntmps33
    go_wp2_with fail
    refine (num_any n _ (by omega)).mono ?_
    rintro e w1 ⟨rfl, hb⟩
    have B := Lib.hid hb
    clear hb
    go_wp2_with fail
    go_ret
    exact ⟨by rw [HI.out]; rfl, B.out⟩

set_option maxHeartbeats 1000000 in
theorem dotBytes_any (d : Dot) (w : World) (h1 : d.nd < 9223372036854775808) (h2 : d.n < 9223372036854775808) :
    Calls Try.prog 34 #[.agg #[.int .i64 d.nd, .int .i64 d.n]] w fun e w' => e = .returned (.string (str (dotS d))) ∧ Below w.heap.size w w' := by
  have l1 := intS_len h1
  have l2 := intS_len h2
  have hcat := fun (W : World) => run_string_add_sum (P := Try.prog) W (str (intS d.nd)) (str (intS d.n)) (by rw [str_size, str_size]; omega)
  rw [str_append] at hcat
  have I1 := Lib.hid (fun W => int_any d.nd W h1)
  have I2 := Lib.hid (fun W => int_any d.n W h2)
  have HD : Hid (dotS d = intS d.nd ++ intS d.n) := Lib.hid rfl
  obtain ⟨W0, hW0⟩ : ∃ W0, w.alloc (.cells #[.int .i64 d.nd, .int .i64 d.n] 24) = W0 := ⟨_, rfl⟩
  have hb0 : Below w.heap.size w W0 := hW0 ▸ (Below.refl _ _).alloc (Nat.le_refl _) _
  have hd0 : DotAt W0 w.heap.size d := hW0 ▸ DotAt.new w d
  have B0 := Lib.hid hb0
  have r0 := fun d os => cell_regrown hd0.cells.1 d os
  have r1 := fun d os => cell_regrown hd0.cells.2 d os
  clear hb0 hd0 l1 l2 h1 h2
  go_enter Try.func34, Try.ntmps34
  go_wp2_with fail
  refine wp_region_quiet_below (by kernel_rfl) (by kernel_rfl) ?_
  repeat (go_big_quiet_step (first | (go_at_call 33; first | (with_reducible exact Calls.regrown_of (I1.out _)) | (with_reducible exact Calls.regrown_of (I2.out _)))))
  refine wpQuiet_nil ?_
  intro w2 hw2
  obtain ⟨⟨dq, osq⟩, hw2⟩ := hw2
  have HB2 := Lib.hid (B0.out.trans ((below_regrown W0 dq osq).mono B0.out.size))
  rw [← hw2] at HB2
  clear hw2
  go_wp2_with fail
  go_ret
  exact ⟨by rw [HD.out]; rfl, HB2.out⟩

def bytesL (l : List Hold) : List UInt8 := intS l.length ++ l.flatMap holdS
theorem good_lt {t : Hold} (h : Good t) : t.d.nd < 9223372036854775808 ∧ t.d.n < 9223372036854775808 ∧ t.rc < 9223372036854775808 ∧ t.un < 9223372036854775808 := by
  obtain ⟨h1, h2, h3⟩ := h
  unfold okDot okI at h1
  unfold okI at h2
  unfold okT at h3
  simp at h1 h2 h3
  omega

set_option maxRecDepth 20000 in
set_option maxHeartbeats 2000000 in
theorem bytes_any (A : Option Addr) (c : Nat) (l : List Hold) (w : World) (hr : Sl w 4 A l.length (hcells l)) (hn : l.length ≤ 1000) (hf : ∀ t ∈ l, Good t) :
    Calls Try.prog 15 #[.slice A l.length c] w fun e w' => e = .returned (.string (str (bytesL l))) ∧ Below w.heap.size w w' := by
  have Hr := Lib.hid hr
  have HF := Lib.hid hf
  have hl0 := intS_len (z := (l.length : Int)) (by omega)
  have HB0 : Hid (bytesL l = intS l.length ++ l.flatMap holdS) := Lib.hid rfl
  clear hr hf
  go_enter Try.func15, Try.ntmps15
  go_wp2_with fail
  refine (int_any (l.length : Int) _ (by omega)).mono ?_
  rintro e w1 ⟨rfl, hb⟩
  have B1 := Lib.hid hb
  clear hb
  go_wp2_with fail
  go_loopw [3, 4] (fun v i wr => ∃ (k : Nat) (s : List UInt8), k ≤ l.length ∧ i = .int .i64 k ∧ v = .string (str s) ∧ s.length ≤ 11 + 44 * k ∧ bytesL l = s ++ (l.drop k).flatMap holdS ∧ Below w.heap.size w wr) (fun _ i _ => l.length - (intOf i).toNat)
  case atStart => exact ⟨0, intS l.length, Nat.zero_le _, rfl, rfl, by omega, HB0.out, B1.out⟩
  case round =>
    obtain ⟨k, s, hk, rfl, rfl, hs, hp, hb⟩ := hrel
    have Hp := Lib.hid hp
    have B := Lib.hid hb
    clear hp hb
    by_cases hlt : k < l.length
    · obtain ⟨g, o, rfl, hg, c0, c1, c2, c3⟩ := hold_cells (Hr.out.below B.out) (List.getElem?_eq_getElem hlt)
      obtain ⟨b1, b2, b3, b4⟩ := good_lt (HF.out _ (List.getElem_mem hlt))
      have HK : Hid ((l.drop k).flatMap holdS = holdS l[k] ++ (l.drop (k + 1)).flatMap holdS) := Lib.hid (by rw [List.drop_eq_getElem_cons hlt, List.flatMap_cons])
      generalize hz : l[k] = t at c0 c1 c2 c3 b1 b2 b3 b4 HK
      clear hz
      have C1 := Lib.hid (fun W => dotBytes_any t.d W b1 b2)
      have C2 := Lib.hid (fun W => int_any t.rc W b3)
      have C3 := Lib.hid (fun W => int_any t.un W b4)
      have L1 := intS_len b1
      have L2 := intS_len b2
      have L3 := intS_len b3
      have L4 := intS_len b4
      have hds : (dotS t.d).length ≤ 22 := by unfold dotS; rw [List.length_append]; omega
      have HH : Hid (holdS t = dotS t.d ++ intS t.rc ++ intS t.un) := Lib.hid rfl
      clear b1 b2 b3 b4 L1 L2
      generalize dotS t.d = x1 at hds HH C1
      generalize intS t.rc = x2 at L3 HH C2
      generalize intS t.un = x3 at L4 HH C3
      have hc1 := fun (W : World) => run_string_add_sum (P := Try.prog) W (str s) (str x1) (by rw [str_size, str_size]; omega)
      rw [str_append] at hc1
      obtain ⟨y1, hy1⟩ : ∃ y1, s ++ x1 = y1 := ⟨_, rfl⟩
      have hly1 : y1.length ≤ 33 + 44 * k := by rw [← hy1, List.length_append]; omega
      rw [hy1] at hc1
      have hc2 := fun (W : World) => run_string_add_sum (P := Try.prog) W (str y1) (str x2) (by rw [str_size, str_size]; omega)
      rw [str_append] at hc2
      obtain ⟨y2, hy2⟩ : ∃ y2, y1 ++ x2 = y2 := ⟨_, rfl⟩
      have hly2 : y2.length ≤ 44 + 44 * k := by rw [← hy2, List.length_append]; omega
      rw [hy2] at hc2
      have hc3 := fun (W : World) => run_string_add_sum (P := Try.prog) W (str y2) (str x3) (by rw [str_size, str_size]; omega)
      rw [str_append] at hc3
      obtain ⟨y3, hy3⟩ : ∃ y3, y2 ++ x3 = y3 := ⟨_, rfl⟩
      have hly3 : y3.length ≤ 11 + 44 * (k + 1) := by rw [← hy3, List.length_append]; omega
      rw [hy3] at hc3
      have HN : Hid (bytesL l = y3 ++ (l.drop (k + 1)).flatMap holdS) := Lib.hid (by rw [Hp.out, HK.out, HH.out, ← hy3, ← hy2, ← hy1]; simp only [List.append_assoc])
      have HL3 := Lib.hid hly3
      have r0 := fun d os => cell_regrown c0 d os
      have r1 := fun d os => cell_regrown c1 d os
      have r2 := fun d os => cell_regrown c2 d os
      have r3 := fun d os => cell_regrown c3 d os
      have hkI : (k : Int) < (l.length : Int) := by omega
      have hkI0 : (0 : Int) ≤ (k : Int) := by omega
      clear c0 c1 c2 c3 hy1 hy2 hy3 hly1 hly2 hly3 HK HH Hp hds L3 L4
      go_wp2_with fail
      refine wp_region_quiet_below (by kernel_rfl) (by kernel_rfl) ?_
      repeat (go_big_quiet_step (first | (go_at_call 34; exact Calls.regrown_of (C1.out _)) | (go_at_call 33; first | (with_reducible exact Calls.regrown_of (C2.out _)) | (with_reducible exact Calls.regrown_of (C3.out _)))))
      refine wpQuiet_nil ?_
      intro w2 hw2
      obtain ⟨⟨dq, osq⟩, hw2⟩ := hw2
      have HB2 := Lib.hid (B.out.trans ((below_regrown wr dq osq).mono B.out.size))
      rw [← hw2] at HB2
      clear hw2 hc1 hc2 hc3 r0 r1 r2 r3
      go_wp2_with fail
      go_roundw
      case rel => exact ⟨k + 1, y3, by omega, by go_num, rfl, HL3.out, HN.out, HB2.out⟩
      case measure => simp [intOf]; omega
    · have HN : Hid (bytesL l = s) := Lib.hid (by rw [Hp.out, List.drop_eq_nil_of_le (by omega)]; simp)
      go_wp2_with fail
      go_ret
      exact ⟨by rw [HN.out]; rfl, B.out⟩

#print axioms bytes_any
end Go.Proofs.Ythmclonjgbmhhaa
