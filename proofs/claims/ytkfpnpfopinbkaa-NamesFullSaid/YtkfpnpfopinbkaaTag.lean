/-
  Tags, as cells; the small functions on texts and catalogues.
-/
import Derived.Test.YtkfpnpfopinbkaaMem
namespace Go.Proofs.Ytkfpnpfopinbkaa
open Go.RowKit
set_option linter.unusedVariables false

/-! ### Rows of structs, as cells -/
section
variable {α : Type} (f : α → List Value) (s : Nat) (hf : ∀ a, (f a).length = s)
include hf
theorem fm_length (l : List α) : (l.flatMap f).length = l.length * s := by
  induction l with
  | nil => simp
  | cons a l ih => rw [List.flatMap_cons, List.length_append, ih, hf, List.length_cons, Nat.succ_mul, Nat.add_comm]
theorem fm_drop (l : List α) (k : Nat) : (l.drop k).flatMap f = (l.flatMap f).drop (k * s) := by
  induction l generalizing k with
  | nil => simp
  | cons a l ih =>
    cases k with
    | zero => simp
    | succ k =>
      rw [List.drop_succ_cons, ih, List.flatMap_cons, List.drop_append, hf]
      have e1 : (k + 1) * s - s = k * s := by rw [Nat.succ_mul]; omega
      have e2 : List.drop ((k + 1) * s) (f a) = [] := List.drop_eq_nil_of_le (by rw [hf, Nat.succ_mul]; omega)
      rw [e1, e2, List.nil_append]
theorem fm_take (l : List α) (k : Nat) : (l.take k).flatMap f = (l.flatMap f).take (k * s) := by
  induction l generalizing k with
  | nil => simp
  | cons a l ih =>
    cases k with
    | zero => simp
    | succ k =>
      rw [List.take_succ_cons, List.flatMap_cons, ih, List.flatMap_cons, List.take_append, hf]
      have e1 : (k + 1) * s - s = k * s := by rw [Nat.succ_mul]; omega
      have e2 : List.take ((k + 1) * s) (f a) = f a := List.take_of_length_le (by rw [hf, Nat.succ_mul]; omega)
      rw [e1, e2]
theorem fm_at (l : List α) (k : Nat) (a : α) (h : l[k]? = some a) (j : Nat) (hj : j < s) : (l.flatMap f)[k * s + j]? = (f a)[j]? := by
  have hk : k < l.length := (List.getElem?_eq_some_iff.1 h).1
  have hd : l.drop k = a :: l.drop (k + 1) := by
    rw [List.drop_eq_getElem_cons hk]
    congr 1
    rw [List.getElem?_eq_getElem hk] at h
    injection h
  rw [← List.getElem?_drop, ← fm_drop f s hf, hd, List.flatMap_cons, List.getElem?_append_left (by rw [hf]; exact hj)]
end

/-- A text, by its bytes. -/
def str (l : List UInt8) : ByteArray := ⟨l.toArray⟩
@[go_sem] theorem str_toList (l : List UInt8) : (str l).toList = l := ByteArray.toList_mk l
@[go_sem] theorem str_size (l : List UInt8) : (str l).size = l.length := ByteArray.size_mk_toArray l
theorem str_of (s : ByteArray) : ∃ l, s = str l := ⟨s.data.toList, by cases s; simp [str]⟩

/-- A tag. -/
structure Tag where
  nm : List UInt8
  n : Int

def tc (t : Tag) : List Value := [.string (str t.nm), .int .i64 t.n]
def tcells (l : List Tag) : List Value := l.flatMap tc
theorem tc_len (t : Tag) : (tc t).length = 2 := rfl
theorem tcells_length (l : List Tag) : (tcells l).length = l.length * 2 := fm_length tc 2 tc_len l
theorem tcells_drop (l : List Tag) (k : Nat) : tcells (l.drop k) = (tcells l).drop (k * 2) := fm_drop tc 2 tc_len l k
theorem tcells_take (l : List Tag) (k : Nat) : tcells (l.take k) = (tcells l).take (k * 2) := fm_take tc 2 tc_len l k
theorem tcells_append (l m : List Tag) : tcells (l ++ m) = tcells l ++ tcells m := by unfold tcells; rw [List.flatMap_append]
theorem tcells_one (l : List Tag) : ∀ u ∈ tcells l, u.oneCell' = true := by
  intro u hu
  obtain ⟨t, _, h⟩ := List.mem_flatMap.1 hu
  simp [tc] at h
  rcases h with rfl | rfl <;> rfl

theorem tag_cells {w : World} {A : Option Addr} {l : List Tag} {k : Nat} {t : Tag} (h : Sl w 2 A l.length (tcells l)) (hl : l[k]? = some t) :
    ∃ g o, A = some ⟨g, o, none⟩ ∧ g < w.heap.size ∧ w.cell? ⟨g, o + k * 2, none⟩ = some (.string (str t.nm)) ∧ w.cell? ⟨g, o + k * 2 + 1, none⟩ = some (.int .i64 t.n) := by
  have hk : k < l.length := (List.getElem?_eq_some_iff.1 hl).1
  obtain ⟨g, o, rfl, hg, hc⟩ := h.2 (by omega)
  refine ⟨g, o, rfl, hg, ?_, ?_⟩
  · have := hc (k * 2 + 0) (.string (str t.nm)) (by rw [tcells, fm_at tc 2 tc_len l k t hl 0 (by omega)]; rfl)
    simpa using this
  · rw [Nat.add_assoc]; exact hc (k * 2 + 1) _ (by rw [tcells, fm_at tc 2 tc_len l k t hl 1 (by omega)]; rfl)

theorem sl_tag (w : World) (t : Tag) (h : Nat) (hh : w.heap.size = h) : Sl (w.alloc (.cells #[.string (str t.nm), .int .i64 t.n] 42)) 2 (some ⟨h, 0, none⟩) 1 (tcells [t]) := by
  subst hh
  refine ⟨rfl, fun _ => ⟨_, _, rfl, by simp, fun j u hu => ?_⟩⟩
  rw [(Blk.new w _ _).cell]
  simpa [tcells, tc] using hu

/-- A text of at most n bytes. -/
def sh (s : List UInt8) (n : Nat) : List UInt8 := s.take n

theorem str_extract (s : List UInt8) (n : Nat) : (str s).extract 0 n = str (s.take n) := by
  unfold str
  rw [ByteArray.extract_mk]
  simp

set_option maxHeartbeats 400000 in
theorem short_any (s : List UInt8) (n : Nat) (w : World) (hs : s.length ≤ 9223372036854775807) (hn : n ≤ 1000) :
    Calls Try.prog 10 #[.string (str s), .int .i64 n] w fun e w' => e = .returned (.string (str (sh s n))) ∧ w = w' := by
  by_cases h : n < s.length
  · have h' : (n : Int) < (s.length : Int) := by omega
    have h'' : n ≤ (str s).size := by rw [str_size]; omega
    go_enter Try.func10, Try.ntmps10
    go_wp2_with fail
    go_ret
    exact ⟨by unfold sh; rw [← str_extract]; rfl, rfl⟩
  · have h' : ¬ (n : Int) < (s.length : Int) := by omega
    have H : Hid (sh s n = s) := Lib.hid (by unfold sh; rw [List.take_of_length_le (by omega)])
    go_enter Try.func10, Try.ntmps10
    go_wp2_with fail
    go_ret
    exact ⟨by rw [H.out]; rfl, rfl⟩

def okName (s : List UInt8) : Bool := !s.isEmpty && decide (s.length ≤ 40)

set_option maxHeartbeats 400000 in
theorem name_any (s : List UInt8) (w : World) (hs : s.length ≤ 9223372036854775807) :
    Calls Try.prog 26 #[.string (str s)] w fun e w' => e = .returned (.bool (okName s)) ∧ w = w' := by
  have e1 : decide ((s.length : Int) ≤ 40) = decide (s.length ≤ 40) := by rw [decide_eq_decide]; omega
  have E1 := Lib.hid e1
  clear e1
  cases s with
  | nil =>
    go_enter Try.func26, Try.ntmps26
    go_wp2_with fail
    go_ret
    exact ⟨rfl, rfl⟩
  | cons x s =>
    have H : Hid (okName (x :: s) = decide ((x :: s).length ≤ 40)) := Lib.hid rfl
    generalize hl : (x :: s).length = k at *
    have h1 : decide ((1 : Int) ≤ (k : Int)) = true := by simp; simp at hl; omega
    have hz : (str (x :: s)).size = k := (str_size _).trans hl
    clear hl
    go_enter Try.func26, Try.ntmps26
    go_wp2_with fail
    go_ret
    exact ⟨by rw [H.out, ← E1.out]; rfl, rfl⟩

set_option maxHeartbeats 400000 in
theorem may_any (s : List UInt8) (w : World) (hs : s.length ≤ 9223372036854775807) :
    Calls Try.prog 24 #[.string (str s)] w fun e w' => e = .returned (.bool (okName s)) ∧ w = w' := by
  have e1 : decide ((s.length : Int) ≤ 40) = decide (s.length ≤ 40) := by rw [decide_eq_decide]; omega
  have E1 := Lib.hid e1
  clear e1
  cases s with
  | nil =>
    go_enter Try.func24, Try.ntmps24
    go_wp2_with fail
    go_ret
    exact ⟨rfl, rfl⟩
  | cons x s =>
    have H : Hid (okName (x :: s) = decide ((x :: s).length ≤ 40)) := Lib.hid rfl
    generalize hl : (x :: s).length = k at *
    have hz : (str (x :: s)).size = k := (str_size _).trans hl
    clear hl
    go_enter Try.func24, Try.ntmps24
    go_wp2_with fail
    go_ret
    exact ⟨by rw [H.out, ← E1.out]; rfl, rfl⟩

/-- The N of a name; 0: none. -/
def numL : List Tag → List UInt8 → Int
  | [], _ => 0
  | t :: l, s => if t.nm == s then t.n else numL l s

theorem numL_drop (l : List Tag) (s : List UInt8) (k : Nat) (hk : k < l.length) : numL (l.drop k) s = if l[k].nm == s then l[k].n else numL (l.drop (k + 1)) s := by
  rw [List.drop_eq_getElem_cons hk]; rfl

set_option maxHeartbeats 400000 in
theorem number_any (A : Option Addr) (c : Nat) (l : List Tag) (s : List UInt8) (w : World) (hr : Sl w 2 A l.length (tcells l)) (hn : l.length ≤ 9223372036854775807) :
    Calls Try.prog 27 #[.slice A l.length c, .string (str s)] w fun e w' => e = .returned (.int .i64 (numL l s)) ∧ w = w' := by
  have Hr := Lib.hid hr
  clear hr
  go_enter Try.func27, Try.ntmps27
  go_wp2_with fail
  go_loop [5] (fun i => ∃ k : Nat, k ≤ l.length ∧ i = .int .i64 k ∧ numL l s = numL (l.drop k) s) (fun i => l.length - (intOf i).toNat)
  case atStart => exact ⟨0, Nat.zero_le _, rfl, rfl⟩
  case round =>
    obtain ⟨k, hk, rfl, hno⟩ := hrel
    have Hno := Lib.hid hno
    clear hno
    by_cases hlt : k < l.length
    · obtain ⟨g, o, rfl, hg, c0, c1⟩ := tag_cells Hr.out (List.getElem?_eq_getElem hlt)
      have HK := Lib.hid (numL_drop l s k hlt)
      generalize hz : l[k] = t at c0 c1 HK
      clear hz
      cases he : (t.nm == s)
      · have HN : Hid (numL l s = numL (l.drop (k + 1)) s) := Lib.hid (by rw [Hno.out, HK.out, he]; rfl)
        clear HK
        go_wp2_with fail
        go_round
        case rel => exact ⟨k + 1, by omega, by go_num, HN.out⟩
        case measure => simp [intOf]; omega
      · have HN : Hid (numL l s = t.n) := Lib.hid (by rw [Hno.out, HK.out, he]; rfl)
        clear HK
        go_wp2_with fail
        go_ret
        exact ⟨by rw [HN.out]; rfl, rfl⟩
    · have HN : Hid (numL l s = 0) := Lib.hid (by rw [Hno.out, List.drop_eq_nil_of_le (by omega)]; rfl)
      go_wp2_with fail
      go_ret
      exact ⟨by rw [HN.out]; rfl, rfl⟩

/-- Is it there? -/
def hasL (l : List Tag) (s : List UInt8) : Bool := (numL l s).tmod 2 == 1

theorem refHas_any (A : Option Addr) (c : Nat) (l : List Tag) (s : List UInt8) (w : World) (hr : Sl w 2 A l.length (tcells l)) (hn : l.length ≤ 9223372036854775807) :
    Calls Try.prog 20 #[.slice A l.length c, .string (str s)] w fun e w' => e = .returned (.bool (hasL l s)) ∧ w = w' := by
  have Hr := Lib.hid hr
  clear hr
  go_enter Try.func20, Try.ntmps20
  go_wp2_with fail
  refine (number_any A c l s w Hr.out hn).mono ?_
  rintro e w' ⟨rfl, rfl⟩
  go_wp2_with fail
  go_ret
  exact ⟨rfl, rfl⟩

theorem info_tag : (Try.prog.info? 42).map (fun i => (i.zero, i.size, i.bytes)) = some (some (.agg #[.string ⟨#[]⟩, .int .i64 0]), 2, 24) := by kernel_rfl

/-- What hands back a row of its own. -/
def OwnRet (w : World) (e : TypeId) (s n : Nat) (xs : List Value) (en : Ending) (w' : World) : Prop :=
  ∃ v, en = .returned v ∧ w'.ownsRow w.heap.size e s v n xs ∧ Below w.heap.size w w'

set_option maxHeartbeats 400000 in
theorem clone_tags (A : Option Addr) (n c : Nat) (xs : List Value) (w : World) (hr : Sl w 2 A n xs) (h1 : ∀ u ∈ xs, u.oneCell' = true) (hn : n * 24 ≤ 140737488355328) :
    Calls Try.prog 31 #[.slice A n c] w (OwnRet w 42 2 n xs) := by
  have Hr := Lib.hid hr
  clear hr
  obtain ⟨i0, hi, hz0, hz1, hz2⟩ := info_parts info_tag
  have hnl := fun (w : World) => Lib.run_eql_slice_nil (P := Try.prog) w 22 42 A n c 0 0 Try.underlying22
  have Q1 := Lib.hid (show 0 + n ≤ maxLen by unfold maxLen; omega)
  have Q2 := Lib.hid (show (0 + n) * 24 ≤ 140737488355328 by omega)
  rcases A with _ | a
  · go_enter Try.func31, Try.ntmps31
    go_wp2_with fail
    go_ret
    have h0 : n = 0 := by
      rcases Nat.eq_zero_or_pos n with h | h
      · exact h
      · obtain ⟨_, _, h, _⟩ := Hr.out.2 h; cases h
    subst h0
    have hx : xs = [] := List.eq_nil_of_length_eq_zero (by simpa using Hr.out.1)
    subst hx
    exact ⟨_, rfl, World.ownsRow_nil _ _ _ _, Below.refl _ _⟩
  · go_enter Try.func31, Try.ntmps31
    go_wp2_with (at_builtin; refine wpList_append_src _ rfl (.tmp 5) (.tmp 6) 22 rfl w.heap.size 42 i0 _ 2 24 Try.underlying22 hi hz0 hz1 hz2 rfl (by decide) _ 0 [] rfl (World.ownsRow_made w #[] 0 (Nat.le_refl _) (Nat.zero_le _) rfl) _ n c xs rfl (Hr.out.below ((Below.refl _ _).alloc (Nat.le_refl _) _)) h1 Q1.out Q2.out (by simp) ?_)
    intro v' w1 hown hg hat
    have Hown := Lib.hid hown
    have Hg := Lib.hid hg
    clear hown hg hat
    go_wp2_with fail
    go_ret
    refine ⟨v', rfl, by simpa using Hown.out, ((Below.refl _ w).alloc (Nat.le_refl _) _).grown Hg.out (by simp) (by intro k hk; simp [Value.ownBlock] at hk; omega)⟩

#print axioms clone_tags
end Go.Proofs.Ytkfpnpfopinbkaa
