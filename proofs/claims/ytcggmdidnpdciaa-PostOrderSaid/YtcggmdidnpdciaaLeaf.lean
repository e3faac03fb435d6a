/-
  The leaves: slices.Index, Contains, Clone, IndexFunc .. at this program's types.
-/
import Derived.Test.YtcggmdidnpdciaaMem
namespace Go.Proofs.Ytcggmdidnpdciaa
open Go.RowKit

/-- The cells of ints. -/
abbrev ints (zs : List Int) : List Value := zs.map (Value.int .i64)

/-- The place of the first v; -1: there is none. -/
def idx (zs : List Int) (v : Int) : Int := if v ∈ zs then (zs.idxOf v : Int) else -1

theorem idx_none (zs : List Int) (v : Int) (h : ∀ x ∈ zs, x ≠ v) : idx zs v = -1 := by
  unfold idx; rw [if_neg (fun hm => h v hm rfl)]

theorem idx_at (zs : List Int) (v : Int) (k : Nat) (hk : k < zs.length) (h : ∀ x ∈ zs.take k, x ≠ v) (he : zs[k] = v) : idx zs v = k := by
  have hm : v ∈ zs := he ▸ List.getElem_mem hk
  unfold idx
  rw [if_pos hm]
  congr 1
  have h1 : zs.idxOf v ≤ k := by
    rcases Nat.lt_or_ge k (zs.idxOf v) with hlt | hge
    · have := List.not_of_lt_findIdx (p := (· == v)) (xs := zs) (i := k) (by simpa [List.idxOf] using hlt)
      simp [he] at this
    · exact hge
  rcases Nat.lt_or_ge (zs.idxOf v) k with hlt | hge
  · have hl : zs.idxOf v < zs.length := by omega
    have hget : zs[zs.idxOf v] = v := List.getElem_idxOf hl
    exact absurd hget (h _ (List.mem_take_iff_getElem.2 ⟨zs.idxOf v, by omega, rfl⟩))
  · omega

theorem idx_nonneg (zs : List Int) (v : Int) : (0 ≤ idx zs v) ↔ v ∈ zs := by
  unfold idx; split <;> simp_all

set_option maxHeartbeats 400000 in
theorem index_any (A : Option Addr) (n c : Nat) (zs : List Int) (v : Int) (w : World) (hr : Sl w 1 A n (ints zs)) (hn : n ≤ 9223372036854775807) :
    Calls Try.prog 26 #[.slice A n c, .int .i64 v] w fun e w' => e = .returned (.int .i64 (idx zs v)) ∧ w = w' := by
  have hl : zs.length = n := by have := hr.1; simpa using this
  have H := Lib.hid hl
  have Hr := Lib.hid hr
  clear hl hr
  go_enter Try.func26, Try.ntmps26
  go_wp2
  go_loop [8, 5] (fun i _ => ∃ k : Nat, k ≤ n ∧ i = .int .i64 k ∧ ∀ x ∈ zs.take k, x ≠ v) (fun i _ => n - (intOf i).toNat)
  case atStart => exact ⟨0, Nat.zero_le _, rfl, by simp⟩
  case round =>
    obtain ⟨k, hk, rfl, hno⟩ := hrel
    have Hno := Lib.hid hno
    clear hno
    by_cases hlt : k < n
    · obtain ⟨g, o, rfl, hg, hc⟩ := Hr.out.2 (by omega)
      have hkl : k < zs.length := by rw [H.out]; exact hlt
      have hck : w.cell? ⟨g, o + k, none⟩ = some (.int .i64 zs[k]) := hc k _ (by simp)
      generalize hz : zs[k] = z at hck
      have Hz := Lib.hid hz
      clear hz hc
      by_cases hv : (v == z) = true
      · have hv' : z = v := by simpa using (beq_iff_eq.1 hv).symm
        have Hv := Lib.hid hv'
        clear hv'
        go_wp2
        go_ret
        exact ⟨by rw [idx_at zs v k hkl Hno.out (Hz.out.trans Hv.out)]; rfl, rfl⟩
      · have hv0 : (v == z) = false := by simpa using hv
        have Hv : Hid (z ≠ v) := Lib.hid (fun h => hv (by simp [h]))
        clear hv
        go_wp2
        go_round
        case rel => exact ⟨k + 1, by omega, by go_num, by
          rw [List.take_succ_eq_append_getElem hkl]
          intro x hx
          rcases List.mem_append.1 hx with hx | hx
          · exact Hno.out x hx
          · have : x = z := by simpa [Hz.out] using hx
            rw [this]; exact Hv.out⟩
        case measure => simp [intOf]; omega
    · go_wp2
      go_ret
      exact ⟨by rw [idx_none zs v (by have := Hno.out; rwa [List.take_of_length_le (by rw [H.out]; omega)] at this)]; rfl, rfl⟩

theorem contains_any (A : Option Addr) (n c : Nat) (zs : List Int) (v : Int) (w : World) (hr : Sl w 1 A n (ints zs)) (hn : n ≤ 9223372036854775807) :
    Calls Try.prog 21 #[.slice A n c, .int .i64 v] w fun e w' => e = .returned (.bool (decide (v ∈ zs))) ∧ w = w' := by
  have Hr := Lib.hid hr
  clear hr
  go_enter Try.func21, Try.ntmps21
  go_wp2_with fail
  refine (index_any A n c zs v w Hr.out hn).mono ?_
  rintro e w' ⟨rfl, rfl⟩
  go_wp2_with fail
  go_ret
  exact ⟨congrArg (fun b => Ending.returned (.bool b)) (decide_eq_decide.2 (idx_nonneg zs v)), rfl⟩


theorem info_int : (Try.prog.info? 3).map (fun i => (i.zero, i.size, i.bytes)) = some (some (.int .i64 0), 1, 8) := by kernel_rfl
theorem info_ints : (Try.prog.info? 28).map (fun i => (i.zero, i.size, i.bytes)) = some (some (.slice none 0 0), 1, 24) := by kernel_rfl
theorem info_letter : (Try.prog.info? 32).map (fun i => (i.zero, i.size, i.bytes)) = some (some (.agg #[.int .i64 0, .int .i64 0, .string ⟨#[]⟩]), 3, 32) := by kernel_rfl

/-- What Clone hands back. -/
def Cloned (w : World) (e : TypeId) (s n : Nat) (xs : List Value) (en : Ending) (w' : World) : Prop :=
  ∃ A' c', en = .returned (.slice A' n c') ∧ Row w' e s A' n xs ∧ Below w.heap.size w w' ∧ n ≤ c' ∧ c' ≤ maxLen ∧ ∀ a, A' = some a → w.heap.size ≤ a.block

set_option maxHeartbeats 400000 in
theorem clone_ints (A : Option Addr) (n c : Nat) (xs : List Value) (w : World) (hr : Sl w 1 A n xs) (hn : n * 8 ≤ 140737488355328) :
    Calls Try.prog 19 #[.slice A n c] w (Cloned w 3 1 n xs) := by
  have Hr := Lib.hid hr
  clear hr
  obtain ⟨i0, hi, hz0, hz1, hz2⟩ := info_parts info_int
  have hnl := fun (w : World) => Lib.run_eql_slice_nil (P := Try.prog) w 28 3 A n c 0 0 Try.underlying28
  rcases A with _ | a
  · go_enter Try.func19, Try.ntmps19
    go_wp2_with fail
    go_ret
    have h0 : n = 0 := by
      rcases Nat.eq_zero_or_pos n with h | h
      · exact h
      · obtain ⟨_, _, h, _⟩ := Hr.out.2 h; cases h
    subst h0
    have hx : xs = [] := List.eq_nil_of_length_eq_zero (by simpa using Hr.out.1)
    subst hx
    exact ⟨none, 0, rfl, Row.nil _ _ _ _, Below.refl _ _, Nat.le_refl _, Nat.zero_le _, by rintro a ⟨⟩⟩
  · go_enter Try.func19, Try.ntmps19
    go_wp2_with (at_builtin; refine wpList_append_clip _ rfl (.tmp 5) (.tmp 6) 28 rfl 3 i0 _ 1 8 Try.underlying28 hi hz0 hz1 hz2 _ 0 [] rfl (Row.nil _ _ _ _) _ n c xs rfl (Hr.out.below ((Below.refl _ _).alloc (Nat.le_refl _) _)) ?c1 ?c2 ?_)
    case c1 => unfold maxLen; omega
    case c2 => omega
    intro A' c' w1 hrow hb h4 h5 hfr
    have Hrow := Lib.hid hrow
    clear hrow
    go_wp2_with fail
    go_ret
    exact ⟨A', c', by simp, by simpa using Hrow.out, ((Below.refl _ _).alloc (Nat.le_refl _) _).trans (hb.mono (by simp)), by omega, h5, by rintro a rfl; rcases hfr with ⟨h, _⟩ | h <;> (injection h with h; subst h; simp)⟩

set_option maxHeartbeats 400000 in
theorem clone_letters (A : Option Addr) (n c : Nat) (xs : List Value) (w : World) (hr : Sl w 3 A n xs) (hn : n * 32 ≤ 140737488355328) :
    Calls Try.prog 25 #[.slice A n c] w (Cloned w 32 3 n xs) := by
  have Hr := Lib.hid hr
  clear hr
  obtain ⟨i0, hi, hz0, hz1, hz2⟩ := info_parts info_letter
  have hnl := fun (w : World) => Lib.run_eql_slice_nil (P := Try.prog) w 40 32 A n c 0 0 Try.underlying40
  rcases A with _ | a
  · go_enter Try.func25, Try.ntmps25
    go_wp2_with fail
    go_ret
    have h0 : n = 0 := by
      rcases Nat.eq_zero_or_pos n with h | h
      · exact h
      · obtain ⟨_, _, h, _⟩ := Hr.out.2 h; cases h
    subst h0
    have hx : xs = [] := List.eq_nil_of_length_eq_zero (by simpa using Hr.out.1)
    subst hx
    exact ⟨none, 0, rfl, Row.nil _ _ _ _, Below.refl _ _, Nat.le_refl _, Nat.zero_le _, by rintro a ⟨⟩⟩
  · go_enter Try.func25, Try.ntmps25
    go_wp2_with (at_builtin; refine wpList_append_clip _ rfl (.tmp 5) (.tmp 6) 40 rfl 32 i0 _ 3 32 Try.underlying40 hi hz0 hz1 hz2 _ 0 [] rfl (Row.nil _ _ _ _) _ n c xs rfl (Hr.out.below ((Below.refl _ _).alloc (Nat.le_refl _) _)) ?c1 ?c2 ?_)
    case c1 => unfold maxLen; omega
    case c2 => omega
    intro A' c' w1 hrow hb h4 h5 hfr
    have Hrow := Lib.hid hrow
    clear hrow
    go_wp2_with fail
    go_ret
    exact ⟨A', c', by simp, by simpa using Hrow.out, ((Below.refl _ _).alloc (Nat.le_refl _) _).trans (hb.mono (by simp)), by omega, h5, by rintro a rfl; rcases hfr with ⟨h, _⟩ | h <;> (injection h with h; subst h; simp)⟩

#print axioms clone_letters
end Go.Proofs.Ytcggmdidnpdciaa
