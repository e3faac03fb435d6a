/-
  Met: whether two nodes meet: the closure, IndexFunc, ContainsFunc.
-/
import Derived.Test.YtcggmdidnpdciaaLeaf
namespace Go.Proofs.Ytcggmdidnpdciaa
open Go.RowKit

/-- A group has both. -/
def both (a b : Int) (zs : List Int) : Bool := decide (a ∈ zs) && decide (b ∈ zs)

set_option maxHeartbeats 400000 in
theorem met1_any (a b : Int) (pa pb : Addr) (A : Option Addr) (n c : Nat) (zs : List Int) (w : World) (hr : Sl w 1 A n (ints zs)) (hn : n ≤ 9223372036854775807)
    (ha : w.cell? pa = some (.int .i64 a)) (hb : w.cell? pb = some (.int .i64 b)) :
    Calls Try.prog 20 #[.slice A n c, .pointer (some pa), .pointer (some pb)] w fun e w' => e = .returned (.bool (both a b zs)) ∧ w = w' := by
  have Hr := Lib.hid hr
  clear hr
  by_cases h1 : a ∈ zs
  · have h1' : decide (a ∈ zs) = true := by simpa using h1
    have H1 : Hid (both a b zs = decide (b ∈ zs)) := Lib.hid (by unfold both; rw [h1']; simp)
    clear h1
    go_enter Try.func20, Try.ntmps20
    go_wp2_with fail
    refine (contains_any A n c zs a w Hr.out hn).mono ?_
    rintro e w' ⟨rfl, rfl⟩
    go_wp2_with fail
    refine (contains_any A n c zs b w Hr.out hn).mono ?_
    rintro e w' ⟨rfl, rfl⟩
    go_wp2_with fail
    go_ret
    exact ⟨by rw [H1.out]; rfl, rfl⟩
  · have h1' : decide (a ∈ zs) = false := by simpa using h1
    have H1 : Hid (both a b zs = false) := Lib.hid (by unfold both; rw [h1']; simp)
    clear h1
    go_enter Try.func20, Try.ntmps20
    go_wp2_with fail
    refine (contains_any A n c zs a w Hr.out hn).mono ?_
    rintro e w' ⟨rfl, rfl⟩
    go_wp2_with fail
    go_ret
    exact ⟨by rw [H1.out]; rfl, rfl⟩

/-- A slice of slices of ints. -/
def GSl (w : World) (A : Option Addr) (n : Nat) (G : List (List Int)) : Prop :=
  ∃ vs, Sl w 1 A n vs ∧ G.length = n ∧ ∀ (i : Nat) (zs : List Int), G[i]? = some zs → ∃ Ai ci, vs[i]? = some (Value.slice Ai zs.length ci) ∧ Sl w 1 Ai zs.length (ints zs) ∧ zs.length ≤ 9223372036854775807

def fidx (p : List Int → Bool) (G : List (List Int)) : Int := if G.any p then (G.findIdx p : Int) else -1
theorem fidx_none (p : List Int → Bool) (G : List (List Int)) (h : ∀ x ∈ G, p x = false) : fidx p G = -1 := by
  unfold fidx; rw [if_neg]; simp; intro x hx; exact h x hx
theorem fidx_at (p : List Int → Bool) (G : List (List Int)) (k : Nat) (hk : k < G.length) (h : ∀ x ∈ G.take k, p x = false) (he : p G[k] = true) : fidx p G = k := by
  unfold fidx
  rw [if_pos (by rw [List.any_eq_true]; exact ⟨_, List.getElem_mem hk, he⟩)]
  congr 1
  rw [List.findIdx_eq hk]
  refine ⟨he, fun j hj => ?_⟩
  have := h G[j] (List.mem_take_iff_getElem.2 ⟨j, by omega, rfl⟩)
  simpa using this
theorem fidx_nonneg (p : List Int → Bool) (G : List (List Int)) : (0 ≤ fidx p G) ↔ G.any p = true := by
  unfold fidx; split <;> simp_all

set_option maxHeartbeats 400000 in
theorem indexFunc_any (a b : Int) (pa pb : Addr) (A : Option Addr) (n c : Nat) (G : List (List Int)) (w : World) (hr : GSl w A n G) (hn : n ≤ 9223372036854775807)
    (ha : w.cell? pa = some (.int .i64 a)) (hb : w.cell? pb = some (.int .i64 b)) :
    Calls Try.prog 27 #[.slice A n c, .func (.func 20) #[] #[.pointer (some pa), .pointer (some pb)]] w
      fun e w' => e = .returned (.int .i64 (fidx (both a b) G)) ∧ w = w' := by
  obtain ⟨vs, hr, hl, hG⟩ := hr
  have H := Lib.hid hl
  have Hr := Lib.hid hr
  have HG := Lib.hid hG
  clear hl hr hG
  go_enter Try.func27, Try.ntmps27
  go_wp2
  go_loop [8, 5] (fun i _ => ∃ k : Nat, k ≤ n ∧ i = .int .i64 k ∧ ∀ x ∈ G.take k, both a b x = false) (fun i _ => n - (intOf i).toNat)
  case atStart => exact ⟨0, Nat.zero_le _, rfl, by simp⟩
  case round =>
    obtain ⟨k, hk, rfl, hno⟩ := hrel
    have Hno := Lib.hid hno
    clear hno
    by_cases hlt : k < n
    · obtain ⟨g, o, rfl, hg, hc⟩ := Hr.out.2 (by omega)
      have hkl : k < G.length := by rw [H.out]; exact hlt
      obtain ⟨Ai, ci, hv, hs, hz⟩ := HG.out k G[k] (List.getElem?_eq_getElem hkl)
      have hck : w.cell? ⟨g, o + k, none⟩ = some (.slice Ai G[k].length ci) := hc k _ hv
      generalize hzz : G[k] = zs at *
      have Hz := Lib.hid hzz
      have Hs := Lib.hid hs
      clear hzz hc hs hv
      by_cases hv : both a b zs = true
      · have Hv := Lib.hid hv
        go_wp2_with fail
        refine (met1_any a b pa pb Ai zs.length ci zs w Hs.out hz ha hb).mono ?_
        rintro e w' ⟨rfl, rfl⟩
        go_wp2_with fail
        go_ret
        exact ⟨by rw [fidx_at (both a b) G k hkl Hno.out (by rw [Hz.out]; exact Hv.out)]; rfl, rfl⟩
      · have hv0 : both a b zs = false := by simpa using hv
        have Hv := Lib.hid hv0
        clear hv
        go_wp2_with fail
        refine (met1_any a b pa pb Ai zs.length ci zs w Hs.out hz ha hb).mono ?_
        rintro e w' ⟨rfl, rfl⟩
        go_wp2_with fail
        go_round
        case rel => exact ⟨k + 1, by omega, by go_num, by
          rw [List.take_succ_eq_append_getElem hkl]
          intro x hx
          rcases List.mem_append.1 hx with hx | hx
          · exact Hno.out x hx
          · have : x = zs := by simpa [Hz.out] using hx
            rw [this]; exact Hv.out⟩
        case measure => simp [intOf]; omega
    · go_wp2
      go_ret
      exact ⟨by rw [fidx_none (both a b) G (by have := Hno.out; rwa [List.take_of_length_le (by rw [H.out]; omega)] at this)]; rfl, rfl⟩

theorem containsFunc_any (a b : Int) (pa pb : Addr) (A : Option Addr) (n c : Nat) (G : List (List Int)) (w : World) (hr : GSl w A n G) (hn : n ≤ 9223372036854775807)
    (ha : w.cell? pa = some (.int .i64 a)) (hb : w.cell? pb = some (.int .i64 b)) :
    Calls Try.prog 22 #[.slice A n c, .func (.func 20) #[] #[.pointer (some pa), .pointer (some pb)]] w
      fun e w' => e = .returned (.bool (G.any (both a b))) ∧ w = w' := by
  have Hr := Lib.hid hr
  clear hr
  go_enter Try.func22, Try.ntmps22
  go_wp2_with fail
  refine (indexFunc_any a b pa pb A n c G w Hr.out hn ha hb).mono ?_
  rintro e w' ⟨rfl, rfl⟩
  go_wp2_with fail
  go_ret
  have e1 : decide (0 ≤ fidx (both a b) G) = G.any (both a b) := by rw [Bool.eq_iff_iff]; simpa using fidx_nonneg (both a b) G
  exact ⟨congrArg (fun b => Ending.returned (.bool b)) e1, rfl⟩

#print axioms containsFunc_any
end Go.Proofs.Ytcggmdidnpdciaa
