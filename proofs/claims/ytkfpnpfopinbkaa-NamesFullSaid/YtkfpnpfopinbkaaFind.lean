/-
  Where a name's tag is, or would be.
-/
import Derived.Lib.Bytealg
import Derived.Test.YtkfpnpfopinbkaaInsert
namespace Go.Proofs.Ytkfpnpfopinbkaa
open Go.RowKit
set_option linter.unusedVariables false

/-- The order of texts. -/
def lt (x y : List UInt8) : Bool := Op.bytesLess x y

/-- Where a name is, or would be. -/
def posL : List Tag → List UInt8 → Nat
  | [], _ => 0
  | t :: l, s => if lt t.nm s then posL l s + 1 else 0

theorem posL_le (l : List Tag) (s : List UInt8) : posL l s ≤ l.length := by
  induction l with
  | nil => exact Nat.le_refl _
  | cons t l ih => unfold posL; split <;> simp; omega

theorem posL_drop (l : List Tag) (s : List UInt8) (k : Nat) (hk : k < l.length) : posL (l.drop k) s = if lt l[k].nm s then posL (l.drop (k + 1)) s + 1 else 0 := by
  rw [List.drop_eq_getElem_cons hk]; rfl

set_option maxHeartbeats 400000 in
theorem compareString_any (a b : List UInt8) (w : World) : Calls Try.prog 35 #[.string (str a), .string (str b)] w fun e w' => e = .returned (.int .i64 (Lib.compareBytes a b)) ∧ w = w' := by
  go_enter Try.func35, Try.ntmps35
  go_wp2
  rw [run_callFunc_extern Try.func38 (by kernel_rfl) (by kernel_rfl) (by kernel_rfl) (e := Extern.BytealgCompare.compare) (by kernel_rfl), Lib.run_compareString]
  simp only [Result.andThen]
  rw [Oper.upon_value]
  go_wp2
  go_ret
  exact ⟨by simp [str], rfl⟩

set_option maxHeartbeats 400000 in
theorem compare_any (a b : List UInt8) (w : World) : Calls Try.prog 30 #[.string (str a), .string (str b)] w fun e w' => e = .returned (.int .i64 (Lib.compareBytes a b)) ∧ w = w' := by
  go_enter Try.func30, Try.ntmps30
  go_wp2_with fail
  refine (compareString_any a b _).mono ?_
  rintro e w' ⟨rfl, rfl⟩
  go_wp2_with fail
  go_ret
  exact ⟨rfl, rfl⟩

set_option maxHeartbeats 400000 in
theorem find1_any (b : Nat) (t : Tag) (s : List UInt8) (w : World) (hb : Blk w b 9 #[.string (str s)]) :
    Calls Try.prog 34 #[.agg #[.string (str t.nm), .int .i64 t.n], .pointer (some ⟨b, 0, none⟩)] w fun e w' => e = .returned (.bool (!lt t.nm s)) ∧ Below w.heap.size w w' := by
  have hc := fun o => (hb.alloc o).cell 0
  clear hb
  simp only [List.getElem?_toArray, List.getElem?_cons_zero] at hc
  have HB := fun o => Lib.hid ((Below.refl w.heap.size w).alloc (Nat.le_refl _) o)
  go_enter Try.func34, Try.ntmps34
  go_wp2_with fail
  go_ret
  exact ⟨rfl, (HB _).out⟩

/-- What IndexFunc answers, of a place. -/
def ixv (k n : Nat) : Int := if k < n then k else -1

set_option maxHeartbeats 1000000 in
theorem index_any (A : Option Addr) (c b : Nat) (l : List Tag) (s : List UInt8) (w : World) (hr : Sl w 2 A l.length (tcells l)) (hb : Blk w b 9 #[.string (str s)]) (hn : l.length ≤ 9223372036854775807) :
    Calls Try.prog 33 #[.slice A l.length c, .func (.func 34) #[] #[.pointer (some ⟨b, 0, none⟩)]] w fun e w' => e = .returned (.int .i64 (ixv (posL l s) l.length)) ∧ Below w.heap.size w w' := by
  have Hr := Lib.hid hr
  have Hb := Lib.hid hb
  clear hr hb
  go_enter Try.func33, Try.ntmps33
  go_wp2_with fail
  go_loopw [8] (fun i wr => ∃ k : Nat, k ≤ l.length ∧ i = .int .i64 k ∧ posL l s = k + posL (l.drop k) s ∧ Below w.heap.size w wr) (fun i _ => l.length - (intOf i).toNat)
  case atStart => exact ⟨0, Nat.zero_le _, rfl, by simp, Below.refl _ _⟩
  case round =>
    obtain ⟨k, hk, rfl, hp, hbl⟩ := hrel
    have Hp := Lib.hid hp
    have B := Lib.hid hbl
    clear hp hbl
    by_cases hlt : k < l.length
    · obtain ⟨g, o, rfl, hg, c0, c1⟩ := tag_cells (Hr.out.below B.out) (List.getElem?_eq_getElem hlt)
      have HK := Lib.hid (posL_drop l s k hlt)
      generalize hz : l[k] = t at c0 c1 HK
      clear hz
      go_wp2_with fail
      refine (find1_any b t s _ (Hb.out.below B.out)).mono ?_
      rintro e w2 ⟨rfl, hb2⟩
      have B2 := Lib.hid (B.out.trans (hb2.mono B.out.size))
      clear hb2
      cases he : lt t.nm s
      · have HN : Hid (ixv (posL l s) l.length = k) := Lib.hid (by rw [Hp.out, HK.out, he]; simp [ixv, hlt])
        clear HK
        go_wp2_with fail
        go_ret
        exact ⟨by rw [HN.out]; rfl, B2.out⟩
      · have HN : Hid (posL l s = (k + 1) + posL (l.drop (k + 1)) s) := Lib.hid (by rw [Hp.out, HK.out, he]; simp; omega)
        clear HK
        go_wp2_with fail
        go_roundw
        case rel => exact ⟨k + 1, by omega, by go_num, HN.out, B2.out⟩
        case measure => simp [intOf]; omega
    · have HN : Hid (ixv (posL l s) l.length = -1) := Lib.hid (by rw [Hp.out, List.drop_eq_nil_of_le (by omega)]; simp [ixv, posL]; omega)
      go_wp2_with fail
      go_ret
      exact ⟨by rw [HN.out]; rfl, B.out⟩

/-- Is there a tag of that name where it would be? -/
def isL (l : List Tag) (s : List UInt8) : Bool := match l[posL l s]? with | some t => t.nm == s | none => false

set_option maxHeartbeats 1000000 in
theorem find_any (A : Option Addr) (c : Nat) (l : List Tag) (s : List UInt8) (w : World) (hr : Sl w 2 A l.length (tcells l)) (hn : l.length ≤ 9223372036854775807) :
    Calls Try.prog 29 #[.slice A l.length c, .string (str s)] w fun e w' => e = .returned (.tuple #[.int .i64 (posL l s), .bool (isL l s)]) ∧ Below w.heap.size w w' := by
  have Hr := Lib.hid hr
  clear hr
  go_enter Try.func29, Try.ntmps29
  go_wp2_with fail
  refine (index_any A c w.heap.size l s _ (Hr.out.below ((Below.refl _ _).alloc (Nat.le_refl _) _)) (Blk.new _ _ _) hn).mono ?_
  rintro e w' ⟨rfl, hb⟩
  have hB : Below w.heap.size w w' := ((Below.refl _ _).alloc (Nat.le_refl _) _).trans (hb.mono (by simp))
  have hc := ((Blk.new w 9 #[.string (str s)]).below hb).cell 0
  simp only [List.getElem?_toArray, List.getElem?_cons_zero] at hc
  have B := Lib.hid hB
  clear hb hB
  have hle := posL_le l s
  rcases Nat.lt_or_ge (posL l s) l.length with h | h
  · obtain ⟨g, o, rfl, hg, c0, c1⟩ := tag_cells (Hr.out.below B.out) (List.getElem?_eq_getElem h)
    have HI : Hid (isL l s = (l[posL l s].nm == s)) := Lib.hid (by unfold isL; rw [List.getElem?_eq_getElem h])
    have hx : ixv (posL l s) l.length = (posL l s : Nat) := by simp [ixv, h]
    rw [hx]
    clear hx
    generalize hz : l[posL l s] = t at c0 c1 HI
    clear hz
    obtain ⟨k, hpk⟩ : ∃ k, posL l s = k := ⟨_, rfl⟩
    have HP := Lib.hid hpk
    rw [hpk] at h c0 c1 ⊢
    clear hpk hle
    have hk : decide ((k : Int) < 0) = false := by simp
    go_wp2_with fail
    go_quiet (fail)
    go_wp2_with fail
    ((try simp only [Exit.inBlock, Exit.then]); refine bodyPost_ret (results_tmp2 rfl _ _ _) rfl ?_)
    exact ⟨by rw [HI.out, HP.out]; rfl, below_drewN B.out _⟩
  · have hx : ixv (posL l s) l.length = -1 := by simp [ixv]; omega
    have HI : Hid (isL l s = false) := Lib.hid (by unfold isL; rw [List.getElem?_eq_none h])
    have HP : Hid (posL l s = l.length) := Lib.hid (by omega)
    rw [hx]
    clear hx h hle
    go_wp2_with fail
    ((try simp only [Exit.inBlock, Exit.then]); refine bodyPost_ret (results_tmp2 rfl _ _ _) rfl ?_)
    exact ⟨by rw [HI.out, HP.out]; rfl, B.out⟩
#print axioms find_any
end Go.Proofs.Ytkfpnpfopinbkaa
