/-
  Where a message's promise is, or would be.
-/
import Derived.Test.YthmclonjgbmhhaaInsert
import Derived.Laws.StructEq
namespace Go.Proofs.Ythmclonjgbmhhaa
open Go.RowKit
set_option linter.unusedVariables false

theorem enters_fn {P : Program} {f : FuncId} {fn : Func} (hf : P.funcs[f]? = some fn) (hname : (fn.name == "runtime.NumGoroutine") = false) (hs : fn.body.isSome = true) (args : Array Value) (w : World) :
    (callFunc f args).run P w = .ok (.enter f args) w := by
  obtain ⟨c, hb⟩ := Option.isSome_iff_exists.1 hs
  have h1 : fn.name ≠ "runtime.NumGoroutine" := by simpa using hname
  simp [callFunc, hf, h1, hb]

def hv (t : Hold) : Value := .agg #[.int .i64 t.d.nd, .int .i64 t.d.n, .int .i64 t.rc, .int .i64 t.un]

/-- A function value that tells of a promise, in any world that lies on w0. -/
def Tells (w0 : World) (K : Nat) (caps : Array Value) (p : Hold → Bool) : Prop := ∀ t W, Below w0.heap.size w0 W → Calls Try.prog K (#[.agg #[.int .i64 t.d.nd, .int .i64 t.d.n, .int .i64 t.rc, .int .i64 t.un]] ++ caps) W fun e W' => e = .returned (.bool (p t)) ∧ Below W.heap.size W W'

/-- The first place of which it is true. -/
def idx (p : Hold → Bool) : List Hold → Nat
  | [] => 0
  | t :: l => if p t then 0 else idx p l + 1
theorem idx_le (p : Hold → Bool) (l : List Hold) : idx p l ≤ l.length := by
  induction l with
  | nil => exact Nat.le_refl _
  | cons t l ih => unfold idx; split <;> simp; omega
theorem idx_drop (p : Hold → Bool) (l : List Hold) (k : Nat) (hk : k < l.length) : idx p (l.drop k) = if p l[k] then 0 else idx p (l.drop (k + 1)) + 1 := by
  rw [List.drop_eq_getElem_cons hk]; rfl

/-- What IndexFunc answers, of a place. -/
def ixv (k n : Nat) : Int := if k < n then k else -1

set_option maxHeartbeats 1000000 in
theorem index_any (K : Nat) (caps : Array Value) (p : Hold → Bool) (A : Option Addr) (c : Nat) (l : List Hold) (w : World) (hr : Sl w 4 A l.length (hcells l)) (hn : l.length ≤ 9223372036854775807)
    (hent : ∀ args W, (callFunc K args).run Try.prog W = .ok (.enter K args) W) (hp : Tells w K caps p) :
    Calls Try.prog 39 #[.slice A l.length c, .func (.func K) #[] caps] w fun e w' => e = .returned (.int .i64 (ixv (idx p l) l.length)) ∧ Below w.heap.size w w' := by
  have Hr := Lib.hid hr
  have HP := Lib.hid hp
  clear hr hp
  go_enter Try.func39, Try.ntmps39
  go_wp2_with fail
  go_loopw [8] (fun i wr => ∃ k : Nat, k ≤ l.length ∧ i = .int .i64 k ∧ idx p l = k + idx p (l.drop k) ∧ Below w.heap.size w wr) (fun i _ => l.length - (intOf i).toNat)
  case atStart => exact ⟨0, Nat.zero_le _, rfl, by simp, Below.refl _ _⟩
  case round =>
    obtain ⟨k, hk, rfl, hp, hbl⟩ := hrel
    have Hp := Lib.hid hp
    have B := Lib.hid hbl
    clear hp hbl
    by_cases hlt : k < l.length
    · obtain ⟨g, o, rfl, hg, c0, c1, c2, c3⟩ := hold_cells (Hr.out.below B.out) (List.getElem?_eq_getElem hlt)
      have HK := Lib.hid (idx_drop p l k hlt)
      generalize hz : l[k] = t at c0 c1 c2 c3 HK
      clear hz
      go_wp2_with fail
      refine (HP.out t _ B.out).mono ?_
      rintro e w2 ⟨rfl, hb2⟩
      have B2 := Lib.hid (B.out.trans (hb2.mono B.out.size))
      clear hb2
      cases he : p t
      · have HN : Hid (idx p l = (k + 1) + idx p (l.drop (k + 1))) := Lib.hid (by rw [Hp.out, HK.out, he]; simp; omega)
        clear HK
        go_wp2_with fail
        go_roundw
        case rel => exact ⟨k + 1, by omega, by go_num, HN.out, B2.out⟩
        case measure => simp [intOf]; omega
      · have HN : Hid (ixv (idx p l) l.length = k) := Lib.hid (by rw [Hp.out, HK.out, he]; simp [ixv, hlt])
        clear HK
        go_wp2_with fail
        go_ret
        exact ⟨by rw [HN.out]; rfl, B2.out⟩
    · have HN : Hid (ixv (idx p l) l.length = -1) := Lib.hid (by rw [Hp.out, List.drop_eq_nil_of_le (by omega)]; simp [ixv, idx]; omega)
      go_wp2_with fail
      go_ret
      exact ⟨by rw [HN.out]; rfl, B.out⟩

/-! ### Are two names the same? -/
def deq (a b : Dot) : Bool := a.nd == b.nd && a.n == b.n
theorem deq_iff (a b : Dot) : deq a b = true ↔ a = b := by cases a; cases b; simp [deq]
theorem deq_no (a b : Dot) : deq a b = false ↔ a ≠ b := by rw [← Bool.not_eq_true, deq_iff]

theorem eql_dot (a b : Dot) (w : World) : (binOp .eql 24 (.agg #[.int .i64 a.nd, .int .i64 a.n]) (.agg #[.int .i64 b.nd, .int .i64 b.n])).run Try.prog w = .ok (.bool (deq a b)) w := by
  have h1 : Try.prog.stoodInHeld 24 = false := by kernel_rfl
  have h2 : Try.prog.underlying 24 = some (.struct (Try.prog.fieldsOf 24)) := by kernel_rfl
  have h5 : Try.prog.underlying 3 = some (.int .i64) := by kernel_rfl
  rw [run_eql_struct, run_equalIn_struct w 9999 _ _ _ h2 h1]
  simp [Op.eqFields, go_sem]
  by_cases e1 : a.nd = b.nd <;> by_cases e2 : a.n = b.n <;> simp [e1, e2, deq]
theorem neq_dot (a b : Dot) (w : World) : (binOp .neq 24 (.agg #[.int .i64 a.nd, .int .i64 a.n]) (.agg #[.int .i64 b.nd, .int .i64 b.n])).run Try.prog w = .ok (.bool !(deq a b)) w := by
  have h1 : Try.prog.stoodInHeld 24 = false := by kernel_rfl
  have h2 : Try.prog.underlying 24 = some (.struct (Try.prog.fieldsOf 24)) := by kernel_rfl
  have h5 : Try.prog.underlying 3 = some (.int .i64) := by kernel_rfl
  rw [run_neq_struct, run_equalIn_struct w 9999 _ _ _ h2 h1]
  simp [Op.eqFields, go_sem]
  by_cases e1 : a.nd = b.nd <;> by_cases e2 : a.n = b.n <;> simp [e1, e2, deq]
theorem eqGuard_dot (op : BinOp) (x y : Operand) (a b : Dot) (w : World) : (eqGuard op 24 x y (.agg #[.int .i64 a.nd, .int .i64 a.n]) (.agg #[.int .i64 b.nd, .int .i64 b.n])).run Try.prog w = .ok () w := run_eqGuard_agg (P := Try.prog) w op _ x y _ _ (by kernel_rfl)

/-! ### find -/
/-- Block b holds a name. -/
def DotAt (w : World) (b : Nat) (d : Dot) : Prop := Blk w b 24 #[.int .i64 d.nd, .int .i64 d.n]
theorem DotAt.cells {w : World} {b : Nat} {d : Dot} (h : DotAt w b d) : w.cell? ⟨b, 0, none⟩ = some (.int .i64 d.nd) ∧ w.cell? ⟨b, 1, none⟩ = some (.int .i64 d.n) := by
  have h0 := Blk.cell h 0
  have h1 := Blk.cell h 1
  simp only [List.getElem?_toArray, List.getElem?_cons_zero, List.getElem?_cons_succ] at h0 h1
  exact ⟨h0, h1⟩
theorem DotAt.below {w w' : World} {b : Nat} {d : Dot} (h : DotAt w b d) (hb : Below w.heap.size w w') : DotAt w' b d := Blk.below h hb
theorem DotAt.alloc {w : World} {b : Nat} {d : Dot} (h : DotAt w b d) (o : Obj) : DotAt (w.alloc o) b d := Blk.alloc h o
theorem DotAt.new (w : World) (d : Dot) : DotAt (w.alloc (.cells #[.int .i64 d.nd, .int .i64 d.n] 24)) w.heap.size d := Blk.new w _ _

set_option maxHeartbeats 400000 in
theorem find1_any (b : Nat) (t : Hold) (d : Dot) (w : World) (hb : DotAt w b d) :
    Calls Try.prog 40 #[.agg #[.int .i64 t.d.nd, .int .i64 t.d.n, .int .i64 t.rc, .int .i64 t.un], .pointer (some ⟨b, 0, none⟩)] w fun e w' => e = .returned (.bool (!dlt t.d d)) ∧ Below w.heap.size w w' := by
  have hc := fun o => (hb.alloc o).cells.1
  have hc2 := fun o => (hb.alloc o).cells.2
  clear hb
  have HB := fun o => Lib.hid ((Below.refl w.heap.size w).alloc (Nat.le_refl _) o)
  go_enter Try.func40, Try.ntmps40
  go_wp2_with fail
  refine (less_any t.d d _).mono ?_
  rintro e w' ⟨rfl, hb⟩
  have B := Lib.hid ((HB _).out.trans (hb.mono (by simp)))
  clear hb
  go_wp2_with fail
  go_ret
  exact ⟨rfl, B.out⟩

/-- Where a message's is, or would be. -/
def pos (l : List Hold) (d : Dot) : Nat := idx (fun t => !dlt t.d d) l
/-- Is there one of that message where it would be? -/
def isC (l : List Hold) (d : Dot) : Bool := match l[pos l d]? with | some t => deq t.d d | none => false

set_option maxHeartbeats 1000000 in
theorem find_any (A : Option Addr) (c : Nat) (l : List Hold) (d : Dot) (w : World) (hr : Sl w 4 A l.length (hcells l)) (hn : l.length ≤ 9223372036854775807) :
    Calls Try.prog 24 #[.slice A l.length c, .agg #[.int .i64 d.nd, .int .i64 d.n]] w fun e w' => e = .returned (.tuple #[.int .i64 (pos l d), .bool (isC l d)]) ∧ Below w.heap.size w w' := by
  have Hr := Lib.hid hr
  clear hr
  go_enter Try.func24, Try.ntmps24
  go_wp2_with fail
  refine (index_any 40 #[.pointer (some ⟨w.heap.size, 0, none⟩)] (fun t => !dlt t.d d) A c l _ (Hr.out.below ((Below.refl _ _).alloc (Nat.le_refl _) _)) hn (enters_fn Try.func40 (by kernel_rfl) (by kernel_rfl)) (fun t W hW => find1_any _ t d W ((DotAt.new w d).below hW))).mono ?_
  rintro e w' ⟨rfl, hb⟩
  have hB : Below w.heap.size w w' := ((Below.refl _ _).alloc (Nat.le_refl _) _).trans (hb.mono (by simp))
  obtain ⟨hc0, hc1⟩ := ((DotAt.new w d).below hb).cells
  have B := Lib.hid hB
  clear hb hB
  have hle : pos l d ≤ l.length := idx_le _ l
  rw [show idx (fun t => !dlt t.d d) l = pos l d from rfl]
  rcases Nat.lt_or_ge (pos l d) l.length with h | h
  · obtain ⟨g, o, rfl, hg, c0, c1, c2, c3⟩ := hold_cells (Hr.out.below B.out) (List.getElem?_eq_getElem h)
    have HI : Hid (isC l d = deq l[pos l d].d d) := Lib.hid (by unfold isC; rw [List.getElem?_eq_getElem h])
    have hx : ixv (pos l d) l.length = (pos l d : Nat) := by simp [ixv, h]
    rw [hx]
    clear hx
    generalize hz : l[pos l d] = t at c0 c1 c2 c3 HI
    clear hz
    obtain ⟨k, hpk⟩ : ∃ k, pos l d = k := ⟨_, rfl⟩
    have HP := Lib.hid hpk
    rw [hpk] at h c0 c1 c2 c3 ⊢
    clear hpk hle
    have hk : decide ((k : Int) < 0) = false := by simp
    have hq := fun W => eql_dot t.d d W
    have hg := fun op x y W => eqGuard_dot op x y t.d d W
    go_wp2_with fail
    go_quiet (fail)
    go_wp2_with fail
    ((try simp only [Exit.inBlock, Exit.then]); refine bodyPost_ret (results_tmp2 rfl _ _ _) rfl ?_)
    exact ⟨by rw [HI.out, HP.out]; rfl, below_drewN B.out _⟩
  · have hx : ixv (pos l d) l.length = -1 := by simp [ixv]; omega
    have HI : Hid (isC l d = false) := Lib.hid (by unfold isC; rw [List.getElem?_eq_none h])
    have HP : Hid (pos l d = l.length) := Lib.hid (by omega)
    rw [hx]
    clear hx h hle
    go_wp2_with fail
    ((try simp only [Exit.inBlock, Exit.then]); refine bodyPost_ret (results_tmp2 rfl _ _ _) rfl ?_)
    exact ⟨by rw [HI.out, HP.out]; rfl, B.out⟩

#print axioms find_any
end Go.Proofs.Ythmclonjgbmhhaa
