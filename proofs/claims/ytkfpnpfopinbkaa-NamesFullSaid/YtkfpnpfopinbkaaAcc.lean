/-
  Rows that a call heaps up: one tag, or one text, more.
-/
import Derived.Test.YtkfpnpfopinbkaaMore
namespace Go.Proofs.Ytkfpnpfopinbkaa
open Go.RowKit
set_option linter.unusedVariables false

/-- A catalogue of the call's own. -/
def Acc (w0 : World) (l : List Tag) (v : Value) (wr : World) : Prop := wr.ownsRow w0.heap.size 42 2 v l.length (tcells l) ∧ Below w0.heap.size w0 wr

theorem Acc.nil {w0 wr : World} (h : Below w0.heap.size w0 wr) : Acc w0 [] (.slice none 0 0) wr := ⟨World.ownsRow_nil _ _ _ _, h⟩
theorem Acc.below {w0 wr w' : World} {l : List Tag} {v : Value} (h : Acc w0 l v wr) (hb : Below wr.heap.size wr w') : Acc w0 l v w' := ⟨own_below h.1 hb, h.2.trans (hb.mono h.2.size)⟩
theorem Acc.slice {w0 wr : World} {l : List Tag} {v : Value} (h : Acc w0 l v wr) : ∃ A c, v = .slice A l.length c ∧ Sl wr 2 A l.length (tcells l) ∧ l.length ≤ c := by
  obtain ⟨A, c, rfl, hc⟩ := own_slice h.1
  exact ⟨A, c, rfl, (Row.of_own h.1).sl, hc⟩
theorem Acc.own {w0 wr : World} {l : List Tag} {v : Value} {g : Nat} {e : TypeId} {s : Nat} (h : Acc w0 l v wr) : OwnRet w0 42 2 l.length (tcells l) (.returned v) wr := ⟨v, rfl, h.1, h.2⟩

theorem run_tag {w0 wr : World} {l : List Tag} {v : Value} (h : Acc w0 l v wr) (t : Tag) (hl : l.length ≤ 10000) (ty : TypeId) :
    ∃ v' w', (Builtin.append_ #[22, 22] ty #[v, .slice (some ⟨wr.heap.size, 0, none⟩) 1 1]).run Try.prog (wr.alloc (.cells #[.string (str t.nm), .int .i64 t.n] 42)) = .ok v' w' ∧ Acc w0 (l ++ [t]) v' w' := by
  obtain ⟨i0, hi, hz0, hz1, hz2⟩ := info_parts info_tag
  obtain ⟨v', w', hr, ho, hg, _⟩ := run_append_src (P := Try.prog) (wr.alloc (.cells #[.string (str t.nm), .int .i64 t.n] 42)) w0.heap.size 22 ty 42 i0 _ 2 24 Try.underlying22 hi hz0 hz1 hz2 rfl (by decide) v l.length (tcells l) (h.1.alloc _)
    (some ⟨wr.heap.size, 0, none⟩) 1 1 (tcells [t]) (sl_tag wr t _ rfl) (tcells_one _) (by unfold maxLen; omega) (by omega) (by have := h.2.size; simp; omega)
  refine ⟨v', w', hr, ?_, (h.2.alloc h.2.size _).grown hg (by have := h.2.size; simp; omega) (fun k hk => (own_block_lt h.1 k hk).1)⟩
  rw [tcells_append, List.length_append]
  exact ho

theorem wpList_tag {ops : Array Oper} {rest : List Oper} {o : Oper} {a : Act} {Q : Exit → Act → World → Prop} (hgd : o.guard = none) (so x : Operand)
    (ho : o.op = .call { callee := .builtin .append, args := #[so, x], argTypes := #[22, 22] })
    {w0 wr : World} {l : List Tag} {v : Value} (h : Acc w0 l v wr) (t : Tag) (hs : a.eval so = v) (hx : a.eval x = .slice (some ⟨wr.heap.size, 0, none⟩) 1 1) (hl : l.length ≤ 10000)
    (K : ∀ v' w', Acc w0 (l ++ [t]) v' w' → wpList Try.prog ops Q rest (a.put o.dst v') w') : wpList Try.prog ops Q (o :: rest) a (wr.alloc (.cells #[.string (str t.nm), .int .i64 t.n] 42)) := by
  obtain ⟨v', w', hr, hA⟩ := run_tag h t hl o.type
  exact Lib.wpList_append_run _ hgd so x 22 22 ho _ _ hs hx _ _ hr (K v' w' hA)

/-- Texts, as cells. -/
def sc (s : List UInt8) : List Value := [.string (str s)]
def scells (l : List (List UInt8)) : List Value := l.flatMap sc
theorem sc_len (s : List UInt8) : (sc s).length = 1 := rfl
theorem scells_length (l : List (List UInt8)) : (scells l).length = l.length * 1 := fm_length sc 1 sc_len l
theorem scells_append (l m : List (List UInt8)) : scells (l ++ m) = scells l ++ scells m := by unfold scells; rw [List.flatMap_append]
theorem scells_one (l : List (List UInt8)) : ∀ u ∈ scells l, u.oneCell' = true := by
  intro u hu
  obtain ⟨t, _, h⟩ := List.mem_flatMap.1 hu
  simp [sc] at h
  subst h; rfl
theorem str_cell {w : World} {A : Option Addr} {l : List (List UInt8)} {k : Nat} {t : List UInt8} (h : Sl w 1 A l.length (scells l)) (hl : l[k]? = some t) :
    ∃ g o, A = some ⟨g, o, none⟩ ∧ g < w.heap.size ∧ w.cell? ⟨g, o + k, none⟩ = some (.string (str t)) := by
  have hk : k < l.length := (List.getElem?_eq_some_iff.1 hl).1
  obtain ⟨g, o, rfl, hg, hc⟩ := h.2 (by omega)
  refine ⟨g, o, rfl, hg, ?_⟩
  have := hc (k * 1 + 0) (.string (str t)) (by rw [scells, fm_at sc 1 sc_len l k t hl 0 (by omega)]; rfl)
  simpa using this
theorem sl_str (w : World) (t : List UInt8) : Sl (w.alloc (.cells #[.string (str t)] 9)) 1 (some ⟨w.heap.size, 0, none⟩) 1 (scells [t]) := by
  refine ⟨rfl, fun _ => ⟨_, _, rfl, by simp, fun j u hu => ?_⟩⟩
  rw [(Blk.new w _ _).cell]
  simpa [scells, sc] using hu

def AccS (w0 : World) (l : List (List UInt8)) (v : Value) (wr : World) : Prop := wr.ownsRow w0.heap.size 9 1 v l.length (scells l) ∧ Below w0.heap.size w0 wr
theorem AccS.nil {w0 wr : World} (h : Below w0.heap.size w0 wr) : AccS w0 [] (.slice none 0 0) wr := ⟨World.ownsRow_nil _ _ _ _, h⟩
theorem AccS.below {w0 wr w' : World} {l : List (List UInt8)} {v : Value} (h : AccS w0 l v wr) (hb : Below wr.heap.size wr w') : AccS w0 l v w' := ⟨own_below h.1 hb, h.2.trans (hb.mono h.2.size)⟩
theorem AccS.slice {w0 wr : World} {l : List (List UInt8)} {v : Value} (h : AccS w0 l v wr) : ∃ A c, v = .slice A l.length c ∧ Sl wr 1 A l.length (scells l) ∧ l.length ≤ c := by
  obtain ⟨A, c, rfl, hc⟩ := own_slice h.1
  exact ⟨A, c, rfl, (Row.of_own h.1).sl, hc⟩

theorem info_str : (Try.prog.info? 9).map (fun i => (i.zero, i.size, i.bytes)) = some (some (.string ⟨#[]⟩), 1, 16) := by kernel_rfl

theorem run_str {w0 wr : World} {l : List (List UInt8)} {v : Value} (h : AccS w0 l v wr) (t : List UInt8) (hl : l.length ≤ 10000) (ty : TypeId) :
    ∃ v' w', (Builtin.append_ #[31, 31] ty #[v, .slice (some ⟨wr.heap.size, 0, none⟩) 1 1]).run Try.prog (wr.alloc (.cells #[.string (str t)] 9)) = .ok v' w' ∧ AccS w0 (l ++ [t]) v' w' := by
  obtain ⟨i0, hi, hz0, hz1, hz2⟩ := info_parts info_str
  obtain ⟨v', w', hr, ho, hg, _⟩ := run_append_src (P := Try.prog) (wr.alloc (.cells #[.string (str t)] 9)) w0.heap.size 31 ty 9 i0 _ 1 16 Try.underlying31 hi hz0 hz1 hz2 rfl (by decide) v l.length (scells l) (h.1.alloc _)
    (some ⟨wr.heap.size, 0, none⟩) 1 1 (scells [t]) (sl_str wr t) (scells_one _) (by unfold maxLen; omega) (by omega) (by have := h.2.size; simp; omega)
  refine ⟨v', w', hr, ?_, (h.2.alloc h.2.size _).grown hg (by have := h.2.size; simp; omega) (fun k hk => (own_block_lt h.1 k hk).1)⟩
  rw [scells_append, List.length_append]
  exact ho

theorem wpList_str {ops : Array Oper} {rest : List Oper} {o : Oper} {a : Act} {Q : Exit → Act → World → Prop} (hgd : o.guard = none) (so x : Operand)
    (ho : o.op = .call { callee := .builtin .append, args := #[so, x], argTypes := #[31, 31] })
    {w0 wr : World} {l : List (List UInt8)} {v : Value} (h : AccS w0 l v wr) (t : List UInt8) (hs : a.eval so = v) (hx : a.eval x = .slice (some ⟨wr.heap.size, 0, none⟩) 1 1) (hl : l.length ≤ 10000)
    (K : ∀ v' w', AccS w0 (l ++ [t]) v' w' → wpList Try.prog ops Q rest (a.put o.dst v') w') : wpList Try.prog ops Q (o :: rest) a (wr.alloc (.cells #[.string (str t)] 9)) := by
  obtain ⟨v', w', hr, hA⟩ := run_str h t hl o.type
  exact Lib.wpList_append_run _ hgd so x 31 31 ho _ _ hs hx _ _ hr (K v' w' hA)

/-- What hands back a row of texts of its own. -/
def TxtRet (w : World) (l : List (List UInt8)) (en : Ending) (w' : World) : Prop := ∃ v, en = .returned v ∧ AccS w l v w'
/-- What hands back a catalogue of its own. -/
def TagRet (w : World) (l : List Tag) (en : Ending) (w' : World) : Prop := ∃ v, en = .returned v ∧ Acc w l v w'

#print axioms wpList_tag
#print axioms wpList_str
end Go.Proofs.Ytkfpnpfopinbkaa
