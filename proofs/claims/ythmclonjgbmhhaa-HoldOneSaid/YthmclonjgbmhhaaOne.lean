/-
  HoldOne: the walk.
-/
import Derived.Deep.CutRange
import Derived.Test.YthmclonjgbmhhaaChanges
import Derived.Test.YthmclonjgbmhhaaArgs
import Derived.Test.YthmclonjgbmhhaaOnePlain
namespace Go.Proofs.Ythmclonjgbmhhaa
open Go.RowKit
set_option linter.unusedVariables false

/-- The times told, in their block. -/
def UAt (w : World) (g : Nat) (U : Nat → Int) : Prop := Blk w g 49 #[.int .i64 (U 0), .int .i64 (U 1), .int .i64 (U 2), .int .i64 (U 3), .int .i64 (U 4)]
theorem UAt.cell {w : World} {g : Nat} {U : Nat → Int} (h : UAt w g U) {k : Nat} (hk : k < 5) : w.cell? ⟨g, k, none⟩ = some (.int .i64 (U k)) := by
  have := Blk.cell h k
  rw [this]
  have : k = 0 ∨ k = 1 ∨ k = 2 ∨ k = 3 ∨ k = 4 := by omega
  rcases this with rfl | rfl | rfl | rfl | rfl <;> rfl
theorem UAt.set {w : World} {g : Nat} {U : Nat → Int} (h : UAt w g U) {k : Nat} (hk : k < 5) (v : Int) : UAt (w.setCell ⟨g, k, none⟩ (.int .i64 v)) g (upd U k v) := by
  have := Blk.set_ h k (.int .i64 v)
  have hc : k = 0 ∨ k = 1 ∨ k = 2 ∨ k = 3 ∨ k = 4 := by omega
  rcases hc with rfl | rfl | rfl | rfl | rfl <;> exact this
theorem UAt.below {w w' : World} {g : Nat} {U : Nat → Int} (h : UAt w g U) (hb : Below w.heap.size w w') : UAt w' g U := Blk.below h hb
theorem UAt.new (w : World) : UAt (w.alloc (.cells #[.int .i64 0, .int .i64 0, .int .i64 0, .int .i64 0, .int .i64 0] 49)) w.heap.size (fun _ => 0) := Blk.new w _ _

/-- A call, in its block. -/
def CallAt (w : World) (g : Nat) (c : Call) : Prop := Blk w g 51 #[.int .i64 c.kind, .int .i64 c.step, .int .i64 c.rc, .int .i64 c.long]

/-- What HoldOne has in its blocks. -/
structure One (w : World) (gd g : Nat) (l : List Hold) (U : Nat → Int) (v : Value) (wr : World) : Prop where
  acc : Acc w l v wr
  dot : DotAt wr gd dd
  told : UAt wr g U
  gt : w.heap.size ≤ g
theorem One.below {w wr w' : World} {gd g : Nat} {l : List Hold} {U : Nat → Int} {v : Value} (h : One w gd g l U v wr) (hb : Below wr.heap.size wr w') : One w gd g l U v w' := ⟨h.acc.below hb, h.dot.below hb, h.told.below hb, h.gt⟩
theorem One.next {w wr w' : World} {gd g : Nat} {l m : List Hold} {U : Nat → Int} {v u : Value} (h : One w gd g l U v wr) (ha : Acc wr m u w') : One w gd g m U u w' := ⟨Acc.up h.acc.2 ha, h.dot.below ha.2, h.told.below ha.2, h.gt⟩
theorem One.set {w wr : World} {gd g : Nat} {l : List Hold} {U : Nat → Int} {v : Value} (h : One w gd g l U v wr) {k : Nat} (hk : k < 5) (n : Int) : One w gd g l (upd U k n) v (wr.setCell ⟨g, k, none⟩ (.int .i64 n)) :=
  ⟨⟨own_only h.acc.1 (only_set wr g k _) h.told (by decide), h.acc.2.setCell h.gt _⟩, Blk.only h.dot (only_set wr g k _) (fun he => by
    have h1 := h.dot
    have h2 := h.told
    unfold DotAt Blk at h1
    unfold UAt Blk at h2
    rw [he, h2] at h1
    injection h1 with h1
    injection h1 with h1 h3
    exact absurd h3 (by decide)), h.told.set hk n, h.gt⟩

theorem bitw (n : Int) (m : Nat) (hm : m < 1000) : wrap64 (bits .and .i64 n m) = bit n m := by
  have := bit_in n m hm
  unfold wrap64; unfold bit at *; omega

set_option maxRecDepth 20000 in
set_option maxHeartbeats 8000000 in
theorem one_walk (A0 : Option Addr) (c0 : Nat) (l0 : List Call) (w : World) (hr : Sl w 4 A0 l0.length (ccells l0)) (hn : l0.length ≤ 9223372036854775807) :
    Calls Try.prog 7 #[.slice A0 l0.length c0] w fun e w' => e = .returned (.bool true) ∧ Below w.heap.size w w' := by
  have Hr := Lib.hid hr
  clear hr
  go_enter Try.func7, Try.ntmps7
  go_wp2_with fail
  refine (awake_any _).mono ?_
  rintro e w1 ⟨rfl, hb⟩
  have B1 := Lib.hid hb
  have D1 := Lib.hid (DotAt.new w1 dd)
  clear hb
  go_wp2_with fail
  obtain ⟨W1, hW1⟩ : ∃ W1, (w1.alloc (.cells #[.int .i64 3, .int .i64 7] 24)).alloc (.cells #[.int .i64 0, .int .i64 0, .int .i64 0, .int .i64 0, .int .i64 0] 49) = W1 := ⟨_, rfl⟩
  have hO : One w w1.heap.size (w1.heap.size + 1) [] (fun _ => 0) (.slice none 0 0) W1 := by
    have h1 := B1.out
    have h2 : Below w1.heap.size w1 W1 := hW1 ▸ ((Below.refl _ _).alloc (Nat.le_refl _) _).alloc (by simp) _
    refine ⟨Acc.nil (h1.trans (h2.mono h1.size)), hW1 ▸ D1.out.alloc _, ?_, by have := h1.size; omega⟩
    have := UAt.new (w1.alloc (.cells #[.int .i64 3, .int .i64 7] 24))
    rw [hW1, World.size_alloc] at this
    exact this
  rw [hW1]
  obtain ⟨gd, hgd⟩ : ∃ gd, w1.heap.size = gd := ⟨_, rfl⟩
  rw [hgd] at hO ⊢
  obtain ⟨g, hg⟩ : ∃ g, gd + 1 = g := ⟨_, rfl⟩
  rw [hg] at hO ⊢
  have HO := Lib.hid hO
  clear hO hW1 hgd D1 B1 hg
  go_loopg [5, 6, 8] 40 (fun n s5 s6 s8 wx => ∃ (i : Nat) (now : Int) (l : List Hold) (U : Nat → Int), i ≤ 40 ∧ i ≤ l0.length ∧ n = 40 - i ∧ s8 = .int .i64 i ∧ s6 = .int .i64 now ∧ 0 ≤ now ∧ now ≤ 7 * i ∧ One w gd g l U s5 wx ∧ Inv l U now)
  case atStart => exact ⟨0, 0, [], fun _ => 0, by omega, by omega, rfl, rfl, rfl, by omega, by omega, HO.out, inv_start⟩
  case round =>
    obtain ⟨i, now0, l, U, hi, hil, rfl, rfl, rfl, hn0, hn7, hone, hinv⟩ := hrel
    have HN := Lib.hid hone
    have HI := Lib.hid hinv
    clear hone hinv
    by_cases hlt : i < l0.length ∧ i < 40
    · obtain ⟨hlt, hlt2⟩ := hlt
      obtain ⟨gc, oc, rfl, hgc, x0, x1, x2, x3⟩ := call_cells (Hr.out.below HN.out.acc.2) (List.getElem?_eq_getElem hlt)
      generalize l0[i] = c at x0 x1 x2 x3
      have d1 : decide ((i : Int) < (l0.length : Int)) = true := by simp; omega
      have d2 : decide ((i : Int) < 40) = true := by simp; omega
      go_upto_region 12 with fail
      iterate 13 (first | go_values | go_skip | go_guarded | go_step)
      clear x0 x1 x2 x3 d1 d2
      have e7 : 0 ≤ bit c.step 7 ∧ bit c.step 7 ≤ 7 := bit_in c.step 7 (by omega)
      have e3 : 0 ≤ bit c.rc 3 ∧ bit c.rc 3 ≤ 3 := bit_in c.rc 3 (by omega)
      have e15 : 0 ≤ bit c.long 15 ∧ bit c.long 15 ≤ 15 := bit_in c.long 15 (by omega)
      have hw1 : wrap64 (now0 + bits .and .i64 c.step 7) = now0 + bit c.step 7 := by show wrap64 (now0 + bit c.step 7) = _; unfold wrap64; omega
      have hw2 : wrap64 (1 + bits .and .i64 c.rc 3) = 1 + bit c.rc 3 := by show wrap64 (1 + bit c.rc 3) = _; unfold wrap64; omega
      simp only [hw1, hw2]
      obtain ⟨r, hr1, hr4, hrr⟩ : ∃ r : Nat, 1 ≤ r ∧ r ≤ 4 ∧ 1 + bit c.rc 3 = r := ⟨(1 + bit c.rc 3).toNat, by omega, by omega, by omega⟩
      obtain ⟨now, hnow⟩ : ∃ now, now0 + bit c.step 7 = now := ⟨_, rfl⟩
      obtain ⟨kd, hkd⟩ : ∃ kd, bits .and .i64 c.kind 3 = kd := ⟨_, rfl⟩
      simp only [hrr, hnow, hkd]
      have hn8 : 0 ≤ now ∧ now ≤ 7 * ((i + 1 : Nat) : Int) := by omega
      have HI1 := Lib.hid (HI.out.later (t := now) (by omega))
      have C1 : CallAt (wr.alloc (.cells #[.int .i64 c.kind, .int .i64 c.step, .int .i64 c.rc, .int .i64 c.long] 51)) wr.heap.size c := Blk.new wr _ _
      have N1 := Lib.hid (HN.out.below ((Below.refl wr.heap.size wr).alloc (Nat.le_refl _) (.cells #[.int .i64 c.kind, .int .i64 c.step, .int .i64 c.rc, .int .i64 c.long] 51)))
      have C1 := Lib.hid C1
      have hsz : (wr.alloc (.cells #[.int .i64 c.kind, .int .i64 c.step, .int .i64 c.rc, .int .i64 c.long] 51)).heap.size ≥ wr.heap.size := by simp
      generalize wr.alloc (.cells #[.int .i64 c.kind, .int .i64 c.step, .int .i64 c.rc, .int .i64 c.long] 51) = W9 at N1 hsz C1 ⊢
      clear hgc HN HI hn0 hn7 hrr hnow hw1 hw2 hkd hsz
      generalize wr.heap.size = g9 at C1 ⊢
      go_cut [5] from 22 to 163 (fun s5 wx => ∃ (l : List Hold) (U : Nat → Int), One w gd g l U s5 wx ∧ Inv l U now)
      case first =>
        have hlen := HI1.out.len
        obtain ⟨A, cc, rfl, -, -⟩ := N1.out.acc.slice
        obtain ⟨y0, y1⟩ : W9.cell? ⟨gd, 0, none⟩ = some (.int .i64 3) ∧ W9.cell? ⟨gd, 1, none⟩ = some (.int .i64 7) := N1.out.dot.cells
        by_cases h2 : kd = 2
        · subst h2
          go_wp2_with fail
          refine (free_any A cc l dd r _ N1.out.acc.sl (by omega)).mono ?_
          rintro e w2 ⟨v2, rfl, ha⟩
          have N2 := Lib.hid (N1.out.next ha)
          have hz := N2.out.told.cell (k := r) (by omega)
          have hfz := Blk.frozen N2.out.told r
          clear ha y0 y1 N1
          go_wp2_with fail
          go_meet
          case rel => exact ⟨_, _, N2.out.set (by omega) 0, HI1.out.free (by omega) hr1 hr4⟩
        · by_cases h3 : kd = 3
          · subst h3
            go_wp2_with fail
            refine (sweep_any A cc l now _ N1.out.acc.sl (by omega)).mono ?_
            rintro e w2 ⟨v2, rfl, ha⟩
            have N2 := Lib.hid (N1.out.next ha)
            clear ha y0 y1 N1
            go_wp2_with fail
            go_meet
            case rel => exact ⟨_, _, N2.out, HI1.out.sweep⟩
          · have d2 : (kd == 2) = false := by simpa using h2
            have d3 : (kd == 3) = false := by simpa using h3
            have z3 : W9.cell? ⟨g9, 3, none⟩ = some (.int .i64 c.long) := Blk.cell C1.out 3
            have hw3 : wrap64 (now + 1) = now + 1 := by unfold wrap64; omega
            have hw4 : wrap64 (now + 1 + bits .and .i64 c.long 15) = now + 1 + bit c.long 15 := by show wrap64 (now + 1 + bit c.long 15) = _; unfold wrap64; omega
            go_wp2_with fail
            try simp only [hw4]
            try rw [hw4]
            obtain ⟨en, hen⟩ : ∃ en, now + 1 + bit c.long 15 = en := ⟨_, rfl⟩
            have hen1 : now < en ∧ en ≤ 1000 := by omega
            rw [hen]
            clear hw3 hw4 hen z3 d2 d3 h2 h3
            refine (grant_any A cc l now dd r en _ N1.out.acc.sl (by omega)).mono ?_
            have hcase : (othN U now r 4 = true ∧ grantCE l now dd r en = 16) ∨ (othN U now r 4 = false ∧ grantCE l now dd r en = 0 ∧ Inv (grantC l now dd r en) (gotU U now r en) now) := by
              cases ho : othN U now r 4
              · have := HI1.out.grant (by omega) hr1 hr4 (u := en) hen1.1 hen1.2 ho
                exact .inr ⟨rfl, this⟩
              · exact .inl ⟨rfl, HI1.out.refuse (by omega) hr1 hr4 hen1.1 hen1.2 ho⟩
            have hG : (grantC l now dd r en).length ≤ 10000 := by
              rcases hcase with ⟨ho, hE⟩ | ⟨ho, hE, hv⟩
              · unfold grantC; rw [hE]; simp
              · have := hv.len; omega
            have hcase := Lib.hid hcase
            generalize grantCE l now dd r en = E at hcase ⊢
            generalize grantC l now dd r en = G at hcase hG ⊢
            rintro e w2 ht
            obtain ⟨A2, c2, rfl, ha⟩ := ht.acc
            have N2 := Lib.hid (N1.out.below ha.2)
            have M2 := Lib.hid (N1.out.next ha)
            clear ht ha y0 y1 N1 C1
            go_wp2_with fail
            go_loopg [14, 15] 4 (fun n s14 s15 wx => w2 = wx ∧ ∃ k : Nat, k ≤ 4 ∧ n = 4 - k ∧ s15 = .int .i64 ((k : Int) + 1) ∧ s14 = .bool (othN U now r k))
            case atStart => exact ⟨rfl, 0, by omega, rfl, rfl, rfl⟩
            case round =>
              obtain ⟨rfl, k, hk, rfl, rfl, rfl⟩ := hrel
              by_cases hk4 : k < 4
              · have hoth : Hid (othN U now r (k + 1) = (othN U now r k || (!decide (k + 1 = r) && decide (now < U (k + 1))))) := Lib.hid rfl
                have z1 := N2.out.told.cell (k := k + 1) (by omega)
                have d1 : decide ((k : Int) + 1 ≤ 4) = true := by simp; omega
                have d4 : 0 ≤ (k : Int) + 1 ∧ (k : Int) + 1 < 5 := by omega
                generalize othN U now r k = b1 at hoth ⊢
                obtain ⟨b3, hb3⟩ : ∃ b, decide (now < U (k + 1)) = b := ⟨_, rfl⟩
                rw [hb3] at hoth
                have hbound : Hid (k < 4) := Lib.hid hk4
                by_cases hkr : (k : Int) + 1 = (r : Int)
                · rw [show decide (k + 1 = r) = true by simp; omega] at hoth
                  have hkr' := Lib.hid hkr
                  clear hk4
                  cases b1 <;> cases b3
                  all_goals
                    go_wp2_with fail
                    go_roundg (4 - (k + 1))
                    case measure => have := hbound.out; omega
                    case rel => exact ⟨rfl, k + 1, hbound.out, rfl, by rw [Value.int.injEq]; exact ⟨rfl, by have := hkr'.out; omega⟩, by rw [hoth.out]; rfl⟩
                · rw [show decide (k + 1 = r) = false by simp; omega] at hoth
                  clear hk4
                  cases b1 <;> cases b3
                  all_goals
                    go_wp2_with fail
                    go_roundg (4 - (k + 1))
                    case measure => have := hbound.out; omega
                    case rel => exact ⟨rfl, k + 1, hbound.out, rfl, by rw [Value.int.injEq]; exact ⟨rfl, by omega⟩, by rw [hoth.out]; first | rfl | simp [hkr] | (simp; omega)⟩
              · obtain rfl : k = 4 := by omega
                rcases hcase.out with ⟨ho, rfl⟩ | ⟨ho, rfl, hv⟩
                · rw [ho]
                  clear hcase ho
                  go_wp2_with fail
                  go_meet
                  case rel => exact ⟨_, _, N2.out, HI1.out⟩
                · rw [ho]
                  have HV := Lib.hid hv
                  clear hcase ho hv
                  go_wp2_with fail
                  go_loopg [16] 4 (fun n s16 wx => ∃ k : Nat, k ≤ 4 ∧ n = 4 - k ∧ s16 = .int .i64 ((k : Int) + 1) ∧ One w gd g G (zerN U r k) (.slice A2 G.length c2) wx)
                  case atStart => exact ⟨0, by omega, rfl, rfl, M2.out⟩
                  case round =>
                    obtain ⟨k, hk, rfl, rfl, ht⟩ := hrel
                    have HT := Lib.hid ht
                    clear ht
                    by_cases hk4 : k < 4
                    · have d1 : decide ((k : Int) + 1 ≤ 4) = true := by simp; omega
                      have d4 : 0 ≤ (k : Int) + 1 ∧ (k : Int) + 1 < 5 := by omega
                      have hbound : Hid (k < 4) := Lib.hid hk4
                      by_cases hkr : (k : Int) + 1 = (r : Int)
                      · have hz : zerN U r (k + 1) = zerN U r k := by show (if k + 1 = r then _ else _) = _; rw [if_pos (by omega)]
                        have HZ := Lib.hid hz
                        have hkr' := Lib.hid hkr
                        clear hk4 hz
                        go_wp2_with fail
                        go_roundg (4 - (k + 1))
                        case measure => have := hbound.out; omega
                        case rel => exact ⟨k + 1, hbound.out, rfl, by rw [Value.int.injEq]; exact ⟨rfl, by have := hkr'.out; omega⟩, by rw [HZ.out]; exact HT.out⟩
                      · have hz : zerN U r (k + 1) = upd (zerN U r k) (k + 1) 0 := by show (if k + 1 = r then _ else _) = _; rw [if_neg (by omega)]
                        have HZ := Lib.hid hz
                        have z1 := HT.out.told.cell (k := k + 1) (by omega)
                        have hfz := Blk.frozen HT.out.told (k + 1)
                        clear hk4 hz
                        go_wp2_with fail
                        go_roundg (4 - (k + 1))
                        case measure => have := hbound.out; omega
                        case rel => exact ⟨k + 1, hbound.out, rfl, by rw [Value.int.injEq]; exact ⟨rfl, by omega⟩, by rw [HZ.out]; exact HT.out.set (by have := hbound.out; omega) 0⟩
                    · obtain rfl : k = 4 := by omega
                      have hgU : Hid (gotU U now r en = if (zerN U r 4 r ≤ now ∨ zerN U r 4 r < en) then upd (zerN U r 4) r en else zerN U r 4) := Lib.hid rfl
                      have hz := HT.out.told.cell (k := r) (by omega)
                      have hfz := Blk.frozen HT.out.told r
                      have d4 : 0 ≤ (r : Int) ∧ (r : Int) < 5 := by omega
                      generalize zerN U r 4 = Z at hgU hz hfz HT
                      by_cases q1 : Z r ≤ now
                      · rw [if_pos (.inl q1)] at hgU
                        go_wp2_with fail
                        go_meet
                        case rel => exact ⟨_, _, HT.out.set (by omega) en, hgU.out ▸ HV.out⟩
                      · by_cases q2 : Z r < en
                        · rw [if_pos (.inr q2)] at hgU
                          go_wp2_with fail
                          go_meet
                          case rel => exact ⟨_, _, HT.out.set (by omega) en, hgU.out ▸ HV.out⟩
                        · rw [if_neg (by omega)] at hgU
                          go_wp2_with fail
                          go_meet
                          case rel => exact ⟨_, _, HT.out, hgU.out ▸ HV.out⟩
      case rest =>
        obtain ⟨l, U, hone, hinv⟩ := hcut
        have N3 := Lib.hid hone
        have HI3 := Lib.hid hinv
        clear hone hinv N1 HI1 C1
        have hlen := HI3.out.len
        obtain ⟨A, cc, rfl, -, -⟩ := N3.out.acc.slice
        obtain ⟨y0, y1⟩ : wc.cell? ⟨gd, 0, none⟩ = some (.int .i64 3) ∧ wc.cell? ⟨gd, 1, none⟩ = some (.int .i64 7) := N3.out.dot.cells
        go_wp2_with fail
        refine (Find_any A cc l dd _ N3.out.acc.sl (by omega)).mono ?_
        have htold : ∀ k : Nat, 1 ≤ k → k ≤ 4 → now < U k → (findC l dd).isSome = true ∧ (findC l dd).getD z0 = ⟨dd, k, U k⟩ := fun k k1 k2 k3 => by
          rw [HI3.out.told k1 k2 k3]; exact ⟨rfl, rfl⟩
        have HTold := Lib.hid htold
        clear htold
        obtain ⟨X, hX⟩ : ∃ X, findC l dd = X := ⟨_, rfl⟩
        rw [hX] at HTold ⊢
        clear hX
        rintro e w3 ⟨rfl, hb⟩
        generalize X.getD z0 = T at HTold ⊢
        generalize X.isSome = Bo at HTold ⊢
        have N4 := Lib.hid (N3.out.below hb)
        clear hb y0 y1 N3
        go_wp2_with fail
        have T4 := Lib.hid (HoldAt.new w3 T)
        have N5 := Lib.hid (N4.out.below ((Below.refl w3.heap.size w3).alloc (Nat.le_refl _) (.cells #[.int .i64 T.d.nd, .int .i64 T.d.n, .int .i64 T.rc, .int .i64 T.un] 30)))
        clear N4
        obtain ⟨W5, hW5⟩ : ∃ W5, w3.alloc (.cells #[.int .i64 T.d.nd, .int .i64 T.d.n, .int .i64 T.rc, .int .i64 T.un] 30) = W5 := ⟨_, rfl⟩
        rw [hW5] at T4 N5 ⊢
        clear hW5
        generalize w3.heap.size = gh at T4 ⊢
        go_loopg [19] 4 (fun n s19 wx => ∃ k : Nat, k ≤ 4 ∧ n = 4 - k ∧ s19 = .int .i64 ((k : Int) + 1) ∧ One w gd g l U (.slice A l.length cc) wx ∧ HoldAt wx gh T)
        case atStart => exact ⟨0, by omega, rfl, rfl, N5.out, T4.out⟩
        case round =>
          obtain ⟨k, hk, rfl, rfl, ht, htt⟩ := hrel
          have HT := Lib.hid ht
          have HH := Lib.hid htt
          clear ht htt
          by_cases hk4 : k < 4
          · have d1 : decide ((k : Int) + 1 ≤ 4) = true := by simp; omega
            have d4 : 0 ≤ (k : Int) + 1 ∧ (k : Int) + 1 < 5 := by omega
            have hbound : Hid (k < 4) := Lib.hid hk4
            have z1 := HT.out.told.cell (k := k + 1) (by omega)
            obtain ⟨y0, y1, y2, y3⟩ := HH.out.cells
            have hq := HTold.out (k + 1) (by omega) (by omega)
            by_cases q1 : now < U (k + 1)
            · obtain ⟨hB, hT⟩ := hq q1
              have t1 : T.rc = (k : Int) + 1 := by rw [hT]; rfl
              have t2 : T.un = U (k + 1) := by rw [hT]
              subst hB
              rw [t1] at y2
              rw [t2] at y3
              have q3 : ((k : Int) + 1 == (k : Int) + 1) = true := by simp
              have q4 : (U (k + 1) == U (k + 1)) = true := by simp
              clear hq hT hk4 t1 t2
              go_wp2_with fail
              go_big_quiet (fail)
              go_wp2_with fail
              go_roundg (4 - (k + 1))
              case measure => have := hbound.out; omega
              case rel => exact ⟨k + 1, hbound.out, rfl, by rw [Value.int.injEq]; exact ⟨rfl, by omega⟩, HT.out.below (below_drewN (Below.refl _ _) _), HH.out.below (below_drewN (Below.refl _ _) _)⟩
            · have q2 : decide (now < U (k + 1)) = false := by simpa using q1
              clear hq hk4 q1
              go_wp2_with fail
              go_big_quiet (fail)
              go_wp2_with fail
              go_roundg (4 - (k + 1))
              case measure => have := hbound.out; omega
              case rel => exact ⟨k + 1, hbound.out, rfl, by rw [Value.int.injEq]; exact ⟨rfl, by omega⟩, HT.out.below (below_drewN (Below.refl _ _) _), HH.out.below (below_drewN (Below.refl _ _) _)⟩
          · obtain rfl : k = 4 := by omega
            go_wp2_with fail
            go_roundg (40 - (i + 1))
            case measure => omega
            case rel => exact ⟨i + 1, now, l, U, by omega, by omega, rfl, rfl, rfl, hn8.1, hn8.2, HT.out, HI3.out⟩
    · obtain ⟨A, cc, rfl, -, -⟩ := HN.out.acc.slice
      have hlen := HI.out.len
      have HC := Lib.hid (fun W (h : Sl W 4 A l.length (hcells l)) => check_ok A cc l W h (by omega) HI.out.fine)
      rcases Nat.lt_or_ge i l0.length with h1 | h1
      · have d1 : decide ((i : Int) < (l0.length : Int)) = true := by simp; omega
        have d2 : decide ((i : Int) < 40) = false := by simp; omega
        clear hlt
        go_wp2_with fail
        refine (HC.out _ HN.out.acc.sl).mono ?_
        rintro e w3 ⟨rfl, hb⟩
        have N3 := Lib.hid (HN.out.below hb)
        clear hb
        go_wp2_with fail
        go_ret
        exact ⟨rfl, N3.out.acc.2⟩
      · have d1 : decide ((i : Int) < (l0.length : Int)) = false := by simp; omega
        clear hlt
        go_wp2_with fail
        refine (HC.out _ HN.out.acc.sl).mono ?_
        rintro e w3 ⟨rfl, hb⟩
        have N3 := Lib.hid (HN.out.below hb)
        clear hb
        go_wp2_with fail
        go_ret
        exact ⟨rfl, N3.out.acc.2⟩

#print axioms one_walk
end Go.Proofs.Ythmclonjgbmhhaa
