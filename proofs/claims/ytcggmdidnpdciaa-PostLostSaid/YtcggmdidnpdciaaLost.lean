/-
  PostLost: letters that are lost never come.
-/
import Derived.Test.YtcggmdidnpdciaaAwake
namespace Go.Proofs.Ytcggmdidnpdciaa
open Go.RowKit

theorem and15 (n : Int) : ∃ k : Nat, k ≤ 15 ∧ bits .and .i64 n 15 = k := by
  refine ⟨(BitVec.ofInt 64 n &&& BitVec.ofInt 64 15).toNat, ?_, ?_⟩
  · rw [BitVec.toNat_and]
    exact Nat.and_le_right
  · have h : (BitVec.ofInt 64 n &&& BitVec.ofInt 64 15).toNat ≤ 15 := by rw [BitVec.toNat_and]; exact Nat.and_le_right
    show IntKind.i64.wrap (((BitVec.ofInt 64 n &&& BitVec.ofInt 64 15).toNat : Nat) : Int) = _
    rw [IntKind.wrap_i64]; omega

/-- Letter number i. -/
def ltr (i : Nat) : Letter := ⟨1, 2, ⟨#[UInt8.ofNat i]⟩⟩

theorem conv_one (W : World) (h j : Nat) (hh : W.heap.size = h) :
    (convert 37 9 (.slice (some ⟨h, 0, none⟩) 1 1)).run Try.prog (W.alloc (.cells #[.int .u8 (j : Int)] 5)) = .ok (.string ⟨#[UInt8.ofNat j]⟩) (W.alloc (.cells #[.int .u8 (j : Int)] 5)) := by
  subst hh
  rw [run_convert_bytes_string _ _ _ 5 _ _ _ Try.underlying37 Try.underlying5 Try.underlying9]
  have h1 := run_loadCells_list (P := Try.prog) (W.alloc (.cells #[.int .u8 (j : Int)] 5)) ⟨W.heap.size, 0, none⟩ [.int .u8 (j : Int)] (fun i v hv => by
    rw [Addr.add_lit, Nat.zero_add, (Blk.new W _ _).cell]
    simpa using hv)
  have h2 := run_bytesToString (P := Try.prog) (W.alloc (.cells #[.int .u8 (j : Int)] 5)) ⟨W.heap.size, 0, none⟩ 1 1 [(j : Int)] (by simpa using h1)
  rw [h2]
  rfl

/-- Is letter i lost? -/
def lb (lost : Int) (i : Nat) : Bool := bits .and .i64 (lost / 2 ^ i) 1 == 1

/-- The letters from m on that are not lost. -/
def rest (lost : Int) (m k : Nat) : List Letter := ((List.range' m (k - m)).filter (fun i => !lb lost i)).map ltr

theorem rest_self (lost : Int) (k : Nat) : rest lost k k = [] := by unfold rest; simp

theorem rest_lost (lost : Int) (m k : Nat) (h : m < k) (hl : lb lost m = true) : rest lost m k = rest lost (m + 1) k := by
  unfold rest
  have : k - m = (k - (m + 1)) + 1 := by omega
  rw [this, List.range'_succ, List.filter_cons]
  simp [hl]

theorem rest_kept (lost : Int) (m k : Nat) (h : m < k) (hl : lb lost m = false) : rest lost m k = ltr m :: rest lost (m + 1) k := by
  unfold rest
  have : k - m = (k - (m + 1)) + 1 := by omega
  rw [this, List.range'_succ, List.filter_cons]
  simp [hl]

set_option maxHeartbeats 1000000 in
theorem lost_walk (n lost : Int) (w : World) :
    Calls Try.prog 4 #[.int .i64 n, .int .i64 lost] w fun e w' => e = .returned (.bool true) ∧ Below w.heap.size w w' := by
  obtain ⟨k, hk, hn⟩ := and15 n
  go_enter Try.func4, Try.ntmps4
  go_wp2_with fail
  refine (awake_any _).mono ?_
  rintro e w1 ⟨rfl, hb1⟩
  have B1 := Lib.hid hb1
  clear hb1
  go_wp2_with fail
  refine (new_any _).mono ?_
  rintro e w' ⟨rfl, rfl⟩
  have P0 := Lib.hid (post_new w1)
  have B0 := Lib.hid (B1.out.alloc B1.out.size (.cells #[.slice none 0 0, .slice none 0 0] 44))
  go_wp2_with fail
  go_loopw [8] (fun i wr => ∃ j : Nat, j ≤ k ∧ i = .int .i64 j ∧ PostAt wr w1.heap.size ((List.range j).map ltr) [] ∧ Below w.heap.size w wr) (fun i _ => k - (intOf i).toNat)
  case atStart => exact ⟨0, Nat.zero_le _, rfl, P0.out, B0.out⟩
  case round =>
    obtain ⟨j, hj, rfl, hp, hb⟩ := hrel
    have P := Lib.hid hp
    have B := Lib.hid hb
    clear hp hb
    by_cases hlt : j < k
    · have hcv := fun (W : World) => conv_one W W.heap.size j rfl
      go_wp2_with fail
      refine (send_fit w1.heap.size ((List.range j).map ltr) [] _ 1 [ltr j] _ (P.out.below (((Below.refl _ _).alloc (Nat.le_refl _) _).alloc (by simp) _)) (sl_letter _ (ltr j) _ (by simp)) (Nat.le_refl _) (by simp; omega)).mono ?_
      rintro e w2 ⟨rfl, hp2, ho2, -⟩
      have P2 : Hid (PostAt w2 w1.heap.size ((List.range (j + 1)).map ltr) []) := Lib.hid (by rw [List.range_succ, List.map_append]; exact hp2)
      have B2 : Hid (Below w.heap.size w w2) := Lib.hid (((B.out.alloc B.out.size _).alloc (by have := B.out.size; simp; omega) _).trans (ho2.below B1.out.size (by have := B.out.size; simp; omega)))
      clear hp2 ho2 hcv
      go_wp2_with fail
      go_roundw
      case rel => exact ⟨j + 1, by omega, by go_num, P2.out, B2.out⟩
      case measure => simp [intOf]; omega
    · have hjk : j = k := by omega
      have P1 : Hid (PostAt wr w1.heap.size ((List.range k).map ltr ++ rest lost k k) []) := Lib.hid (by rw [rest_self, List.append_nil]; exact hjk ▸ P.out)
      clear hjk
      go_wp2_with fail
      obtain ⟨wo, hwo⟩ : ∃ wo : World, wo = wr := ⟨_, rfl⟩
      subst hwo
      go_loopw [9] (fun i wr => ∃ (m : Nat) (z : Int), m ≤ k ∧ z = (m : Int) - 1 ∧ i = .int .i64 z ∧ PostAt wr w1.heap.size ((List.range m).map ltr ++ rest lost m k) [] ∧ Below w.heap.size w wr) (fun i _ => (intOf i + 1).toNat)
      case atStart => exact ⟨k, _, Nat.le_refl _, rfl, rfl, P1.out, B.out⟩
      case round =>
        obtain ⟨m, z, hm, hz, rfl, hp, hb⟩ := hrel
        have P2 := Lib.hid hp
        have B2 := Lib.hid hb
        clear hp hb
        by_cases hlt : 0 < m
        · obtain ⟨p, rfl⟩ : ∃ p, m = p + 1 := ⟨m - 1, by omega⟩
          obtain rfl : z = (p : Int) := by omega
          clear hz hlt
          cases hl : lb lost p
          · have c1 : (bits .and .i64 (lost / 2 ^ p) 1 == 1) = false := hl
            have c2 : ¬ bits .and .i64 (lost / 2 ^ p) 1 = 1 := by simpa using c1
            have HL := Lib.hid hl
            clear hl
            go_wp2_with fail
            go_roundw
            case rel => exact ⟨p, (p : Int) - 1, by omega, rfl, rfl, by rw [rest_kept lost p k (by omega) HL.out]; have := P2.out; rw [List.range_succ, List.map_append, List.append_assoc] at this; exact this, B2.out⟩
            case measure => simp [intOf]
          · have c1 : (bits .and .i64 (lost / 2 ^ p) 1 == 1) = true := hl
            have c2 : bits .and .i64 (lost / 2 ^ p) 1 = 1 := by simpa using c1
            have HL := Lib.hid hl
            clear hl
            go_wp2_with fail
            refine (lose_yes w1.heap.size _ [] p _ P2.out (by simp; omega)).mono ?_
            rintro e w3 ⟨rfl, hp3, ho3, -⟩
            have P3 : Hid (PostAt w3 w1.heap.size ((List.range p).map ltr ++ rest lost p k) []) := Lib.hid (by
              rw [rest_lost lost p k (by omega) HL.out]
              have e1 : ((List.range (p + 1)).map ltr ++ rest lost (p + 1) k).eraseIdx p = (List.range p).map ltr ++ rest lost (p + 1) k := by
                rw [List.range_succ, List.map_append, List.append_assoc, List.eraseIdx_append_of_length_le (by simp)]
                simp
              rw [← e1]; exact hp3)
            have B3 : Hid (Below w.heap.size w w3) := Lib.hid (B2.out.trans (ho3.below B1.out.size B2.out.size))
            clear hp3 ho3
            go_wp2_with fail
            go_roundw
            case rel => exact ⟨p, (p : Int) - 1, by omega, rfl, rfl, P3.out, B3.out⟩
            case measure => simp [intOf]
        · have hm0 : m = 0 := by omega
          have P4 : Hid (PostAt wr w1.heap.size (rest lost 0 k) []) := Lib.hid (by have := P2.out; rw [hm0] at this; exact this)
          have hz0 : z < 0 := by omega
          clear hm0 hlt hz
          go_wp2_with fail
          obtain ⟨w5, hw5⟩ : ∃ w5 : World, w5 = wr := ⟨_, rfl⟩
          subst hw5
          go_loopw [10] (fun i wr => ∃ q : Nat, q ≤ k ∧ i = .int .i64 q ∧ PostAt wr w1.heap.size (rest lost q k) [] ∧ Below w.heap.size w wr) (fun i _ => k - (intOf i).toNat)
          case atStart => exact ⟨0, Nat.zero_le _, rfl, P4.out, B2.out⟩
          case round =>
            obtain ⟨q, hq, rfl, hp, hb⟩ := hrel
            have P5 := Lib.hid hp
            have B5 := Lib.hid hb
            clear hp hb
            by_cases hlt : q < k
            · cases hl : lb lost q
              · have c1 : (bits .and .i64 (lost / 2 ^ q) 1 == 1) = false := hl
                have c2 : ¬ bits .and .i64 (lost / 2 ^ q) 1 = 1 := by simpa using c1
                have HL := Lib.hid hl
                clear hl
                go_wp2_with fail
                refine (take_in w1.heap.size _ [] 0 (ltr q) _ P5.out (by rw [rest_kept lost q k hlt HL.out]; rfl)).mono ?_
                rintro e w6 ⟨rfl, hp6, ho6, -⟩
                have ht : told [] (ltr q) = .tuple #[.agg #[.int .i64 1, .int .i64 2, .string ⟨#[UInt8.ofNat q]⟩], .bool true] := rfl
                rw [ht]
                have P6 : Hid (PostAt w6 w1.heap.size (rest lost (q + 1) k) []) := Lib.hid (by
                  have e1 : (rest lost q k).eraseIdx 0 = rest lost (q + 1) k := by rw [rest_kept lost q k hlt HL.out]; rfl
                  rw [← e1]; exact hp6)
                have B6 : Hid (Below w.heap.size w w6) := Lib.hid (B5.out.trans (ho6.below B1.out.size B5.out.size))
                clear hp6 ho6 ht
                have hcv := fun (o : Obj) => conv_one (w6.alloc o) (w6.heap.size + 1) q (by simp)
                go_wp2_with fail
                go_roundw
                case rel => exact ⟨q + 1, by omega, by go_num, P6.out.below (((Below.refl _ _).alloc (Nat.le_refl _) _).alloc (by simp) _), (B6.out.alloc B6.out.size _).alloc (by have := B6.out.size; simp; omega) _⟩
                case measure => simp [intOf]; omega
              · have c1 : (bits .and .i64 (lost / 2 ^ q) 1 == 1) = true := hl
                have c2 : bits .and .i64 (lost / 2 ^ q) 1 = 1 := by simpa using c1
                have HL := Lib.hid hl
                clear hl
                go_wp2_with fail
                go_roundw
                case rel => exact ⟨q + 1, by omega, by go_num, by rw [← rest_lost lost q k hlt HL.out]; exact P5.out, B5.out⟩
                case measure => simp [intOf]; omega
            · have hqk : rest lost q k = [] := by unfold rest; rw [show k - q = 0 by omega]; rfl
              have P7 : Hid (PostAt wr w1.heap.size [] []) := Lib.hid (hqk ▸ P5.out)
              clear hqk
              go_wp2_with fail
              refine (len_any w1.heap.size [] [] _ P7.out).mono ?_
              rintro e w' ⟨rfl, rfl⟩
              go_wp2_with fail
              go_ret
              exact ⟨rfl, B5.out⟩

#print axioms lost_walk
end Go.Proofs.Ytcggmdidnpdciaa
