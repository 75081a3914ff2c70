/- The walk of LzRepeats. -/
import Derived.Test.YtnjcganknpnjcaaWkJoins
import Derived.Test.YtnjcganknpnjcaaLzS
import Derived.OwnWalk
namespace Go.Proofs.Ytnjcganknpnjcaa
open Go.RowKit

/-- k bytes c, then zeros up to m. -/
def fill (c : UInt8) (k m : Nat) : List UInt8 := List.replicate k c ++ List.replicate (m - k) 0
theorem fill_length (c : UInt8) (k m : Nat) (h : k ≤ m) : (fill c k m).length = m := by simp [fill]; omega
theorem fill_set (c : UInt8) (k m : Nat) (h : k < m) : (fill c k m).set k c = fill c (k + 1) m := by
  unfold fill
  obtain ⟨d, hd⟩ : ∃ d, m - k = d + 1 := ⟨m - k - 1, by omega⟩
  have hd' : m - (k + 1) = d := by omega
  rw [hd, hd', List.set_append_right _ _ (by simp), List.length_replicate, Nat.sub_self, List.replicate_succ, List.set_cons_zero, List.replicate_succ', List.append_assoc]
  rfl
theorem byteCells_set (l : List UInt8) (k : Nat) (c : UInt8) : (Lib.byteCells l).set k (.int .u8 (c.toNat : Int)) = Lib.byteCells (l.set k c) := by
  unfold Lib.byteCells
  rw [List.map_set]
theorem made_fill (c : UInt8) (m : Nat) : (madeCells #[Value.int .u8 0] m).toList = Lib.byteCells (fill c 0 m) := by
  rw [toList_madeCells_one]
  simp [fill, Lib.byteCells]
theorem byt_fill (c : UInt8) (m i : Nat) (h : i < m) : byt ⟨(fill c m m).toArray⟩ i = (c.toNat : Int) := by
  unfold byt
  have hs : (⟨(fill c m m).toArray⟩ : ByteArray).size = m := by
    show (fill c m m).toArray.size = m
    simp [fill]
  rw [dif_pos (by omega)]
  show (((fill c m m).toArray[i]'_).toNat : Int) = _
  simp [fill]

def szOfI (v : Value) : Nat := match v with | .int _ x => x.toNat | _ => 0

set_option maxRecDepth 100000 in
set_option maxHeartbeats 1000000 in
theorem LzRepeats_walk (c n : Int) (hc : (Lit.int .u8 c).wf = true) (hn : (Lit.int .u16 n).wf = true) (w : World) :
    Calls Try.prog 9 #[.int .u8 c, .int .u16 n] w fun e w' => e = .returned (.bool true) ∧ Below w.heap.size w w' := by
  obtain ⟨hn1, hn2⟩ := bounds_u16 hn
  obtain ⟨hc1, hc2⟩ := bounds_u8 hc
  clear hn hc
  obtain ⟨m, rfl⟩ := Int.eq_ofNat_of_zero_le hn1
  obtain ⟨cc, rfl⟩ : ∃ cc : UInt8, c = (cc.toNat : Int) := ⟨UInt8.ofNat c.toNat, by simp; omega⟩
  by_cases h : m ≤ 5000 ∧ m ≠ 0
  · obtain ⟨h1, h2⟩ := h
    have t0 : decide ((5000 : Int) < (m : Int)) = false := decide_eq_false (by omega)
    have t1 : ((m : Int) == 0) = false := by simpa using h2
    obtain ⟨i0, hi, hz0, hz1, hz2⟩ := info_parts info5
    have k0 : IntKind.i64.wrap (m : Int) = (m : Int) := IntWalk.i64_in _ (by omega)
    go_enter Try.func9, Try.ntmps9
    go_wp2_with ((at_make; refine wpList_make_full w rfl _ _ 46 rfl w.heap.size 5 i0 (.int .u8 0) 1 Try.underlying46 hi hz0 hz1 .i64 .i64 _ _ m rfl rfl rfl rfl (by rw [hz2]; omega) (by unfold maxLen; omega) (Nat.le_refl _) ?_))
    intro w1 hown hgr
    rw [made_fill cc] at hown
    have hb1 : Below w.heap.size w w1 := ⟨hgr.os, hgr.tape, hgr.output, hgr.size, fun k hk => hgr.block k hk (by simp)⟩
    clear hgr
    go_wp2
    go_loopw [6] (fun a wr => ∃ k : Nat, a = .int .i64 (k : Int) ∧ k ≤ m ∧ wr.ownsRow w.heap.size 5 1 (.slice (some ⟨w.heap.size, 0, none⟩) m m) m (Lib.byteCells (fill cc k m)) ∧ Below w.heap.size w wr) (fun a _ => m - szOfI a)
    case atStart => exact ⟨0, rfl, Nat.zero_le _, hown, hb1⟩
    case round =>
      clear hown hb1
      obtain ⟨k, rfl, hk, hown, hbel⟩ := hrel
      by_cases hlt : k < m
      · have q0 : decide ((k : Int) < (m : Int)) = true := decide_eq_true (by omega)
        obtain ⟨x, q1⟩ : ∃ x, wr.cell? ⟨w.heap.size, k, none⟩ = some x := by
          have q := hown.cellAt k (by omega)
          rw [List.getElem?_eq_getElem (by simp [Lib.byteCells, fill_length cc k m hk]; exact hlt)] at q
          exact ⟨_, q⟩
        have q2 := hown.frozenAt k
        obtain ⟨q3, q4⟩ := hown.stored k (.int .u8 (cc.toNat : Int))
        rw [byteCells_set, fill_set cc k m hlt] at q3
        go_wp2
        go_roundw
        case rel => exact ⟨k + 1, by rw [Int.natCast_add]; rfl, hlt, q3, ⟨q4.os.trans hbel.os, q4.tape.trans hbel.tape, q4.output.trans hbel.output, Nat.le_trans hbel.size q4.size, fun j hj => (q4.block j (Nat.lt_of_lt_of_le hj hbel.size) (by simp; omega)).trans (hbel.block j hj)⟩⟩
        case measure => simp [szOfI]; omega
      · obtain rfl : k = m := by omega
        have q0 : decide ((k : Int) < (k : Int)) = false := decide_eq_false (by omega)
        obtain ⟨b, hbe⟩ : ∃ b : ByteArray, (⟨(fill cc k k).toArray⟩ : ByteArray) = b := ⟨_, rfl⟩
        have hbs : b.size = k := by
          rw [← hbe]
          show (fill cc k k).toArray.size = k
          simp [fill]
        have hrep := repeats_plain b (by omega) (by
          intro i j hi hj
          rw [← hbe, byt_fill cc k i (by omega), byt_fill cc k j (by omega)])
        have hcv : (convert 46 9 (.slice (some ⟨w.heap.size, 0, none⟩) k k)).run Try.prog wr = .ok (.string ⟨(fill cc k k).toArray⟩) wr := by
          refine conv_row (base := w.heap.size) ?_
          rw [fill_length cc k k (Nat.le_refl _)]
          exact hown
        rw [hbe] at hcv
        have hps := packs_plain b
        rw [hbs] at hrep hps
        have hpq : (pack b).length ≤ 6000 := by omega
        have t5 : decide (((pack b).length : Int) ≤ 8 + 3 * (((k : Int) + 129) / 131)) = true := decide_eq_true (by omega)
        have Hp := Lib.hid hpq
        clear hps hrep hpq
        go_wp2_with fail
        refine (pack_any b wr (by omega)).mono ?_
        rintro e w2 ⟨rfl, hb2⟩
        go_wp2_with fail
        refine (awake_any w2).mono ?_
        rintro e w3 ⟨rfl, hb3⟩
        go_wp2
        go_ret
        exact ⟨rfl, (hbel.trans (hb2.mono hbel.size)).trans (hb3.mono (Nat.le_trans hbel.size hb2.size))⟩
  · by_cases h1 : m ≤ 5000
    · obtain rfl : m = 0 := by omega
      clear h h1
      go_enter Try.func9, Try.ntmps9
      go_wp2_with fail
      refine (awake_any w).mono ?_
      rintro e w1 ⟨rfl, hb1⟩
      go_wp2
      go_ret
      exact ⟨rfl, hb1⟩
    · have t0 : decide ((5000 : Int) < (m : Int)) = true := decide_eq_true (by omega)
      clear h
      go_enter Try.func9, Try.ntmps9
      go_wp2_with fail
      refine (awake_any w).mono ?_
      rintro e w1 ⟨rfl, hb1⟩
      go_wp2
      go_ret
      exact ⟨rfl, hb1⟩

end Go.Proofs.Ytnjcganknpnjcaa
