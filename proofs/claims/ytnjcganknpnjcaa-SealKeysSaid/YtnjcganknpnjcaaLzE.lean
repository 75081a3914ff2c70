/- lz: what runs writes: bytes that stand for themselves, 128 at most behind each one's number. -/
import Derived.Test.YtnjcganknpnjcaaLzC
import Derived.Test.YtnjcganknpnjcaaShelf
namespace Go.Proofs.Ytnjcganknpnjcaa
open Go.RowKit

/-- A builder of the call's own that holds these bytes. -/
def Bld (B b : Nat) (l : List UInt8) (w : World) : Prop := Lib.IsBuilderF 74 5 B b (Lib.byteCells l) w

theorem wb_any (B b : Nat) (l : List UInt8) (c : UInt8) (w : World) (h : Bld B b l w) (hlen : l.length + 1 ≤ 140737488355328) (hB : B ≤ w.heap.size) :
    Calls Try.prog 58 #[.pointer (some ⟨b, 0, none⟩), .int .u8 (c.toNat : Int)] w fun e w' => e = .returned .nilIface ∧ (Bld B b (l ++ [c]) w' ∧ Below B w w' ∧ Lib.OthersKept 5 (some b) w w') :=
  (Try.Builder_WriteByte_k B b _ c.toNat w h (by rw [Lib.byteCells_length]; exact hlen) hB).mono fun e w' ⟨h1, h2, h3⟩ => ⟨h1, .inr (by rw [Lib.byteCells_append]; exact h2), h3⟩
theorem ws_any (B b : Nat) (l : List UInt8) (s : ByteArray) (w : World) (h : Bld B b l w) (hlen : l.length + s.size ≤ 140737488355328) (hB : B ≤ w.heap.size) :
    Calls Try.prog 83 #[.pointer (some ⟨b, 0, none⟩), .string s] w fun e w' => e = .returned (.tuple #[.int .i64 s.size, .nilIface]) ∧ (Bld B b (l ++ s.data.toList) w' ∧ Below B w w' ∧ Lib.OthersKept 5 (some b) w w') :=
  (Try.Builder_WriteString_k B b _ s w h (by rw [Lib.byteCells_length]; exact hlen) hB).mono fun e w' ⟨h1, h2, h3⟩ => ⟨h1, .inr (by rw [Lib.byteCells_append]; exact h2), h3⟩

def runGo : Nat → List UInt8 → List UInt8
  | 0, _ => []
  | f + 1, l => if l = [] then [] else UInt8.ofNat (min l.length 128 - 1) :: (l.take 128 ++ runGo f (l.drop 128))
def runB (l : List UInt8) : List UInt8 := runGo l.length l
theorem runGo_more : ∀ (f g : Nat) (l : List UInt8), l.length ≤ f → l.length ≤ g → runGo f l = runGo g l
  | 0, 0, _, _, _ => rfl
  | 0, g + 1, l, h, _ => by
    have : l = [] := List.eq_nil_of_length_eq_zero (by omega)
    rw [runGo, runGo, if_pos this]
  | f + 1, 0, l, _, h => by
    have : l = [] := List.eq_nil_of_length_eq_zero (by omega)
    rw [runGo, runGo, if_pos this]
  | f + 1, g + 1, l, h1, h2 => by
    rw [runGo, runGo]
    by_cases hl : l = []
    · rw [if_pos hl, if_pos hl]
    · rw [if_neg hl, if_neg hl]
      have : 0 < l.length := List.length_pos_iff.2 hl
      rw [runGo_more f g (l.drop 128) (by simp; omega) (by simp; omega)]
theorem runB_nil : runB [] = [] := rfl
theorem runB_step (l : List UInt8) (h : l ≠ []) : runB l = UInt8.ofNat (min l.length 128 - 1) :: (l.take 128 ++ runB (l.drop 128)) := by
  have hp : 0 < l.length := List.length_pos_iff.2 h
  obtain ⟨f, hf⟩ : ∃ f, l.length = f + 1 := ⟨l.length - 1, by omega⟩
  rw [runB, hf, runGo, if_neg h, hf]
  rw [runB, runGo_more f _ (l.drop 128) (by simp; omega) (Nat.le_refl _)]

def szOf (v : Value) : Nat := match v with | .string x => x.size | _ => 0

def RunsPost (B b : Nat) (l : List UInt8) (w : World) (e : Ending) (w' : World) : Prop :=
  e = .returned (.tuple #[]) ∧ Bld B b l w' ∧ Below B w w' ∧ Lib.OthersKept 5 (some b) w w'

set_option maxRecDepth 100000 in
set_option maxHeartbeats 1000000 in
theorem runs_any (B b : Nat) (l : List UInt8) (s : ByteArray) (w : World) (h : Bld B b l w) (hlen : l.length + 2 * s.size ≤ 140737488355328) (hB : B ≤ w.heap.size) :
    Calls Try.prog 57 #[.pointer (some ⟨b, 0, none⟩), .string s] w (RunsPost B b (l ++ runB s.data.toList) w) := by
  go_enter Try.func57, Try.ntmps57
  go_wp2
  go_loopw [1] (fun v wr => ∃ x : ByteArray, v = .string x ∧ ∃ pre : List UInt8, Bld B b pre wr ∧ pre.length + 2 * x.size ≤ 140737488355328 ∧ Hid (pre ++ runB x.data.toList = l ++ runB s.data.toList) ∧ Below B w wr ∧ Lib.OthersKept 5 (some b) w wr) (fun v _ => szOf v)
  case atStart => exact ⟨s, rfl, l, h, hlen, Lib.hid rfl, Below.refl _ _, Lib.OthersKept.refl _ _ _⟩
  case round =>
    obtain ⟨x, rfl, pre, hb, hl, H, hbel, hoth⟩ := hrel
    have hsz : x.data.toList.length = x.size := by simp
    by_cases hx : x.data.toList = []
    · have hx1 : (!x.toList.isEmpty) = false := by
        have : x.toList = x.data.toList := ByteArray.toList_eq ..
        rw [this, hx]; rfl
      rw [hx, runB_nil, List.append_nil] at H
      clear hx hsz
      go_wp2_with fail
      go_end0
      exact ⟨rfl, by rw [← H.out]; exact hb, hbel, hoth⟩
    · have hx1 : (!x.toList.isEmpty) = true := by
        have : x.toList = x.data.toList := ByteArray.toList_eq ..
        rw [this]
        cases hq : x.data.toList with
        | nil => exact absurd hq hx
        | cons a t => rfl
      obtain ⟨n, hn⟩ : ∃ n, min x.size 128 = n := ⟨_, rfl⟩
      have hp : 0 < x.size := by rw [← hsz]; exact List.length_pos_iff.2 hx
      have hn1 : 1 ≤ n := by omega
      have hn2 : n ≤ 128 := by omega
      have hn3 : n ≤ x.size := by omega
      have hmin : min (x.size : Int) 128 = (n : Int) := by omega
      obtain ⟨c, hc⟩ : ∃ c : UInt8, UInt8.ofNat (n - 1) = c := ⟨_, rfl⟩
      have hcv : (n : Int) - 1 = (c.toNat : Int) := by
        rw [← hc]
        simp
        omega
      have Hr : Hid (runB x.data.toList = c :: ((x.extract 0 n).data.toList ++ runB (x.extract n x.size).data.toList)) := by
        refine Lib.hid ?_
        have hd : ∀ (t : List UInt8), t.length = x.size → (t.take 128 = t.take n ∧ t.drop 128 = t.drop n) := by
          intro t ht
          by_cases h128 : x.size ≤ 128
          · have : n = x.size := by omega
            rw [List.take_of_length_le (by omega), List.take_of_length_le (by omega), List.drop_eq_nil_of_le (by omega), List.drop_eq_nil_of_le (by omega)]
            exact ⟨rfl, rfl⟩
          · have : n = 128 := by omega
            rw [this]
            exact ⟨rfl, rfl⟩
        rw [runB_step _ hx, hsz, hn, hc, (hd _ hsz).1, (hd _ hsz).2, Lib.extract_data, Lib.extract_data]
        simp [List.take_of_length_le]
      clear hn hc hx hsz
      go_wp2_with fail
      refine (wb_any B b pre c wr hb (by omega) (by have := hbel.size; omega)).mono ?_
      rintro e w1 ⟨rfl, hb1, hbel1, hoth1⟩
      go_wp2_with fail
      refine (ws_any B b (pre ++ [c]) (x.extract 0 n) w1 hb1 (by simp [ByteArray.size_extract]; omega) (by have := hbel.size; have := hbel1.size; omega)).mono ?_
      rintro e w2 ⟨rfl, hb2, hbel2, hoth2⟩
      go_wp2_with fail
      go_roundw
      case rel =>
        refine ⟨_, rfl, _, hb2, ?_, ?_, (hbel.trans hbel1).trans hbel2, (hoth.trans hoth1).trans hoth2⟩
        · simp [ByteArray.size_extract]
          omega
        · refine Lib.hid ?_
          rw [← H.out, Hr.out]
          simp
      case measure =>
        simp [szOf, ByteArray.size_extract]
        omega

end Go.Proofs.Ytnjcganknpnjcaa
