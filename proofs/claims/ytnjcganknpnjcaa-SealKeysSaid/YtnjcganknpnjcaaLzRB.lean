/- lz: the reference's run and Pack. -/
import Derived.Test.YtnjcganknpnjcaaLzRA
import Derived.Test.YtnjcganknpnjcaaLzV
namespace Go.Proofs.Ytnjcganknpnjcaa
open Go.RowKit

/-- 'string([]byte{..})' of bytes that stand there. -/
theorem conv_lit (w : World) (l : List UInt8) (h : l.length ≤ 1000) :
    (convert 46 9 (.slice (some ⟨w.heap.size, 0, none⟩) l.length l.length)).run Try.prog (w.alloc (.cells (Lib.byteCells l).toArray 5)).drew = .ok (.string ⟨l.toArray⟩) (w.alloc (.cells (Lib.byteCells l).toArray 5)).drew := by
  refine conv_row (base := w.heap.size) ?_
  have := World.ownsRow_lit (base := w.heap.size) (e := 5) (size := 1) w (Lib.byteCells l).toArray l.length (Nat.le_refl _) (by unfold maxLen; omega) (by simp [Lib.byteCells])
  exact this
theorem conv_one (w : World) (c : UInt8) : (convert 46 9 (.slice (some ⟨w.heap.size, 0, none⟩) 1 1)).run Try.prog (w.alloc (.cells #[.int .u8 (c.toNat : Int)] 5)).drew = .ok (.string ⟨#[c]⟩) (w.alloc (.cells #[.int .u8 (c.toNat : Int)] 5)).drew :=
  conv_lit w [c] (by simp)
theorem conv_lit0 (w : World) (l : List UInt8) (h : l.length ≤ 1000) :
    (convert 46 9 (.slice (some ⟨w.heap.size, 0, none⟩) l.length l.length)).run Try.prog (w.alloc (.cells (Lib.byteCells l).toArray 5)) = .ok (.string ⟨l.toArray⟩) (w.alloc (.cells (Lib.byteCells l).toArray 5)) := by
  refine conv_row (base := w.heap.size) ?_
  have := World.ownsRow_lit (base := w.heap.size) (e := 5) (size := 1) w (Lib.byteCells l).toArray l.length (Nat.le_refl _) (by unfold maxLen; omega) (by simp [Lib.byteCells])
  exact this
theorem conv_one0 (w : World) (c : UInt8) : (convert 46 9 (.slice (some ⟨w.heap.size, 0, none⟩) 1 1)).run Try.prog (w.alloc (.cells #[.int .u8 (c.toNat : Int)] 5)) = .ok (.string ⟨#[c]⟩) (w.alloc (.cells #[.int .u8 (c.toNat : Int)] 5)) :=
  conv_lit0 w [c] (by simp)
theorem below_alloc {a w : World} (h : Below a.heap.size a w) (o : Obj) : Below a.heap.size a (w.alloc o).drew := ⟨(h.alloc h.size o).os, (h.alloc h.size o).tape, (h.alloc h.size o).output, (h.alloc h.size o).size, (h.alloc h.size o).block⟩
theorem runB_long (l : List UInt8) (h : 128 < l.length) : runB l = 127 :: (l.take 128 ++ runB (l.drop 128)) := by
  have hp : l ≠ [] := by intro e; rw [e] at h; simp at h
  rw [runB_step l hp, show min l.length 128 = 128 by omega]
  rfl
theorem runB_short (l : List UInt8) (h : l.length ≤ 128) (h0 : l ≠ []) : runB l = UInt8.ofNat (l.length - 1) :: l := by
  rw [runB_step l h0, show min l.length 128 = l.length by omega, List.take_of_length_le h, List.drop_eq_nil_of_le h, runB_nil, List.append_nil]

set_option maxRecDepth 100000 in
set_option maxHeartbeats 1000000 in
theorem rrun_any (s : ByteArray) (w : World) (hs : s.size ≤ 60000) :
    Calls Try.prog 61 #[.string s] w fun e w' => e = .returned (.string ⟨(runB s.data.toList).toArray⟩) ∧ Below w.heap.size w w' := by
  go_enter Try.func61, Try.ntmps61
  go_wp2
  go_loopw [0, 3] (fun a b wr => ∃ x y : ByteArray, a = .string x ∧ b = .string y ∧ x.size ≤ s.size ∧ y.size + 2 * x.size ≤ 2 * s.size ∧ Hid (y.data.toList ++ runB x.data.toList = runB s.data.toList) ∧ Below w.heap.size w wr) (fun a _ _ => szOf a)
  case atStart => exact ⟨s, ⟨#[]⟩, rfl, rfl, Nat.le_refl _, by show 0 + _ ≤ _; omega, Lib.hid rfl, Below.refl _ _⟩
  case round =>
    obtain ⟨x, y, rfl, rfl, hx, hy, H, hbel⟩ := hrel
    have hsz : x.data.toList.length = x.size := by simp
    by_cases h128 : 128 < x.size
    · have t0 : decide ((128 : Int) < (x.size : Int)) = true := decide_eq_true (by omega)
      have hcv : (convert 46 9 (.slice (some ⟨wr.heap.size, 0, none⟩) 1 1)).run Try.prog (wr.alloc (.cells #[.int .u8 127] 5)).drew = .ok (.string ⟨#[127]⟩) (wr.alloc (.cells #[.int .u8 127] 5)).drew := conv_one wr 127
      have Hr := Lib.hid (runB_long x.data.toList (by rw [hsz]; exact h128))
      have hd1 : (x.extract 0 128).data.toList = x.data.toList.take 128 := by rw [Lib.extract_data]; rfl
      have hd2 : (x.extract 128 x.size).data.toList = x.data.toList.drop 128 := by rw [Lib.extract_data]; exact List.take_of_length_le (by simp)
      have hz1 : (x.extract 0 128).size = 128 := by simp [ByteArray.size_extract]; omega
      have hz2 : (x.extract 128 x.size).size = x.size - 128 := by simp [ByteArray.size_extract]
      obtain ⟨x1, hx1⟩ : ∃ z, x.extract 0 128 = z := ⟨_, rfl⟩
      obtain ⟨x2, hx2⟩ : ∃ z, x.extract 128 x.size = z := ⟨_, rfl⟩
      rw [hx1] at hd1 hz1
      rw [hx2] at hd2 hz2
      have Hd1 := Lib.hid hd1
      have Hd2 := Lib.hid hd2
      clear hd1 hd2 hsz
      go_wp2
      go_region
      go_wp2
      obtain ⟨z, hz⟩ : ∃ z, y ++ { data := #[127] } ++ x1 = z := ⟨_, rfl⟩
      have hzd : z.data.toList = y.data.toList ++ [127] ++ x1.data.toList := by rw [← hz]; simp
      have hzs : z.size = y.size + 129 := by rw [← hz, ByteArray.size_append, ByteArray.size_append, hz1]; rfl
      rw [hz]
      go_roundw
      case rel =>
        refine ⟨x2, z, rfl, rfl, by omega, by omega, Lib.hid ?_, ?_⟩
        · rw [← H.out, Hr.out, hzd, Hd1.out, Hd2.out]
          simp
        · exact below_alloc hbel _
      case measure =>
        simp [szOf]
        omega
    · have t0 : decide ((128 : Int) < (x.size : Int)) = false := decide_eq_false (by omega)
      by_cases h0 : x.size = 0
      · have t1 : ((x.size : Int) == 0) = true := by simp [h0]
        have hl : x.data.toList = [] := List.eq_nil_of_length_eq_zero (by omega)
        rw [hl, runB_nil, List.append_nil] at H
        clear hl hsz
        go_wp2
        go_ret
        refine ⟨ret_val ?_, hbel⟩
        rw [← H.out]
        exact congrArg Value.string (ByteArray.ext (Array.ext' (by simp)))
      · have t1 : ((x.size : Int) == 0) = false := by simpa using h0
        have Hr := Lib.hid (runB_short x.data.toList (by omega) (by intro e; rw [e] at hsz; simp at hsz; omega))
        rw [hsz] at Hr
        obtain ⟨c, hc⟩ : ∃ c : UInt8, UInt8.ofNat (x.size - 1) = c := ⟨_, rfl⟩
        have hcv := conv_one0 wr c
        have hw : IntKind.u8.wrap ((x.size : Int) - 1) = (c.toNat : Int) := by
          rw [IntWalk.u8_in _ (by omega), ← hc]
          simp; omega
        rw [hc] at Hr
        clear hc hsz
        go_wp2
        go_ret
        refine ⟨ret_val ?_, hbel.alloc hbel.size _⟩
        rw [← H.out, Hr.out]
        exact congrArg Value.string (ByteArray.ext (Array.ext' (by simp)))

end Go.Proofs.Ytnjcganknpnjcaa
