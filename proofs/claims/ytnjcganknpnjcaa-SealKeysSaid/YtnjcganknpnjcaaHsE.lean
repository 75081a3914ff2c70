/- hash: the eight numbers, a round's row, a word. -/
import Derived.Test.YtnjcganknpnjcaaHsD
import Derived.Test.YtnjcganknpnjcaaShelf
namespace Go.Proofs.Ytnjcganknpnjcaa
open Go.RowKit

/-- The signs of the rows. -/
def rowsB : ByteArray := ⟨(sigL.map fun x => UInt8.ofNat (if x < 10 then 48 + x else 87 + x)).toArray⟩
def digsB : ByteArray := ⟨#[48, 49, 50, 51, 52, 53, 54, 55, 56, 57, 97, 98, 99, 100, 101, 102]⟩
theorem rowsB_size : rowsB.size = 160 := by kernel_rfl
theorem row_key : ∀ k, (h : k < 160) → Lib.indexByte digsB.data.toList (rowsB[k]'(by rw [rowsB_size]; exact h)) = (sigL.getD k 0 : Int) := by decide +kernel

set_option maxRecDepth 100000 in
set_option maxHeartbeats 1000000 in
theorem row_any (r i : Nat) (w : World) (hr : r < 10) (hi : i < 16) : Calls Try.prog 116 #[.int .i64 (r : Int), .int .i64 (i : Int)] w fun e w' => e = .returned (.int .i64 (sig r i : Int)) ∧ w' = w := by
  obtain ⟨k, hk⟩ : ∃ k, 16 * r + i = k := ⟨_, rfl⟩
  have e1 : IntKind.i64.wrap (16 * (r : Int)) = 16 * (r : Int) := IntWalk.i64_in _ (by omega)
  have e2 : IntKind.i64.wrap (16 * (r : Int) + (i : Int)) = (k : Int) := by rw [IntWalk.i64_in _ (by omega)]; omega
  have e3 : (k : Int) < 160 := by omega
  have e5 : k < 160 := by omega
  have Hk := Lib.hid hk
  clear hk
  go_enter Try.func116, Try.ntmps116
  go_wp2_with fail
  refine (Try.strings_IndexByte _ _ _).mono ?_
  rintro e w1 ⟨rfl, rfl⟩
  go_wp2
  go_ret
  refine ⟨ret_int ?_, rfl⟩
  rw [show sig r i = sigL.getD k 0 from by rw [sig, Hk.out]]
  exact row_key k e5

set_option maxRecDepth 100000 in
set_option maxHeartbeats 1000000 in
theorem eight_any (w : World) : Calls Try.prog 77 #[] w fun e w' => e = .returned (.agg (arrA 8 (wordsV iv))) ∧ Below w.heap.size w w' := by
  go_enter Try.func77, Try.ntmps77
  go_upto_region 1 with fail
  have hz : (w.alloc (Obj.cells #[Value.int IntKind.u32 0, Value.int IntKind.u32 0, Value.int IntKind.u32 0, Value.int IntKind.u32 0, Value.int IntKind.u32 0, Value.int IntKind.u32 0, Value.int IntKind.u32 0, Value.int IntKind.u32 0] 97)).rowIs w.heap.size 97 8 (fun _ => .int .u32 0) := row_of_heap (heap_new w _)
  go_wp2_with (refine store_arr rfl 97 _ _ rfl 8 97 w.heap.size _ (wordsV iv) rfl rfl hz siz97 (fun _ => rfl) ?_)
  refine bodyPost_ret (result_arr rfl _ _ 8 38 97 w.heap.size _ rfl (rowIs_setRow hz _) und97 siz97) rfl ?_
  exact ⟨rfl, below_setRow ((Below.refl _ w).alloc (Nat.le_refl _) _) (Nat.le_refl _) _⟩

theorem or_add8 (a b k : Nat) (h : a < 2 ^ k) : a ||| (b * 2 ^ k) = a + b * 2 ^ k := by
  rw [Nat.or_comm, ← Nat.shiftLeft_eq, ← Nat.shiftLeft_add_eq_or_of_lt h, Nat.add_comm]
/-- Four bytes, the lowest one first. -/
def w4 (a b c d : Nat) : Nat := a + b * 256 + c * 65536 + d * 16777216
theorem w4_lt (a b c d : Nat) (ha : a < 256) (hb : b < 256) (hc : c < 256) (hd : d < 256) : w4 a b c d < 4294967296 := by unfold w4; omega

set_option maxRecDepth 100000 in
set_option maxHeartbeats 1000000 in
theorem byt_nat (s : ByteArray) (i : Nat) : ∃ x : Nat, byt s i = (x : Int) ∧ x < 256 := by
  have := byt_range s i
  exact ⟨(byt s i).toNat, by omega, by omega⟩

set_option maxRecDepth 100000 in
set_option maxHeartbeats 1000000 in
theorem word_any (s : ByteArray) (w : World) (hs : 4 ≤ s.size) : Calls Try.prog 114 #[.string s] w fun e w' => e = .returned (.int .u32 (w4 (byt s 0).toNat (byt s 1).toNat (byt s 2).toNat (byt s 3).toNat : Int)) ∧ Drew w w' := by
  have hs' : (4 : Int) ≤ (s.size : Int) := by omega
  have b0 := byt_at s 0
  have b1 := byt_at s 1
  have b2 := byt_at s 2
  have b3 := byt_at s 3
  obtain ⟨x0, h0, l0⟩ := byt_nat s 0
  obtain ⟨x1, h1, l1⟩ := byt_nat s 1
  obtain ⟨x2, h2, l2⟩ := byt_nat s 2
  obtain ⟨x3, h3, l3⟩ := byt_nat s 3
  rw [h0] at b0 ⊢
  rw [h1] at b1 ⊢
  rw [h2] at b2 ⊢
  rw [h3] at b3 ⊢
  have o1 : bits .or .u32 (x0 : Int) ((x1 : Int) * 256) = ((x0 + x1 * 256 : Nat) : Int) := by
    have := u32_or_nat x0 (x1 * 2 ^ 8) (by omega) (by omega)
    rw [or_add8 _ _ 8 (by omega)] at this
    rw [← this]; congr 1
  have o2 : bits .or .u32 ((x0 : Int) + (x1 : Int) * 256) ((x2 : Int) * 65536) = ((x0 + x1 * 256 + x2 * 65536 : Nat) : Int) := by
    have := u32_or_nat (x0 + x1 * 256) (x2 * 2 ^ 16) (by omega) (by omega)
    rw [or_add8 _ _ 16 (by omega)] at this
    rw [← this]; congr 1
  have o3 : bits .or .u32 ((x0 : Int) + (x1 : Int) * 256 + (x2 : Int) * 65536) ((x3 : Int) * 16777216) = ((x0 + x1 * 256 + x2 * 65536 + x3 * 16777216 : Nat) : Int) := by
    have := u32_or_nat (x0 + x1 * 256 + x2 * 65536) (x3 * 2 ^ 24) (by omega) (by omega)
    rw [or_add8 _ _ 24 (by omega)] at this
    rw [← this]; congr 1
  clear h0 h1 h2 h3
  go_enter Try.func114, Try.ntmps114
  go_wp2
  go_quiet (fail)
  go_wp2
  go_ret
  exact ⟨ret_int (by simp [w4]), Drew.draws _ _⟩
end Go.Proofs.Ytnjcganknpnjcaa
