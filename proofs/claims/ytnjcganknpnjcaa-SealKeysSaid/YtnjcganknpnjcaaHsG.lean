/- hash: the reference's small functions. -/
import Derived.Test.YtnjcganknpnjcaaHsE
namespace Go.Proofs.Ytnjcganknpnjcaa
open Go.RowKit

set_option maxRecDepth 100000 in
set_option maxHeartbeats 1000000 in
theorem reight_any (w : World) : Calls Try.prog 103 #[] w fun e w' => e = .returned (.agg (arrA 8 (wordsV iv))) ∧ Below w.heap.size w w' := by
  go_enter Try.func103, Try.ntmps103
  go_upto_region 1 with fail
  have hz : (w.alloc (Obj.cells #[Value.int IntKind.u32 0, Value.int IntKind.u32 0, Value.int IntKind.u32 0, Value.int IntKind.u32 0, Value.int IntKind.u32 0, Value.int IntKind.u32 0, Value.int IntKind.u32 0, Value.int IntKind.u32 0] 97)).rowIs w.heap.size 97 8 (fun _ => .int .u32 0) := row_of_heap (heap_new w _)
  go_wp2_with (refine store_arr rfl 97 _ _ rfl 8 97 w.heap.size _ (wordsV iv) rfl rfl hz siz97 (fun _ => rfl) ?_)
  refine bodyPost_ret (result_arr rfl _ _ 8 38 97 w.heap.size _ rfl (rowIs_setRow hz _) und97 siz97) rfl ?_
  exact ⟨rfl, below_setRow ((Below.refl _ w).alloc (Nat.le_refl _) _) (Nat.le_refl _) _⟩

/-- A sign as a byte. -/
def sgn (x : Nat) : Nat := if x < 10 then 48 + x else 87 + x
theorem sgn_lt (x : Nat) (h : x < 16) : sgn x < 103 := by unfold sgn; split <;> omega
set_option maxRecDepth 100000 in
set_option maxHeartbeats 1000000 in
theorem place_any (x : Nat) (w : World) (h : x < 16) : Calls Try.prog 128 #[.int .u8 (sgn x : Int)] w fun e w' => e = .returned (.int .i64 (x : Int)) ∧ w' = w := by
  by_cases h1 : x < 10
  · obtain ⟨y, hy⟩ : ∃ y, sgn x = y := ⟨_, rfl⟩
    rw [hy]
    rw [sgn, if_pos h1] at hy
    have c0 : decide ((97 : Int) ≤ (y : Int)) = false := decide_eq_false (by omega)
    have e1 : (y : Int) - 48 = (x : Int) := by omega
    clear hy
    go_enter Try.func128, Try.ntmps128
    go_wp2
    go_ret
    exact ⟨ret_int (by omega), rfl⟩
  · obtain ⟨y, hy⟩ : ∃ y, sgn x = y := ⟨_, rfl⟩
    rw [hy]
    rw [sgn, if_neg h1] at hy
    have c0 : decide ((97 : Int) ≤ (y : Int)) = true := decide_eq_true (by omega)
    go_enter Try.func128, Try.ntmps128
    go_wp2
    go_ret
    exact ⟨ret_int (by omega), rfl⟩

/-- The round's row as a text. -/
def rowB (r : Nat) : ByteArray := ⟨((List.range 16).map fun j => UInt8.ofNat (sgn (sig r j))).toArray⟩
theorem rowB_size (r : Nat) : (rowB r).size = 16 := by
  show (((List.range 16).map fun j => UInt8.ofNat (sgn (sig r j))).toArray).size = 16
  simp
theorem byt_list (l : List UInt8) (j : Nat) (h : j < l.length) : byt ⟨l.toArray⟩ j = ((l[j]).toNat : Int) := by
  unfold byt
  rw [dif_pos (show j < (⟨l.toArray⟩ : ByteArray).size from by show j < l.toArray.size; simpa using h)]
  rfl
theorem rowB_at (r j : Nat) (h : j < 16) : byt (rowB r) j = (sgn (sig r j) : Int) := by
  have := sgn_lt _ (sig_lt r j)
  rw [rowB, byt_list _ _ (by simpa using h)]
  simp
  omega
theorem rows_lit : #[Value.string { data := #[48, 49, 50, 51, 52, 53, 54, 55, 56, 57, 97, 98, 99, 100, 101, 102] },
                Value.string { data := #[101, 97, 52, 56, 57, 102, 100, 54, 49, 99, 48, 50, 98, 55, 53, 51] },
                Value.string { data := #[98, 56, 99, 48, 53, 50, 102, 100, 97, 101, 51, 54, 55, 49, 57, 52] },
                Value.string { data := #[55, 57, 51, 49, 100, 99, 98, 101, 50, 54, 53, 97, 52, 48, 102, 56] },
                Value.string { data := #[57, 48, 53, 55, 50, 52, 97, 102, 101, 49, 98, 99, 54, 56, 51, 100] },
                Value.string { data := #[50, 99, 54, 97, 48, 98, 56, 51, 52, 100, 55, 53, 102, 101, 49, 57] },
                Value.string { data := #[99, 53, 49, 102, 101, 100, 52, 97, 48, 55, 54, 51, 57, 50, 56, 98] },
                Value.string { data := #[100, 98, 55, 101, 99, 49, 51, 57, 53, 48, 102, 52, 56, 54, 50, 97] },
                Value.string { data := #[54, 102, 101, 57, 98, 51, 48, 56, 99, 50, 100, 55, 49, 52, 97, 53] },
                Value.string { data := #[97, 50, 56, 52, 55, 54, 49, 53, 102, 98, 57, 101, 51, 99, 100, 48] }] = arrA 10 (fun r => Value.string (rowB r)) := by kernel_rfl
set_option maxRecDepth 100000 in
set_option maxHeartbeats 1000000 in
theorem rrows_any (w : World) : Calls Try.prog 127 #[] w fun e w' => e = .returned (.slice (some ⟨w.heap.size, 0, none⟩) 10 10) ∧ w'.rowIs w.heap.size 9 10 (fun r => .string (rowB r)) ∧ Below w.heap.size w w' := by
  go_enter Try.func127, Try.ntmps127
  go_wp2
  go_ret
  refine ⟨rfl, ?_, (Below.refl _ w).alloc (Nat.le_refl _) _⟩
  rw [rows_lit]
  exact row_of_heap (heap_new w _)
end Go.Proofs.Ytnjcganknpnjcaa
