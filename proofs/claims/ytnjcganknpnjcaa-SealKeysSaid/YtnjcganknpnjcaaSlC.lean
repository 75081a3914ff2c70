/- seal: Nonce. -/
import Derived.Test.YtnjcganknpnjcaaSlB
import Derived.Lib.BufferWrite
namespace Go.Proofs.Ytnjcganknpnjcaa
open Go.RowKit

def strF (s : ByteArray) : Nat → Value := fun i => .int .u8 (byt s i)
theorem byteCells_take (s : ByteArray) (k : Nat) (h : k ≤ s.size) : List.take k (List.map (fun b : UInt8 => Value.int IntKind.u8 (b.toNat : Int)) s.data.toList) = (List.range k).map (strF s) := by
  have e : s.data.toList.length = s.size := by simp
  refine List.ext_getElem? fun j => ?_
  by_cases hj : j < k
  · have hjs : j < s.size := by omega
    simp [List.getElem?_take, hj, strF, byt, hjs]
    rfl
  · rw [List.getElem?_eq_none (by simp; omega), List.getElem?_eq_none (by simp; omega)]
/-- 'copy(a[:], s)', s A STRING OF WHATEVER LENGTH. -/
theorem run_copy_str {w : World} {dT sT ty elem g t n : Nat} {s : ByteArray} {cur : Nat → Value} (h : w.rowIs g t n cur) (hu : Try.prog.underlying dT = some (.slice elem)) (hs : (Try.prog.info? elem).map (·.size) = some 1) :
    (Builtin.copy_ #[dT, sT] ty #[.slice (some ⟨g, 0, none⟩) n n, .string s]).run Try.prog w = .ok (goInt (min s.size n : Nat)) (w.setRow g (arrA n (copyF 0 (min s.size n) (strF s) cur))) := by
  have hl : ((List.range (min s.size n)).map (strF s)).length = min s.size n := by simp
  have hst := run_storeCells_at Try.prog g 0 t ((List.range (min s.size n)).map (strF s)) 0 (arrA n cur) w (heap_of_row h) (by rw [hl, arrA_size]; omega) (fun v hv => by
    obtain ⟨i, _, rfl⟩ := List.mem_map.1 hv
    rfl)
  rw [hl] at hst
  simp only [Nat.add_zero, Nat.zero_add] at hst
  have hc := copy_list n 0 (min s.size n) (strF s) cur (by omega)
  rw [hl] at hc
  simp only [Nat.zero_add] at hc
  rw [List.append_assoc, hc] at hst
  cases hq : Try.prog.info? elem with
  | none => simp [hq] at hs
  | some i =>
    have htk := byteCells_take s (min s.size n) (by omega)
    simp [Builtin.copy_, run_underlying hu, Builtin.lenOf, Builtin.firstCells, sizeOf, typeInfo, hq]
    rw [show s.size.min n = min s.size n from rfl, htk, hst]
    simp [Result.andThen]

theorem und46b : Try.prog.underlying 46 = some (.slice 5) := by kernel_rfl
theorem siz5 : (Try.prog.info? 5).map (·.size) = some 1 := by kernel_rfl
theorem nonV_copy (s : ByteArray) (j : Nat) (hj : j < 12) : copyF 0 (min s.size 12) (strF s) (fun _ => .int .u8 0) j = bytesV (nonV s) j := by
  unfold copyF strF bytesV nonV
  have hb := byt_range s j
  by_cases h : j < s.size
  · rw [if_pos (by omega), if_pos h, Nat.sub_zero]
    have : ((byt s j).toNat : Int) = byt s j := by omega
    rw [this]
  · rw [if_neg (by omega), if_neg h]
    rfl
set_option maxRecDepth 100000 in
set_option maxHeartbeats 2000000 in
theorem nonce_any (s : ByteArray) (w : World) : Calls Try.prog 42 #[.string s] w fun e w' => e = .returned (.agg (arrA 12 (bytesV (nonV s)))) ∧ Below w.heap.size w w' := by
  go_enter Try.func42, Try.ntmps42
  have a0 : World.rowIs ((w.alloc (Obj.cells #[Value.int IntKind.u8 0, Value.int IntKind.u8 0, Value.int IntKind.u8 0, Value.int IntKind.u8 0, Value.int IntKind.u8 0, Value.int IntKind.u8 0, Value.int IntKind.u8 0, Value.int IntKind.u8 0, Value.int IntKind.u8 0, Value.int IntKind.u8 0, Value.int IntKind.u8 0, Value.int IntKind.u8 0] 49)).alloc (Obj.cells #[Value.int IntKind.u8 0, Value.int IntKind.u8 0, Value.int IntKind.u8 0, Value.int IntKind.u8 0, Value.int IntKind.u8 0, Value.int IntKind.u8 0, Value.int IntKind.u8 0, Value.int IntKind.u8 0, Value.int IntKind.u8 0, Value.int IntKind.u8 0, Value.int IntKind.u8 0, Value.int IntKind.u8 0] 49)) w.heap.size 49 12 (fun _ => .int .u8 0) := (row_of_heap (heap_new w (Obj.cells #[Value.int IntKind.u8 0, Value.int IntKind.u8 0, Value.int IntKind.u8 0, Value.int IntKind.u8 0, Value.int IntKind.u8 0, Value.int IntKind.u8 0, Value.int IntKind.u8 0, Value.int IntKind.u8 0, Value.int IntKind.u8 0, Value.int IntKind.u8 0, Value.int IntKind.u8 0, Value.int IntKind.u8 0] 49)) : World.rowIs (w.alloc (Obj.cells #[Value.int IntKind.u8 0, Value.int IntKind.u8 0, Value.int IntKind.u8 0, Value.int IntKind.u8 0, Value.int IntKind.u8 0, Value.int IntKind.u8 0, Value.int IntKind.u8 0, Value.int IntKind.u8 0, Value.int IntKind.u8 0, Value.int IntKind.u8 0, Value.int IntKind.u8 0, Value.int IntKind.u8 0] 49)) w.heap.size 49 12 (fun _ => .int .u8 0)).alloc _
  have a1 : World.rowIs ((w.alloc (Obj.cells #[Value.int IntKind.u8 0, Value.int IntKind.u8 0, Value.int IntKind.u8 0, Value.int IntKind.u8 0, Value.int IntKind.u8 0, Value.int IntKind.u8 0, Value.int IntKind.u8 0, Value.int IntKind.u8 0, Value.int IntKind.u8 0, Value.int IntKind.u8 0, Value.int IntKind.u8 0, Value.int IntKind.u8 0] 49)).alloc (Obj.cells #[Value.int IntKind.u8 0, Value.int IntKind.u8 0, Value.int IntKind.u8 0, Value.int IntKind.u8 0, Value.int IntKind.u8 0, Value.int IntKind.u8 0, Value.int IntKind.u8 0, Value.int IntKind.u8 0, Value.int IntKind.u8 0, Value.int IntKind.u8 0, Value.int IntKind.u8 0, Value.int IntKind.u8 0] 49)) (w.heap.size + 1) 49 12 (fun _ => .int .u8 0) := by
    have := heap_new (w.alloc (Obj.cells #[Value.int IntKind.u8 0, Value.int IntKind.u8 0, Value.int IntKind.u8 0, Value.int IntKind.u8 0, Value.int IntKind.u8 0, Value.int IntKind.u8 0, Value.int IntKind.u8 0, Value.int IntKind.u8 0, Value.int IntKind.u8 0, Value.int IntKind.u8 0, Value.int IntKind.u8 0, Value.int IntKind.u8 0] 49)) (Obj.cells #[Value.int IntKind.u8 0, Value.int IntKind.u8 0, Value.int IntKind.u8 0, Value.int IntKind.u8 0, Value.int IntKind.u8 0, Value.int IntKind.u8 0, Value.int IntKind.u8 0, Value.int IntKind.u8 0, Value.int IntKind.u8 0, Value.int IntKind.u8 0, Value.int IntKind.u8 0, Value.int IntKind.u8 0] 49)
    rw [World.size_alloc] at this
    exact row_of_heap this
  have a2 : Below w.heap.size w ((w.alloc (Obj.cells #[Value.int IntKind.u8 0, Value.int IntKind.u8 0, Value.int IntKind.u8 0, Value.int IntKind.u8 0, Value.int IntKind.u8 0, Value.int IntKind.u8 0, Value.int IntKind.u8 0, Value.int IntKind.u8 0, Value.int IntKind.u8 0, Value.int IntKind.u8 0, Value.int IntKind.u8 0, Value.int IntKind.u8 0] 49)).alloc (Obj.cells #[Value.int IntKind.u8 0, Value.int IntKind.u8 0, Value.int IntKind.u8 0, Value.int IntKind.u8 0, Value.int IntKind.u8 0, Value.int IntKind.u8 0, Value.int IntKind.u8 0, Value.int IntKind.u8 0, Value.int IntKind.u8 0, Value.int IntKind.u8 0, Value.int IntKind.u8 0, Value.int IntKind.u8 0] 49)) := ((Below.refl _ w).alloc (Nat.le_refl _) _).alloc (by simp) _
  go_upto_region 2 with fail
  obtain ⟨W0, hW0⟩ : ∃ W0, (w.alloc (Obj.cells #[Value.int IntKind.u8 0, Value.int IntKind.u8 0, Value.int IntKind.u8 0, Value.int IntKind.u8 0, Value.int IntKind.u8 0, Value.int IntKind.u8 0, Value.int IntKind.u8 0, Value.int IntKind.u8 0, Value.int IntKind.u8 0, Value.int IntKind.u8 0, Value.int IntKind.u8 0, Value.int IntKind.u8 0] 49)).alloc (Obj.cells #[Value.int IntKind.u8 0, Value.int IntKind.u8 0, Value.int IntKind.u8 0, Value.int IntKind.u8 0, Value.int IntKind.u8 0, Value.int IntKind.u8 0, Value.int IntKind.u8 0, Value.int IntKind.u8 0, Value.int IntKind.u8 0, Value.int IntKind.u8 0, Value.int IntKind.u8 0, Value.int IntKind.u8 0] 49) = W0 := ⟨_, rfl⟩
  rw [hW0] at a0 a1 a2 ⊢
  clear hW0
  have hcp := fun ty => run_copy_str (dT := 46) (sT := 9) (ty := ty) (s := s) a1 und46b siz5
  have b1 := (rowIs_setRow a1 (copyF 0 (min s.size 12) (strF s) (fun _ => .int .u8 0))).congr (fun j hj => nonV_copy s j hj)
  have b0 := rowIs_setOther a0 (show w.heap.size ≠ w.heap.size + 1 by omega) (arrA 12 (copyF 0 (min s.size 12) (strF s) (fun _ => .int .u8 0)))
  have b2 := below_setRow a2 (show w.heap.size ≤ w.heap.size + 1 by omega) (arrA 12 (copyF 0 (min s.size 12) (strF s) (fun _ => .int .u8 0)))
  obtain ⟨A, hA⟩ : ∃ A, arrA 12 (copyF 0 (min s.size 12) (strF s) (fun _ => .int .u8 0)) = A := ⟨_, rfl⟩
  rw [hA] at hcp b1 b0 b2
  clear hA
  go_wp2_with (first | (refine load_arr rfl 49 _ rfl 12 5 49 (w.heap.size + 1) _ rfl b1 und49 siz49 ?_) | (refine store_arr rfl 49 _ _ rfl 12 49 w.heap.size _ _ rfl rfl b0 siz49 (fun _ => rfl) ?_))
  refine bodyPost_ret (result_arr rfl _ _ 12 5 49 w.heap.size _ rfl (rowIs_setRow b0 _) und49 siz49) rfl ?_
  exact ⟨rfl, below_setRow b2 (by omega) _⟩
end Go.Proofs.Ytnjcganknpnjcaa
