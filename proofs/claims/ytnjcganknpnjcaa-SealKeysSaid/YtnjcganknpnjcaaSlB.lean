/- seal: the reference's Nonce. -/
import Derived.Test.YtnjcganknpnjcaaCpB
namespace Go.Proofs.Ytnjcganknpnjcaa
open Go.RowKit

/-- The first bytes of a text, then zeroes. -/
def nonV (s : ByteArray) : Nat → Nat := fun j => if j < s.size then (byt s j).toNat else 0
theorem nonV_bytes (s : ByteArray) : Bytes (nonV s) := by
  intro j
  unfold nonV
  split
  · exact byt_toNat_lt _ _
  · omega
def nonL (s : ByteArray) (i : Nat) : Nat → Nat := fun j => if j < i then (byt s j).toNat else 0
theorem nonL_step (s : ByteArray) (i : Nat) : upd (nonL s i) i (byt s i).toNat = nonL s (i + 1) := by
  funext j
  unfold upd nonL
  by_cases e : j = i
  · rw [if_pos e, if_pos (by omega), e]
  · rw [if_neg e]
    by_cases h2 : j < i
    · rw [if_pos h2, if_pos (by omega)]
    · rw [if_neg h2, if_neg (by omega)]

set_option maxRecDepth 100000 in
set_option maxHeartbeats 2000000 in
theorem rnonce_any (s : ByteArray) (w : World) (hs : s.size ≤ 1000000) :
    Calls Try.prog 43 #[.string s] w fun e w' => e = .returned (.agg (arrA 12 (bytesV (nonV s)))) ∧ Below w.heap.size w w' := by
  go_enter Try.func43, Try.ntmps43
  have a0 : World.rowIs ((w.alloc (Obj.cells #[Value.int IntKind.u8 0, Value.int IntKind.u8 0, Value.int IntKind.u8 0, Value.int IntKind.u8 0, Value.int IntKind.u8 0, Value.int IntKind.u8 0, Value.int IntKind.u8 0, Value.int IntKind.u8 0, Value.int IntKind.u8 0, Value.int IntKind.u8 0, Value.int IntKind.u8 0, Value.int IntKind.u8 0] 49)).alloc (Obj.cells #[Value.int IntKind.u8 0, Value.int IntKind.u8 0, Value.int IntKind.u8 0, Value.int IntKind.u8 0, Value.int IntKind.u8 0, Value.int IntKind.u8 0, Value.int IntKind.u8 0, Value.int IntKind.u8 0, Value.int IntKind.u8 0, Value.int IntKind.u8 0, Value.int IntKind.u8 0, Value.int IntKind.u8 0] 49)) w.heap.size 49 12 (fun _ => .int .u8 0) := (row_of_heap (heap_new w (Obj.cells #[Value.int IntKind.u8 0, Value.int IntKind.u8 0, Value.int IntKind.u8 0, Value.int IntKind.u8 0, Value.int IntKind.u8 0, Value.int IntKind.u8 0, Value.int IntKind.u8 0, Value.int IntKind.u8 0, Value.int IntKind.u8 0, Value.int IntKind.u8 0, Value.int IntKind.u8 0, Value.int IntKind.u8 0] 49)) : World.rowIs (w.alloc (Obj.cells #[Value.int IntKind.u8 0, Value.int IntKind.u8 0, Value.int IntKind.u8 0, Value.int IntKind.u8 0, Value.int IntKind.u8 0, Value.int IntKind.u8 0, Value.int IntKind.u8 0, Value.int IntKind.u8 0, Value.int IntKind.u8 0, Value.int IntKind.u8 0, Value.int IntKind.u8 0, Value.int IntKind.u8 0] 49)) w.heap.size 49 12 (fun _ => .int .u8 0)).alloc _
  have a1 : World.rowIs ((w.alloc (Obj.cells #[Value.int IntKind.u8 0, Value.int IntKind.u8 0, Value.int IntKind.u8 0, Value.int IntKind.u8 0, Value.int IntKind.u8 0, Value.int IntKind.u8 0, Value.int IntKind.u8 0, Value.int IntKind.u8 0, Value.int IntKind.u8 0, Value.int IntKind.u8 0, Value.int IntKind.u8 0, Value.int IntKind.u8 0] 49)).alloc (Obj.cells #[Value.int IntKind.u8 0, Value.int IntKind.u8 0, Value.int IntKind.u8 0, Value.int IntKind.u8 0, Value.int IntKind.u8 0, Value.int IntKind.u8 0, Value.int IntKind.u8 0, Value.int IntKind.u8 0, Value.int IntKind.u8 0, Value.int IntKind.u8 0, Value.int IntKind.u8 0, Value.int IntKind.u8 0] 49)) (w.heap.size + 1) 49 12 (fun _ => .int .u8 0) := by
    have := heap_new (w.alloc (Obj.cells #[Value.int IntKind.u8 0, Value.int IntKind.u8 0, Value.int IntKind.u8 0, Value.int IntKind.u8 0, Value.int IntKind.u8 0, Value.int IntKind.u8 0, Value.int IntKind.u8 0, Value.int IntKind.u8 0, Value.int IntKind.u8 0, Value.int IntKind.u8 0, Value.int IntKind.u8 0, Value.int IntKind.u8 0] 49)) (Obj.cells #[Value.int IntKind.u8 0, Value.int IntKind.u8 0, Value.int IntKind.u8 0, Value.int IntKind.u8 0, Value.int IntKind.u8 0, Value.int IntKind.u8 0, Value.int IntKind.u8 0, Value.int IntKind.u8 0, Value.int IntKind.u8 0, Value.int IntKind.u8 0, Value.int IntKind.u8 0, Value.int IntKind.u8 0] 49)
    rw [World.size_alloc] at this
    exact row_of_heap this
  have a2 : Below w.heap.size w ((w.alloc (Obj.cells #[Value.int IntKind.u8 0, Value.int IntKind.u8 0, Value.int IntKind.u8 0, Value.int IntKind.u8 0, Value.int IntKind.u8 0, Value.int IntKind.u8 0, Value.int IntKind.u8 0, Value.int IntKind.u8 0, Value.int IntKind.u8 0, Value.int IntKind.u8 0, Value.int IntKind.u8 0, Value.int IntKind.u8 0] 49)).alloc (Obj.cells #[Value.int IntKind.u8 0, Value.int IntKind.u8 0, Value.int IntKind.u8 0, Value.int IntKind.u8 0, Value.int IntKind.u8 0, Value.int IntKind.u8 0, Value.int IntKind.u8 0, Value.int IntKind.u8 0, Value.int IntKind.u8 0, Value.int IntKind.u8 0, Value.int IntKind.u8 0, Value.int IntKind.u8 0] 49)) := ((Below.refl _ w).alloc (Nat.le_refl _) _).alloc (by simp) _
  go_wp2_with (refine store_arr rfl 49 _ _ rfl 12 49 (w.heap.size + 1) _ (bytesV (nonL s 0)) rfl rfl a1 siz49 (fun _ => rfl) ?_)
  have b0 := rowIs_setOther a0 (show w.heap.size ≠ w.heap.size + 1 by omega) (arrA 12 (bytesV (nonL s 0)))
  have b1 := rowIs_setRow a1 (bytesV (nonL s 0))
  have b2 := below_setRow a2 (show w.heap.size ≤ w.heap.size + 1 by omega) (arrA 12 (bytesV (nonL s 0)))
  obtain ⟨W0, hW0⟩ : ∃ W0, ((w.alloc (Obj.cells #[Value.int IntKind.u8 0, Value.int IntKind.u8 0, Value.int IntKind.u8 0, Value.int IntKind.u8 0, Value.int IntKind.u8 0, Value.int IntKind.u8 0, Value.int IntKind.u8 0, Value.int IntKind.u8 0, Value.int IntKind.u8 0, Value.int IntKind.u8 0, Value.int IntKind.u8 0, Value.int IntKind.u8 0] 49)).alloc (Obj.cells #[Value.int IntKind.u8 0, Value.int IntKind.u8 0, Value.int IntKind.u8 0, Value.int IntKind.u8 0, Value.int IntKind.u8 0, Value.int IntKind.u8 0, Value.int IntKind.u8 0, Value.int IntKind.u8 0, Value.int IntKind.u8 0, Value.int IntKind.u8 0, Value.int IntKind.u8 0, Value.int IntKind.u8 0] 49)).setRow (w.heap.size + 1) (arrA 12 (bytesV (nonL s 0))) = W0 := ⟨_, rfl⟩
  rw [hW0] at b0 b1 b2 ⊢
  clear hW0 a0 a1 a2
  try simp only [Act.put, List.setIfInBounds_toArray, List.set_cons_succ, List.set_cons_zero]
  go_wp2_with fail
  go_loopw [4] (fun a wx => ∃ i : Nat, i ≤ 12 ∧ i ≤ s.size ∧ a = .int .i64 (i : Int) ∧ wx.rowIs w.heap.size 49 12 (fun _ => .int .u8 0) ∧ wx.rowIs (w.heap.size + 1) 49 12 (bytesV (nonL s i)) ∧ Below w.heap.size w wx) (fun a _ => 12 - (intOf a).toNat)
  case atStart => exact ⟨0, by omega, by omega, rfl, b0, b1, b2⟩
  case round =>
    clear b0 b1 b2
    obtain ⟨i, hi, his, rfl, b0, b1, b2⟩ := hrel
    by_cases hlt : i < 12
    · have c0 : decide ((i : Int) < 12) = true := decide_eq_true (by omega)
      have c1 : (i : Int) < 12 := by omega
      by_cases hls : i < s.size
      · have c2 : decide ((i : Int) < (s.size : Int)) = true := decide_eq_true (by omega)
        have c3 : (i : Int) < (s.size : Int) := by omega
        have hby := byt_at s i
        obtain ⟨x, hx, lx⟩ := byt_nat s i
        have hxn : (byt s i).toNat = x := by rw [hx]; simp
        rw [hx] at hby
        have Hx := Lib.hid hxn
        clear hx hxn
        have d1 : wr.cell? ⟨w.heap.size + 1, i, none⟩ = some (.int .u8 (nonL s i i : Int)) := b1.cell hlt
        have d2 := b1.frozen i
        go_wp2
        go_roundw
        case rel =>
          refine ⟨i + 1, by omega, by omega, by go_num, b0.setOther (by dsimp only; omega) _, ?_, b2.setCell (by dsimp only; omega) _⟩
          rw [← nonL_step, Hx.out]
          exact (b1.set i _).congr (fun j _ => upd_bytesV _ _ _ _)
        case measure => simp [intOf]; omega
      · have c2 : decide ((i : Int) < (s.size : Int)) = false := decide_eq_false (by omega)
        have hres : arrA 12 (bytesV (nonL s i)) = arrA 12 (bytesV (nonV s)) := arrA_congr (fun j hj => by rw [bytesV, bytesV, nonL, nonV, show i = s.size by omega])
        have Hres := Lib.hid hres
        clear hres
        go_wp2_with (first | (refine load_arr rfl 49 _ rfl 12 5 49 (w.heap.size + 1) _ rfl b1 und49 siz49 ?_) | (refine store_arr rfl 49 _ _ rfl 12 49 w.heap.size _ _ rfl rfl b0 siz49 (fun _ => rfl) ?_))
        refine bodyPost_ret (result_arr rfl _ _ 12 5 49 w.heap.size _ rfl (rowIs_setRow b0 _) und49 siz49) rfl ?_
        exact ⟨by rw [Hres.out], below_setRow b2 (by omega) _⟩
    · have c0 : decide ((i : Int) < 12) = false := decide_eq_false (by omega)
      obtain rfl : i = 12 := by omega
      have hres : arrA 12 (bytesV (nonL s 12)) = arrA 12 (bytesV (nonV s)) := arrA_congr (fun j hj => by rw [bytesV, bytesV, nonL, nonV, if_pos hj, if_pos (by omega)])
      have Hres := Lib.hid hres
      clear hres
      go_wp2_with (first | (refine load_arr rfl 49 _ rfl 12 5 49 (w.heap.size + 1) _ rfl b1 und49 siz49 ?_) | (refine store_arr rfl 49 _ _ rfl 12 49 w.heap.size _ _ rfl rfl b0 siz49 (fun _ => rfl) ?_))
      refine bodyPost_ret (result_arr rfl _ _ 12 5 49 w.heap.size _ rfl (rowIs_setRow b0 _) und49 siz49) rfl ?_
      exact ⟨by rw [Hres.out], below_setRow b2 (by omega) _⟩
end Go.Proofs.Ytnjcganknpnjcaa
