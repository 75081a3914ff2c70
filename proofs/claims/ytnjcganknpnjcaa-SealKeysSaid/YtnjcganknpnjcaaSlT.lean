/- seal: the tag. -/
import Derived.Test.YtnjcganknpnjcaaSlA
import Derived.Test.YtnjcganknpnjcaaSlY
import Derived.Test.YtnjcganknpnjcaaCpF
import Derived.Test.YtnjcganknpnjcaaCqD
namespace Go.Proofs.Ytnjcganknpnjcaa
open Go.RowKit

set_option maxRecDepth 100000 in
set_option maxHeartbeats 4000000 in
theorem tag_any (kb : Nat → Nat) (head front : ByteArray) (w : World) (hh : head.size ≤ 100000) (hf : front.size ≤ 100000) :
    Calls Try.prog 73 #[.agg (arrA 32 (bytesV kb)), .string head, .string front] w fun e w' => e = .returned (.string (tagV kb head front)) ∧ Below w.heap.size w w' := by
  have hrs : (rowV [head, front]).size ≤ 900000 := by rw [rowV_size]; have := rowL_two head front; omega
  have hfin : tagV kb head front = txt 32 (keyedV (keyedV kb ⟨#[116, 97, 103]⟩) (rowV [head, front])) := rfl
  have hrow := fun (b : Nat) (W : World) (h : ∀ (j : Nat) s, [head, front][j]? = some s → W.cell? ⟨b, j, none⟩ = some (.string s)) (hb : b < W.heap.size) => nrow_any b [head, front] W h hb (by simp) (by intro s hs; simp at hs; rcases hs with rfl | rfl <;> omega)
  obtain ⟨r, hr⟩ : ∃ r, rowV [head, front] = r := ⟨_, rfl⟩
  have hown := fun W => own_any kb ⟨#[116, 97, 103]⟩ W (by decide)
  obtain ⟨k2, hk2⟩ : ∃ k2, keyedV kb ⟨#[116, 97, 103]⟩ = k2 := ⟨_, rfl⟩
  have hkey := fun (b : Nat) (W : World) (h : W.cell? ⟨b, 0, none⟩ = some (.string r)) => keyed_any k2 r b W h (by rw [← hr]; exact hrs)
  rw [hr, hk2] at hfin
  rw [hk2] at hown
  rw [hr] at hrow
  obtain ⟨d, hd⟩ : ∃ d, keyedV k2 r = d := ⟨_, rfl⟩
  rw [hd] at hfin hkey
  rw [hfin]
  clear hfin hd hr hk2 hrs
  go_enter Try.func73, Try.ntmps73
  have a0 : World.rowIs (w.alloc (Obj.cells (arrA 32 (bytesV kb)) 34)) w.heap.size 34 32 (bytesV kb) := row_of_heap (heap_new w _)
  have a2 : Below w.heap.size w (w.alloc (Obj.cells (arrA 32 (bytesV kb)) 34)) := (Below.refl _ w).alloc (Nat.le_refl _) _
  go_upto_region 1 with fail
  obtain ⟨W0, hW0⟩ : ∃ W0, w.alloc (Obj.cells (arrA 32 (bytesV kb)) 34) = W0 := ⟨_, rfl⟩
  rw [hW0] at a0 a2 ⊢
  clear hW0
  go_wp2_with (refine load_arr rfl 34 _ rfl 32 5 34 w.heap.size _ rfl a0 und34 siz34 ?_)
  refine (hown _).mono ?_
  rintro e w1 ⟨rfl, hb1⟩
  have c1 := a2.trans (hb1.mono a2.size)
  go_wp2_with fail
  have n1 := heap_new w1 (Obj.cells #[Value.string head, Value.string front] 9)
  have c2 := c1.alloc c1.size (Obj.cells #[Value.string head, Value.string front] 9)
  refine (hrow w1.heap.size _ (fun j s hj => by
    match j, hj with
    | 0, hj => simp at hj; subst hj; rw [cell_of_row _ _ 0 _ _ _ n1]; rfl
    | 1, hj => simp at hj; subst hj; rw [cell_of_row _ _ 1 _ _ _ n1]; rfl) (by simp)).mono ?_
  rintro e w2 ⟨rfl, hb2⟩
  have c3 := c2.trans (hb2.mono c2.size)
  go_wp2_with fail
  refine (hkey w2.heap.size _ (cell_new1 w2 _ _)).mono ?_
  rintro e w3 ⟨rfl, hb3⟩
  have c4 := (c3.alloc c3.size (Obj.cells #[Value.string r] 9)).trans (hb3.mono (c3.alloc c3.size _).size)
  have z : (w3.alloc (Obj.cells #[Value.int IntKind.u8 0, Value.int IntKind.u8 0, Value.int IntKind.u8 0, Value.int IntKind.u8 0, Value.int IntKind.u8 0, Value.int IntKind.u8 0, Value.int IntKind.u8 0, Value.int IntKind.u8 0, Value.int IntKind.u8 0, Value.int IntKind.u8 0, Value.int IntKind.u8 0, Value.int IntKind.u8 0, Value.int IntKind.u8 0, Value.int IntKind.u8 0, Value.int IntKind.u8 0, Value.int IntKind.u8 0, Value.int IntKind.u8 0, Value.int IntKind.u8 0, Value.int IntKind.u8 0, Value.int IntKind.u8 0, Value.int IntKind.u8 0, Value.int IntKind.u8 0, Value.int IntKind.u8 0, Value.int IntKind.u8 0, Value.int IntKind.u8 0, Value.int IntKind.u8 0, Value.int IntKind.u8 0, Value.int IntKind.u8 0, Value.int IntKind.u8 0, Value.int IntKind.u8 0, Value.int IntKind.u8 0, Value.int IntKind.u8 0] 57)).rowIs w3.heap.size 57 32 (fun _ => .int .u8 0) := row_of_heap (heap_new w3 _)
  have z2 := rowIs_setRow z (bytesV d)
  have c5 := below_setRow (c4.alloc c4.size (Obj.cells #[Value.int IntKind.u8 0, Value.int IntKind.u8 0, Value.int IntKind.u8 0, Value.int IntKind.u8 0, Value.int IntKind.u8 0, Value.int IntKind.u8 0, Value.int IntKind.u8 0, Value.int IntKind.u8 0, Value.int IntKind.u8 0, Value.int IntKind.u8 0, Value.int IntKind.u8 0, Value.int IntKind.u8 0, Value.int IntKind.u8 0, Value.int IntKind.u8 0, Value.int IntKind.u8 0, Value.int IntKind.u8 0, Value.int IntKind.u8 0, Value.int IntKind.u8 0, Value.int IntKind.u8 0, Value.int IntKind.u8 0, Value.int IntKind.u8 0, Value.int IntKind.u8 0, Value.int IntKind.u8 0, Value.int IntKind.u8 0, Value.int IntKind.u8 0, Value.int IntKind.u8 0, Value.int IntKind.u8 0, Value.int IntKind.u8 0, Value.int IntKind.u8 0, Value.int IntKind.u8 0, Value.int IntKind.u8 0, Value.int IntKind.u8 0] 57)) c4.size (arrA 32 (bytesV d))
  have hcv := conv_arr z2
  go_wp2_with (refine store_arr rfl 57 _ _ rfl 32 57 w3.heap.size _ (bytesV d) rfl rfl z siz57 (fun _ => rfl) ?_)
  go_ret
  exact ⟨rfl, c5⟩

set_option maxRecDepth 100000 in
set_option maxHeartbeats 4000000 in
theorem rtag_any (kb : Nat → Nat) (head front : ByteArray) (w : World) (hh : head.size ≤ 100000) (hf : front.size ≤ 100000) :
    Calls Try.prog 76 #[.agg (arrA 32 (bytesV kb)), .string head, .string front] w fun e w' => e = .returned (.string (tagV kb head front)) ∧ Below w.heap.size w w' := by
  have hrs : (rowV [head, front]).size ≤ 900000 := by rw [rowV_size]; have := rowL_two head front; omega
  have hfin : tagV kb head front = txt 32 (keyedV (keyedV kb ⟨#[116, 97, 103]⟩) (rowV [head, front])) := rfl
  have hrow := fun (b : Nat) (W : World) (h : ∀ (j : Nat) s, [head, front][j]? = some s → W.cell? ⟨b, j, none⟩ = some (.string s)) (hb : b < W.heap.size) => rrow_any b [head, front] W h hb (by simp) (by intro s hs; simp at hs; rcases hs with rfl | rfl <;> omega)
  obtain ⟨r, hr⟩ : ∃ r, rowV [head, front] = r := ⟨_, rfl⟩
  have hown := fun W => rof_any kb ⟨#[116, 97, 103]⟩ W (by decide)
  obtain ⟨k2, hk2⟩ : ∃ k2, keyedV kb ⟨#[116, 97, 103]⟩ = k2 := ⟨_, rfl⟩
  have hkey := fun (b : Nat) (W : World) (h : W.cell? ⟨b, 0, none⟩ = some (.string r)) => rkeyed_any k2 r b W h (by rw [← hr]; exact hrs)
  rw [hr, hk2] at hfin
  rw [hk2] at hown
  rw [hr] at hrow
  obtain ⟨d, hd⟩ : ∃ d, keyedV k2 r = d := ⟨_, rfl⟩
  rw [hd] at hfin hkey
  rw [hfin]
  clear hfin hd hr hk2 hrs
  go_enter Try.func76, Try.ntmps76
  have a0 : World.rowIs (w.alloc (Obj.cells (arrA 32 (bytesV kb)) 34)) w.heap.size 34 32 (bytesV kb) := row_of_heap (heap_new w _)
  have a2 : Below w.heap.size w (w.alloc (Obj.cells (arrA 32 (bytesV kb)) 34)) := (Below.refl _ w).alloc (Nat.le_refl _) _
  go_upto_region 1 with fail
  obtain ⟨W0, hW0⟩ : ∃ W0, w.alloc (Obj.cells (arrA 32 (bytesV kb)) 34) = W0 := ⟨_, rfl⟩
  rw [hW0] at a0 a2 ⊢
  clear hW0
  go_wp2_with (refine load_arr rfl 34 _ rfl 32 5 34 w.heap.size _ rfl a0 und34 siz34 ?_)
  refine (hown _).mono ?_
  rintro e w1 ⟨rfl, hb1⟩
  have c1 := a2.trans (hb1.mono a2.size)
  go_wp2_with fail
  have n1 := heap_new w1 (Obj.cells #[Value.string head, Value.string front] 9)
  have c2 := c1.alloc c1.size (Obj.cells #[Value.string head, Value.string front] 9)
  refine (hrow w1.heap.size _ (fun j s hj => by
    match j, hj with
    | 0, hj => simp at hj; subst hj; rw [cell_of_row _ _ 0 _ _ _ n1]; rfl
    | 1, hj => simp at hj; subst hj; rw [cell_of_row _ _ 1 _ _ _ n1]; rfl) (by simp)).mono ?_
  rintro e w2 ⟨rfl, hb2⟩
  have c3 := c2.trans (hb2.mono c2.size)
  go_wp2_with fail
  refine (hkey w2.heap.size _ (cell_new1 w2 _ _)).mono ?_
  rintro e w3 ⟨rfl, hb3⟩
  have c4 := (c3.alloc c3.size (Obj.cells #[Value.string r] 9)).trans (hb3.mono (c3.alloc c3.size _).size)
  have z : (w3.alloc (Obj.cells #[Value.int IntKind.u8 0, Value.int IntKind.u8 0, Value.int IntKind.u8 0, Value.int IntKind.u8 0, Value.int IntKind.u8 0, Value.int IntKind.u8 0, Value.int IntKind.u8 0, Value.int IntKind.u8 0, Value.int IntKind.u8 0, Value.int IntKind.u8 0, Value.int IntKind.u8 0, Value.int IntKind.u8 0, Value.int IntKind.u8 0, Value.int IntKind.u8 0, Value.int IntKind.u8 0, Value.int IntKind.u8 0, Value.int IntKind.u8 0, Value.int IntKind.u8 0, Value.int IntKind.u8 0, Value.int IntKind.u8 0, Value.int IntKind.u8 0, Value.int IntKind.u8 0, Value.int IntKind.u8 0, Value.int IntKind.u8 0, Value.int IntKind.u8 0, Value.int IntKind.u8 0, Value.int IntKind.u8 0, Value.int IntKind.u8 0, Value.int IntKind.u8 0, Value.int IntKind.u8 0, Value.int IntKind.u8 0, Value.int IntKind.u8 0] 57)).rowIs w3.heap.size 57 32 (fun _ => .int .u8 0) := row_of_heap (heap_new w3 _)
  have z2 := rowIs_setRow z (bytesV d)
  have c5 := below_setRow (c4.alloc c4.size (Obj.cells #[Value.int IntKind.u8 0, Value.int IntKind.u8 0, Value.int IntKind.u8 0, Value.int IntKind.u8 0, Value.int IntKind.u8 0, Value.int IntKind.u8 0, Value.int IntKind.u8 0, Value.int IntKind.u8 0, Value.int IntKind.u8 0, Value.int IntKind.u8 0, Value.int IntKind.u8 0, Value.int IntKind.u8 0, Value.int IntKind.u8 0, Value.int IntKind.u8 0, Value.int IntKind.u8 0, Value.int IntKind.u8 0, Value.int IntKind.u8 0, Value.int IntKind.u8 0, Value.int IntKind.u8 0, Value.int IntKind.u8 0, Value.int IntKind.u8 0, Value.int IntKind.u8 0, Value.int IntKind.u8 0, Value.int IntKind.u8 0, Value.int IntKind.u8 0, Value.int IntKind.u8 0, Value.int IntKind.u8 0, Value.int IntKind.u8 0, Value.int IntKind.u8 0, Value.int IntKind.u8 0, Value.int IntKind.u8 0, Value.int IntKind.u8 0] 57)) c4.size (arrA 32 (bytesV d))
  have hcv := conv_arr z2
  go_wp2_with (refine store_arr rfl 57 _ _ rfl 32 57 w3.heap.size _ (bytesV d) rfl rfl z siz57 (fun _ => rfl) ?_)
  go_ret
  exact ⟨rfl, c5⟩

end Go.Proofs.Ytnjcganknpnjcaa
