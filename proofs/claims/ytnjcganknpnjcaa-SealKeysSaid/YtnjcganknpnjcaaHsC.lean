/- hash: mix. -/
import Derived.Test.YtnjcganknpnjcaaHsB
namespace Go.Proofs.Ytnjcganknpnjcaa
open Go.RowKit

theorem grown_alloc {a w : World} {row : Option Nat} (h : a.grownBy w row) (o : Obj) : a.grownBy (w.alloc o) row :=
  ⟨h.os, h.tape, h.output, by have := h.size; rw [World.size_alloc]; omega, fun k hk hne => (Below.heap_alloc w o k (Nat.lt_of_lt_of_le hk h.size)).trans (h.block k hk hne)⟩
theorem cell_new1 (w : World) (v : Value) (t : TypeId) : (w.alloc (.cells #[v] t)).cell? ⟨w.heap.size, 0, none⟩ = some v := by
  rw [cell_of_row _ _ 0 _ _ _ (heap_new w _)]; rfl
theorem cell_newk {w : World} {k : Nat} (hk : w.heap.size = k) (v : Value) (t : TypeId) : (w.alloc (.cells #[v] t)).cell? ⟨k, 0, none⟩ = some v := by
  rw [← hk]; exact cell_new1 w v t

set_option maxRecDepth 100000 in
set_option maxHeartbeats 4000000 in
theorem mix_any (T V a b c d x y : Nat) (v : Nat → Nat) (w : World) (hr : w.rowIs V T 16 (wordsV v)) (hw : Words v) (hx : x < 4294967296) (hy : y < 4294967296)
    (ha : a < 16) (hb : b < 16) (hc : c < 16) (hd : d < 16) :
    Calls Try.prog 115 #[.pointer (some ⟨V, 0, none⟩), .int .i64 (a : Int), .int .i64 (b : Int), .int .i64 (c : Int), .int .i64 (d : Int), .int .u32 (x : Int), .int .u32 (y : Int)] w fun e w' =>
      e = .returned (.tuple #[]) ∧ w'.rowIs V T 16 (wordsV (mixV v a b c d x y)) ∧ w.grownBy w' (some V) := by
  have hlt := hr.lt
  go_enter Try.func115, Try.ntmps115
  go_wp2_with fail
  obtain ⟨W, hW⟩ : ∃ W, (((((w.alloc (.cells #[.pointer (some ⟨V, 0, none⟩)] 141)).alloc (.cells #[.int .i64 (a : Int)] 3)).alloc (.cells #[.int .i64 (b : Int)] 3)).alloc (.cells #[.int .i64 (c : Int)] 3)).alloc (.cells #[.int .i64 (d : Int)] 3)) = W := ⟨_, rfl⟩
  rw [hW]
  have hh : Held T V w.heap.size (w.heap.size + 1) (w.heap.size + 1 + 1) (w.heap.size + 1 + 1 + 1) (w.heap.size + 1 + 1 + 1 + 1) a b c d v W := by
    rw [← hW]
    refine ⟨((((hr.alloc _).alloc _).alloc _).alloc _).alloc _, hw, ?_, ?_, ?_, ?_, ?_, by omega⟩
    · exact cell_alloc (cell_alloc (cell_alloc (cell_alloc (cell_newk rfl _ _) _) _) _) _
    · exact cell_alloc (cell_alloc (cell_alloc (cell_newk (by simp) _ _) _) _) _
    · exact cell_alloc (cell_alloc (cell_newk (by simp) _ _) _) _
    · exact cell_alloc (cell_newk (by simp) _ _) _
    · exact cell_newk (by simp) _ _
  have g0 : w.grownBy W (some V) := by rw [← hW]; exact grown_alloc (grown_alloc (grown_alloc (grown_alloc (grown_alloc (World.grownBy.refl w _) _) _) _) _) _
  clear hW
  refine (half_any T V w.heap.size (w.heap.size + 1) (w.heap.size + 1 + 1) (w.heap.size + 1 + 1 + 1) (w.heap.size + 1 + 1 + 1 + 1) a b c d x 16 20 16 12 v W hh hx (by kernel_rfl) (by omega) (by omega) (by kernel_rfl) (by omega) (by omega) ha hb hc hd).mono ?_
  rintro e w1 ⟨rfl, h1, g1⟩
  go_wp2_with fail
  refine (half_any T V w.heap.size (w.heap.size + 1) (w.heap.size + 1 + 1) (w.heap.size + 1 + 1 + 1) (w.heap.size + 1 + 1 + 1 + 1) a b c d y 24 25 8 7 _ w1 h1 hy (by kernel_rfl) (by omega) (by omega) (by kernel_rfl) (by omega) (by omega) ha hb hc hd).mono ?_
  rintro e w2 ⟨rfl, h2, g2⟩
  go_wp2_with fail
  go_end0
  exact ⟨rfl, h2.row, (g0.trans g1).trans g2⟩
end Go.Proofs.Ytnjcganknpnjcaa
