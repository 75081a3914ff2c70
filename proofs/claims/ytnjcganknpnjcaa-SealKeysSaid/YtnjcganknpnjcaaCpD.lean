/- cipher: a block of the stream. -/
import Derived.Test.YtnjcganknpnjcaaCpC
namespace Go.Proofs.Ytnjcganknpnjcaa
open Go.RowKit

theorem cst_words {v : Nat → Nat} (h : Words v) (a b c d : Nat) : Words (cst v a b c d 2) :=
  halfV_words (halfV_words h _ _ _ _ _ _ _ (by omega) (by omega) (by omega) (by omega)) _ _ _ _ _ _ _ (by omega) (by omega) (by omega) (by omega)
def cstp (k : Nat) (v : Nat → Nat) : Nat → Nat :=
  if k < 4 then cst v k (4 + k) (8 + k) (12 + k) 2 else cst v (k - 4) (4 + (k - 4 + 1) % 4) (8 + (k - 4 + 2) % 4) (12 + (k - 4 + 3) % 4) 2
def csts : Nat → (Nat → Nat) → (Nat → Nat)
  | 0, v => v
  | k + 1, v => cstp k (csts k v)
def crnds : Nat → (Nat → Nat) → (Nat → Nat)
  | 0, v => v
  | r + 1, v => csts 8 (crnds r v)
theorem cstp_words {v : Nat → Nat} (h : Words v) (k : Nat) : Words (cstp k v) := by
  unfold cstp
  split <;> exact cst_words h _ _ _ _
theorem csts_words {v : Nat → Nat} (h : Words v) : ∀ k, Words (csts k v)
  | 0 => h
  | k + 1 => cstp_words (csts_words h k) k
theorem crnds_words {v : Nat → Nat} (h : Words v) : ∀ r, Words (crnds r v)
  | 0 => h
  | r + 1 => csts_words (crnds_words h r) 8
theorem begC_words {kb nb : Nat → Nat} {n : Nat} (hk : Bytes kb) (hn : Bytes nb) (h : n < 4294967296) : Words (begC kb nb n) := by
  intro j
  show bgN kb nb n 3 j < _
  unfold bgN
  by_cases h1 : j < 12
  · rw [if_pos h1]
    unfold bgK
    by_cases h2 : j < 4
    · rw [if_pos h2]; exact getD_lt (by decide) (by omega) _
    · rw [if_neg h2, if_pos (by omega)]; exact cwA_lt hk _
  · rw [if_neg h1]
    by_cases h3 : j = 12
    · rw [if_pos h3]; exact h
    · rw [if_neg h3]
      by_cases h4 : j < 13 + 3
      · rw [if_pos h4]; exact cwA_lt hn _
      · rw [if_neg h4]; omega
/-- The words of a block, and its bytes. -/
def blkW (kb nb : Nat → Nat) (n : Nat) : Nat → Nat := fun i => (crnds 10 (begC kb nb n) i + begC kb nb n i) % 4294967296
def blkB (kb nb : Nat → Nat) (n : Nat) : Nat → Nat := dgB (blkW kb nb n)

structure BK (B F V : Nat) (f v : Nat → Nat) (w wx : World) : Prop where
  rb : wx.rowIs (B + 1 + 1) 119 64 (fun _ => .int .u8 0)
  fb : wx.rowIs F 129 16 (wordsV f)
  vb : wx.rowIs V 129 16 (wordsV v)
  hF : B + 1 + 1 < F
  hV : F < V
  below : Below B w wx
theorem BK.step {B F V : Nat} {f v v' : Nat → Nat} {w wx wy : World} (t : BK B F V f v w wx) (h : wy.rowIs V 129 16 (wordsV v')) (g : wx.grownBy wy (some V)) : BK B F V f v' w wy := by
  have h1 := t.hF
  have h2 := t.hV
  exact ⟨t.rb.of_block (g.block _ t.rb.lt (by simp; omega)), t.fb.of_block (g.block _ t.fb.lt (by simp; omega)), h, t.hF, t.hV, t.below.grown g (by have := t.vb.lt; omega) (fun k hk => by cases hk; omega)⟩

set_option maxRecDepth 100000 in
set_option maxHeartbeats 4000000 in
theorem block_any (kb nb : Nat → Nat) (n : Nat) (w : World) (hk : Bytes kb) (hn : Bytes nb) (hn32 : n < 4294967296) :
    Calls Try.prog 95 #[.agg (arrA 32 (bytesV kb)), .agg (arrA 12 (bytesV nb)), .int .u32 (n : Int)] w fun e w' => e = .returned (.agg (arrA 64 (bytesV (blkB kb nb n)))) ∧ Below w.heap.size w w' := by
  go_enter Try.func95, Try.ntmps95
  have a0 : World.rowIs (((w.alloc (Obj.cells (arrA 32 (bytesV kb)) 34)).alloc (Obj.cells (arrA 12 (bytesV nb)) 49)).alloc (Obj.cells #[Value.int IntKind.u8 0, Value.int IntKind.u8 0, Value.int IntKind.u8 0, Value.int IntKind.u8 0, Value.int IntKind.u8 0, Value.int IntKind.u8 0, Value.int IntKind.u8 0, Value.int IntKind.u8 0, Value.int IntKind.u8 0, Value.int IntKind.u8 0, Value.int IntKind.u8 0, Value.int IntKind.u8 0, Value.int IntKind.u8 0, Value.int IntKind.u8 0, Value.int IntKind.u8 0, Value.int IntKind.u8 0, Value.int IntKind.u8 0, Value.int IntKind.u8 0, Value.int IntKind.u8 0, Value.int IntKind.u8 0, Value.int IntKind.u8 0, Value.int IntKind.u8 0, Value.int IntKind.u8 0, Value.int IntKind.u8 0, Value.int IntKind.u8 0, Value.int IntKind.u8 0, Value.int IntKind.u8 0, Value.int IntKind.u8 0, Value.int IntKind.u8 0, Value.int IntKind.u8 0, Value.int IntKind.u8 0, Value.int IntKind.u8 0, Value.int IntKind.u8 0, Value.int IntKind.u8 0, Value.int IntKind.u8 0, Value.int IntKind.u8 0, Value.int IntKind.u8 0, Value.int IntKind.u8 0, Value.int IntKind.u8 0, Value.int IntKind.u8 0, Value.int IntKind.u8 0, Value.int IntKind.u8 0, Value.int IntKind.u8 0, Value.int IntKind.u8 0, Value.int IntKind.u8 0, Value.int IntKind.u8 0, Value.int IntKind.u8 0, Value.int IntKind.u8 0, Value.int IntKind.u8 0, Value.int IntKind.u8 0, Value.int IntKind.u8 0, Value.int IntKind.u8 0, Value.int IntKind.u8 0, Value.int IntKind.u8 0, Value.int IntKind.u8 0, Value.int IntKind.u8 0, Value.int IntKind.u8 0, Value.int IntKind.u8 0, Value.int IntKind.u8 0, Value.int IntKind.u8 0, Value.int IntKind.u8 0, Value.int IntKind.u8 0, Value.int IntKind.u8 0, Value.int IntKind.u8 0] 119)) w.heap.size 34 32 (bytesV kb) := ((row_of_heap (heap_new w _)).alloc _).alloc _
  have a1 : World.rowIs (((w.alloc (Obj.cells (arrA 32 (bytesV kb)) 34)).alloc (Obj.cells (arrA 12 (bytesV nb)) 49)).alloc (Obj.cells #[Value.int IntKind.u8 0, Value.int IntKind.u8 0, Value.int IntKind.u8 0, Value.int IntKind.u8 0, Value.int IntKind.u8 0, Value.int IntKind.u8 0, Value.int IntKind.u8 0, Value.int IntKind.u8 0, Value.int IntKind.u8 0, Value.int IntKind.u8 0, Value.int IntKind.u8 0, Value.int IntKind.u8 0, Value.int IntKind.u8 0, Value.int IntKind.u8 0, Value.int IntKind.u8 0, Value.int IntKind.u8 0, Value.int IntKind.u8 0, Value.int IntKind.u8 0, Value.int IntKind.u8 0, Value.int IntKind.u8 0, Value.int IntKind.u8 0, Value.int IntKind.u8 0, Value.int IntKind.u8 0, Value.int IntKind.u8 0, Value.int IntKind.u8 0, Value.int IntKind.u8 0, Value.int IntKind.u8 0, Value.int IntKind.u8 0, Value.int IntKind.u8 0, Value.int IntKind.u8 0, Value.int IntKind.u8 0, Value.int IntKind.u8 0, Value.int IntKind.u8 0, Value.int IntKind.u8 0, Value.int IntKind.u8 0, Value.int IntKind.u8 0, Value.int IntKind.u8 0, Value.int IntKind.u8 0, Value.int IntKind.u8 0, Value.int IntKind.u8 0, Value.int IntKind.u8 0, Value.int IntKind.u8 0, Value.int IntKind.u8 0, Value.int IntKind.u8 0, Value.int IntKind.u8 0, Value.int IntKind.u8 0, Value.int IntKind.u8 0, Value.int IntKind.u8 0, Value.int IntKind.u8 0, Value.int IntKind.u8 0, Value.int IntKind.u8 0, Value.int IntKind.u8 0, Value.int IntKind.u8 0, Value.int IntKind.u8 0, Value.int IntKind.u8 0, Value.int IntKind.u8 0, Value.int IntKind.u8 0, Value.int IntKind.u8 0, Value.int IntKind.u8 0, Value.int IntKind.u8 0, Value.int IntKind.u8 0, Value.int IntKind.u8 0, Value.int IntKind.u8 0, Value.int IntKind.u8 0] 119)) (w.heap.size + 1) 49 12 (bytesV nb) := by
    have := heap_new (w.alloc (Obj.cells (arrA 32 (bytesV kb)) 34)) (Obj.cells (arrA 12 (bytesV nb)) 49)
    rw [World.size_alloc] at this
    exact (row_of_heap this).alloc _
  have a2 : World.rowIs (((w.alloc (Obj.cells (arrA 32 (bytesV kb)) 34)).alloc (Obj.cells (arrA 12 (bytesV nb)) 49)).alloc (Obj.cells #[Value.int IntKind.u8 0, Value.int IntKind.u8 0, Value.int IntKind.u8 0, Value.int IntKind.u8 0, Value.int IntKind.u8 0, Value.int IntKind.u8 0, Value.int IntKind.u8 0, Value.int IntKind.u8 0, Value.int IntKind.u8 0, Value.int IntKind.u8 0, Value.int IntKind.u8 0, Value.int IntKind.u8 0, Value.int IntKind.u8 0, Value.int IntKind.u8 0, Value.int IntKind.u8 0, Value.int IntKind.u8 0, Value.int IntKind.u8 0, Value.int IntKind.u8 0, Value.int IntKind.u8 0, Value.int IntKind.u8 0, Value.int IntKind.u8 0, Value.int IntKind.u8 0, Value.int IntKind.u8 0, Value.int IntKind.u8 0, Value.int IntKind.u8 0, Value.int IntKind.u8 0, Value.int IntKind.u8 0, Value.int IntKind.u8 0, Value.int IntKind.u8 0, Value.int IntKind.u8 0, Value.int IntKind.u8 0, Value.int IntKind.u8 0, Value.int IntKind.u8 0, Value.int IntKind.u8 0, Value.int IntKind.u8 0, Value.int IntKind.u8 0, Value.int IntKind.u8 0, Value.int IntKind.u8 0, Value.int IntKind.u8 0, Value.int IntKind.u8 0, Value.int IntKind.u8 0, Value.int IntKind.u8 0, Value.int IntKind.u8 0, Value.int IntKind.u8 0, Value.int IntKind.u8 0, Value.int IntKind.u8 0, Value.int IntKind.u8 0, Value.int IntKind.u8 0, Value.int IntKind.u8 0, Value.int IntKind.u8 0, Value.int IntKind.u8 0, Value.int IntKind.u8 0, Value.int IntKind.u8 0, Value.int IntKind.u8 0, Value.int IntKind.u8 0, Value.int IntKind.u8 0, Value.int IntKind.u8 0, Value.int IntKind.u8 0, Value.int IntKind.u8 0, Value.int IntKind.u8 0, Value.int IntKind.u8 0, Value.int IntKind.u8 0, Value.int IntKind.u8 0, Value.int IntKind.u8 0] 119)) (w.heap.size + 1 + 1) 119 64 (fun _ => .int .u8 0) := by
    have := heap_new ((w.alloc (Obj.cells (arrA 32 (bytesV kb)) 34)).alloc (Obj.cells (arrA 12 (bytesV nb)) 49)) (Obj.cells #[Value.int IntKind.u8 0, Value.int IntKind.u8 0, Value.int IntKind.u8 0, Value.int IntKind.u8 0, Value.int IntKind.u8 0, Value.int IntKind.u8 0, Value.int IntKind.u8 0, Value.int IntKind.u8 0, Value.int IntKind.u8 0, Value.int IntKind.u8 0, Value.int IntKind.u8 0, Value.int IntKind.u8 0, Value.int IntKind.u8 0, Value.int IntKind.u8 0, Value.int IntKind.u8 0, Value.int IntKind.u8 0, Value.int IntKind.u8 0, Value.int IntKind.u8 0, Value.int IntKind.u8 0, Value.int IntKind.u8 0, Value.int IntKind.u8 0, Value.int IntKind.u8 0, Value.int IntKind.u8 0, Value.int IntKind.u8 0, Value.int IntKind.u8 0, Value.int IntKind.u8 0, Value.int IntKind.u8 0, Value.int IntKind.u8 0, Value.int IntKind.u8 0, Value.int IntKind.u8 0, Value.int IntKind.u8 0, Value.int IntKind.u8 0, Value.int IntKind.u8 0, Value.int IntKind.u8 0, Value.int IntKind.u8 0, Value.int IntKind.u8 0, Value.int IntKind.u8 0, Value.int IntKind.u8 0, Value.int IntKind.u8 0, Value.int IntKind.u8 0, Value.int IntKind.u8 0, Value.int IntKind.u8 0, Value.int IntKind.u8 0, Value.int IntKind.u8 0, Value.int IntKind.u8 0, Value.int IntKind.u8 0, Value.int IntKind.u8 0, Value.int IntKind.u8 0, Value.int IntKind.u8 0, Value.int IntKind.u8 0, Value.int IntKind.u8 0, Value.int IntKind.u8 0, Value.int IntKind.u8 0, Value.int IntKind.u8 0, Value.int IntKind.u8 0, Value.int IntKind.u8 0, Value.int IntKind.u8 0, Value.int IntKind.u8 0, Value.int IntKind.u8 0, Value.int IntKind.u8 0, Value.int IntKind.u8 0, Value.int IntKind.u8 0, Value.int IntKind.u8 0, Value.int IntKind.u8 0] 119)
    rw [World.size_alloc, World.size_alloc] at this
    exact row_of_heap this
  have a4 : Below w.heap.size w (((w.alloc (Obj.cells (arrA 32 (bytesV kb)) 34)).alloc (Obj.cells (arrA 12 (bytesV nb)) 49)).alloc (Obj.cells #[Value.int IntKind.u8 0, Value.int IntKind.u8 0, Value.int IntKind.u8 0, Value.int IntKind.u8 0, Value.int IntKind.u8 0, Value.int IntKind.u8 0, Value.int IntKind.u8 0, Value.int IntKind.u8 0, Value.int IntKind.u8 0, Value.int IntKind.u8 0, Value.int IntKind.u8 0, Value.int IntKind.u8 0, Value.int IntKind.u8 0, Value.int IntKind.u8 0, Value.int IntKind.u8 0, Value.int IntKind.u8 0, Value.int IntKind.u8 0, Value.int IntKind.u8 0, Value.int IntKind.u8 0, Value.int IntKind.u8 0, Value.int IntKind.u8 0, Value.int IntKind.u8 0, Value.int IntKind.u8 0, Value.int IntKind.u8 0, Value.int IntKind.u8 0, Value.int IntKind.u8 0, Value.int IntKind.u8 0, Value.int IntKind.u8 0, Value.int IntKind.u8 0, Value.int IntKind.u8 0, Value.int IntKind.u8 0, Value.int IntKind.u8 0, Value.int IntKind.u8 0, Value.int IntKind.u8 0, Value.int IntKind.u8 0, Value.int IntKind.u8 0, Value.int IntKind.u8 0, Value.int IntKind.u8 0, Value.int IntKind.u8 0, Value.int IntKind.u8 0, Value.int IntKind.u8 0, Value.int IntKind.u8 0, Value.int IntKind.u8 0, Value.int IntKind.u8 0, Value.int IntKind.u8 0, Value.int IntKind.u8 0, Value.int IntKind.u8 0, Value.int IntKind.u8 0, Value.int IntKind.u8 0, Value.int IntKind.u8 0, Value.int IntKind.u8 0, Value.int IntKind.u8 0, Value.int IntKind.u8 0, Value.int IntKind.u8 0, Value.int IntKind.u8 0, Value.int IntKind.u8 0, Value.int IntKind.u8 0, Value.int IntKind.u8 0, Value.int IntKind.u8 0, Value.int IntKind.u8 0, Value.int IntKind.u8 0, Value.int IntKind.u8 0, Value.int IntKind.u8 0, Value.int IntKind.u8 0] 119)) := (((Below.refl _ w).alloc (Nat.le_refl _) _).alloc (by simp) _).alloc (by simp; omega) _
  go_upto_region 1 with fail
  obtain ⟨W0, hW0⟩ : ∃ W0, (((w.alloc (Obj.cells (arrA 32 (bytesV kb)) 34)).alloc (Obj.cells (arrA 12 (bytesV nb)) 49)).alloc (Obj.cells #[Value.int IntKind.u8 0, Value.int IntKind.u8 0, Value.int IntKind.u8 0, Value.int IntKind.u8 0, Value.int IntKind.u8 0, Value.int IntKind.u8 0, Value.int IntKind.u8 0, Value.int IntKind.u8 0, Value.int IntKind.u8 0, Value.int IntKind.u8 0, Value.int IntKind.u8 0, Value.int IntKind.u8 0, Value.int IntKind.u8 0, Value.int IntKind.u8 0, Value.int IntKind.u8 0, Value.int IntKind.u8 0, Value.int IntKind.u8 0, Value.int IntKind.u8 0, Value.int IntKind.u8 0, Value.int IntKind.u8 0, Value.int IntKind.u8 0, Value.int IntKind.u8 0, Value.int IntKind.u8 0, Value.int IntKind.u8 0, Value.int IntKind.u8 0, Value.int IntKind.u8 0, Value.int IntKind.u8 0, Value.int IntKind.u8 0, Value.int IntKind.u8 0, Value.int IntKind.u8 0, Value.int IntKind.u8 0, Value.int IntKind.u8 0, Value.int IntKind.u8 0, Value.int IntKind.u8 0, Value.int IntKind.u8 0, Value.int IntKind.u8 0, Value.int IntKind.u8 0, Value.int IntKind.u8 0, Value.int IntKind.u8 0, Value.int IntKind.u8 0, Value.int IntKind.u8 0, Value.int IntKind.u8 0, Value.int IntKind.u8 0, Value.int IntKind.u8 0, Value.int IntKind.u8 0, Value.int IntKind.u8 0, Value.int IntKind.u8 0, Value.int IntKind.u8 0, Value.int IntKind.u8 0, Value.int IntKind.u8 0, Value.int IntKind.u8 0, Value.int IntKind.u8 0, Value.int IntKind.u8 0, Value.int IntKind.u8 0, Value.int IntKind.u8 0, Value.int IntKind.u8 0, Value.int IntKind.u8 0, Value.int IntKind.u8 0, Value.int IntKind.u8 0, Value.int IntKind.u8 0, Value.int IntKind.u8 0, Value.int IntKind.u8 0, Value.int IntKind.u8 0, Value.int IntKind.u8 0] 119)) = W0 := ⟨_, rfl⟩
  rw [hW0] at a0 a1 a2 a4 ⊢
  clear hW0
  go_wp2_with (first | (refine load_arr rfl 34 _ rfl 32 5 34 w.heap.size _ rfl a0 und34 siz34 ?_) | (refine load_arr rfl 49 _ rfl 12 5 49 (w.heap.size + 1) _ rfl a1 und49 siz49 ?_) | fail)
  refine (begin_any kb nb n W0 hk hn).mono ?_
  rintro e w2 ⟨rfl, hb2⟩
  have hfw := begC_words hk hn hn32
  have HblkB : Hid (∀ j, blkB kb nb n j = dgB (fun i => (crnds 10 (begC kb nb n) i + begC kb nb n i) % 4294967296) j) := Lib.hid (fun _ => rfl)
  obtain ⟨f, hf⟩ : ∃ f, begC kb nb n = f := ⟨_, rfl⟩
  rw [hf] at hfw HblkB ⊢
  clear hf
  have z3 := zero16_row w2
  go_upto_region 2 with (refine store_arr rfl 129 _ _ rfl 16 129 w2.heap.size _ (wordsV f) rfl rfl z3 siz129 (fun _ => rfl) ?_)
  have hF0 : w.heap.size + 1 + 1 < w2.heap.size := Nat.lt_of_lt_of_le a2.lt hb2.size
  have f1 := rowIs_setRow z3 (wordsV f)
  have r1 : World.rowIs ((w2.alloc (Obj.cells #[Value.int IntKind.u32 0, Value.int IntKind.u32 0, Value.int IntKind.u32 0, Value.int IntKind.u32 0, Value.int IntKind.u32 0, Value.int IntKind.u32 0, Value.int IntKind.u32 0, Value.int IntKind.u32 0, Value.int IntKind.u32 0, Value.int IntKind.u32 0, Value.int IntKind.u32 0, Value.int IntKind.u32 0, Value.int IntKind.u32 0, Value.int IntKind.u32 0, Value.int IntKind.u32 0, Value.int IntKind.u32 0] 129)).setRow w2.heap.size (arrA 16 (wordsV f))) (w.heap.size + 1 + 1) 119 64 (fun _ => .int .u8 0) := rowIs_setOther ((a2.of_block (hb2.block _ a2.lt)).alloc _) (by omega) _
  have g1 : Below w.heap.size w ((w2.alloc (Obj.cells #[Value.int IntKind.u32 0, Value.int IntKind.u32 0, Value.int IntKind.u32 0, Value.int IntKind.u32 0, Value.int IntKind.u32 0, Value.int IntKind.u32 0, Value.int IntKind.u32 0, Value.int IntKind.u32 0, Value.int IntKind.u32 0, Value.int IntKind.u32 0, Value.int IntKind.u32 0, Value.int IntKind.u32 0, Value.int IntKind.u32 0, Value.int IntKind.u32 0, Value.int IntKind.u32 0, Value.int IntKind.u32 0] 129)).setRow w2.heap.size (arrA 16 (wordsV f))) := below_setRow ((a4.trans (hb2.mono a4.size)).alloc (by omega) _) (by omega) _
  obtain ⟨W1, hW1⟩ : ∃ W1, (w2.alloc (Obj.cells #[Value.int IntKind.u32 0, Value.int IntKind.u32 0, Value.int IntKind.u32 0, Value.int IntKind.u32 0, Value.int IntKind.u32 0, Value.int IntKind.u32 0, Value.int IntKind.u32 0, Value.int IntKind.u32 0, Value.int IntKind.u32 0, Value.int IntKind.u32 0, Value.int IntKind.u32 0, Value.int IntKind.u32 0, Value.int IntKind.u32 0, Value.int IntKind.u32 0, Value.int IntKind.u32 0, Value.int IntKind.u32 0] 129)).setRow w2.heap.size (arrA 16 (wordsV f)) = W1 := ⟨_, rfl⟩
  obtain ⟨F, hF⟩ : ∃ F, w2.heap.size = F := ⟨_, rfl⟩
  rw [hW1] at f1 r1 g1 ⊢
  rw [hF] at f1 hF0 ⊢
  clear hW1 hF z3 hb2 a0 a1 a2 a4
  simp only [Act.put]
  have hFV : F < W1.heap.size := f1.lt
  have z4 := zero16_row W1
  go_upto_region 3 with (first | (refine load_arr rfl 129 _ rfl 16 38 129 F _ rfl f1 und129 siz129 ?_) | (refine store_arr rfl 129 _ _ rfl 16 129 W1.heap.size _ (wordsV f) rfl rfl z4 siz129 (fun _ => rfl) ?_))
  have t0 : BK w.heap.size F W1.heap.size f f w ((W1.alloc (Obj.cells #[Value.int IntKind.u32 0, Value.int IntKind.u32 0, Value.int IntKind.u32 0, Value.int IntKind.u32 0, Value.int IntKind.u32 0, Value.int IntKind.u32 0, Value.int IntKind.u32 0, Value.int IntKind.u32 0, Value.int IntKind.u32 0, Value.int IntKind.u32 0, Value.int IntKind.u32 0, Value.int IntKind.u32 0, Value.int IntKind.u32 0, Value.int IntKind.u32 0, Value.int IntKind.u32 0, Value.int IntKind.u32 0] 129)).setRow W1.heap.size (arrA 16 (wordsV f))) :=
    ⟨rowIs_setOther (r1.alloc _) (by omega) _, rowIs_setOther (f1.alloc _) (by omega) _, rowIs_setRow z4 _, hF0, hFV, below_setRow (g1.alloc (by omega) _) (by omega) _⟩
  obtain ⟨W2, hW2⟩ : ∃ W2, (W1.alloc (Obj.cells #[Value.int IntKind.u32 0, Value.int IntKind.u32 0, Value.int IntKind.u32 0, Value.int IntKind.u32 0, Value.int IntKind.u32 0, Value.int IntKind.u32 0, Value.int IntKind.u32 0, Value.int IntKind.u32 0, Value.int IntKind.u32 0, Value.int IntKind.u32 0, Value.int IntKind.u32 0, Value.int IntKind.u32 0, Value.int IntKind.u32 0, Value.int IntKind.u32 0, Value.int IntKind.u32 0, Value.int IntKind.u32 0] 129)).setRow W1.heap.size (arrA 16 (wordsV f)) = W2 := ⟨_, rfl⟩
  obtain ⟨V, hV⟩ : ∃ V, W1.heap.size = V := ⟨_, rfl⟩
  rw [hW2] at t0 ⊢
  rw [hV] at t0 hFV ⊢
  clear hW2 hV z4 f1 r1 g1
  simp only [Act.put]
  go_wp2_with fail
  go_loopw [22] (fun a wx => ∃ r : Nat, r ≤ 10 ∧ a = .int .i64 (r : Int) ∧ BK w.heap.size F V f (crnds r f) w wx) (fun a _ => 10 - (intOf a).toNat)
  case atStart => exact ⟨0, by omega, rfl, t0⟩
  case round =>
    clear t0
    obtain ⟨r, hr, rfl, t1⟩ := hrel
    by_cases hrt : r < 10
    · have c2 : decide ((r : Int) < 10) = true := decide_eq_true (by omega)
      have hwr := crnds_words hfw r
      obtain ⟨v, hv⟩ : ∃ v, crnds r f = v := ⟨_, rfl⟩
      rw [hv] at t1 hwr
      have Hv := Lib.hid hv
      clear hv
      go_wp2_with fail
      go_loopw [24] (fun a wx => ∃ i : Nat, i ≤ 4 ∧ a = .int .i64 (i : Int) ∧ BK w.heap.size F V f (csts i v) w wx) (fun a _ => 4 - (intOf a).toNat)
      case atStart => exact ⟨0, by omega, rfl, t1⟩
      case round =>
        clear t1
        obtain ⟨i, hi, rfl, t1⟩ := hrel
        by_cases hlt : i < 4
        · have c3 : decide ((i : Int) < 4) = true := decide_eq_true (by omega)
          obtain ⟨b1, hb1⟩ : ∃ b1, 4 + i = b1 := ⟨_, rfl⟩
          obtain ⟨b2, hb2⟩ : ∃ b2, 8 + i = b2 := ⟨_, rfl⟩
          obtain ⟨b3, hb3⟩ : ∃ b3, 12 + i = b3 := ⟨_, rfl⟩
          have e1 : IntKind.i64.wrap (4 + (i : Int)) = (b1 : Int) := by rw [IntWalk.i64_in _ (by omega)]; omega
          have e2 : IntKind.i64.wrap (8 + (i : Int)) = (b2 : Int) := by rw [IntWalk.i64_in _ (by omega)]; omega
          have e3 : IntKind.i64.wrap (12 + (i : Int)) = (b3 : Int) := by rw [IntWalk.i64_in _ (by omega)]; omega
          have hs := cstep_any V i b1 b2 b3 _ wr t1.vb (csts_words hwr i) (by omega) (by omega) (by omega) (by omega)
          have hst : cst (csts i v) i b1 b2 b3 2 = csts (i + 1) v := by
            show _ = cstp i (csts i v)
            rw [cstp, if_pos hlt, hb1, hb2, hb3]
          rw [hst] at hs
          clear hst hb1 hb2 hb3
          go_wp2_with fail
          refine hs.mono ?_
          rintro e w3 ⟨rfl, hrow, hg⟩
          have t2 := t1.step hrow hg
          go_wp2
          go_roundw
          case rel => exact ⟨i + 1, by omega, by go_num, t2⟩
          case measure => simp [intOf]; omega
        · have c3 : decide ((i : Int) < 4) = false := decide_eq_false (by omega)
          obtain rfl : i = 4 := by omega
          rw [show ((4 : Nat) : Int) = 4 from rfl]
          obtain ⟨Y, rfl⟩ : ∃ Y, Y = wr := ⟨wr, rfl⟩
          go_wp2_with fail
          go_loopw [37] (fun a wx => ∃ i : Nat, i ≤ 4 ∧ a = .int .i64 (i : Int) ∧ BK w.heap.size F V f (csts (4 + i) v) w wx) (fun a _ => 4 - (intOf a).toNat)
          case atStart => exact ⟨0, by omega, rfl, t1⟩
          case round =>
            clear t1
            obtain ⟨i, hi, rfl, t1⟩ := hrel
            by_cases hlt : i < 4
            · have c3 : decide ((i : Int) < 4) = true := decide_eq_true (by omega)
              have e1 : IntKind.i64.wrap ((i : Int) + 1) = (i : Int) + 1 := IntWalk.i64_in _ (by omega)
              have e2 : IntKind.i64.wrap ((i : Int) + 2) = (i : Int) + 2 := IntWalk.i64_in _ (by omega)
              have e3 : IntKind.i64.wrap ((i : Int) + 3) = (i : Int) + 3 := IntWalk.i64_in _ (by omega)
              obtain ⟨b1, hb1⟩ : ∃ b1, 4 + (i + 1) % 4 = b1 := ⟨_, rfl⟩
              obtain ⟨b2, hb2⟩ : ∃ b2, 8 + (i + 2) % 4 = b2 := ⟨_, rfl⟩
              obtain ⟨b3, hb3⟩ : ∃ b3, 12 + (i + 3) % 4 = b3 := ⟨_, rfl⟩
              have f1 : IntKind.i64.wrap (4 + ((i : Int) + 1) % 4) = (b1 : Int) := by rw [IntWalk.i64_in _ (by omega)]; omega
              have f2 : IntKind.i64.wrap (8 + ((i : Int) + 2) % 4) = (b2 : Int) := by rw [IntWalk.i64_in _ (by omega)]; omega
              have f3 : IntKind.i64.wrap (12 + ((i : Int) + 3) % 4) = (b3 : Int) := by rw [IntWalk.i64_in _ (by omega)]; omega
              have hs := cstep_any V i b1 b2 b3 _ wr t1.vb (csts_words hwr (4 + i)) (by omega) (by omega) (by omega) (by omega)
              have hst : cst (csts (4 + i) v) i b1 b2 b3 2 = csts (4 + (i + 1)) v := by
                show _ = cstp (4 + i) (csts (4 + i) v)
                rw [cstp, if_neg (by omega), show 4 + i - 4 = i by omega, hb1, hb2, hb3]
              rw [hst] at hs
              clear hst hb1 hb2 hb3
              go_wp2_with fail
              refine hs.mono ?_
              rintro e w3 ⟨rfl, hrow, hg⟩
              have t2 := t1.step hrow hg
              go_wp2
              go_roundw
              case rel => exact ⟨i + 1, by omega, by go_num, t2⟩
              case measure => simp [intOf]; omega
            · have c3 : decide ((i : Int) < 4) = false := decide_eq_false (by omega)
              obtain rfl : i = 4 := by omega
              go_wp2
              go_roundw
              case rel =>
                refine ⟨r + 1, by omega, by go_num, ?_⟩
                show BK w.heap.size F V f (csts 8 (crnds r f)) w wr
                rw [Hv.out]
                exact t1
              case measure => simp [intOf]; omega
    · have c2 : decide ((r : Int) < 10) = false := decide_eq_false (by omega)
      obtain rfl : r = 10 := by omega
      rw [show ((10 : Nat) : Int) = 10 from rfl]
      have hwr := crnds_words hfw 10
      obtain ⟨fv, hfv⟩ : ∃ fv, crnds 10 f = fv := ⟨_, rfl⟩
      rw [hfv] at t1 hwr HblkB
      clear hfv
      obtain ⟨Y, rfl⟩ : ∃ Y, Y = wr := ⟨wr, rfl⟩
      have hz : World.rowIs (Y.alloc (Obj.cells #[Value.int IntKind.u8 0, Value.int IntKind.u8 0, Value.int IntKind.u8 0, Value.int IntKind.u8 0, Value.int IntKind.u8 0, Value.int IntKind.u8 0, Value.int IntKind.u8 0, Value.int IntKind.u8 0, Value.int IntKind.u8 0, Value.int IntKind.u8 0, Value.int IntKind.u8 0, Value.int IntKind.u8 0, Value.int IntKind.u8 0, Value.int IntKind.u8 0, Value.int IntKind.u8 0, Value.int IntKind.u8 0, Value.int IntKind.u8 0, Value.int IntKind.u8 0, Value.int IntKind.u8 0, Value.int IntKind.u8 0, Value.int IntKind.u8 0, Value.int IntKind.u8 0, Value.int IntKind.u8 0, Value.int IntKind.u8 0, Value.int IntKind.u8 0, Value.int IntKind.u8 0, Value.int IntKind.u8 0, Value.int IntKind.u8 0, Value.int IntKind.u8 0, Value.int IntKind.u8 0, Value.int IntKind.u8 0, Value.int IntKind.u8 0, Value.int IntKind.u8 0, Value.int IntKind.u8 0, Value.int IntKind.u8 0, Value.int IntKind.u8 0, Value.int IntKind.u8 0, Value.int IntKind.u8 0, Value.int IntKind.u8 0, Value.int IntKind.u8 0, Value.int IntKind.u8 0, Value.int IntKind.u8 0, Value.int IntKind.u8 0, Value.int IntKind.u8 0, Value.int IntKind.u8 0, Value.int IntKind.u8 0, Value.int IntKind.u8 0, Value.int IntKind.u8 0, Value.int IntKind.u8 0, Value.int IntKind.u8 0, Value.int IntKind.u8 0, Value.int IntKind.u8 0, Value.int IntKind.u8 0, Value.int IntKind.u8 0, Value.int IntKind.u8 0, Value.int IntKind.u8 0, Value.int IntKind.u8 0, Value.int IntKind.u8 0, Value.int IntKind.u8 0, Value.int IntKind.u8 0, Value.int IntKind.u8 0, Value.int IntKind.u8 0, Value.int IntKind.u8 0, Value.int IntKind.u8 0] 119)) Y.heap.size 119 64 (bytesV (dgP (blkB kb nb n) 0)) := row_of_heap (heap_new Y _)
      have hVO : V < Y.heap.size := t1.vb.lt
      have hB1 := t1.hF
      have t2 : BK w.heap.size F V f fv w (Y.alloc (Obj.cells #[Value.int IntKind.u8 0, Value.int IntKind.u8 0, Value.int IntKind.u8 0, Value.int IntKind.u8 0, Value.int IntKind.u8 0, Value.int IntKind.u8 0, Value.int IntKind.u8 0, Value.int IntKind.u8 0, Value.int IntKind.u8 0, Value.int IntKind.u8 0, Value.int IntKind.u8 0, Value.int IntKind.u8 0, Value.int IntKind.u8 0, Value.int IntKind.u8 0, Value.int IntKind.u8 0, Value.int IntKind.u8 0, Value.int IntKind.u8 0, Value.int IntKind.u8 0, Value.int IntKind.u8 0, Value.int IntKind.u8 0, Value.int IntKind.u8 0, Value.int IntKind.u8 0, Value.int IntKind.u8 0, Value.int IntKind.u8 0, Value.int IntKind.u8 0, Value.int IntKind.u8 0, Value.int IntKind.u8 0, Value.int IntKind.u8 0, Value.int IntKind.u8 0, Value.int IntKind.u8 0, Value.int IntKind.u8 0, Value.int IntKind.u8 0, Value.int IntKind.u8 0, Value.int IntKind.u8 0, Value.int IntKind.u8 0, Value.int IntKind.u8 0, Value.int IntKind.u8 0, Value.int IntKind.u8 0, Value.int IntKind.u8 0, Value.int IntKind.u8 0, Value.int IntKind.u8 0, Value.int IntKind.u8 0, Value.int IntKind.u8 0, Value.int IntKind.u8 0, Value.int IntKind.u8 0, Value.int IntKind.u8 0, Value.int IntKind.u8 0, Value.int IntKind.u8 0, Value.int IntKind.u8 0, Value.int IntKind.u8 0, Value.int IntKind.u8 0, Value.int IntKind.u8 0, Value.int IntKind.u8 0, Value.int IntKind.u8 0, Value.int IntKind.u8 0, Value.int IntKind.u8 0, Value.int IntKind.u8 0, Value.int IntKind.u8 0, Value.int IntKind.u8 0, Value.int IntKind.u8 0, Value.int IntKind.u8 0, Value.int IntKind.u8 0, Value.int IntKind.u8 0, Value.int IntKind.u8 0] 119)) := ⟨t1.rb.alloc _, t1.fb.alloc _, t1.vb.alloc _, t1.hF, t1.hV, t1.below.alloc (by have := t1.rb.lt; omega) _⟩
      go_wp2_with fail
      obtain ⟨W5, hW5⟩ : ∃ W5, Y.alloc (Obj.cells #[Value.int IntKind.u8 0, Value.int IntKind.u8 0, Value.int IntKind.u8 0, Value.int IntKind.u8 0, Value.int IntKind.u8 0, Value.int IntKind.u8 0, Value.int IntKind.u8 0, Value.int IntKind.u8 0, Value.int IntKind.u8 0, Value.int IntKind.u8 0, Value.int IntKind.u8 0, Value.int IntKind.u8 0, Value.int IntKind.u8 0, Value.int IntKind.u8 0, Value.int IntKind.u8 0, Value.int IntKind.u8 0, Value.int IntKind.u8 0, Value.int IntKind.u8 0, Value.int IntKind.u8 0, Value.int IntKind.u8 0, Value.int IntKind.u8 0, Value.int IntKind.u8 0, Value.int IntKind.u8 0, Value.int IntKind.u8 0, Value.int IntKind.u8 0, Value.int IntKind.u8 0, Value.int IntKind.u8 0, Value.int IntKind.u8 0, Value.int IntKind.u8 0, Value.int IntKind.u8 0, Value.int IntKind.u8 0, Value.int IntKind.u8 0, Value.int IntKind.u8 0, Value.int IntKind.u8 0, Value.int IntKind.u8 0, Value.int IntKind.u8 0, Value.int IntKind.u8 0, Value.int IntKind.u8 0, Value.int IntKind.u8 0, Value.int IntKind.u8 0, Value.int IntKind.u8 0, Value.int IntKind.u8 0, Value.int IntKind.u8 0, Value.int IntKind.u8 0, Value.int IntKind.u8 0, Value.int IntKind.u8 0, Value.int IntKind.u8 0, Value.int IntKind.u8 0, Value.int IntKind.u8 0, Value.int IntKind.u8 0, Value.int IntKind.u8 0, Value.int IntKind.u8 0, Value.int IntKind.u8 0, Value.int IntKind.u8 0, Value.int IntKind.u8 0, Value.int IntKind.u8 0, Value.int IntKind.u8 0, Value.int IntKind.u8 0, Value.int IntKind.u8 0, Value.int IntKind.u8 0, Value.int IntKind.u8 0, Value.int IntKind.u8 0, Value.int IntKind.u8 0, Value.int IntKind.u8 0] 119) = W5 := ⟨_, rfl⟩
      obtain ⟨O, hO⟩ : ∃ O, Y.heap.size = O := ⟨_, rfl⟩
      rw [hW5] at hz t2 ⊢
      rw [hO] at hz hVO ⊢
      clear hW5 hO t1
      go_loopw [57] (fun a wx => ∃ i : Nat, i ≤ 16 ∧ a = .int .i64 (i : Int) ∧ wx.rowIs O 119 64 (bytesV (dgP (blkB kb nb n) (4 * i))) ∧ BK w.heap.size F V f fv w wx) (fun a _ => 16 - (intOf a).toNat)
      case atStart => exact ⟨0, by omega, rfl, hz, t2⟩
      case round =>
        clear hz t2
        obtain ⟨i, hi, rfl, hz, t2⟩ := hrel
        by_cases hlt8 : i < 16
        · have c3 : decide ((i : Int) < 16) = true := decide_eq_true (by omega)
          have c4 : (i : Int) < 16 := by omega
          have d1 : wr.cell? ⟨V, i, none⟩ = some (.int .u32 (fv i : Int)) := t2.vb.cell hlt8
          have d2 : wr.cell? ⟨F, i, none⟩ = some (.int .u32 (f i : Int)) := t2.fb.cell hlt8
          obtain ⟨y, hy⟩ : ∃ y, (fv i + f i) % 4294967296 = y := ⟨_, rfl⟩
          have hyl : y < 4294967296 := by rw [← hy]; exact Nat.mod_lt _ (by omega)
          have q : ((fv i : Int) + (f i : Int)) % 4294967296 = (y : Int) := by omega
          have Hy := Lib.hid hy
          clear hy
          go_wp2_with fail
          go_quiet (fail)
          have t3 : BK w.heap.size F V f fv w (wr.drewN nq) := ⟨t2.rb, t2.fb, t2.vb, t2.hF, t2.hV, below_drewN t2.below nq⟩
          have hz3 : (wr.drewN nq).rowIs O 119 64 (bytesV (dgP (blkB kb nb n) (4 * i))) := hz
          clear d1 d2 t2 hz
          try rw [q]
          go_wp2_with fail
          go_loopw [67] (fun a wx => ∃ k : Nat, k ≤ 4 ∧ a = .int .i64 (k : Int) ∧ wx.rowIs O 119 64 (bytesV (dgP (blkB kb nb n) (4 * i + k))) ∧ BK w.heap.size F V f fv w wx) (fun a _ => 4 - (intOf a).toNat)
          case atStart => exact ⟨0, by omega, rfl, hz3, t3⟩
          case round =>
            clear hz3 t3
            obtain ⟨k, hk4, rfl, hz, t3⟩ := hrel
            by_cases hlt4 : k < 4
            · have c5 : decide ((k : Int) < 4) = true := decide_eq_true (by omega)
              have g1 : IntKind.i64.wrap (4 * (i : Int)) = 4 * (i : Int) := IntWalk.i64_in _ (by omega)
              obtain ⟨p, hp⟩ : ∃ p, 4 * i + k = p := ⟨_, rfl⟩
              have g2 : IntKind.i64.wrap (4 * (i : Int) + (k : Int)) = (p : Int) := by rw [IntWalk.i64_in _ (by omega)]; omega
              obtain ⟨q', hq⟩ : ∃ q, 8 * k = q := ⟨_, rfl⟩
              have g3 : IntKind.i64.wrap (8 * (k : Int)) = (q' : Int) := by rw [IntWalk.i64_in _ (by omega)]; omega
              have hp32 : p < 64 := by omega
              have hp32' : (p : Int) < 64 := by omega
              rw [hp] at hz
              have hval : blkB kb nb n p = y / 2 ^ q' % 256 := by
                rw [HblkB.out, dgB, show p / 4 = i by omega, show p % 4 = k by omega, Hy.out, ← hq, Nat.pow_mul]
              have Hval := Lib.hid hval
              have hmin : min q' 32 = q' := by omega
              have d1 : wr.cell? ⟨O, p, none⟩ = some (.int .u8 (dgP (blkB kb nb n) p p : Int)) := hz.cell hp32
              have d2 := hz.frozen p
              have Hp := Lib.hid hp
              clear hp hq hval q
              go_wp2
              go_roundw
              case rel =>
                have h2 := t3.hV
                refine ⟨k + 1, by omega, by go_num, ?_, ⟨t3.rb.setOther (by dsimp only; omega) _, t3.fb.setOther (by dsimp only; omega) _, t3.vb.setOther (by dsimp only; omega) _, t3.hF, t3.hV, t3.below.setCell (by dsimp only; omega) _⟩⟩
                have e : (y : Int) / 2 ^ q' % 256 = ((y / 2 ^ q' % 256 : Nat) : Int) := by push_cast; rfl
                rw [e, ← Hval.out, show 4 * i + (k + 1) = p + 1 by have := Hp.out; omega, ← dgP_step]
                exact (hz.set p _).congr (fun j _ => upd_bytesV _ _ _ _)
              case measure => simp [intOf]; omega
            · have c5 : decide ((k : Int) < 4) = false := decide_eq_false (by omega)
              obtain rfl : k = 4 := by omega
              go_wp2
              go_roundw
              case rel => exact ⟨i + 1, by omega, by go_num, by rw [show 4 * (i + 1) = 4 * i + 4 by omega]; exact hz, t3⟩
              case measure => simp [intOf]; omega
        · have c3 : decide ((i : Int) < 16) = false := decide_eq_false (by omega)
          obtain rfl : i = 16 := by omega
          have hres : arrA 64 (bytesV (dgP (blkB kb nb n) (4 * 16))) = arrA 64 (bytesV (blkB kb nb n)) :=
            arrA_congr (fun j hj => by rw [bytesV, bytesV, dgP, if_pos (by omega)])
          have Hres := Lib.hid hres
          clear hres
          go_wp2_with (first | (refine load_arr rfl 119 _ rfl 64 5 119 O _ rfl hz und119 siz119 ?_) | (refine store_arr rfl 119 _ _ rfl 64 119 (w.heap.size + 1 + 1) _ _ rfl rfl t2.rb siz119 (fun _ => rfl) ?_))
          refine bodyPost_ret (result_arr rfl _ _ 64 5 119 (w.heap.size + 1 + 1) _ rfl (rowIs_setRow t2.rb _) und119 siz119) rfl ?_
          exact ⟨by rw [Hres.out], below_setRow t2.below (by omega) _⟩
end Go.Proofs.Ytnjcganknpnjcaa
