/- cipher's reference: a block of the stream. -/
import Derived.Test.YtnjcganknpnjcaaGj
set_option linter.unusedVariables false
set_option linter.unusedSimpArgs false
namespace Go.Proofs.Ytnjcganknpnjcaa
open Go.RowKit

set_option maxRecDepth 100000 in
set_option maxHeartbeats 1000000 in
theorem rword_any (s : ByteArray) (p : Nat) (w : World) (hs : p + 4 ≤ s.size ∧ p ≤ 1000000) : Calls Try.prog 111 #[.string s, .int .i64 (p : Int)] w fun e w' => e = .returned (.int .u64 (w4 (byt s p).toNat (byt s (p + 1)).toNat (byt s (p + 2)).toNat (byt s (p + 3)).toNat : Int)) ∧ Drew w w' := by
  have b0 := byt_at s p
  have b1 := byt_at s (p + 1)
  have b2 := byt_at s (p + 2)
  have b3 := byt_at s (p + 3)
  obtain ⟨x0, h0, l0⟩ := byt_nat s p
  obtain ⟨x1, h1, l1⟩ := byt_nat s (p + 1)
  obtain ⟨x2, h2, l2⟩ := byt_nat s (p + 2)
  obtain ⟨x3, h3, l3⟩ := byt_nat s (p + 3)
  rw [h0] at b0 ⊢
  rw [h1] at b1 ⊢
  rw [h2] at b2 ⊢
  rw [h3] at b3 ⊢
  obtain ⟨p1, hp1⟩ : ∃ p1, p + 1 = p1 := ⟨_, rfl⟩
  obtain ⟨p2, hp2⟩ : ∃ p2, p + 2 = p2 := ⟨_, rfl⟩
  obtain ⟨p3, hp3⟩ : ∃ p3, p + 3 = p3 := ⟨_, rfl⟩
  have e1 : IntKind.i64.wrap ((p : Int) + 1) = (p1 : Int) := by rw [IntWalk.i64_in _ (by omega)]; omega
  have e2 : IntKind.i64.wrap ((p : Int) + 2) = (p2 : Int) := by rw [IntWalk.i64_in _ (by omega)]; omega
  have e3 : IntKind.i64.wrap ((p : Int) + 3) = (p3 : Int) := by rw [IntWalk.i64_in _ (by omega)]; omega
  have g0 : (p : Int) < (s.size : Int) := by omega
  have g1 : (p1 : Int) < (s.size : Int) := by omega
  have g2 : (p2 : Int) < (s.size : Int) := by omega
  have g3 : (p3 : Int) < (s.size : Int) := by omega
  have k0 : p < s.size := by omega
  have k1 : p1 < s.size := by omega
  have k2 : p2 < s.size := by omega
  have k3 : p3 < s.size := by omega
  rw [hp1] at b1
  rw [hp2] at b2
  rw [hp3] at b3
  have hfin : (x0 : Int) + 256 * (x1 : Int) + 65536 * (x2 : Int) + 16777216 * (x3 : Int) = (w4 (x0 : Int).toNat (x1 : Int).toNat (x2 : Int).toNat (x3 : Int).toNat : Int) := by
    rw [Int.toNat_natCast, Int.toNat_natCast, Int.toNat_natCast, Int.toNat_natCast, w4]
    omega
  have Hfin := Lib.hid hfin
  clear hfin
  clear h0 h1 h2 h3 hp1 hp2 hp3 hs
  go_enter Try.func111, Try.ntmps111
  go_wp2
  go_quiet (fail)
  go_wp2
  go_ret
  exact ⟨ret_int Hfin.out, Drew.draws _ _⟩

structure QB (B F : Nat) (kb nb f : Nat → Nat) (w wx : World) : Prop where
  kr : wx.rowIs B 34 32 (bytesV kb)
  nr : wx.rowIs (B + 1) 49 12 (bytesV nb)
  rb : wx.rowIs (B + 1 + 1) 119 64 (fun _ => .int .u8 0)
  fb : wx.rowIs F 135 16 (wordsQ f)
  hF : B + 1 + 1 < F
  below : Below B w wx
theorem QB.drewN {B F : Nat} {kb nb f : Nat → Nat} {w wx : World} (t : QB B F kb nb f w wx) (n : Nat) : QB B F kb nb f w (wx.drewN n) := ⟨t.kr, t.nr, t.rb, t.fb, t.hF, below_drewN t.below n⟩
theorem QB.put {B F : Nat} {kb nb f : Nat → Nat} {w wx : World} (t : QB B F kb nb f w wx) (i x : Nat) : QB B F kb nb (upd f i x) w (wx.setCell ⟨F, i, none⟩ (.int .u64 (x : Int))) := by
  have := t.hF
  exact ⟨t.kr.setOther (by dsimp only; omega) _, t.nr.setOther (by dsimp only; omega) _, t.rb.setOther (by dsimp only; omega) _, (t.fb.set i _).congr (fun k _ => upd_wordsQ f i x k), t.hF, t.below.setCell (by dsimp only; omega) _⟩
structure QX (B F V : Nat) (f v : Nat → Nat) (w wx : World) : Prop where
  rb : wx.rowIs (B + 1 + 1) 119 64 (fun _ => .int .u8 0)
  fb : wx.rowIs F 135 16 (wordsQ f)
  vb : wx.rowIs V 135 16 (wordsQ v)
  hF : B + 1 + 1 < F
  hV : F < V
  below : Below B w wx
theorem QX.past {B F V : Nat} {f v : Nat → Nat} {w wx wy : World} (t : QX B F V f v w wx) (hb : Below wx.heap.size wx wy) : QX B F V f v w wy :=
  ⟨t.rb.of_block (hb.block _ t.rb.lt), t.fb.of_block (hb.block _ t.fb.lt), t.vb.of_block (hb.block _ t.vb.lt), t.hF, t.hV, t.below.trans (hb.mono (by have := t.rb.lt; omega))⟩
theorem QX.setV {B F V : Nat} {f v : Nat → Nat} {w wx : World} (t : QX B F V f v w wx) (v' : Nat → Nat) : QX B F V f v' w (wx.setRow V (arrA 16 (wordsQ v'))) := by
  have h1 := t.hF
  have h2 := t.hV
  exact ⟨rowIs_setOther t.rb (by omega) _, rowIs_setOther t.fb (by omega) _, rowIs_setRow t.vb _, t.hF, t.hV, below_setRow t.below (by omega) _⟩
theorem QX.drewN {B F V : Nat} {f v : Nat → Nat} {w wx : World} (t : QX B F V f v w wx) (n : Nat) : QX B F V f v w (wx.drewN n) := ⟨t.rb, t.fb, t.vb, t.hF, t.hV, below_drewN t.below n⟩
theorem zero64_row (w : World) : (w.alloc (Obj.cells #[Value.int IntKind.u8 0, Value.int IntKind.u8 0, Value.int IntKind.u8 0, Value.int IntKind.u8 0, Value.int IntKind.u8 0, Value.int IntKind.u8 0, Value.int IntKind.u8 0, Value.int IntKind.u8 0, Value.int IntKind.u8 0, Value.int IntKind.u8 0, Value.int IntKind.u8 0, Value.int IntKind.u8 0, Value.int IntKind.u8 0, Value.int IntKind.u8 0, Value.int IntKind.u8 0, Value.int IntKind.u8 0, Value.int IntKind.u8 0, Value.int IntKind.u8 0, Value.int IntKind.u8 0, Value.int IntKind.u8 0, Value.int IntKind.u8 0, Value.int IntKind.u8 0, Value.int IntKind.u8 0, Value.int IntKind.u8 0, Value.int IntKind.u8 0, Value.int IntKind.u8 0, Value.int IntKind.u8 0, Value.int IntKind.u8 0, Value.int IntKind.u8 0, Value.int IntKind.u8 0, Value.int IntKind.u8 0, Value.int IntKind.u8 0, Value.int IntKind.u8 0, Value.int IntKind.u8 0, Value.int IntKind.u8 0, Value.int IntKind.u8 0, Value.int IntKind.u8 0, Value.int IntKind.u8 0, Value.int IntKind.u8 0, Value.int IntKind.u8 0, Value.int IntKind.u8 0, Value.int IntKind.u8 0, Value.int IntKind.u8 0, Value.int IntKind.u8 0, Value.int IntKind.u8 0, Value.int IntKind.u8 0, Value.int IntKind.u8 0, Value.int IntKind.u8 0, Value.int IntKind.u8 0, Value.int IntKind.u8 0, Value.int IntKind.u8 0, Value.int IntKind.u8 0, Value.int IntKind.u8 0, Value.int IntKind.u8 0, Value.int IntKind.u8 0, Value.int IntKind.u8 0, Value.int IntKind.u8 0, Value.int IntKind.u8 0, Value.int IntKind.u8 0, Value.int IntKind.u8 0, Value.int IntKind.u8 0, Value.int IntKind.u8 0, Value.int IntKind.u8 0, Value.int IntKind.u8 0] 119)).rowIs w.heap.size 119 64 (fun _ => .int .u8 0) := row_of_heap (heap_new w _)

set_option maxRecDepth 100000 in
set_option maxHeartbeats 8000000 in
theorem qblock_any (kb nb : Nat → Nat) (n : Nat) (w : World) (hkb : Bytes kb) (hnb : Bytes nb) (hn32 : n < 4294967296) :
    Calls Try.prog 96 #[.agg (arrA 32 (bytesV kb)), .agg (arrA 12 (bytesV nb)), .int .u32 (n : Int)] w fun e w' => e = .returned (.agg (arrA 64 (bytesV (blkB kb nb n)))) ∧ Below w.heap.size w w' := by
  go_enter Try.func96, Try.ntmps96
  go_upto_region 1 with fail
  have a0 : World.rowIs (((w.alloc (Obj.cells (arrA 32 (bytesV kb)) 34)).alloc (Obj.cells (arrA 12 (bytesV nb)) 49)).alloc (Obj.cells #[Value.int IntKind.u8 0, Value.int IntKind.u8 0, Value.int IntKind.u8 0, Value.int IntKind.u8 0, Value.int IntKind.u8 0, Value.int IntKind.u8 0, Value.int IntKind.u8 0, Value.int IntKind.u8 0, Value.int IntKind.u8 0, Value.int IntKind.u8 0, Value.int IntKind.u8 0, Value.int IntKind.u8 0, Value.int IntKind.u8 0, Value.int IntKind.u8 0, Value.int IntKind.u8 0, Value.int IntKind.u8 0, Value.int IntKind.u8 0, Value.int IntKind.u8 0, Value.int IntKind.u8 0, Value.int IntKind.u8 0, Value.int IntKind.u8 0, Value.int IntKind.u8 0, Value.int IntKind.u8 0, Value.int IntKind.u8 0, Value.int IntKind.u8 0, Value.int IntKind.u8 0, Value.int IntKind.u8 0, Value.int IntKind.u8 0, Value.int IntKind.u8 0, Value.int IntKind.u8 0, Value.int IntKind.u8 0, Value.int IntKind.u8 0, Value.int IntKind.u8 0, Value.int IntKind.u8 0, Value.int IntKind.u8 0, Value.int IntKind.u8 0, Value.int IntKind.u8 0, Value.int IntKind.u8 0, Value.int IntKind.u8 0, Value.int IntKind.u8 0, Value.int IntKind.u8 0, Value.int IntKind.u8 0, Value.int IntKind.u8 0, Value.int IntKind.u8 0, Value.int IntKind.u8 0, Value.int IntKind.u8 0, Value.int IntKind.u8 0, Value.int IntKind.u8 0, Value.int IntKind.u8 0, Value.int IntKind.u8 0, Value.int IntKind.u8 0, Value.int IntKind.u8 0, Value.int IntKind.u8 0, Value.int IntKind.u8 0, Value.int IntKind.u8 0, Value.int IntKind.u8 0, Value.int IntKind.u8 0, Value.int IntKind.u8 0, Value.int IntKind.u8 0, Value.int IntKind.u8 0, Value.int IntKind.u8 0, Value.int IntKind.u8 0, Value.int IntKind.u8 0, Value.int IntKind.u8 0] 119)) w.heap.size 34 32 (bytesV kb) := ((row_of_heap (heap_new w _)).alloc _).alloc _
  have a1 : World.rowIs (((w.alloc (Obj.cells (arrA 32 (bytesV kb)) 34)).alloc (Obj.cells (arrA 12 (bytesV nb)) 49)).alloc (Obj.cells #[Value.int IntKind.u8 0, Value.int IntKind.u8 0, Value.int IntKind.u8 0, Value.int IntKind.u8 0, Value.int IntKind.u8 0, Value.int IntKind.u8 0, Value.int IntKind.u8 0, Value.int IntKind.u8 0, Value.int IntKind.u8 0, Value.int IntKind.u8 0, Value.int IntKind.u8 0, Value.int IntKind.u8 0, Value.int IntKind.u8 0, Value.int IntKind.u8 0, Value.int IntKind.u8 0, Value.int IntKind.u8 0, Value.int IntKind.u8 0, Value.int IntKind.u8 0, Value.int IntKind.u8 0, Value.int IntKind.u8 0, Value.int IntKind.u8 0, Value.int IntKind.u8 0, Value.int IntKind.u8 0, Value.int IntKind.u8 0, Value.int IntKind.u8 0, Value.int IntKind.u8 0, Value.int IntKind.u8 0, Value.int IntKind.u8 0, Value.int IntKind.u8 0, Value.int IntKind.u8 0, Value.int IntKind.u8 0, Value.int IntKind.u8 0, Value.int IntKind.u8 0, Value.int IntKind.u8 0, Value.int IntKind.u8 0, Value.int IntKind.u8 0, Value.int IntKind.u8 0, Value.int IntKind.u8 0, Value.int IntKind.u8 0, Value.int IntKind.u8 0, Value.int IntKind.u8 0, Value.int IntKind.u8 0, Value.int IntKind.u8 0, Value.int IntKind.u8 0, Value.int IntKind.u8 0, Value.int IntKind.u8 0, Value.int IntKind.u8 0, Value.int IntKind.u8 0, Value.int IntKind.u8 0, Value.int IntKind.u8 0, Value.int IntKind.u8 0, Value.int IntKind.u8 0, Value.int IntKind.u8 0, Value.int IntKind.u8 0, Value.int IntKind.u8 0, Value.int IntKind.u8 0, Value.int IntKind.u8 0, Value.int IntKind.u8 0, Value.int IntKind.u8 0, Value.int IntKind.u8 0, Value.int IntKind.u8 0, Value.int IntKind.u8 0, Value.int IntKind.u8 0, Value.int IntKind.u8 0] 119)) (w.heap.size + 1) 49 12 (bytesV nb) := by
    have := heap_new (w.alloc (Obj.cells (arrA 32 (bytesV kb)) 34)) (Obj.cells (arrA 12 (bytesV nb)) 49)
    rw [World.size_alloc] at this
    exact (row_of_heap this).alloc _
  have a2 : World.rowIs (((w.alloc (Obj.cells (arrA 32 (bytesV kb)) 34)).alloc (Obj.cells (arrA 12 (bytesV nb)) 49)).alloc (Obj.cells #[Value.int IntKind.u8 0, Value.int IntKind.u8 0, Value.int IntKind.u8 0, Value.int IntKind.u8 0, Value.int IntKind.u8 0, Value.int IntKind.u8 0, Value.int IntKind.u8 0, Value.int IntKind.u8 0, Value.int IntKind.u8 0, Value.int IntKind.u8 0, Value.int IntKind.u8 0, Value.int IntKind.u8 0, Value.int IntKind.u8 0, Value.int IntKind.u8 0, Value.int IntKind.u8 0, Value.int IntKind.u8 0, Value.int IntKind.u8 0, Value.int IntKind.u8 0, Value.int IntKind.u8 0, Value.int IntKind.u8 0, Value.int IntKind.u8 0, Value.int IntKind.u8 0, Value.int IntKind.u8 0, Value.int IntKind.u8 0, Value.int IntKind.u8 0, Value.int IntKind.u8 0, Value.int IntKind.u8 0, Value.int IntKind.u8 0, Value.int IntKind.u8 0, Value.int IntKind.u8 0, Value.int IntKind.u8 0, Value.int IntKind.u8 0, Value.int IntKind.u8 0, Value.int IntKind.u8 0, Value.int IntKind.u8 0, Value.int IntKind.u8 0, Value.int IntKind.u8 0, Value.int IntKind.u8 0, Value.int IntKind.u8 0, Value.int IntKind.u8 0, Value.int IntKind.u8 0, Value.int IntKind.u8 0, Value.int IntKind.u8 0, Value.int IntKind.u8 0, Value.int IntKind.u8 0, Value.int IntKind.u8 0, Value.int IntKind.u8 0, Value.int IntKind.u8 0, Value.int IntKind.u8 0, Value.int IntKind.u8 0, Value.int IntKind.u8 0, Value.int IntKind.u8 0, Value.int IntKind.u8 0, Value.int IntKind.u8 0, Value.int IntKind.u8 0, Value.int IntKind.u8 0, Value.int IntKind.u8 0, Value.int IntKind.u8 0, Value.int IntKind.u8 0, Value.int IntKind.u8 0, Value.int IntKind.u8 0, Value.int IntKind.u8 0, Value.int IntKind.u8 0, Value.int IntKind.u8 0] 119)) (w.heap.size + 1 + 1) 119 64 (fun _ => .int .u8 0) := by
    have := zero64_row ((w.alloc (Obj.cells (arrA 32 (bytesV kb)) 34)).alloc (Obj.cells (arrA 12 (bytesV nb)) 49))
    rw [World.size_alloc, World.size_alloc] at this
    exact this
  have a4 : Below w.heap.size w (((w.alloc (Obj.cells (arrA 32 (bytesV kb)) 34)).alloc (Obj.cells (arrA 12 (bytesV nb)) 49)).alloc (Obj.cells #[Value.int IntKind.u8 0, Value.int IntKind.u8 0, Value.int IntKind.u8 0, Value.int IntKind.u8 0, Value.int IntKind.u8 0, Value.int IntKind.u8 0, Value.int IntKind.u8 0, Value.int IntKind.u8 0, Value.int IntKind.u8 0, Value.int IntKind.u8 0, Value.int IntKind.u8 0, Value.int IntKind.u8 0, Value.int IntKind.u8 0, Value.int IntKind.u8 0, Value.int IntKind.u8 0, Value.int IntKind.u8 0, Value.int IntKind.u8 0, Value.int IntKind.u8 0, Value.int IntKind.u8 0, Value.int IntKind.u8 0, Value.int IntKind.u8 0, Value.int IntKind.u8 0, Value.int IntKind.u8 0, Value.int IntKind.u8 0, Value.int IntKind.u8 0, Value.int IntKind.u8 0, Value.int IntKind.u8 0, Value.int IntKind.u8 0, Value.int IntKind.u8 0, Value.int IntKind.u8 0, Value.int IntKind.u8 0, Value.int IntKind.u8 0, Value.int IntKind.u8 0, Value.int IntKind.u8 0, Value.int IntKind.u8 0, Value.int IntKind.u8 0, Value.int IntKind.u8 0, Value.int IntKind.u8 0, Value.int IntKind.u8 0, Value.int IntKind.u8 0, Value.int IntKind.u8 0, Value.int IntKind.u8 0, Value.int IntKind.u8 0, Value.int IntKind.u8 0, Value.int IntKind.u8 0, Value.int IntKind.u8 0, Value.int IntKind.u8 0, Value.int IntKind.u8 0, Value.int IntKind.u8 0, Value.int IntKind.u8 0, Value.int IntKind.u8 0, Value.int IntKind.u8 0, Value.int IntKind.u8 0, Value.int IntKind.u8 0, Value.int IntKind.u8 0, Value.int IntKind.u8 0, Value.int IntKind.u8 0, Value.int IntKind.u8 0, Value.int IntKind.u8 0, Value.int IntKind.u8 0, Value.int IntKind.u8 0, Value.int IntKind.u8 0, Value.int IntKind.u8 0, Value.int IntKind.u8 0] 119)) := (((Below.refl _ w).alloc (Nat.le_refl _) _).alloc (by simp) _).alloc (by simp; omega) _
  obtain ⟨W0, hW0⟩ : ∃ W0, (((w.alloc (Obj.cells (arrA 32 (bytesV kb)) 34)).alloc (Obj.cells (arrA 12 (bytesV nb)) 49)).alloc (Obj.cells #[Value.int IntKind.u8 0, Value.int IntKind.u8 0, Value.int IntKind.u8 0, Value.int IntKind.u8 0, Value.int IntKind.u8 0, Value.int IntKind.u8 0, Value.int IntKind.u8 0, Value.int IntKind.u8 0, Value.int IntKind.u8 0, Value.int IntKind.u8 0, Value.int IntKind.u8 0, Value.int IntKind.u8 0, Value.int IntKind.u8 0, Value.int IntKind.u8 0, Value.int IntKind.u8 0, Value.int IntKind.u8 0, Value.int IntKind.u8 0, Value.int IntKind.u8 0, Value.int IntKind.u8 0, Value.int IntKind.u8 0, Value.int IntKind.u8 0, Value.int IntKind.u8 0, Value.int IntKind.u8 0, Value.int IntKind.u8 0, Value.int IntKind.u8 0, Value.int IntKind.u8 0, Value.int IntKind.u8 0, Value.int IntKind.u8 0, Value.int IntKind.u8 0, Value.int IntKind.u8 0, Value.int IntKind.u8 0, Value.int IntKind.u8 0, Value.int IntKind.u8 0, Value.int IntKind.u8 0, Value.int IntKind.u8 0, Value.int IntKind.u8 0, Value.int IntKind.u8 0, Value.int IntKind.u8 0, Value.int IntKind.u8 0, Value.int IntKind.u8 0, Value.int IntKind.u8 0, Value.int IntKind.u8 0, Value.int IntKind.u8 0, Value.int IntKind.u8 0, Value.int IntKind.u8 0, Value.int IntKind.u8 0, Value.int IntKind.u8 0, Value.int IntKind.u8 0, Value.int IntKind.u8 0, Value.int IntKind.u8 0, Value.int IntKind.u8 0, Value.int IntKind.u8 0, Value.int IntKind.u8 0, Value.int IntKind.u8 0, Value.int IntKind.u8 0, Value.int IntKind.u8 0, Value.int IntKind.u8 0, Value.int IntKind.u8 0, Value.int IntKind.u8 0, Value.int IntKind.u8 0, Value.int IntKind.u8 0, Value.int IntKind.u8 0, Value.int IntKind.u8 0, Value.int IntKind.u8 0] 119)) = W0 := ⟨_, rfl⟩
  rw [hW0] at a0 a1 a2 a4 ⊢
  clear hW0
  have z := zeroQ_row W0
  have hFl : w.heap.size + 1 + 1 < W0.heap.size := a2.lt
  have t0 : QB w.heap.size W0.heap.size kb nb (bgK kb 0) w ((W0.alloc (Obj.cells #[Value.int IntKind.u64 0, Value.int IntKind.u64 0, Value.int IntKind.u64 0, Value.int IntKind.u64 0, Value.int IntKind.u64 0, Value.int IntKind.u64 0, Value.int IntKind.u64 0, Value.int IntKind.u64 0, Value.int IntKind.u64 0, Value.int IntKind.u64 0, Value.int IntKind.u64 0, Value.int IntKind.u64 0, Value.int IntKind.u64 0, Value.int IntKind.u64 0, Value.int IntKind.u64 0, Value.int IntKind.u64 0] 135)).setRow W0.heap.size (arrA 16 (wordsQ (bgK kb 0)))) :=
    ⟨rowIs_setOther (a0.alloc _) (by omega) _, rowIs_setOther (a1.alloc _) (by omega) _, rowIs_setOther (a2.alloc _) (by omega) _, rowIs_setRow z _, hFl, below_setRow (a4.alloc (by omega) _) (by omega) _⟩
  go_upto_region 2 with (refine store_arr rfl 135 _ _ rfl 16 135 W0.heap.size _ (wordsQ (bgK kb 0)) rfl rfl z siz135 (fun _ => rfl) ?_)
  try simp only [Act.put, List.setIfInBounds_toArray, List.set_cons_succ, List.set_cons_zero]
  obtain ⟨F, hF⟩ : ∃ F, W0.heap.size = F := ⟨_, rfl⟩
  obtain ⟨W1, hW1⟩ : ∃ W1, (W0.alloc (Obj.cells #[Value.int IntKind.u64 0, Value.int IntKind.u64 0, Value.int IntKind.u64 0, Value.int IntKind.u64 0, Value.int IntKind.u64 0, Value.int IntKind.u64 0, Value.int IntKind.u64 0, Value.int IntKind.u64 0, Value.int IntKind.u64 0, Value.int IntKind.u64 0, Value.int IntKind.u64 0, Value.int IntKind.u64 0, Value.int IntKind.u64 0, Value.int IntKind.u64 0, Value.int IntKind.u64 0, Value.int IntKind.u64 0] 135)).setRow W0.heap.size (arrA 16 (wordsQ (bgK kb 0))) = W1 := ⟨_, rfl⟩
  rw [hW1] at t0 ⊢
  rw [hF] at t0 ⊢
  clear hW1 hF hFl z a0 a1 a2 a4
  go_wp2_with fail

  go_loopw [8] (fun a wx => ∃ i : Nat, i ≤ 8 ∧ a = .int .i64 (i : Int) ∧ QB w.heap.size F kb nb (bgK kb i) w wx) (fun a _ => 8 - (intOf a).toNat)
  case atStart => exact ⟨0, by omega, rfl, t0⟩
  case round =>
    clear t0
    obtain ⟨i, hi, rfl, t1⟩ := hrel
    by_cases hlt : i < 8
    · have c0 : decide ((i : Int) < 8) = true := decide_eq_true (by omega)
      obtain ⟨p, hp⟩ : ∃ p, 4 + i = p := ⟨_, rfl⟩
      obtain ⟨q, hq⟩ : ∃ q, 4 * i = q := ⟨_, rfl⟩
      have e1 : IntKind.i64.wrap (4 + (i : Int)) = (p : Int) := by rw [IntWalk.i64_in _ (by omega)]; omega
      have e2 : IntKind.i64.wrap (4 * (i : Int)) = (q : Int) := by rw [IntWalk.i64_in _ (by omega)]; omega
      have p1 : (p : Int) < 16 := by omega
      have p2 : p < 16 := by omega
      have hcv := conv_arr t1.kr
      obtain ⟨tk, htk⟩ : ∃ tk, txt 32 kb = tk := ⟨_, rfl⟩
      have htl : tk.size = 32 := by rw [← htk, txt_size]
      have hw := rword_any tk q wr ⟨by omega, by omega⟩
      have hval : w4 (byt tk q).toNat (byt tk (q + 1)).toNat (byt tk (q + 2)).toNat (byt tk (q + 3)).toNat = cwA kb i := by
        rw [← htk, byt_txt _ _ hkb _ (by omega), byt_txt _ _ hkb _ (by omega), byt_txt _ _ hkb _ (by omega), byt_txt _ _ hkb _ (by omega), cwA, hq]
        simp
      rw [hval] at hw
      rw [htk] at hcv
      have hst : bgK kb (i + 1) = upd (bgK kb i) p (cwA kb i) := by rw [← hp]; exact (bgK_step kb i).symm
      have Hst := Lib.hid hst
      clear hst hval hp hq htk htl
      go_wp2_with fail
      refine hw.mono ?_
      rintro e w1 ⟨rfl, nd, rfl⟩
      have t2 := t1.drewN nd
      have d1 : (wr.drewN nd).cell? ⟨F, p, none⟩ = some (.int .u64 ((bgK kb i) p : Int)) := t2.fb.cell p2
      have d2 := t2.fb.frozen p
      go_wp2
      go_roundw
      case rel =>
        refine ⟨i + 1, by omega, by go_num, ?_⟩
        rw [Hst.out]
        exact t2.put p _
      case measure => simp [intOf]; omega
    · have c0 : decide ((i : Int) < 8) = false := decide_eq_false (by omega)
      obtain rfl : i = 8 := by omega
      rw [show ((8 : Nat) : Int) = 8 from rfl]
      obtain ⟨U8, rfl⟩ : ∃ U, U = wr := ⟨wr, rfl⟩

      have hst0 := bgN_zero kb nb n
      have d1 : U8.cell? ⟨F, 12, none⟩ = some (.int .u64 (bgK kb 8 12 : Int)) := t1.fb.cell (by omega)
      have d2 := t1.fb.frozen 12
      have t0 : QB w.heap.size F kb nb (bgN kb nb n 0) w (U8.setCell ⟨F, 12, none⟩ (.int .u64 (n : Int))) := hst0 ▸ t1.put 12 n
      go_upto_region 7 with fail
      obtain ⟨W2, hW2⟩ : ∃ W2, U8.setCell ⟨F, 12, none⟩ (.int .u64 (n : Int)) = W2 := ⟨_, rfl⟩
      rw [hW2] at t0 ⊢
      clear hW2 hst0 d1 d2 t1
      go_wp2_with fail

      go_loopw [9] (fun a wx => ∃ i : Nat, i ≤ 3 ∧ a = .int .i64 (i : Int) ∧ QB w.heap.size F kb nb (bgN kb nb n i) w wx) (fun a _ => 3 - (intOf a).toNat)
      case atStart => exact ⟨0, by omega, rfl, t0⟩
      case round =>
        clear t0
        obtain ⟨i, hi, rfl, t1⟩ := hrel
        by_cases hlt : i < 3
        · have c0 : decide ((i : Int) < 3) = true := decide_eq_true (by omega)
          obtain ⟨p, hp⟩ : ∃ p, 13 + i = p := ⟨_, rfl⟩
          obtain ⟨q, hq⟩ : ∃ q, 4 * i = q := ⟨_, rfl⟩
          have e1 : IntKind.i64.wrap (13 + (i : Int)) = (p : Int) := by rw [IntWalk.i64_in _ (by omega)]; omega
          have e2 : IntKind.i64.wrap (4 * (i : Int)) = (q : Int) := by rw [IntWalk.i64_in _ (by omega)]; omega
          have p1 : (p : Int) < 16 := by omega
          have p2 : p < 16 := by omega
          have hcv := conv_arr t1.nr
          obtain ⟨tk, htk⟩ : ∃ tk, txt 12 nb = tk := ⟨_, rfl⟩
          have htl : tk.size = 12 := by rw [← htk, txt_size]
          have hw := rword_any tk q wr ⟨by omega, by omega⟩
          have hval : w4 (byt tk q).toNat (byt tk (q + 1)).toNat (byt tk (q + 2)).toNat (byt tk (q + 3)).toNat = cwA nb i := by
            rw [← htk, byt_txt _ _ hnb _ (by omega), byt_txt _ _ hnb _ (by omega), byt_txt _ _ hnb _ (by omega), byt_txt _ _ hnb _ (by omega), cwA, hq]
            simp
          rw [hval] at hw
          rw [htk] at hcv
          have hst : bgN kb nb n (i + 1) = upd (bgN kb nb n i) p (cwA nb i) := by rw [← hp]; exact (bgN_step kb nb n i).symm
          have Hst := Lib.hid hst
          clear hst hval hp hq htk htl
          go_wp2_with fail
          refine hw.mono ?_
          rintro e w1 ⟨rfl, nd, rfl⟩
          have t2 := t1.drewN nd
          have d1 : (wr.drewN nd).cell? ⟨F, p, none⟩ = some (.int .u64 ((bgN kb nb n i) p : Int)) := t2.fb.cell p2
          have d2 := t2.fb.frozen p
          go_wp2
          go_roundw
          case rel =>
            refine ⟨i + 1, by omega, by go_num, ?_⟩
            rw [Hst.out]
            exact t2.put p _
          case measure => simp [intOf]; omega
        · have c0 : decide ((i : Int) < 3) = false := decide_eq_false (by omega)
          obtain rfl : i = 3 := by omega
          rw [show ((3 : Nat) : Int) = 3 from rfl]
          obtain ⟨U9, rfl⟩ : ∃ U, U = wr := ⟨wr, rfl⟩

          change QB w.heap.size F kb nb (begC kb nb n) w U9 at t1
          have hfw : Words (begC kb nb n) := begC_words hkb hnb hn32
          have HblkB := Lib.hid (show blkB kb nb n = dgB (fun i => (crnds 10 (begC kb nb n) i + begC kb nb n i) % 4294967296) from rfl)
          obtain ⟨f, hf⟩ : ∃ f, begC kb nb n = f := ⟨_, rfl⟩
          rw [hf] at t1 hfw HblkB
          clear hf
          have z := zeroQ_row U9
          have hFV : F < U9.heap.size := t1.fb.lt
          have h1 := t1.hF
          have t0 : QX w.heap.size F U9.heap.size f (crnds 0 f) w ((U9.alloc (Obj.cells #[Value.int IntKind.u64 0, Value.int IntKind.u64 0, Value.int IntKind.u64 0, Value.int IntKind.u64 0, Value.int IntKind.u64 0, Value.int IntKind.u64 0, Value.int IntKind.u64 0, Value.int IntKind.u64 0, Value.int IntKind.u64 0, Value.int IntKind.u64 0, Value.int IntKind.u64 0, Value.int IntKind.u64 0, Value.int IntKind.u64 0, Value.int IntKind.u64 0, Value.int IntKind.u64 0, Value.int IntKind.u64 0] 135)).setRow U9.heap.size (arrA 16 (wordsQ f))) :=
            ⟨rowIs_setOther (t1.rb.alloc _) (by omega) _, rowIs_setOther (t1.fb.alloc _) (by omega) _, rowIs_setRow z _, h1, hFV, below_setRow (t1.below.alloc (by omega) _) (by omega) _⟩
          go_upto_region 12 with (first | (refine load_arr rfl 135 _ rfl 16 32 135 F _ rfl t1.fb und135 siz135 ?_) | (refine store_arr rfl 135 _ _ rfl 16 135 U9.heap.size _ (wordsQ f) rfl rfl z siz135 (fun _ => rfl) ?_))
          try simp only [Act.put, List.setIfInBounds_toArray, List.set_cons_succ, List.set_cons_zero]
          obtain ⟨V, hV⟩ : ∃ V, U9.heap.size = V := ⟨_, rfl⟩
          obtain ⟨W3, hW3⟩ : ∃ W3, (U9.alloc (Obj.cells #[Value.int IntKind.u64 0, Value.int IntKind.u64 0, Value.int IntKind.u64 0, Value.int IntKind.u64 0, Value.int IntKind.u64 0, Value.int IntKind.u64 0, Value.int IntKind.u64 0, Value.int IntKind.u64 0, Value.int IntKind.u64 0, Value.int IntKind.u64 0, Value.int IntKind.u64 0, Value.int IntKind.u64 0, Value.int IntKind.u64 0, Value.int IntKind.u64 0, Value.int IntKind.u64 0, Value.int IntKind.u64 0] 135)).setRow U9.heap.size (arrA 16 (wordsQ f)) = W3 := ⟨_, rfl⟩
          rw [hW3] at t0 ⊢
          rw [hV] at t0 ⊢
          clear hW3 hV hFV h1 z t1
          go_wp2_with fail
          go_loopw [11] (fun a wx => ∃ r : Nat, r ≤ 10 ∧ a = .int .i64 (r : Int) ∧ QX w.heap.size F V f (crnds r f) w wx) (fun a _ => 10 - (intOf a).toNat)
          case atStart => exact ⟨0, by omega, rfl, t0⟩
          case round =>
            clear t0
            obtain ⟨r, hr, rfl, t1⟩ := hrel
            have hwr := crnds_words hfw r
            by_cases hlt : r < 10
            · have c2 : decide ((r : Int) < 10) = true := decide_eq_true (by omega)
              obtain ⟨v, hv⟩ : ∃ v, crnds r f = v := ⟨_, rfl⟩
              have hvn : crnds (r + 1) f = csts 8 v := by rw [← hv]; rfl
              rw [hv] at t1 hwr
              have Hv := Lib.hid hvn
              clear hv hvn
              obtain ⟨X, rfl⟩ : ∃ X, X = wr := ⟨wr, rfl⟩
              go_wp2_with fail
              go_loopw [12] (fun a wx => ∃ i : Nat, i ≤ 4 ∧ a = .int .i64 (i : Int) ∧ QX w.heap.size F V f (csts i v) w wx) (fun a _ => 4 - (intOf a).toNat)
              case atStart => exact ⟨0, by omega, rfl, t1⟩
              case round =>
                clear t1
                obtain ⟨i, hi, rfl, t1⟩ := hrel
                by_cases hlt : i < 4
                · have c3 : decide ((i : Int) < 4) = true := decide_eq_true (by omega)
                  obtain ⟨b1, hb1⟩ : ∃ b1, 4 + i = b1 := ⟨_, rfl⟩
                  obtain ⟨b2, hb2⟩ : ∃ b2, 8 + i = b2 := ⟨_, rfl⟩
                  obtain ⟨b3, hb3⟩ : ∃ b3, 12 + i = b3 := ⟨_, rfl⟩
                  have e1 : IntKind.i64.wrap (4 + (i : Int)) = (b1 : Int) := by rw [IntWalk.i64_in _ (by omega)]; omega
                  have e2 : IntKind.i64.wrap (8 + (i : Int)) = (b2 : Int) := by rw [IntWalk.i64_in _ (by omega)]; omega
                  have e3 : IntKind.i64.wrap (12 + (i : Int)) = (b3 : Int) := by rw [IntWalk.i64_in _ (by omega)]; omega
                  have hst : cst (csts i v) i b1 b2 b3 2 = csts (i + 1) v := by
                    show _ = cstp i (csts i v)
                    rw [cstp, if_pos hlt, hb1, hb2, hb3]
                  have hs := fun W => qstep_any i b1 b2 b3 (csts i v) W (csts_words hwr _) (by omega) (by omega) (by omega) (by omega)
                  rw [hst] at hs
                  obtain ⟨v1, hv1⟩ : ∃ v1, csts i v = v1 := ⟨_, rfl⟩
                  obtain ⟨v2, hv2⟩ : ∃ v2, csts (i + 1) v = v2 := ⟨_, rfl⟩
                  rw [hv1] at t1 hs
                  rw [hv2] at hs
                  have Hv2 := Lib.hid hv2
                  clear hst hb1 hb2 hb3 hv1 hv2
                  go_wp2_with (refine load_arr rfl 135 _ rfl 16 32 135 V _ rfl t1.vb und135 siz135 ?_)
                  refine (hs _).mono ?_
                  rintro e w3 ⟨rfl, hg⟩
                  have t2 := t1.past hg
                  go_wp2_with (refine store_arr rfl 135 _ _ rfl 16 135 V _ _ rfl rfl t2.vb siz135 (fun _ => rfl) ?_)
                  go_roundw
                  case rel => exact ⟨i + 1, by omega, by go_num, Hv2.out ▸ t2.setV v2⟩
                  case measure => simp [intOf]; omega
                · have c3 : decide ((i : Int) < 4) = false := decide_eq_false (by omega)
                  obtain rfl : i = 4 := by omega
                  rw [show ((4 : Nat) : Int) = 4 from rfl]
                  obtain ⟨Y, rfl⟩ : ∃ Y, Y = wr := ⟨wr, rfl⟩
                  go_wp2_with fail
                  go_loopw [13] (fun a wx => ∃ i : Nat, i ≤ 4 ∧ a = .int .i64 (i : Int) ∧ QX w.heap.size F V f (csts (4 + i) v) w wx) (fun a _ => 4 - (intOf a).toNat)
                  case atStart => exact ⟨0, by omega, rfl, t1⟩
                  case round =>
                    clear t1
                    obtain ⟨i, hi, rfl, t1⟩ := hrel
                    by_cases hlt : i < 4
                    · have c3 : decide ((i : Int) < 4) = true := decide_eq_true (by omega)
                      have e1 : IntKind.i64.wrap ((i : Int) + 1) = (i : Int) + 1 := IntWalk.i64_in _ (by omega)
                      have e2 : IntKind.i64.wrap ((i : Int) + 2) = (i : Int) + 2 := IntWalk.i64_in _ (by omega)
                      have e3 : IntKind.i64.wrap ((i : Int) + 3) = (i : Int) + 3 := IntWalk.i64_in _ (by omega)
                      obtain ⟨b1, hb1⟩ : ∃ b1, 4 + (i + 1) % 4 = b1 := ⟨_, rfl⟩
                      obtain ⟨b2, hb2⟩ : ∃ b2, 8 + (i + 2) % 4 = b2 := ⟨_, rfl⟩
                      obtain ⟨b3, hb3⟩ : ∃ b3, 12 + (i + 3) % 4 = b3 := ⟨_, rfl⟩
                      have f1 : IntKind.i64.wrap (4 + ((i : Int) + 1) % 4) = (b1 : Int) := by rw [IntWalk.i64_in _ (by omega)]; omega
                      have f2 : IntKind.i64.wrap (8 + ((i : Int) + 2) % 4) = (b2 : Int) := by rw [IntWalk.i64_in _ (by omega)]; omega
                      have f3 : IntKind.i64.wrap (12 + ((i : Int) + 3) % 4) = (b3 : Int) := by rw [IntWalk.i64_in _ (by omega)]; omega
                      have hst : cst (csts (4 + i) v) i b1 b2 b3 2 = csts (4 + (i + 1)) v := by
                        show _ = cstp (4 + i) (csts (4 + i) v)
                        rw [cstp, if_neg (by omega), show 4 + i - 4 = i by omega, hb1, hb2, hb3]
                      have hs := fun W => qstep_any i b1 b2 b3 (csts (4 + i) v) W (csts_words hwr _) (by omega) (by omega) (by omega) (by omega)
                      rw [hst] at hs
                      obtain ⟨v1, hv1⟩ : ∃ v1, csts (4 + i) v = v1 := ⟨_, rfl⟩
                      obtain ⟨v2, hv2⟩ : ∃ v2, csts (4 + (i + 1)) v = v2 := ⟨_, rfl⟩
                      rw [hv1] at t1 hs
                      rw [hv2] at hs
                      have Hv2 := Lib.hid hv2
                      clear hst hb1 hb2 hb3 hv1 hv2
                      go_wp2_with (refine load_arr rfl 135 _ rfl 16 32 135 V _ rfl t1.vb und135 siz135 ?_)
                      refine (hs _).mono ?_
                      rintro e w3 ⟨rfl, hg⟩
                      have t2 := t1.past hg
                      go_wp2_with (refine store_arr rfl 135 _ _ rfl 16 135 V _ _ rfl rfl t2.vb siz135 (fun _ => rfl) ?_)
                      go_roundw
                      case rel => exact ⟨i + 1, by omega, by go_num, Hv2.out ▸ t2.setV v2⟩
                      case measure => simp [intOf]; omega
                    · have c3 : decide ((i : Int) < 4) = false := decide_eq_false (by omega)
                      obtain rfl : i = 4 := by omega
                      go_wp2
                      go_roundw
                      case rel =>
                        refine ⟨r + 1, by omega, by go_num, ?_⟩
                        rw [Hv.out]
                        exact t1
                      case measure => simp [intOf]; omega
            · have c2 : decide ((r : Int) < 10) = false := decide_eq_false (by omega)
              obtain rfl : r = 10 := by omega
              rw [show ((10 : Nat) : Int) = 10 from rfl]
              have hwr := crnds_words hfw 10
              obtain ⟨fv, hfv⟩ : ∃ fv, crnds 10 f = fv := ⟨_, rfl⟩
              rw [hfv] at t1 hwr HblkB
              clear hfv
              obtain ⟨Y, rfl⟩ : ∃ Y, Y = wr := ⟨wr, rfl⟩
              have z := zero64_row Y
              have hVO : V < Y.heap.size := t1.vb.lt
              have hB1 := t1.hF
              have hB2 := t1.hV
              have t2 : QX w.heap.size F V f fv w ((Y.alloc (Obj.cells #[Value.int IntKind.u8 0, Value.int IntKind.u8 0, Value.int IntKind.u8 0, Value.int IntKind.u8 0, Value.int IntKind.u8 0, Value.int IntKind.u8 0, Value.int IntKind.u8 0, Value.int IntKind.u8 0, Value.int IntKind.u8 0, Value.int IntKind.u8 0, Value.int IntKind.u8 0, Value.int IntKind.u8 0, Value.int IntKind.u8 0, Value.int IntKind.u8 0, Value.int IntKind.u8 0, Value.int IntKind.u8 0, Value.int IntKind.u8 0, Value.int IntKind.u8 0, Value.int IntKind.u8 0, Value.int IntKind.u8 0, Value.int IntKind.u8 0, Value.int IntKind.u8 0, Value.int IntKind.u8 0, Value.int IntKind.u8 0, Value.int IntKind.u8 0, Value.int IntKind.u8 0, Value.int IntKind.u8 0, Value.int IntKind.u8 0, Value.int IntKind.u8 0, Value.int IntKind.u8 0, Value.int IntKind.u8 0, Value.int IntKind.u8 0, Value.int IntKind.u8 0, Value.int IntKind.u8 0, Value.int IntKind.u8 0, Value.int IntKind.u8 0, Value.int IntKind.u8 0, Value.int IntKind.u8 0, Value.int IntKind.u8 0, Value.int IntKind.u8 0, Value.int IntKind.u8 0, Value.int IntKind.u8 0, Value.int IntKind.u8 0, Value.int IntKind.u8 0, Value.int IntKind.u8 0, Value.int IntKind.u8 0, Value.int IntKind.u8 0, Value.int IntKind.u8 0, Value.int IntKind.u8 0, Value.int IntKind.u8 0, Value.int IntKind.u8 0, Value.int IntKind.u8 0, Value.int IntKind.u8 0, Value.int IntKind.u8 0, Value.int IntKind.u8 0, Value.int IntKind.u8 0, Value.int IntKind.u8 0, Value.int IntKind.u8 0, Value.int IntKind.u8 0, Value.int IntKind.u8 0, Value.int IntKind.u8 0, Value.int IntKind.u8 0, Value.int IntKind.u8 0, Value.int IntKind.u8 0] 119)).setRow Y.heap.size (arrA 64 (bytesV (dgP (blkB kb nb n) 0)))) :=
                ⟨rowIs_setOther (t1.rb.alloc _) (by omega) _, rowIs_setOther (t1.fb.alloc _) (by omega) _, rowIs_setOther (t1.vb.alloc _) (by omega) _, t1.hF, t1.hV, below_setRow (t1.below.alloc (by omega) _) (by omega) _⟩
              have hz : World.rowIs ((Y.alloc (Obj.cells #[Value.int IntKind.u8 0, Value.int IntKind.u8 0, Value.int IntKind.u8 0, Value.int IntKind.u8 0, Value.int IntKind.u8 0, Value.int IntKind.u8 0, Value.int IntKind.u8 0, Value.int IntKind.u8 0, Value.int IntKind.u8 0, Value.int IntKind.u8 0, Value.int IntKind.u8 0, Value.int IntKind.u8 0, Value.int IntKind.u8 0, Value.int IntKind.u8 0, Value.int IntKind.u8 0, Value.int IntKind.u8 0, Value.int IntKind.u8 0, Value.int IntKind.u8 0, Value.int IntKind.u8 0, Value.int IntKind.u8 0, Value.int IntKind.u8 0, Value.int IntKind.u8 0, Value.int IntKind.u8 0, Value.int IntKind.u8 0, Value.int IntKind.u8 0, Value.int IntKind.u8 0, Value.int IntKind.u8 0, Value.int IntKind.u8 0, Value.int IntKind.u8 0, Value.int IntKind.u8 0, Value.int IntKind.u8 0, Value.int IntKind.u8 0, Value.int IntKind.u8 0, Value.int IntKind.u8 0, Value.int IntKind.u8 0, Value.int IntKind.u8 0, Value.int IntKind.u8 0, Value.int IntKind.u8 0, Value.int IntKind.u8 0, Value.int IntKind.u8 0, Value.int IntKind.u8 0, Value.int IntKind.u8 0, Value.int IntKind.u8 0, Value.int IntKind.u8 0, Value.int IntKind.u8 0, Value.int IntKind.u8 0, Value.int IntKind.u8 0, Value.int IntKind.u8 0, Value.int IntKind.u8 0, Value.int IntKind.u8 0, Value.int IntKind.u8 0, Value.int IntKind.u8 0, Value.int IntKind.u8 0, Value.int IntKind.u8 0, Value.int IntKind.u8 0, Value.int IntKind.u8 0, Value.int IntKind.u8 0, Value.int IntKind.u8 0, Value.int IntKind.u8 0, Value.int IntKind.u8 0, Value.int IntKind.u8 0, Value.int IntKind.u8 0, Value.int IntKind.u8 0, Value.int IntKind.u8 0] 119)).setRow Y.heap.size (arrA 64 (bytesV (dgP (blkB kb nb n) 0)))) Y.heap.size 119 64 (bytesV (dgP (blkB kb nb n) 0)) := rowIs_setRow z _
              go_upto_region 24 with (refine store_arr rfl 119 _ _ rfl 64 119 Y.heap.size _ (bytesV (dgP (blkB kb nb n) 0)) rfl rfl z siz119 (fun _ => rfl) ?_)
              try simp only [Act.put, List.setIfInBounds_toArray, List.set_cons_succ, List.set_cons_zero]
              obtain ⟨W5, hW5⟩ : ∃ W5, (Y.alloc (Obj.cells #[Value.int IntKind.u8 0, Value.int IntKind.u8 0, Value.int IntKind.u8 0, Value.int IntKind.u8 0, Value.int IntKind.u8 0, Value.int IntKind.u8 0, Value.int IntKind.u8 0, Value.int IntKind.u8 0, Value.int IntKind.u8 0, Value.int IntKind.u8 0, Value.int IntKind.u8 0, Value.int IntKind.u8 0, Value.int IntKind.u8 0, Value.int IntKind.u8 0, Value.int IntKind.u8 0, Value.int IntKind.u8 0, Value.int IntKind.u8 0, Value.int IntKind.u8 0, Value.int IntKind.u8 0, Value.int IntKind.u8 0, Value.int IntKind.u8 0, Value.int IntKind.u8 0, Value.int IntKind.u8 0, Value.int IntKind.u8 0, Value.int IntKind.u8 0, Value.int IntKind.u8 0, Value.int IntKind.u8 0, Value.int IntKind.u8 0, Value.int IntKind.u8 0, Value.int IntKind.u8 0, Value.int IntKind.u8 0, Value.int IntKind.u8 0, Value.int IntKind.u8 0, Value.int IntKind.u8 0, Value.int IntKind.u8 0, Value.int IntKind.u8 0, Value.int IntKind.u8 0, Value.int IntKind.u8 0, Value.int IntKind.u8 0, Value.int IntKind.u8 0, Value.int IntKind.u8 0, Value.int IntKind.u8 0, Value.int IntKind.u8 0, Value.int IntKind.u8 0, Value.int IntKind.u8 0, Value.int IntKind.u8 0, Value.int IntKind.u8 0, Value.int IntKind.u8 0, Value.int IntKind.u8 0, Value.int IntKind.u8 0, Value.int IntKind.u8 0, Value.int IntKind.u8 0, Value.int IntKind.u8 0, Value.int IntKind.u8 0, Value.int IntKind.u8 0, Value.int IntKind.u8 0, Value.int IntKind.u8 0, Value.int IntKind.u8 0, Value.int IntKind.u8 0, Value.int IntKind.u8 0, Value.int IntKind.u8 0, Value.int IntKind.u8 0, Value.int IntKind.u8 0, Value.int IntKind.u8 0] 119)).setRow Y.heap.size (arrA 64 (bytesV (dgP (blkB kb nb n) 0))) = W5 := ⟨_, rfl⟩
              obtain ⟨O, hO⟩ : ∃ O, Y.heap.size = O := ⟨_, rfl⟩
              rw [hW5] at hz t2 ⊢
              rw [hO] at hz hVO ⊢
              clear hW5 hO t1 z
              go_wp2_with fail
              go_loopw [15] (fun a wx => ∃ i : Nat, i ≤ 16 ∧ a = .int .i64 (i : Int) ∧ wx.rowIs O 119 64 (bytesV (dgP (blkB kb nb n) (4 * i))) ∧ QX w.heap.size F V f fv w wx) (fun a _ => 16 - (intOf a).toNat)
              case atStart => exact ⟨0, by omega, rfl, hz, t2⟩
              case round =>
                clear hz t2
                obtain ⟨i, hi, rfl, hz, t2⟩ := hrel
                by_cases hlt8 : i < 16
                · have c3 : decide ((i : Int) < 16) = true := decide_eq_true (by omega)
                  have c4 : (i : Int) < 16 := by omega
                  have d1 : wr.cell? ⟨V, i, none⟩ = some (.int .u64 (fv i : Int)) := t2.vb.cell hlt8
                  have d2 : wr.cell? ⟨F, i, none⟩ = some (.int .u64 (f i : Int)) := t2.fb.cell hlt8
                  have ha := fun W => qadd_any (fv i) (f i) W (hwr i) (hfw i)
                  obtain ⟨y, hy⟩ : ∃ y, (fv i + f i) % 4294967296 = y := ⟨_, rfl⟩
                  have hyl : y < 4294967296 := by rw [← hy]; exact Nat.mod_lt _ (by omega)
                  rw [hy] at ha
                  have Hy := Lib.hid hy
                  clear hy
                  go_wp2_with fail
                  refine wp_region_still_lit (by kernel_rfl) (by kernel_rfl) ?_
                  change wpStill _ _ wr.drew (fun a' => (Exit.then _ _) Exit.normal a' wr.drew) _ _
                  repeat still_step
                  refine still_call (F := 113) rfl (by go_simp) (ha wr.drew) ?_
                  simp only [Act.put, Array.setIfInBounds, List.size_toArray, List.set_toArray, List.set_cons_succ, List.set_cons_zero]
                  repeat still_step
                  try refine wpStill_nil ?_
                  have t3 : QX w.heap.size F V f fv w wr.drew := t2.drewN 1
                  have hz3 : wr.drew.rowIs O 119 64 (bytesV (dgP (blkB kb nb n) (4 * i))) := hz.drew
                  clear d1 d2 t2 hz ha
                  obtain ⟨Z, hZ⟩ : ∃ Z, wr.drew = Z := ⟨_, rfl⟩
                  rw [hZ] at t3 hz3 ⊢
                  clear hZ
                  go_wp2_with fail
                  go_loopw [17, 16] (fun a c wx => ∃ k : Nat, k ≤ 4 ∧ a = .int .i64 (k : Int) ∧ c = .int .u64 ((y / 256 ^ k : Nat) : Int) ∧ wx.rowIs O 119 64 (bytesV (dgP (blkB kb nb n) (4 * i + k))) ∧ QX w.heap.size F V f fv w wx) (fun a c _ => 4 - (intOf a).toNat)
                  case atStart => exact ⟨0, by omega, rfl, by simp, hz3, t3⟩
                  case round =>
                    clear hz3 t3
                    obtain ⟨k, hk4, rfl, rfl, hz, t3⟩ := hrel
                    by_cases hlt4 : k < 4
                    · have c5 : decide ((k : Int) < 4) = true := decide_eq_true (by omega)
                      have g1 : IntKind.i64.wrap (4 * (i : Int)) = 4 * (i : Int) := IntWalk.i64_in _ (by omega)
                      obtain ⟨p, hp⟩ : ∃ p, 4 * i + k = p := ⟨_, rfl⟩
                      have g2 : IntKind.i64.wrap (4 * (i : Int) + (k : Int)) = (p : Int) := by rw [IntWalk.i64_in _ (by omega)]; omega
                      have hp32 : p < 64 := by omega
                      have hp32' : (p : Int) < 64 := by omega
                      rw [hp] at hz
                      have hval : blkB kb nb n p = y / 256 ^ k % 256 := by
                        rw [HblkB.out, dgB, show p / 4 = i by omega, show p % 4 = k by omega, Hy.out]
                      obtain ⟨yk, hyk⟩ : ∃ yk, y / 256 ^ k = yk := ⟨_, rfl⟩
                      have hykl : yk < 4294967296 := by rw [← hyk]; exact Nat.lt_of_le_of_lt (Nat.div_le_self _ _) hyl
                      have hyk2 : y / 256 ^ (k + 1) = yk / 256 := by rw [Nat.pow_succ, ← Nat.div_div_eq_div_mul, hyk]
                      rw [hyk] at hval ⊢
                      have Hval := Lib.hid hval
                      have Hyk2 := Lib.hid hyk2
                      have d1 : wr.cell? ⟨O, p, none⟩ = some (.int .u8 (dgP (blkB kb nb n) p p : Int)) := hz.cell hp32
                      have d2 := hz.frozen p
                      have Hp := Lib.hid hp
                      clear hp hval hyk hyk2
                      go_wp2
                      go_roundw
                      case rel =>
                        have h2 := t3.hV
                        have h1 := t3.hF
                        refine ⟨k + 1, by omega, by go_num, by rw [Hyk2.out]; push_cast; rfl, ?_, ⟨t3.rb.setOther (by dsimp only; omega) _, t3.fb.setOther (by dsimp only; omega) _, t3.vb.setOther (by dsimp only; omega) _, t3.hF, t3.hV, t3.below.setCell (by dsimp only; omega) _⟩⟩
                        have e : (yk : Int) % 256 = ((yk % 256 : Nat) : Int) := by push_cast; rfl
                        rw [e, ← Hval.out, show 4 * i + (k + 1) = p + 1 by have := Hp.out; omega, ← dgP_step]
                        exact (hz.set p _).congr (fun j _ => upd_bytesV _ _ _ _)
                      case measure => simp [intOf]; omega
                    · have c5 : decide ((k : Int) < 4) = false := decide_eq_false (by omega)
                      obtain rfl : k = 4 := by omega
                      go_wp2
                      go_roundw
                      case rel => exact ⟨i + 1, by omega, by go_num, by rw [show 4 * (i + 1) = 4 * i + 4 by omega]; exact hz, t3⟩
                      case measure => simp [intOf]; omega
                · have c3 : decide ((i : Int) < 16) = false := decide_eq_false (by omega)
                  obtain rfl : i = 16 := by omega
                  have hres : arrA 64 (bytesV (dgP (blkB kb nb n) (4 * 16))) = arrA 64 (bytesV (blkB kb nb n)) :=
                    arrA_congr (fun j hj => by rw [bytesV, bytesV, dgP, if_pos (by omega)])
                  have Hres := Lib.hid hres
                  clear hres
                  go_wp2_with (first | (refine load_arr rfl 119 _ rfl 64 5 119 O _ rfl hz und119 siz119 ?_) | (refine store_arr rfl 119 _ _ rfl 64 119 (w.heap.size + 1 + 1) _ _ rfl rfl t2.rb siz119 (fun _ => rfl) ?_))
                  refine bodyPost_ret (result_arr rfl _ _ 64 5 119 (w.heap.size + 1 + 1) _ rfl (rowIs_setRow t2.rb _) und119 siz119) rfl ?_
                  exact ⟨by rw [Hres.out], below_setRow t2.below (by omega) _⟩
end Go.Proofs.Ytnjcganknpnjcaa
