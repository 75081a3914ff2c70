/- hash: the reference takes a block in. -/
import Derived.Test.YtnjcganknpnjcaaGf
import Derived.Test.YtnjcganknpnjcaaGe
set_option linter.unusedVariables false
set_option linter.unusedSimpArgs false
namespace Go.Proofs.Ytnjcganknpnjcaa
open Go.RowKit

/-- What the reference's take keeps. -/
structure RT (B F : Nat) (h v m : Nat → Nat) (w wx : World) : Prop where
  hb : wx.rowIs B 97 8 (wordsV h)
  rb : wx.rowIs (B + 1) 97 8 (fun _ => .int .u32 0)
  vb : wx.rowIs (B + 1 + 1) 129 16 (wordsV v)
  mb : wx.rowIs (B + 1 + 1 + 1) 129 16 (wordsV m)
  fb : wx.rowIs F 97 8 (wordsV iv)
  hF : B + 4 ≤ F
  below : Below B w wx
theorem RT.past {B F : Nat} {h v m : Nat → Nat} {w wx wy : World} (t : RT B F h v m w wx) (hb : Below wx.heap.size wx wy) : RT B F h v m w wy :=
  ⟨t.hb.of_block (hb.block _ t.hb.lt), t.rb.of_block (hb.block _ t.rb.lt), t.vb.of_block (hb.block _ t.vb.lt), t.mb.of_block (hb.block _ t.mb.lt), t.fb.of_block (hb.block _ t.fb.lt), t.hF, t.below.trans (hb.mono (Nat.le_of_lt t.hb.lt))⟩
theorem RT.drewN {B F : Nat} {h v m : Nat → Nat} {w wx : World} (t : RT B F h v m w wx) (n : Nat) : RT B F h v m w (wx.drewN n) := ⟨t.hb, t.rb, t.vb, t.mb, t.fb, t.hF, below_drewN t.below n⟩
theorem RT.putH {B F : Nat} {h v m : Nat → Nat} {w wx : World} (t : RT B F h v m w wx) (i x : Nat) : RT B F (upd h i x) v m w (wx.setCell ⟨B, i, none⟩ (.int .u32 (x : Int))) := by
  have := t.hF
  exact ⟨(t.hb.set i _).congr (fun k _ => upd_wordsV h i x k), t.rb.setOther (by dsimp only; omega) _, t.vb.setOther (by dsimp only; omega) _, t.mb.setOther (by dsimp only; omega) _, t.fb.setOther (by dsimp only; omega) _, t.hF, t.below.setCell (by dsimp only; omega) _⟩
theorem RT.putV {B F : Nat} {h v m : Nat → Nat} {w wx : World} (t : RT B F h v m w wx) (i x : Nat) : RT B F h (upd v i x) m w (wx.setCell ⟨B + 1 + 1, i, none⟩ (.int .u32 (x : Int))) := by
  have := t.hF
  exact ⟨t.hb.setOther (by dsimp only; omega) _, t.rb.setOther (by dsimp only; omega) _, (t.vb.set i _).congr (fun k _ => upd_wordsV v i x k), t.mb.setOther (by dsimp only; omega) _, t.fb.setOther (by dsimp only; omega) _, t.hF, t.below.setCell (by dsimp only; omega) _⟩
theorem RT.putM {B F : Nat} {h v m : Nat → Nat} {w wx : World} (t : RT B F h v m w wx) (i x : Nat) : RT B F h v (upd m i x) w (wx.setCell ⟨B + 1 + 1 + 1, i, none⟩ (.int .u32 (x : Int))) := by
  have := t.hF
  exact ⟨t.hb.setOther (by dsimp only; omega) _, t.rb.setOther (by dsimp only; omega) _, t.vb.setOther (by dsimp only; omega) _, (t.mb.set i _).congr (fun k _ => upd_wordsV m i x k), t.fb.setOther (by dsimp only; omega) _, t.hF, t.below.setCell (by dsimp only; omega) _⟩
theorem RT.setV {B F : Nat} {h v m : Nat → Nat} {w wx : World} (t : RT B F h v m w wx) (v' : Nat → Nat) : RT B F h v' m w (wx.setRow (B + 1 + 1) (arrA 16 (wordsV v'))) := by
  have := t.hF
  exact ⟨rowIs_setOther t.hb (by omega) _, rowIs_setOther t.rb (by omega) _, rowIs_setRow t.vb _, rowIs_setOther t.mb (by omega) _, rowIs_setOther t.fb (by omega) _, t.hF, below_setRow t.below (by omega) _⟩
theorem RT.congrV {B F : Nat} {h v v' m : Nat → Nat} {w wx : World} (t : RT B F h v m w wx) (e : ∀ i, i < 16 → v i = v' i) : RT B F h v' m w wx :=
  ⟨t.hb, t.rb, t.vb.congr (fun i hi => by rw [wordsV, wordsV, e i hi]), t.mb, t.fb, t.hF, t.below⟩

def begP (h : Nat → Nat) (i : Nat) : Nat → Nat := fun j => if j < i then beg0 h j else 0
theorem begP_step (h : Nat → Nat) (i : Nat) : upd (begP h i) i (beg0 h i) = begP h (i + 1) := by
  funext j
  unfold upd begP
  by_cases e : j = i
  · rw [if_pos e, if_pos (by omega), e]
  · rw [if_neg e]
    by_cases h2 : j < i
    · rw [if_pos h2, if_pos (by omega)]
    · rw [if_neg h2, if_neg (by omega)]

set_option maxRecDepth 100000 in
set_option maxHeartbeats 4000000 in
theorem rtake_any (h : Nat → Nat) (s : ByteArray) (count : Nat) (last : Bool) (w : World) (hh : Words h) (hs : s.size = 64) (hc : count < 18446744073709551616) :
    Calls Try.prog 121 #[.agg (arrA 8 (wordsV h)), .string s, .int .u64 (count : Int), .bool last] w fun e w' =>
      e = .returned (.agg (arrA 8 (wordsV (takeV h (msgV s) count last)))) ∧ Below w.heap.size w w' := by
  have hs0 : s.size ≤ 64 := by omega
  go_enter Try.func121, Try.ntmps121
  go_wp2_with fail
  have a0 : World.rowIs ((((w.alloc (Obj.cells (arrA 8 (wordsV h)) 97)).alloc (Obj.cells #[Value.int IntKind.u32 0, Value.int IntKind.u32 0, Value.int IntKind.u32 0, Value.int IntKind.u32 0, Value.int IntKind.u32 0, Value.int IntKind.u32 0, Value.int IntKind.u32 0, Value.int IntKind.u32 0] 97)).alloc (Obj.cells #[Value.int IntKind.u32 0, Value.int IntKind.u32 0, Value.int IntKind.u32 0, Value.int IntKind.u32 0, Value.int IntKind.u32 0, Value.int IntKind.u32 0, Value.int IntKind.u32 0, Value.int IntKind.u32 0, Value.int IntKind.u32 0, Value.int IntKind.u32 0, Value.int IntKind.u32 0, Value.int IntKind.u32 0, Value.int IntKind.u32 0, Value.int IntKind.u32 0, Value.int IntKind.u32 0, Value.int IntKind.u32 0] 129)).alloc (Obj.cells #[Value.int IntKind.u32 0, Value.int IntKind.u32 0, Value.int IntKind.u32 0, Value.int IntKind.u32 0, Value.int IntKind.u32 0, Value.int IntKind.u32 0, Value.int IntKind.u32 0, Value.int IntKind.u32 0, Value.int IntKind.u32 0, Value.int IntKind.u32 0, Value.int IntKind.u32 0, Value.int IntKind.u32 0, Value.int IntKind.u32 0, Value.int IntKind.u32 0, Value.int IntKind.u32 0, Value.int IntKind.u32 0] 129)) w.heap.size 97 8 (wordsV h) := (((row_of_heap (heap_new w _)).alloc _).alloc _).alloc _
  have a1 : World.rowIs ((((w.alloc (Obj.cells (arrA 8 (wordsV h)) 97)).alloc (Obj.cells #[Value.int IntKind.u32 0, Value.int IntKind.u32 0, Value.int IntKind.u32 0, Value.int IntKind.u32 0, Value.int IntKind.u32 0, Value.int IntKind.u32 0, Value.int IntKind.u32 0, Value.int IntKind.u32 0] 97)).alloc (Obj.cells #[Value.int IntKind.u32 0, Value.int IntKind.u32 0, Value.int IntKind.u32 0, Value.int IntKind.u32 0, Value.int IntKind.u32 0, Value.int IntKind.u32 0, Value.int IntKind.u32 0, Value.int IntKind.u32 0, Value.int IntKind.u32 0, Value.int IntKind.u32 0, Value.int IntKind.u32 0, Value.int IntKind.u32 0, Value.int IntKind.u32 0, Value.int IntKind.u32 0, Value.int IntKind.u32 0, Value.int IntKind.u32 0] 129)).alloc (Obj.cells #[Value.int IntKind.u32 0, Value.int IntKind.u32 0, Value.int IntKind.u32 0, Value.int IntKind.u32 0, Value.int IntKind.u32 0, Value.int IntKind.u32 0, Value.int IntKind.u32 0, Value.int IntKind.u32 0, Value.int IntKind.u32 0, Value.int IntKind.u32 0, Value.int IntKind.u32 0, Value.int IntKind.u32 0, Value.int IntKind.u32 0, Value.int IntKind.u32 0, Value.int IntKind.u32 0, Value.int IntKind.u32 0] 129)) (w.heap.size + 1) 97 8 (fun _ => .int .u32 0) := by
    have := zero8_row (w.alloc (Obj.cells (arrA 8 (wordsV h)) 97))
    rw [World.size_alloc] at this
    exact (this.alloc _).alloc _
  have a2 : World.rowIs ((((w.alloc (Obj.cells (arrA 8 (wordsV h)) 97)).alloc (Obj.cells #[Value.int IntKind.u32 0, Value.int IntKind.u32 0, Value.int IntKind.u32 0, Value.int IntKind.u32 0, Value.int IntKind.u32 0, Value.int IntKind.u32 0, Value.int IntKind.u32 0, Value.int IntKind.u32 0] 97)).alloc (Obj.cells #[Value.int IntKind.u32 0, Value.int IntKind.u32 0, Value.int IntKind.u32 0, Value.int IntKind.u32 0, Value.int IntKind.u32 0, Value.int IntKind.u32 0, Value.int IntKind.u32 0, Value.int IntKind.u32 0, Value.int IntKind.u32 0, Value.int IntKind.u32 0, Value.int IntKind.u32 0, Value.int IntKind.u32 0, Value.int IntKind.u32 0, Value.int IntKind.u32 0, Value.int IntKind.u32 0, Value.int IntKind.u32 0] 129)).alloc (Obj.cells #[Value.int IntKind.u32 0, Value.int IntKind.u32 0, Value.int IntKind.u32 0, Value.int IntKind.u32 0, Value.int IntKind.u32 0, Value.int IntKind.u32 0, Value.int IntKind.u32 0, Value.int IntKind.u32 0, Value.int IntKind.u32 0, Value.int IntKind.u32 0, Value.int IntKind.u32 0, Value.int IntKind.u32 0, Value.int IntKind.u32 0, Value.int IntKind.u32 0, Value.int IntKind.u32 0, Value.int IntKind.u32 0] 129)) (w.heap.size + 1 + 1) 129 16 (wordsV (begP h 0)) := by
    have := zero16_row ((w.alloc (Obj.cells (arrA 8 (wordsV h)) 97)).alloc (Obj.cells #[Value.int IntKind.u32 0, Value.int IntKind.u32 0, Value.int IntKind.u32 0, Value.int IntKind.u32 0, Value.int IntKind.u32 0, Value.int IntKind.u32 0, Value.int IntKind.u32 0, Value.int IntKind.u32 0] 97))
    rw [World.size_alloc, World.size_alloc] at this
    exact (this.alloc _).congr (fun _ _ => rfl)
  have a3 : World.rowIs ((((w.alloc (Obj.cells (arrA 8 (wordsV h)) 97)).alloc (Obj.cells #[Value.int IntKind.u32 0, Value.int IntKind.u32 0, Value.int IntKind.u32 0, Value.int IntKind.u32 0, Value.int IntKind.u32 0, Value.int IntKind.u32 0, Value.int IntKind.u32 0, Value.int IntKind.u32 0] 97)).alloc (Obj.cells #[Value.int IntKind.u32 0, Value.int IntKind.u32 0, Value.int IntKind.u32 0, Value.int IntKind.u32 0, Value.int IntKind.u32 0, Value.int IntKind.u32 0, Value.int IntKind.u32 0, Value.int IntKind.u32 0, Value.int IntKind.u32 0, Value.int IntKind.u32 0, Value.int IntKind.u32 0, Value.int IntKind.u32 0, Value.int IntKind.u32 0, Value.int IntKind.u32 0, Value.int IntKind.u32 0, Value.int IntKind.u32 0] 129)).alloc (Obj.cells #[Value.int IntKind.u32 0, Value.int IntKind.u32 0, Value.int IntKind.u32 0, Value.int IntKind.u32 0, Value.int IntKind.u32 0, Value.int IntKind.u32 0, Value.int IntKind.u32 0, Value.int IntKind.u32 0, Value.int IntKind.u32 0, Value.int IntKind.u32 0, Value.int IntKind.u32 0, Value.int IntKind.u32 0, Value.int IntKind.u32 0, Value.int IntKind.u32 0, Value.int IntKind.u32 0, Value.int IntKind.u32 0] 129)) (w.heap.size + 1 + 1 + 1) 129 16 (wordsV (msgP s 0)) := by
    have := zero16_row (((w.alloc (Obj.cells (arrA 8 (wordsV h)) 97)).alloc (Obj.cells #[Value.int IntKind.u32 0, Value.int IntKind.u32 0, Value.int IntKind.u32 0, Value.int IntKind.u32 0, Value.int IntKind.u32 0, Value.int IntKind.u32 0, Value.int IntKind.u32 0, Value.int IntKind.u32 0] 97)).alloc (Obj.cells #[Value.int IntKind.u32 0, Value.int IntKind.u32 0, Value.int IntKind.u32 0, Value.int IntKind.u32 0, Value.int IntKind.u32 0, Value.int IntKind.u32 0, Value.int IntKind.u32 0, Value.int IntKind.u32 0, Value.int IntKind.u32 0, Value.int IntKind.u32 0, Value.int IntKind.u32 0, Value.int IntKind.u32 0, Value.int IntKind.u32 0, Value.int IntKind.u32 0, Value.int IntKind.u32 0, Value.int IntKind.u32 0] 129))
    rw [World.size_alloc, World.size_alloc, World.size_alloc] at this
    exact this.congr (fun _ _ => rfl)
  have a4 : Below w.heap.size w ((((w.alloc (Obj.cells (arrA 8 (wordsV h)) 97)).alloc (Obj.cells #[Value.int IntKind.u32 0, Value.int IntKind.u32 0, Value.int IntKind.u32 0, Value.int IntKind.u32 0, Value.int IntKind.u32 0, Value.int IntKind.u32 0, Value.int IntKind.u32 0, Value.int IntKind.u32 0] 97)).alloc (Obj.cells #[Value.int IntKind.u32 0, Value.int IntKind.u32 0, Value.int IntKind.u32 0, Value.int IntKind.u32 0, Value.int IntKind.u32 0, Value.int IntKind.u32 0, Value.int IntKind.u32 0, Value.int IntKind.u32 0, Value.int IntKind.u32 0, Value.int IntKind.u32 0, Value.int IntKind.u32 0, Value.int IntKind.u32 0, Value.int IntKind.u32 0, Value.int IntKind.u32 0, Value.int IntKind.u32 0, Value.int IntKind.u32 0] 129)).alloc (Obj.cells #[Value.int IntKind.u32 0, Value.int IntKind.u32 0, Value.int IntKind.u32 0, Value.int IntKind.u32 0, Value.int IntKind.u32 0, Value.int IntKind.u32 0, Value.int IntKind.u32 0, Value.int IntKind.u32 0, Value.int IntKind.u32 0, Value.int IntKind.u32 0, Value.int IntKind.u32 0, Value.int IntKind.u32 0, Value.int IntKind.u32 0, Value.int IntKind.u32 0, Value.int IntKind.u32 0, Value.int IntKind.u32 0] 129)) := ((((Below.refl _ w).alloc (Nat.le_refl _) _).alloc (by simp) _).alloc (by simp; omega) _).alloc (by simp; omega) _
  obtain ⟨W0, hW0⟩ : ∃ W0, ((((w.alloc (Obj.cells (arrA 8 (wordsV h)) 97)).alloc (Obj.cells #[Value.int IntKind.u32 0, Value.int IntKind.u32 0, Value.int IntKind.u32 0, Value.int IntKind.u32 0, Value.int IntKind.u32 0, Value.int IntKind.u32 0, Value.int IntKind.u32 0, Value.int IntKind.u32 0] 97)).alloc (Obj.cells #[Value.int IntKind.u32 0, Value.int IntKind.u32 0, Value.int IntKind.u32 0, Value.int IntKind.u32 0, Value.int IntKind.u32 0, Value.int IntKind.u32 0, Value.int IntKind.u32 0, Value.int IntKind.u32 0, Value.int IntKind.u32 0, Value.int IntKind.u32 0, Value.int IntKind.u32 0, Value.int IntKind.u32 0, Value.int IntKind.u32 0, Value.int IntKind.u32 0, Value.int IntKind.u32 0, Value.int IntKind.u32 0] 129)).alloc (Obj.cells #[Value.int IntKind.u32 0, Value.int IntKind.u32 0, Value.int IntKind.u32 0, Value.int IntKind.u32 0, Value.int IntKind.u32 0, Value.int IntKind.u32 0, Value.int IntKind.u32 0, Value.int IntKind.u32 0, Value.int IntKind.u32 0, Value.int IntKind.u32 0, Value.int IntKind.u32 0, Value.int IntKind.u32 0, Value.int IntKind.u32 0, Value.int IntKind.u32 0, Value.int IntKind.u32 0, Value.int IntKind.u32 0] 129)) = W0 := ⟨_, rfl⟩
  rw [hW0] at a0 a1 a2 a3 a4 ⊢
  clear hW0
  refine (reight_any W0).mono ?_
  rintro e w2 ⟨rfl, hb2⟩
  have z3 := zero8_row w2
  have l3 : w.heap.size + 4 ≤ w2.heap.size := by have := a3.lt; have := hb2.size; omega
  go_wp2_with (refine store_arr rfl 97 _ _ rfl 8 97 w2.heap.size _ (wordsV iv) rfl rfl z3 siz97 (fun _ => rfl) ?_)
  try simp only [Act.put]
  have t0 : RT w.heap.size w2.heap.size h (begP h 0) (msgP s 0) w ((w2.alloc (Obj.cells #[Value.int IntKind.u32 0, Value.int IntKind.u32 0, Value.int IntKind.u32 0, Value.int IntKind.u32 0, Value.int IntKind.u32 0, Value.int IntKind.u32 0, Value.int IntKind.u32 0, Value.int IntKind.u32 0] 97)).setRow w2.heap.size (arrA 8 (wordsV iv))) := by
    refine ⟨rowIs_setOther ((a0.of_block (hb2.block _ a0.lt)).alloc _) (by omega) _, rowIs_setOther ((a1.of_block (hb2.block _ a1.lt)).alloc _) (by omega) _, rowIs_setOther ((a2.of_block (hb2.block _ a2.lt)).alloc _) (by omega) _, rowIs_setOther ((a3.of_block (hb2.block _ a3.lt)).alloc _) (by omega) _, rowIs_setRow z3 _, l3, ?_⟩
    exact below_setRow ((a4.trans (hb2.mono a4.size)).alloc (by omega) _) (by omega) _
  obtain ⟨F, hF⟩ : ∃ F, w2.heap.size = F := ⟨_, rfl⟩
  obtain ⟨W1, hW1⟩ : ∃ W1, (w2.alloc (Obj.cells #[Value.int IntKind.u32 0, Value.int IntKind.u32 0, Value.int IntKind.u32 0, Value.int IntKind.u32 0, Value.int IntKind.u32 0, Value.int IntKind.u32 0, Value.int IntKind.u32 0, Value.int IntKind.u32 0] 97)).setRow w2.heap.size (arrA 8 (wordsV iv)) = W1 := ⟨_, rfl⟩
  rw [hW1] at t0 ⊢
  rw [hF] at t0 ⊢
  clear hW1 hF l3 z3 hb2 a0 a1 a2 a3 a4
  go_wp2_with fail
  go_loopw [12] (fun a wx => ∃ i : Nat, i ≤ 16 ∧ a = .int .i64 (i : Int) ∧ RT w.heap.size F h (begP h i) (msgP s i) w wx) (fun a _ => 16 - (intOf a).toNat)
  case atStart => exact ⟨0, by omega, rfl, t0⟩
  case round =>
    obtain ⟨i, hi, rfl, t1⟩ := hrel
    by_cases hlt : i < 16
    · have c0 : decide ((i : Int) < 16) = true := decide_eq_true (by omega)
      obtain ⟨k0, hk0⟩ : ∃ k, 4 * i = k := ⟨_, rfl⟩
      obtain ⟨k1, hk1⟩ : ∃ k, 4 * i + 1 = k := ⟨_, rfl⟩
      obtain ⟨k2, hk2⟩ : ∃ k, 4 * i + 2 = k := ⟨_, rfl⟩
      obtain ⟨k3, hk3⟩ : ∃ k, 4 * i + 3 = k := ⟨_, rfl⟩
      have e0 : IntKind.i64.wrap (4 * (i : Int)) = (k0 : Int) := by rw [IntWalk.i64_in _ (by omega)]; omega
      have e1 : IntKind.i64.wrap ((k0 : Int) + 1) = (k1 : Int) := by rw [IntWalk.i64_in _ (by omega)]; omega
      have e2 : IntKind.i64.wrap ((k0 : Int) + 2) = (k2 : Int) := by rw [IntWalk.i64_in _ (by omega)]; omega
      have e3 : IntKind.i64.wrap ((k0 : Int) + 3) = (k3 : Int) := by rw [IntWalk.i64_in _ (by omega)]; omega
      have q0 : (k0 : Int) < 64 := by omega
      have q1 : (k1 : Int) < 64 := by omega
      have q2 : (k2 : Int) < 64 := by omega
      have q3 : (k3 : Int) < 64 := by omega
      have r0 : k0 < 64 := by omega
      have r1 : k1 < 64 := by omega
      have r2 : k2 < 64 := by omega
      have r3 : k3 < 64 := by omega
      have b0 := byt_at s k0
      have b1 := byt_at s k1
      have b2 := byt_at s k2
      have b3 := byt_at s k3
      obtain ⟨x0, h0, l0⟩ := byt_nat s k0
      obtain ⟨x1, h1, l1⟩ := byt_nat s k1
      obtain ⟨x2, h2, l2⟩ := byt_nat s k2
      obtain ⟨x3, h3, l3⟩ := byt_nat s k3
      have hm : msgV s i = w4 x0 x1 x2 x3 := by rw [msgV, hk1, hk2, hk3, hk0, h0, h1, h2, h3]; simp
      rw [h0] at b0
      rw [h1] at b1
      rw [h2] at b2
      rw [h3] at b3
      have Hm := Lib.hid hm
      clear h0 h1 h2 h3 hk0 hk1 hk2 hk3 hm
      have d1 : wr.drew.cell? ⟨w.heap.size + 1 + 1 + 1, i, none⟩ = some (.int .u32 (msgP s i i : Int)) := t1.mb.drew.cell hlt
      have d2 : wr.drew.frozen? ⟨w.heap.size + 1 + 1 + 1, i, none⟩ = false := t1.mb.drew.frozen i
      have g1 : (i : Int) < 16 := by omega
      go_upto_region 6 with fail
      go_cut [] (fun wx => RT w.heap.size F h (begP h i) (msgP s (i + 1)) w wx)
      case first =>
        go_wp2
        refine wp_region_still_tail 31 (by kernel_rfl) (by kernel_rfl) ?_
        change wpStill _ _ wr.drew (fun a' => wpList _ _ _ _ a' wr.drew) _ _
        simp only [List.take_succ_cons, List.take_zero, List.drop_succ_cons, List.drop_zero]
        repeat still_step
        try refine wpStill_nil ?_
        go_wp2
        go_meet
        rw [← msgP_step, Hm.out]
        exact (t1.drewN 1).putM i (w4 x0 x1 x2 x3)
      case rest =>
        have t2 := hcut
        clear d1 d2 b0 b1 b2 b3 l0 l1 l2 l3 e0 e1 e2 e3 q0 q1 q2 q3 r0 r1 r2 r3 t1 Hm
        have d3 : wc.cell? ⟨w.heap.size + 1 + 1, i, none⟩ = some (.int .u32 (begP h i i : Int)) := t2.vb.cell hlt
        have d4 := t2.vb.frozen i
        by_cases h8 : i < 8
        · have c1 : decide ((i : Int) < 8) = true := decide_eq_true (by omega)
          have g2 : (i : Int) < 8 := by omega
          have d5 : wc.cell? ⟨w.heap.size, i, none⟩ = some (.int .u32 (h i : Int)) := t2.hb.cell h8
          go_wp2
          go_roundw
          case rel =>
            refine ⟨i + 1, by omega, by go_num, ?_⟩
            have := t2.putV i (h i)
            rw [show h i = beg0 h i from (if_pos h8).symm, begP_step] at this
            rw [show h i = beg0 h i from (if_pos h8).symm]
            exact this
          case measure => simp [intOf]; omega
        · have c1 : decide ((i : Int) < 8) = false := decide_eq_false (by omega)
          obtain ⟨k, hk⟩ : ∃ k, i - 8 = k := ⟨_, rfl⟩
          have e1 : IntKind.i64.wrap ((i : Int) - 8) = (k : Int) := by rw [IntWalk.i64_in _ (by omega)]; omega
          have g2 : (k : Int) < 8 := by omega
          have hk8 : k < 8 := by omega
          have hbk : iv k = beg0 h i := by rw [beg0, if_neg h8, hk]
          have Hbk := Lib.hid hbk
          clear hbk hk
          have d5 : wc.cell? ⟨F, k, none⟩ = some (.int .u32 (iv k : Int)) := t2.fb.cell hk8
          go_wp2
          go_roundw
          case rel =>
            refine ⟨i + 1, by omega, by go_num, ?_⟩
            rw [Hbk.out]
            have := t2.putV i (beg0 h i)
            rw [begP_step] at this
            exact this
          case measure => simp [intOf]; omega
    · have c0 : decide ((i : Int) < 16) = false := decide_eq_false (by omega)
      obtain rfl : i = 16 := by omega
      rw [show ((16 : Nat) : Int) = 16 from rfl]
      have t2 : RT w.heap.size F h (beg0 h) (msgP s 16) w wr := t1.congrV (fun j hj => if_pos hj)
      clear t1 t0
      obtain ⟨U, rfl⟩ : ∃ U, U = wr := ⟨wr, rfl⟩
      have hw0 : Words (beg0 h) := beg0_words hh
      go_upto_region 10 with fail
      go_cut [] (fun wx => RT w.heap.size F h (beg1 h count) (msgP s 16) w wx)
      case first =>
        obtain ⟨x, hx⟩ : ∃ x, beg0 h 12 = x := ⟨_, rfl⟩
        have d1 : U.cell? ⟨w.heap.size + 1 + 1, 12, none⟩ = some (.int .u32 (x : Int)) := by rw [← hx]; exact t2.vb.cell (by omega)
        have d2 := t2.vb.frozen 12
        have d3 : bits .xor .u32 (x : Int) ((count : Int) % 4294967296) = ((x ^^^ (count % 4294967296) : Nat) : Int) := u32_xor_nat x (count % 4294967296) (by rw [← hx]; exact hw0 12) (by omega)
        go_wp2
        go_meet
        rw [beg1, hx]
        exact t2.putV 12 _
      case rest =>
      have t3 := hcut
      have hw1 : Words (beg1 h count) := beg1_words hh count
      go_upto_region 11 with fail
      go_cut [] (fun wx => RT w.heap.size F h (beg2 h count) (msgP s 16) w wx)
      case first =>
        obtain ⟨x, hx⟩ : ∃ x, beg1 h count 13 = x := ⟨_, rfl⟩
        have d1 : wc.cell? ⟨w.heap.size + 1 + 1, 13, none⟩ = some (.int .u32 (x : Int)) := by rw [← hx]; exact t3.vb.cell (by omega)
        have d2 := t3.vb.frozen 13
        have d3 : bits .xor .u32 (x : Int) ((count : Int) / 4294967296) = ((x ^^^ (count / 4294967296) : Nat) : Int) := u32_xor_nat x (count / 4294967296) (by rw [← hx]; exact hw1 13) (by omega)
        go_wp2
        go_meet
        rw [beg2, hx]
        exact t3.putV 13 _
      case rest =>
      have t4 := hcut
      have hw2 : Words (beg2 h count) := beg2_words hh count hc
      clear t2 t3
      go_upto_if 83 with fail
      go_cut [] (fun wx => RT w.heap.size F h (begV h count last) (msgP s 16) w wx)
      case first =>
        cases last with
        | false =>
          go_wp2
          go_meet
          exact t4
        | true =>
          obtain ⟨x, hx⟩ : ∃ x, beg2 h count 14 = x := ⟨_, rfl⟩
          have d1 : wc.cell? ⟨w.heap.size + 1 + 1, 14, none⟩ = some (.int .u32 (x : Int)) := by rw [← hx]; exact t4.vb.cell (by omega)
          have d2 := t4.vb.frozen 14
          have lx : x < 4294967296 := by rw [← hx]; exact hw2 14
          have d3 : (4294967295 - (x : Int)) % 4294967296 = ((4294967295 - x : Nat) : Int) := by omega
          have d4 : IntKind.u32.wrap (4294967295 - (x : Int)) = ((4294967295 - x : Nat) : Int) := by rw [IntKind.wrap_u32]; exact d3
          go_wp2
          go_meet
          rw [begV, if_pos rfl, hx]
          exact t4.putV 14 _
      case rest =>
      have t5 := hcut
      have hw3 : Words (begV h count last) := begV_words hh count last hc
      clear t4 hw0 hw1 hw2
      obtain ⟨bv, hbv⟩ : ∃ bv, begV h count last = bv := ⟨_, rfl⟩
      rw [hbv] at t5 hw3
      have Hbv := Lib.hid hbv
      clear hbv
      go_wp2_with fail
      go_loopw [13] (fun a wx => ∃ r : Nat, r ≤ 10 ∧ a = .int .i64 (r : Int) ∧ RT w.heap.size F h (rnds (msgV s) r bv) (msgP s 16) w wx) (fun a _ => 10 - (intOf a).toNat)
      case atStart => exact ⟨0, by omega, rfl, t5⟩
      case round =>
        obtain ⟨r, hr, rfl, t6⟩ := hrel
        by_cases hrt : r < 10
        · have c2 : decide ((r : Int) < 10) = true := decide_eq_true (by omega)
          have c3 : (r : Int) < 10 := by omega
          have hwr := rnds_words (msgV s) hw3 r
          obtain ⟨v, hv⟩ : ∃ v, rnds (msgV s) r bv = v := ⟨_, rfl⟩
          rw [hv] at t6 hwr
          have Hv := Lib.hid hv
          clear hv t5
          go_wp2_with fail
          refine (rrows_any wr).mono ?_
          rintro e w3 ⟨rfl, hrow, hb3⟩
          have t7 := t6.past hb3
          have d1 : w3.cell? ⟨wr.heap.size, r, none⟩ = some (.string (rowB r)) := hrow.cell hrt
          have hzs := rowB_size r
          obtain ⟨z, hz⟩ : ∃ z, rowB r = z := ⟨_, rfl⟩
          rw [hz] at d1 hzs
          have Hz := Lib.hid hz
          clear hz hrow hb3 t6
          go_wp2_with fail
          clear d1
          go_loopw [15] (fun a wx => ∃ i : Nat, i ≤ 8 ∧ a = .int .i64 (i : Int) ∧ RT w.heap.size F h (stps (msgV s) r i v) (msgP s 16) w wx) (fun a _ => 8 - (intOf a).toNat)
          case atStart => exact ⟨0, by omega, rfl, t7⟩
          case round =>
            clear t7
            obtain ⟨i, hi, rfl, t6⟩ := hrel
            have hwi := stps_words (msgV s) r hwr i
            obtain ⟨vv, hvv⟩ : ∃ vv, stps (msgV s) r i v = vv := ⟨_, rfl⟩
            rw [hvv] at t6 hwi
            have Hvv := Lib.hid hvv
            clear hvv
            by_cases hlt : i < 8
            · have c4 : decide ((i : Int) < 8) = true := decide_eq_true (by omega)
              obtain ⟨n1, hn1⟩ : ∃ n1, 2 * i = n1 := ⟨_, rfl⟩
              obtain ⟨n2, hn2⟩ : ∃ n2, 2 * i + 1 = n2 := ⟨_, rfl⟩
              have e4 : IntKind.i64.wrap (2 * (i : Int)) = (n1 : Int) := by rw [IntWalk.i64_in _ (by omega)]; omega
              have e5 : IntKind.i64.wrap ((n1 : Int) + 1) = (n2 : Int) := by rw [IntWalk.i64_in _ (by omega)]; omega
              have m1 : n1 < 16 := by omega
              have m2 : n2 < 16 := by omega
              have m3 : (n1 : Int) < 16 := by omega
              have m4 : (n2 : Int) < 16 := by omega
              have hp := sig_lt r n1
              have hq := sig_lt r n2
              have k1 := fun W => place_any (sig r n1) W hp
              have k2 := fun W => place_any (sig r n2) W hq
              have b1 := byt_at z n1
              have b2 := byt_at z n2
              rw [← Hz.out, rowB_at r n1 m1, Hz.out] at b1
              rw [← Hz.out, rowB_at r n2 m2, Hz.out] at b2
              obtain ⟨sp, hsp⟩ : ∃ sp, sgn (sig r n1) = sp := ⟨_, rfl⟩
              obtain ⟨sq, hsq⟩ : ∃ sq, sgn (sig r n2) = sq := ⟨_, rfl⟩
              rw [hsp] at b1 k1
              rw [hsq] at b2 k2
              obtain ⟨p, hpe⟩ : ∃ p, sig r n1 = p := ⟨_, rfl⟩
              obtain ⟨q, hqe⟩ : ∃ q, sig r n2 = q := ⟨_, rfl⟩
              rw [hpe] at hp k1
              rw [hqe] at hq k2
              have Hstp : Hid (stps (msgV s) r (i + 1) v = if i < 4 then mixV vv i (4 + i) (8 + i) (12 + i) (msgV s p) (msgV s q) else mixV vv (i - 4) (4 + (i - 4 + 1) % 4) (8 + (i - 4 + 2) % 4) (12 + (i - 4 + 3) % 4) (msgV s p) (msgV s q)) := by
                refine Lib.hid ?_
                show stp (msgV s) r i (stps (msgV s) r i v) = _
                rw [Hvv.out, stp, hn2, hn1, hpe, hqe]
              clear hpe hqe hn1 hn2 hsp hsq
              have p1 : (p : Int) < 16 := by omega
              have q1 : (q : Int) < 16 := by omega
              have d1 : wr.drew.cell? ⟨w.heap.size + 1 + 1 + 1, p, none⟩ = some (.int .u32 (msgV s p : Int)) := by rw [← msgP_16 s p hp]; exact t6.mb.cell hp
              have d2 : wr.drew.cell? ⟨w.heap.size + 1 + 1 + 1, q, none⟩ = some (.int .u32 (msgV s q : Int)) := by rw [← msgP_16 s q hq]; exact t6.mb.cell hq
              have mp := msgV_words s p
              have mq := msgV_words s q
              obtain ⟨x, hx⟩ : ∃ x, msgV s p = x := ⟨_, rfl⟩
              obtain ⟨y, hy⟩ : ∃ y, msgV s q = y := ⟨_, rfl⟩
              rw [hx] at d1 mp Hstp
              rw [hy] at d2 mq Hstp
              clear hx hy
              go_wp2
              refine wp_region_still_lit (by kernel_rfl) (by kernel_rfl) ?_
              change wpStill _ _ wr.drew (fun a' => (Exit.then _ _) Exit.normal a' wr.drew) _ _
              repeat still_step
              refine still_call (F := 128) rfl (by go_simp) (k1 wr.drew) ?_
              simp only [Act.put, List.setIfInBounds_toArray, List.set_cons_succ, List.set_cons_zero]
              repeat still_step
              refine still_call (F := 128) rfl (by go_simp) (k2 wr.drew) ?_
              simp only [Act.put, List.setIfInBounds_toArray, List.set_cons_succ, List.set_cons_zero]
              repeat still_step
              refine wpStill_nil ?_
              have t7 := t6.drewN 1
              change RT w.heap.size F h vv (msgP s 16) w wr.drew at t7
              clear d1 d2 b1 b2 k1 k2 t6 e4 e5 m3 m4
              by_cases h4 : i < 4
              · have c5 : decide ((i : Int) < 4) = true := decide_eq_true (by omega)
                rw [if_pos h4] at Hstp
                obtain ⟨b1, hb1⟩ : ∃ b1, 4 + i = b1 := ⟨_, rfl⟩
                obtain ⟨b2, hb2⟩ : ∃ b2, 8 + i = b2 := ⟨_, rfl⟩
                obtain ⟨b3, hb3⟩ : ∃ b3, 12 + i = b3 := ⟨_, rfl⟩
                rw [hb1, hb2, hb3] at Hstp
                have f1 : IntKind.i64.wrap ((i : Int) + 4) = (b1 : Int) := by rw [IntWalk.i64_in _ (by omega)]; omega
                have f2 : IntKind.i64.wrap ((i : Int) + 8) = (b2 : Int) := by rw [IntWalk.i64_in _ (by omega)]; omega
                have f3 : IntKind.i64.wrap ((i : Int) + 12) = (b3 : Int) := by rw [IntWalk.i64_in _ (by omega)]; omega
                have l1 : b1 < 16 := by omega
                have l2 : b2 < 16 := by omega
                have l3 : b3 < 16 := by omega
                clear hb1 hb2 hb3
                go_wp2_with (first | (refine load_arr rfl 129 _ rfl 16 38 129 (w.heap.size + 1 + 1) _ rfl t7.vb und129 siz129 ?_) | fail)
                refine (rmix_any i b1 b2 b3 x y vv _ hwi mp mq (by omega) l1 l2 l3).mono ?_
                rintro e w4 ⟨rfl, hb4⟩
                have t8 := t7.past hb4
                have t9 := t8.setV (mixV vv i b1 b2 b3 x y)
                rw [← Hstp.out] at t9
                go_wp2_with (first | (refine store_arr rfl 129 _ _ rfl 16 129 (w.heap.size + 1 + 1) _ (wordsV (mixV vv i b1 b2 b3 x y)) rfl rfl t8.vb siz129 (fun _ => rfl) ?_) | fail)
                go_roundw
                case rel => exact ⟨i + 1, by omega, by go_num, by rw [← Hstp.out]; exact t9⟩
                case measure => simp [intOf]; omega
              · have c5 : decide ((i : Int) < 4) = false := decide_eq_false (by omega)
                rw [if_neg h4] at Hstp
                obtain ⟨k, hk⟩ : ∃ k, i - 4 = k := ⟨_, rfl⟩
                rw [hk] at Hstp
                have f0 : IntKind.i64.wrap ((i : Int) - 4) = (k : Int) := by rw [IntWalk.i64_in _ (by omega)]; omega
                have hk4 : k < 4 := by omega
                obtain ⟨b1, hb1⟩ : ∃ b1, 4 + (k + 1) % 4 = b1 := ⟨_, rfl⟩
                obtain ⟨b2, hb2⟩ : ∃ b2, 8 + (k + 2) % 4 = b2 := ⟨_, rfl⟩
                obtain ⟨b3, hb3⟩ : ∃ b3, 12 + (k + 3) % 4 = b3 := ⟨_, rfl⟩
                rw [hb1, hb2, hb3] at Hstp
                have g1 : IntKind.i64.wrap ((k : Int) + 1) = (k : Int) + 1 := IntWalk.i64_in _ (by omega)
                have g2 : IntKind.i64.wrap ((k : Int) + 2) = (k : Int) + 2 := IntWalk.i64_in _ (by omega)
                have g3 : IntKind.i64.wrap ((k : Int) + 3) = (k : Int) + 3 := IntWalk.i64_in _ (by omega)
                have f1 : IntKind.i64.wrap (4 + ((k : Int) + 1) % 4) = (b1 : Int) := by rw [IntWalk.i64_in _ (by omega)]; omega
                have f2 : IntKind.i64.wrap (8 + ((k : Int) + 2) % 4) = (b2 : Int) := by rw [IntWalk.i64_in _ (by omega)]; omega
                have f3 : IntKind.i64.wrap (12 + ((k : Int) + 3) % 4) = (b3 : Int) := by rw [IntWalk.i64_in _ (by omega)]; omega
                have l1 : b1 < 16 := by omega
                have l2 : b2 < 16 := by omega
                have l3 : b3 < 16 := by omega
                clear hb1 hb2 hb3 hk
                go_wp2_with (first | (refine load_arr rfl 129 _ rfl 16 38 129 (w.heap.size + 1 + 1) _ rfl t7.vb und129 siz129 ?_) | fail)
                refine (rmix_any k b1 b2 b3 x y vv _ hwi mp mq (by omega) l1 l2 l3).mono ?_
                rintro e w4 ⟨rfl, hb4⟩
                have t8 := t7.past hb4
                have t9 := t8.setV (mixV vv k b1 b2 b3 x y)
                rw [← Hstp.out] at t9
                go_wp2_with (first | (refine store_arr rfl 129 _ _ rfl 16 129 (w.heap.size + 1 + 1) _ (wordsV (mixV vv k b1 b2 b3 x y)) rfl rfl t8.vb siz129 (fun _ => rfl) ?_) | fail)
                go_roundw
                case rel => exact ⟨i + 1, by omega, by go_num, by rw [← Hstp.out]; exact t9⟩
                case measure => simp [intOf]; omega
            · have c4 : decide ((i : Int) < 8) = false := decide_eq_false (by omega)
              obtain rfl : i = 8 := by omega
              rw [show ((8 : Nat) : Int) = 8 from rfl]
              rw [← Hvv.out] at t6
              go_wp2
              go_roundw
              case rel =>
                refine ⟨r + 1, by omega, by go_num, ?_⟩
                show RT w.heap.size F h (stps (msgV s) r 8 (rnds (msgV s) r bv)) (msgP s 16) w wr
                rw [Hv.out]
                exact t6
              case measure => simp [intOf]; omega
        · have c2 : decide ((r : Int) < 10) = false := decide_eq_false (by omega)
          obtain rfl : r = 10 := by omega
          rw [show ((10 : Nat) : Int) = 10 from rfl]
          have hwr := rnds_words (msgV s) hw3 10
          obtain ⟨fv, hfv⟩ : ∃ fv, rnds (msgV s) 10 bv = fv := ⟨_, rfl⟩
          rw [hfv] at t6 hwr
          have Htk : ∀ j, takeV h (msgV s) count last j = h j ^^^ (fv j ^^^ fv (j + 8)) := fun j => by rw [takeV, Hbv.out, hfv]
          have HTk := Lib.hid Htk
          clear hfv Htk t5
          obtain ⟨Y, rfl⟩ : ∃ Y, Y = wr := ⟨wr, rfl⟩
          go_wp2_with fail
          go_loopw [19] (fun a wx => ∃ i : Nat, i ≤ 8 ∧ a = .int .i64 (i : Int) ∧ RT w.heap.size F (tkP h fv i) fv (msgP s 16) w wx) (fun a _ => 8 - (intOf a).toNat)
          case atStart => exact ⟨0, by omega, rfl, t6⟩
          case round =>
            clear t6
            obtain ⟨i, hi, rfl, ti⟩ := hrel
            by_cases hlt : i < 8
            · have c3 : decide ((i : Int) < 8) = true := decide_eq_true (by omega)
              have e1 : IntKind.i64.wrap ((i : Int) + 8) = ((i + 8 : Nat) : Int) := by rw [IntWalk.i64_in _ (by omega)]; omega
              have g1 : (i : Int) < 8 := by omega
              have g2 : (i : Int) < 16 := by omega
              have g3 : ((i + 8 : Nat) : Int) < 16 := by omega
              obtain ⟨k, hk⟩ : ∃ k, i + 8 = k := ⟨_, rfl⟩
              rw [hk] at e1 g3
              have hkl : k < 16 := by omega
              have l1 := hh i
              have l2 := hwr i
              have l3 := hwr k
              have hst : tkP h fv (i + 1) = upd (tkP h fv i) i (h i ^^^ fv i ^^^ fv k) := by rw [← hk, Nat.xor_assoc]; exact tkP_step h fv i
              have hcur : tkP h fv i i = h i := if_neg (by omega)
              have d1 : wr.cell? ⟨w.heap.size, i, none⟩ = some (.int .u32 (h i : Int)) := by rw [← hcur]; exact ti.hb.cell hlt
              have d2 : wr.cell? ⟨w.heap.size + 1 + 1, i, none⟩ = some (.int .u32 (fv i : Int)) := ti.vb.cell (by omega)
              have d3 : wr.cell? ⟨w.heap.size + 1 + 1, k, none⟩ = some (.int .u32 (fv k : Int)) := ti.vb.cell hkl
              have d4 := ti.hb.frozen i
              have o1 := u32_xor_nat _ _ l1 l2
              have o2 := u32_xor_nat (h i ^^^ fv i) (fv k) (Nat.xor_lt_two_pow (n := 32) l1 l2) l3
              have Hst := Lib.hid hst
              clear hst hk hcur
              go_wp2
              go_region
              go_wp2
              go_roundw
              case rel =>
                refine ⟨i + 1, by omega, by go_num, ?_⟩
                rw [Hst.out]
                exact (ti.putH i _).drewN 1
              case measure => simp [intOf]; omega
            · have c3 : decide ((i : Int) < 8) = false := decide_eq_false (by omega)
              obtain rfl : i = 8 := by omega
              have hres : arrA 8 (wordsV (tkP h fv 8)) = arrA 8 (wordsV (takeV h (msgV s) count last)) := arrA_congr (fun j hj => by rw [wordsV, wordsV, HTk.out j, tkP, if_pos hj])
              have Hres := Lib.hid hres
              clear hres
              go_wp2_with (first | (refine load_arr rfl 97 _ rfl 8 38 97 w.heap.size _ rfl ti.hb und97 siz97 ?_) | (refine store_arr rfl 97 _ _ rfl 8 97 (w.heap.size + 1) _ _ rfl rfl ti.rb siz97 (fun _ => rfl) ?_))
              refine bodyPost_ret (result_arr rfl _ _ 8 38 97 (w.heap.size + 1) _ rfl (rowIs_setRow ti.rb _) und97 siz97) rfl ?_
              exact ⟨by rw [Hres.out], below_setRow ti.below (by omega) _⟩
end Go.Proofs.Ytnjcganknpnjcaa
