/- cipher: the words that a block begins with. -/
import Derived.Test.YtnjcganknpnjcaaCpA
import Derived.Test.YtnjcganknpnjcaaHsK
import Derived.Test.YtnjcganknpnjcaaHsF
namespace Go.Proofs.Ytnjcganknpnjcaa
open Go.RowKit

theorem und49 : Try.prog.underlying 49 = some (.array 12 5) := by kernel_rfl
theorem siz49 : (Try.prog.info? 49).map (·.size) = some 12 := by kernel_rfl
def c4L : List Nat := [1634760805, 857760878, 2036477234, 1797285236]
/-- The word number i of an array of bytes. -/
def cwA (v : Nat → Nat) (i : Nat) : Nat := w4 (v (4 * i)) (v (4 * i + 1)) (v (4 * i + 2)) (v (4 * i + 3))
theorem cwA_lt {v : Nat → Nat} (h : Bytes v) (i : Nat) : cwA v i < 4294967296 := w4_lt _ _ _ _ (h _) (h _) (h _) (h _)
def bgK (kb : Nat → Nat) (i : Nat) : Nat → Nat := fun j => if j < 4 then c4L.getD j 0 else if j < 4 + i then cwA kb (j - 4) else 0
theorem bgK_step (kb : Nat → Nat) (i : Nat) : upd (bgK kb i) (4 + i) (cwA kb i) = bgK kb (i + 1) := by
  funext j
  unfold upd bgK
  by_cases e : j = 4 + i
  · rw [if_pos e, if_neg (by omega), if_pos (by omega), e, show 4 + i - 4 = i by omega]
  · rw [if_neg e]
    by_cases h4 : j < 4
    · rw [if_pos h4, if_pos h4]
    · rw [if_neg h4, if_neg h4]
      by_cases h5 : j < 4 + i
      · rw [if_pos h5, if_pos (by omega)]
      · rw [if_neg h5, if_neg (by omega)]
def bgN (kb nb : Nat → Nat) (n i : Nat) : Nat → Nat := fun j => if j < 12 then bgK kb 8 j else if j = 12 then n else if j < 13 + i then cwA nb (j - 13) else 0
theorem bgN_zero (kb nb : Nat → Nat) (n : Nat) : upd (bgK kb 8) 12 n = bgN kb nb n 0 := by
  funext j
  unfold upd bgN
  by_cases e : j = 12
  · rw [if_pos e, if_neg (by omega), if_pos e]
  · rw [if_neg e]
    by_cases h4 : j < 12
    · rw [if_pos h4]
    · rw [if_neg h4, if_neg e, if_neg (by omega), bgK, if_neg (by omega), if_neg (by omega)]
theorem bgN_step (kb nb : Nat → Nat) (n i : Nat) : upd (bgN kb nb n i) (13 + i) (cwA nb i) = bgN kb nb n (i + 1) := by
  funext j
  unfold upd bgN
  by_cases e : j = 13 + i
  · rw [if_pos e, if_neg (by omega), if_neg (by omega), if_pos (by omega), e, show 13 + i - 13 = i by omega]
  · rw [if_neg e]
    by_cases h4 : j < 12
    · rw [if_pos h4, if_pos h4]
    · rw [if_neg h4, if_neg h4]
      by_cases h6 : j = 12
      · rw [if_pos h6, if_pos h6]
      · rw [if_neg h6, if_neg h6]
        by_cases h5 : j < 13 + i
        · rw [if_pos h5, if_pos (by omega)]
        · rw [if_neg h5, if_neg (by omega)]
/-- The words that a block begins with. -/
def begC (kb nb : Nat → Nat) (n : Nat) : Nat → Nat := bgN kb nb n 3

structure BG (B : Nat) (kb nb v : Nat → Nat) (w wx : World) : Prop where
  kb : wx.rowIs B 34 32 (bytesV kb)
  nb : wx.rowIs (B + 1) 49 12 (bytesV nb)
  rb : wx.rowIs (B + 1 + 1) 129 16 (fun _ => .int .u32 0)
  wb : wx.rowIs (B + 1 + 1 + 1) 129 16 (wordsV v)
  below : Below B w wx
theorem BG.drewN {B : Nat} {kb nb v : Nat → Nat} {w wx : World} (t : BG B kb nb v w wx) (n : Nat) : BG B kb nb v w (wx.drewN n) := ⟨t.kb, t.nb, t.rb, t.wb, below_drewN t.below n⟩
theorem BG.put {B : Nat} {kb nb v : Nat → Nat} {w wx : World} (t : BG B kb nb v w wx) (i x : Nat) : BG B kb nb (upd v i x) w (wx.setCell ⟨B + 1 + 1 + 1, i, none⟩ (.int .u32 (x : Int))) :=
  ⟨t.kb.setOther (by dsimp only; omega) _, t.nb.setOther (by dsimp only; omega) _, t.rb.setOther (by dsimp only; omega) _, (t.wb.set i _).congr (fun k _ => upd_wordsV v i x k), t.below.setCell (by dsimp only; omega) _⟩

set_option maxRecDepth 100000 in
set_option maxHeartbeats 2000000 in
theorem begin_any (kb nb : Nat → Nat) (n : Nat) (w : World) (hk : Bytes kb) (hn : Bytes nb) :
    Calls Try.prog 108 #[.agg (arrA 32 (bytesV kb)), .agg (arrA 12 (bytesV nb)), .int .u32 (n : Int)] w fun e w' => e = .returned (.agg (arrA 16 (wordsV (begC kb nb n)))) ∧ Below w.heap.size w w' := by
  go_enter Try.func108, Try.ntmps108
  have a0 : World.rowIs ((((w.alloc (Obj.cells (arrA 32 (bytesV kb)) 34)).alloc (Obj.cells (arrA 12 (bytesV nb)) 49)).alloc (Obj.cells #[Value.int IntKind.u32 0, Value.int IntKind.u32 0, Value.int IntKind.u32 0, Value.int IntKind.u32 0, Value.int IntKind.u32 0, Value.int IntKind.u32 0, Value.int IntKind.u32 0, Value.int IntKind.u32 0, Value.int IntKind.u32 0, Value.int IntKind.u32 0, Value.int IntKind.u32 0, Value.int IntKind.u32 0, Value.int IntKind.u32 0, Value.int IntKind.u32 0, Value.int IntKind.u32 0, Value.int IntKind.u32 0] 129)).alloc (Obj.cells #[Value.int IntKind.u32 0, Value.int IntKind.u32 0, Value.int IntKind.u32 0, Value.int IntKind.u32 0, Value.int IntKind.u32 0, Value.int IntKind.u32 0, Value.int IntKind.u32 0, Value.int IntKind.u32 0, Value.int IntKind.u32 0, Value.int IntKind.u32 0, Value.int IntKind.u32 0, Value.int IntKind.u32 0, Value.int IntKind.u32 0, Value.int IntKind.u32 0, Value.int IntKind.u32 0, Value.int IntKind.u32 0] 129)) w.heap.size 34 32 (bytesV kb) := (((row_of_heap (heap_new w _)).alloc _).alloc _).alloc _
  have a1 : World.rowIs ((((w.alloc (Obj.cells (arrA 32 (bytesV kb)) 34)).alloc (Obj.cells (arrA 12 (bytesV nb)) 49)).alloc (Obj.cells #[Value.int IntKind.u32 0, Value.int IntKind.u32 0, Value.int IntKind.u32 0, Value.int IntKind.u32 0, Value.int IntKind.u32 0, Value.int IntKind.u32 0, Value.int IntKind.u32 0, Value.int IntKind.u32 0, Value.int IntKind.u32 0, Value.int IntKind.u32 0, Value.int IntKind.u32 0, Value.int IntKind.u32 0, Value.int IntKind.u32 0, Value.int IntKind.u32 0, Value.int IntKind.u32 0, Value.int IntKind.u32 0] 129)).alloc (Obj.cells #[Value.int IntKind.u32 0, Value.int IntKind.u32 0, Value.int IntKind.u32 0, Value.int IntKind.u32 0, Value.int IntKind.u32 0, Value.int IntKind.u32 0, Value.int IntKind.u32 0, Value.int IntKind.u32 0, Value.int IntKind.u32 0, Value.int IntKind.u32 0, Value.int IntKind.u32 0, Value.int IntKind.u32 0, Value.int IntKind.u32 0, Value.int IntKind.u32 0, Value.int IntKind.u32 0, Value.int IntKind.u32 0] 129)) (w.heap.size + 1) 49 12 (bytesV nb) := by
    have := heap_new (w.alloc (Obj.cells (arrA 32 (bytesV kb)) 34)) (Obj.cells (arrA 12 (bytesV nb)) 49)
    rw [World.size_alloc] at this
    exact ((row_of_heap this).alloc _).alloc _
  have a2 : World.rowIs ((((w.alloc (Obj.cells (arrA 32 (bytesV kb)) 34)).alloc (Obj.cells (arrA 12 (bytesV nb)) 49)).alloc (Obj.cells #[Value.int IntKind.u32 0, Value.int IntKind.u32 0, Value.int IntKind.u32 0, Value.int IntKind.u32 0, Value.int IntKind.u32 0, Value.int IntKind.u32 0, Value.int IntKind.u32 0, Value.int IntKind.u32 0, Value.int IntKind.u32 0, Value.int IntKind.u32 0, Value.int IntKind.u32 0, Value.int IntKind.u32 0, Value.int IntKind.u32 0, Value.int IntKind.u32 0, Value.int IntKind.u32 0, Value.int IntKind.u32 0] 129)).alloc (Obj.cells #[Value.int IntKind.u32 0, Value.int IntKind.u32 0, Value.int IntKind.u32 0, Value.int IntKind.u32 0, Value.int IntKind.u32 0, Value.int IntKind.u32 0, Value.int IntKind.u32 0, Value.int IntKind.u32 0, Value.int IntKind.u32 0, Value.int IntKind.u32 0, Value.int IntKind.u32 0, Value.int IntKind.u32 0, Value.int IntKind.u32 0, Value.int IntKind.u32 0, Value.int IntKind.u32 0, Value.int IntKind.u32 0] 129)) (w.heap.size + 1 + 1) 129 16 (fun _ => .int .u32 0) := by
    have := zero16_row ((w.alloc (Obj.cells (arrA 32 (bytesV kb)) 34)).alloc (Obj.cells (arrA 12 (bytesV nb)) 49))
    rw [World.size_alloc, World.size_alloc] at this
    exact this.alloc _
  have a3 : World.rowIs ((((w.alloc (Obj.cells (arrA 32 (bytesV kb)) 34)).alloc (Obj.cells (arrA 12 (bytesV nb)) 49)).alloc (Obj.cells #[Value.int IntKind.u32 0, Value.int IntKind.u32 0, Value.int IntKind.u32 0, Value.int IntKind.u32 0, Value.int IntKind.u32 0, Value.int IntKind.u32 0, Value.int IntKind.u32 0, Value.int IntKind.u32 0, Value.int IntKind.u32 0, Value.int IntKind.u32 0, Value.int IntKind.u32 0, Value.int IntKind.u32 0, Value.int IntKind.u32 0, Value.int IntKind.u32 0, Value.int IntKind.u32 0, Value.int IntKind.u32 0] 129)).alloc (Obj.cells #[Value.int IntKind.u32 0, Value.int IntKind.u32 0, Value.int IntKind.u32 0, Value.int IntKind.u32 0, Value.int IntKind.u32 0, Value.int IntKind.u32 0, Value.int IntKind.u32 0, Value.int IntKind.u32 0, Value.int IntKind.u32 0, Value.int IntKind.u32 0, Value.int IntKind.u32 0, Value.int IntKind.u32 0, Value.int IntKind.u32 0, Value.int IntKind.u32 0, Value.int IntKind.u32 0, Value.int IntKind.u32 0] 129)) (w.heap.size + 1 + 1 + 1) 129 16 (fun _ => .int .u32 0) := by
    have := zero16_row (((w.alloc (Obj.cells (arrA 32 (bytesV kb)) 34)).alloc (Obj.cells (arrA 12 (bytesV nb)) 49)).alloc (Obj.cells #[Value.int IntKind.u32 0, Value.int IntKind.u32 0, Value.int IntKind.u32 0, Value.int IntKind.u32 0, Value.int IntKind.u32 0, Value.int IntKind.u32 0, Value.int IntKind.u32 0, Value.int IntKind.u32 0, Value.int IntKind.u32 0, Value.int IntKind.u32 0, Value.int IntKind.u32 0, Value.int IntKind.u32 0, Value.int IntKind.u32 0, Value.int IntKind.u32 0, Value.int IntKind.u32 0, Value.int IntKind.u32 0] 129))
    rw [World.size_alloc, World.size_alloc, World.size_alloc] at this
    exact this
  have a4 : Below w.heap.size w ((((w.alloc (Obj.cells (arrA 32 (bytesV kb)) 34)).alloc (Obj.cells (arrA 12 (bytesV nb)) 49)).alloc (Obj.cells #[Value.int IntKind.u32 0, Value.int IntKind.u32 0, Value.int IntKind.u32 0, Value.int IntKind.u32 0, Value.int IntKind.u32 0, Value.int IntKind.u32 0, Value.int IntKind.u32 0, Value.int IntKind.u32 0, Value.int IntKind.u32 0, Value.int IntKind.u32 0, Value.int IntKind.u32 0, Value.int IntKind.u32 0, Value.int IntKind.u32 0, Value.int IntKind.u32 0, Value.int IntKind.u32 0, Value.int IntKind.u32 0] 129)).alloc (Obj.cells #[Value.int IntKind.u32 0, Value.int IntKind.u32 0, Value.int IntKind.u32 0, Value.int IntKind.u32 0, Value.int IntKind.u32 0, Value.int IntKind.u32 0, Value.int IntKind.u32 0, Value.int IntKind.u32 0, Value.int IntKind.u32 0, Value.int IntKind.u32 0, Value.int IntKind.u32 0, Value.int IntKind.u32 0, Value.int IntKind.u32 0, Value.int IntKind.u32 0, Value.int IntKind.u32 0, Value.int IntKind.u32 0] 129)) := ((((Below.refl _ w).alloc (Nat.le_refl _) _).alloc (by simp) _).alloc (by simp; omega) _).alloc (by simp; omega) _
  go_wp2_with (refine store_arr rfl 129 _ _ rfl 16 129 (w.heap.size + 1 + 1 + 1) _ (wordsV (bgK kb 0)) rfl rfl a3 siz129 (fun _ => rfl) ?_)
  have t0 : BG w.heap.size kb nb (bgK kb 0) w (((((w.alloc (Obj.cells (arrA 32 (bytesV kb)) 34)).alloc (Obj.cells (arrA 12 (bytesV nb)) 49)).alloc (Obj.cells #[Value.int IntKind.u32 0, Value.int IntKind.u32 0, Value.int IntKind.u32 0, Value.int IntKind.u32 0, Value.int IntKind.u32 0, Value.int IntKind.u32 0, Value.int IntKind.u32 0, Value.int IntKind.u32 0, Value.int IntKind.u32 0, Value.int IntKind.u32 0, Value.int IntKind.u32 0, Value.int IntKind.u32 0, Value.int IntKind.u32 0, Value.int IntKind.u32 0, Value.int IntKind.u32 0, Value.int IntKind.u32 0] 129)).alloc (Obj.cells #[Value.int IntKind.u32 0, Value.int IntKind.u32 0, Value.int IntKind.u32 0, Value.int IntKind.u32 0, Value.int IntKind.u32 0, Value.int IntKind.u32 0, Value.int IntKind.u32 0, Value.int IntKind.u32 0, Value.int IntKind.u32 0, Value.int IntKind.u32 0, Value.int IntKind.u32 0, Value.int IntKind.u32 0, Value.int IntKind.u32 0, Value.int IntKind.u32 0, Value.int IntKind.u32 0, Value.int IntKind.u32 0] 129)).setRow (w.heap.size + 1 + 1 + 1) (arrA 16 (wordsV (bgK kb 0)))) :=
    ⟨rowIs_setOther a0 (by omega) _, rowIs_setOther a1 (by omega) _, rowIs_setOther a2 (by omega) _, rowIs_setRow a3 _, below_setRow a4 (by omega) _⟩
  obtain ⟨W0, hW0⟩ : ∃ W0, ((((w.alloc (Obj.cells (arrA 32 (bytesV kb)) 34)).alloc (Obj.cells (arrA 12 (bytesV nb)) 49)).alloc (Obj.cells #[Value.int IntKind.u32 0, Value.int IntKind.u32 0, Value.int IntKind.u32 0, Value.int IntKind.u32 0, Value.int IntKind.u32 0, Value.int IntKind.u32 0, Value.int IntKind.u32 0, Value.int IntKind.u32 0, Value.int IntKind.u32 0, Value.int IntKind.u32 0, Value.int IntKind.u32 0, Value.int IntKind.u32 0, Value.int IntKind.u32 0, Value.int IntKind.u32 0, Value.int IntKind.u32 0, Value.int IntKind.u32 0] 129)).alloc (Obj.cells #[Value.int IntKind.u32 0, Value.int IntKind.u32 0, Value.int IntKind.u32 0, Value.int IntKind.u32 0, Value.int IntKind.u32 0, Value.int IntKind.u32 0, Value.int IntKind.u32 0, Value.int IntKind.u32 0, Value.int IntKind.u32 0, Value.int IntKind.u32 0, Value.int IntKind.u32 0, Value.int IntKind.u32 0, Value.int IntKind.u32 0, Value.int IntKind.u32 0, Value.int IntKind.u32 0, Value.int IntKind.u32 0] 129)).setRow (w.heap.size + 1 + 1 + 1) (arrA 16 (wordsV (bgK kb 0))) = W0 := ⟨_, rfl⟩
  rw [hW0] at t0 ⊢
  clear hW0 a0 a1 a2 a3 a4
  try simp only [Act.put, List.setIfInBounds_toArray, List.set_cons_succ, List.set_cons_zero]
  go_wp2_with fail
  go_loopw [11] (fun a wx => ∃ i : Nat, i ≤ 8 ∧ a = .int .i64 (i : Int) ∧ BG w.heap.size kb nb (bgK kb i) w wx) (fun a _ => 8 - (intOf a).toNat)
  case atStart => exact ⟨0, by omega, rfl, t0⟩
  case round =>
    clear t0
    obtain ⟨i, hi, rfl, t1⟩ := hrel
    by_cases hlt : i < 8
    · have c0 : decide ((i : Int) < 8) = true := decide_eq_true (by omega)
      obtain ⟨p, hp⟩ : ∃ p, 4 + i = p := ⟨_, rfl⟩
      obtain ⟨q, hq⟩ : ∃ q, 4 * i = q := ⟨_, rfl⟩
      have e1 : IntKind.i64.wrap (4 + (i : Int)) = (p : Int) := by rw [IntWalk.i64_in _ (by omega)]; omega
      have e2 : IntKind.i64.wrap (4 * (i : Int)) = (q : Int) := by rw [IntWalk.i64_in _ (by omega)]; omega
      have p1 : (p : Int) < 16 := by omega
      have p2 : p < 16 := by omega
      have q1 : (q : Int) ≤ 32 := by omega
      have q2 : q ≤ 32 := by omega
      have q3 : ¬ 32 = q := by omega
      have q4 : ¬ 32 - q = 0 := by omega
      have r0 : kb q < 256 := hk _
      have r1 : kb (q + 1) < 256 := hk _
      have r2 : kb (q + 2) < 256 := hk _
      have r3 : kb (q + 3) < 256 := hk _
      have hw := cword_any w.heap.size q (32 - q) (32 - q) _ _ _ _ wr (by omega) r0 r1 r2 r3 (t1.kb.cell (by omega)) (t1.kb.cell (by omega)) (t1.kb.cell (by omega)) (t1.kb.cell (by omega))
      have hval : w4 (kb q) (kb (q + 1)) (kb (q + 2)) (kb (q + 3)) = cwA kb i := by rw [cwA, hq]
      rw [hval] at hw
      have hst : bgK kb (i + 1) = upd (bgK kb i) p (cwA kb i) := by rw [← hp]; exact (bgK_step kb i).symm
      have Hst := Lib.hid hst
      clear hst hval hp hq
      go_wp2_with fail
      refine hw.mono ?_
      rintro e w1 ⟨rfl, nd, rfl⟩
      have t2 := t1.drewN nd
      have d1 : (wr.drewN nd).cell? ⟨w.heap.size + 1 + 1 + 1, p, none⟩ = some (.int .u32 (bgK kb i p : Int)) := t2.wb.cell p2
      have d2 := t2.wb.frozen p
      go_wp2
      go_roundw
      case rel =>
        refine ⟨i + 1, by omega, by go_num, ?_⟩
        rw [Hst.out]
        exact t2.put p _
      case measure => simp [intOf]; omega
    · have c0 : decide ((i : Int) < 8) = false := decide_eq_false (by omega)
      obtain rfl : i = 8 := by omega
      rw [show ((8 : Nat) : Int) = 8 from rfl]
      obtain ⟨Y, rfl⟩ : ∃ Y, Y = wr := ⟨wr, rfl⟩
      have d1 : Y.cell? ⟨w.heap.size + 1 + 1 + 1, 12, none⟩ = some (.int .u32 (bgK kb 8 12 : Int)) := t1.wb.cell (by omega)
      have d2 := t1.wb.frozen 12
      have t2 := t1.put 12 n
      rw [bgN_zero kb nb] at t2
      go_wp2_with fail
      clear d1 d2
      go_loopw [24] (fun a wx => ∃ i : Nat, i ≤ 3 ∧ a = .int .i64 (i : Int) ∧ BG w.heap.size kb nb (bgN kb nb n i) w wx) (fun a _ => 3 - (intOf a).toNat)
      case atStart => exact ⟨0, by omega, rfl, t2⟩
      case round =>
        clear t2
        obtain ⟨i, hi, rfl, t1⟩ := hrel
        by_cases hlt : i < 3
        · have c0 : decide ((i : Int) < 3) = true := decide_eq_true (by omega)
          obtain ⟨p, hp⟩ : ∃ p, 13 + i = p := ⟨_, rfl⟩
          obtain ⟨q, hq⟩ : ∃ q, 4 * i = q := ⟨_, rfl⟩
          have e1 : IntKind.i64.wrap (13 + (i : Int)) = (p : Int) := by rw [IntWalk.i64_in _ (by omega)]; omega
          have e2 : IntKind.i64.wrap (4 * (i : Int)) = (q : Int) := by rw [IntWalk.i64_in _ (by omega)]; omega
          have p1 : (p : Int) < 16 := by omega
          have p2 : p < 16 := by omega
          have q1 : (q : Int) ≤ 12 := by omega
          have q2 : q ≤ 12 := by omega
          have q3 : ¬ 12 = q := by omega
          have q4 : ¬ 12 - q = 0 := by omega
          have r0 : nb q < 256 := hn _
          have r1 : nb (q + 1) < 256 := hn _
          have r2 : nb (q + 2) < 256 := hn _
          have r3 : nb (q + 3) < 256 := hn _
          have hw := cword_any (w.heap.size + 1) q (12 - q) (12 - q) _ _ _ _ wr (by omega) r0 r1 r2 r3 (t1.nb.cell (by omega)) (t1.nb.cell (by omega)) (t1.nb.cell (by omega)) (t1.nb.cell (by omega))
          have hval : w4 (nb q) (nb (q + 1)) (nb (q + 2)) (nb (q + 3)) = cwA nb i := by rw [cwA, hq]
          rw [hval] at hw
          have hst : bgN kb nb n (i + 1) = upd (bgN kb nb n i) p (cwA nb i) := by rw [← hp]; exact (bgN_step kb nb n i).symm
          have Hst := Lib.hid hst
          clear hst hval hp hq
          go_wp2_with fail
          refine hw.mono ?_
          rintro e w1 ⟨rfl, nd, rfl⟩
          have t2 := t1.drewN nd
          have d1 : (wr.drewN nd).cell? ⟨w.heap.size + 1 + 1 + 1, p, none⟩ = some (.int .u32 (bgN kb nb n i p : Int)) := t2.wb.cell p2
          have d2 := t2.wb.frozen p
          go_wp2
          go_roundw
          case rel =>
            refine ⟨i + 1, by omega, by go_num, ?_⟩
            rw [Hst.out]
            exact t2.put p _
          case measure => simp [intOf]; omega
        · have c0 : decide ((i : Int) < 3) = false := decide_eq_false (by omega)
          obtain rfl : i = 3 := by omega
          rw [show ((3 : Nat) : Int) = 3 from rfl]
          go_wp2_with (first | (refine load_arr rfl 129 _ rfl 16 38 129 (w.heap.size + 1 + 1 + 1) _ rfl t1.wb und129 siz129 ?_) | (refine store_arr rfl 129 _ _ rfl 16 129 (w.heap.size + 1 + 1) _ _ rfl rfl t1.rb siz129 (fun _ => rfl) ?_))
          refine bodyPost_ret (result_arr rfl _ _ 16 38 129 (w.heap.size + 1 + 1) _ rfl (rowIs_setRow t1.rb _) und129 siz129) rfl ?_
          exact ⟨rfl, below_setRow t1.below (by omega) _⟩
end Go.Proofs.Ytnjcganknpnjcaa
