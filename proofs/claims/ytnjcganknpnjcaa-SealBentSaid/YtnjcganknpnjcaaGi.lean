/- cipher: a word of four bytes; the words that a block begins with. -/
import Derived.Test.YtnjcganknpnjcaaGe
import Derived.Test.YtnjcganknpnjcaaGh
import Derived.Test.YtnjcganknpnjcaaGf
import Derived.Laws.IdiomStrings
import Derived.Lib.BufferWrite
set_option linter.unusedVariables false
set_option linter.unusedSimpArgs false
namespace Go.Proofs.Ytnjcganknpnjcaa
open Go.RowKit

set_option maxRecDepth 100000 in
set_option maxHeartbeats 1000000 in
theorem cword_any (b o l c x0 x1 x2 x3 : Nat) (w : World) (h : 4 ≤ l) (l0 : x0 < 256) (l1 : x1 < 256) (l2 : x2 < 256) (l3 : x3 < 256)
    (c0 : w.cell? ⟨b, o, none⟩ = some (.int .u8 (x0 : Int))) (c1 : w.cell? ⟨b, o + 1, none⟩ = some (.int .u8 (x1 : Int))) (c2 : w.cell? ⟨b, o + 2, none⟩ = some (.int .u8 (x2 : Int))) (c3 : w.cell? ⟨b, o + 3, none⟩ = some (.int .u8 (x3 : Int))) :
    Calls Try.prog 122 #[.slice (some ⟨b, o, none⟩) l c] w fun e w' => e = .returned (.int .u32 (w4 x0 x1 x2 x3 : Int)) ∧ Drew w w' := by
  have hl : (4 : Int) ≤ (l : Int) := by omega
  have o1 : bits .or .u32 (x0 : Int) ((x1 : Int) * 256) = ((x0 + x1 * 256 : Nat) : Int) := by
    have := u32_or_nat x0 (x1 * 2 ^ 8) (by omega) (by omega)
    rw [or_add8 _ _ 8 (by omega)] at this
    rw [← this]; congr 1
  have o2 : bits .or .u32 ((x0 : Int) + (x1 : Int) * 256) ((x2 : Int) * 65536) = ((x0 + x1 * 256 + x2 * 65536 : Nat) : Int) := by
    have := u32_or_nat (x0 + x1 * 256) (x2 * 2 ^ 16) (by omega) (by omega)
    rw [or_add8 _ _ 16 (by omega)] at this
    rw [← this]; congr 1
  have o3 : bits .or .u32 ((x0 : Int) + (x1 : Int) * 256 + (x2 : Int) * 65536) ((x3 : Int) * 16777216) = ((x0 + x1 * 256 + x2 * 65536 + x3 * 16777216 : Nat) : Int) := by
    have := u32_or_nat (x0 + x1 * 256 + x2 * 65536) (x3 * 2 ^ 24) (by omega) (by omega)
    rw [or_add8 _ _ 24 (by omega)] at this
    rw [← this]; congr 1
  have g0 : (0 : Int) < (l : Int) := by omega
  have g1 : (1 : Int) < (l : Int) := by omega
  have g2 : (2 : Int) < (l : Int) := by omega
  have g3 : (3 : Int) < (l : Int) := by omega
  go_enter Try.func122, Try.ntmps122
  go_wp2
  go_quiet (fail)
  go_wp2
  go_ret
  exact ⟨ret_int (by simp [w4]), Drew.draws _ _⟩
end Go.Proofs.Ytnjcganknpnjcaa
namespace Go.Proofs.Ytnjcganknpnjcaa
open Go.RowKit

theorem und49 : Try.prog.underlying 49 = some (.array 12 5) := by kernel_rfl
theorem siz49 : (Try.prog.info? 49).map (·.size) = some 12 := by kernel_rfl
def c4L : List Nat := [1634760805, 857760878, 2036477234, 1797285236]
/-- The word number i of an array of bytes. -/
def cwA (v : Nat → Nat) (i : Nat) : Nat := w4 (v (4 * i)) (v (4 * i + 1)) (v (4 * i + 2)) (v (4 * i + 3))
theorem cwA_lt {v : Nat → Nat} (h : Bytes v) (i : Nat) : cwA v i < 4294967296 := w4_lt _ _ _ _ (h _) (h _) (h _) (h _)
def bgK (kb : Nat → Nat) (i : Nat) : Nat → Nat := fun j => if j < 4 then c4L.getD j 0 else if j < 4 + i then cwA kb (j - 4) else 0
theorem bgK_step (kb : Nat → Nat) (i : Nat) : upd (bgK kb i) (4 + i) (cwA kb i) = bgK kb (i + 1) := by
  funext j
  unfold upd bgK
  by_cases e : j = 4 + i
  · rw [if_pos e, if_neg (by omega), if_pos (by omega), e, show 4 + i - 4 = i by omega]
  · rw [if_neg e]
    by_cases h4 : j < 4
    · rw [if_pos h4, if_pos h4]
    · rw [if_neg h4, if_neg h4]
      by_cases h5 : j < 4 + i
      · rw [if_pos h5, if_pos (by omega)]
      · rw [if_neg h5, if_neg (by omega)]
def bgN (kb nb : Nat → Nat) (n i : Nat) : Nat → Nat := fun j => if j < 12 then bgK kb 8 j else if j = 12 then n else if j < 13 + i then cwA nb (j - 13) else 0
theorem bgN_zero (kb nb : Nat → Nat) (n : Nat) : upd (bgK kb 8) 12 n = bgN kb nb n 0 := by
  funext j
  unfold upd bgN
  by_cases e : j = 12
  · rw [if_pos e, if_neg (by omega), if_pos e]
  · rw [if_neg e]
    by_cases h4 : j < 12
    · rw [if_pos h4]
    · rw [if_neg h4, if_neg e, if_neg (by omega), bgK, if_neg (by omega), if_neg (by omega)]
theorem bgN_step (kb nb : Nat → Nat) (n i : Nat) : upd (bgN kb nb n i) (13 + i) (cwA nb i) = bgN kb nb n (i + 1) := by
  funext j
  unfold upd bgN
  by_cases e : j = 13 + i
  · rw [if_pos e, if_neg (by omega), if_neg (by omega), if_pos (by omega), e, show 13 + i - 13 = i by omega]
  · rw [if_neg e]
    by_cases h4 : j < 12
    · rw [if_pos h4, if_pos h4]
    · rw [if_neg h4, if_neg h4]
      by_cases h6 : j = 12
      · rw [if_pos h6, if_pos h6]
      · rw [if_neg h6, if_neg h6]
        by_cases h5 : j < 13 + i
        · rw [if_pos h5, if_pos (by omega)]
        · rw [if_neg h5, if_neg (by omega)]
/-- The words that a block begins with. -/
def begC (kb nb : Nat → Nat) (n : Nat) : Nat → Nat := bgN kb nb n 3

structure BG (B : Nat) (kb nb v : Nat → Nat) (w wx : World) : Prop where
  kb : wx.rowIs B 34 32 (bytesV kb)
  nb : wx.rowIs (B + 1) 49 12 (bytesV nb)
  rb : wx.rowIs (B + 1 + 1) 129 16 (fun _ => .int .u32 0)
  wb : wx.rowIs (B + 1 + 1 + 1) 129 16 (wordsV v)
  below : Below B w wx
theorem BG.drewN {B : Nat} {kb nb v : Nat → Nat} {w wx : World} (t : BG B kb nb v w wx) (n : Nat) : BG B kb nb v w (wx.drewN n) := ⟨t.kb, t.nb, t.rb, t.wb, below_drewN t.below n⟩
theorem BG.put {B : Nat} {kb nb v : Nat → Nat} {w wx : World} (t : BG B kb nb v w wx) (i x : Nat) : BG B kb nb (upd v i x) w (wx.setCell ⟨B + 1 + 1 + 1, i, none⟩ (.int .u32 (x : Int))) :=
  ⟨t.kb.setOther (by dsimp only; omega) _, t.nb.setOther (by dsimp only; omega) _, t.rb.setOther (by dsimp only; omega) _, (t.wb.set i _).congr (fun k _ => upd_wordsV v i x k), t.below.setCell (by dsimp only; omega) _⟩

set_option maxRecDepth 100000 in
set_option maxHeartbeats 2000000 in
theorem begin_any (kb nb : Nat → Nat) (n : Nat) (w : World) (hk : Bytes kb) (hn : Bytes nb) :
    Calls Try.prog 108 #[.agg (arrA 32 (bytesV kb)), .agg (arrA 12 (bytesV nb)), .int .u32 (n : Int)] w fun e w' => e = .returned (.agg (arrA 16 (wordsV (begC kb nb n)))) ∧ Below w.heap.size w w' := by
  go_enter Try.func108, Try.ntmps108
  have a0 : World.rowIs ((((w.alloc (Obj.cells (arrA 32 (bytesV kb)) 34)).alloc (Obj.cells (arrA 12 (bytesV nb)) 49)).alloc (Obj.cells #[Value.int IntKind.u32 0, Value.int IntKind.u32 0, Value.int IntKind.u32 0, Value.int IntKind.u32 0, Value.int IntKind.u32 0, Value.int IntKind.u32 0, Value.int IntKind.u32 0, Value.int IntKind.u32 0, Value.int IntKind.u32 0, Value.int IntKind.u32 0, Value.int IntKind.u32 0, Value.int IntKind.u32 0, Value.int IntKind.u32 0, Value.int IntKind.u32 0, Value.int IntKind.u32 0, Value.int IntKind.u32 0] 129)).alloc (Obj.cells #[Value.int IntKind.u32 0, Value.int IntKind.u32 0, Value.int IntKind.u32 0, Value.int IntKind.u32 0, Value.int IntKind.u32 0, Value.int IntKind.u32 0, Value.int IntKind.u32 0, Value.int IntKind.u32 0, Value.int IntKind.u32 0, Value.int IntKind.u32 0, Value.int IntKind.u32 0, Value.int IntKind.u32 0, Value.int IntKind.u32 0, Value.int IntKind.u32 0, Value.int IntKind.u32 0, Value.int IntKind.u32 0] 129)) w.heap.size 34 32 (bytesV kb) := (((row_of_heap (heap_new w _)).alloc _).alloc _).alloc _
  have a1 : World.rowIs ((((w.alloc (Obj.cells (arrA 32 (bytesV kb)) 34)).alloc (Obj.cells (arrA 12 (bytesV nb)) 49)).alloc (Obj.cells #[Value.int IntKind.u32 0, Value.int IntKind.u32 0, Value.int IntKind.u32 0, Value.int IntKind.u32 0, Value.int IntKind.u32 0, Value.int IntKind.u32 0, Value.int IntKind.u32 0, Value.int IntKind.u32 0, Value.int IntKind.u32 0, Value.int IntKind.u32 0, Value.int IntKind.u32 0, Value.int IntKind.u32 0, Value.int IntKind.u32 0, Value.int IntKind.u32 0, Value.int IntKind.u32 0, Value.int IntKind.u32 0] 129)).alloc (Obj.cells #[Value.int IntKind.u32 0, Value.int IntKind.u32 0, Value.int IntKind.u32 0, Value.int IntKind.u32 0, Value.int IntKind.u32 0, Value.int IntKind.u32 0, Value.int IntKind.u32 0, Value.int IntKind.u32 0, Value.int IntKind.u32 0, Value.int IntKind.u32 0, Value.int IntKind.u32 0, Value.int IntKind.u32 0, Value.int IntKind.u32 0, Value.int IntKind.u32 0, Value.int IntKind.u32 0, Value.int IntKind.u32 0] 129)) (w.heap.size + 1) 49 12 (bytesV nb) := by
    have := heap_new (w.alloc (Obj.cells (arrA 32 (bytesV kb)) 34)) (Obj.cells (arrA 12 (bytesV nb)) 49)
    rw [World.size_alloc] at this
    exact ((row_of_heap this).alloc _).alloc _
  have a2 : World.rowIs ((((w.alloc (Obj.cells (arrA 32 (bytesV kb)) 34)).alloc (Obj.cells (arrA 12 (bytesV nb)) 49)).alloc (Obj.cells #[Value.int IntKind.u32 0, Value.int IntKind.u32 0, Value.int IntKind.u32 0, Value.int IntKind.u32 0, Value.int IntKind.u32 0, Value.int IntKind.u32 0, Value.int IntKind.u32 0, Value.int IntKind.u32 0, Value.int IntKind.u32 0, Value.int IntKind.u32 0, Value.int IntKind.u32 0, Value.int IntKind.u32 0, Value.int IntKind.u32 0, Value.int IntKind.u32 0, Value.int IntKind.u32 0, Value.int IntKind.u32 0] 129)).alloc (Obj.cells #[Value.int IntKind.u32 0, Value.int IntKind.u32 0, Value.int IntKind.u32 0, Value.int IntKind.u32 0, Value.int IntKind.u32 0, Value.int IntKind.u32 0, Value.int IntKind.u32 0, Value.int IntKind.u32 0, Value.int IntKind.u32 0, Value.int IntKind.u32 0, Value.int IntKind.u32 0, Value.int IntKind.u32 0, Value.int IntKind.u32 0, Value.int IntKind.u32 0, Value.int IntKind.u32 0, Value.int IntKind.u32 0] 129)) (w.heap.size + 1 + 1) 129 16 (fun _ => .int .u32 0) := by
    have := zero16_row ((w.alloc (Obj.cells (arrA 32 (bytesV kb)) 34)).alloc (Obj.cells (arrA 12 (bytesV nb)) 49))
    rw [World.size_alloc, World.size_alloc] at this
    exact this.alloc _
  have a3 : World.rowIs ((((w.alloc (Obj.cells (arrA 32 (bytesV kb)) 34)).alloc (Obj.cells (arrA 12 (bytesV nb)) 49)).alloc (Obj.cells #[Value.int IntKind.u32 0, Value.int IntKind.u32 0, Value.int IntKind.u32 0, Value.int IntKind.u32 0, Value.int IntKind.u32 0, Value.int IntKind.u32 0, Value.int IntKind.u32 0, Value.int IntKind.u32 0, Value.int IntKind.u32 0, Value.int IntKind.u32 0, Value.int IntKind.u32 0, Value.int IntKind.u32 0, Value.int IntKind.u32 0, Value.int IntKind.u32 0, Value.int IntKind.u32 0, Value.int IntKind.u32 0] 129)).alloc (Obj.cells #[Value.int IntKind.u32 0, Value.int IntKind.u32 0, Value.int IntKind.u32 0, Value.int IntKind.u32 0, Value.int IntKind.u32 0, Value.int IntKind.u32 0, Value.int IntKind.u32 0, Value.int IntKind.u32 0, Value.int IntKind.u32 0, Value.int IntKind.u32 0, Value.int IntKind.u32 0, Value.int IntKind.u32 0, Value.int IntKind.u32 0, Value.int IntKind.u32 0, Value.int IntKind.u32 0, Value.int IntKind.u32 0] 129)) (w.heap.size + 1 + 1 + 1) 129 16 (fun _ => .int .u32 0) := by
    have := zero16_row (((w.alloc (Obj.cells (arrA 32 (bytesV kb)) 34)).alloc (Obj.cells (arrA 12 (bytesV nb)) 49)).alloc (Obj.cells #[Value.int IntKind.u32 0, Value.int IntKind.u32 0, Value.int IntKind.u32 0, Value.int IntKind.u32 0, Value.int IntKind.u32 0, Value.int IntKind.u32 0, Value.int IntKind.u32 0, Value.int IntKind.u32 0, Value.int IntKind.u32 0, Value.int IntKind.u32 0, Value.int IntKind.u32 0, Value.int IntKind.u32 0, Value.int IntKind.u32 0, Value.int IntKind.u32 0, Value.int IntKind.u32 0, Value.int IntKind.u32 0] 129))
    rw [World.size_alloc, World.size_alloc, World.size_alloc] at this
    exact this
  have a4 : Below w.heap.size w ((((w.alloc (Obj.cells (arrA 32 (bytesV kb)) 34)).alloc (Obj.cells (arrA 12 (bytesV nb)) 49)).alloc (Obj.cells #[Value.int IntKind.u32 0, Value.int IntKind.u32 0, Value.int IntKind.u32 0, Value.int IntKind.u32 0, Value.int IntKind.u32 0, Value.int IntKind.u32 0, Value.int IntKind.u32 0, Value.int IntKind.u32 0, Value.int IntKind.u32 0, Value.int IntKind.u32 0, Value.int IntKind.u32 0, Value.int IntKind.u32 0, Value.int IntKind.u32 0, Value.int IntKind.u32 0, Value.int IntKind.u32 0, Value.int IntKind.u32 0] 129)).alloc (Obj.cells #[Value.int IntKind.u32 0, Value.int IntKind.u32 0, Value.int IntKind.u32 0, Value.int IntKind.u32 0, Value.int IntKind.u32 0, Value.int IntKind.u32 0, Value.int IntKind.u32 0, Value.int IntKind.u32 0, Value.int IntKind.u32 0, Value.int IntKind.u32 0, Value.int IntKind.u32 0, Value.int IntKind.u32 0, Value.int IntKind.u32 0, Value.int IntKind.u32 0, Value.int IntKind.u32 0, Value.int IntKind.u32 0] 129)) := ((((Below.refl _ w).alloc (Nat.le_refl _) _).alloc (by simp) _).alloc (by simp; omega) _).alloc (by simp; omega) _
  go_wp2_with (refine store_arr rfl 129 _ _ rfl 16 129 (w.heap.size + 1 + 1 + 1) _ (wordsV (bgK kb 0)) rfl rfl a3 siz129 (fun _ => rfl) ?_)
  have t0 : BG w.heap.size kb nb (bgK kb 0) w (((((w.alloc (Obj.cells (arrA 32 (bytesV kb)) 34)).alloc (Obj.cells (arrA 12 (bytesV nb)) 49)).alloc (Obj.cells #[Value.int IntKind.u32 0, Value.int IntKind.u32 0, Value.int IntKind.u32 0, Value.int IntKind.u32 0, Value.int IntKind.u32 0, Value.int IntKind.u32 0, Value.int IntKind.u32 0, Value.int IntKind.u32 0, Value.int IntKind.u32 0, Value.int IntKind.u32 0, Value.int IntKind.u32 0, Value.int IntKind.u32 0, Value.int IntKind.u32 0, Value.int IntKind.u32 0, Value.int IntKind.u32 0, Value.int IntKind.u32 0] 129)).alloc (Obj.cells #[Value.int IntKind.u32 0, Value.int IntKind.u32 0, Value.int IntKind.u32 0, Value.int IntKind.u32 0, Value.int IntKind.u32 0, Value.int IntKind.u32 0, Value.int IntKind.u32 0, Value.int IntKind.u32 0, Value.int IntKind.u32 0, Value.int IntKind.u32 0, Value.int IntKind.u32 0, Value.int IntKind.u32 0, Value.int IntKind.u32 0, Value.int IntKind.u32 0, Value.int IntKind.u32 0, Value.int IntKind.u32 0] 129)).setRow (w.heap.size + 1 + 1 + 1) (arrA 16 (wordsV (bgK kb 0)))) :=
    ⟨rowIs_setOther a0 (by omega) _, rowIs_setOther a1 (by omega) _, rowIs_setOther a2 (by omega) _, rowIs_setRow a3 _, below_setRow a4 (by omega) _⟩
  obtain ⟨W0, hW0⟩ : ∃ W0, ((((w.alloc (Obj.cells (arrA 32 (bytesV kb)) 34)).alloc (Obj.cells (arrA 12 (bytesV nb)) 49)).alloc (Obj.cells #[Value.int IntKind.u32 0, Value.int IntKind.u32 0, Value.int IntKind.u32 0, Value.int IntKind.u32 0, Value.int IntKind.u32 0, Value.int IntKind.u32 0, Value.int IntKind.u32 0, Value.int IntKind.u32 0, Value.int IntKind.u32 0, Value.int IntKind.u32 0, Value.int IntKind.u32 0, Value.int IntKind.u32 0, Value.int IntKind.u32 0, Value.int IntKind.u32 0, Value.int IntKind.u32 0, Value.int IntKind.u32 0] 129)).alloc (Obj.cells #[Value.int IntKind.u32 0, Value.int IntKind.u32 0, Value.int IntKind.u32 0, Value.int IntKind.u32 0, Value.int IntKind.u32 0, Value.int IntKind.u32 0, Value.int IntKind.u32 0, Value.int IntKind.u32 0, Value.int IntKind.u32 0, Value.int IntKind.u32 0, Value.int IntKind.u32 0, Value.int IntKind.u32 0, Value.int IntKind.u32 0, Value.int IntKind.u32 0, Value.int IntKind.u32 0, Value.int IntKind.u32 0] 129)).setRow (w.heap.size + 1 + 1 + 1) (arrA 16 (wordsV (bgK kb 0))) = W0 := ⟨_, rfl⟩
  rw [hW0] at t0 ⊢
  clear hW0 a0 a1 a2 a3 a4
  try simp only [Act.put, List.setIfInBounds_toArray, List.set_cons_succ, List.set_cons_zero]
  go_wp2_with fail
  go_loopw [11] (fun a wx => ∃ i : Nat, i ≤ 8 ∧ a = .int .i64 (i : Int) ∧ BG w.heap.size kb nb (bgK kb i) w wx) (fun a _ => 8 - (intOf a).toNat)
  case atStart => exact ⟨0, by omega, rfl, t0⟩
  case round =>
    clear t0
    obtain ⟨i, hi, rfl, t1⟩ := hrel
    by_cases hlt : i < 8
    · have c0 : decide ((i : Int) < 8) = true := decide_eq_true (by omega)
      obtain ⟨p, hp⟩ : ∃ p, 4 + i = p := ⟨_, rfl⟩
      obtain ⟨q, hq⟩ : ∃ q, 4 * i = q := ⟨_, rfl⟩
      have e1 : IntKind.i64.wrap (4 + (i : Int)) = (p : Int) := by rw [IntWalk.i64_in _ (by omega)]; omega
      have e2 : IntKind.i64.wrap (4 * (i : Int)) = (q : Int) := by rw [IntWalk.i64_in _ (by omega)]; omega
      have p1 : (p : Int) < 16 := by omega
      have p2 : p < 16 := by omega
      have q1 : (q : Int) ≤ 32 := by omega
      have q2 : q ≤ 32 := by omega
      have q3 : ¬ 32 = q := by omega
      have q4 : ¬ 32 - q = 0 := by omega
      have r0 : kb q < 256 := hk _
      have r1 : kb (q + 1) < 256 := hk _
      have r2 : kb (q + 2) < 256 := hk _
      have r3 : kb (q + 3) < 256 := hk _
      have hw := cword_any w.heap.size q (32 - q) (32 - q) _ _ _ _ wr (by omega) r0 r1 r2 r3 (t1.kb.cell (by omega)) (t1.kb.cell (by omega)) (t1.kb.cell (by omega)) (t1.kb.cell (by omega))
      have hval : w4 (kb q) (kb (q + 1)) (kb (q + 2)) (kb (q + 3)) = cwA kb i := by rw [cwA, hq]
      rw [hval] at hw
      have hst : bgK kb (i + 1) = upd (bgK kb i) p (cwA kb i) := by rw [← hp]; exact (bgK_step kb i).symm
      have Hst := Lib.hid hst
      clear hst hval hp hq
      go_wp2_with fail
      refine hw.mono ?_
      rintro e w1 ⟨rfl, nd, rfl⟩
      have t2 := t1.drewN nd
      have d1 : (wr.drewN nd).cell? ⟨w.heap.size + 1 + 1 + 1, p, none⟩ = some (.int .u32 (bgK kb i p : Int)) := t2.wb.cell p2
      have d2 := t2.wb.frozen p
      go_wp2
      go_roundw
      case rel =>
        refine ⟨i + 1, by omega, by go_num, ?_⟩
        rw [Hst.out]
        exact t2.put p _
      case measure => simp [intOf]; omega
    · have c0 : decide ((i : Int) < 8) = false := decide_eq_false (by omega)
      obtain rfl : i = 8 := by omega
      rw [show ((8 : Nat) : Int) = 8 from rfl]
      obtain ⟨Y, rfl⟩ : ∃ Y, Y = wr := ⟨wr, rfl⟩
      have d1 : Y.cell? ⟨w.heap.size + 1 + 1 + 1, 12, none⟩ = some (.int .u32 (bgK kb 8 12 : Int)) := t1.wb.cell (by omega)
      have d2 := t1.wb.frozen 12
      have t2 := t1.put 12 n
      rw [bgN_zero kb nb] at t2
      go_wp2_with fail
      clear d1 d2
      go_loopw [24] (fun a wx => ∃ i : Nat, i ≤ 3 ∧ a = .int .i64 (i : Int) ∧ BG w.heap.size kb nb (bgN kb nb n i) w wx) (fun a _ => 3 - (intOf a).toNat)
      case atStart => exact ⟨0, by omega, rfl, t2⟩
      case round =>
        clear t2
        obtain ⟨i, hi, rfl, t1⟩ := hrel
        by_cases hlt : i < 3
        · have c0 : decide ((i : Int) < 3) = true := decide_eq_true (by omega)
          obtain ⟨p, hp⟩ : ∃ p, 13 + i = p := ⟨_, rfl⟩
          obtain ⟨q, hq⟩ : ∃ q, 4 * i = q := ⟨_, rfl⟩
          have e1 : IntKind.i64.wrap (13 + (i : Int)) = (p : Int) := by rw [IntWalk.i64_in _ (by omega)]; omega
          have e2 : IntKind.i64.wrap (4 * (i : Int)) = (q : Int) := by rw [IntWalk.i64_in _ (by omega)]; omega
          have p1 : (p : Int) < 16 := by omega
          have p2 : p < 16 := by omega
          have q1 : (q : Int) ≤ 12 := by omega
          have q2 : q ≤ 12 := by omega
          have q3 : ¬ 12 = q := by omega
          have q4 : ¬ 12 - q = 0 := by omega
          have r0 : nb q < 256 := hn _
          have r1 : nb (q + 1) < 256 := hn _
          have r2 : nb (q + 2) < 256 := hn _
          have r3 : nb (q + 3) < 256 := hn _
          have hw := cword_any (w.heap.size + 1) q (12 - q) (12 - q) _ _ _ _ wr (by omega) r0 r1 r2 r3 (t1.nb.cell (by omega)) (t1.nb.cell (by omega)) (t1.nb.cell (by omega)) (t1.nb.cell (by omega))
          have hval : w4 (nb q) (nb (q + 1)) (nb (q + 2)) (nb (q + 3)) = cwA nb i := by rw [cwA, hq]
          rw [hval] at hw
          have hst : bgN kb nb n (i + 1) = upd (bgN kb nb n i) p (cwA nb i) := by rw [← hp]; exact (bgN_step kb nb n i).symm
          have Hst := Lib.hid hst
          clear hst hval hp hq
          go_wp2_with fail
          refine hw.mono ?_
          rintro e w1 ⟨rfl, nd, rfl⟩
          have t2 := t1.drewN nd
          have d1 : (wr.drewN nd).cell? ⟨w.heap.size + 1 + 1 + 1, p, none⟩ = some (.int .u32 (bgN kb nb n i p : Int)) := t2.wb.cell p2
          have d2 := t2.wb.frozen p
          go_wp2
          go_roundw
          case rel =>
            refine ⟨i + 1, by omega, by go_num, ?_⟩
            rw [Hst.out]
            exact t2.put p _
          case measure => simp [intOf]; omega
        · have c0 : decide ((i : Int) < 3) = false := decide_eq_false (by omega)
          obtain rfl : i = 3 := by omega
          rw [show ((3 : Nat) : Int) = 3 from rfl]
          go_wp2_with (first | (refine load_arr rfl 129 _ rfl 16 38 129 (w.heap.size + 1 + 1 + 1) _ rfl t1.wb und129 siz129 ?_) | (refine store_arr rfl 129 _ _ rfl 16 129 (w.heap.size + 1 + 1) _ _ rfl rfl t1.rb siz129 (fun _ => rfl) ?_))
          refine bodyPost_ret (result_arr rfl _ _ 16 38 129 (w.heap.size + 1 + 1) _ rfl (rowIs_setRow t1.rb _) und129 siz129) rfl ?_
          exact ⟨rfl, below_setRow t1.below (by omega) _⟩
end Go.Proofs.Ytnjcganknpnjcaa
namespace Go.Proofs.Ytnjcganknpnjcaa
open Go.RowKit

/-- The words, and the numbers to turn by. -/
structure CB (V Y : Nat) (b0 b1 : Int) (v : Nat → Nat) (w wx : World) : Prop where
  row : wx.rowIs V 129 16 (wordsV v)
  words : Words v
  y0 : wx.cell? ⟨Y, 0, none⟩ = some (.int .i64 b0)
  y1 : wx.cell? ⟨Y, 1, none⟩ = some (.int .i64 b1)
  ne : Y ≠ V
  grown : w.grownBy wx (some V)
theorem CB.store {V Y : Nat} {b0 b1 : Int} {v : Nat → Nat} {w wx : World} (h : CB V Y b0 b1 v w wx) (i : Nat) {x : Nat} (hx : x < 4294967296) :
    CB V Y b0 b1 (upd v i x) w (wx.setCell ⟨V, i, none⟩ (.int .u32 (x : Int))).drew :=
  ⟨((h.row.set i _).drew).congr (fun k _ => upd_wordsV v i x k), h.words.upd i hx, cell_other h.y0 h.ne, cell_other h.y1 h.ne, h.ne, grown_store h.grown i _⟩
/-- The words behind r halves of a step. -/
def cst (v : Nat → Nat) (a b c d : Nat) : Nat → (Nat → Nat)
  | 0 => v
  | 1 => halfV v a b c d 0 16 12
  | _ => halfV (halfV v a b c d 0 16 12) a b c d 0 8 7

theorem und132 : Try.prog.underlying 132 = some (.array 2 131) := by kernel_rfl
theorem idx132_0 (x0 x1 x2 x3 : Value) (W : World) : (Instr.index 132 (.agg #[x0, x1, x2, x3]) (.int .i64 0)).run Try.prog W = .ok (.agg #[x0, x1]) W := by
  simp [Instr.index, run_underlying und132, asIntOf, go_sem]
theorem idx132_1 (x0 x1 x2 x3 : Value) (W : World) : (Instr.index 132 (.agg #[x0, x1, x2, x3]) (.int .i64 1)).run Try.prog W = .ok (.agg #[x2, x3]) W := by
  simp [Instr.index, run_underlying und132, asIntOf, go_sem]

set_option maxRecDepth 100000 in
set_option maxHeartbeats 4000000 in
theorem cstep_any (V a b c d : Nat) (v : Nat → Nat) (w : World) (hr : w.rowIs V 129 16 (wordsV v)) (hw : Words v) (ha : a < 16) (hb : b < 16) (hc : c < 16) (hd : d < 16) :
    Calls Try.prog 109 #[.int .i64 (a : Int), .int .i64 (b : Int), .int .i64 (c : Int), .int .i64 (d : Int), .pointer (some ⟨V, 0, none⟩)] w fun e w' =>
      e = .returned (.tuple #[]) ∧ w'.rowIs V 129 16 (wordsV (cst v a b c d 2)) ∧ w.grownBy w' (some V) := by
  have i1 : (a : Int) < 16 := by omega
  have i2 : (b : Int) < 16 := by omega
  have i3 : (d : Int) < 16 := by omega
  have i4 : (c : Int) < 16 := by omega
  go_enter Try.func109, Try.ntmps109
  go_wp2_with fail
  go_loopw [14] (fun a' wx => ∃ r : Nat, r ≤ 2 ∧ a' = .int .i64 (r : Int) ∧ wx.rowIs V 129 16 (wordsV (cst v a b c d r)) ∧ Words (cst v a b c d r) ∧ w.grownBy wx (some V)) (fun a' _ => 2 - (intOf a').toNat)
  case atStart => exact ⟨0, by omega, rfl, hr, hw, World.grownBy.refl w _⟩
  case round =>
    obtain ⟨r, hr2, rfl, hrow, hwd, hg⟩ := hrel
    rcases (show r = 0 ∨ r = 1 ∨ r = 2 by omega) with rfl | rfl | rfl
    · have hix := idx132_0 (.int .i64 16) (.int .i64 12) (.int .i64 8) (.int .i64 7)
      obtain ⟨v0, hv0⟩ : ∃ v0, cst v a b c d 0 = v0 := ⟨_, rfl⟩
      rw [hv0] at hrow hwd
      have Hv0 := Lib.hid hv0
      clear hv0
      go_upto_region 3 with fail
      obtain ⟨Y, hY⟩ : ∃ Y, wr.heap.size = Y := ⟨_, rfl⟩
      have m0 : CB V Y 16 12 v0 w (wr.alloc (Obj.cells #[Value.int IntKind.i64 16, Value.int IntKind.i64 12] 131)) := by
        have hlt := hrow.lt
        have hn := heap_new wr (Obj.cells #[Value.int IntKind.i64 16, Value.int IntKind.i64 12] 131)
        rw [hY] at hn
        exact ⟨hrow.alloc _, hwd, by rw [cell_of_row _ _ 0 _ _ _ hn]; rfl, by rw [cell_of_row _ _ 1 _ _ _ hn]; rfl, by omega, grown_alloc hg _⟩
      obtain ⟨W0, hW0⟩ : ∃ W0, wr.alloc (Obj.cells #[Value.int IntKind.i64 16, Value.int IntKind.i64 12] 131) = W0 := ⟨_, rfl⟩
      rw [hW0] at m0 ⊢
      rw [hY]
      clear hW0 hY hrow hwd hg
      go_cut [] (fun wx => CB V Y 16 12 (half1 v0 a b 0) w wx)
      case first =>
        have r1 : W0.cell? ⟨V, a, none⟩ = some (.int .u32 (v0 a : Int)) := m0.row.cell ha
        have r2 : W0.cell? ⟨V, b, none⟩ = some (.int .u32 (v0 b : Int)) := m0.row.cell hb
        have fr := m0.row.frozen a
        go_region
        have q : ((v0 a : Int) + (v0 b : Int)) % 4294967296 = (((v0 a + (v0 b + 0)) % 4294967296 : Nat) : Int) := by omega
        rw [q]
        go_wp2
        go_meet
        exact m0.store a (Nat.mod_lt _ (by omega))
      case rest =>
      have m1 := hcut
      obtain ⟨v1, hv1⟩ : ∃ v1, half1 v0 a b 0 = v1 := ⟨_, rfl⟩
      rw [hv1] at m1
      have Hv1 := Lib.hid hv1
      clear hcut m0 hv1
      go_upto_region 4 with fail
      go_cut [] (fun wx => CB V Y 16 12 (half2 v1 a d 16) w wx)
      case first =>
        have r1 : wc.cell? ⟨V, a, none⟩ = some (.int .u32 (v1 a : Int)) := m1.row.cell ha
        have r2 : wc.cell? ⟨V, d, none⟩ = some (.int .u32 (v1 d : Int)) := m1.row.cell hd
        have fr := m1.row.frozen d
        have y0 := m1.y0
        have b1 := u32_xor_nat _ _ (m1.words d) (m1.words a)
        have xx : v1 d ^^^ v1 a < 4294967296 := Nat.xor_lt_two_pow (n := 32) (m1.words d) (m1.words a)
        go_wp2
        refine wp_region_still_tail 12 (by kernel_rfl) (by kernel_rfl) ?_
        change wpStill _ _ wc.drew (fun a' => wpList _ _ _ _ a' wc.drew) _ _
        simp only [List.take_succ_cons, List.take_zero, List.drop_succ_cons, List.drop_zero]
        repeat still_step
        refine still_call (F := 110) rfl (by go_simp) (rot_any (v1 d ^^^ v1 a) 16 16 wc.drew xx (by kernel_rfl) (by omega) (by omega)) ?_
        simp only [Act.put, List.setIfInBounds_toArray, List.set_cons_succ, List.set_cons_zero]
        repeat still_step
        try refine wpStill_nil ?_
        go_wp2
        go_meet
        exact m1.store d (rotl_lt 16 _ (by omega) (by omega) xx)
      case rest =>
      have m2 := hcut
      obtain ⟨v2, hv2⟩ : ∃ v2, half2 v1 a d 16 = v2 := ⟨_, rfl⟩
      rw [hv2] at m2
      have Hv2 := Lib.hid hv2
      clear hcut m1 hv2
      go_upto_region 5 with fail
      go_cut [] (fun wx => CB V Y 16 12 (half1 v2 c d 0) w wx)
      case first =>
        have r1 : wc.cell? ⟨V, c, none⟩ = some (.int .u32 (v2 c : Int)) := m2.row.cell hc
        have r2 : wc.cell? ⟨V, d, none⟩ = some (.int .u32 (v2 d : Int)) := m2.row.cell hd
        have fr := m2.row.frozen c
        go_region
        have q : ((v2 c : Int) + (v2 d : Int)) % 4294967296 = (((v2 c + (v2 d + 0)) % 4294967296 : Nat) : Int) := by omega
        rw [q]
        go_wp2
        go_meet
        exact m2.store c (Nat.mod_lt _ (by omega))
      case rest =>
      have m3 := hcut
      obtain ⟨v3, hv3⟩ : ∃ v3, half1 v2 c d 0 = v3 := ⟨_, rfl⟩
      rw [hv3] at m3
      have Hv3 := Lib.hid hv3
      clear hcut m2 hv3
      go_upto_region 6 with fail
      have r1 : wc.cell? ⟨V, c, none⟩ = some (.int .u32 (v3 c : Int)) := m3.row.cell hc
      have r2 : wc.cell? ⟨V, b, none⟩ = some (.int .u32 (v3 b : Int)) := m3.row.cell hb
      have fr := m3.row.frozen b
      have y0 := m3.y1
      have b1 := u32_xor_nat _ _ (m3.words b) (m3.words c)
      have xx : v3 b ^^^ v3 c < 4294967296 := Nat.xor_lt_two_pow (n := 32) (m3.words b) (m3.words c)
      go_wp2
      refine wp_region_still_tail 12 (by kernel_rfl) (by kernel_rfl) ?_
      change wpStill _ _ wc.drew (fun a' => wpList _ _ _ _ a' wc.drew) _ _
      simp only [List.take_succ_cons, List.take_zero, List.drop_succ_cons, List.drop_zero]
      repeat still_step
      refine still_call (F := 110) rfl (by go_simp) (rot_any (v3 b ^^^ v3 c) 12 12 wc.drew xx (by kernel_rfl) (by omega) (by omega)) ?_
      simp only [Act.put, List.setIfInBounds_toArray, List.set_cons_succ, List.set_cons_zero]
      repeat still_step
      try refine wpStill_nil ?_
      have m4 := m3.store b (rotl_lt 12 _ (by omega) (by omega) xx)
      change CB V Y 16 12 (half2 v3 c b 12) w _ at m4
      have hfin : half2 v3 c b 12 = cst v a b c d 1 := by rw [← Hv3.out, ← Hv2.out, ← Hv1.out, ← Hv0.out]; rfl
      rw [hfin] at m4
      have Hfin := Lib.hid hfin
      clear hfin
      go_wp2
      go_roundw
      case rel => exact ⟨1, by omega, by go_num, m4.row, m4.words, m4.grown⟩
      case measure => simp [intOf]
    · have hix := idx132_1 (.int .i64 16) (.int .i64 12) (.int .i64 8) (.int .i64 7)
      obtain ⟨v0, hv0⟩ : ∃ v0, cst v a b c d 1 = v0 := ⟨_, rfl⟩
      rw [hv0] at hrow hwd
      have Hv0 := Lib.hid hv0
      clear hv0
      go_upto_region 3 with fail
      obtain ⟨Y, hY⟩ : ∃ Y, wr.heap.size = Y := ⟨_, rfl⟩
      have m0 : CB V Y 8 7 v0 w (wr.alloc (Obj.cells #[Value.int IntKind.i64 8, Value.int IntKind.i64 7] 131)) := by
        have hlt := hrow.lt
        have hn := heap_new wr (Obj.cells #[Value.int IntKind.i64 8, Value.int IntKind.i64 7] 131)
        rw [hY] at hn
        exact ⟨hrow.alloc _, hwd, by rw [cell_of_row _ _ 0 _ _ _ hn]; rfl, by rw [cell_of_row _ _ 1 _ _ _ hn]; rfl, by omega, grown_alloc hg _⟩
      obtain ⟨W0, hW0⟩ : ∃ W0, wr.alloc (Obj.cells #[Value.int IntKind.i64 8, Value.int IntKind.i64 7] 131) = W0 := ⟨_, rfl⟩
      rw [hW0] at m0 ⊢
      rw [hY]
      clear hW0 hY hrow hwd hg
      go_cut [] (fun wx => CB V Y 8 7 (half1 v0 a b 0) w wx)
      case first =>
        have r1 : W0.cell? ⟨V, a, none⟩ = some (.int .u32 (v0 a : Int)) := m0.row.cell ha
        have r2 : W0.cell? ⟨V, b, none⟩ = some (.int .u32 (v0 b : Int)) := m0.row.cell hb
        have fr := m0.row.frozen a
        go_region
        have q : ((v0 a : Int) + (v0 b : Int)) % 4294967296 = (((v0 a + (v0 b + 0)) % 4294967296 : Nat) : Int) := by omega
        rw [q]
        go_wp2
        go_meet
        exact m0.store a (Nat.mod_lt _ (by omega))
      case rest =>
      have m1 := hcut
      obtain ⟨v1, hv1⟩ : ∃ v1, half1 v0 a b 0 = v1 := ⟨_, rfl⟩
      rw [hv1] at m1
      have Hv1 := Lib.hid hv1
      clear hcut m0 hv1
      go_upto_region 4 with fail
      go_cut [] (fun wx => CB V Y 8 7 (half2 v1 a d 8) w wx)
      case first =>
        have r1 : wc.cell? ⟨V, a, none⟩ = some (.int .u32 (v1 a : Int)) := m1.row.cell ha
        have r2 : wc.cell? ⟨V, d, none⟩ = some (.int .u32 (v1 d : Int)) := m1.row.cell hd
        have fr := m1.row.frozen d
        have y0 := m1.y0
        have b1 := u32_xor_nat _ _ (m1.words d) (m1.words a)
        have xx : v1 d ^^^ v1 a < 4294967296 := Nat.xor_lt_two_pow (n := 32) (m1.words d) (m1.words a)
        go_wp2
        refine wp_region_still_tail 12 (by kernel_rfl) (by kernel_rfl) ?_
        change wpStill _ _ wc.drew (fun a' => wpList _ _ _ _ a' wc.drew) _ _
        simp only [List.take_succ_cons, List.take_zero, List.drop_succ_cons, List.drop_zero]
        repeat still_step
        refine still_call (F := 110) rfl (by go_simp) (rot_any (v1 d ^^^ v1 a) 8 8 wc.drew xx (by kernel_rfl) (by omega) (by omega)) ?_
        simp only [Act.put, List.setIfInBounds_toArray, List.set_cons_succ, List.set_cons_zero]
        repeat still_step
        try refine wpStill_nil ?_
        go_wp2
        go_meet
        exact m1.store d (rotl_lt 8 _ (by omega) (by omega) xx)
      case rest =>
      have m2 := hcut
      obtain ⟨v2, hv2⟩ : ∃ v2, half2 v1 a d 8 = v2 := ⟨_, rfl⟩
      rw [hv2] at m2
      have Hv2 := Lib.hid hv2
      clear hcut m1 hv2
      go_upto_region 5 with fail
      go_cut [] (fun wx => CB V Y 8 7 (half1 v2 c d 0) w wx)
      case first =>
        have r1 : wc.cell? ⟨V, c, none⟩ = some (.int .u32 (v2 c : Int)) := m2.row.cell hc
        have r2 : wc.cell? ⟨V, d, none⟩ = some (.int .u32 (v2 d : Int)) := m2.row.cell hd
        have fr := m2.row.frozen c
        go_region
        have q : ((v2 c : Int) + (v2 d : Int)) % 4294967296 = (((v2 c + (v2 d + 0)) % 4294967296 : Nat) : Int) := by omega
        rw [q]
        go_wp2
        go_meet
        exact m2.store c (Nat.mod_lt _ (by omega))
      case rest =>
      have m3 := hcut
      obtain ⟨v3, hv3⟩ : ∃ v3, half1 v2 c d 0 = v3 := ⟨_, rfl⟩
      rw [hv3] at m3
      have Hv3 := Lib.hid hv3
      clear hcut m2 hv3
      go_upto_region 6 with fail
      have r1 : wc.cell? ⟨V, c, none⟩ = some (.int .u32 (v3 c : Int)) := m3.row.cell hc
      have r2 : wc.cell? ⟨V, b, none⟩ = some (.int .u32 (v3 b : Int)) := m3.row.cell hb
      have fr := m3.row.frozen b
      have y0 := m3.y1
      have b1 := u32_xor_nat _ _ (m3.words b) (m3.words c)
      have xx : v3 b ^^^ v3 c < 4294967296 := Nat.xor_lt_two_pow (n := 32) (m3.words b) (m3.words c)
      go_wp2
      refine wp_region_still_tail 12 (by kernel_rfl) (by kernel_rfl) ?_
      change wpStill _ _ wc.drew (fun a' => wpList _ _ _ _ a' wc.drew) _ _
      simp only [List.take_succ_cons, List.take_zero, List.drop_succ_cons, List.drop_zero]
      repeat still_step
      refine still_call (F := 110) rfl (by go_simp) (rot_any (v3 b ^^^ v3 c) 7 7 wc.drew xx (by kernel_rfl) (by omega) (by omega)) ?_
      simp only [Act.put, List.setIfInBounds_toArray, List.set_cons_succ, List.set_cons_zero]
      repeat still_step
      try refine wpStill_nil ?_
      have m4 := m3.store b (rotl_lt 7 _ (by omega) (by omega) xx)
      change CB V Y 8 7 (half2 v3 c b 7) w _ at m4
      have hfin : half2 v3 c b 7 = cst v a b c d 2 := by rw [← Hv3.out, ← Hv2.out, ← Hv1.out, ← Hv0.out]; rfl
      rw [hfin] at m4
      have Hfin := Lib.hid hfin
      clear hfin
      go_wp2
      go_roundw
      case rel => exact ⟨2, by omega, by go_num, m4.row, m4.words, m4.grown⟩
      case measure => simp [intOf]
    · go_wp2_with fail
      go_end0
      exact ⟨rfl, hrow, hg⟩
end Go.Proofs.Ytnjcganknpnjcaa
namespace Go.Proofs.Ytnjcganknpnjcaa
open Go.RowKit

theorem cst_words {v : Nat → Nat} (h : Words v) (a b c d : Nat) : Words (cst v a b c d 2) :=
  halfV_words (halfV_words h _ _ _ _ _ _ _ (by omega) (by omega) (by omega) (by omega)) _ _ _ _ _ _ _ (by omega) (by omega) (by omega) (by omega)
def cstp (k : Nat) (v : Nat → Nat) : Nat → Nat :=
  if k < 4 then cst v k (4 + k) (8 + k) (12 + k) 2 else cst v (k - 4) (4 + (k - 4 + 1) % 4) (8 + (k - 4 + 2) % 4) (12 + (k - 4 + 3) % 4) 2
def csts : Nat → (Nat → Nat) → (Nat → Nat)
  | 0, v => v
  | k + 1, v => cstp k (csts k v)
def crnds : Nat → (Nat → Nat) → (Nat → Nat)
  | 0, v => v
  | r + 1, v => csts 8 (crnds r v)
theorem cstp_words {v : Nat → Nat} (h : Words v) (k : Nat) : Words (cstp k v) := by
  unfold cstp
  split <;> exact cst_words h _ _ _ _
theorem csts_words {v : Nat → Nat} (h : Words v) : ∀ k, Words (csts k v)
  | 0 => h
  | k + 1 => cstp_words (csts_words h k) k
theorem crnds_words {v : Nat → Nat} (h : Words v) : ∀ r, Words (crnds r v)
  | 0 => h
  | r + 1 => csts_words (crnds_words h r) 8
theorem begC_words {kb nb : Nat → Nat} {n : Nat} (hk : Bytes kb) (hn : Bytes nb) (h : n < 4294967296) : Words (begC kb nb n) := by
  intro j
  show bgN kb nb n 3 j < _
  unfold bgN
  by_cases h1 : j < 12
  · rw [if_pos h1]
    unfold bgK
    by_cases h2 : j < 4
    · rw [if_pos h2]; exact getD_lt (by decide) (by omega) _
    · rw [if_neg h2, if_pos (by omega)]; exact cwA_lt hk _
  · rw [if_neg h1]
    by_cases h3 : j = 12
    · rw [if_pos h3]; exact h
    · rw [if_neg h3]
      by_cases h4 : j < 13 + 3
      · rw [if_pos h4]; exact cwA_lt hn _
      · rw [if_neg h4]; omega
/-- The words of a block, and its bytes. -/
def blkW (kb nb : Nat → Nat) (n : Nat) : Nat → Nat := fun i => (crnds 10 (begC kb nb n) i + begC kb nb n i) % 4294967296
def blkB (kb nb : Nat → Nat) (n : Nat) : Nat → Nat := dgB (blkW kb nb n)

structure BK (B F V : Nat) (f v : Nat → Nat) (w wx : World) : Prop where
  rb : wx.rowIs (B + 1 + 1) 119 64 (fun _ => .int .u8 0)
  fb : wx.rowIs F 129 16 (wordsV f)
  vb : wx.rowIs V 129 16 (wordsV v)
  hF : B + 1 + 1 < F
  hV : F < V
  below : Below B w wx
theorem BK.step {B F V : Nat} {f v v' : Nat → Nat} {w wx wy : World} (t : BK B F V f v w wx) (h : wy.rowIs V 129 16 (wordsV v')) (g : wx.grownBy wy (some V)) : BK B F V f v' w wy := by
  have h1 := t.hF
  have h2 := t.hV
  exact ⟨t.rb.of_block (g.block _ t.rb.lt (by simp; omega)), t.fb.of_block (g.block _ t.fb.lt (by simp; omega)), h, t.hF, t.hV, t.below.grown g (by have := t.vb.lt; omega) (fun k hk => by cases hk; omega)⟩

set_option maxRecDepth 100000 in
set_option maxHeartbeats 4000000 in
theorem block_any (kb nb : Nat → Nat) (n : Nat) (w : World) (hk : Bytes kb) (hn : Bytes nb) (hn32 : n < 4294967296) :
    Calls Try.prog 95 #[.agg (arrA 32 (bytesV kb)), .agg (arrA 12 (bytesV nb)), .int .u32 (n : Int)] w fun e w' => e = .returned (.agg (arrA 64 (bytesV (blkB kb nb n)))) ∧ Below w.heap.size w w' := by
  go_enter Try.func95, Try.ntmps95
  have a0 : World.rowIs (((w.alloc (Obj.cells (arrA 32 (bytesV kb)) 34)).alloc (Obj.cells (arrA 12 (bytesV nb)) 49)).alloc (Obj.cells #[Value.int IntKind.u8 0, Value.int IntKind.u8 0, Value.int IntKind.u8 0, Value.int IntKind.u8 0, Value.int IntKind.u8 0, Value.int IntKind.u8 0, Value.int IntKind.u8 0, Value.int IntKind.u8 0, Value.int IntKind.u8 0, Value.int IntKind.u8 0, Value.int IntKind.u8 0, Value.int IntKind.u8 0, Value.int IntKind.u8 0, Value.int IntKind.u8 0, Value.int IntKind.u8 0, Value.int IntKind.u8 0, Value.int IntKind.u8 0, Value.int IntKind.u8 0, Value.int IntKind.u8 0, Value.int IntKind.u8 0, Value.int IntKind.u8 0, Value.int IntKind.u8 0, Value.int IntKind.u8 0, Value.int IntKind.u8 0, Value.int IntKind.u8 0, Value.int IntKind.u8 0, Value.int IntKind.u8 0, Value.int IntKind.u8 0, Value.int IntKind.u8 0, Value.int IntKind.u8 0, Value.int IntKind.u8 0, Value.int IntKind.u8 0, Value.int IntKind.u8 0, Value.int IntKind.u8 0, Value.int IntKind.u8 0, Value.int IntKind.u8 0, Value.int IntKind.u8 0, Value.int IntKind.u8 0, Value.int IntKind.u8 0, Value.int IntKind.u8 0, Value.int IntKind.u8 0, Value.int IntKind.u8 0, Value.int IntKind.u8 0, Value.int IntKind.u8 0, Value.int IntKind.u8 0, Value.int IntKind.u8 0, Value.int IntKind.u8 0, Value.int IntKind.u8 0, Value.int IntKind.u8 0, Value.int IntKind.u8 0, Value.int IntKind.u8 0, Value.int IntKind.u8 0, Value.int IntKind.u8 0, Value.int IntKind.u8 0, Value.int IntKind.u8 0, Value.int IntKind.u8 0, Value.int IntKind.u8 0, Value.int IntKind.u8 0, Value.int IntKind.u8 0, Value.int IntKind.u8 0, Value.int IntKind.u8 0, Value.int IntKind.u8 0, Value.int IntKind.u8 0, Value.int IntKind.u8 0] 119)) w.heap.size 34 32 (bytesV kb) := ((row_of_heap (heap_new w _)).alloc _).alloc _
  have a1 : World.rowIs (((w.alloc (Obj.cells (arrA 32 (bytesV kb)) 34)).alloc (Obj.cells (arrA 12 (bytesV nb)) 49)).alloc (Obj.cells #[Value.int IntKind.u8 0, Value.int IntKind.u8 0, Value.int IntKind.u8 0, Value.int IntKind.u8 0, Value.int IntKind.u8 0, Value.int IntKind.u8 0, Value.int IntKind.u8 0, Value.int IntKind.u8 0, Value.int IntKind.u8 0, Value.int IntKind.u8 0, Value.int IntKind.u8 0, Value.int IntKind.u8 0, Value.int IntKind.u8 0, Value.int IntKind.u8 0, Value.int IntKind.u8 0, Value.int IntKind.u8 0, Value.int IntKind.u8 0, Value.int IntKind.u8 0, Value.int IntKind.u8 0, Value.int IntKind.u8 0, Value.int IntKind.u8 0, Value.int IntKind.u8 0, Value.int IntKind.u8 0, Value.int IntKind.u8 0, Value.int IntKind.u8 0, Value.int IntKind.u8 0, Value.int IntKind.u8 0, Value.int IntKind.u8 0, Value.int IntKind.u8 0, Value.int IntKind.u8 0, Value.int IntKind.u8 0, Value.int IntKind.u8 0, Value.int IntKind.u8 0, Value.int IntKind.u8 0, Value.int IntKind.u8 0, Value.int IntKind.u8 0, Value.int IntKind.u8 0, Value.int IntKind.u8 0, Value.int IntKind.u8 0, Value.int IntKind.u8 0, Value.int IntKind.u8 0, Value.int IntKind.u8 0, Value.int IntKind.u8 0, Value.int IntKind.u8 0, Value.int IntKind.u8 0, Value.int IntKind.u8 0, Value.int IntKind.u8 0, Value.int IntKind.u8 0, Value.int IntKind.u8 0, Value.int IntKind.u8 0, Value.int IntKind.u8 0, Value.int IntKind.u8 0, Value.int IntKind.u8 0, Value.int IntKind.u8 0, Value.int IntKind.u8 0, Value.int IntKind.u8 0, Value.int IntKind.u8 0, Value.int IntKind.u8 0, Value.int IntKind.u8 0, Value.int IntKind.u8 0, Value.int IntKind.u8 0, Value.int IntKind.u8 0, Value.int IntKind.u8 0, Value.int IntKind.u8 0] 119)) (w.heap.size + 1) 49 12 (bytesV nb) := by
    have := heap_new (w.alloc (Obj.cells (arrA 32 (bytesV kb)) 34)) (Obj.cells (arrA 12 (bytesV nb)) 49)
    rw [World.size_alloc] at this
    exact (row_of_heap this).alloc _
  have a2 : World.rowIs (((w.alloc (Obj.cells (arrA 32 (bytesV kb)) 34)).alloc (Obj.cells (arrA 12 (bytesV nb)) 49)).alloc (Obj.cells #[Value.int IntKind.u8 0, Value.int IntKind.u8 0, Value.int IntKind.u8 0, Value.int IntKind.u8 0, Value.int IntKind.u8 0, Value.int IntKind.u8 0, Value.int IntKind.u8 0, Value.int IntKind.u8 0, Value.int IntKind.u8 0, Value.int IntKind.u8 0, Value.int IntKind.u8 0, Value.int IntKind.u8 0, Value.int IntKind.u8 0, Value.int IntKind.u8 0, Value.int IntKind.u8 0, Value.int IntKind.u8 0, Value.int IntKind.u8 0, Value.int IntKind.u8 0, Value.int IntKind.u8 0, Value.int IntKind.u8 0, Value.int IntKind.u8 0, Value.int IntKind.u8 0, Value.int IntKind.u8 0, Value.int IntKind.u8 0, Value.int IntKind.u8 0, Value.int IntKind.u8 0, Value.int IntKind.u8 0, Value.int IntKind.u8 0, Value.int IntKind.u8 0, Value.int IntKind.u8 0, Value.int IntKind.u8 0, Value.int IntKind.u8 0, Value.int IntKind.u8 0, Value.int IntKind.u8 0, Value.int IntKind.u8 0, Value.int IntKind.u8 0, Value.int IntKind.u8 0, Value.int IntKind.u8 0, Value.int IntKind.u8 0, Value.int IntKind.u8 0, Value.int IntKind.u8 0, Value.int IntKind.u8 0, Value.int IntKind.u8 0, Value.int IntKind.u8 0, Value.int IntKind.u8 0, Value.int IntKind.u8 0, Value.int IntKind.u8 0, Value.int IntKind.u8 0, Value.int IntKind.u8 0, Value.int IntKind.u8 0, Value.int IntKind.u8 0, Value.int IntKind.u8 0, Value.int IntKind.u8 0, Value.int IntKind.u8 0, Value.int IntKind.u8 0, Value.int IntKind.u8 0, Value.int IntKind.u8 0, Value.int IntKind.u8 0, Value.int IntKind.u8 0, Value.int IntKind.u8 0, Value.int IntKind.u8 0, Value.int IntKind.u8 0, Value.int IntKind.u8 0, Value.int IntKind.u8 0] 119)) (w.heap.size + 1 + 1) 119 64 (fun _ => .int .u8 0) := by
    have := heap_new ((w.alloc (Obj.cells (arrA 32 (bytesV kb)) 34)).alloc (Obj.cells (arrA 12 (bytesV nb)) 49)) (Obj.cells #[Value.int IntKind.u8 0, Value.int IntKind.u8 0, Value.int IntKind.u8 0, Value.int IntKind.u8 0, Value.int IntKind.u8 0, Value.int IntKind.u8 0, Value.int IntKind.u8 0, Value.int IntKind.u8 0, Value.int IntKind.u8 0, Value.int IntKind.u8 0, Value.int IntKind.u8 0, Value.int IntKind.u8 0, Value.int IntKind.u8 0, Value.int IntKind.u8 0, Value.int IntKind.u8 0, Value.int IntKind.u8 0, Value.int IntKind.u8 0, Value.int IntKind.u8 0, Value.int IntKind.u8 0, Value.int IntKind.u8 0, Value.int IntKind.u8 0, Value.int IntKind.u8 0, Value.int IntKind.u8 0, Value.int IntKind.u8 0, Value.int IntKind.u8 0, Value.int IntKind.u8 0, Value.int IntKind.u8 0, Value.int IntKind.u8 0, Value.int IntKind.u8 0, Value.int IntKind.u8 0, Value.int IntKind.u8 0, Value.int IntKind.u8 0, Value.int IntKind.u8 0, Value.int IntKind.u8 0, Value.int IntKind.u8 0, Value.int IntKind.u8 0, Value.int IntKind.u8 0, Value.int IntKind.u8 0, Value.int IntKind.u8 0, Value.int IntKind.u8 0, Value.int IntKind.u8 0, Value.int IntKind.u8 0, Value.int IntKind.u8 0, Value.int IntKind.u8 0, Value.int IntKind.u8 0, Value.int IntKind.u8 0, Value.int IntKind.u8 0, Value.int IntKind.u8 0, Value.int IntKind.u8 0, Value.int IntKind.u8 0, Value.int IntKind.u8 0, Value.int IntKind.u8 0, Value.int IntKind.u8 0, Value.int IntKind.u8 0, Value.int IntKind.u8 0, Value.int IntKind.u8 0, Value.int IntKind.u8 0, Value.int IntKind.u8 0, Value.int IntKind.u8 0, Value.int IntKind.u8 0, Value.int IntKind.u8 0, Value.int IntKind.u8 0, Value.int IntKind.u8 0, Value.int IntKind.u8 0] 119)
    rw [World.size_alloc, World.size_alloc] at this
    exact row_of_heap this
  have a4 : Below w.heap.size w (((w.alloc (Obj.cells (arrA 32 (bytesV kb)) 34)).alloc (Obj.cells (arrA 12 (bytesV nb)) 49)).alloc (Obj.cells #[Value.int IntKind.u8 0, Value.int IntKind.u8 0, Value.int IntKind.u8 0, Value.int IntKind.u8 0, Value.int IntKind.u8 0, Value.int IntKind.u8 0, Value.int IntKind.u8 0, Value.int IntKind.u8 0, Value.int IntKind.u8 0, Value.int IntKind.u8 0, Value.int IntKind.u8 0, Value.int IntKind.u8 0, Value.int IntKind.u8 0, Value.int IntKind.u8 0, Value.int IntKind.u8 0, Value.int IntKind.u8 0, Value.int IntKind.u8 0, Value.int IntKind.u8 0, Value.int IntKind.u8 0, Value.int IntKind.u8 0, Value.int IntKind.u8 0, Value.int IntKind.u8 0, Value.int IntKind.u8 0, Value.int IntKind.u8 0, Value.int IntKind.u8 0, Value.int IntKind.u8 0, Value.int IntKind.u8 0, Value.int IntKind.u8 0, Value.int IntKind.u8 0, Value.int IntKind.u8 0, Value.int IntKind.u8 0, Value.int IntKind.u8 0, Value.int IntKind.u8 0, Value.int IntKind.u8 0, Value.int IntKind.u8 0, Value.int IntKind.u8 0, Value.int IntKind.u8 0, Value.int IntKind.u8 0, Value.int IntKind.u8 0, Value.int IntKind.u8 0, Value.int IntKind.u8 0, Value.int IntKind.u8 0, Value.int IntKind.u8 0, Value.int IntKind.u8 0, Value.int IntKind.u8 0, Value.int IntKind.u8 0, Value.int IntKind.u8 0, Value.int IntKind.u8 0, Value.int IntKind.u8 0, Value.int IntKind.u8 0, Value.int IntKind.u8 0, Value.int IntKind.u8 0, Value.int IntKind.u8 0, Value.int IntKind.u8 0, Value.int IntKind.u8 0, Value.int IntKind.u8 0, Value.int IntKind.u8 0, Value.int IntKind.u8 0, Value.int IntKind.u8 0, Value.int IntKind.u8 0, Value.int IntKind.u8 0, Value.int IntKind.u8 0, Value.int IntKind.u8 0, Value.int IntKind.u8 0] 119)) := (((Below.refl _ w).alloc (Nat.le_refl _) _).alloc (by simp) _).alloc (by simp; omega) _
  go_upto_region 1 with fail
  obtain ⟨W0, hW0⟩ : ∃ W0, (((w.alloc (Obj.cells (arrA 32 (bytesV kb)) 34)).alloc (Obj.cells (arrA 12 (bytesV nb)) 49)).alloc (Obj.cells #[Value.int IntKind.u8 0, Value.int IntKind.u8 0, Value.int IntKind.u8 0, Value.int IntKind.u8 0, Value.int IntKind.u8 0, Value.int IntKind.u8 0, Value.int IntKind.u8 0, Value.int IntKind.u8 0, Value.int IntKind.u8 0, Value.int IntKind.u8 0, Value.int IntKind.u8 0, Value.int IntKind.u8 0, Value.int IntKind.u8 0, Value.int IntKind.u8 0, Value.int IntKind.u8 0, Value.int IntKind.u8 0, Value.int IntKind.u8 0, Value.int IntKind.u8 0, Value.int IntKind.u8 0, Value.int IntKind.u8 0, Value.int IntKind.u8 0, Value.int IntKind.u8 0, Value.int IntKind.u8 0, Value.int IntKind.u8 0, Value.int IntKind.u8 0, Value.int IntKind.u8 0, Value.int IntKind.u8 0, Value.int IntKind.u8 0, Value.int IntKind.u8 0, Value.int IntKind.u8 0, Value.int IntKind.u8 0, Value.int IntKind.u8 0, Value.int IntKind.u8 0, Value.int IntKind.u8 0, Value.int IntKind.u8 0, Value.int IntKind.u8 0, Value.int IntKind.u8 0, Value.int IntKind.u8 0, Value.int IntKind.u8 0, Value.int IntKind.u8 0, Value.int IntKind.u8 0, Value.int IntKind.u8 0, Value.int IntKind.u8 0, Value.int IntKind.u8 0, Value.int IntKind.u8 0, Value.int IntKind.u8 0, Value.int IntKind.u8 0, Value.int IntKind.u8 0, Value.int IntKind.u8 0, Value.int IntKind.u8 0, Value.int IntKind.u8 0, Value.int IntKind.u8 0, Value.int IntKind.u8 0, Value.int IntKind.u8 0, Value.int IntKind.u8 0, Value.int IntKind.u8 0, Value.int IntKind.u8 0, Value.int IntKind.u8 0, Value.int IntKind.u8 0, Value.int IntKind.u8 0, Value.int IntKind.u8 0, Value.int IntKind.u8 0, Value.int IntKind.u8 0, Value.int IntKind.u8 0] 119)) = W0 := ⟨_, rfl⟩
  rw [hW0] at a0 a1 a2 a4 ⊢
  clear hW0
  go_wp2_with (first | (refine load_arr rfl 34 _ rfl 32 5 34 w.heap.size _ rfl a0 und34 siz34 ?_) | (refine load_arr rfl 49 _ rfl 12 5 49 (w.heap.size + 1) _ rfl a1 und49 siz49 ?_) | fail)
  refine (begin_any kb nb n W0 hk hn).mono ?_
  rintro e w2 ⟨rfl, hb2⟩
  have hfw := begC_words hk hn hn32
  have HblkB : Hid (∀ j, blkB kb nb n j = dgB (fun i => (crnds 10 (begC kb nb n) i + begC kb nb n i) % 4294967296) j) := Lib.hid (fun _ => rfl)
  obtain ⟨f, hf⟩ : ∃ f, begC kb nb n = f := ⟨_, rfl⟩
  rw [hf] at hfw HblkB ⊢
  clear hf
  have z3 := zero16_row w2
  go_upto_region 2 with (refine store_arr rfl 129 _ _ rfl 16 129 w2.heap.size _ (wordsV f) rfl rfl z3 siz129 (fun _ => rfl) ?_)
  have hF0 : w.heap.size + 1 + 1 < w2.heap.size := Nat.lt_of_lt_of_le a2.lt hb2.size
  have f1 := rowIs_setRow z3 (wordsV f)
  have r1 : World.rowIs ((w2.alloc (Obj.cells #[Value.int IntKind.u32 0, Value.int IntKind.u32 0, Value.int IntKind.u32 0, Value.int IntKind.u32 0, Value.int IntKind.u32 0, Value.int IntKind.u32 0, Value.int IntKind.u32 0, Value.int IntKind.u32 0, Value.int IntKind.u32 0, Value.int IntKind.u32 0, Value.int IntKind.u32 0, Value.int IntKind.u32 0, Value.int IntKind.u32 0, Value.int IntKind.u32 0, Value.int IntKind.u32 0, Value.int IntKind.u32 0] 129)).setRow w2.heap.size (arrA 16 (wordsV f))) (w.heap.size + 1 + 1) 119 64 (fun _ => .int .u8 0) := rowIs_setOther ((a2.of_block (hb2.block _ a2.lt)).alloc _) (by omega) _
  have g1 : Below w.heap.size w ((w2.alloc (Obj.cells #[Value.int IntKind.u32 0, Value.int IntKind.u32 0, Value.int IntKind.u32 0, Value.int IntKind.u32 0, Value.int IntKind.u32 0, Value.int IntKind.u32 0, Value.int IntKind.u32 0, Value.int IntKind.u32 0, Value.int IntKind.u32 0, Value.int IntKind.u32 0, Value.int IntKind.u32 0, Value.int IntKind.u32 0, Value.int IntKind.u32 0, Value.int IntKind.u32 0, Value.int IntKind.u32 0, Value.int IntKind.u32 0] 129)).setRow w2.heap.size (arrA 16 (wordsV f))) := below_setRow ((a4.trans (hb2.mono a4.size)).alloc (by omega) _) (by omega) _
  obtain ⟨W1, hW1⟩ : ∃ W1, (w2.alloc (Obj.cells #[Value.int IntKind.u32 0, Value.int IntKind.u32 0, Value.int IntKind.u32 0, Value.int IntKind.u32 0, Value.int IntKind.u32 0, Value.int IntKind.u32 0, Value.int IntKind.u32 0, Value.int IntKind.u32 0, Value.int IntKind.u32 0, Value.int IntKind.u32 0, Value.int IntKind.u32 0, Value.int IntKind.u32 0, Value.int IntKind.u32 0, Value.int IntKind.u32 0, Value.int IntKind.u32 0, Value.int IntKind.u32 0] 129)).setRow w2.heap.size (arrA 16 (wordsV f)) = W1 := ⟨_, rfl⟩
  obtain ⟨F, hF⟩ : ∃ F, w2.heap.size = F := ⟨_, rfl⟩
  rw [hW1] at f1 r1 g1 ⊢
  rw [hF] at f1 hF0 ⊢
  clear hW1 hF z3 hb2 a0 a1 a2 a4
  simp only [Act.put]
  have hFV : F < W1.heap.size := f1.lt
  have z4 := zero16_row W1
  go_upto_region 3 with (first | (refine load_arr rfl 129 _ rfl 16 38 129 F _ rfl f1 und129 siz129 ?_) | (refine store_arr rfl 129 _ _ rfl 16 129 W1.heap.size _ (wordsV f) rfl rfl z4 siz129 (fun _ => rfl) ?_))
  have t0 : BK w.heap.size F W1.heap.size f f w ((W1.alloc (Obj.cells #[Value.int IntKind.u32 0, Value.int IntKind.u32 0, Value.int IntKind.u32 0, Value.int IntKind.u32 0, Value.int IntKind.u32 0, Value.int IntKind.u32 0, Value.int IntKind.u32 0, Value.int IntKind.u32 0, Value.int IntKind.u32 0, Value.int IntKind.u32 0, Value.int IntKind.u32 0, Value.int IntKind.u32 0, Value.int IntKind.u32 0, Value.int IntKind.u32 0, Value.int IntKind.u32 0, Value.int IntKind.u32 0] 129)).setRow W1.heap.size (arrA 16 (wordsV f))) :=
    ⟨rowIs_setOther (r1.alloc _) (by omega) _, rowIs_setOther (f1.alloc _) (by omega) _, rowIs_setRow z4 _, hF0, hFV, below_setRow (g1.alloc (by omega) _) (by omega) _⟩
  obtain ⟨W2, hW2⟩ : ∃ W2, (W1.alloc (Obj.cells #[Value.int IntKind.u32 0, Value.int IntKind.u32 0, Value.int IntKind.u32 0, Value.int IntKind.u32 0, Value.int IntKind.u32 0, Value.int IntKind.u32 0, Value.int IntKind.u32 0, Value.int IntKind.u32 0, Value.int IntKind.u32 0, Value.int IntKind.u32 0, Value.int IntKind.u32 0, Value.int IntKind.u32 0, Value.int IntKind.u32 0, Value.int IntKind.u32 0, Value.int IntKind.u32 0, Value.int IntKind.u32 0] 129)).setRow W1.heap.size (arrA 16 (wordsV f)) = W2 := ⟨_, rfl⟩
  obtain ⟨V, hV⟩ : ∃ V, W1.heap.size = V := ⟨_, rfl⟩
  rw [hW2] at t0 ⊢
  rw [hV] at t0 hFV ⊢
  clear hW2 hV z4 f1 r1 g1
  simp only [Act.put]
  go_wp2_with fail
  go_loopw [22] (fun a wx => ∃ r : Nat, r ≤ 10 ∧ a = .int .i64 (r : Int) ∧ BK w.heap.size F V f (crnds r f) w wx) (fun a _ => 10 - (intOf a).toNat)
  case atStart => exact ⟨0, by omega, rfl, t0⟩
  case round =>
    clear t0
    obtain ⟨r, hr, rfl, t1⟩ := hrel
    by_cases hrt : r < 10
    · have c2 : decide ((r : Int) < 10) = true := decide_eq_true (by omega)
      have hwr := crnds_words hfw r
      obtain ⟨v, hv⟩ : ∃ v, crnds r f = v := ⟨_, rfl⟩
      rw [hv] at t1 hwr
      have Hv := Lib.hid hv
      clear hv
      go_wp2_with fail
      go_loopw [24] (fun a wx => ∃ i : Nat, i ≤ 4 ∧ a = .int .i64 (i : Int) ∧ BK w.heap.size F V f (csts i v) w wx) (fun a _ => 4 - (intOf a).toNat)
      case atStart => exact ⟨0, by omega, rfl, t1⟩
      case round =>
        clear t1
        obtain ⟨i, hi, rfl, t1⟩ := hrel
        by_cases hlt : i < 4
        · have c3 : decide ((i : Int) < 4) = true := decide_eq_true (by omega)
          obtain ⟨b1, hb1⟩ : ∃ b1, 4 + i = b1 := ⟨_, rfl⟩
          obtain ⟨b2, hb2⟩ : ∃ b2, 8 + i = b2 := ⟨_, rfl⟩
          obtain ⟨b3, hb3⟩ : ∃ b3, 12 + i = b3 := ⟨_, rfl⟩
          have e1 : IntKind.i64.wrap (4 + (i : Int)) = (b1 : Int) := by rw [IntWalk.i64_in _ (by omega)]; omega
          have e2 : IntKind.i64.wrap (8 + (i : Int)) = (b2 : Int) := by rw [IntWalk.i64_in _ (by omega)]; omega
          have e3 : IntKind.i64.wrap (12 + (i : Int)) = (b3 : Int) := by rw [IntWalk.i64_in _ (by omega)]; omega
          have hs := cstep_any V i b1 b2 b3 _ wr t1.vb (csts_words hwr i) (by omega) (by omega) (by omega) (by omega)
          have hst : cst (csts i v) i b1 b2 b3 2 = csts (i + 1) v := by
            show _ = cstp i (csts i v)
            rw [cstp, if_pos hlt, hb1, hb2, hb3]
          rw [hst] at hs
          clear hst hb1 hb2 hb3
          go_wp2_with fail
          refine hs.mono ?_
          rintro e w3 ⟨rfl, hrow, hg⟩
          have t2 := t1.step hrow hg
          go_wp2
          go_roundw
          case rel => exact ⟨i + 1, by omega, by go_num, t2⟩
          case measure => simp [intOf]; omega
        · have c3 : decide ((i : Int) < 4) = false := decide_eq_false (by omega)
          obtain rfl : i = 4 := by omega
          rw [show ((4 : Nat) : Int) = 4 from rfl]
          obtain ⟨Y, rfl⟩ : ∃ Y, Y = wr := ⟨wr, rfl⟩
          go_wp2_with fail
          go_loopw [37] (fun a wx => ∃ i : Nat, i ≤ 4 ∧ a = .int .i64 (i : Int) ∧ BK w.heap.size F V f (csts (4 + i) v) w wx) (fun a _ => 4 - (intOf a).toNat)
          case atStart => exact ⟨0, by omega, rfl, t1⟩
          case round =>
            clear t1
            obtain ⟨i, hi, rfl, t1⟩ := hrel
            by_cases hlt : i < 4
            · have c3 : decide ((i : Int) < 4) = true := decide_eq_true (by omega)
              have e1 : IntKind.i64.wrap ((i : Int) + 1) = (i : Int) + 1 := IntWalk.i64_in _ (by omega)
              have e2 : IntKind.i64.wrap ((i : Int) + 2) = (i : Int) + 2 := IntWalk.i64_in _ (by omega)
              have e3 : IntKind.i64.wrap ((i : Int) + 3) = (i : Int) + 3 := IntWalk.i64_in _ (by omega)
              obtain ⟨b1, hb1⟩ : ∃ b1, 4 + (i + 1) % 4 = b1 := ⟨_, rfl⟩
              obtain ⟨b2, hb2⟩ : ∃ b2, 8 + (i + 2) % 4 = b2 := ⟨_, rfl⟩
              obtain ⟨b3, hb3⟩ : ∃ b3, 12 + (i + 3) % 4 = b3 := ⟨_, rfl⟩
              have f1 : IntKind.i64.wrap (4 + ((i : Int) + 1) % 4) = (b1 : Int) := by rw [IntWalk.i64_in _ (by omega)]; omega
              have f2 : IntKind.i64.wrap (8 + ((i : Int) + 2) % 4) = (b2 : Int) := by rw [IntWalk.i64_in _ (by omega)]; omega
              have f3 : IntKind.i64.wrap (12 + ((i : Int) + 3) % 4) = (b3 : Int) := by rw [IntWalk.i64_in _ (by omega)]; omega
              have hs := cstep_any V i b1 b2 b3 _ wr t1.vb (csts_words hwr (4 + i)) (by omega) (by omega) (by omega) (by omega)
              have hst : cst (csts (4 + i) v) i b1 b2 b3 2 = csts (4 + (i + 1)) v := by
                show _ = cstp (4 + i) (csts (4 + i) v)
                rw [cstp, if_neg (by omega), show 4 + i - 4 = i by omega, hb1, hb2, hb3]
              rw [hst] at hs
              clear hst hb1 hb2 hb3
              go_wp2_with fail
              refine hs.mono ?_
              rintro e w3 ⟨rfl, hrow, hg⟩
              have t2 := t1.step hrow hg
              go_wp2
              go_roundw
              case rel => exact ⟨i + 1, by omega, by go_num, t2⟩
              case measure => simp [intOf]; omega
            · have c3 : decide ((i : Int) < 4) = false := decide_eq_false (by omega)
              obtain rfl : i = 4 := by omega
              go_wp2
              go_roundw
              case rel =>
                refine ⟨r + 1, by omega, by go_num, ?_⟩
                show BK w.heap.size F V f (csts 8 (crnds r f)) w wr
                rw [Hv.out]
                exact t1
              case measure => simp [intOf]; omega
    · have c2 : decide ((r : Int) < 10) = false := decide_eq_false (by omega)
      obtain rfl : r = 10 := by omega
      rw [show ((10 : Nat) : Int) = 10 from rfl]
      have hwr := crnds_words hfw 10
      obtain ⟨fv, hfv⟩ : ∃ fv, crnds 10 f = fv := ⟨_, rfl⟩
      rw [hfv] at t1 hwr HblkB
      clear hfv
      obtain ⟨Y, rfl⟩ : ∃ Y, Y = wr := ⟨wr, rfl⟩
      have hz : World.rowIs (Y.alloc (Obj.cells #[Value.int IntKind.u8 0, Value.int IntKind.u8 0, Value.int IntKind.u8 0, Value.int IntKind.u8 0, Value.int IntKind.u8 0, Value.int IntKind.u8 0, Value.int IntKind.u8 0, Value.int IntKind.u8 0, Value.int IntKind.u8 0, Value.int IntKind.u8 0, Value.int IntKind.u8 0, Value.int IntKind.u8 0, Value.int IntKind.u8 0, Value.int IntKind.u8 0, Value.int IntKind.u8 0, Value.int IntKind.u8 0, Value.int IntKind.u8 0, Value.int IntKind.u8 0, Value.int IntKind.u8 0, Value.int IntKind.u8 0, Value.int IntKind.u8 0, Value.int IntKind.u8 0, Value.int IntKind.u8 0, Value.int IntKind.u8 0, Value.int IntKind.u8 0, Value.int IntKind.u8 0, Value.int IntKind.u8 0, Value.int IntKind.u8 0, Value.int IntKind.u8 0, Value.int IntKind.u8 0, Value.int IntKind.u8 0, Value.int IntKind.u8 0, Value.int IntKind.u8 0, Value.int IntKind.u8 0, Value.int IntKind.u8 0, Value.int IntKind.u8 0, Value.int IntKind.u8 0, Value.int IntKind.u8 0, Value.int IntKind.u8 0, Value.int IntKind.u8 0, Value.int IntKind.u8 0, Value.int IntKind.u8 0, Value.int IntKind.u8 0, Value.int IntKind.u8 0, Value.int IntKind.u8 0, Value.int IntKind.u8 0, Value.int IntKind.u8 0, Value.int IntKind.u8 0, Value.int IntKind.u8 0, Value.int IntKind.u8 0, Value.int IntKind.u8 0, Value.int IntKind.u8 0, Value.int IntKind.u8 0, Value.int IntKind.u8 0, Value.int IntKind.u8 0, Value.int IntKind.u8 0, Value.int IntKind.u8 0, Value.int IntKind.u8 0, Value.int IntKind.u8 0, Value.int IntKind.u8 0, Value.int IntKind.u8 0, Value.int IntKind.u8 0, Value.int IntKind.u8 0, Value.int IntKind.u8 0] 119)) Y.heap.size 119 64 (bytesV (dgP (blkB kb nb n) 0)) := row_of_heap (heap_new Y _)
      have hVO : V < Y.heap.size := t1.vb.lt
      have hB1 := t1.hF
      have t2 : BK w.heap.size F V f fv w (Y.alloc (Obj.cells #[Value.int IntKind.u8 0, Value.int IntKind.u8 0, Value.int IntKind.u8 0, Value.int IntKind.u8 0, Value.int IntKind.u8 0, Value.int IntKind.u8 0, Value.int IntKind.u8 0, Value.int IntKind.u8 0, Value.int IntKind.u8 0, Value.int IntKind.u8 0, Value.int IntKind.u8 0, Value.int IntKind.u8 0, Value.int IntKind.u8 0, Value.int IntKind.u8 0, Value.int IntKind.u8 0, Value.int IntKind.u8 0, Value.int IntKind.u8 0, Value.int IntKind.u8 0, Value.int IntKind.u8 0, Value.int IntKind.u8 0, Value.int IntKind.u8 0, Value.int IntKind.u8 0, Value.int IntKind.u8 0, Value.int IntKind.u8 0, Value.int IntKind.u8 0, Value.int IntKind.u8 0, Value.int IntKind.u8 0, Value.int IntKind.u8 0, Value.int IntKind.u8 0, Value.int IntKind.u8 0, Value.int IntKind.u8 0, Value.int IntKind.u8 0, Value.int IntKind.u8 0, Value.int IntKind.u8 0, Value.int IntKind.u8 0, Value.int IntKind.u8 0, Value.int IntKind.u8 0, Value.int IntKind.u8 0, Value.int IntKind.u8 0, Value.int IntKind.u8 0, Value.int IntKind.u8 0, Value.int IntKind.u8 0, Value.int IntKind.u8 0, Value.int IntKind.u8 0, Value.int IntKind.u8 0, Value.int IntKind.u8 0, Value.int IntKind.u8 0, Value.int IntKind.u8 0, Value.int IntKind.u8 0, Value.int IntKind.u8 0, Value.int IntKind.u8 0, Value.int IntKind.u8 0, Value.int IntKind.u8 0, Value.int IntKind.u8 0, Value.int IntKind.u8 0, Value.int IntKind.u8 0, Value.int IntKind.u8 0, Value.int IntKind.u8 0, Value.int IntKind.u8 0, Value.int IntKind.u8 0, Value.int IntKind.u8 0, Value.int IntKind.u8 0, Value.int IntKind.u8 0, Value.int IntKind.u8 0] 119)) := ⟨t1.rb.alloc _, t1.fb.alloc _, t1.vb.alloc _, t1.hF, t1.hV, t1.below.alloc (by have := t1.rb.lt; omega) _⟩
      go_wp2_with fail
      obtain ⟨W5, hW5⟩ : ∃ W5, Y.alloc (Obj.cells #[Value.int IntKind.u8 0, Value.int IntKind.u8 0, Value.int IntKind.u8 0, Value.int IntKind.u8 0, Value.int IntKind.u8 0, Value.int IntKind.u8 0, Value.int IntKind.u8 0, Value.int IntKind.u8 0, Value.int IntKind.u8 0, Value.int IntKind.u8 0, Value.int IntKind.u8 0, Value.int IntKind.u8 0, Value.int IntKind.u8 0, Value.int IntKind.u8 0, Value.int IntKind.u8 0, Value.int IntKind.u8 0, Value.int IntKind.u8 0, Value.int IntKind.u8 0, Value.int IntKind.u8 0, Value.int IntKind.u8 0, Value.int IntKind.u8 0, Value.int IntKind.u8 0, Value.int IntKind.u8 0, Value.int IntKind.u8 0, Value.int IntKind.u8 0, Value.int IntKind.u8 0, Value.int IntKind.u8 0, Value.int IntKind.u8 0, Value.int IntKind.u8 0, Value.int IntKind.u8 0, Value.int IntKind.u8 0, Value.int IntKind.u8 0, Value.int IntKind.u8 0, Value.int IntKind.u8 0, Value.int IntKind.u8 0, Value.int IntKind.u8 0, Value.int IntKind.u8 0, Value.int IntKind.u8 0, Value.int IntKind.u8 0, Value.int IntKind.u8 0, Value.int IntKind.u8 0, Value.int IntKind.u8 0, Value.int IntKind.u8 0, Value.int IntKind.u8 0, Value.int IntKind.u8 0, Value.int IntKind.u8 0, Value.int IntKind.u8 0, Value.int IntKind.u8 0, Value.int IntKind.u8 0, Value.int IntKind.u8 0, Value.int IntKind.u8 0, Value.int IntKind.u8 0, Value.int IntKind.u8 0, Value.int IntKind.u8 0, Value.int IntKind.u8 0, Value.int IntKind.u8 0, Value.int IntKind.u8 0, Value.int IntKind.u8 0, Value.int IntKind.u8 0, Value.int IntKind.u8 0, Value.int IntKind.u8 0, Value.int IntKind.u8 0, Value.int IntKind.u8 0, Value.int IntKind.u8 0] 119) = W5 := ⟨_, rfl⟩
      obtain ⟨O, hO⟩ : ∃ O, Y.heap.size = O := ⟨_, rfl⟩
      rw [hW5] at hz t2 ⊢
      rw [hO] at hz hVO ⊢
      clear hW5 hO t1
      go_loopw [57] (fun a wx => ∃ i : Nat, i ≤ 16 ∧ a = .int .i64 (i : Int) ∧ wx.rowIs O 119 64 (bytesV (dgP (blkB kb nb n) (4 * i))) ∧ BK w.heap.size F V f fv w wx) (fun a _ => 16 - (intOf a).toNat)
      case atStart => exact ⟨0, by omega, rfl, hz, t2⟩
      case round =>
        clear hz t2
        obtain ⟨i, hi, rfl, hz, t2⟩ := hrel
        by_cases hlt8 : i < 16
        · have c3 : decide ((i : Int) < 16) = true := decide_eq_true (by omega)
          have c4 : (i : Int) < 16 := by omega
          have d1 : wr.cell? ⟨V, i, none⟩ = some (.int .u32 (fv i : Int)) := t2.vb.cell hlt8
          have d2 : wr.cell? ⟨F, i, none⟩ = some (.int .u32 (f i : Int)) := t2.fb.cell hlt8
          obtain ⟨y, hy⟩ : ∃ y, (fv i + f i) % 4294967296 = y := ⟨_, rfl⟩
          have hyl : y < 4294967296 := by rw [← hy]; exact Nat.mod_lt _ (by omega)
          have q : ((fv i : Int) + (f i : Int)) % 4294967296 = (y : Int) := by omega
          have Hy := Lib.hid hy
          clear hy
          go_wp2_with fail
          go_quiet (fail)
          have t3 : BK w.heap.size F V f fv w (wr.drewN nq) := ⟨t2.rb, t2.fb, t2.vb, t2.hF, t2.hV, below_drewN t2.below nq⟩
          have hz3 : (wr.drewN nq).rowIs O 119 64 (bytesV (dgP (blkB kb nb n) (4 * i))) := hz
          clear d1 d2 t2 hz
          try rw [q]
          go_wp2_with fail
          go_loopw [67] (fun a wx => ∃ k : Nat, k ≤ 4 ∧ a = .int .i64 (k : Int) ∧ wx.rowIs O 119 64 (bytesV (dgP (blkB kb nb n) (4 * i + k))) ∧ BK w.heap.size F V f fv w wx) (fun a _ => 4 - (intOf a).toNat)
          case atStart => exact ⟨0, by omega, rfl, hz3, t3⟩
          case round =>
            clear hz3 t3
            obtain ⟨k, hk4, rfl, hz, t3⟩ := hrel
            by_cases hlt4 : k < 4
            · have c5 : decide ((k : Int) < 4) = true := decide_eq_true (by omega)
              have g1 : IntKind.i64.wrap (4 * (i : Int)) = 4 * (i : Int) := IntWalk.i64_in _ (by omega)
              obtain ⟨p, hp⟩ : ∃ p, 4 * i + k = p := ⟨_, rfl⟩
              have g2 : IntKind.i64.wrap (4 * (i : Int) + (k : Int)) = (p : Int) := by rw [IntWalk.i64_in _ (by omega)]; omega
              obtain ⟨q', hq⟩ : ∃ q, 8 * k = q := ⟨_, rfl⟩
              have g3 : IntKind.i64.wrap (8 * (k : Int)) = (q' : Int) := by rw [IntWalk.i64_in _ (by omega)]; omega
              have hp32 : p < 64 := by omega
              have hp32' : (p : Int) < 64 := by omega
              rw [hp] at hz
              have hval : blkB kb nb n p = y / 2 ^ q' % 256 := by
                rw [HblkB.out, dgB, show p / 4 = i by omega, show p % 4 = k by omega, Hy.out, ← hq, Nat.pow_mul]
              have Hval := Lib.hid hval
              have hmin : min q' 32 = q' := by omega
              have d1 : wr.cell? ⟨O, p, none⟩ = some (.int .u8 (dgP (blkB kb nb n) p p : Int)) := hz.cell hp32
              have d2 := hz.frozen p
              have Hp := Lib.hid hp
              clear hp hq hval q
              go_wp2
              go_roundw
              case rel =>
                have h2 := t3.hV
                refine ⟨k + 1, by omega, by go_num, ?_, ⟨t3.rb.setOther (by dsimp only; omega) _, t3.fb.setOther (by dsimp only; omega) _, t3.vb.setOther (by dsimp only; omega) _, t3.hF, t3.hV, t3.below.setCell (by dsimp only; omega) _⟩⟩
                have e : (y : Int) / 2 ^ q' % 256 = ((y / 2 ^ q' % 256 : Nat) : Int) := by push_cast; rfl
                rw [e, ← Hval.out, show 4 * i + (k + 1) = p + 1 by have := Hp.out; omega, ← dgP_step]
                exact (hz.set p _).congr (fun j _ => upd_bytesV _ _ _ _)
              case measure => simp [intOf]; omega
            · have c5 : decide ((k : Int) < 4) = false := decide_eq_false (by omega)
              obtain rfl : k = 4 := by omega
              go_wp2
              go_roundw
              case rel => exact ⟨i + 1, by omega, by go_num, by rw [show 4 * (i + 1) = 4 * i + 4 by omega]; exact hz, t3⟩
              case measure => simp [intOf]; omega
        · have c3 : decide ((i : Int) < 16) = false := decide_eq_false (by omega)
          obtain rfl : i = 16 := by omega
          have hres : arrA 64 (bytesV (dgP (blkB kb nb n) (4 * 16))) = arrA 64 (bytesV (blkB kb nb n)) :=
            arrA_congr (fun j hj => by rw [bytesV, bytesV, dgP, if_pos (by omega)])
          have Hres := Lib.hid hres
          clear hres
          go_wp2_with (first | (refine load_arr rfl 119 _ rfl 64 5 119 O _ rfl hz und119 siz119 ?_) | (refine store_arr rfl 119 _ _ rfl 64 119 (w.heap.size + 1 + 1) _ _ rfl rfl t2.rb siz119 (fun _ => rfl) ?_))
          refine bodyPost_ret (result_arr rfl _ _ 64 5 119 (w.heap.size + 1 + 1) _ rfl (rowIs_setRow t2.rb _) und119 siz119) rfl ?_
          exact ⟨by rw [Hres.out], below_setRow t2.below (by omega) _⟩
end Go.Proofs.Ytnjcganknpnjcaa
namespace Go.Proofs.Ytnjcganknpnjcaa
open Go.RowKit

theorem byt_txt (n : Nat) (v : Nat → Nat) (hv : Bytes v) (i : Nat) (h : i < n) : byt (txt n v) i = (v i : Int) := by
  have e : (txt n v) = ⟨((List.range n).map fun i => UInt8.ofNat (v i)).toArray⟩ := rfl
  rw [e, byt_list _ _ (by simpa using h)]
  have := hv i
  simp
  omega
theorem bytes_ext (a b : ByteArray) (h : a.size = b.size) (hb : ∀ i, i < a.size → byt a i = byt b i) : a = b := by
  apply ByteArray.ext
  apply Array.ext
  · exact h
  · intro i h1 h2
    have := hb i h1
    have k1 : i < a.size := h1
    have k2 : i < b.size := h2
    unfold byt at this
    rw [dif_pos k1, dif_pos k2] at this
    have h3 : (a[i]'k1).toNat = (b[i]'k2).toNat := Int.ofNat.inj this
    exact UInt8.toNat_inj.1 h3
theorem byt_append (a b : ByteArray) (i : Nat) : byt (a ++ b) i = if i < a.size then byt a i else byt b (i - a.size) := by
  unfold byt
  by_cases h : i < a.size
  · rw [if_pos h, dif_pos (by rw [ByteArray.size_append]; omega), dif_pos h]
    congr 2
    exact ByteArray.getElem_append_left h
  · rw [if_neg h]
    by_cases h2 : i < a.size + b.size
    · rw [dif_pos (by rw [ByteArray.size_append]; omega), dif_pos (by omega)]
      congr 2
      exact ByteArray.getElem_append_right (by omega)
    · rw [dif_neg (by rw [ByteArray.size_append]; omega), dif_neg (by omega)]

theorem blkB_bytes (kb nb : Nat → Nat) (n : Nat) : Bytes (blkB kb nb n) := dgB_bytes _
/-- The stream's byte number i, from the block n on. -/
def strm (kb nb : Nat → Nat) (n i : Nat) : Nat := blkB kb nb ((n + i / 64) % 4294967296) (i % 64)
theorem strm_lt (kb nb : Nat → Nat) (n i : Nat) : strm kb nb n i < 256 := blkB_bytes _ _ _ _
def xorF (kb nb : Nat → Nat) (n : Nat) (s : ByteArray) : Nat → Nat := fun i => (byt s i).toNat ^^^ strm kb nb n i
theorem xorF_bytes (kb nb : Nat → Nat) (n : Nat) (s : ByteArray) : Bytes (xorF kb nb n s) := fun i => Nat.xor_lt_two_pow (n := 8) (byt_toNat_lt s i) (strm_lt kb nb n i)
/-- Bytes, turned by the stream from the block n on. -/
def xorV (kb nb : Nat → Nat) (n : Nat) (s : ByteArray) : ByteArray := txt s.size (xorF kb nb n s)
theorem xorV_size (kb nb : Nat → Nat) (n : Nat) (s : ByteArray) : (xorV kb nb n s).size = s.size := txt_size _ _
theorem xorV_byt (kb nb : Nat → Nat) (n : Nat) (s : ByteArray) (i : Nat) (h : i < s.size) : byt (xorV kb nb n s) i = (((byt s i).toNat ^^^ strm kb nb n i : Nat) : Int) :=
  byt_txt _ _ (xorF_bytes _ _ _ _) i h
theorem xorV_xorV (kb nb : Nat → Nat) (n : Nat) (s : ByteArray) : xorV kb nb n (xorV kb nb n s) = s := by
  refine bytes_ext _ _ (by rw [xorV_size, xorV_size]) fun i hi => ?_
  rw [xorV_size, xorV_size] at hi
  rw [xorV_byt _ _ _ _ _ (by rw [xorV_size]; exact hi), xorV_byt _ _ _ _ _ hi, Int.toNat_natCast, Nat.xor_assoc, Nat.xor_self, Nat.xor_zero]
  have := byt_range s i
  omega
/-- What stands where i bytes are turned. -/
def xorP (kb nb : Nat → Nat) (n : Nat) (s : ByteArray) (i : Nat) : Nat → Nat := fun j => if j < i then xorF kb nb n s j else (byt s j).toNat
theorem xorP_step (kb nb : Nat → Nat) (n : Nat) (s : ByteArray) (i : Nat) : upd (xorP kb nb n s i) i (xorF kb nb n s i) = xorP kb nb n s (i + 1) := by
  funext j
  unfold upd xorP
  by_cases e : j = i
  · rw [if_pos e, if_pos (by omega), e]
  · rw [if_neg e]
    by_cases h2 : j < i
    · rw [if_pos h2, if_pos (by omega)]
    · rw [if_neg h2, if_neg (by omega)]

/-- A row of bytes that a conversion has laid: n of them known; one place behind its last cell bears the mark. -/
def BRow (w : World) (b n : Nat) (v : Nat → Nat) : Prop :=
  ∃ c : Array Value, w.heap[b]? = some (.cells c 5 (c.size, c.size + 1)) ∧ n ≤ c.size ∧ ∀ i, i < n → c[i]? = some (bytesV v i)
theorem BRow.lt {w : World} {b n : Nat} {v : Nat → Nat} (h : BRow w b n v) : b < w.heap.size := by
  obtain ⟨c, hb, _⟩ := h
  exact (Array.getElem?_eq_some_iff.1 hb).1
theorem BRow.of_block {w w' : World} {b n : Nat} {v : Nat → Nat} (h : BRow w b n v) (e : w'.heap[b]? = w.heap[b]?) : BRow w' b n v := by
  obtain ⟨c, hb, r⟩ := h
  exact ⟨c, e.trans hb, r⟩
theorem BRow.alloc {w : World} {b n : Nat} {v : Nat → Nat} (h : BRow w b n v) (o : Obj) : BRow (w.alloc o) b n v := h.of_block (Below.heap_alloc w o b h.lt)
theorem BRow.cell {w : World} {b n : Nat} {v : Nat → Nat} (h : BRow w b n v) {i : Nat} (hi : i < n) : w.cell? ⟨b, i, none⟩ = some (.int .u8 (v i : Int)) := by
  obtain ⟨c, hb, _, hc⟩ := h
  rw [cell_of_row _ _ _ _ _ _ hb]
  exact hc i hi
theorem BRow.frozen {w : World} {b n : Nat} {v : Nat → Nat} (h : BRow w b n v) {i : Nat} (hi : i < n) : w.frozen? ⟨b, i, none⟩ = false := by
  obtain ⟨c, hb, hn, _⟩ := h
  unfold World.frozen?
  rw [hb]
  simp
  omega
theorem BRow.congr {w : World} {b n : Nat} {v v' : Nat → Nat} (h : BRow w b n v) (e : ∀ i, i < n → v i = v' i) : BRow w b n v' := by
  obtain ⟨c, hb, hn, hc⟩ := h
  exact ⟨c, hb, hn, fun i hi => by rw [hc i hi, bytesV, bytesV, e i hi]⟩
theorem BRow.put {w : World} {b n : Nat} {v : Nat → Nat} (h : BRow w b n v) {i : Nat} (hi : i < n) (x : Nat) : BRow (w.setCell ⟨b, i, none⟩ (.int .u8 (x : Int))) b n (upd v i x) := by
  obtain ⟨c, hb, hn, hc⟩ := h
  refine ⟨c.setIfInBounds i (.int .u8 (x : Int)), ?_, by simpa using hn, fun j hj => ?_⟩
  · show (w.heap.modify b _)[b]? = _
    rw [Array.getElem?_modify, if_pos rfl, hb]
    simp
  · rw [Array.getElem?_setIfInBounds]
    by_cases e : i = j
    · subst e
      rw [if_pos rfl, if_pos (by omega)]
      simp [bytesV, upd]
    · rw [if_neg e, hc j hj]
      unfold bytesV upd
      rw [if_neg (by omega)]
theorem BRow.setOther {w : World} {b n : Nat} {v : Nat → Nat} (h : BRow w b n v) {p : Addr} (hne : p.block ≠ b) (x : Value) : BRow (w.setCell p x) b n v := by
  refine h.of_block ?_
  show (w.heap.modify p.block _)[b]? = _
  rw [Array.getElem?_modify, if_neg hne]
theorem BRow.setRowOther {w : World} {b b' n : Nat} {v : Nat → Nat} (h : BRow w b n v) (hne : b ≠ b') (c : Array Value) : BRow (w.setRow b' c) b n v := h.of_block (setRow_other w b' b c hne)
/-- '[]byte(s)'. -/
theorem conv_str (w : World) (s : ByteArray) : ∃ cap w', (convert 9 46 (.string s)).run Try.prog w = .ok (.slice (some ⟨w.heap.size, 0, none⟩) s.size cap) w' ∧ BRow w' w.heap.size s.size (fun i => (byt s i).toNat) ∧ Below w.heap.size w w' ∧ w'.heap.size = w.heap.size + 1 := by
  refine ⟨_, _, run_bytes_of_string w 9 46 5 s Try.underlying9 Try.underlying46 Try.underlying5, ⟨bytesRow s (grownCap w s.size 0 5), heap_new w.drew _, ?_, ?_⟩, (Below.refl _ w).drew.alloc (Nat.le_refl _) _, ?_⟩
  · simp [bytesRow]
  · intro i hi
    have hi' : i < s.data.size := hi
    rw [bytesRow, Array.getElem?_append_left (by simpa using hi)]
    have hb := byt_range s i
    have hv : (((byt s i).toNat : Nat) : Int) = ((s[i]'hi).toNat : Int) := by
      rw [byt_at s i hi]
      omega
    rw [bytesV, hv]
    have e1 : s.data[i]? = some (s[i]'hi) := Array.getElem?_eq_getElem hi'
    rw [Array.getElem?_map, e1]
    rfl
  · show (w.heap.push _).size = _
    simp
/-- 'string(b)' of such a row. -/
theorem conv_brow {w : World} {b n c : Nat} {v : Nat → Nat} (h : BRow w b n v) : (convert 46 9 (.slice (some ⟨b, 0, none⟩) n c)).run Try.prog w = .ok (.string (txt n v)) w := by
  rw [run_convert_bytes_arg w 46 5 Try.underlying46 Try.underlying5 b 0 n c ((List.range n).map fun i => (v i : Int)) (by simp) (fun i hi => by rw [Nat.zero_add, h.cell hi]; simp [List.getD, hi]) 9 Try.underlying9]
  have : strOfNums ((List.range n).map fun i => (v i : Int)) = txt n v := by
    unfold strOfNums txt
    congr 1
    simp [Function.comp_def]
  rw [this]
end Go.Proofs.Ytnjcganknpnjcaa
namespace Go.Proofs.Ytnjcganknpnjcaa
open Go.RowKit

/-- The first bytes of a text, then zeroes. -/
def nonV (s : ByteArray) : Nat → Nat := fun j => if j < s.size then (byt s j).toNat else 0
theorem nonV_bytes (s : ByteArray) : Bytes (nonV s) := by
  intro j
  unfold nonV
  split
  · exact byt_toNat_lt _ _
  · omega
def nonL (s : ByteArray) (i : Nat) : Nat → Nat := fun j => if j < i then (byt s j).toNat else 0
theorem nonL_step (s : ByteArray) (i : Nat) : upd (nonL s i) i (byt s i).toNat = nonL s (i + 1) := by
  funext j
  unfold upd nonL
  by_cases e : j = i
  · rw [if_pos e, if_pos (by omega), e]
  · rw [if_neg e]
    by_cases h2 : j < i
    · rw [if_pos h2, if_pos (by omega)]
    · rw [if_neg h2, if_neg (by omega)]

set_option maxRecDepth 100000 in
set_option maxHeartbeats 2000000 in
theorem rnonce_any (s : ByteArray) (w : World) (hs : s.size ≤ 1000000) :
    Calls Try.prog 43 #[.string s] w fun e w' => e = .returned (.agg (arrA 12 (bytesV (nonV s)))) ∧ Below w.heap.size w w' := by
  go_enter Try.func43, Try.ntmps43
  have a0 : World.rowIs ((w.alloc (Obj.cells #[Value.int IntKind.u8 0, Value.int IntKind.u8 0, Value.int IntKind.u8 0, Value.int IntKind.u8 0, Value.int IntKind.u8 0, Value.int IntKind.u8 0, Value.int IntKind.u8 0, Value.int IntKind.u8 0, Value.int IntKind.u8 0, Value.int IntKind.u8 0, Value.int IntKind.u8 0, Value.int IntKind.u8 0] 49)).alloc (Obj.cells #[Value.int IntKind.u8 0, Value.int IntKind.u8 0, Value.int IntKind.u8 0, Value.int IntKind.u8 0, Value.int IntKind.u8 0, Value.int IntKind.u8 0, Value.int IntKind.u8 0, Value.int IntKind.u8 0, Value.int IntKind.u8 0, Value.int IntKind.u8 0, Value.int IntKind.u8 0, Value.int IntKind.u8 0] 49)) w.heap.size 49 12 (fun _ => .int .u8 0) := (row_of_heap (heap_new w (Obj.cells #[Value.int IntKind.u8 0, Value.int IntKind.u8 0, Value.int IntKind.u8 0, Value.int IntKind.u8 0, Value.int IntKind.u8 0, Value.int IntKind.u8 0, Value.int IntKind.u8 0, Value.int IntKind.u8 0, Value.int IntKind.u8 0, Value.int IntKind.u8 0, Value.int IntKind.u8 0, Value.int IntKind.u8 0] 49)) : World.rowIs (w.alloc (Obj.cells #[Value.int IntKind.u8 0, Value.int IntKind.u8 0, Value.int IntKind.u8 0, Value.int IntKind.u8 0, Value.int IntKind.u8 0, Value.int IntKind.u8 0, Value.int IntKind.u8 0, Value.int IntKind.u8 0, Value.int IntKind.u8 0, Value.int IntKind.u8 0, Value.int IntKind.u8 0, Value.int IntKind.u8 0] 49)) w.heap.size 49 12 (fun _ => .int .u8 0)).alloc _
  have a1 : World.rowIs ((w.alloc (Obj.cells #[Value.int IntKind.u8 0, Value.int IntKind.u8 0, Value.int IntKind.u8 0, Value.int IntKind.u8 0, Value.int IntKind.u8 0, Value.int IntKind.u8 0, Value.int IntKind.u8 0, Value.int IntKind.u8 0, Value.int IntKind.u8 0, Value.int IntKind.u8 0, Value.int IntKind.u8 0, Value.int IntKind.u8 0] 49)).alloc (Obj.cells #[Value.int IntKind.u8 0, Value.int IntKind.u8 0, Value.int IntKind.u8 0, Value.int IntKind.u8 0, Value.int IntKind.u8 0, Value.int IntKind.u8 0, Value.int IntKind.u8 0, Value.int IntKind.u8 0, Value.int IntKind.u8 0, Value.int IntKind.u8 0, Value.int IntKind.u8 0, Value.int IntKind.u8 0] 49)) (w.heap.size + 1) 49 12 (fun _ => .int .u8 0) := by
    have := heap_new (w.alloc (Obj.cells #[Value.int IntKind.u8 0, Value.int IntKind.u8 0, Value.int IntKind.u8 0, Value.int IntKind.u8 0, Value.int IntKind.u8 0, Value.int IntKind.u8 0, Value.int IntKind.u8 0, Value.int IntKind.u8 0, Value.int IntKind.u8 0, Value.int IntKind.u8 0, Value.int IntKind.u8 0, Value.int IntKind.u8 0] 49)) (Obj.cells #[Value.int IntKind.u8 0, Value.int IntKind.u8 0, Value.int IntKind.u8 0, Value.int IntKind.u8 0, Value.int IntKind.u8 0, Value.int IntKind.u8 0, Value.int IntKind.u8 0, Value.int IntKind.u8 0, Value.int IntKind.u8 0, Value.int IntKind.u8 0, Value.int IntKind.u8 0, Value.int IntKind.u8 0] 49)
    rw [World.size_alloc] at this
    exact row_of_heap this
  have a2 : Below w.heap.size w ((w.alloc (Obj.cells #[Value.int IntKind.u8 0, Value.int IntKind.u8 0, Value.int IntKind.u8 0, Value.int IntKind.u8 0, Value.int IntKind.u8 0, Value.int IntKind.u8 0, Value.int IntKind.u8 0, Value.int IntKind.u8 0, Value.int IntKind.u8 0, Value.int IntKind.u8 0, Value.int IntKind.u8 0, Value.int IntKind.u8 0] 49)).alloc (Obj.cells #[Value.int IntKind.u8 0, Value.int IntKind.u8 0, Value.int IntKind.u8 0, Value.int IntKind.u8 0, Value.int IntKind.u8 0, Value.int IntKind.u8 0, Value.int IntKind.u8 0, Value.int IntKind.u8 0, Value.int IntKind.u8 0, Value.int IntKind.u8 0, Value.int IntKind.u8 0, Value.int IntKind.u8 0] 49)) := ((Below.refl _ w).alloc (Nat.le_refl _) _).alloc (by simp) _
  go_wp2_with (refine store_arr rfl 49 _ _ rfl 12 49 (w.heap.size + 1) _ (bytesV (nonL s 0)) rfl rfl a1 siz49 (fun _ => rfl) ?_)
  have b0 := rowIs_setOther a0 (show w.heap.size ≠ w.heap.size + 1 by omega) (arrA 12 (bytesV (nonL s 0)))
  have b1 := rowIs_setRow a1 (bytesV (nonL s 0))
  have b2 := below_setRow a2 (show w.heap.size ≤ w.heap.size + 1 by omega) (arrA 12 (bytesV (nonL s 0)))
  obtain ⟨W0, hW0⟩ : ∃ W0, ((w.alloc (Obj.cells #[Value.int IntKind.u8 0, Value.int IntKind.u8 0, Value.int IntKind.u8 0, Value.int IntKind.u8 0, Value.int IntKind.u8 0, Value.int IntKind.u8 0, Value.int IntKind.u8 0, Value.int IntKind.u8 0, Value.int IntKind.u8 0, Value.int IntKind.u8 0, Value.int IntKind.u8 0, Value.int IntKind.u8 0] 49)).alloc (Obj.cells #[Value.int IntKind.u8 0, Value.int IntKind.u8 0, Value.int IntKind.u8 0, Value.int IntKind.u8 0, Value.int IntKind.u8 0, Value.int IntKind.u8 0, Value.int IntKind.u8 0, Value.int IntKind.u8 0, Value.int IntKind.u8 0, Value.int IntKind.u8 0, Value.int IntKind.u8 0, Value.int IntKind.u8 0] 49)).setRow (w.heap.size + 1) (arrA 12 (bytesV (nonL s 0))) = W0 := ⟨_, rfl⟩
  rw [hW0] at b0 b1 b2 ⊢
  clear hW0 a0 a1 a2
  try simp only [Act.put, List.setIfInBounds_toArray, List.set_cons_succ, List.set_cons_zero]
  go_wp2_with fail
  go_loopw [4] (fun a wx => ∃ i : Nat, i ≤ 12 ∧ i ≤ s.size ∧ a = .int .i64 (i : Int) ∧ wx.rowIs w.heap.size 49 12 (fun _ => .int .u8 0) ∧ wx.rowIs (w.heap.size + 1) 49 12 (bytesV (nonL s i)) ∧ Below w.heap.size w wx) (fun a _ => 12 - (intOf a).toNat)
  case atStart => exact ⟨0, by omega, by omega, rfl, b0, b1, b2⟩
  case round =>
    clear b0 b1 b2
    obtain ⟨i, hi, his, rfl, b0, b1, b2⟩ := hrel
    by_cases hlt : i < 12
    · have c0 : decide ((i : Int) < 12) = true := decide_eq_true (by omega)
      have c1 : (i : Int) < 12 := by omega
      by_cases hls : i < s.size
      · have c2 : decide ((i : Int) < (s.size : Int)) = true := decide_eq_true (by omega)
        have c3 : (i : Int) < (s.size : Int) := by omega
        have hby := byt_at s i
        obtain ⟨x, hx, lx⟩ := byt_nat s i
        have hxn : (byt s i).toNat = x := by rw [hx]; simp
        rw [hx] at hby
        have Hx := Lib.hid hxn
        clear hx hxn
        have d1 : wr.cell? ⟨w.heap.size + 1, i, none⟩ = some (.int .u8 (nonL s i i : Int)) := b1.cell hlt
        have d2 := b1.frozen i
        go_wp2
        go_roundw
        case rel =>
          refine ⟨i + 1, by omega, by omega, by go_num, b0.setOther (by dsimp only; omega) _, ?_, b2.setCell (by dsimp only; omega) _⟩
          rw [← nonL_step, Hx.out]
          exact (b1.set i _).congr (fun j _ => upd_bytesV _ _ _ _)
        case measure => simp [intOf]; omega
      · have c2 : decide ((i : Int) < (s.size : Int)) = false := decide_eq_false (by omega)
        have hres : arrA 12 (bytesV (nonL s i)) = arrA 12 (bytesV (nonV s)) := arrA_congr (fun j hj => by rw [bytesV, bytesV, nonL, nonV, show i = s.size by omega])
        have Hres := Lib.hid hres
        clear hres
        go_wp2_with (first | (refine load_arr rfl 49 _ rfl 12 5 49 (w.heap.size + 1) _ rfl b1 und49 siz49 ?_) | (refine store_arr rfl 49 _ _ rfl 12 49 w.heap.size _ _ rfl rfl b0 siz49 (fun _ => rfl) ?_))
        refine bodyPost_ret (result_arr rfl _ _ 12 5 49 w.heap.size _ rfl (rowIs_setRow b0 _) und49 siz49) rfl ?_
        exact ⟨by rw [Hres.out], below_setRow b2 (by omega) _⟩
    · have c0 : decide ((i : Int) < 12) = false := decide_eq_false (by omega)
      obtain rfl : i = 12 := by omega
      have hres : arrA 12 (bytesV (nonL s 12)) = arrA 12 (bytesV (nonV s)) := arrA_congr (fun j hj => by rw [bytesV, bytesV, nonL, nonV, if_pos hj, if_pos (by omega)])
      have Hres := Lib.hid hres
      clear hres
      go_wp2_with (first | (refine load_arr rfl 49 _ rfl 12 5 49 (w.heap.size + 1) _ rfl b1 und49 siz49 ?_) | (refine store_arr rfl 49 _ _ rfl 12 49 w.heap.size _ _ rfl rfl b0 siz49 (fun _ => rfl) ?_))
      refine bodyPost_ret (result_arr rfl _ _ 12 5 49 w.heap.size _ rfl (rowIs_setRow b0 _) und49 siz49) rfl ?_
      exact ⟨by rw [Hres.out], below_setRow b2 (by omega) _⟩
end Go.Proofs.Ytnjcganknpnjcaa
namespace Go.Proofs.Ytnjcganknpnjcaa
open Go.RowKit

def strF (s : ByteArray) : Nat → Value := fun i => .int .u8 (byt s i)
theorem byteCells_take (s : ByteArray) (k : Nat) (h : k ≤ s.size) : List.take k (List.map (fun b : UInt8 => Value.int IntKind.u8 (b.toNat : Int)) s.data.toList) = (List.range k).map (strF s) := by
  have e : s.data.toList.length = s.size := by simp
  refine List.ext_getElem? fun j => ?_
  by_cases hj : j < k
  · have hjs : j < s.size := by omega
    simp [List.getElem?_take, hj, strF, byt, hjs]
    rfl
  · rw [List.getElem?_eq_none (by simp; omega), List.getElem?_eq_none (by simp; omega)]
/-- 'copy(a[:], s)', s A STRING OF WHATEVER LENGTH. -/
theorem run_copy_str {w : World} {dT sT ty elem g t n : Nat} {s : ByteArray} {cur : Nat → Value} (h : w.rowIs g t n cur) (hu : Try.prog.underlying dT = some (.slice elem)) (hs : (Try.prog.info? elem).map (·.size) = some 1) :
    (Builtin.copy_ #[dT, sT] ty #[.slice (some ⟨g, 0, none⟩) n n, .string s]).run Try.prog w = .ok (goInt (min s.size n : Nat)) (w.setRow g (arrA n (copyF 0 (min s.size n) (strF s) cur))) := by
  have hl : ((List.range (min s.size n)).map (strF s)).length = min s.size n := by simp
  have hst := run_storeCells_at Try.prog g 0 t ((List.range (min s.size n)).map (strF s)) 0 (arrA n cur) w (heap_of_row h) (by rw [hl, arrA_size]; omega) (fun v hv => by
    obtain ⟨i, _, rfl⟩ := List.mem_map.1 hv
    rfl)
  rw [hl] at hst
  simp only [Nat.add_zero, Nat.zero_add] at hst
  have hc := copy_list n 0 (min s.size n) (strF s) cur (by omega)
  rw [hl] at hc
  simp only [Nat.zero_add] at hc
  rw [List.append_assoc, hc] at hst
  cases hq : Try.prog.info? elem with
  | none => simp [hq] at hs
  | some i =>
    have htk := byteCells_take s (min s.size n) (by omega)
    simp [Builtin.copy_, run_underlying hu, Builtin.lenOf, Builtin.firstCells, sizeOf, typeInfo, hq]
    rw [show s.size.min n = min s.size n from rfl, htk, hst]
    simp [Result.andThen]

theorem und46b : Try.prog.underlying 46 = some (.slice 5) := by kernel_rfl
theorem siz5 : (Try.prog.info? 5).map (·.size) = some 1 := by kernel_rfl
theorem nonV_copy (s : ByteArray) (j : Nat) (hj : j < 12) : copyF 0 (min s.size 12) (strF s) (fun _ => .int .u8 0) j = bytesV (nonV s) j := by
  unfold copyF strF bytesV nonV
  have hb := byt_range s j
  by_cases h : j < s.size
  · rw [if_pos (by omega), if_pos h, Nat.sub_zero]
    have : ((byt s j).toNat : Int) = byt s j := by omega
    rw [this]
  · rw [if_neg (by omega), if_neg h]
    rfl
set_option maxRecDepth 100000 in
set_option maxHeartbeats 2000000 in
theorem nonce_any (s : ByteArray) (w : World) : Calls Try.prog 42 #[.string s] w fun e w' => e = .returned (.agg (arrA 12 (bytesV (nonV s)))) ∧ Below w.heap.size w w' := by
  go_enter Try.func42, Try.ntmps42
  have a0 : World.rowIs ((w.alloc (Obj.cells #[Value.int IntKind.u8 0, Value.int IntKind.u8 0, Value.int IntKind.u8 0, Value.int IntKind.u8 0, Value.int IntKind.u8 0, Value.int IntKind.u8 0, Value.int IntKind.u8 0, Value.int IntKind.u8 0, Value.int IntKind.u8 0, Value.int IntKind.u8 0, Value.int IntKind.u8 0, Value.int IntKind.u8 0] 49)).alloc (Obj.cells #[Value.int IntKind.u8 0, Value.int IntKind.u8 0, Value.int IntKind.u8 0, Value.int IntKind.u8 0, Value.int IntKind.u8 0, Value.int IntKind.u8 0, Value.int IntKind.u8 0, Value.int IntKind.u8 0, Value.int IntKind.u8 0, Value.int IntKind.u8 0, Value.int IntKind.u8 0, Value.int IntKind.u8 0] 49)) w.heap.size 49 12 (fun _ => .int .u8 0) := (row_of_heap (heap_new w (Obj.cells #[Value.int IntKind.u8 0, Value.int IntKind.u8 0, Value.int IntKind.u8 0, Value.int IntKind.u8 0, Value.int IntKind.u8 0, Value.int IntKind.u8 0, Value.int IntKind.u8 0, Value.int IntKind.u8 0, Value.int IntKind.u8 0, Value.int IntKind.u8 0, Value.int IntKind.u8 0, Value.int IntKind.u8 0] 49)) : World.rowIs (w.alloc (Obj.cells #[Value.int IntKind.u8 0, Value.int IntKind.u8 0, Value.int IntKind.u8 0, Value.int IntKind.u8 0, Value.int IntKind.u8 0, Value.int IntKind.u8 0, Value.int IntKind.u8 0, Value.int IntKind.u8 0, Value.int IntKind.u8 0, Value.int IntKind.u8 0, Value.int IntKind.u8 0, Value.int IntKind.u8 0] 49)) w.heap.size 49 12 (fun _ => .int .u8 0)).alloc _
  have a1 : World.rowIs ((w.alloc (Obj.cells #[Value.int IntKind.u8 0, Value.int IntKind.u8 0, Value.int IntKind.u8 0, Value.int IntKind.u8 0, Value.int IntKind.u8 0, Value.int IntKind.u8 0, Value.int IntKind.u8 0, Value.int IntKind.u8 0, Value.int IntKind.u8 0, Value.int IntKind.u8 0, Value.int IntKind.u8 0, Value.int IntKind.u8 0] 49)).alloc (Obj.cells #[Value.int IntKind.u8 0, Value.int IntKind.u8 0, Value.int IntKind.u8 0, Value.int IntKind.u8 0, Value.int IntKind.u8 0, Value.int IntKind.u8 0, Value.int IntKind.u8 0, Value.int IntKind.u8 0, Value.int IntKind.u8 0, Value.int IntKind.u8 0, Value.int IntKind.u8 0, Value.int IntKind.u8 0] 49)) (w.heap.size + 1) 49 12 (fun _ => .int .u8 0) := by
    have := heap_new (w.alloc (Obj.cells #[Value.int IntKind.u8 0, Value.int IntKind.u8 0, Value.int IntKind.u8 0, Value.int IntKind.u8 0, Value.int IntKind.u8 0, Value.int IntKind.u8 0, Value.int IntKind.u8 0, Value.int IntKind.u8 0, Value.int IntKind.u8 0, Value.int IntKind.u8 0, Value.int IntKind.u8 0, Value.int IntKind.u8 0] 49)) (Obj.cells #[Value.int IntKind.u8 0, Value.int IntKind.u8 0, Value.int IntKind.u8 0, Value.int IntKind.u8 0, Value.int IntKind.u8 0, Value.int IntKind.u8 0, Value.int IntKind.u8 0, Value.int IntKind.u8 0, Value.int IntKind.u8 0, Value.int IntKind.u8 0, Value.int IntKind.u8 0, Value.int IntKind.u8 0] 49)
    rw [World.size_alloc] at this
    exact row_of_heap this
  have a2 : Below w.heap.size w ((w.alloc (Obj.cells #[Value.int IntKind.u8 0, Value.int IntKind.u8 0, Value.int IntKind.u8 0, Value.int IntKind.u8 0, Value.int IntKind.u8 0, Value.int IntKind.u8 0, Value.int IntKind.u8 0, Value.int IntKind.u8 0, Value.int IntKind.u8 0, Value.int IntKind.u8 0, Value.int IntKind.u8 0, Value.int IntKind.u8 0] 49)).alloc (Obj.cells #[Value.int IntKind.u8 0, Value.int IntKind.u8 0, Value.int IntKind.u8 0, Value.int IntKind.u8 0, Value.int IntKind.u8 0, Value.int IntKind.u8 0, Value.int IntKind.u8 0, Value.int IntKind.u8 0, Value.int IntKind.u8 0, Value.int IntKind.u8 0, Value.int IntKind.u8 0, Value.int IntKind.u8 0] 49)) := ((Below.refl _ w).alloc (Nat.le_refl _) _).alloc (by simp) _
  go_upto_region 2 with fail
  obtain ⟨W0, hW0⟩ : ∃ W0, (w.alloc (Obj.cells #[Value.int IntKind.u8 0, Value.int IntKind.u8 0, Value.int IntKind.u8 0, Value.int IntKind.u8 0, Value.int IntKind.u8 0, Value.int IntKind.u8 0, Value.int IntKind.u8 0, Value.int IntKind.u8 0, Value.int IntKind.u8 0, Value.int IntKind.u8 0, Value.int IntKind.u8 0, Value.int IntKind.u8 0] 49)).alloc (Obj.cells #[Value.int IntKind.u8 0, Value.int IntKind.u8 0, Value.int IntKind.u8 0, Value.int IntKind.u8 0, Value.int IntKind.u8 0, Value.int IntKind.u8 0, Value.int IntKind.u8 0, Value.int IntKind.u8 0, Value.int IntKind.u8 0, Value.int IntKind.u8 0, Value.int IntKind.u8 0, Value.int IntKind.u8 0] 49) = W0 := ⟨_, rfl⟩
  rw [hW0] at a0 a1 a2 ⊢
  clear hW0
  have hcp := fun ty => run_copy_str (dT := 46) (sT := 9) (ty := ty) (s := s) a1 und46b siz5
  have b1 := (rowIs_setRow a1 (copyF 0 (min s.size 12) (strF s) (fun _ => .int .u8 0))).congr (fun j hj => nonV_copy s j hj)
  have b0 := rowIs_setOther a0 (show w.heap.size ≠ w.heap.size + 1 by omega) (arrA 12 (copyF 0 (min s.size 12) (strF s) (fun _ => .int .u8 0)))
  have b2 := below_setRow a2 (show w.heap.size ≤ w.heap.size + 1 by omega) (arrA 12 (copyF 0 (min s.size 12) (strF s) (fun _ => .int .u8 0)))
  obtain ⟨A, hA⟩ : ∃ A, arrA 12 (copyF 0 (min s.size 12) (strF s) (fun _ => .int .u8 0)) = A := ⟨_, rfl⟩
  rw [hA] at hcp b1 b0 b2
  clear hA
  go_wp2_with (first | (refine load_arr rfl 49 _ rfl 12 5 49 (w.heap.size + 1) _ rfl b1 und49 siz49 ?_) | (refine store_arr rfl 49 _ _ rfl 12 49 w.heap.size _ _ rfl rfl b0 siz49 (fun _ => rfl) ?_))
  refine bodyPost_ret (result_arr rfl _ _ 12 5 49 w.heap.size _ rfl (rowIs_setRow b0 _) und49 siz49) rfl ?_
  exact ⟨rfl, below_setRow b2 (by omega) _⟩
end Go.Proofs.Ytnjcganknpnjcaa
namespace Go.Proofs.Ytnjcganknpnjcaa
open Go.RowKit

/-- A number as a length in bytes. -/
def lenL (n : Nat) : List UInt8 := if n < 128 then [UInt8.ofNat n] else UInt8.ofNat (n % 128 + 128) :: lenL (n / 128)
termination_by n
decreasing_by omega
theorem lenL_small (n : Nat) (h : n < 128) : lenL n = [UInt8.ofNat n] := by rw [lenL, if_pos h]
theorem lenL_more (n : Nat) (h : ¬ n < 128) : lenL n = UInt8.ofNat (n % 128 + 128) :: lenL (n / 128) := by rw [lenL, if_neg h]
theorem lenL_length : ∀ n, (lenL n).length ≤ n / 128 + 1 := by
  intro n
  induction n using Nat.strongRecOn with
  | _ n ih =>
    by_cases h : n < 128
    · rw [lenL_small n h]; simp
    · rw [lenL_more n h]
      have := ih (n / 128) (by omega)
      simp
      omega
/-- A row of texts as bytes. -/
def rowL : List ByteArray → List UInt8
  | [] => []
  | s :: r => lenL s.size ++ (s.data.toList ++ rowL r)
theorem rowL_append (a b : List ByteArray) : rowL (a ++ b) = rowL a ++ rowL b := by
  induction a with
  | nil => rfl
  | cons s r ih => simp [rowL, ih]
theorem rowL_snoc (a : List ByteArray) (s : ByteArray) : rowL (a ++ [s]) = rowL a ++ lenL s.size ++ s.data.toList := by
  rw [rowL_append]; simp [rowL]
def rowV (l : List ByteArray) : ByteArray := ⟨(rowL l).toArray⟩
theorem rowV_size (l : List ByteArray) : (rowV l).size = (rowL l).length := by
  show (rowL l).toArray.size = _
  simp
theorem rowL_two (a b : ByteArray) : (rowL [a, b]).length ≤ a.size + a.size / 128 + b.size + b.size / 128 + 2 := by
  have h1 := lenL_length a.size
  have h2 := lenL_length b.size
  have e1 : a.data.toList.length = a.size := by simp
  have e2 : b.data.toList.length = b.size := by simp
  simp only [rowL, List.length_append, List.length_nil]
  omega

def wTag : ByteArray := ⟨#[116, 97, 103]⟩
def wCip : ByteArray := ⟨#[99, 105, 112, 104, 101, 114]⟩
theorem wTag_size : wTag.size = 3 := by kernel_rfl
theorem wCip_size : wCip.size = 6 := by kernel_rfl
/-- What stands ahead of a box's tag. -/
def frontV (kb nb : Nat → Nat) (data : ByteArray) : ByteArray := txt 12 nb ++ xorV (keyedV kb wCip) nb 1 data
def tagV (kb : Nat → Nat) (head front : ByteArray) : ByteArray := txt 32 (keyedV (keyedV kb wTag) (rowV [head, front]))
/-- A box. -/
def sealV (kb nb : Nat → Nat) (head data : ByteArray) : ByteArray := frontV kb nb data ++ tagV kb head (frontV kb nb data)
def boxF (box : ByteArray) : ByteArray := box.extract 0 (box.size - 32)
def boxT (box : ByteArray) : ByteArray := box.extract (box.size - 32) box.size
def boxD (box : ByteArray) : ByteArray := box.extract 12 (box.size - 32)
/-- What a box says, and the error. -/
def openV (kb : Nat → Nat) (head box : ByteArray) : ByteArray × Nat :=
  if box.size < 44 then (⟨#[]⟩, 4) else if tagV kb head (boxF box) = boxT box then (xorV (keyedV kb wCip) (nonV (boxF box)) 1 (boxD box), 0) else (⟨#[]⟩, 5)

theorem frontV_size (kb nb : Nat → Nat) (data : ByteArray) : (frontV kb nb data).size = 12 + data.size := by rw [frontV, ByteArray.size_append, txt_size, xorV_size]
theorem tagV_size (kb : Nat → Nat) (head front : ByteArray) : (tagV kb head front).size = 32 := txt_size _ _
theorem sealV_size (kb nb : Nat → Nat) (head data : ByteArray) : (sealV kb nb head data).size = 44 + data.size := by
  rw [sealV, ByteArray.size_append, frontV_size, tagV_size]; omega
theorem extract_all (s : ByteArray) : s.extract 0 s.size = s :=
  bytes_ext _ _ (by simp) fun i hi => by
    rw [byt_extract _ _ _ _ (by simp at hi; omega) (Nat.le_refl _), Nat.zero_add]
theorem extract_front (a b : ByteArray) : (a ++ b).extract 0 a.size = a :=
  bytes_ext _ _ (by simp) fun i hi => by
    have hi' : i < a.size := by simpa using hi
    rw [byt_extract _ _ _ _ (by omega) (by simp), Nat.zero_add, byt_append, if_pos hi']
theorem extract_back (a b : ByteArray) : (a ++ b).extract a.size (a ++ b).size = b :=
  bytes_ext _ _ (by simp) fun i hi => by
    have hi' : i < b.size := by simpa using hi
    rw [byt_extract _ _ _ _ (by simp; omega) (Nat.le_refl _), byt_append, if_neg (by omega), Nat.add_sub_cancel_left]
theorem boxF_seal (kb nb : Nat → Nat) (head data : ByteArray) : boxF (sealV kb nb head data) = frontV kb nb data := by
  rw [boxF, sealV_size, show 44 + data.size - 32 = (frontV kb nb data).size by rw [frontV_size]; omega, sealV, extract_front]
theorem boxT_seal (kb nb : Nat → Nat) (head data : ByteArray) : boxT (sealV kb nb head data) = tagV kb head (frontV kb nb data) := by
  have h : (sealV kb nb head data).size - 32 = (frontV kb nb data).size := by rw [sealV_size, frontV_size]; omega
  rw [boxT, h, sealV, extract_back]
theorem sealV_byt (kb nb : Nat → Nat) (head data : ByteArray) (i : Nat) (h : i < data.size) : byt (sealV kb nb head data) (12 + i) = (((byt data i).toNat ^^^ strm (keyedV kb wCip) nb 1 i : Nat) : Int) := by
  rw [sealV, byt_append, if_pos (by rw [frontV_size]; omega), frontV, byt_append, if_neg (by rw [txt_size]; omega), txt_size, show 12 + i - 12 = i by omega, xorV_byt _ _ _ _ _ h]
theorem boxD_seal (kb nb : Nat → Nat) (head data : ByteArray) : boxD (sealV kb nb head data) = xorV (keyedV kb wCip) nb 1 data := by
  have hs : (sealV kb nb head data).size - 32 = 12 + data.size := by rw [sealV_size]; omega
  refine bytes_ext _ _ ?_ fun i hi => ?_
  · rw [boxD, hs, xorV_size, ByteArray.size_extract, sealV_size]; omega
  · have hi' : i < data.size := by rw [boxD, hs, ByteArray.size_extract, sealV_size] at hi; omega
    rw [boxD, hs, byt_extract _ _ _ _ (by omega) (by rw [sealV_size]; omega), sealV_byt _ _ _ _ _ hi', xorV_byt _ _ _ _ _ hi']
theorem begC_congr {kb nb nb' : Nat → Nat} (n : Nat) (h : ∀ j, j < 12 → nb j = nb' j) : begC kb nb n = begC kb nb' n := by
  funext j
  unfold begC bgN
  by_cases h1 : j < 12
  · rw [if_pos h1, if_pos h1]
  · rw [if_neg h1, if_neg h1]
    by_cases h2 : j = 12
    · rw [if_pos h2, if_pos h2]
    · rw [if_neg h2, if_neg h2]
      by_cases h3 : j < 13 + 3
      · rw [if_pos h3, if_pos h3, cwA, cwA, h _ (by omega), h _ (by omega), h _ (by omega), h _ (by omega)]
      · rw [if_neg h3, if_neg h3]
theorem xorV_congr {kb nb nb' : Nat → Nat} (n : Nat) (s : ByteArray) (h : ∀ j, j < 12 → nb j = nb' j) : xorV kb nb n s = xorV kb nb' n s := by
  have e : xorF kb nb n s = xorF kb nb' n s := by
    funext i
    unfold xorF strm blkB
    have : ∀ m, blkW kb nb m = blkW kb nb' m := fun m => by unfold blkW; rw [begC_congr m h]
    rw [this]
  rw [xorV, xorV, e]
theorem nonV_front (kb nb : Nat → Nat) (data : ByteArray) (hn : Bytes nb) : ∀ j, j < 12 → nonV (frontV kb nb data) j = nb j := by
  intro j hj
  rw [nonV, if_pos (by rw [frontV_size]; omega), frontV, byt_append, if_pos (by rw [txt_size]; exact hj), byt_txt _ _ hn _ hj]
  simp
/-- What was sealed is opened by the same key and head. -/
theorem open_seal (kb nb : Nat → Nat) (head data : ByteArray) (hn : Bytes nb) : openV kb head (sealV kb nb head data) = (data, 0) := by
  rw [openV, if_neg (by rw [sealV_size]; omega), boxF_seal, boxT_seal, if_pos rfl, boxD_seal, xorV_congr 1 _ (nonV_front kb nb data hn), xorV_xorV]
end Go.Proofs.Ytnjcganknpnjcaa
