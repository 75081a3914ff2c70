/- cipher's reference: half a step, a step. -/
import Derived.Test.YtnjcganknpnjcaaCqA
namespace Go.Proofs.Ytnjcganknpnjcaa
open Go.RowKit

theorem und135 : Try.prog.underlying 135 = some (.array 16 32) := by kernel_rfl
theorem siz135 : (Try.prog.info? 135).map (·.size) = some 16 := by kernel_rfl
structure QMix (B : Nat) (v : Nat → Nat) (w wx : World) : Prop where
  row : wx.rowIs B 135 16 (wordsQ v)
  res : wx.rowIs (B + 1) 135 16 (fun _ => .int .u64 0)
  below : Below B w wx
theorem QMix.store {B : Nat} {v : Nat → Nat} {w wx : World} (h : QMix B v w wx) (i x : Nat) : QMix B (upd v i x) w (wx.setCell ⟨B, i, none⟩ (.int .u64 (x : Int))).drew :=
  ⟨((h.row.set i _).drew).congr (fun k _ => upd_wordsQ v i x k), (h.res.setOther (by simp) _).drew, (h.below.setCell (p := ⟨B, i, none⟩) (Nat.le_refl _) _).drew⟩
theorem QMix.past {B : Nat} {v : Nat → Nat} {w wx wy : World} (t : QMix B v w wx) (hb : Below wx.heap.size wx wy) : QMix B v w wy :=
  ⟨t.row.of_block (hb.block _ t.row.lt), t.res.of_block (hb.block _ t.res.lt), t.below.trans (hb.mono (Nat.le_of_lt t.row.lt))⟩
theorem QMix.setV {B : Nat} {v : Nat → Nat} {w wx : World} (t : QMix B v w wx) (v' : Nat → Nat) : QMix B v' w (wx.setRow B (arrA 16 (wordsQ v'))) :=
  ⟨rowIs_setRow t.row _, rowIs_setOther t.res (by omega) _, below_setRow t.below (Nat.le_refl _) _⟩
theorem zeroQ_row (w : World) : (w.alloc (Obj.cells #[Value.int IntKind.u64 0, Value.int IntKind.u64 0, Value.int IntKind.u64 0, Value.int IntKind.u64 0, Value.int IntKind.u64 0, Value.int IntKind.u64 0, Value.int IntKind.u64 0, Value.int IntKind.u64 0, Value.int IntKind.u64 0, Value.int IntKind.u64 0, Value.int IntKind.u64 0, Value.int IntKind.u64 0, Value.int IntKind.u64 0, Value.int IntKind.u64 0, Value.int IntKind.u64 0, Value.int IntKind.u64 0] 135)).rowIs w.heap.size 135 16 (fun _ => .int .u64 0) := row_of_heap (heap_new w _)
theorem QMix.start (v0 : Nat → Nat) (w : World) : QMix w.heap.size v0 w ((w.alloc (Obj.cells (arrA 16 (wordsQ v0)) 135)).alloc (Obj.cells #[Value.int IntKind.u64 0, Value.int IntKind.u64 0, Value.int IntKind.u64 0, Value.int IntKind.u64 0, Value.int IntKind.u64 0, Value.int IntKind.u64 0, Value.int IntKind.u64 0, Value.int IntKind.u64 0, Value.int IntKind.u64 0, Value.int IntKind.u64 0, Value.int IntKind.u64 0, Value.int IntKind.u64 0, Value.int IntKind.u64 0, Value.int IntKind.u64 0, Value.int IntKind.u64 0, Value.int IntKind.u64 0] 135)) := by
  refine ⟨row_of_heap (heap_old (heap_new w _) _), ?_, ((Below.refl _ w).alloc (Nat.le_refl _) _).alloc (by simp) _⟩
  have := zeroQ_row (w.alloc (Obj.cells (arrA 16 (wordsQ v0)) 135))
  rw [World.size_alloc] at this
  exact this
theorem half1_0 (v : Nat → Nat) (a b : Nat) : half1 v a b 0 = upd v a ((v a + v b) % 4294967296) := rfl

set_option maxRecDepth 100000 in
set_option maxHeartbeats 4000000 in
theorem qhalf_any (a b d p s : Nat) (v0 : Nat → Nat) (w : World) (hw : Words v0) (ha : a < 16) (hb : b < 16) (hd : d < 16) (hp : 2 ^ s = p) (h0 : 0 < s) (hs : s ≤ 16) :
    Calls Try.prog 123 #[.agg (arrA 16 (wordsQ v0)), .int .i64 (a : Int), .int .i64 (b : Int), .int .i64 (d : Int), .int .u64 (p : Int)] w fun e w' =>
      e = .returned (.agg (arrA 16 (wordsQ (half2 (half1 v0 a b 0) a d s)))) ∧ Below w.heap.size w w' := by
  have i1 : (a : Int) < 16 := by omega
  have i2 : (b : Int) < 16 := by omega
  have i3 : (d : Int) < 16 := by omega
  have m0 := QMix.start v0 w
  go_enter Try.func123, Try.ntmps123
  go_upto_region 1 with fail
  obtain ⟨W, hW⟩ : ∃ W, ((w.alloc (Obj.cells (arrA 16 (wordsQ v0)) 135)).alloc (Obj.cells #[Value.int IntKind.u64 0, Value.int IntKind.u64 0, Value.int IntKind.u64 0, Value.int IntKind.u64 0, Value.int IntKind.u64 0, Value.int IntKind.u64 0, Value.int IntKind.u64 0, Value.int IntKind.u64 0, Value.int IntKind.u64 0, Value.int IntKind.u64 0, Value.int IntKind.u64 0, Value.int IntKind.u64 0, Value.int IntKind.u64 0, Value.int IntKind.u64 0, Value.int IntKind.u64 0, Value.int IntKind.u64 0] 135)) = W := ⟨_, rfl⟩
  rw [hW] at m0 ⊢
  clear hW
  go_cut [] (fun wx => QMix w.heap.size (half1 v0 a b 0) w wx)
  case first =>
    have r1 : W.cell? ⟨w.heap.size, a, none⟩ = some (.int .u64 (v0 a : Int)) := m0.row.cell ha
    have r2 : W.cell? ⟨w.heap.size, b, none⟩ = some (.int .u64 (v0 b : Int)) := m0.row.cell hb
    have fr := m0.row.frozen a
    go_wp2
    refine wp_region_still_tail 8 (by kernel_rfl) (by kernel_rfl) ?_
    change wpStill _ _ W.drew (fun a' => wpList _ _ _ _ a' W.drew) _ _
    simp only [List.take_succ_cons, List.take_zero, List.drop_succ_cons, List.drop_zero]
    repeat still_step
    refine still_call (F := 113) rfl (by go_simp) (qadd_any (v0 a) (v0 b) W.drew (hw a) (hw b)) ?_
    simp only [Act.put, Array.setIfInBounds, List.size_toArray, List.set_toArray, List.set_cons_succ, List.set_cons_zero]
    repeat still_step
    try refine wpStill_nil ?_
    go_wp2
    go_meet
    rw [half1_0]
    exact m0.store a _
  case rest =>
    have hw1 : Words (half1 v0 a b 0) := half1_words hw a b 0
    obtain ⟨v1, hv1⟩ : ∃ v1, half1 v0 a b 0 = v1 := ⟨_, rfl⟩
    have m1 := hcut
    rw [hv1] at m1 hw1
    have Hv1 := Lib.hid hv1
    clear hcut m0 hv1
    go_upto_region 2 with fail
    go_cut [] (fun wx => QMix w.heap.size (half2 v1 a d s) w wx)
    case first =>
      have r1 : wc.cell? ⟨w.heap.size, a, none⟩ = some (.int .u64 (v1 a : Int)) := m1.row.cell ha
      have r2 : wc.cell? ⟨w.heap.size, d, none⟩ = some (.int .u64 (v1 d : Int)) := m1.row.cell hd
      have fr := m1.row.frozen d
      have xx : v1 d ^^^ v1 a < 4294967296 := Nat.xor_lt_two_pow (n := 32) (hw1 d) (hw1 a)
      go_wp2
      refine wp_region_still_tail 10 (by kernel_rfl) (by kernel_rfl) ?_
      change wpStill _ _ wc.drew (fun a' => wpList _ _ _ _ a' wc.drew) _ _
      simp only [List.take_succ_cons, List.take_zero, List.drop_succ_cons, List.drop_zero]
      repeat still_step
      refine still_call (F := 97) rfl (by go_simp) (qxor_any (v1 d) (v1 a) wc.drew (hw1 d) (hw1 a)) ?_
      simp only [Act.put, Array.setIfInBounds, List.size_toArray, List.set_toArray, List.set_cons_succ, List.set_cons_zero]
      repeat still_step
      refine still_call (F := 130) rfl (by go_simp) (turn_any (v1 d ^^^ v1 a) p s wc.drew xx hp hs) ?_
      simp only [Act.put, Array.setIfInBounds, List.size_toArray, List.set_toArray, List.set_cons_succ, List.set_cons_zero]
      repeat still_step
      try refine wpStill_nil ?_
      go_wp2
      go_meet
      exact m1.store d _
    case rest =>
      obtain ⟨v2, hv2⟩ : ∃ v2, half2 v1 a d s = v2 := ⟨_, rfl⟩
      have m2 := hcut
      rw [hv2] at m2
      have Hv2 := Lib.hid hv2
      clear hcut m1 hv2
      go_wp2_with (first | (refine load_arr rfl 135 _ rfl 16 32 135 w.heap.size _ rfl m2.row und135 siz135 ?_) | (refine store_arr rfl 135 _ _ rfl 16 135 (w.heap.size + 1) _ _ rfl rfl m2.res siz135 (fun _ => rfl) ?_))
      refine bodyPost_ret (result_arr rfl _ _ 16 32 135 (w.heap.size + 1) _ rfl (rowIs_setRow m2.res _) und135 siz135) rfl ?_
      exact ⟨by rw [Hv1.out, Hv2.out], below_setRow m2.below (by omega) _⟩

set_option maxRecDepth 100000 in
set_option maxHeartbeats 4000000 in
theorem qstep_any (a b c d : Nat) (v0 : Nat → Nat) (w : World) (hw : Words v0) (ha : a < 16) (hb : b < 16) (hc : c < 16) (hd : d < 16) :
    Calls Try.prog 112 #[.agg (arrA 16 (wordsQ v0)), .int .i64 (a : Int), .int .i64 (b : Int), .int .i64 (c : Int), .int .i64 (d : Int)] w fun e w' =>
      e = .returned (.agg (arrA 16 (wordsQ (cst v0 a b c d 2)))) ∧ Below w.heap.size w w' := by
  have m0 := QMix.start v0 w
  have hw1 : Words (half2 (half1 v0 a b 0) a d 16) := half2_words (half1_words hw _ _ _) _ _ _ (by omega) (by omega)
  obtain ⟨v1, hv1⟩ : ∃ v1, half2 (half1 v0 a b 0) a d 16 = v1 := ⟨_, rfl⟩
  rw [hv1] at hw1
  have hw2 : Words (half2 (half1 v1 c d 0) c b 12) := half2_words (half1_words hw1 _ _ _) _ _ _ (by omega) (by omega)
  obtain ⟨v2, hv2⟩ : ∃ v2, half2 (half1 v1 c d 0) c b 12 = v2 := ⟨_, rfl⟩
  rw [hv2] at hw2
  have hw3 : Words (half2 (half1 v2 a b 0) a d 8) := half2_words (half1_words hw2 _ _ _) _ _ _ (by omega) (by omega)
  obtain ⟨v3, hv3⟩ : ∃ v3, half2 (half1 v2 a b 0) a d 8 = v3 := ⟨_, rfl⟩
  rw [hv3] at hw3
  obtain ⟨v4, hv4⟩ : ∃ v4, half2 (half1 v3 c d 0) c b 7 = v4 := ⟨_, rfl⟩
  have hfin : cst v0 a b c d 2 = v4 := by rw [← hv4, ← hv3, ← hv2, ← hv1]; rfl
  have h1 := fun W => qhalf_any a b d 65536 16 v0 W hw ha hb hd (by decide) (by omega) (by omega)
  have h2 := fun W => qhalf_any c d b 4096 12 v1 W hw1 hc hd hb (by decide) (by omega) (by omega)
  have h3 := fun W => qhalf_any a b d 256 8 v2 W hw2 ha hb hd (by decide) (by omega) (by omega)
  have h4 := fun W => qhalf_any c d b 128 7 v3 W hw3 hc hd hb (by decide) (by omega) (by omega)
  rw [hv1] at h1
  rw [hv2] at h2
  rw [hv3] at h3
  rw [hv4] at h4
  rw [hfin]
  clear hfin hv1 hv2 hv3 hv4
  go_enter Try.func112, Try.ntmps112
  go_upto_region 1 with fail
  obtain ⟨W, hW⟩ : ∃ W, ((w.alloc (Obj.cells (arrA 16 (wordsQ v0)) 135)).alloc (Obj.cells #[Value.int IntKind.u64 0, Value.int IntKind.u64 0, Value.int IntKind.u64 0, Value.int IntKind.u64 0, Value.int IntKind.u64 0, Value.int IntKind.u64 0, Value.int IntKind.u64 0, Value.int IntKind.u64 0, Value.int IntKind.u64 0, Value.int IntKind.u64 0, Value.int IntKind.u64 0, Value.int IntKind.u64 0, Value.int IntKind.u64 0, Value.int IntKind.u64 0, Value.int IntKind.u64 0, Value.int IntKind.u64 0] 135)) = W := ⟨_, rfl⟩
  rw [hW] at m0 ⊢
  clear hW
  go_wp2_with (refine load_arr rfl 135 _ rfl 16 32 135 w.heap.size _ rfl m0.row und135 siz135 ?_)
  refine (h1 _).mono ?_
  rintro e w1 ⟨rfl, hb1⟩
  have m1 := m0.past hb1
  go_wp2_with (first | (refine store_arr rfl 135 _ _ rfl 16 135 w.heap.size _ _ rfl rfl m1.row siz135 (fun _ => rfl) ?_) | (refine load_arr rfl 135 _ rfl 16 32 135 w.heap.size _ rfl (m1.setV v1).row und135 siz135 ?_))
  refine (h2 _).mono ?_
  rintro e w2 ⟨rfl, hb2⟩
  have m2 := (m1.setV v1).past hb2
  go_wp2_with (first | (refine store_arr rfl 135 _ _ rfl 16 135 w.heap.size _ _ rfl rfl m2.row siz135 (fun _ => rfl) ?_) | (refine load_arr rfl 135 _ rfl 16 32 135 w.heap.size _ rfl (m2.setV v2).row und135 siz135 ?_))
  refine (h3 _).mono ?_
  rintro e w3 ⟨rfl, hb3⟩
  have m3 := (m2.setV v2).past hb3
  go_wp2_with (first | (refine store_arr rfl 135 _ _ rfl 16 135 w.heap.size _ _ rfl rfl m3.row siz135 (fun _ => rfl) ?_) | (refine load_arr rfl 135 _ rfl 16 32 135 w.heap.size _ rfl (m3.setV v3).row und135 siz135 ?_))
  refine (h4 _).mono ?_
  rintro e w4 ⟨rfl, hb4⟩
  have m4 := (m3.setV v3).past hb4
  go_wp2_with (refine store_arr rfl 135 _ _ rfl 16 135 (w.heap.size + 1) _ _ rfl rfl m4.res siz135 (fun _ => rfl) ?_)
  refine bodyPost_ret (result_arr rfl _ _ 16 32 135 (w.heap.size + 1) _ rfl (rowIs_setRow m4.res _) und135 siz135) rfl ?_
  exact ⟨rfl, below_setRow m4.below (by omega) _⟩
end Go.Proofs.Ytnjcganknpnjcaa
