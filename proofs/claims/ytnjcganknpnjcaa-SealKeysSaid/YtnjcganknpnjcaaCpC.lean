/- cipher: a step of Block. -/
import Derived.Test.YtnjcganknpnjcaaCpB
namespace Go.Proofs.Ytnjcganknpnjcaa
open Go.RowKit

/-- The words, and the numbers to turn by. -/
structure CB (V Y : Nat) (b0 b1 : Int) (v : Nat → Nat) (w wx : World) : Prop where
  row : wx.rowIs V 129 16 (wordsV v)
  words : Words v
  y0 : wx.cell? ⟨Y, 0, none⟩ = some (.int .i64 b0)
  y1 : wx.cell? ⟨Y, 1, none⟩ = some (.int .i64 b1)
  ne : Y ≠ V
  grown : w.grownBy wx (some V)
theorem CB.store {V Y : Nat} {b0 b1 : Int} {v : Nat → Nat} {w wx : World} (h : CB V Y b0 b1 v w wx) (i : Nat) {x : Nat} (hx : x < 4294967296) :
    CB V Y b0 b1 (upd v i x) w (wx.setCell ⟨V, i, none⟩ (.int .u32 (x : Int))).drew :=
  ⟨((h.row.set i _).drew).congr (fun k _ => upd_wordsV v i x k), h.words.upd i hx, cell_other h.y0 h.ne, cell_other h.y1 h.ne, h.ne, grown_store h.grown i _⟩
/-- The words behind r halves of a step. -/
def cst (v : Nat → Nat) (a b c d : Nat) : Nat → (Nat → Nat)
  | 0 => v
  | 1 => halfV v a b c d 0 16 12
  | _ => halfV (halfV v a b c d 0 16 12) a b c d 0 8 7

theorem und132 : Try.prog.underlying 132 = some (.array 2 131) := by kernel_rfl
theorem idx132_0 (x0 x1 x2 x3 : Value) (W : World) : (Instr.index 132 (.agg #[x0, x1, x2, x3]) (.int .i64 0)).run Try.prog W = .ok (.agg #[x0, x1]) W := by
  simp [Instr.index, run_underlying und132, asIntOf, go_sem]
theorem idx132_1 (x0 x1 x2 x3 : Value) (W : World) : (Instr.index 132 (.agg #[x0, x1, x2, x3]) (.int .i64 1)).run Try.prog W = .ok (.agg #[x2, x3]) W := by
  simp [Instr.index, run_underlying und132, asIntOf, go_sem]

set_option maxRecDepth 100000 in
set_option maxHeartbeats 4000000 in
theorem cstep_any (V a b c d : Nat) (v : Nat → Nat) (w : World) (hr : w.rowIs V 129 16 (wordsV v)) (hw : Words v) (ha : a < 16) (hb : b < 16) (hc : c < 16) (hd : d < 16) :
    Calls Try.prog 109 #[.int .i64 (a : Int), .int .i64 (b : Int), .int .i64 (c : Int), .int .i64 (d : Int), .pointer (some ⟨V, 0, none⟩)] w fun e w' =>
      e = .returned (.tuple #[]) ∧ w'.rowIs V 129 16 (wordsV (cst v a b c d 2)) ∧ w.grownBy w' (some V) := by
  have i1 : (a : Int) < 16 := by omega
  have i2 : (b : Int) < 16 := by omega
  have i3 : (d : Int) < 16 := by omega
  have i4 : (c : Int) < 16 := by omega
  go_enter Try.func109, Try.ntmps109
  go_wp2_with fail
  go_loopw [14] (fun a' wx => ∃ r : Nat, r ≤ 2 ∧ a' = .int .i64 (r : Int) ∧ wx.rowIs V 129 16 (wordsV (cst v a b c d r)) ∧ Words (cst v a b c d r) ∧ w.grownBy wx (some V)) (fun a' _ => 2 - (intOf a').toNat)
  case atStart => exact ⟨0, by omega, rfl, hr, hw, World.grownBy.refl w _⟩
  case round =>
    obtain ⟨r, hr2, rfl, hrow, hwd, hg⟩ := hrel
    rcases (show r = 0 ∨ r = 1 ∨ r = 2 by omega) with rfl | rfl | rfl
    · have hix := idx132_0 (.int .i64 16) (.int .i64 12) (.int .i64 8) (.int .i64 7)
      obtain ⟨v0, hv0⟩ : ∃ v0, cst v a b c d 0 = v0 := ⟨_, rfl⟩
      rw [hv0] at hrow hwd
      have Hv0 := Lib.hid hv0
      clear hv0
      go_upto_region 3 with fail
      obtain ⟨Y, hY⟩ : ∃ Y, wr.heap.size = Y := ⟨_, rfl⟩
      have m0 : CB V Y 16 12 v0 w (wr.alloc (Obj.cells #[Value.int IntKind.i64 16, Value.int IntKind.i64 12] 131)) := by
        have hlt := hrow.lt
        have hn := heap_new wr (Obj.cells #[Value.int IntKind.i64 16, Value.int IntKind.i64 12] 131)
        rw [hY] at hn
        exact ⟨hrow.alloc _, hwd, by rw [cell_of_row _ _ 0 _ _ _ hn]; rfl, by rw [cell_of_row _ _ 1 _ _ _ hn]; rfl, by omega, grown_alloc hg _⟩
      obtain ⟨W0, hW0⟩ : ∃ W0, wr.alloc (Obj.cells #[Value.int IntKind.i64 16, Value.int IntKind.i64 12] 131) = W0 := ⟨_, rfl⟩
      rw [hW0] at m0 ⊢
      rw [hY]
      clear hW0 hY hrow hwd hg
      go_cut [] (fun wx => CB V Y 16 12 (half1 v0 a b 0) w wx)
      case first =>
        have r1 : W0.cell? ⟨V, a, none⟩ = some (.int .u32 (v0 a : Int)) := m0.row.cell ha
        have r2 : W0.cell? ⟨V, b, none⟩ = some (.int .u32 (v0 b : Int)) := m0.row.cell hb
        have fr := m0.row.frozen a
        go_region
        have q : ((v0 a : Int) + (v0 b : Int)) % 4294967296 = (((v0 a + (v0 b + 0)) % 4294967296 : Nat) : Int) := by omega
        rw [q]
        go_wp2
        go_meet
        exact m0.store a (Nat.mod_lt _ (by omega))
      case rest =>
      have m1 := hcut
      obtain ⟨v1, hv1⟩ : ∃ v1, half1 v0 a b 0 = v1 := ⟨_, rfl⟩
      rw [hv1] at m1
      have Hv1 := Lib.hid hv1
      clear hcut m0 hv1
      go_upto_region 4 with fail
      go_cut [] (fun wx => CB V Y 16 12 (half2 v1 a d 16) w wx)
      case first =>
        have r1 : wc.cell? ⟨V, a, none⟩ = some (.int .u32 (v1 a : Int)) := m1.row.cell ha
        have r2 : wc.cell? ⟨V, d, none⟩ = some (.int .u32 (v1 d : Int)) := m1.row.cell hd
        have fr := m1.row.frozen d
        have y0 := m1.y0
        have b1 := u32_xor_nat _ _ (m1.words d) (m1.words a)
        have xx : v1 d ^^^ v1 a < 4294967296 := Nat.xor_lt_two_pow (n := 32) (m1.words d) (m1.words a)
        go_wp2
        refine wp_region_still_tail 12 (by kernel_rfl) (by kernel_rfl) ?_
        change wpStill _ _ wc.drew (fun a' => wpList _ _ _ _ a' wc.drew) _ _
        simp only [List.take_succ_cons, List.take_zero, List.drop_succ_cons, List.drop_zero]
        repeat still_step
        refine still_call (F := 110) rfl (by go_simp) (rot_any (v1 d ^^^ v1 a) 16 16 wc.drew xx (by kernel_rfl) (by omega) (by omega)) ?_
        simp only [Act.put, List.setIfInBounds_toArray, List.set_cons_succ, List.set_cons_zero]
        repeat still_step
        try refine wpStill_nil ?_
        go_wp2
        go_meet
        exact m1.store d (rotl_lt 16 _ (by omega) (by omega) xx)
      case rest =>
      have m2 := hcut
      obtain ⟨v2, hv2⟩ : ∃ v2, half2 v1 a d 16 = v2 := ⟨_, rfl⟩
      rw [hv2] at m2
      have Hv2 := Lib.hid hv2
      clear hcut m1 hv2
      go_upto_region 5 with fail
      go_cut [] (fun wx => CB V Y 16 12 (half1 v2 c d 0) w wx)
      case first =>
        have r1 : wc.cell? ⟨V, c, none⟩ = some (.int .u32 (v2 c : Int)) := m2.row.cell hc
        have r2 : wc.cell? ⟨V, d, none⟩ = some (.int .u32 (v2 d : Int)) := m2.row.cell hd
        have fr := m2.row.frozen c
        go_region
        have q : ((v2 c : Int) + (v2 d : Int)) % 4294967296 = (((v2 c + (v2 d + 0)) % 4294967296 : Nat) : Int) := by omega
        rw [q]
        go_wp2
        go_meet
        exact m2.store c (Nat.mod_lt _ (by omega))
      case rest =>
      have m3 := hcut
      obtain ⟨v3, hv3⟩ : ∃ v3, half1 v2 c d 0 = v3 := ⟨_, rfl⟩
      rw [hv3] at m3
      have Hv3 := Lib.hid hv3
      clear hcut m2 hv3
      go_upto_region 6 with fail
      have r1 : wc.cell? ⟨V, c, none⟩ = some (.int .u32 (v3 c : Int)) := m3.row.cell hc
      have r2 : wc.cell? ⟨V, b, none⟩ = some (.int .u32 (v3 b : Int)) := m3.row.cell hb
      have fr := m3.row.frozen b
      have y0 := m3.y1
      have b1 := u32_xor_nat _ _ (m3.words b) (m3.words c)
      have xx : v3 b ^^^ v3 c < 4294967296 := Nat.xor_lt_two_pow (n := 32) (m3.words b) (m3.words c)
      go_wp2
      refine wp_region_still_tail 12 (by kernel_rfl) (by kernel_rfl) ?_
      change wpStill _ _ wc.drew (fun a' => wpList _ _ _ _ a' wc.drew) _ _
      simp only [List.take_succ_cons, List.take_zero, List.drop_succ_cons, List.drop_zero]
      repeat still_step
      refine still_call (F := 110) rfl (by go_simp) (rot_any (v3 b ^^^ v3 c) 12 12 wc.drew xx (by kernel_rfl) (by omega) (by omega)) ?_
      simp only [Act.put, List.setIfInBounds_toArray, List.set_cons_succ, List.set_cons_zero]
      repeat still_step
      try refine wpStill_nil ?_
      have m4 := m3.store b (rotl_lt 12 _ (by omega) (by omega) xx)
      change CB V Y 16 12 (half2 v3 c b 12) w _ at m4
      have hfin : half2 v3 c b 12 = cst v a b c d 1 := by rw [← Hv3.out, ← Hv2.out, ← Hv1.out, ← Hv0.out]; rfl
      rw [hfin] at m4
      have Hfin := Lib.hid hfin
      clear hfin
      go_wp2
      go_roundw
      case rel => exact ⟨1, by omega, by go_num, m4.row, m4.words, m4.grown⟩
      case measure => simp [intOf]
    · have hix := idx132_1 (.int .i64 16) (.int .i64 12) (.int .i64 8) (.int .i64 7)
      obtain ⟨v0, hv0⟩ : ∃ v0, cst v a b c d 1 = v0 := ⟨_, rfl⟩
      rw [hv0] at hrow hwd
      have Hv0 := Lib.hid hv0
      clear hv0
      go_upto_region 3 with fail
      obtain ⟨Y, hY⟩ : ∃ Y, wr.heap.size = Y := ⟨_, rfl⟩
      have m0 : CB V Y 8 7 v0 w (wr.alloc (Obj.cells #[Value.int IntKind.i64 8, Value.int IntKind.i64 7] 131)) := by
        have hlt := hrow.lt
        have hn := heap_new wr (Obj.cells #[Value.int IntKind.i64 8, Value.int IntKind.i64 7] 131)
        rw [hY] at hn
        exact ⟨hrow.alloc _, hwd, by rw [cell_of_row _ _ 0 _ _ _ hn]; rfl, by rw [cell_of_row _ _ 1 _ _ _ hn]; rfl, by omega, grown_alloc hg _⟩
      obtain ⟨W0, hW0⟩ : ∃ W0, wr.alloc (Obj.cells #[Value.int IntKind.i64 8, Value.int IntKind.i64 7] 131) = W0 := ⟨_, rfl⟩
      rw [hW0] at m0 ⊢
      rw [hY]
      clear hW0 hY hrow hwd hg
      go_cut [] (fun wx => CB V Y 8 7 (half1 v0 a b 0) w wx)
      case first =>
        have r1 : W0.cell? ⟨V, a, none⟩ = some (.int .u32 (v0 a : Int)) := m0.row.cell ha
        have r2 : W0.cell? ⟨V, b, none⟩ = some (.int .u32 (v0 b : Int)) := m0.row.cell hb
        have fr := m0.row.frozen a
        go_region
        have q : ((v0 a : Int) + (v0 b : Int)) % 4294967296 = (((v0 a + (v0 b + 0)) % 4294967296 : Nat) : Int) := by omega
        rw [q]
        go_wp2
        go_meet
        exact m0.store a (Nat.mod_lt _ (by omega))
      case rest =>
      have m1 := hcut
      obtain ⟨v1, hv1⟩ : ∃ v1, half1 v0 a b 0 = v1 := ⟨_, rfl⟩
      rw [hv1] at m1
      have Hv1 := Lib.hid hv1
      clear hcut m0 hv1
      go_upto_region 4 with fail
      go_cut [] (fun wx => CB V Y 8 7 (half2 v1 a d 8) w wx)
      case first =>
        have r1 : wc.cell? ⟨V, a, none⟩ = some (.int .u32 (v1 a : Int)) := m1.row.cell ha
        have r2 : wc.cell? ⟨V, d, none⟩ = some (.int .u32 (v1 d : Int)) := m1.row.cell hd
        have fr := m1.row.frozen d
        have y0 := m1.y0
        have b1 := u32_xor_nat _ _ (m1.words d) (m1.words a)
        have xx : v1 d ^^^ v1 a < 4294967296 := Nat.xor_lt_two_pow (n := 32) (m1.words d) (m1.words a)
        go_wp2
        refine wp_region_still_tail 12 (by kernel_rfl) (by kernel_rfl) ?_
        change wpStill _ _ wc.drew (fun a' => wpList _ _ _ _ a' wc.drew) _ _
        simp only [List.take_succ_cons, List.take_zero, List.drop_succ_cons, List.drop_zero]
        repeat still_step
        refine still_call (F := 110) rfl (by go_simp) (rot_any (v1 d ^^^ v1 a) 8 8 wc.drew xx (by kernel_rfl) (by omega) (by omega)) ?_
        simp only [Act.put, List.setIfInBounds_toArray, List.set_cons_succ, List.set_cons_zero]
        repeat still_step
        try refine wpStill_nil ?_
        go_wp2
        go_meet
        exact m1.store d (rotl_lt 8 _ (by omega) (by omega) xx)
      case rest =>
      have m2 := hcut
      obtain ⟨v2, hv2⟩ : ∃ v2, half2 v1 a d 8 = v2 := ⟨_, rfl⟩
      rw [hv2] at m2
      have Hv2 := Lib.hid hv2
      clear hcut m1 hv2
      go_upto_region 5 with fail
      go_cut [] (fun wx => CB V Y 8 7 (half1 v2 c d 0) w wx)
      case first =>
        have r1 : wc.cell? ⟨V, c, none⟩ = some (.int .u32 (v2 c : Int)) := m2.row.cell hc
        have r2 : wc.cell? ⟨V, d, none⟩ = some (.int .u32 (v2 d : Int)) := m2.row.cell hd
        have fr := m2.row.frozen c
        go_region
        have q : ((v2 c : Int) + (v2 d : Int)) % 4294967296 = (((v2 c + (v2 d + 0)) % 4294967296 : Nat) : Int) := by omega
        rw [q]
        go_wp2
        go_meet
        exact m2.store c (Nat.mod_lt _ (by omega))
      case rest =>
      have m3 := hcut
      obtain ⟨v3, hv3⟩ : ∃ v3, half1 v2 c d 0 = v3 := ⟨_, rfl⟩
      rw [hv3] at m3
      have Hv3 := Lib.hid hv3
      clear hcut m2 hv3
      go_upto_region 6 with fail
      have r1 : wc.cell? ⟨V, c, none⟩ = some (.int .u32 (v3 c : Int)) := m3.row.cell hc
      have r2 : wc.cell? ⟨V, b, none⟩ = some (.int .u32 (v3 b : Int)) := m3.row.cell hb
      have fr := m3.row.frozen b
      have y0 := m3.y1
      have b1 := u32_xor_nat _ _ (m3.words b) (m3.words c)
      have xx : v3 b ^^^ v3 c < 4294967296 := Nat.xor_lt_two_pow (n := 32) (m3.words b) (m3.words c)
      go_wp2
      refine wp_region_still_tail 12 (by kernel_rfl) (by kernel_rfl) ?_
      change wpStill _ _ wc.drew (fun a' => wpList _ _ _ _ a' wc.drew) _ _
      simp only [List.take_succ_cons, List.take_zero, List.drop_succ_cons, List.drop_zero]
      repeat still_step
      refine still_call (F := 110) rfl (by go_simp) (rot_any (v3 b ^^^ v3 c) 7 7 wc.drew xx (by kernel_rfl) (by omega) (by omega)) ?_
      simp only [Act.put, List.setIfInBounds_toArray, List.set_cons_succ, List.set_cons_zero]
      repeat still_step
      try refine wpStill_nil ?_
      have m4 := m3.store b (rotl_lt 7 _ (by omega) (by omega) xx)
      change CB V Y 8 7 (half2 v3 c b 7) w _ at m4
      have hfin : half2 v3 c b 7 = cst v a b c d 2 := by rw [← Hv3.out, ← Hv2.out, ← Hv1.out, ← Hv0.out]; rfl
      rw [hfin] at m4
      have Hfin := Lib.hid hfin
      clear hfin
      go_wp2
      go_roundw
      case rel => exact ⟨2, by omega, by go_num, m4.row, m4.words, m4.grown⟩
      case measure => simp [intOf]
    · go_wp2_with fail
      go_end0
      exact ⟨rfl, hrow, hg⟩
end Go.Proofs.Ytnjcganknpnjcaa
