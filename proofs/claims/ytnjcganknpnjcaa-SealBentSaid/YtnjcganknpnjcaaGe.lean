/- hash: mix's closure. -/
import Derived.Test.YtnjcganknpnjcaaGa
import Derived.Deep.OwnRows
import Derived.OwnWalk
import Derived.Test.YtnjcganknpnjcaaGb
set_option linter.unusedVariables false
set_option linter.unusedSimpArgs false
namespace Go.Proofs.Ytnjcganknpnjcaa
open Go.RowKit

theorem still_call {P : Program} {ops : Array Oper} {w : World} {Q : Act → Prop} {a : Act} {o : Oper} {rest : List Oper} {F : Nat} {args : Array Value} {v : Value} (hg : o.guard = none)
    (hrun : (execOp a.eval o).run P w = .ok (.enter F args) w) (hc : Calls P F args w fun e w' => e = .returned v ∧ w' = w) (hK : wpStill P ops w Q rest (a.put o.dst v)) : wpStill P ops w Q (o :: rest) a := by
  unfold wpStill
  rw [if_pos (by simp [Region.wanted, hg])]
  unfold Oper.still
  rw [hrun]
  exact ⟨rfl, v, hc, hK⟩

/-- The closure's captured cells, and the sixteen words. -/
structure Held (T V Cv Ca Cb Cc Cd a b c d : Nat) (v : Nat → Nat) (w : World) : Prop where
  row : w.rowIs V T 16 (wordsV v)
  words : Words v
  cv : w.cell? ⟨Cv, 0, none⟩ = some (.pointer (some ⟨V, 0, none⟩))
  ca : w.cell? ⟨Ca, 0, none⟩ = some (.int .i64 (a : Int))
  cb : w.cell? ⟨Cb, 0, none⟩ = some (.int .i64 (b : Int))
  cc : w.cell? ⟨Cc, 0, none⟩ = some (.int .i64 (c : Int))
  cd : w.cell? ⟨Cd, 0, none⟩ = some (.int .i64 (d : Int))
  nv : Cv ≠ V ∧ Ca ≠ V ∧ Cb ≠ V ∧ Cc ≠ V ∧ Cd ≠ V
theorem cell_other {w : World} {p q : Addr} {x y : Value} (h : w.cell? p = some x) (hne : p.block ≠ q.block) : ((w.setCell q y).drew).cell? p = some x :=
  (World.cell?_of_block (Go.Deep.blk_setCell_other w q y p.block hne)).trans h
theorem Held.store {T V Cv Ca Cb Cc Cd a b c d : Nat} {v : Nat → Nat} {w : World} (h : Held T V Cv Ca Cb Cc Cd a b c d v w) (i : Nat) {x : Nat} (hx : x < 4294967296) :
    Held T V Cv Ca Cb Cc Cd a b c d (upd v i x) (w.setCell ⟨V, i, none⟩ (.int .u32 (x : Int))).drew := by
  obtain ⟨n1, n2, n3, n4, n5⟩ := h.nv
  exact ⟨((h.row.set i _).drew).congr (fun k _ => upd_wordsV v i x k), h.words.upd i hx, cell_other h.cv n1, cell_other h.ca n2, cell_other h.cb n3, cell_other h.cc n4, cell_other h.cd n5, h.nv⟩

theorem grown_store {a w : World} {V : Nat} (h : a.grownBy w (some V)) (i : Nat) (x : Value) : a.grownBy (w.setCell ⟨V, i, none⟩ x).drew (some V) :=
  ⟨h.os, h.tape, h.output, by simpa [World.setCell, World.drew] using h.size, fun k hk hne => (Go.Deep.blk_setCell_other w ⟨V, i, none⟩ x k (by simpa using hne)).trans (h.block k hk hne)⟩

set_option maxRecDepth 100000 in
set_option maxHeartbeats 4000000 in
theorem half_any (T V Cv Ca Cb Cc Cd a b c d n s1 s2 : Nat) (k1 k2 : Int) (v : Nat → Nat) (w : World) (h : Held T V Cv Ca Cb Cc Cd a b c d v w) (hn : n < 4294967296)
    (hs1 : bits .and .u64 (IntKind.u64.wrap (IntKind.i64.wrap (-k1))) 31 = (s1 : Int)) (hs1a : 0 < s1) (hs1b : s1 < 32)
    (hs2 : bits .and .u64 (IntKind.u64.wrap (IntKind.i64.wrap (-k2))) 31 = (s2 : Int)) (hs2a : 0 < s2) (hs2b : s2 < 32)
    (ha : a < 16) (hb : b < 16) (hc : c < 16) (hd : d < 16) :
    Calls Try.prog 124 #[.int .u32 (n : Int), .int .i64 k1, .int .i64 k2, .pointer (some ⟨Cv, 0, none⟩), .pointer (some ⟨Ca, 0, none⟩), .pointer (some ⟨Cb, 0, none⟩), .pointer (some ⟨Cd, 0, none⟩), .pointer (some ⟨Cc, 0, none⟩)] w fun e w' => e = .returned (.tuple #[]) ∧ Held T V Cv Ca Cb Cc Cd a b c d (halfV v a b c d n s1 s2) w' ∧ w.grownBy w' (some V) := by
  have i1 : (a : Int) < 16 := by omega
  have i2 : (b : Int) < 16 := by omega
  have i3 : (d : Int) < 16 := by omega
  have i4 : (c : Int) < 16 := by omega
  go_enter Try.func124, Try.ntmps124
  go_upto_region 0 with fail
  go_cut [] (fun wx => Held T V Cv Ca Cb Cc Cd a b c d (half1 v a b n) wx ∧ w.grownBy wx (some V))
  case first =>
    have e0 := h.cv
    have e1 := h.ca
    have e2 := h.cb
    have ra : w.cell? ⟨V, a, none⟩ = some (.int .u32 (v a : Int)) := h.row.cell ha
    have rb : w.cell? ⟨V, b, none⟩ = some (.int .u32 (v b : Int)) := h.row.cell hb
    have fa := h.row.frozen a
    go_region
    have q1 : ((v a : Int) + ((v b : Int) + (n : Int))) % 4294967296 = (((v a + (v b + n)) % 4294967296 : Nat) : Int) := by omega
    rw [q1]
    go_wp2
    go_meet
    exact ⟨h.store a (Nat.mod_lt _ (by omega)), grown_store (World.grownBy.refl w (some V)) a _⟩
  case rest =>
    obtain ⟨m1, g1⟩ := hcut
    obtain ⟨v1, hv1⟩ : ∃ v1, half1 v a b n = v1 := ⟨_, rfl⟩
    rw [hv1] at m1
    go_upto_region 1 with fail
    go_cut [] (fun wx => Held T V Cv Ca Cb Cc Cd a b c d (half2 v1 a d s1) wx ∧ w.grownBy wx (some V))
    case first =>
      have e0 := m1.cv
      have e1 := m1.ca
      have e4 := m1.cd
      have ra : wc.cell? ⟨V, a, none⟩ = some (.int .u32 (v1 a : Int)) := m1.row.cell ha
      have rd : wc.cell? ⟨V, d, none⟩ = some (.int .u32 (v1 d : Int)) := m1.row.cell hd
      have fd := m1.row.frozen d
      have b1 := u32_xor_nat _ _ (m1.words d) (m1.words a)
      have xx : v1 d ^^^ v1 a < 4294967296 := Nat.xor_lt_two_pow (n := 32) (m1.words d) (m1.words a)
      go_wp2
      refine wp_region_still_tail 18 (by kernel_rfl) (by kernel_rfl) ?_
      change wpStill _ _ wc.drew (fun a' => wpList _ _ _ _ a' wc.drew) _ _
      simp only [List.take_succ_cons, List.take_zero, List.drop_succ_cons, List.drop_zero]
      repeat still_step
      refine still_call (F := 110) rfl (by go_simp) (rot_any (v1 d ^^^ v1 a) s1 (IntKind.i64.wrap (-k1)) wc.drew xx hs1 hs1a hs1b) ?_
      simp only [Act.put, Array.setIfInBounds, List.size_toArray, List.set_toArray, List.set_cons_succ, List.set_cons_zero]
      repeat still_step
      try refine wpStill_nil ?_
      go_wp2
      go_meet
      exact ⟨m1.store d (rotl_lt _ _ hs1a hs1b xx), grown_store g1 d _⟩
    case rest =>
      obtain ⟨m2, g2⟩ := hcut
      obtain ⟨v2, hv2⟩ : ∃ v2, half2 v1 a d s1 = v2 := ⟨_, rfl⟩
      rw [hv2] at m2
      clear m1 g1
      go_upto_region 2 with fail
      go_cut [] (fun wx => Held T V Cv Ca Cb Cc Cd a b c d (half1 v2 c d 0) wx ∧ w.grownBy wx (some V))
      case first =>
        have e0 := m2.cv
        have e3 := m2.cc
        have e4 := m2.cd
        have rc : wc.cell? ⟨V, c, none⟩ = some (.int .u32 (v2 c : Int)) := m2.row.cell hc
        have rd : wc.cell? ⟨V, d, none⟩ = some (.int .u32 (v2 d : Int)) := m2.row.cell hd
        have fc := m2.row.frozen c
        go_region
        have q3 : ((v2 c : Int) + (v2 d : Int)) % 4294967296 = (((v2 c + (v2 d + 0)) % 4294967296 : Nat) : Int) := by omega
        rw [q3]
        go_wp2
        go_meet
        exact ⟨m2.store c (Nat.mod_lt _ (by omega)), grown_store g2 c _⟩
      case rest =>
        obtain ⟨m3, g3⟩ := hcut
        obtain ⟨v3, hv3⟩ : ∃ v3, half1 v2 c d 0 = v3 := ⟨_, rfl⟩
        rw [hv3] at m3
        have hfin : half2 v3 c b s2 = halfV v a b c d n s1 s2 := by rw [← hv3, ← hv2, ← hv1]; rfl
        clear m2 g2 hv3 hv2 hv1
        have Hfin := Lib.hid hfin
        clear hfin
        have e0 := m3.cv
        have e2 := m3.cb
        have e3 := m3.cc
        have rb : wc.cell? ⟨V, b, none⟩ = some (.int .u32 (v3 b : Int)) := m3.row.cell hb
        have rc : wc.cell? ⟨V, c, none⟩ = some (.int .u32 (v3 c : Int)) := m3.row.cell hc
        have fb := m3.row.frozen b
        have b1 := u32_xor_nat _ _ (m3.words b) (m3.words c)
        have xx : v3 b ^^^ v3 c < 4294967296 := Nat.xor_lt_two_pow (n := 32) (m3.words b) (m3.words c)
        go_wp2
        refine wp_region_still_tail 18 (by kernel_rfl) (by kernel_rfl) ?_
        change wpStill _ _ wc.drew (fun a' => wpList _ _ _ _ a' wc.drew) _ _
        simp only [List.take_succ_cons, List.take_zero, List.drop_succ_cons, List.drop_zero]
        repeat still_step
        refine still_call (F := 110) rfl (by go_simp) (rot_any (v3 b ^^^ v3 c) s2 (IntKind.i64.wrap (-k2)) wc.drew xx hs2 hs2a hs2b) ?_
        simp only [Act.put, Array.setIfInBounds, List.size_toArray, List.set_toArray, List.set_cons_succ, List.set_cons_zero]
        repeat still_step
        try refine wpStill_nil ?_
        go_wp2
        go_end0
        have m4 := m3.store b (rotl_lt _ _ hs2a hs2b xx)
        exact ⟨rfl, by rw [← Hfin.out]; exact m4, grown_store g3 b _⟩
end Go.Proofs.Ytnjcganknpnjcaa
namespace Go.Proofs.Ytnjcganknpnjcaa
open Go.RowKit

theorem grown_alloc {a w : World} {row : Option Nat} (h : a.grownBy w row) (o : Obj) : a.grownBy (w.alloc o) row :=
  ⟨h.os, h.tape, h.output, by have := h.size; rw [World.size_alloc]; omega, fun k hk hne => (Below.heap_alloc w o k (Nat.lt_of_lt_of_le hk h.size)).trans (h.block k hk hne)⟩
theorem cell_new1 (w : World) (v : Value) (t : TypeId) : (w.alloc (.cells #[v] t)).cell? ⟨w.heap.size, 0, none⟩ = some v := by
  rw [cell_of_row _ _ 0 _ _ _ (heap_new w _)]; rfl
theorem cell_newk {w : World} {k : Nat} (hk : w.heap.size = k) (v : Value) (t : TypeId) : (w.alloc (.cells #[v] t)).cell? ⟨k, 0, none⟩ = some v := by
  rw [← hk]; exact cell_new1 w v t

set_option maxRecDepth 100000 in
set_option maxHeartbeats 4000000 in
theorem mix_any (T V a b c d x y : Nat) (v : Nat → Nat) (w : World) (hr : w.rowIs V T 16 (wordsV v)) (hw : Words v) (hx : x < 4294967296) (hy : y < 4294967296)
    (ha : a < 16) (hb : b < 16) (hc : c < 16) (hd : d < 16) :
    Calls Try.prog 115 #[.pointer (some ⟨V, 0, none⟩), .int .i64 (a : Int), .int .i64 (b : Int), .int .i64 (c : Int), .int .i64 (d : Int), .int .u32 (x : Int), .int .u32 (y : Int)] w fun e w' =>
      e = .returned (.tuple #[]) ∧ w'.rowIs V T 16 (wordsV (mixV v a b c d x y)) ∧ w.grownBy w' (some V) := by
  have hlt := hr.lt
  go_enter Try.func115, Try.ntmps115
  go_wp2_with fail
  obtain ⟨W, hW⟩ : ∃ W, (((((w.alloc (.cells #[.pointer (some ⟨V, 0, none⟩)] 141)).alloc (.cells #[.int .i64 (a : Int)] 3)).alloc (.cells #[.int .i64 (b : Int)] 3)).alloc (.cells #[.int .i64 (c : Int)] 3)).alloc (.cells #[.int .i64 (d : Int)] 3)) = W := ⟨_, rfl⟩
  rw [hW]
  have hh : Held T V w.heap.size (w.heap.size + 1) (w.heap.size + 1 + 1) (w.heap.size + 1 + 1 + 1) (w.heap.size + 1 + 1 + 1 + 1) a b c d v W := by
    rw [← hW]
    refine ⟨((((hr.alloc _).alloc _).alloc _).alloc _).alloc _, hw, ?_, ?_, ?_, ?_, ?_, by omega⟩
    · exact cell_alloc (cell_alloc (cell_alloc (cell_alloc (cell_newk rfl _ _) _) _) _) _
    · exact cell_alloc (cell_alloc (cell_alloc (cell_newk (by simp) _ _) _) _) _
    · exact cell_alloc (cell_alloc (cell_newk (by simp) _ _) _) _
    · exact cell_alloc (cell_newk (by simp) _ _) _
    · exact cell_newk (by simp) _ _
  have g0 : w.grownBy W (some V) := by rw [← hW]; exact grown_alloc (grown_alloc (grown_alloc (grown_alloc (grown_alloc (World.grownBy.refl w _) _) _) _) _) _
  clear hW
  refine (half_any T V w.heap.size (w.heap.size + 1) (w.heap.size + 1 + 1) (w.heap.size + 1 + 1 + 1) (w.heap.size + 1 + 1 + 1 + 1) a b c d x 16 20 16 12 v W hh hx (by kernel_rfl) (by omega) (by omega) (by kernel_rfl) (by omega) (by omega) ha hb hc hd).mono ?_
  rintro e w1 ⟨rfl, h1, g1⟩
  go_wp2_with fail
  refine (half_any T V w.heap.size (w.heap.size + 1) (w.heap.size + 1 + 1) (w.heap.size + 1 + 1 + 1) (w.heap.size + 1 + 1 + 1 + 1) a b c d y 24 25 8 7 _ w1 h1 hy (by kernel_rfl) (by omega) (by omega) (by kernel_rfl) (by omega) (by omega) ha hb hc hd).mono ?_
  rintro e w2 ⟨rfl, h2, g2⟩
  go_wp2_with fail
  go_end0
  exact ⟨rfl, h2.row, (g0.trans g1).trans g2⟩
end Go.Proofs.Ytnjcganknpnjcaa
namespace Go.Proofs.Ytnjcganknpnjcaa
open Go.RowKit

structure RMix (B : Nat) (v : Nat → Nat) (w wx : World) : Prop where
  row : wx.rowIs B 129 16 (wordsV v)
  words : Words v
  res : wx.rowIs (B + 1) 129 16 (fun _ => .int .u32 0)
  below : Below B w wx
theorem RMix.store {B : Nat} {v : Nat → Nat} {w wx : World} (h : RMix B v w wx) (i : Nat) {x : Nat} (hx : x < 4294967296) :
    RMix B (upd v i x) w (wx.setCell ⟨B, i, none⟩ (.int .u32 (x : Int))).drew :=
  ⟨((h.row.set i _).drew).congr (fun k _ => upd_wordsV v i x k), h.words.upd i hx, (h.res.setOther (by simp) _).drew, (h.below.setCell (p := ⟨B, i, none⟩) (Nat.le_refl _) _).drew⟩

set_option maxRecDepth 100000 in
set_option maxHeartbeats 4000000 in
theorem rmix_any (a b c d x y : Nat) (v0 : Nat → Nat) (w : World) (hw : Words v0) (hx : x < 4294967296) (hy : y < 4294967296)
    (ha : a < 16) (hb : b < 16) (hc : c < 16) (hd : d < 16) :
    Calls Try.prog 129 #[.agg (arrA 16 (wordsV v0)), .int .i64 (a : Int), .int .i64 (b : Int), .int .i64 (c : Int), .int .i64 (d : Int), .int .u32 (x : Int), .int .u32 (y : Int)] w fun e w' =>
      e = .returned (.agg (arrA 16 (wordsV (mixV v0 a b c d x y)))) ∧ Below w.heap.size w w' := by
  have i1 : (a : Int) < 16 := by omega
  have i2 : (b : Int) < 16 := by omega
  have i3 : (d : Int) < 16 := by omega
  have i4 : (c : Int) < 16 := by omega
  go_enter Try.func129, Try.ntmps129
  go_upto_region 1 with fail
  obtain ⟨W, hW⟩ : ∃ W, ((w.alloc (Obj.cells (arrA 16 (wordsV v0)) 129)).alloc (Obj.cells #[Value.int IntKind.u32 0, Value.int IntKind.u32 0, Value.int IntKind.u32 0, Value.int IntKind.u32 0, Value.int IntKind.u32 0, Value.int IntKind.u32 0, Value.int IntKind.u32 0, Value.int IntKind.u32 0, Value.int IntKind.u32 0, Value.int IntKind.u32 0, Value.int IntKind.u32 0, Value.int IntKind.u32 0, Value.int IntKind.u32 0, Value.int IntKind.u32 0, Value.int IntKind.u32 0, Value.int IntKind.u32 0] 129)) = W := ⟨_, rfl⟩
  rw [hW]
  have m0 : RMix w.heap.size v0 w W := by
    rw [← hW]
    refine ⟨row_of_heap (heap_old (heap_new w _) _), hw, ?_, ((Below.refl _ w).alloc (Nat.le_refl _) _).alloc (by simp) _⟩
    have := heap_new (w.alloc (Obj.cells (arrA 16 (wordsV v0)) 129)) (Obj.cells #[Value.int IntKind.u32 0, Value.int IntKind.u32 0, Value.int IntKind.u32 0, Value.int IntKind.u32 0, Value.int IntKind.u32 0, Value.int IntKind.u32 0, Value.int IntKind.u32 0, Value.int IntKind.u32 0, Value.int IntKind.u32 0, Value.int IntKind.u32 0, Value.int IntKind.u32 0, Value.int IntKind.u32 0, Value.int IntKind.u32 0, Value.int IntKind.u32 0, Value.int IntKind.u32 0, Value.int IntKind.u32 0] 129)
    rw [World.size_alloc] at this
    exact row_of_heap this
  clear hW
  go_cut [] (fun wx => RMix w.heap.size (half1 v0 a b x) w wx)
  case first =>
    have r1 : W.cell? ⟨w.heap.size, a, none⟩ = some (.int .u32 (v0 a : Int)) := m0.row.cell ha
    have r2 : W.cell? ⟨w.heap.size, b, none⟩ = some (.int .u32 (v0 b : Int)) := m0.row.cell hb
    have fr := m0.row.frozen a
    go_region
    have q : ((v0 a : Int) + (v0 b : Int) + (x : Int)) % 4294967296 = (((v0 a + (v0 b + x)) % 4294967296 : Nat) : Int) := by omega
    rw [q]
    go_wp2
    go_meet
    exact m0.store a (Nat.mod_lt _ (by omega))
  case rest =>
    obtain ⟨v1, hv1⟩ : ∃ v1, half1 v0 a b x = v1 := ⟨_, rfl⟩
    have m1 := hcut
    rw [hv1] at m1
    clear hcut m0
    go_upto_region 2 with fail
    go_cut [] (fun wx => RMix w.heap.size (half2 v1 a d 16) w wx)
    case first =>
      have r1 : wc.cell? ⟨w.heap.size, a, none⟩ = some (.int .u32 (v1 a : Int)) := m1.row.cell ha
      have r2 : wc.cell? ⟨w.heap.size, d, none⟩ = some (.int .u32 (v1 d : Int)) := m1.row.cell hd
      have fr := m1.row.frozen d
      have b1 := u32_xor_nat _ _ (m1.words d) (m1.words a)
      have xx : v1 d ^^^ v1 a < 4294967296 := Nat.xor_lt_two_pow (n := 32) (m1.words d) (m1.words a)
      go_wp2
      refine wp_region_still_tail 10 (by kernel_rfl) (by kernel_rfl) ?_
      change wpStill _ _ wc.drew (fun a' => wpList _ _ _ _ a' wc.drew) _ _
      simp only [List.take_succ_cons, List.take_zero, List.drop_succ_cons, List.drop_zero]
      repeat still_step
      refine still_call (F := 132) rfl (by go_simp) (turned_any (v1 d ^^^ v1 a) 16 wc.drew xx (by omega) (by omega)) ?_
      simp only [Act.put, Array.setIfInBounds, List.size_toArray, List.set_toArray, List.set_cons_succ, List.set_cons_zero]
      repeat still_step
      try refine wpStill_nil ?_
      go_wp2
      go_meet
      exact m1.store d (rotl_lt _ _ (by omega) (by omega) xx)
    case rest =>
      obtain ⟨v2, hv2⟩ : ∃ v2, half2 v1 a d 16 = v2 := ⟨_, rfl⟩
      have m2 := hcut
      rw [hv2] at m2
      clear hcut m1
      go_upto_region 3 with fail
      go_cut [] (fun wx => RMix w.heap.size (half1 v2 c d 0) w wx)
      case first =>
        have r1 : wc.cell? ⟨w.heap.size, c, none⟩ = some (.int .u32 (v2 c : Int)) := m2.row.cell hc
        have r2 : wc.cell? ⟨w.heap.size, d, none⟩ = some (.int .u32 (v2 d : Int)) := m2.row.cell hd
        have fr := m2.row.frozen c
        go_region
        have q : ((v2 c : Int) + (v2 d : Int)) % 4294967296 = (((v2 c + (v2 d + 0)) % 4294967296 : Nat) : Int) := by omega
        rw [q]
        go_wp2
        go_meet
        exact m2.store c (Nat.mod_lt _ (by omega))
      case rest =>
        obtain ⟨v3, hv3⟩ : ∃ v3, half1 v2 c d 0 = v3 := ⟨_, rfl⟩
        have m3 := hcut
        rw [hv3] at m3
        clear hcut m2
        go_upto_region 4 with fail
        go_cut [] (fun wx => RMix w.heap.size (half2 v3 c b 20) w wx)
        case first =>
          have r1 : wc.cell? ⟨w.heap.size, c, none⟩ = some (.int .u32 (v3 c : Int)) := m3.row.cell hc
          have r2 : wc.cell? ⟨w.heap.size, b, none⟩ = some (.int .u32 (v3 b : Int)) := m3.row.cell hb
          have fr := m3.row.frozen b
          have b1 := u32_xor_nat _ _ (m3.words b) (m3.words c)
          have xx : v3 b ^^^ v3 c < 4294967296 := Nat.xor_lt_two_pow (n := 32) (m3.words b) (m3.words c)
          go_wp2
          refine wp_region_still_tail 10 (by kernel_rfl) (by kernel_rfl) ?_
          change wpStill _ _ wc.drew (fun a' => wpList _ _ _ _ a' wc.drew) _ _
          simp only [List.take_succ_cons, List.take_zero, List.drop_succ_cons, List.drop_zero]
          repeat still_step
          refine still_call (F := 132) rfl (by go_simp) (turned_any (v3 b ^^^ v3 c) 12 wc.drew xx (by omega) (by omega)) ?_
          simp only [Act.put, Array.setIfInBounds, List.size_toArray, List.set_toArray, List.set_cons_succ, List.set_cons_zero]
          repeat still_step
          try refine wpStill_nil ?_
          go_wp2
          go_meet
          exact m3.store b (rotl_lt _ _ (by omega) (by omega) xx)
        case rest =>
          obtain ⟨v4, hv4⟩ : ∃ v4, half2 v3 c b 20 = v4 := ⟨_, rfl⟩
          have m4 := hcut
          rw [hv4] at m4
          clear hcut m3
          go_upto_region 5 with fail
          go_cut [] (fun wx => RMix w.heap.size (half1 v4 a b y) w wx)
          case first =>
            have r1 : wc.cell? ⟨w.heap.size, a, none⟩ = some (.int .u32 (v4 a : Int)) := m4.row.cell ha
            have r2 : wc.cell? ⟨w.heap.size, b, none⟩ = some (.int .u32 (v4 b : Int)) := m4.row.cell hb
            have fr := m4.row.frozen a
            go_region
            have q : ((v4 a : Int) + (v4 b : Int) + (y : Int)) % 4294967296 = (((v4 a + (v4 b + y)) % 4294967296 : Nat) : Int) := by omega
            rw [q]
            go_wp2
            go_meet
            exact m4.store a (Nat.mod_lt _ (by omega))
          case rest =>
            obtain ⟨v5, hv5⟩ : ∃ v5, half1 v4 a b y = v5 := ⟨_, rfl⟩
            have m5 := hcut
            rw [hv5] at m5
            clear hcut m4
            go_upto_region 6 with fail
            go_cut [] (fun wx => RMix w.heap.size (half2 v5 a d 24) w wx)
            case first =>
              have r1 : wc.cell? ⟨w.heap.size, a, none⟩ = some (.int .u32 (v5 a : Int)) := m5.row.cell ha
              have r2 : wc.cell? ⟨w.heap.size, d, none⟩ = some (.int .u32 (v5 d : Int)) := m5.row.cell hd
              have fr := m5.row.frozen d
              have b1 := u32_xor_nat _ _ (m5.words d) (m5.words a)
              have xx : v5 d ^^^ v5 a < 4294967296 := Nat.xor_lt_two_pow (n := 32) (m5.words d) (m5.words a)
              go_wp2
              refine wp_region_still_tail 10 (by kernel_rfl) (by kernel_rfl) ?_
              change wpStill _ _ wc.drew (fun a' => wpList _ _ _ _ a' wc.drew) _ _
              simp only [List.take_succ_cons, List.take_zero, List.drop_succ_cons, List.drop_zero]
              repeat still_step
              refine still_call (F := 132) rfl (by go_simp) (turned_any (v5 d ^^^ v5 a) 8 wc.drew xx (by omega) (by omega)) ?_
              simp only [Act.put, Array.setIfInBounds, List.size_toArray, List.set_toArray, List.set_cons_succ, List.set_cons_zero]
              repeat still_step
              try refine wpStill_nil ?_
              go_wp2
              go_meet
              exact m5.store d (rotl_lt _ _ (by omega) (by omega) xx)
            case rest =>
              obtain ⟨v6, hv6⟩ : ∃ v6, half2 v5 a d 24 = v6 := ⟨_, rfl⟩
              have m6 := hcut
              rw [hv6] at m6
              clear hcut m5
              go_upto_region 7 with fail
              go_cut [] (fun wx => RMix w.heap.size (half1 v6 c d 0) w wx)
              case first =>
                have r1 : wc.cell? ⟨w.heap.size, c, none⟩ = some (.int .u32 (v6 c : Int)) := m6.row.cell hc
                have r2 : wc.cell? ⟨w.heap.size, d, none⟩ = some (.int .u32 (v6 d : Int)) := m6.row.cell hd
                have fr := m6.row.frozen c
                go_region
                have q : ((v6 c : Int) + (v6 d : Int)) % 4294967296 = (((v6 c + (v6 d + 0)) % 4294967296 : Nat) : Int) := by omega
                rw [q]
                go_wp2
                go_meet
                exact m6.store c (Nat.mod_lt _ (by omega))
              case rest =>
                obtain ⟨v7, hv7⟩ : ∃ v7, half1 v6 c d 0 = v7 := ⟨_, rfl⟩
                have m7 := hcut
                rw [hv7] at m7
                clear hcut m6
                go_upto_region 8 with fail
                go_cut [] (fun wx => RMix w.heap.size (half2 v7 c b 25) w wx)
                case first =>
                  have r1 : wc.cell? ⟨w.heap.size, c, none⟩ = some (.int .u32 (v7 c : Int)) := m7.row.cell hc
                  have r2 : wc.cell? ⟨w.heap.size, b, none⟩ = some (.int .u32 (v7 b : Int)) := m7.row.cell hb
                  have fr := m7.row.frozen b
                  have b1 := u32_xor_nat _ _ (m7.words b) (m7.words c)
                  have xx : v7 b ^^^ v7 c < 4294967296 := Nat.xor_lt_two_pow (n := 32) (m7.words b) (m7.words c)
                  go_wp2
                  refine wp_region_still_tail 10 (by kernel_rfl) (by kernel_rfl) ?_
                  change wpStill _ _ wc.drew (fun a' => wpList _ _ _ _ a' wc.drew) _ _
                  simp only [List.take_succ_cons, List.take_zero, List.drop_succ_cons, List.drop_zero]
                  repeat still_step
                  refine still_call (F := 132) rfl (by go_simp) (turned_any (v7 b ^^^ v7 c) 7 wc.drew xx (by omega) (by omega)) ?_
                  simp only [Act.put, Array.setIfInBounds, List.size_toArray, List.set_toArray, List.set_cons_succ, List.set_cons_zero]
                  repeat still_step
                  try refine wpStill_nil ?_
                  go_wp2
                  go_meet
                  exact m7.store b (rotl_lt _ _ (by omega) (by omega) xx)
                case rest =>
                  obtain ⟨v8, hv8⟩ : ∃ v8, half2 v7 c b 25 = v8 := ⟨_, rfl⟩
                  have m8 := hcut
                  rw [hv8] at m8
                  clear hcut m7
                  have hfin : v8 = mixV v0 a b c d x y := by rw [← hv8, ← hv7, ← hv6, ← hv5, ← hv4, ← hv3, ← hv2, ← hv1]; rfl
                  have Hfin := Lib.hid hfin
                  clear hfin hv8 hv7 hv6 hv5 hv4 hv3 hv2 hv1
                  go_wp2_with (first | (refine load_arr rfl 129 _ rfl 16 38 129 w.heap.size _ rfl m8.row und129 siz129 ?_) | (refine store_arr rfl 129 _ _ rfl 16 129 (w.heap.size + 1) _ _ rfl rfl m8.res siz129 (fun _ => rfl) ?_))
                  refine bodyPost_ret (result_arr rfl _ _ 16 38 129 (w.heap.size + 1) _ rfl (rowIs_setRow m8.res _) und129 siz129) rfl ?_
                  exact ⟨by rw [← Hfin.out], below_setRow m8.below (by omega) _⟩
end Go.Proofs.Ytnjcganknpnjcaa
namespace Go.Proofs.Ytnjcganknpnjcaa
open Go.RowKit

/-- The signs of the rows. -/
def rowsB : ByteArray := ⟨(sigL.map fun x => UInt8.ofNat (if x < 10 then 48 + x else 87 + x)).toArray⟩
def digsB : ByteArray := ⟨#[48, 49, 50, 51, 52, 53, 54, 55, 56, 57, 97, 98, 99, 100, 101, 102]⟩
theorem rowsB_size : rowsB.size = 160 := by kernel_rfl
theorem row_key : ∀ k, (h : k < 160) → Lib.indexByte digsB.data.toList (rowsB[k]'(by rw [rowsB_size]; exact h)) = (sigL.getD k 0 : Int) := by decide +kernel

set_option maxRecDepth 100000 in
set_option maxHeartbeats 1000000 in
theorem row_any (r i : Nat) (w : World) (hr : r < 10) (hi : i < 16) : Calls Try.prog 116 #[.int .i64 (r : Int), .int .i64 (i : Int)] w fun e w' => e = .returned (.int .i64 (sig r i : Int)) ∧ w' = w := by
  obtain ⟨k, hk⟩ : ∃ k, 16 * r + i = k := ⟨_, rfl⟩
  have e1 : IntKind.i64.wrap (16 * (r : Int)) = 16 * (r : Int) := IntWalk.i64_in _ (by omega)
  have e2 : IntKind.i64.wrap (16 * (r : Int) + (i : Int)) = (k : Int) := by rw [IntWalk.i64_in _ (by omega)]; omega
  have e3 : (k : Int) < 160 := by omega
  have e5 : k < 160 := by omega
  have Hk := Lib.hid hk
  clear hk
  go_enter Try.func116, Try.ntmps116
  go_wp2_with fail
  refine (Try.strings_IndexByte _ _ _).mono ?_
  rintro e w1 ⟨rfl, rfl⟩
  go_wp2
  go_ret
  refine ⟨ret_int ?_, rfl⟩
  rw [show sig r i = sigL.getD k 0 from by rw [sig, Hk.out]]
  exact row_key k e5

set_option maxRecDepth 100000 in
set_option maxHeartbeats 1000000 in
theorem eight_any (w : World) : Calls Try.prog 77 #[] w fun e w' => e = .returned (.agg (arrA 8 (wordsV iv))) ∧ Below w.heap.size w w' := by
  go_enter Try.func77, Try.ntmps77
  go_upto_region 1 with fail
  have hz : (w.alloc (Obj.cells #[Value.int IntKind.u32 0, Value.int IntKind.u32 0, Value.int IntKind.u32 0, Value.int IntKind.u32 0, Value.int IntKind.u32 0, Value.int IntKind.u32 0, Value.int IntKind.u32 0, Value.int IntKind.u32 0] 97)).rowIs w.heap.size 97 8 (fun _ => .int .u32 0) := row_of_heap (heap_new w _)
  go_wp2_with (refine store_arr rfl 97 _ _ rfl 8 97 w.heap.size _ (wordsV iv) rfl rfl hz siz97 (fun _ => rfl) ?_)
  refine bodyPost_ret (result_arr rfl _ _ 8 38 97 w.heap.size _ rfl (rowIs_setRow hz _) und97 siz97) rfl ?_
  exact ⟨rfl, below_setRow ((Below.refl _ w).alloc (Nat.le_refl _) _) (Nat.le_refl _) _⟩

theorem or_add8 (a b k : Nat) (h : a < 2 ^ k) : a ||| (b * 2 ^ k) = a + b * 2 ^ k := by
  rw [Nat.or_comm, ← Nat.shiftLeft_eq, ← Nat.shiftLeft_add_eq_or_of_lt h, Nat.add_comm]
/-- Four bytes, the lowest one first. -/
def w4 (a b c d : Nat) : Nat := a + b * 256 + c * 65536 + d * 16777216
theorem w4_lt (a b c d : Nat) (ha : a < 256) (hb : b < 256) (hc : c < 256) (hd : d < 256) : w4 a b c d < 4294967296 := by unfold w4; omega

set_option maxRecDepth 100000 in
set_option maxHeartbeats 1000000 in
theorem byt_nat (s : ByteArray) (i : Nat) : ∃ x : Nat, byt s i = (x : Int) ∧ x < 256 := by
  have := byt_range s i
  exact ⟨(byt s i).toNat, by omega, by omega⟩

set_option maxRecDepth 100000 in
set_option maxHeartbeats 1000000 in
theorem word_any (s : ByteArray) (w : World) (hs : 4 ≤ s.size) : Calls Try.prog 114 #[.string s] w fun e w' => e = .returned (.int .u32 (w4 (byt s 0).toNat (byt s 1).toNat (byt s 2).toNat (byt s 3).toNat : Int)) ∧ Drew w w' := by
  have hs' : (4 : Int) ≤ (s.size : Int) := by omega
  have b0 := byt_at s 0
  have b1 := byt_at s 1
  have b2 := byt_at s 2
  have b3 := byt_at s 3
  obtain ⟨x0, h0, l0⟩ := byt_nat s 0
  obtain ⟨x1, h1, l1⟩ := byt_nat s 1
  obtain ⟨x2, h2, l2⟩ := byt_nat s 2
  obtain ⟨x3, h3, l3⟩ := byt_nat s 3
  rw [h0] at b0 ⊢
  rw [h1] at b1 ⊢
  rw [h2] at b2 ⊢
  rw [h3] at b3 ⊢
  have o1 : bits .or .u32 (x0 : Int) ((x1 : Int) * 256) = ((x0 + x1 * 256 : Nat) : Int) := by
    have := u32_or_nat x0 (x1 * 2 ^ 8) (by omega) (by omega)
    rw [or_add8 _ _ 8 (by omega)] at this
    rw [← this]; congr 1
  have o2 : bits .or .u32 ((x0 : Int) + (x1 : Int) * 256) ((x2 : Int) * 65536) = ((x0 + x1 * 256 + x2 * 65536 : Nat) : Int) := by
    have := u32_or_nat (x0 + x1 * 256) (x2 * 2 ^ 16) (by omega) (by omega)
    rw [or_add8 _ _ 16 (by omega)] at this
    rw [← this]; congr 1
  have o3 : bits .or .u32 ((x0 : Int) + (x1 : Int) * 256 + (x2 : Int) * 65536) ((x3 : Int) * 16777216) = ((x0 + x1 * 256 + x2 * 65536 + x3 * 16777216 : Nat) : Int) := by
    have := u32_or_nat (x0 + x1 * 256 + x2 * 65536) (x3 * 2 ^ 24) (by omega) (by omega)
    rw [or_add8 _ _ 24 (by omega)] at this
    rw [← this]; congr 1
  clear h0 h1 h2 h3
  go_enter Try.func114, Try.ntmps114
  go_wp2
  go_quiet (fail)
  go_wp2
  go_ret
  exact ⟨ret_int (by simp [w4]), Drew.draws _ _⟩
end Go.Proofs.Ytnjcganknpnjcaa
namespace Go.Proofs.Ytnjcganknpnjcaa
open Go.RowKit

set_option maxRecDepth 100000 in
set_option maxHeartbeats 1000000 in
theorem reight_any (w : World) : Calls Try.prog 103 #[] w fun e w' => e = .returned (.agg (arrA 8 (wordsV iv))) ∧ Below w.heap.size w w' := by
  go_enter Try.func103, Try.ntmps103
  go_upto_region 1 with fail
  have hz : (w.alloc (Obj.cells #[Value.int IntKind.u32 0, Value.int IntKind.u32 0, Value.int IntKind.u32 0, Value.int IntKind.u32 0, Value.int IntKind.u32 0, Value.int IntKind.u32 0, Value.int IntKind.u32 0, Value.int IntKind.u32 0] 97)).rowIs w.heap.size 97 8 (fun _ => .int .u32 0) := row_of_heap (heap_new w _)
  go_wp2_with (refine store_arr rfl 97 _ _ rfl 8 97 w.heap.size _ (wordsV iv) rfl rfl hz siz97 (fun _ => rfl) ?_)
  refine bodyPost_ret (result_arr rfl _ _ 8 38 97 w.heap.size _ rfl (rowIs_setRow hz _) und97 siz97) rfl ?_
  exact ⟨rfl, below_setRow ((Below.refl _ w).alloc (Nat.le_refl _) _) (Nat.le_refl _) _⟩

/-- A sign as a byte. -/
def sgn (x : Nat) : Nat := if x < 10 then 48 + x else 87 + x
theorem sgn_lt (x : Nat) (h : x < 16) : sgn x < 103 := by unfold sgn; split <;> omega
set_option maxRecDepth 100000 in
set_option maxHeartbeats 1000000 in
theorem place_any (x : Nat) (w : World) (h : x < 16) : Calls Try.prog 128 #[.int .u8 (sgn x : Int)] w fun e w' => e = .returned (.int .i64 (x : Int)) ∧ w' = w := by
  by_cases h1 : x < 10
  · obtain ⟨y, hy⟩ : ∃ y, sgn x = y := ⟨_, rfl⟩
    rw [hy]
    rw [sgn, if_pos h1] at hy
    have c0 : decide ((97 : Int) ≤ (y : Int)) = false := decide_eq_false (by omega)
    have e1 : (y : Int) - 48 = (x : Int) := by omega
    clear hy
    go_enter Try.func128, Try.ntmps128
    go_wp2
    go_ret
    exact ⟨ret_int (by omega), rfl⟩
  · obtain ⟨y, hy⟩ : ∃ y, sgn x = y := ⟨_, rfl⟩
    rw [hy]
    rw [sgn, if_neg h1] at hy
    have c0 : decide ((97 : Int) ≤ (y : Int)) = true := decide_eq_true (by omega)
    go_enter Try.func128, Try.ntmps128
    go_wp2
    go_ret
    exact ⟨ret_int (by omega), rfl⟩

/-- The round's row as a text. -/
def rowB (r : Nat) : ByteArray := ⟨((List.range 16).map fun j => UInt8.ofNat (sgn (sig r j))).toArray⟩
theorem rowB_size (r : Nat) : (rowB r).size = 16 := by
  show (((List.range 16).map fun j => UInt8.ofNat (sgn (sig r j))).toArray).size = 16
  simp
theorem byt_list (l : List UInt8) (j : Nat) (h : j < l.length) : byt ⟨l.toArray⟩ j = ((l[j]).toNat : Int) := by
  unfold byt
  rw [dif_pos (show j < (⟨l.toArray⟩ : ByteArray).size from by show j < l.toArray.size; simpa using h)]
  rfl
theorem rowB_at (r j : Nat) (h : j < 16) : byt (rowB r) j = (sgn (sig r j) : Int) := by
  have := sgn_lt _ (sig_lt r j)
  rw [rowB, byt_list _ _ (by simpa using h)]
  simp
  omega
theorem rows_lit : #[Value.string { data := #[48, 49, 50, 51, 52, 53, 54, 55, 56, 57, 97, 98, 99, 100, 101, 102] },
                Value.string { data := #[101, 97, 52, 56, 57, 102, 100, 54, 49, 99, 48, 50, 98, 55, 53, 51] },
                Value.string { data := #[98, 56, 99, 48, 53, 50, 102, 100, 97, 101, 51, 54, 55, 49, 57, 52] },
                Value.string { data := #[55, 57, 51, 49, 100, 99, 98, 101, 50, 54, 53, 97, 52, 48, 102, 56] },
                Value.string { data := #[57, 48, 53, 55, 50, 52, 97, 102, 101, 49, 98, 99, 54, 56, 51, 100] },
                Value.string { data := #[50, 99, 54, 97, 48, 98, 56, 51, 52, 100, 55, 53, 102, 101, 49, 57] },
                Value.string { data := #[99, 53, 49, 102, 101, 100, 52, 97, 48, 55, 54, 51, 57, 50, 56, 98] },
                Value.string { data := #[100, 98, 55, 101, 99, 49, 51, 57, 53, 48, 102, 52, 56, 54, 50, 97] },
                Value.string { data := #[54, 102, 101, 57, 98, 51, 48, 56, 99, 50, 100, 55, 49, 52, 97, 53] },
                Value.string { data := #[97, 50, 56, 52, 55, 54, 49, 53, 102, 98, 57, 101, 51, 99, 100, 48] }] = arrA 10 (fun r => Value.string (rowB r)) := by kernel_rfl
set_option maxRecDepth 100000 in
set_option maxHeartbeats 1000000 in
theorem rrows_any (w : World) : Calls Try.prog 127 #[] w fun e w' => e = .returned (.slice (some ⟨w.heap.size, 0, none⟩) 10 10) ∧ w'.rowIs w.heap.size 9 10 (fun r => .string (rowB r)) ∧ Below w.heap.size w w' := by
  go_enter Try.func127, Try.ntmps127
  go_wp2
  go_ret
  refine ⟨rfl, ?_, (Below.refl _ w).alloc (Nat.le_refl _) _⟩
  rw [rows_lit]
  exact row_of_heap (heap_new w _)
end Go.Proofs.Ytnjcganknpnjcaa
