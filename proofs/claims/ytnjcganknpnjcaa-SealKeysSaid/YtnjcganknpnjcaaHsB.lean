/- hash: mix's closure. -/
import Derived.Test.YtnjcganknpnjcaaHsP
import Derived.Deep.OwnRows
import Derived.OwnWalk
namespace Go.Proofs.Ytnjcganknpnjcaa
open Go.RowKit

theorem still_call {P : Program} {ops : Array Oper} {w : World} {Q : Act → Prop} {a : Act} {o : Oper} {rest : List Oper} {F : Nat} {args : Array Value} {v : Value} (hg : o.guard = none)
    (hrun : (execOp a.eval o).run P w = .ok (.enter F args) w) (hc : Calls P F args w fun e w' => e = .returned v ∧ w' = w) (hK : wpStill P ops w Q rest (a.put o.dst v)) : wpStill P ops w Q (o :: rest) a := by
  unfold wpStill
  rw [if_pos (by simp [Region.wanted, hg])]
  unfold Oper.still
  rw [hrun]
  exact ⟨rfl, v, hc, hK⟩

/-- The closure's captured cells, and the sixteen words. -/
structure Held (T V Cv Ca Cb Cc Cd a b c d : Nat) (v : Nat → Nat) (w : World) : Prop where
  row : w.rowIs V T 16 (wordsV v)
  words : Words v
  cv : w.cell? ⟨Cv, 0, none⟩ = some (.pointer (some ⟨V, 0, none⟩))
  ca : w.cell? ⟨Ca, 0, none⟩ = some (.int .i64 (a : Int))
  cb : w.cell? ⟨Cb, 0, none⟩ = some (.int .i64 (b : Int))
  cc : w.cell? ⟨Cc, 0, none⟩ = some (.int .i64 (c : Int))
  cd : w.cell? ⟨Cd, 0, none⟩ = some (.int .i64 (d : Int))
  nv : Cv ≠ V ∧ Ca ≠ V ∧ Cb ≠ V ∧ Cc ≠ V ∧ Cd ≠ V
theorem cell_other {w : World} {p q : Addr} {x y : Value} (h : w.cell? p = some x) (hne : p.block ≠ q.block) : ((w.setCell q y).drew).cell? p = some x :=
  (World.cell?_of_block (Go.Deep.blk_setCell_other w q y p.block hne)).trans h
theorem Held.store {T V Cv Ca Cb Cc Cd a b c d : Nat} {v : Nat → Nat} {w : World} (h : Held T V Cv Ca Cb Cc Cd a b c d v w) (i : Nat) {x : Nat} (hx : x < 4294967296) :
    Held T V Cv Ca Cb Cc Cd a b c d (upd v i x) (w.setCell ⟨V, i, none⟩ (.int .u32 (x : Int))).drew := by
  obtain ⟨n1, n2, n3, n4, n5⟩ := h.nv
  exact ⟨((h.row.set i _).drew).congr (fun k _ => upd_wordsV v i x k), h.words.upd i hx, cell_other h.cv n1, cell_other h.ca n2, cell_other h.cb n3, cell_other h.cc n4, cell_other h.cd n5, h.nv⟩

theorem grown_store {a w : World} {V : Nat} (h : a.grownBy w (some V)) (i : Nat) (x : Value) : a.grownBy (w.setCell ⟨V, i, none⟩ x).drew (some V) :=
  ⟨h.os, h.tape, h.output, by simpa [World.setCell, World.drew] using h.size, fun k hk hne => (Go.Deep.blk_setCell_other w ⟨V, i, none⟩ x k (by simpa using hne)).trans (h.block k hk hne)⟩

set_option maxRecDepth 100000 in
set_option maxHeartbeats 4000000 in
theorem half_any (T V Cv Ca Cb Cc Cd a b c d n s1 s2 : Nat) (k1 k2 : Int) (v : Nat → Nat) (w : World) (h : Held T V Cv Ca Cb Cc Cd a b c d v w) (hn : n < 4294967296)
    (hs1 : bits .and .u64 (IntKind.u64.wrap (IntKind.i64.wrap (-k1))) 31 = (s1 : Int)) (hs1a : 0 < s1) (hs1b : s1 < 32)
    (hs2 : bits .and .u64 (IntKind.u64.wrap (IntKind.i64.wrap (-k2))) 31 = (s2 : Int)) (hs2a : 0 < s2) (hs2b : s2 < 32)
    (ha : a < 16) (hb : b < 16) (hc : c < 16) (hd : d < 16) :
    Calls Try.prog 124 #[.int .u32 (n : Int), .int .i64 k1, .int .i64 k2, .pointer (some ⟨Cv, 0, none⟩), .pointer (some ⟨Ca, 0, none⟩), .pointer (some ⟨Cb, 0, none⟩), .pointer (some ⟨Cd, 0, none⟩), .pointer (some ⟨Cc, 0, none⟩)] w fun e w' => e = .returned (.tuple #[]) ∧ Held T V Cv Ca Cb Cc Cd a b c d (halfV v a b c d n s1 s2) w' ∧ w.grownBy w' (some V) := by
  have i1 : (a : Int) < 16 := by omega
  have i2 : (b : Int) < 16 := by omega
  have i3 : (d : Int) < 16 := by omega
  have i4 : (c : Int) < 16 := by omega
  go_enter Try.func124, Try.ntmps124
  go_upto_region 0 with fail
  go_cut [] (fun wx => Held T V Cv Ca Cb Cc Cd a b c d (half1 v a b n) wx ∧ w.grownBy wx (some V))
  case first =>
    have e0 := h.cv
    have e1 := h.ca
    have e2 := h.cb
    have ra : w.cell? ⟨V, a, none⟩ = some (.int .u32 (v a : Int)) := h.row.cell ha
    have rb : w.cell? ⟨V, b, none⟩ = some (.int .u32 (v b : Int)) := h.row.cell hb
    have fa := h.row.frozen a
    go_region
    have q1 : ((v a : Int) + ((v b : Int) + (n : Int))) % 4294967296 = (((v a + (v b + n)) % 4294967296 : Nat) : Int) := by omega
    rw [q1]
    go_wp2
    go_meet
    exact ⟨h.store a (Nat.mod_lt _ (by omega)), grown_store (World.grownBy.refl w (some V)) a _⟩
  case rest =>
    obtain ⟨m1, g1⟩ := hcut
    obtain ⟨v1, hv1⟩ : ∃ v1, half1 v a b n = v1 := ⟨_, rfl⟩
    rw [hv1] at m1
    go_upto_region 1 with fail
    go_cut [] (fun wx => Held T V Cv Ca Cb Cc Cd a b c d (half2 v1 a d s1) wx ∧ w.grownBy wx (some V))
    case first =>
      have e0 := m1.cv
      have e1 := m1.ca
      have e4 := m1.cd
      have ra : wc.cell? ⟨V, a, none⟩ = some (.int .u32 (v1 a : Int)) := m1.row.cell ha
      have rd : wc.cell? ⟨V, d, none⟩ = some (.int .u32 (v1 d : Int)) := m1.row.cell hd
      have fd := m1.row.frozen d
      have b1 := u32_xor_nat _ _ (m1.words d) (m1.words a)
      have xx : v1 d ^^^ v1 a < 4294967296 := Nat.xor_lt_two_pow (n := 32) (m1.words d) (m1.words a)
      go_wp2
      refine wp_region_still_tail 18 (by kernel_rfl) (by kernel_rfl) ?_
      change wpStill _ _ wc.drew (fun a' => wpList _ _ _ _ a' wc.drew) _ _
      simp only [List.take_succ_cons, List.take_zero, List.drop_succ_cons, List.drop_zero]
      repeat still_step
      refine still_call (F := 110) rfl (by go_simp) (rot_any (v1 d ^^^ v1 a) s1 (IntKind.i64.wrap (-k1)) wc.drew xx hs1 hs1a hs1b) ?_
      simp only [Act.put, Array.setIfInBounds, List.size_toArray, List.set_toArray, List.set_cons_succ, List.set_cons_zero]
      repeat still_step
      try refine wpStill_nil ?_
      go_wp2
      go_meet
      exact ⟨m1.store d (rotl_lt _ _ hs1a hs1b xx), grown_store g1 d _⟩
    case rest =>
      obtain ⟨m2, g2⟩ := hcut
      obtain ⟨v2, hv2⟩ : ∃ v2, half2 v1 a d s1 = v2 := ⟨_, rfl⟩
      rw [hv2] at m2
      clear m1 g1
      go_upto_region 2 with fail
      go_cut [] (fun wx => Held T V Cv Ca Cb Cc Cd a b c d (half1 v2 c d 0) wx ∧ w.grownBy wx (some V))
      case first =>
        have e0 := m2.cv
        have e3 := m2.cc
        have e4 := m2.cd
        have rc : wc.cell? ⟨V, c, none⟩ = some (.int .u32 (v2 c : Int)) := m2.row.cell hc
        have rd : wc.cell? ⟨V, d, none⟩ = some (.int .u32 (v2 d : Int)) := m2.row.cell hd
        have fc := m2.row.frozen c
        go_region
        have q3 : ((v2 c : Int) + (v2 d : Int)) % 4294967296 = (((v2 c + (v2 d + 0)) % 4294967296 : Nat) : Int) := by omega
        rw [q3]
        go_wp2
        go_meet
        exact ⟨m2.store c (Nat.mod_lt _ (by omega)), grown_store g2 c _⟩
      case rest =>
        obtain ⟨m3, g3⟩ := hcut
        obtain ⟨v3, hv3⟩ : ∃ v3, half1 v2 c d 0 = v3 := ⟨_, rfl⟩
        rw [hv3] at m3
        have hfin : half2 v3 c b s2 = halfV v a b c d n s1 s2 := by rw [← hv3, ← hv2, ← hv1]; rfl
        clear m2 g2 hv3 hv2 hv1
        have Hfin := Lib.hid hfin
        clear hfin
        have e0 := m3.cv
        have e2 := m3.cb
        have e3 := m3.cc
        have rb : wc.cell? ⟨V, b, none⟩ = some (.int .u32 (v3 b : Int)) := m3.row.cell hb
        have rc : wc.cell? ⟨V, c, none⟩ = some (.int .u32 (v3 c : Int)) := m3.row.cell hc
        have fb := m3.row.frozen b
        have b1 := u32_xor_nat _ _ (m3.words b) (m3.words c)
        have xx : v3 b ^^^ v3 c < 4294967296 := Nat.xor_lt_two_pow (n := 32) (m3.words b) (m3.words c)
        go_wp2
        refine wp_region_still_tail 18 (by kernel_rfl) (by kernel_rfl) ?_
        change wpStill _ _ wc.drew (fun a' => wpList _ _ _ _ a' wc.drew) _ _
        simp only [List.take_succ_cons, List.take_zero, List.drop_succ_cons, List.drop_zero]
        repeat still_step
        refine still_call (F := 110) rfl (by go_simp) (rot_any (v3 b ^^^ v3 c) s2 (IntKind.i64.wrap (-k2)) wc.drew xx hs2 hs2a hs2b) ?_
        simp only [Act.put, Array.setIfInBounds, List.size_toArray, List.set_toArray, List.set_cons_succ, List.set_cons_zero]
        repeat still_step
        try refine wpStill_nil ?_
        go_wp2
        go_end0
        have m4 := m3.store b (rotl_lt _ _ hs2a hs2b xx)
        exact ⟨rfl, by rw [← Hfin.out]; exact m4, grown_store g3 b _⟩
end Go.Proofs.Ytnjcganknpnjcaa
