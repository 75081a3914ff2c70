/- hash: the reference's mix. -/
import Derived.Test.YtnjcganknpnjcaaHsC
import Derived.Test.YtnjcganknpnjcaaHsR
namespace Go.Proofs.Ytnjcganknpnjcaa
open Go.RowKit

structure RMix (B : Nat) (v : Nat → Nat) (w wx : World) : Prop where
  row : wx.rowIs B 129 16 (wordsV v)
  words : Words v
  res : wx.rowIs (B + 1) 129 16 (fun _ => .int .u32 0)
  below : Below B w wx
theorem RMix.store {B : Nat} {v : Nat → Nat} {w wx : World} (h : RMix B v w wx) (i : Nat) {x : Nat} (hx : x < 4294967296) :
    RMix B (upd v i x) w (wx.setCell ⟨B, i, none⟩ (.int .u32 (x : Int))).drew :=
  ⟨((h.row.set i _).drew).congr (fun k _ => upd_wordsV v i x k), h.words.upd i hx, (h.res.setOther (by simp) _).drew, (h.below.setCell (p := ⟨B, i, none⟩) (Nat.le_refl _) _).drew⟩

set_option maxRecDepth 100000 in
set_option maxHeartbeats 4000000 in
theorem rmix_any (a b c d x y : Nat) (v0 : Nat → Nat) (w : World) (hw : Words v0) (hx : x < 4294967296) (hy : y < 4294967296)
    (ha : a < 16) (hb : b < 16) (hc : c < 16) (hd : d < 16) :
    Calls Try.prog 129 #[.agg (arrA 16 (wordsV v0)), .int .i64 (a : Int), .int .i64 (b : Int), .int .i64 (c : Int), .int .i64 (d : Int), .int .u32 (x : Int), .int .u32 (y : Int)] w fun e w' =>
      e = .returned (.agg (arrA 16 (wordsV (mixV v0 a b c d x y)))) ∧ Below w.heap.size w w' := by
  have i1 : (a : Int) < 16 := by omega
  have i2 : (b : Int) < 16 := by omega
  have i3 : (d : Int) < 16 := by omega
  have i4 : (c : Int) < 16 := by omega
  go_enter Try.func129, Try.ntmps129
  go_upto_region 1 with fail
  obtain ⟨W, hW⟩ : ∃ W, ((w.alloc (Obj.cells (arrA 16 (wordsV v0)) 129)).alloc (Obj.cells #[Value.int IntKind.u32 0, Value.int IntKind.u32 0, Value.int IntKind.u32 0, Value.int IntKind.u32 0, Value.int IntKind.u32 0, Value.int IntKind.u32 0, Value.int IntKind.u32 0, Value.int IntKind.u32 0, Value.int IntKind.u32 0, Value.int IntKind.u32 0, Value.int IntKind.u32 0, Value.int IntKind.u32 0, Value.int IntKind.u32 0, Value.int IntKind.u32 0, Value.int IntKind.u32 0, Value.int IntKind.u32 0] 129)) = W := ⟨_, rfl⟩
  rw [hW]
  have m0 : RMix w.heap.size v0 w W := by
    rw [← hW]
    refine ⟨row_of_heap (heap_old (heap_new w _) _), hw, ?_, ((Below.refl _ w).alloc (Nat.le_refl _) _).alloc (by simp) _⟩
    have := heap_new (w.alloc (Obj.cells (arrA 16 (wordsV v0)) 129)) (Obj.cells #[Value.int IntKind.u32 0, Value.int IntKind.u32 0, Value.int IntKind.u32 0, Value.int IntKind.u32 0, Value.int IntKind.u32 0, Value.int IntKind.u32 0, Value.int IntKind.u32 0, Value.int IntKind.u32 0, Value.int IntKind.u32 0, Value.int IntKind.u32 0, Value.int IntKind.u32 0, Value.int IntKind.u32 0, Value.int IntKind.u32 0, Value.int IntKind.u32 0, Value.int IntKind.u32 0, Value.int IntKind.u32 0] 129)
    rw [World.size_alloc] at this
    exact row_of_heap this
  clear hW
  go_cut [] (fun wx => RMix w.heap.size (half1 v0 a b x) w wx)
  case first =>
    have r1 : W.cell? ⟨w.heap.size, a, none⟩ = some (.int .u32 (v0 a : Int)) := m0.row.cell ha
    have r2 : W.cell? ⟨w.heap.size, b, none⟩ = some (.int .u32 (v0 b : Int)) := m0.row.cell hb
    have fr := m0.row.frozen a
    go_region
    have q : ((v0 a : Int) + (v0 b : Int) + (x : Int)) % 4294967296 = (((v0 a + (v0 b + x)) % 4294967296 : Nat) : Int) := by omega
    rw [q]
    go_wp2
    go_meet
    exact m0.store a (Nat.mod_lt _ (by omega))
  case rest =>
    obtain ⟨v1, hv1⟩ : ∃ v1, half1 v0 a b x = v1 := ⟨_, rfl⟩
    have m1 := hcut
    rw [hv1] at m1
    clear hcut m0
    go_upto_region 2 with fail
    go_cut [] (fun wx => RMix w.heap.size (half2 v1 a d 16) w wx)
    case first =>
      have r1 : wc.cell? ⟨w.heap.size, a, none⟩ = some (.int .u32 (v1 a : Int)) := m1.row.cell ha
      have r2 : wc.cell? ⟨w.heap.size, d, none⟩ = some (.int .u32 (v1 d : Int)) := m1.row.cell hd
      have fr := m1.row.frozen d
      have b1 := u32_xor_nat _ _ (m1.words d) (m1.words a)
      have xx : v1 d ^^^ v1 a < 4294967296 := Nat.xor_lt_two_pow (n := 32) (m1.words d) (m1.words a)
      go_wp2
      refine wp_region_still_tail 10 (by kernel_rfl) (by kernel_rfl) ?_
      change wpStill _ _ wc.drew (fun a' => wpList _ _ _ _ a' wc.drew) _ _
      simp only [List.take_succ_cons, List.take_zero, List.drop_succ_cons, List.drop_zero]
      repeat still_step
      refine still_call (F := 132) rfl (by go_simp) (turned_any (v1 d ^^^ v1 a) 16 wc.drew xx (by omega) (by omega)) ?_
      simp only [Act.put, Array.setIfInBounds, List.size_toArray, List.set_toArray, List.set_cons_succ, List.set_cons_zero]
      repeat still_step
      try refine wpStill_nil ?_
      go_wp2
      go_meet
      exact m1.store d (rotl_lt _ _ (by omega) (by omega) xx)
    case rest =>
      obtain ⟨v2, hv2⟩ : ∃ v2, half2 v1 a d 16 = v2 := ⟨_, rfl⟩
      have m2 := hcut
      rw [hv2] at m2
      clear hcut m1
      go_upto_region 3 with fail
      go_cut [] (fun wx => RMix w.heap.size (half1 v2 c d 0) w wx)
      case first =>
        have r1 : wc.cell? ⟨w.heap.size, c, none⟩ = some (.int .u32 (v2 c : Int)) := m2.row.cell hc
        have r2 : wc.cell? ⟨w.heap.size, d, none⟩ = some (.int .u32 (v2 d : Int)) := m2.row.cell hd
        have fr := m2.row.frozen c
        go_region
        have q : ((v2 c : Int) + (v2 d : Int)) % 4294967296 = (((v2 c + (v2 d + 0)) % 4294967296 : Nat) : Int) := by omega
        rw [q]
        go_wp2
        go_meet
        exact m2.store c (Nat.mod_lt _ (by omega))
      case rest =>
        obtain ⟨v3, hv3⟩ : ∃ v3, half1 v2 c d 0 = v3 := ⟨_, rfl⟩
        have m3 := hcut
        rw [hv3] at m3
        clear hcut m2
        go_upto_region 4 with fail
        go_cut [] (fun wx => RMix w.heap.size (half2 v3 c b 20) w wx)
        case first =>
          have r1 : wc.cell? ⟨w.heap.size, c, none⟩ = some (.int .u32 (v3 c : Int)) := m3.row.cell hc
          have r2 : wc.cell? ⟨w.heap.size, b, none⟩ = some (.int .u32 (v3 b : Int)) := m3.row.cell hb
          have fr := m3.row.frozen b
          have b1 := u32_xor_nat _ _ (m3.words b) (m3.words c)
          have xx : v3 b ^^^ v3 c < 4294967296 := Nat.xor_lt_two_pow (n := 32) (m3.words b) (m3.words c)
          go_wp2
          refine wp_region_still_tail 10 (by kernel_rfl) (by kernel_rfl) ?_
          change wpStill _ _ wc.drew (fun a' => wpList _ _ _ _ a' wc.drew) _ _
          simp only [List.take_succ_cons, List.take_zero, List.drop_succ_cons, List.drop_zero]
          repeat still_step
          refine still_call (F := 132) rfl (by go_simp) (turned_any (v3 b ^^^ v3 c) 12 wc.drew xx (by omega) (by omega)) ?_
          simp only [Act.put, Array.setIfInBounds, List.size_toArray, List.set_toArray, List.set_cons_succ, List.set_cons_zero]
          repeat still_step
          try refine wpStill_nil ?_
          go_wp2
          go_meet
          exact m3.store b (rotl_lt _ _ (by omega) (by omega) xx)
        case rest =>
          obtain ⟨v4, hv4⟩ : ∃ v4, half2 v3 c b 20 = v4 := ⟨_, rfl⟩
          have m4 := hcut
          rw [hv4] at m4
          clear hcut m3
          go_upto_region 5 with fail
          go_cut [] (fun wx => RMix w.heap.size (half1 v4 a b y) w wx)
          case first =>
            have r1 : wc.cell? ⟨w.heap.size, a, none⟩ = some (.int .u32 (v4 a : Int)) := m4.row.cell ha
            have r2 : wc.cell? ⟨w.heap.size, b, none⟩ = some (.int .u32 (v4 b : Int)) := m4.row.cell hb
            have fr := m4.row.frozen a
            go_region
            have q : ((v4 a : Int) + (v4 b : Int) + (y : Int)) % 4294967296 = (((v4 a + (v4 b + y)) % 4294967296 : Nat) : Int) := by omega
            rw [q]
            go_wp2
            go_meet
            exact m4.store a (Nat.mod_lt _ (by omega))
          case rest =>
            obtain ⟨v5, hv5⟩ : ∃ v5, half1 v4 a b y = v5 := ⟨_, rfl⟩
            have m5 := hcut
            rw [hv5] at m5
            clear hcut m4
            go_upto_region 6 with fail
            go_cut [] (fun wx => RMix w.heap.size (half2 v5 a d 24) w wx)
            case first =>
              have r1 : wc.cell? ⟨w.heap.size, a, none⟩ = some (.int .u32 (v5 a : Int)) := m5.row.cell ha
              have r2 : wc.cell? ⟨w.heap.size, d, none⟩ = some (.int .u32 (v5 d : Int)) := m5.row.cell hd
              have fr := m5.row.frozen d
              have b1 := u32_xor_nat _ _ (m5.words d) (m5.words a)
              have xx : v5 d ^^^ v5 a < 4294967296 := Nat.xor_lt_two_pow (n := 32) (m5.words d) (m5.words a)
              go_wp2
              refine wp_region_still_tail 10 (by kernel_rfl) (by kernel_rfl) ?_
              change wpStill _ _ wc.drew (fun a' => wpList _ _ _ _ a' wc.drew) _ _
              simp only [List.take_succ_cons, List.take_zero, List.drop_succ_cons, List.drop_zero]
              repeat still_step
              refine still_call (F := 132) rfl (by go_simp) (turned_any (v5 d ^^^ v5 a) 8 wc.drew xx (by omega) (by omega)) ?_
              simp only [Act.put, Array.setIfInBounds, List.size_toArray, List.set_toArray, List.set_cons_succ, List.set_cons_zero]
              repeat still_step
              try refine wpStill_nil ?_
              go_wp2
              go_meet
              exact m5.store d (rotl_lt _ _ (by omega) (by omega) xx)
            case rest =>
              obtain ⟨v6, hv6⟩ : ∃ v6, half2 v5 a d 24 = v6 := ⟨_, rfl⟩
              have m6 := hcut
              rw [hv6] at m6
              clear hcut m5
              go_upto_region 7 with fail
              go_cut [] (fun wx => RMix w.heap.size (half1 v6 c d 0) w wx)
              case first =>
                have r1 : wc.cell? ⟨w.heap.size, c, none⟩ = some (.int .u32 (v6 c : Int)) := m6.row.cell hc
                have r2 : wc.cell? ⟨w.heap.size, d, none⟩ = some (.int .u32 (v6 d : Int)) := m6.row.cell hd
                have fr := m6.row.frozen c
                go_region
                have q : ((v6 c : Int) + (v6 d : Int)) % 4294967296 = (((v6 c + (v6 d + 0)) % 4294967296 : Nat) : Int) := by omega
                rw [q]
                go_wp2
                go_meet
                exact m6.store c (Nat.mod_lt _ (by omega))
              case rest =>
                obtain ⟨v7, hv7⟩ : ∃ v7, half1 v6 c d 0 = v7 := ⟨_, rfl⟩
                have m7 := hcut
                rw [hv7] at m7
                clear hcut m6
                go_upto_region 8 with fail
                go_cut [] (fun wx => RMix w.heap.size (half2 v7 c b 25) w wx)
                case first =>
                  have r1 : wc.cell? ⟨w.heap.size, c, none⟩ = some (.int .u32 (v7 c : Int)) := m7.row.cell hc
                  have r2 : wc.cell? ⟨w.heap.size, b, none⟩ = some (.int .u32 (v7 b : Int)) := m7.row.cell hb
                  have fr := m7.row.frozen b
                  have b1 := u32_xor_nat _ _ (m7.words b) (m7.words c)
                  have xx : v7 b ^^^ v7 c < 4294967296 := Nat.xor_lt_two_pow (n := 32) (m7.words b) (m7.words c)
                  go_wp2
                  refine wp_region_still_tail 10 (by kernel_rfl) (by kernel_rfl) ?_
                  change wpStill _ _ wc.drew (fun a' => wpList _ _ _ _ a' wc.drew) _ _
                  simp only [List.take_succ_cons, List.take_zero, List.drop_succ_cons, List.drop_zero]
                  repeat still_step
                  refine still_call (F := 132) rfl (by go_simp) (turned_any (v7 b ^^^ v7 c) 7 wc.drew xx (by omega) (by omega)) ?_
                  simp only [Act.put, Array.setIfInBounds, List.size_toArray, List.set_toArray, List.set_cons_succ, List.set_cons_zero]
                  repeat still_step
                  try refine wpStill_nil ?_
                  go_wp2
                  go_meet
                  exact m7.store b (rotl_lt _ _ (by omega) (by omega) xx)
                case rest =>
                  obtain ⟨v8, hv8⟩ : ∃ v8, half2 v7 c b 25 = v8 := ⟨_, rfl⟩
                  have m8 := hcut
                  rw [hv8] at m8
                  clear hcut m7
                  have hfin : v8 = mixV v0 a b c d x y := by rw [← hv8, ← hv7, ← hv6, ← hv5, ← hv4, ← hv3, ← hv2, ← hv1]; rfl
                  have Hfin := Lib.hid hfin
                  clear hfin hv8 hv7 hv6 hv5 hv4 hv3 hv2 hv1
                  go_wp2_with (first | (refine load_arr rfl 129 _ rfl 16 38 129 w.heap.size _ rfl m8.row und129 siz129 ?_) | (refine store_arr rfl 129 _ _ rfl 16 129 (w.heap.size + 1) _ _ rfl rfl m8.res siz129 (fun _ => rfl) ?_))
                  refine bodyPost_ret (result_arr rfl _ _ 16 38 129 (w.heap.size + 1) _ rfl (rowIs_setRow m8.res _) und129 siz129) rfl ?_
                  exact ⟨by rw [← Hfin.out], below_setRow m8.below (by omega) _⟩
end Go.Proofs.Ytnjcganknpnjcaa
