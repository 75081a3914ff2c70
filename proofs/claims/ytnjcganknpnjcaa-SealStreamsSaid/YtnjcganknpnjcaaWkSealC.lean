/- The walk of SealStreams. -/
import Derived.Test.YtnjcganknpnjcaaGm
set_option linter.unusedVariables false
set_option linter.unusedSimpArgs false
namespace Go.Proofs.Ytnjcganknpnjcaa
open Go.RowKit
set_option maxRecDepth 100000 in
set_option maxHeartbeats 4000000 in
theorem SealStreams_walk (kb : Nat → Nat) (hk : Bytes kb) (nb : Nat → Nat) (hn : Bytes nb) (a : ByteArray) (_ : a.size ≤ maxLen) (b : ByteArray) (_ : b.size ≤ maxLen) (w : World) :
    Calls Try.prog 17 #[.agg (arrA 32 (bytesV kb)), .agg (arrA 12 (bytesV nb)), .string a, .string b] w fun e w' => e = .returned (.bool true) ∧ Below w.heap.size w w' := by
  by_cases h1 : a.size ≤ 300
  · have t0 : decide ((300 : Int) < (a.size : Int)) = false := decide_eq_false (by omega)
    by_cases h2 : b.size ≤ 300
    · have t1 : decide ((300 : Int) < (b.size : Int)) = false := decide_eq_false (by omega)
      have c1 := fun W => seal_any kb nb ⟨#[111, 110, 101]⟩ a W hk hn (by decide) (by omega)
      have c2 := fun W => seal_any kb nb ⟨#[116, 119, 111]⟩ b W hk hn (by decide) (by omega)
      have hxs := sealV_size kb nb ⟨#[111, 110, 101]⟩ a
      have hys := sealV_size kb nb ⟨#[116, 119, 111]⟩ b
      have hx := sealV_byt kb nb ⟨#[111, 110, 101]⟩ a
      have hy' := sealV_byt kb nb ⟨#[116, 119, 111]⟩ b
      obtain ⟨x, ex⟩ : ∃ x, sealV kb nb ⟨#[111, 110, 101]⟩ a = x := ⟨_, rfl⟩
      obtain ⟨y, ey⟩ : ∃ y, sealV kb nb ⟨#[116, 119, 111]⟩ b = y := ⟨_, rfl⟩
      rw [ex] at c1 hxs hx
      rw [ey] at c2 hys hy'
      have e1 : (x.size : Int) = (a.size : Int) + 44 := by omega
      have e2 : (y.size : Int) = (b.size : Int) + 44 := by omega
      have e3 : wrap64 ((a.size : Int) + 44) = (a.size : Int) + 44 := by unfold wrap64; omega
      have e4 : wrap64 ((b.size : Int) + 44) = (b.size : Int) + 44 := by unfold wrap64; omega
      have hs1 : (Try.prog.info? 34).map (·.size) = some (List.map (bytesV kb) (List.range 32)).length := by rw [siz34]; simp
      have hs2 : (Try.prog.info? 49).map (·.size) = some (List.map (bytesV nb) (List.range 12)).length := by rw [siz49]; simp
      have Hxs := Lib.hid hxs
      have Hys := Lib.hid hys
      have Hx := Lib.hid hx
      have Hy' := Lib.hid hy'
      clear ex ey hxs hys hx hy'
      go_enter Try.func17, Try.ntmps17
      have a0 : World.rowIs ((w.alloc (Obj.cells (arrA 32 (bytesV kb)) 34)).alloc (Obj.cells (arrA 12 (bytesV nb)) 49)) w.heap.size 34 32 (bytesV kb) := (row_of_heap (heap_new w _)).alloc _
      have a1 : World.rowIs ((w.alloc (Obj.cells (arrA 32 (bytesV kb)) 34)).alloc (Obj.cells (arrA 12 (bytesV nb)) 49)) (w.heap.size + 1) 49 12 (bytesV nb) := by
        have := heap_new (w.alloc (Obj.cells (arrA 32 (bytesV kb)) 34)) (Obj.cells (arrA 12 (bytesV nb)) 49)
        rw [World.size_alloc] at this
        exact row_of_heap this
      have a2 : Below w.heap.size w ((w.alloc (Obj.cells (arrA 32 (bytesV kb)) 34)).alloc (Obj.cells (arrA 12 (bytesV nb)) 49)) := ((Below.refl _ w).alloc (Nat.le_refl _) _).alloc (by simp) _
      go_upto_region 1 with fail
      obtain ⟨W0, hW0⟩ : ∃ W0, ((w.alloc (Obj.cells (arrA 32 (bytesV kb)) 34)).alloc (Obj.cells (arrA 12 (bytesV nb)) 49)) = W0 := ⟨_, rfl⟩
      rw [hW0] at a0 a1 a2 ⊢
      clear hW0
      have q0 : SQ w.heap.size kb nb w W0 := ⟨a0, a1, a2⟩
      clear a0 a1 a2
      go_upto_region 3 with fail
      have t1' : SQ w.heap.size kb nb w W0.drew := ⟨q0.kr.drew, q0.nr.drew, q0.below.drew⟩
      clear q0
      refine wp_region_held_drew (S := fun w' => SQ w.heap.size kb nb w w') (by kernel_rfl) t1' (fun hH => ?_)
      clear t1'
      refine wpAnyH_take (i := 0) rfl (by kernel_rfl) (by kernel_rfl) (by kernel_rfl) (fun _ _ _ h => h) (yieldsIf_load_mid (by rfl) 34 (.tmp 4) rfl w.heap.size 0 rfl (List.map (bytesV kb) (List.range 32)) _ (fun w' hw' => range_row hw'.kr) und34 rfl hs1) hH ?_
      try simp only [Act.put, List.setIfInBounds_toArray, List.set_cons_zero, List.set_cons_succ, List.getElem_toArray, List.getElem_cons_zero, List.getElem_cons_succ]
      refine wpAnyH_take (i := 1) rfl (by kernel_rfl) (by kernel_rfl) (by kernel_rfl) (fun _ _ _ h => h) (yieldsIf_load_mid (by rfl) 49 (.tmp 5) rfl (w.heap.size + 1) 0 rfl (List.map (bytesV nb) (List.range 12)) _ (fun w' hw' => range_row hw'.nr) und49 rfl hs2) hH ?_
      try simp only [Act.put, List.setIfInBounds_toArray, List.set_cons_zero, List.set_cons_succ, List.getElem_toArray, List.getElem_cons_zero, List.getElem_cons_succ]
      refine wpAnyH_take (i := 2) (v := .string a) rfl (by kernel_rfl) (by kernel_rfl) (by kernel_rfl) (fun _ _ _ h => h) (Or.inl ⟨by rfl, fun w' hw' => by go_simp⟩) hH ?_
      try simp only [Act.put, List.setIfInBounds_toArray, List.set_cons_zero, List.set_cons_succ, List.getElem_toArray, List.getElem_cons_zero, List.getElem_cons_succ]
      refine wpAnyH_take (i := 4) rfl (by kernel_rfl) (by kernel_rfl) (by kernel_rfl) (fun _ _ _ h => h) (yieldsIf_load_mid (by rfl) 34 (.tmp 4) rfl w.heap.size 0 rfl (List.map (bytesV kb) (List.range 32)) _ (fun w' hw' => range_row hw'.kr) und34 rfl hs1) hH ?_
      try simp only [Act.put, List.setIfInBounds_toArray, List.set_cons_zero, List.set_cons_succ, List.getElem_toArray, List.getElem_cons_zero, List.getElem_cons_succ]
      refine wpAnyH_take (i := 5) rfl (by kernel_rfl) (by kernel_rfl) (by kernel_rfl) (fun _ _ _ h => h) (yieldsIf_load_mid (by rfl) 49 (.tmp 5) rfl (w.heap.size + 1) 0 rfl (List.map (bytesV nb) (List.range 12)) _ (fun w' hw' => range_row hw'.nr) und49 rfl hs2) hH ?_
      try simp only [Act.put, List.setIfInBounds_toArray, List.set_cons_zero, List.set_cons_succ, List.getElem_toArray, List.getElem_cons_zero, List.getElem_cons_succ]
      refine wpAnyH_take (i := 6) (v := .string b) rfl (by kernel_rfl) (by kernel_rfl) (by kernel_rfl) (fun _ _ _ h => h) (Or.inl ⟨by rfl, fun w' hw' => by go_simp⟩) hH ?_
      try simp only [Act.put, List.setIfInBounds_toArray, List.set_cons_zero, List.set_cons_succ, List.getElem_toArray, List.getElem_cons_zero, List.getElem_cons_succ]
      refine wpAnyH_ready (rs := [3]) (by kernel_rfl) (by simp) ?_
      refine AllReadyH.cons rfl (fun K hK => ?_) AllReadyH.nil
      go_simp
      go_at_call 38
      refine (c1 _).mono ?_
      rintro e wy ⟨rfl, hbwy⟩
      refine hK.out _ _ (hH.past hbwy) (fun hy => ?_)
      clear hK K
      try simp only [Act.put, List.setIfInBounds_toArray, List.set_cons_zero, List.set_cons_succ, List.getElem_toArray, List.getElem_cons_zero, List.getElem_cons_succ]
      refine wpAnyH_ready (rs := [7]) (by kernel_rfl) (by simp) ?_
      refine AllReadyH.cons rfl (fun K hK => ?_) AllReadyH.nil
      go_simp
      go_at_call 38
      refine (c2 _).mono ?_
      rintro e wz ⟨rfl, hbwz⟩
      refine hK.out _ _ (hy.past hbwz) (fun hz => ?_)
      clear hK K
      try simp only [Act.put, List.setIfInBounds_toArray, List.set_cons_zero, List.set_cons_succ, List.getElem_toArray, List.getElem_cons_zero, List.getElem_cons_succ]
      refine wpAnyH_take (i := 8) (v := .string x) rfl (by kernel_rfl) (by kernel_rfl) (by kernel_rfl) (fun _ _ _ h => h) (Or.inl ⟨by rfl, fun w' hw' => by go_simp⟩) hz ?_
      try simp only [Act.put, List.setIfInBounds_toArray, List.set_cons_zero, List.set_cons_succ, List.getElem_toArray, List.getElem_cons_zero, List.getElem_cons_succ]
      refine wpAnyH_take (i := 9) (v := .string y) rfl (by kernel_rfl) (by kernel_rfl) (by kernel_rfl) (fun _ _ _ h => h) (Or.inl ⟨by rfl, fun w' hw' => by go_simp⟩) hz ?_
      try simp only [Act.put, List.setIfInBounds_toArray, List.set_cons_zero, List.set_cons_succ, List.getElem_toArray, List.getElem_cons_zero, List.getElem_cons_succ]
      refine wpAnyH_done (by kernel_rfl) ?_ _
      clear hs1 hs2 hy hH
      go_wp2_with fail
      go_loopw [11] (fun v wx => ∃ i : Nat, i ≤ a.size ∧ i ≤ b.size ∧ v = .int .i64 (i : Int) ∧ SQ w.heap.size kb nb w wx) (fun v _ => a.size - (intOf v).toNat)
      case atStart => exact ⟨0, by omega, by omega, rfl, hz⟩
      case round =>
        clear hz
        obtain ⟨i, hia, hib, rfl, q⟩ := hrel
        by_cases ha : i < a.size
        · have d1 : decide ((i : Int) < (a.size : Int)) = true := decide_eq_true (by omega)
          by_cases hb : i < b.size
          · have d2 : decide ((i : Int) < (b.size : Int)) = true := decide_eq_true (by omega)
            have d3 : (i : Int) < (a.size : Int) := by omega
            have d4 : (i : Int) < (b.size : Int) := by omega
            obtain ⟨k, hk12⟩ : ∃ k, 12 + i = k := ⟨_, rfl⟩
            have d5 : IntKind.i64.wrap (12 + (i : Int)) = (k : Int) := by rw [IntWalk.i64_in _ (by omega)]; omega
            have d6 : (k : Int) < (x.size : Int) := by omega
            have d7 : (k : Int) < (y.size : Int) := by omega
            have d8 : (k : Int) < (a.size : Int) + 44 := by omega
            have d9 : (k : Int) < (b.size : Int) + 44 := by omega
            have k1 : k < x.size := by omega
            have k2 : k < y.size := by omega
            have bx := byt_at x k
            have by' := byt_at y k
            have ba := byt_at a i
            have bb := byt_at b i
            have vx := Hx.out i ha
            have vy := Hy'.out i hb
            rw [hk12] at vx vy
            obtain ⟨p, hp, lp⟩ := byt_nat a i
            obtain ⟨r, hr, lr⟩ := byt_nat b i
            have sl := strm_lt (keyedV kb wCip) nb 1 i
            obtain ⟨s, hs⟩ : ∃ s, strm (keyedV kb wCip) nb 1 i = s := ⟨_, rfl⟩
            rw [hs, hp, Int.toNat_natCast] at vx
            rw [hs, hr, Int.toNat_natCast] at vy
            rw [hs] at sl
            have lps : p ^^^ s < 256 := Nat.xor_lt_two_pow (n := 8) lp sl
            have lrs : r ^^^ s < 256 := Nat.xor_lt_two_pow (n := 8) lr sl
            have x1 := u8_xor_nat (p ^^^ s) (r ^^^ s) lps lrs
            have x2 := u8_xor_nat p r lp lr
            have x3 : (p ^^^ s) ^^^ (r ^^^ s) = p ^^^ r := by
              rw [Nat.xor_comm r s, Nat.xor_assoc, ← Nat.xor_assoc s s r, Nat.xor_self, Nat.zero_xor]
            rw [x3] at x1
            obtain ⟨ps, hps⟩ : ∃ ps, p ^^^ s = ps := ⟨_, rfl⟩
            obtain ⟨rs, hrs⟩ : ∃ rs, r ^^^ s = rs := ⟨_, rfl⟩
            obtain ⟨z, hz⟩ : ∃ z, p ^^^ r = z := ⟨_, rfl⟩
            rw [hps] at x1 vx
            rw [hrs] at x1 vy
            rw [hz] at x1 x2
            rw [vx] at bx
            rw [vy] at by'
            rw [hp] at ba
            rw [hr] at bb
            clear vx vy hp hr hs hps hrs hz x3 hk12
            go_wp2_with fail
            go_quiet (fail)
            go_wp2
            go_roundw
            case rel => exact ⟨i + 1, by omega, by omega, by go_num, ⟨q.kr, q.nr, below_drewN q.below _⟩⟩
            case measure => simp [intOf]; omega
          · have d2 : decide ((i : Int) < (b.size : Int)) = false := decide_eq_false (by omega)
            go_wp2_with fail
            refine (awakeS_any _).mono ?_
            rintro e w6 ⟨rfl, hb6⟩
            have q6 := q.past hb6
            go_wp2
            go_ret
            exact ⟨rfl, q6.below⟩
        · have d1 : decide ((i : Int) < (a.size : Int)) = false := decide_eq_false (by omega)
          go_wp2_with fail
          refine (awakeS_any _).mono ?_
          rintro e w6 ⟨rfl, hb6⟩
          have q6 := q.past hb6
          go_wp2
          go_ret
          exact ⟨rfl, q6.below⟩
    · have t1 : decide ((300 : Int) < (b.size : Int)) = true := decide_eq_true (by omega)
      go_enter Try.func17, Try.ntmps17
      have a2 : Below w.heap.size w ((w.alloc (Obj.cells (arrA 32 (bytesV kb)) 34)).alloc (Obj.cells (arrA 12 (bytesV nb)) 49)) := ((Below.refl _ w).alloc (Nat.le_refl _) _).alloc (by simp) _
      go_wp2_with fail
      refine (awakeS_any _).mono ?_
      rintro e w1 ⟨rfl, hb1⟩
      have c2 := a2.trans (hb1.mono a2.size)
      go_wp2
      go_ret
      exact ⟨rfl, c2⟩
  · have t0 : decide ((300 : Int) < (a.size : Int)) = true := decide_eq_true (by omega)
    go_enter Try.func17, Try.ntmps17
    have a2 : Below w.heap.size w ((w.alloc (Obj.cells (arrA 32 (bytesV kb)) 34)).alloc (Obj.cells (arrA 12 (bytesV nb)) 49)) := ((Below.refl _ w).alloc (Nat.le_refl _) _).alloc (by simp) _
    go_wp2_with fail
    refine (awakeS_any _).mono ?_
    rintro e w1 ⟨rfl, hb1⟩
    have c2 := a2.trans (hb1.mono a2.size)
    go_wp2
    go_ret
    exact ⟨rfl, c2⟩
end Go.Proofs.Ytnjcganknpnjcaa
