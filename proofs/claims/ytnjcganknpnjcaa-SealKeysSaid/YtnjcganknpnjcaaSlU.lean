/- seal: a box. -/
import Derived.Test.YtnjcganknpnjcaaSlT
namespace Go.Proofs.Ytnjcganknpnjcaa
open Go.RowKit
structure SQ (B : Nat) (kb nb : Nat → Nat) (w wx : World) : Prop where
  kr : wx.rowIs B 34 32 (bytesV kb)
  nr : wx.rowIs (B + 1) 49 12 (bytesV nb)
  below : Below B w wx
theorem SQ.past {B : Nat} {kb nb : Nat → Nat} {w wx wy : World} (t : SQ B kb nb w wx) (hb : Below wx.heap.size wx wy) : SQ B kb nb w wy :=
  ⟨t.kr.of_block (hb.block _ t.kr.lt), t.nr.of_block (hb.block _ t.nr.lt), t.below.trans (hb.mono (Nat.le_of_lt t.kr.lt))⟩
theorem range_row {w : World} {b T n : Nat} {f : Nat → Value} (h : w.rowIs b T n f) : w.rangeAt b 0 (List.map f (List.range n)) := by
  intro j v hj
  rw [Nat.zero_add]
  have hj' : j < n := by
    have := (List.getElem?_eq_some_iff.1 hj).1
    simpa using this
  rw [h.cell hj']
  simpa [hj'] using hj
theorem SQ.held {B : Nat} {kb nb : Nat → Nat} {w wx : World} (t : SQ B kb nb w wx) {tn : ByteArray} (e : Hid (txt 12 nb = tn)) :
    wx.rangeAt B 0 (List.map (bytesV kb) (List.range 32)) ∧ wx.rangeAt (B + 1) 0 (List.map (bytesV nb) (List.range 12)) ∧ (convert 46 9 (.slice (some ⟨B + 1, 0, none⟩) 12 12)).run Try.prog wx = .ok (.string tn) wx :=
  ⟨range_row t.kr, range_row t.nr, e.out ▸ conv_arr t.nr⟩

set_option maxRecDepth 100000 in
set_option maxHeartbeats 4000000 in
theorem seal_any (kb nb : Nat → Nat) (head data : ByteArray) (w : World) (hk : Bytes kb) (hn : Bytes nb) (hh : head.size ≤ 90000) (hd : data.size ≤ 90000) :
    Calls Try.prog 38 #[.agg (arrA 32 (bytesV kb)), .agg (arrA 12 (bytesV nb)), .string head, .string data] w fun e w' => e = .returned (.string (sealV kb nb head data)) ∧ Below w.heap.size w w' := by
  have hfin : sealV kb nb head data = (txt 12 nb ++ xorV (keyedV kb ⟨#[99, 105, 112, 104, 101, 114]⟩) nb 1 data) ++ tagV kb head (txt 12 nb ++ xorV (keyedV kb ⟨#[99, 105, 112, 104, 101, 114]⟩) nb 1 data) := rfl
  have hown := fun W => own_any kb ⟨#[99, 105, 112, 104, 101, 114]⟩ W (by decide)
  have hk2b := keyedV_bytes kb ⟨#[99, 105, 112, 104, 101, 114]⟩
  obtain ⟨k2, hk2⟩ : ∃ k2, keyedV kb ⟨#[99, 105, 112, 104, 101, 114]⟩ = k2 := ⟨_, rfl⟩
  rw [hk2] at hown hfin hk2b
  have hxor := fun W => xor_any k2 nb 1 data W hk2b hn (by omega) (by omega)
  have hxs := xorV_size k2 nb 1 data
  obtain ⟨x, hx⟩ : ∃ x, xorV k2 nb 1 data = x := ⟨_, rfl⟩
  rw [hx] at hxor hfin hxs
  have hns := txt_size 12 nb
  obtain ⟨tn, htn⟩ : ∃ tn, txt 12 nb = tn := ⟨_, rfl⟩
  rw [htn] at hfin hns
  have hfs : (tn ++ x).size ≤ 100000 := by rw [ByteArray.size_append]; omega
  have htag := fun W => tag_any kb head (tn ++ x) W (by omega) hfs
  have hts := tagV_size kb head (tn ++ x)
  have hcat1 : ¬ 9223372036854775807 < tn.size + x.size := by omega
  obtain ⟨f, hf⟩ : ∃ f, tn ++ x = f := ⟨_, rfl⟩
  rw [hf] at hfin hfs htag hts
  obtain ⟨t, ht⟩ : ∃ t, tagV kb head f = t := ⟨_, rfl⟩
  rw [ht] at hfin htag hts
  have hcat2 : ¬ 9223372036854775807 < f.size + t.size := by omega
  rw [hfin]
  have Htn := Lib.hid htn
  have hs1 : (Try.prog.info? 34).map (·.size) = some (List.map (bytesV kb) (List.range 32)).length := by rw [siz34]; simp
  have hs2 : (Try.prog.info? 49).map (·.size) = some (List.map (bytesV nb) (List.range 12)).length := by rw [siz49]; simp
  clear hfin ht htn hx hk2 hxs hns hts hfs
  go_enter Try.func38, Try.ntmps38
  have a0 : World.rowIs ((w.alloc (Obj.cells (arrA 32 (bytesV kb)) 34)).alloc (Obj.cells (arrA 12 (bytesV nb)) 49)) w.heap.size 34 32 (bytesV kb) := (row_of_heap (heap_new w _)).alloc _
  have a1 : World.rowIs ((w.alloc (Obj.cells (arrA 32 (bytesV kb)) 34)).alloc (Obj.cells (arrA 12 (bytesV nb)) 49)) (w.heap.size + 1) 49 12 (bytesV nb) := by
    have := heap_new (w.alloc (Obj.cells (arrA 32 (bytesV kb)) 34)) (Obj.cells (arrA 12 (bytesV nb)) 49)
    rw [World.size_alloc] at this
    exact row_of_heap this
  have a2 : Below w.heap.size w ((w.alloc (Obj.cells (arrA 32 (bytesV kb)) 34)).alloc (Obj.cells (arrA 12 (bytesV nb)) 49)) := ((Below.refl _ w).alloc (Nat.le_refl _) _).alloc (by simp) _
  go_upto_region 1 with fail
  obtain ⟨W0, hW0⟩ : ∃ W0, ((w.alloc (Obj.cells (arrA 32 (bytesV kb)) 34)).alloc (Obj.cells (arrA 12 (bytesV nb)) 49)) = W0 := ⟨_, rfl⟩
  rw [hW0] at a0 a1 a2 ⊢
  clear hW0
  obtain ⟨B, hB⟩ : ∃ B, w.heap.size = B := ⟨_, rfl⟩
  rw [hB] at a0 a1 a2 ⊢
  go_cut [9] (fun v wx => v = .string f ∧ SQ B kb nb w wx)
  case first =>
    have t1 : SQ B kb nb w W0.drew := ⟨a0, a1, a2.drew⟩
    clear a0 a1 a2
    refine wp_region_held_drew (S := fun w' => SQ B kb nb w w') (by kernel_rfl) t1 (fun hH => ?_)
    clear t1
    refine wpAnyH_take (i := 0) (v := .slice (some ⟨B + 1, 0, none⟩) 12 12) rfl (by kernel_rfl) (by kernel_rfl) (by kernel_rfl) (fun _ _ _ h => h) (Or.inl ⟨by rfl, fun w' hw' => by go_simp⟩) hH ?_
    try simp only [Act.put, List.setIfInBounds_toArray, List.set_cons_zero, List.set_cons_succ, List.getElem_toArray, List.getElem_cons_zero, List.getElem_cons_succ]
    refine wpAnyH_take (i := 1) (v := .string tn) rfl (by kernel_rfl) (by kernel_rfl) (by kernel_rfl) (fun _ _ _ h => h) (Or.inl ⟨by rfl, fun w' hw' => by have hcv := (hw'.held Htn).2.2; go_simp⟩) hH ?_
    try simp only [Act.put, List.setIfInBounds_toArray, List.set_cons_zero, List.set_cons_succ, List.getElem_toArray, List.getElem_cons_zero, List.getElem_cons_succ]
    refine wpAnyH_take (i := 2) rfl (by kernel_rfl) (by kernel_rfl) (by kernel_rfl) (fun _ _ _ h => h) (yieldsIf_load_mid (by rfl) 34 (.tmp 4) rfl B 0 rfl (List.map (bytesV kb) (List.range 32)) _ (fun w' hw' => (hw'.held Htn).1) und34 rfl hs1) hH ?_
    try simp only [Act.put, List.setIfInBounds_toArray, List.set_cons_zero, List.set_cons_succ, List.getElem_toArray, List.getElem_cons_zero, List.getElem_cons_succ]
    refine wpAnyH_take (i := 4) rfl (by kernel_rfl) (by kernel_rfl) (by kernel_rfl) (fun _ _ _ h => h) (yieldsIf_load_mid (by rfl) 49 (.tmp 5) rfl (B + 1) 0 rfl (List.map (bytesV nb) (List.range 12)) _ (fun w' hw' => (hw'.held Htn).2.1) und49 rfl hs2) hH ?_
    try simp only [Act.put, List.setIfInBounds_toArray, List.set_cons_zero, List.set_cons_succ, List.getElem_toArray, List.getElem_cons_zero, List.getElem_cons_succ]
    refine wpAnyH_take (i := 5) (v := .string data) rfl (by kernel_rfl) (by kernel_rfl) (by kernel_rfl) (fun _ _ _ h => h) (Or.inl ⟨by rfl, fun w' hw' => by go_simp⟩) hH ?_
    try simp only [Act.put, List.setIfInBounds_toArray, List.set_cons_zero, List.set_cons_succ, List.getElem_toArray, List.getElem_cons_zero, List.getElem_cons_succ]
    refine wpAnyH_ready (rs := [3]) (by kernel_rfl) (by simp) ?_
    refine AllReadyH.cons rfl (fun K hK => ?_) AllReadyH.nil
    go_simp
    go_at_call 72
    refine (hown _).mono ?_
    rintro e wy ⟨rfl, hbwy⟩
    refine hK.out _ _ (hH.past hbwy) (fun hy => ?_)
    clear hK K
    try simp only [Act.put, List.setIfInBounds_toArray, List.set_cons_zero, List.set_cons_succ, List.getElem_toArray, List.getElem_cons_zero, List.getElem_cons_succ]
    refine wpAnyH_ready (rs := [6]) (by kernel_rfl) (by simp) ?_
    refine AllReadyH.cons rfl (fun K hK => ?_) AllReadyH.nil
    go_simp
    go_at_call 71
    refine (hxor _).mono ?_
    rintro e wz ⟨rfl, hbwz⟩
    refine hK.out _ _ (hy.past hbwz) (fun hz => ?_)
    clear hK K
    try simp only [Act.put, List.setIfInBounds_toArray, List.set_cons_zero, List.set_cons_succ, List.getElem_toArray, List.getElem_cons_zero, List.getElem_cons_succ]
    refine wpAnyH_take (i := 7) (v := .string f) rfl (by kernel_rfl) (by kernel_rfl) (by kernel_rfl) (fun _ _ _ h => h) (Or.inl ⟨by rfl, fun w' hw' => by go_simp⟩) hz ?_
    try simp only [Act.put, List.setIfInBounds_toArray, List.set_cons_zero, List.set_cons_succ, List.getElem_toArray, List.getElem_cons_zero, List.getElem_cons_succ]
    refine wpAnyH_take (i := 8) (v := .string f) rfl (by kernel_rfl) (by kernel_rfl) (by kernel_rfl) (fun _ _ _ h => h) (Or.inl ⟨by rfl, fun w' hw' => by go_simp⟩) hz ?_
    try simp only [Act.put, List.setIfInBounds_toArray, List.set_cons_zero, List.set_cons_succ, List.getElem_toArray, List.getElem_cons_zero, List.getElem_cons_succ]
    refine wpAnyH_done (by kernel_rfl) ?_ _
    go_wp2
    go_meet
    exact ⟨rfl, hz⟩
  case rest =>
    obtain ⟨rfl, t2⟩ := hcut
    clear a0 a1 a2
    go_wp2_with (refine load_arr rfl 34 _ rfl 32 5 34 B _ rfl t2.kr und34 siz34 ?_)
    refine (htag _).mono ?_
    rintro e w3 ⟨rfl, hb3⟩
    have t3 := t2.past hb3
    go_wp2
    go_ret
    exact ⟨rfl, hB ▸ t3.below⟩

set_option maxRecDepth 100000 in
set_option maxHeartbeats 4000000 in
theorem rseal_any (kb nb : Nat → Nat) (head data : ByteArray) (w : World) (hk : Bytes kb) (hn : Bytes nb) (hh : head.size ≤ 90000) (hd : data.size ≤ 90000) :
    Calls Try.prog 40 #[.agg (arrA 32 (bytesV kb)), .agg (arrA 12 (bytesV nb)), .string head, .string data] w fun e w' => e = .returned (.string (sealV kb nb head data)) ∧ Below w.heap.size w w' := by
  have hfin : sealV kb nb head data = (txt 12 nb ++ xorV (keyedV kb ⟨#[99, 105, 112, 104, 101, 114]⟩) nb 1 data) ++ tagV kb head (txt 12 nb ++ xorV (keyedV kb ⟨#[99, 105, 112, 104, 101, 114]⟩) nb 1 data) := rfl
  have hown := fun W => rof_any kb ⟨#[99, 105, 112, 104, 101, 114]⟩ W (by decide)
  have hk2b := keyedV_bytes kb ⟨#[99, 105, 112, 104, 101, 114]⟩
  obtain ⟨k2, hk2⟩ : ∃ k2, keyedV kb ⟨#[99, 105, 112, 104, 101, 114]⟩ = k2 := ⟨_, rfl⟩
  rw [hk2] at hown hfin hk2b
  have hxor := fun W => rxor_any k2 nb 1 data W hk2b hn (by omega) (by omega)
  have hxs := xorV_size k2 nb 1 data
  obtain ⟨x, hx⟩ : ∃ x, xorV k2 nb 1 data = x := ⟨_, rfl⟩
  rw [hx] at hxor hfin hxs
  have hns := txt_size 12 nb
  obtain ⟨tn, htn⟩ : ∃ tn, txt 12 nb = tn := ⟨_, rfl⟩
  rw [htn] at hfin hns
  have hfs : (tn ++ x).size ≤ 100000 := by rw [ByteArray.size_append]; omega
  have htag := fun W => rtag_any kb head (tn ++ x) W (by omega) hfs
  have hts := tagV_size kb head (tn ++ x)
  have hcat1 : ¬ 9223372036854775807 < tn.size + x.size := by omega
  obtain ⟨f, hf⟩ : ∃ f, tn ++ x = f := ⟨_, rfl⟩
  rw [hf] at hfin hfs htag hts
  obtain ⟨t, ht⟩ : ∃ t, tagV kb head f = t := ⟨_, rfl⟩
  rw [ht] at hfin htag hts
  have hcat2 : ¬ 9223372036854775807 < f.size + t.size := by omega
  rw [hfin]
  have Htn := Lib.hid htn
  have hs1 : (Try.prog.info? 34).map (·.size) = some (List.map (bytesV kb) (List.range 32)).length := by rw [siz34]; simp
  have hs2 : (Try.prog.info? 49).map (·.size) = some (List.map (bytesV nb) (List.range 12)).length := by rw [siz49]; simp
  clear hfin ht htn hx hk2 hxs hns hts hfs
  go_enter Try.func40, Try.ntmps40
  have a0 : World.rowIs ((w.alloc (Obj.cells (arrA 32 (bytesV kb)) 34)).alloc (Obj.cells (arrA 12 (bytesV nb)) 49)) w.heap.size 34 32 (bytesV kb) := (row_of_heap (heap_new w _)).alloc _
  have a1 : World.rowIs ((w.alloc (Obj.cells (arrA 32 (bytesV kb)) 34)).alloc (Obj.cells (arrA 12 (bytesV nb)) 49)) (w.heap.size + 1) 49 12 (bytesV nb) := by
    have := heap_new (w.alloc (Obj.cells (arrA 32 (bytesV kb)) 34)) (Obj.cells (arrA 12 (bytesV nb)) 49)
    rw [World.size_alloc] at this
    exact row_of_heap this
  have a2 : Below w.heap.size w ((w.alloc (Obj.cells (arrA 32 (bytesV kb)) 34)).alloc (Obj.cells (arrA 12 (bytesV nb)) 49)) := ((Below.refl _ w).alloc (Nat.le_refl _) _).alloc (by simp) _
  go_upto_region 1 with fail
  obtain ⟨W0, hW0⟩ : ∃ W0, ((w.alloc (Obj.cells (arrA 32 (bytesV kb)) 34)).alloc (Obj.cells (arrA 12 (bytesV nb)) 49)) = W0 := ⟨_, rfl⟩
  rw [hW0] at a0 a1 a2 ⊢
  clear hW0
  obtain ⟨B, hB⟩ : ∃ B, w.heap.size = B := ⟨_, rfl⟩
  rw [hB] at a0 a1 a2 ⊢
  go_cut [9] (fun v wx => v = .string f ∧ SQ B kb nb w wx)
  case first =>
    have t1 : SQ B kb nb w W0.drew := ⟨a0, a1, a2.drew⟩
    clear a0 a1 a2
    refine wp_region_held_drew (S := fun w' => SQ B kb nb w w') (by kernel_rfl) t1 (fun hH => ?_)
    clear t1
    refine wpAnyH_take (i := 0) (v := .slice (some ⟨B + 1, 0, none⟩) 12 12) rfl (by kernel_rfl) (by kernel_rfl) (by kernel_rfl) (fun _ _ _ h => h) (Or.inl ⟨by rfl, fun w' hw' => by go_simp⟩) hH ?_
    try simp only [Act.put, List.setIfInBounds_toArray, List.set_cons_zero, List.set_cons_succ, List.getElem_toArray, List.getElem_cons_zero, List.getElem_cons_succ]
    refine wpAnyH_take (i := 1) (v := .string tn) rfl (by kernel_rfl) (by kernel_rfl) (by kernel_rfl) (fun _ _ _ h => h) (Or.inl ⟨by rfl, fun w' hw' => by have hcv := (hw'.held Htn).2.2; go_simp⟩) hH ?_
    try simp only [Act.put, List.setIfInBounds_toArray, List.set_cons_zero, List.set_cons_succ, List.getElem_toArray, List.getElem_cons_zero, List.getElem_cons_succ]
    refine wpAnyH_take (i := 2) rfl (by kernel_rfl) (by kernel_rfl) (by kernel_rfl) (fun _ _ _ h => h) (yieldsIf_load_mid (by rfl) 34 (.tmp 4) rfl B 0 rfl (List.map (bytesV kb) (List.range 32)) _ (fun w' hw' => (hw'.held Htn).1) und34 rfl hs1) hH ?_
    try simp only [Act.put, List.setIfInBounds_toArray, List.set_cons_zero, List.set_cons_succ, List.getElem_toArray, List.getElem_cons_zero, List.getElem_cons_succ]
    refine wpAnyH_take (i := 4) rfl (by kernel_rfl) (by kernel_rfl) (by kernel_rfl) (fun _ _ _ h => h) (yieldsIf_load_mid (by rfl) 49 (.tmp 5) rfl (B + 1) 0 rfl (List.map (bytesV nb) (List.range 12)) _ (fun w' hw' => (hw'.held Htn).2.1) und49 rfl hs2) hH ?_
    try simp only [Act.put, List.setIfInBounds_toArray, List.set_cons_zero, List.set_cons_succ, List.getElem_toArray, List.getElem_cons_zero, List.getElem_cons_succ]
    refine wpAnyH_take (i := 5) (v := .string data) rfl (by kernel_rfl) (by kernel_rfl) (by kernel_rfl) (fun _ _ _ h => h) (Or.inl ⟨by rfl, fun w' hw' => by go_simp⟩) hH ?_
    try simp only [Act.put, List.setIfInBounds_toArray, List.set_cons_zero, List.set_cons_succ, List.getElem_toArray, List.getElem_cons_zero, List.getElem_cons_succ]
    refine wpAnyH_ready (rs := [3]) (by kernel_rfl) (by simp) ?_
    refine AllReadyH.cons rfl (fun K hK => ?_) AllReadyH.nil
    go_simp
    go_at_call 75
    refine (hown _).mono ?_
    rintro e wy ⟨rfl, hbwy⟩
    refine hK.out _ _ (hH.past hbwy) (fun hy => ?_)
    clear hK K
    try simp only [Act.put, List.setIfInBounds_toArray, List.set_cons_zero, List.set_cons_succ, List.getElem_toArray, List.getElem_cons_zero, List.getElem_cons_succ]
    refine wpAnyH_ready (rs := [6]) (by kernel_rfl) (by simp) ?_
    refine AllReadyH.cons rfl (fun K hK => ?_) AllReadyH.nil
    go_simp
    go_at_call 74
    refine (hxor _).mono ?_
    rintro e wz ⟨rfl, hbwz⟩
    refine hK.out _ _ (hy.past hbwz) (fun hz => ?_)
    clear hK K
    try simp only [Act.put, List.setIfInBounds_toArray, List.set_cons_zero, List.set_cons_succ, List.getElem_toArray, List.getElem_cons_zero, List.getElem_cons_succ]
    refine wpAnyH_take (i := 7) (v := .string f) rfl (by kernel_rfl) (by kernel_rfl) (by kernel_rfl) (fun _ _ _ h => h) (Or.inl ⟨by rfl, fun w' hw' => by go_simp⟩) hz ?_
    try simp only [Act.put, List.setIfInBounds_toArray, List.set_cons_zero, List.set_cons_succ, List.getElem_toArray, List.getElem_cons_zero, List.getElem_cons_succ]
    refine wpAnyH_take (i := 8) (v := .string f) rfl (by kernel_rfl) (by kernel_rfl) (by kernel_rfl) (fun _ _ _ h => h) (Or.inl ⟨by rfl, fun w' hw' => by go_simp⟩) hz ?_
    try simp only [Act.put, List.setIfInBounds_toArray, List.set_cons_zero, List.set_cons_succ, List.getElem_toArray, List.getElem_cons_zero, List.getElem_cons_succ]
    refine wpAnyH_done (by kernel_rfl) ?_ _
    go_wp2
    go_meet
    exact ⟨rfl, hz⟩
  case rest =>
    obtain ⟨rfl, t2⟩ := hcut
    clear a0 a1 a2
    go_wp2_with (refine load_arr rfl 34 _ rfl 32 5 34 B _ rfl t2.kr und34 siz34 ?_)
    refine (htag _).mono ?_
    rintro e w3 ⟨rfl, hb3⟩
    have t3 := t2.past hb3
    go_wp2
    go_ret
    exact ⟨rfl, hB ▸ t3.below⟩

end Go.Proofs.Ytnjcganknpnjcaa
