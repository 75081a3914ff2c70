/- seal: opening a box. -/
import Derived.Test.YtnjcganknpnjcaaGl
set_option linter.unusedVariables false
set_option linter.unusedSimpArgs false
namespace Go.Proofs.Ytnjcganknpnjcaa
open Go.RowKit
structure SP (B : Nat) (kb : Nat → Nat) (w wx : World) : Prop where
  kr : wx.rowIs B 34 32 (bytesV kb)
  below : Below B w wx
theorem SP.past {B : Nat} {kb : Nat → Nat} {w wx wy : World} (t : SP B kb w wx) (hb : Below wx.heap.size wx wy) : SP B kb w wy :=
  ⟨t.kr.of_block (hb.block _ t.kr.lt), t.below.trans (hb.mono (Nat.le_of_lt t.kr.lt))⟩

set_option maxRecDepth 100000 in
set_option maxHeartbeats 4000000 in
theorem open_any (kb : Nat → Nat) (head box : ByteArray) (w : World) (hk : Bytes kb) (hh : head.size ≤ 90000) (hb : box.size ≤ 90000) :
    Calls Try.prog 39 #[.agg (arrA 32 (bytesV kb)), .string head, .string box] w fun e w' => e = .returned (.tuple #[.string (openV kb head box).1, .int .i64 ((openV kb head box).2 : Int)]) ∧ Below w.heap.size w w' := by
  by_cases h44 : box.size < 44
  · have c1 : decide ((box.size : Int) - 32 < 12) = true := decide_eq_true (by omega)
    have hfin : openV kb head box = (⟨#[]⟩, 4) := by rw [openV, if_pos h44]
    rw [hfin]
    clear hfin
    go_enter Try.func39, Try.ntmps39
    have a2 : Below w.heap.size w (w.alloc (Obj.cells (arrA 32 (bytesV kb)) 34)) := (Below.refl _ w).alloc (Nat.le_refl _) _
    go_wp2
    go_ret2
    exact ⟨rfl, a2⟩
  · obtain ⟨n, hn⟩ : ∃ n, box.size - 32 = n := ⟨_, rfl⟩
    have e1 : (box.size : Int) - 32 = (n : Int) := by omega
    have c1 : decide ((n : Int) < 12) = false := decide_eq_false (by omega)
    have c2 : (n : Int) ≤ (box.size : Int) := by omega
    have c3 : n ≤ box.size := by omega
    have c4 : ¬ (n : Int) < 12 := by omega
    have c5 : (12 : Int) ≤ (n : Int) := by omega
    obtain ⟨f, hf⟩ : ∃ f, box.extract 0 n = f := ⟨_, rfl⟩
    have hfs : f.size = n := by rw [← hf, ByteArray.size_extract]; omega
    have c6 : (12 : Int) ≤ (f.size : Int) := by omega
    have c7 : wrap64 (n : Int) = (n : Int) := by unfold wrap64; omega
    have c8 : n ≤ 90000 := by omega
    have hfb : f = boxF box := by rw [boxF, hn, hf]
    have hs1 : (Try.prog.info? 34).map (·.size) = some (List.map (bytesV kb) (List.range 32)).length := by rw [siz34]; simp
    have htag := fun W => tag_any kb head f W (by omega) (by omega)
    obtain ⟨bt, hbt⟩ : ∃ bt, box.extract n box.size = bt := ⟨_, rfl⟩
    have hbT : bt = boxT box := by rw [boxT, hn, hbt]
    by_cases heq : tagV kb head f = bt
    · have hdd : f.extract 12 f.size = boxD box := by
        rw [boxD, hn]
        refine bytes_ext _ _ (by rw [ByteArray.size_extract, ByteArray.size_extract]; omega) fun j hj => ?_
        have hj' : 12 + j < n := by rw [ByteArray.size_extract] at hj; omega
        rw [byt_extract _ _ _ _ (by omega) (Nat.le_refl _), ← hf, byt_extract _ _ _ _ (by omega) (by omega), byt_extract _ _ _ _ (by omega) (by omega), Nat.zero_add]
      have hnon := fun W => nonce_any f W
      obtain ⟨dd, hd⟩ : ∃ dd, boxD box = dd := ⟨_, rfl⟩
      rw [hd] at hdd
      have hds : dd.size ≤ 90000 := by rw [← hd, boxD, ByteArray.size_extract]; omega
      have hown := fun W => own_any kb ⟨#[99, 105, 112, 104, 101, 114]⟩ W (by decide)
      have hk2b := keyedV_bytes kb ⟨#[99, 105, 112, 104, 101, 114]⟩
      have hfin : openV kb head box = (xorV (keyedV kb ⟨#[99, 105, 112, 104, 101, 114]⟩) (nonV f) 1 dd, 0) := by
        rw [openV, if_neg h44, ← hfb, ← hbT, if_pos heq, hd]; rfl
      obtain ⟨k2, hk2⟩ : ∃ k2, keyedV kb ⟨#[99, 105, 112, 104, 101, 114]⟩ = k2 := ⟨_, rfl⟩
      rw [hk2] at hown hfin hk2b
      have hxor := fun W => xor_any k2 (nonV f) 1 dd W hk2b (nonV_bytes f) (by omega) (by omega)
      obtain ⟨x, hx⟩ : ∃ x, xorV k2 (nonV f) 1 dd = x := ⟨_, rfl⟩
      obtain ⟨nv, hnv⟩ : ∃ nv, nonV f = nv := ⟨_, rfl⟩
      rw [hx] at hxor hfin
      rw [hnv] at hxor hnon
      rw [hfin]
      rw [heq] at htag
      clear hfin heq hx hnv hk2 hd hbT hfb h44 hn hfs hds hk hh
      go_enter Try.func39, Try.ntmps39
      have a0 : World.rowIs (w.alloc (Obj.cells (arrA 32 (bytesV kb)) 34)) w.heap.size 34 32 (bytesV kb) := row_of_heap (heap_new w _)
      have a2 : Below w.heap.size w (w.alloc (Obj.cells (arrA 32 (bytesV kb)) 34)) := (Below.refl _ w).alloc (Nat.le_refl _) _
      go_upto_region 5 with fail
      obtain ⟨W0, hW0⟩ : ∃ W0, (w.alloc (Obj.cells (arrA 32 (bytesV kb)) 34)) = W0 := ⟨_, rfl⟩
      rw [hW0] at a0 a2 ⊢
      clear hW0
      obtain ⟨B, hB⟩ : ∃ B, w.heap.size = B := ⟨_, rfl⟩
      rw [hB] at a0 a2 ⊢
      have t1 : SP B kb w W0.drew := ⟨a0, a2.drew⟩
      clear a0 a2
      refine wp_region_held_drew (S := fun w' => SP B kb w w') (by kernel_rfl) t1 (fun hH => ?_)
      clear t1
      refine wpAnyH_take (i := 0) rfl (by kernel_rfl) (by kernel_rfl) (by kernel_rfl) (fun _ _ _ h => h) (yieldsIf_load_mid (by rfl) 34 (.tmp 3) rfl B 0 rfl (List.map (bytesV kb) (List.range 32)) _ (fun w' hw' => range_row hw'.kr) und34 rfl hs1) hH ?_
      try simp only [Act.put, List.setIfInBounds_toArray, List.set_cons_zero, List.set_cons_succ, List.getElem_toArray, List.getElem_cons_zero, List.getElem_cons_succ]
      refine wpAnyH_take (i := 1) (v := .string head) rfl (by kernel_rfl) (by kernel_rfl) (by kernel_rfl) (fun _ _ _ h => h) (Or.inl ⟨by rfl, fun w' hw' => by go_simp⟩) hH ?_
      try simp only [Act.put, List.setIfInBounds_toArray, List.set_cons_zero, List.set_cons_succ, List.getElem_toArray, List.getElem_cons_zero, List.getElem_cons_succ]
      refine wpAnyH_take (i := 2) (v := .string f) rfl (by kernel_rfl) (by kernel_rfl) (by kernel_rfl) (fun _ _ _ h => h) (Or.inl ⟨by rfl, fun w' hw' => by go_simp⟩) hH ?_
      try simp only [Act.put, List.setIfInBounds_toArray, List.set_cons_zero, List.set_cons_succ, List.getElem_toArray, List.getElem_cons_zero, List.getElem_cons_succ]
      refine wpAnyH_take (i := 4) (v := .string box) rfl (by kernel_rfl) (by kernel_rfl) (by kernel_rfl) (fun _ _ _ h => h) (Or.inl ⟨by rfl, fun w' hw' => by go_simp⟩) hH ?_
      try simp only [Act.put, List.setIfInBounds_toArray, List.set_cons_zero, List.set_cons_succ, List.getElem_toArray, List.getElem_cons_zero, List.getElem_cons_succ]
      refine wpAnyH_take (i := 5) (v := .int .i64 (n : Int)) rfl (by kernel_rfl) (by kernel_rfl) (by kernel_rfl) (fun _ _ _ h => h) (Or.inl ⟨by rfl, fun w' hw' => by go_simp⟩) hH ?_
      try simp only [Act.put, List.setIfInBounds_toArray, List.set_cons_zero, List.set_cons_succ, List.getElem_toArray, List.getElem_cons_zero, List.getElem_cons_succ]
      refine wpAnyH_take (i := 6) (v := .string bt) rfl (by kernel_rfl) (by kernel_rfl) (by kernel_rfl) (fun _ _ _ h => h) (Or.inl ⟨by rfl, fun w' hw' => by go_simp⟩) hH ?_
      try simp only [Act.put, List.setIfInBounds_toArray, List.set_cons_zero, List.set_cons_succ, List.getElem_toArray, List.getElem_cons_zero, List.getElem_cons_succ]
      refine wpAnyH_ready (rs := [3]) (by kernel_rfl) (by simp) ?_
      refine AllReadyH.cons rfl (fun K hK => ?_) AllReadyH.nil
      go_simp
      go_at_call 73
      refine (htag _).mono ?_
      rintro e wy ⟨rfl, hbwy⟩
      refine hK.out _ _ (hH.past hbwy) (fun hy => ?_)
      clear hK K
      try simp only [Act.put, List.setIfInBounds_toArray, List.set_cons_zero, List.set_cons_succ, List.getElem_toArray, List.getElem_cons_zero, List.getElem_cons_succ]
      refine wpAnyH_take (i := 7) (v := .bool false) rfl (by kernel_rfl) (by kernel_rfl) (by kernel_rfl) (fun _ _ _ h => h) (Or.inl ⟨by rfl, fun w' hw' => by go_simp⟩) hy ?_
      try simp only [Act.put, List.setIfInBounds_toArray, List.set_cons_zero, List.set_cons_succ, List.getElem_toArray, List.getElem_cons_zero, List.getElem_cons_succ]
      refine wpAnyH_done (by kernel_rfl) ?_ _
      go_upto_region 7 with fail
      have t1 : SP B kb w wy.drew := ⟨hy.kr.drew, hy.below.drew⟩
      clear hy hH
      refine wp_region_held_drew (S := fun w' => SP B kb w w') (by kernel_rfl) t1 (fun hH => ?_)
      clear t1
      refine wpAnyH_take (i := 0) rfl (by kernel_rfl) (by kernel_rfl) (by kernel_rfl) (fun _ _ _ h => h) (yieldsIf_load_mid (by rfl) 34 (.tmp 3) rfl B 0 rfl (List.map (bytesV kb) (List.range 32)) _ (fun w' hw' => range_row hw'.kr) und34 rfl hs1) hH ?_
      try simp only [Act.put, List.setIfInBounds_toArray, List.set_cons_zero, List.set_cons_succ, List.getElem_toArray, List.getElem_cons_zero, List.getElem_cons_succ]
      refine wpAnyH_take (i := 2) (v := .string f) rfl (by kernel_rfl) (by kernel_rfl) (by kernel_rfl) (fun _ _ _ h => h) (Or.inl ⟨by rfl, fun w' hw' => by go_simp⟩) hH ?_
      try simp only [Act.put, List.setIfInBounds_toArray, List.set_cons_zero, List.set_cons_succ, List.getElem_toArray, List.getElem_cons_zero, List.getElem_cons_succ]
      refine wpAnyH_take (i := 4) (v := .string f) rfl (by kernel_rfl) (by kernel_rfl) (by kernel_rfl) (fun _ _ _ h => h) (Or.inl ⟨by rfl, fun w' hw' => by go_simp⟩) hH ?_
      try simp only [Act.put, List.setIfInBounds_toArray, List.set_cons_zero, List.set_cons_succ, List.getElem_toArray, List.getElem_cons_zero, List.getElem_cons_succ]
      refine wpAnyH_take (i := 5) (v := .string dd) rfl (by kernel_rfl) (by kernel_rfl) (by kernel_rfl) (fun _ _ _ h => h) (Or.inl ⟨by rfl, fun w' hw' => by go_simp⟩) hH ?_
      try simp only [Act.put, List.setIfInBounds_toArray, List.set_cons_zero, List.set_cons_succ, List.getElem_toArray, List.getElem_cons_zero, List.getElem_cons_succ]
      refine wpAnyH_ready (rs := [1]) (by kernel_rfl) (by simp) ?_
      refine AllReadyH.cons rfl (fun K hK => ?_) AllReadyH.nil
      go_simp
      go_at_call 72
      refine (hown _).mono ?_
      rintro e w1 ⟨rfl, hbw1⟩
      refine hK.out _ _ (hH.past hbw1) (fun h1 => ?_)
      clear hK K
      try simp only [Act.put, List.setIfInBounds_toArray, List.set_cons_zero, List.set_cons_succ, List.getElem_toArray, List.getElem_cons_zero, List.getElem_cons_succ]
      refine wpAnyH_ready (rs := [3]) (by kernel_rfl) (by simp) ?_
      refine AllReadyH.cons rfl (fun K hK => ?_) AllReadyH.nil
      go_simp
      go_at_call 42
      refine (hnon _).mono ?_
      rintro e w2 ⟨rfl, hbw2⟩
      refine hK.out _ _ (h1.past hbw2) (fun h2 => ?_)
      clear hK K
      try simp only [Act.put, List.setIfInBounds_toArray, List.set_cons_zero, List.set_cons_succ, List.getElem_toArray, List.getElem_cons_zero, List.getElem_cons_succ]
      refine wpAnyH_ready (rs := [6]) (by kernel_rfl) (by simp) ?_
      refine AllReadyH.cons rfl (fun K hK => ?_) AllReadyH.nil
      go_simp
      go_at_call 71
      refine (hxor _).mono ?_
      rintro e w3 ⟨rfl, hbw3⟩
      refine hK.out _ _ (h2.past hbw3) (fun h3 => ?_)
      clear hK K
      try simp only [Act.put, List.setIfInBounds_toArray, List.set_cons_zero, List.set_cons_succ, List.getElem_toArray, List.getElem_cons_zero, List.getElem_cons_succ]
      refine wpAnyH_take (i := 7) (v := .string x) rfl (by kernel_rfl) (by kernel_rfl) (by kernel_rfl) (fun _ _ _ h => h) (Or.inl ⟨by rfl, fun w' hw' => by go_simp⟩) h3 ?_
      try simp only [Act.put, List.setIfInBounds_toArray, List.set_cons_zero, List.set_cons_succ, List.getElem_toArray, List.getElem_cons_zero, List.getElem_cons_succ]
      refine wpAnyH_take (i := 8) (v := .int .i64 0) rfl (by kernel_rfl) (by kernel_rfl) (by kernel_rfl) (fun _ _ _ h => h) (Or.inl ⟨by rfl, fun w' hw' => by go_simp⟩) h3 ?_
      try simp only [Act.put, List.setIfInBounds_toArray, List.set_cons_zero, List.set_cons_succ, List.getElem_toArray, List.getElem_cons_zero, List.getElem_cons_succ]
      refine wpAnyH_done (by kernel_rfl) ?_ _
      go_wp2
      go_ret2
      exact ⟨rfl, hB ▸ h3.below⟩
    · have hfin : openV kb head box = (⟨#[]⟩, 5) := by rw [openV, if_neg h44, ← hfb, ← hbT, if_neg heq]
      obtain ⟨t, ht⟩ : ∃ t, tagV kb head f = t := ⟨_, rfl⟩
      rw [ht] at htag heq
      have heq2 : ¬ t.toList = bt.toList := fun e => heq (by
        rw [ByteArray.toList_eq, ByteArray.toList_eq] at e
        exact ByteArray.ext (Array.toList_inj.1 e))
      have heq3 : ¬ bt.toList = t.toList := fun e => heq2 e.symm
      rw [hfin]
      clear hfin ht hbT hfb h44 hn hfs hk hh
      go_enter Try.func39, Try.ntmps39
      have a0 : World.rowIs (w.alloc (Obj.cells (arrA 32 (bytesV kb)) 34)) w.heap.size 34 32 (bytesV kb) := row_of_heap (heap_new w _)
      have a2 : Below w.heap.size w (w.alloc (Obj.cells (arrA 32 (bytesV kb)) 34)) := (Below.refl _ w).alloc (Nat.le_refl _) _
      go_upto_region 5 with fail
      obtain ⟨W0, hW0⟩ : ∃ W0, (w.alloc (Obj.cells (arrA 32 (bytesV kb)) 34)) = W0 := ⟨_, rfl⟩
      rw [hW0] at a0 a2 ⊢
      clear hW0
      obtain ⟨B, hB⟩ : ∃ B, w.heap.size = B := ⟨_, rfl⟩
      rw [hB] at a0 a2 ⊢
      have t1 : SP B kb w W0.drew := ⟨a0, a2.drew⟩
      clear a0 a2
      refine wp_region_held_drew (S := fun w' => SP B kb w w') (by kernel_rfl) t1 (fun hH => ?_)
      clear t1
      refine wpAnyH_take (i := 0) rfl (by kernel_rfl) (by kernel_rfl) (by kernel_rfl) (fun _ _ _ h => h) (yieldsIf_load_mid (by rfl) 34 (.tmp 3) rfl B 0 rfl (List.map (bytesV kb) (List.range 32)) _ (fun w' hw' => range_row hw'.kr) und34 rfl hs1) hH ?_
      try simp only [Act.put, List.setIfInBounds_toArray, List.set_cons_zero, List.set_cons_succ, List.getElem_toArray, List.getElem_cons_zero, List.getElem_cons_succ]
      refine wpAnyH_take (i := 1) (v := .string head) rfl (by kernel_rfl) (by kernel_rfl) (by kernel_rfl) (fun _ _ _ h => h) (Or.inl ⟨by rfl, fun w' hw' => by go_simp⟩) hH ?_
      try simp only [Act.put, List.setIfInBounds_toArray, List.set_cons_zero, List.set_cons_succ, List.getElem_toArray, List.getElem_cons_zero, List.getElem_cons_succ]
      refine wpAnyH_take (i := 2) (v := .string f) rfl (by kernel_rfl) (by kernel_rfl) (by kernel_rfl) (fun _ _ _ h => h) (Or.inl ⟨by rfl, fun w' hw' => by go_simp⟩) hH ?_
      try simp only [Act.put, List.setIfInBounds_toArray, List.set_cons_zero, List.set_cons_succ, List.getElem_toArray, List.getElem_cons_zero, List.getElem_cons_succ]
      refine wpAnyH_take (i := 4) (v := .string box) rfl (by kernel_rfl) (by kernel_rfl) (by kernel_rfl) (fun _ _ _ h => h) (Or.inl ⟨by rfl, fun w' hw' => by go_simp⟩) hH ?_
      try simp only [Act.put, List.setIfInBounds_toArray, List.set_cons_zero, List.set_cons_succ, List.getElem_toArray, List.getElem_cons_zero, List.getElem_cons_succ]
      refine wpAnyH_take (i := 5) (v := .int .i64 (n : Int)) rfl (by kernel_rfl) (by kernel_rfl) (by kernel_rfl) (fun _ _ _ h => h) (Or.inl ⟨by rfl, fun w' hw' => by go_simp⟩) hH ?_
      try simp only [Act.put, List.setIfInBounds_toArray, List.set_cons_zero, List.set_cons_succ, List.getElem_toArray, List.getElem_cons_zero, List.getElem_cons_succ]
      refine wpAnyH_take (i := 6) (v := .string bt) rfl (by kernel_rfl) (by kernel_rfl) (by kernel_rfl) (fun _ _ _ h => h) (Or.inl ⟨by rfl, fun w' hw' => by go_simp⟩) hH ?_
      try simp only [Act.put, List.setIfInBounds_toArray, List.set_cons_zero, List.set_cons_succ, List.getElem_toArray, List.getElem_cons_zero, List.getElem_cons_succ]
      refine wpAnyH_ready (rs := [3]) (by kernel_rfl) (by simp) ?_
      refine AllReadyH.cons rfl (fun K hK => ?_) AllReadyH.nil
      go_simp
      go_at_call 73
      refine (htag _).mono ?_
      rintro e wy ⟨rfl, hbwy⟩
      refine hK.out _ _ (hH.past hbwy) (fun hy => ?_)
      clear hK K
      try simp only [Act.put, List.setIfInBounds_toArray, List.set_cons_zero, List.set_cons_succ, List.getElem_toArray, List.getElem_cons_zero, List.getElem_cons_succ]
      refine wpAnyH_take (i := 7) (v := .bool true) rfl (by kernel_rfl) (by kernel_rfl) (by kernel_rfl) (fun _ _ _ h => h) (Or.inl ⟨by rfl, fun w' hw' => by go_simp⟩) hy ?_
      try simp only [Act.put, List.setIfInBounds_toArray, List.set_cons_zero, List.set_cons_succ, List.getElem_toArray, List.getElem_cons_zero, List.getElem_cons_succ]
      refine wpAnyH_done (by kernel_rfl) ?_ _
      go_wp2
      go_ret2
      exact ⟨rfl, hB ▸ hy.below⟩

set_option maxRecDepth 100000 in
set_option maxHeartbeats 4000000 in
theorem ropen_any (kb : Nat → Nat) (head box : ByteArray) (w : World) (hk : Bytes kb) (hh : head.size ≤ 90000) (hb : box.size ≤ 90000) :
    Calls Try.prog 41 #[.agg (arrA 32 (bytesV kb)), .string head, .string box] w fun e w' => e = .returned (.tuple #[.string (openV kb head box).1, .int .i64 ((openV kb head box).2 : Int)]) ∧ Below w.heap.size w w' := by
  by_cases h44 : box.size < 44
  · have c1 : decide ((box.size : Int) - 32 < 12) = true := decide_eq_true (by omega)
    have hfin : openV kb head box = (⟨#[]⟩, 4) := by rw [openV, if_pos h44]
    rw [hfin]
    clear hfin
    go_enter Try.func41, Try.ntmps41
    have a2 : Below w.heap.size w (w.alloc (Obj.cells (arrA 32 (bytesV kb)) 34)) := (Below.refl _ w).alloc (Nat.le_refl _) _
    go_wp2
    go_ret2
    exact ⟨rfl, a2⟩
  · obtain ⟨n, hn⟩ : ∃ n, box.size - 32 = n := ⟨_, rfl⟩
    have e1 : (box.size : Int) - 32 = (n : Int) := by omega
    have c1 : decide ((n : Int) < 12) = false := decide_eq_false (by omega)
    have c2 : (n : Int) ≤ (box.size : Int) := by omega
    have c3 : n ≤ box.size := by omega
    have c4 : ¬ (n : Int) < 12 := by omega
    have c5 : (12 : Int) ≤ (n : Int) := by omega
    obtain ⟨f, hf⟩ : ∃ f, box.extract 0 n = f := ⟨_, rfl⟩
    have hfs : f.size = n := by rw [← hf, ByteArray.size_extract]; omega
    have c6 : (12 : Int) ≤ (f.size : Int) := by omega
    have c7 : wrap64 (n : Int) = (n : Int) := by unfold wrap64; omega
    have c8 : n ≤ 90000 := by omega
    have hfb : f = boxF box := by rw [boxF, hn, hf]
    have hs1 : (Try.prog.info? 34).map (·.size) = some (List.map (bytesV kb) (List.range 32)).length := by rw [siz34]; simp
    have htag := fun W => rtag_any kb head f W (by omega) (by omega)
    obtain ⟨bt, hbt⟩ : ∃ bt, box.extract n box.size = bt := ⟨_, rfl⟩
    have hbT : bt = boxT box := by rw [boxT, hn, hbt]
    by_cases heq : tagV kb head f = bt
    · have hdd : box.extract 12 n = boxD box := by rw [boxD, hn]
      have hnon := fun W => rnonce_any box W (by omega)
      have hnv : arrA 12 (bytesV (nonV box)) = arrA 12 (bytesV (nonV f)) := arrA_congr (fun j hj => by
        rw [bytesV, bytesV, nonV, nonV, if_pos (by omega), if_pos (by omega), ← hf, byt_extract _ _ _ _ (by omega) (by omega), Nat.zero_add])
      rw [hnv] at hnon
      clear hnv
      obtain ⟨dd, hd⟩ : ∃ dd, boxD box = dd := ⟨_, rfl⟩
      rw [hd] at hdd
      have hds : dd.size ≤ 90000 := by rw [← hd, boxD, ByteArray.size_extract]; omega
      have hown := fun W => rof_any kb ⟨#[99, 105, 112, 104, 101, 114]⟩ W (by decide)
      have hk2b := keyedV_bytes kb ⟨#[99, 105, 112, 104, 101, 114]⟩
      have hfin : openV kb head box = (xorV (keyedV kb ⟨#[99, 105, 112, 104, 101, 114]⟩) (nonV f) 1 dd, 0) := by
        rw [openV, if_neg h44, ← hfb, ← hbT, if_pos heq, hd]; rfl
      obtain ⟨k2, hk2⟩ : ∃ k2, keyedV kb ⟨#[99, 105, 112, 104, 101, 114]⟩ = k2 := ⟨_, rfl⟩
      rw [hk2] at hown hfin hk2b
      have hxor := fun W => rxor_any k2 (nonV f) 1 dd W hk2b (nonV_bytes f) (by omega) (by omega)
      obtain ⟨x, hx⟩ : ∃ x, xorV k2 (nonV f) 1 dd = x := ⟨_, rfl⟩
      obtain ⟨nv, hnv⟩ : ∃ nv, nonV f = nv := ⟨_, rfl⟩
      rw [hx] at hxor hfin
      rw [hnv] at hxor hnon
      rw [hfin]
      rw [heq] at htag
      clear hfin heq hx hnv hk2 hd hbT hfb h44 hn hfs hds hk hh
      go_enter Try.func41, Try.ntmps41
      have a0 : World.rowIs (w.alloc (Obj.cells (arrA 32 (bytesV kb)) 34)) w.heap.size 34 32 (bytesV kb) := row_of_heap (heap_new w _)
      have a2 : Below w.heap.size w (w.alloc (Obj.cells (arrA 32 (bytesV kb)) 34)) := (Below.refl _ w).alloc (Nat.le_refl _) _
      go_upto_region 4 with fail
      obtain ⟨W0, hW0⟩ : ∃ W0, (w.alloc (Obj.cells (arrA 32 (bytesV kb)) 34)) = W0 := ⟨_, rfl⟩
      rw [hW0] at a0 a2 ⊢
      clear hW0
      obtain ⟨B, hB⟩ : ∃ B, w.heap.size = B := ⟨_, rfl⟩
      rw [hB] at a0 a2 ⊢
      have t1 : SP B kb w W0.drew := ⟨a0, a2.drew⟩
      clear a0 a2
      refine wp_region_held_drew (S := fun w' => SP B kb w w') (by kernel_rfl) t1 (fun hH => ?_)
      clear t1
      refine wpAnyH_take (i := 0) (v := .string box) rfl (by kernel_rfl) (by kernel_rfl) (by kernel_rfl) (fun _ _ _ h => h) (Or.inl ⟨by rfl, fun w' hw' => by go_simp⟩) hH ?_
      try simp only [Act.put, List.setIfInBounds_toArray, List.set_cons_zero, List.set_cons_succ, List.getElem_toArray, List.getElem_cons_zero, List.getElem_cons_succ]
      refine wpAnyH_take (i := 1) (v := .int .i64 (n : Int)) rfl (by kernel_rfl) (by kernel_rfl) (by kernel_rfl) (fun _ _ _ h => h) (Or.inl ⟨by rfl, fun w' hw' => by go_simp⟩) hH ?_
      try simp only [Act.put, List.setIfInBounds_toArray, List.set_cons_zero, List.set_cons_succ, List.getElem_toArray, List.getElem_cons_zero, List.getElem_cons_succ]
      refine wpAnyH_take (i := 2) (v := .string bt) rfl (by kernel_rfl) (by kernel_rfl) (by kernel_rfl) (fun _ _ _ h => h) (Or.inl ⟨by rfl, fun w' hw' => by go_simp⟩) hH ?_
      try simp only [Act.put, List.setIfInBounds_toArray, List.set_cons_zero, List.set_cons_succ, List.getElem_toArray, List.getElem_cons_zero, List.getElem_cons_succ]
      refine wpAnyH_take (i := 3) rfl (by kernel_rfl) (by kernel_rfl) (by kernel_rfl) (fun _ _ _ h => h) (yieldsIf_load_mid (by rfl) 34 (.tmp 3) rfl B 0 rfl (List.map (bytesV kb) (List.range 32)) _ (fun w' hw' => range_row hw'.kr) und34 rfl hs1) hH ?_
      try simp only [Act.put, List.setIfInBounds_toArray, List.set_cons_zero, List.set_cons_succ, List.getElem_toArray, List.getElem_cons_zero, List.getElem_cons_succ]
      refine wpAnyH_take (i := 4) (v := .string head) rfl (by kernel_rfl) (by kernel_rfl) (by kernel_rfl) (fun _ _ _ h => h) (Or.inl ⟨by rfl, fun w' hw' => by go_simp⟩) hH ?_
      try simp only [Act.put, List.setIfInBounds_toArray, List.set_cons_zero, List.set_cons_succ, List.getElem_toArray, List.getElem_cons_zero, List.getElem_cons_succ]
      refine wpAnyH_take (i := 5) (v := .string box) rfl (by kernel_rfl) (by kernel_rfl) (by kernel_rfl) (fun _ _ _ h => h) (Or.inl ⟨by rfl, fun w' hw' => by go_simp⟩) hH ?_
      try simp only [Act.put, List.setIfInBounds_toArray, List.set_cons_zero, List.set_cons_succ, List.getElem_toArray, List.getElem_cons_zero, List.getElem_cons_succ]
      refine wpAnyH_take (i := 6) (v := .int .i64 (n : Int)) rfl (by kernel_rfl) (by kernel_rfl) (by kernel_rfl) (fun _ _ _ h => h) (Or.inl ⟨by rfl, fun w' hw' => by go_simp⟩) hH ?_
      try simp only [Act.put, List.setIfInBounds_toArray, List.set_cons_zero, List.set_cons_succ, List.getElem_toArray, List.getElem_cons_zero, List.getElem_cons_succ]
      refine wpAnyH_take (i := 7) (v := .string f) rfl (by kernel_rfl) (by kernel_rfl) (by kernel_rfl) (fun _ _ _ h => h) (Or.inl ⟨by rfl, fun w' hw' => by go_simp⟩) hH ?_
      try simp only [Act.put, List.setIfInBounds_toArray, List.set_cons_zero, List.set_cons_succ, List.getElem_toArray, List.getElem_cons_zero, List.getElem_cons_succ]
      refine wpAnyH_ready (rs := [8]) (by kernel_rfl) (by simp) ?_
      refine AllReadyH.cons rfl (fun K hK => ?_) AllReadyH.nil
      go_simp
      go_at_call 76
      refine (htag _).mono ?_
      rintro e wy ⟨rfl, hbwy⟩
      refine hK.out _ _ (hH.past hbwy) (fun hy => ?_)
      clear hK K
      try simp only [Act.put, List.setIfInBounds_toArray, List.set_cons_zero, List.set_cons_succ, List.getElem_toArray, List.getElem_cons_zero, List.getElem_cons_succ]
      refine wpAnyH_take (i := 9) (v := .bool false) rfl (by kernel_rfl) (by kernel_rfl) (by kernel_rfl) (fun _ _ _ h => h) (Or.inl ⟨by rfl, fun w' hw' => by go_simp⟩) hy ?_
      try simp only [Act.put, List.setIfInBounds_toArray, List.set_cons_zero, List.set_cons_succ, List.getElem_toArray, List.getElem_cons_zero, List.getElem_cons_succ]
      refine wpAnyH_done (by kernel_rfl) ?_ _
      go_upto_region 6 with fail
      have t1 : SP B kb w wy.drew := ⟨hy.kr.drew, hy.below.drew⟩
      clear hy hH
      refine wp_region_held_drew (S := fun w' => SP B kb w w') (by kernel_rfl) t1 (fun hH => ?_)
      clear t1
      refine wpAnyH_take (i := 0) rfl (by kernel_rfl) (by kernel_rfl) (by kernel_rfl) (fun _ _ _ h => h) (yieldsIf_load_mid (by rfl) 34 (.tmp 3) rfl B 0 rfl (List.map (bytesV kb) (List.range 32)) _ (fun w' hw' => range_row hw'.kr) und34 rfl hs1) hH ?_
      try simp only [Act.put, List.setIfInBounds_toArray, List.set_cons_zero, List.set_cons_succ, List.getElem_toArray, List.getElem_cons_zero, List.getElem_cons_succ]
      refine wpAnyH_take (i := 2) (v := .string box) rfl (by kernel_rfl) (by kernel_rfl) (by kernel_rfl) (fun _ _ _ h => h) (Or.inl ⟨by rfl, fun w' hw' => by go_simp⟩) hH ?_
      try simp only [Act.put, List.setIfInBounds_toArray, List.set_cons_zero, List.set_cons_succ, List.getElem_toArray, List.getElem_cons_zero, List.getElem_cons_succ]
      refine wpAnyH_take (i := 4) (v := .string box) rfl (by kernel_rfl) (by kernel_rfl) (by kernel_rfl) (fun _ _ _ h => h) (Or.inl ⟨by rfl, fun w' hw' => by go_simp⟩) hH ?_
      try simp only [Act.put, List.setIfInBounds_toArray, List.set_cons_zero, List.set_cons_succ, List.getElem_toArray, List.getElem_cons_zero, List.getElem_cons_succ]
      refine wpAnyH_take (i := 5) (v := .int .i64 (n : Int)) rfl (by kernel_rfl) (by kernel_rfl) (by kernel_rfl) (fun _ _ _ h => h) (Or.inl ⟨by rfl, fun w' hw' => by go_simp⟩) hH ?_
      try simp only [Act.put, List.setIfInBounds_toArray, List.set_cons_zero, List.set_cons_succ, List.getElem_toArray, List.getElem_cons_zero, List.getElem_cons_succ]
      refine wpAnyH_take (i := 6) (v := .string dd) rfl (by kernel_rfl) (by kernel_rfl) (by kernel_rfl) (fun _ _ _ h => h) (Or.inl ⟨by rfl, fun w' hw' => by go_simp⟩) hH ?_
      try simp only [Act.put, List.setIfInBounds_toArray, List.set_cons_zero, List.set_cons_succ, List.getElem_toArray, List.getElem_cons_zero, List.getElem_cons_succ]
      refine wpAnyH_ready (rs := [1]) (by kernel_rfl) (by simp) ?_
      refine AllReadyH.cons rfl (fun K hK => ?_) AllReadyH.nil
      go_simp
      go_at_call 75
      refine (hown _).mono ?_
      rintro e w1 ⟨rfl, hbw1⟩
      refine hK.out _ _ (hH.past hbw1) (fun h1 => ?_)
      clear hK K
      try simp only [Act.put, List.setIfInBounds_toArray, List.set_cons_zero, List.set_cons_succ, List.getElem_toArray, List.getElem_cons_zero, List.getElem_cons_succ]
      refine wpAnyH_ready (rs := [3]) (by kernel_rfl) (by simp) ?_
      refine AllReadyH.cons rfl (fun K hK => ?_) AllReadyH.nil
      go_simp
      go_at_call 43
      refine (hnon _).mono ?_
      rintro e w2 ⟨rfl, hbw2⟩
      refine hK.out _ _ (h1.past hbw2) (fun h2 => ?_)
      clear hK K
      try simp only [Act.put, List.setIfInBounds_toArray, List.set_cons_zero, List.set_cons_succ, List.getElem_toArray, List.getElem_cons_zero, List.getElem_cons_succ]
      refine wpAnyH_ready (rs := [7]) (by kernel_rfl) (by simp) ?_
      refine AllReadyH.cons rfl (fun K hK => ?_) AllReadyH.nil
      go_simp
      go_at_call 74
      refine (hxor _).mono ?_
      rintro e w3 ⟨rfl, hbw3⟩
      refine hK.out _ _ (h2.past hbw3) (fun h3 => ?_)
      clear hK K
      try simp only [Act.put, List.setIfInBounds_toArray, List.set_cons_zero, List.set_cons_succ, List.getElem_toArray, List.getElem_cons_zero, List.getElem_cons_succ]
      refine wpAnyH_take (i := 8) (v := .string x) rfl (by kernel_rfl) (by kernel_rfl) (by kernel_rfl) (fun _ _ _ h => h) (Or.inl ⟨by rfl, fun w' hw' => by go_simp⟩) h3 ?_
      try simp only [Act.put, List.setIfInBounds_toArray, List.set_cons_zero, List.set_cons_succ, List.getElem_toArray, List.getElem_cons_zero, List.getElem_cons_succ]
      refine wpAnyH_take (i := 9) (v := .int .i64 0) rfl (by kernel_rfl) (by kernel_rfl) (by kernel_rfl) (fun _ _ _ h => h) (Or.inl ⟨by rfl, fun w' hw' => by go_simp⟩) h3 ?_
      try simp only [Act.put, List.setIfInBounds_toArray, List.set_cons_zero, List.set_cons_succ, List.getElem_toArray, List.getElem_cons_zero, List.getElem_cons_succ]
      refine wpAnyH_done (by kernel_rfl) ?_ _
      go_wp2
      go_ret2
      exact ⟨rfl, hB ▸ h3.below⟩
    · have hfin : openV kb head box = (⟨#[]⟩, 5) := by rw [openV, if_neg h44, ← hfb, ← hbT, if_neg heq]
      obtain ⟨t, ht⟩ : ∃ t, tagV kb head f = t := ⟨_, rfl⟩
      rw [ht] at htag heq
      have heq2 : ¬ t.toList = bt.toList := fun e => heq (by
        rw [ByteArray.toList_eq, ByteArray.toList_eq] at e
        exact ByteArray.ext (Array.toList_inj.1 e))
      have heq3 : ¬ bt.toList = t.toList := fun e => heq2 e.symm
      rw [hfin]
      clear hfin ht hbT hfb h44 hn hfs hk hh
      go_enter Try.func41, Try.ntmps41
      have a0 : World.rowIs (w.alloc (Obj.cells (arrA 32 (bytesV kb)) 34)) w.heap.size 34 32 (bytesV kb) := row_of_heap (heap_new w _)
      have a2 : Below w.heap.size w (w.alloc (Obj.cells (arrA 32 (bytesV kb)) 34)) := (Below.refl _ w).alloc (Nat.le_refl _) _
      go_upto_region 4 with fail
      obtain ⟨W0, hW0⟩ : ∃ W0, (w.alloc (Obj.cells (arrA 32 (bytesV kb)) 34)) = W0 := ⟨_, rfl⟩
      rw [hW0] at a0 a2 ⊢
      clear hW0
      obtain ⟨B, hB⟩ : ∃ B, w.heap.size = B := ⟨_, rfl⟩
      rw [hB] at a0 a2 ⊢
      have t1 : SP B kb w W0.drew := ⟨a0, a2.drew⟩
      clear a0 a2
      refine wp_region_held_drew (S := fun w' => SP B kb w w') (by kernel_rfl) t1 (fun hH => ?_)
      clear t1
      refine wpAnyH_take (i := 0) (v := .string box) rfl (by kernel_rfl) (by kernel_rfl) (by kernel_rfl) (fun _ _ _ h => h) (Or.inl ⟨by rfl, fun w' hw' => by go_simp⟩) hH ?_
      try simp only [Act.put, List.setIfInBounds_toArray, List.set_cons_zero, List.set_cons_succ, List.getElem_toArray, List.getElem_cons_zero, List.getElem_cons_succ]
      refine wpAnyH_take (i := 1) (v := .int .i64 (n : Int)) rfl (by kernel_rfl) (by kernel_rfl) (by kernel_rfl) (fun _ _ _ h => h) (Or.inl ⟨by rfl, fun w' hw' => by go_simp⟩) hH ?_
      try simp only [Act.put, List.setIfInBounds_toArray, List.set_cons_zero, List.set_cons_succ, List.getElem_toArray, List.getElem_cons_zero, List.getElem_cons_succ]
      refine wpAnyH_take (i := 2) (v := .string bt) rfl (by kernel_rfl) (by kernel_rfl) (by kernel_rfl) (fun _ _ _ h => h) (Or.inl ⟨by rfl, fun w' hw' => by go_simp⟩) hH ?_
      try simp only [Act.put, List.setIfInBounds_toArray, List.set_cons_zero, List.set_cons_succ, List.getElem_toArray, List.getElem_cons_zero, List.getElem_cons_succ]
      refine wpAnyH_take (i := 3) rfl (by kernel_rfl) (by kernel_rfl) (by kernel_rfl) (fun _ _ _ h => h) (yieldsIf_load_mid (by rfl) 34 (.tmp 3) rfl B 0 rfl (List.map (bytesV kb) (List.range 32)) _ (fun w' hw' => range_row hw'.kr) und34 rfl hs1) hH ?_
      try simp only [Act.put, List.setIfInBounds_toArray, List.set_cons_zero, List.set_cons_succ, List.getElem_toArray, List.getElem_cons_zero, List.getElem_cons_succ]
      refine wpAnyH_take (i := 4) (v := .string head) rfl (by kernel_rfl) (by kernel_rfl) (by kernel_rfl) (fun _ _ _ h => h) (Or.inl ⟨by rfl, fun w' hw' => by go_simp⟩) hH ?_
      try simp only [Act.put, List.setIfInBounds_toArray, List.set_cons_zero, List.set_cons_succ, List.getElem_toArray, List.getElem_cons_zero, List.getElem_cons_succ]
      refine wpAnyH_take (i := 5) (v := .string box) rfl (by kernel_rfl) (by kernel_rfl) (by kernel_rfl) (fun _ _ _ h => h) (Or.inl ⟨by rfl, fun w' hw' => by go_simp⟩) hH ?_
      try simp only [Act.put, List.setIfInBounds_toArray, List.set_cons_zero, List.set_cons_succ, List.getElem_toArray, List.getElem_cons_zero, List.getElem_cons_succ]
      refine wpAnyH_take (i := 6) (v := .int .i64 (n : Int)) rfl (by kernel_rfl) (by kernel_rfl) (by kernel_rfl) (fun _ _ _ h => h) (Or.inl ⟨by rfl, fun w' hw' => by go_simp⟩) hH ?_
      try simp only [Act.put, List.setIfInBounds_toArray, List.set_cons_zero, List.set_cons_succ, List.getElem_toArray, List.getElem_cons_zero, List.getElem_cons_succ]
      refine wpAnyH_take (i := 7) (v := .string f) rfl (by kernel_rfl) (by kernel_rfl) (by kernel_rfl) (fun _ _ _ h => h) (Or.inl ⟨by rfl, fun w' hw' => by go_simp⟩) hH ?_
      try simp only [Act.put, List.setIfInBounds_toArray, List.set_cons_zero, List.set_cons_succ, List.getElem_toArray, List.getElem_cons_zero, List.getElem_cons_succ]
      refine wpAnyH_ready (rs := [8]) (by kernel_rfl) (by simp) ?_
      refine AllReadyH.cons rfl (fun K hK => ?_) AllReadyH.nil
      go_simp
      go_at_call 76
      refine (htag _).mono ?_
      rintro e wy ⟨rfl, hbwy⟩
      refine hK.out _ _ (hH.past hbwy) (fun hy => ?_)
      clear hK K
      try simp only [Act.put, List.setIfInBounds_toArray, List.set_cons_zero, List.set_cons_succ, List.getElem_toArray, List.getElem_cons_zero, List.getElem_cons_succ]
      refine wpAnyH_take (i := 9) (v := .bool true) rfl (by kernel_rfl) (by kernel_rfl) (by kernel_rfl) (fun _ _ _ h => h) (Or.inl ⟨by rfl, fun w' hw' => by go_simp⟩) hy ?_
      try simp only [Act.put, List.setIfInBounds_toArray, List.set_cons_zero, List.set_cons_succ, List.getElem_toArray, List.getElem_cons_zero, List.getElem_cons_succ]
      refine wpAnyH_done (by kernel_rfl) ?_ _
      go_wp2
      go_ret2
      exact ⟨rfl, hB ▸ hy.below⟩

end Go.Proofs.Ytnjcganknpnjcaa
namespace Go.Proofs.Ytnjcganknpnjcaa
open Go.RowKit

def k1B : Nat → Nat := fun i => if i = 0 then 1 else 0
theorem k1B_bytes : Bytes k1B := fun i => by unfold k1B; split <;> omega
theorem k1B_arr : arrA 32 (bytesV k1B) = #[Value.int IntKind.u8 1, Value.int IntKind.u8 0, Value.int IntKind.u8 0, Value.int IntKind.u8 0, Value.int IntKind.u8 0, Value.int IntKind.u8 0, Value.int IntKind.u8 0, Value.int IntKind.u8 0, Value.int IntKind.u8 0, Value.int IntKind.u8 0, Value.int IntKind.u8 0, Value.int IntKind.u8 0, Value.int IntKind.u8 0, Value.int IntKind.u8 0, Value.int IntKind.u8 0, Value.int IntKind.u8 0, Value.int IntKind.u8 0, Value.int IntKind.u8 0, Value.int IntKind.u8 0, Value.int IntKind.u8 0, Value.int IntKind.u8 0, Value.int IntKind.u8 0, Value.int IntKind.u8 0, Value.int IntKind.u8 0, Value.int IntKind.u8 0, Value.int IntKind.u8 0, Value.int IntKind.u8 0, Value.int IntKind.u8 0, Value.int IntKind.u8 0, Value.int IntKind.u8 0, Value.int IntKind.u8 0, Value.int IntKind.u8 0] := rfl
theorem z12_arr : arrA 12 (bytesV (fun _ => 0)) = #[Value.int IntKind.u8 0, Value.int IntKind.u8 0, Value.int IntKind.u8 0, Value.int IntKind.u8 0, Value.int IntKind.u8 0, Value.int IntKind.u8 0, Value.int IntKind.u8 0, Value.int IntKind.u8 0, Value.int IntKind.u8 0, Value.int IntKind.u8 0, Value.int IntKind.u8 0, Value.int IntKind.u8 0] := rfl

set_option maxRecDepth 100000 in
set_option maxHeartbeats 2000000 in
theorem awakeS_any (w : World) : Calls Try.prog 37 #[] w fun e w' => e = .returned (.bool true) ∧ Below w.heap.size w w' := by
  have hos := open_seal k1B (fun _ => 0) ⟨#[104]⟩ ⟨#[]⟩ (fun _ => by show 0 < 256; omega)
  have hbs := sealV_size k1B (fun _ => 0) ⟨#[104]⟩ ⟨#[]⟩
  have c1 := fun W => seal_any k1B (fun _ => 0) ⟨#[104]⟩ ⟨#[]⟩ W k1B_bytes (fun _ => by show 0 < 256; omega) (by decide) (by decide)
  obtain ⟨b, hb⟩ : ∃ b, sealV k1B (fun _ => 0) ⟨#[104]⟩ ⟨#[]⟩ = b := ⟨_, rfl⟩
  have hz : (⟨#[]⟩ : ByteArray).size = 0 := rfl
  rw [hb] at hos hbs c1
  rw [hz] at hbs
  have c2 := fun W => open_any k1B ⟨#[104]⟩ b W k1B_bytes (by decide) (by omega)
  rw [hos] at c2
  rw [k1B_arr, z12_arr] at c1
  rw [k1B_arr] at c2
  have e1 : (b.size : Int) = 44 := by omega
  clear hos hb hz
  go_enter Try.func37, Try.ntmps37
  go_wp2_with fail
  refine (c1 _).mono ?_
  rintro e w1 ⟨rfl, hb1⟩
  go_wp2_with fail
  refine (c2 _).mono ?_
  rintro e w2 ⟨rfl, hb2⟩
  have hb3 := hb1.trans (hb2.mono hb1.size)
  go_wp2
  go_ret
  exact ⟨rfl, hb3⟩

set_option maxRecDepth 100000 in
set_option maxHeartbeats 4000000 in
theorem SealBoxes_walk (kb : Nat → Nat) (hk : Bytes kb) (nb : Nat → Nat) (hn : Bytes nb) (head : ByteArray) (_ : head.size ≤ maxLen) (data : ByteArray) (_ : data.size ≤ maxLen) (w : World) :
    Calls Try.prog 11 #[.agg (arrA 32 (bytesV kb)), .agg (arrA 12 (bytesV nb)), .string head, .string data] w fun e w' => e = .returned (.bool true) ∧ Below w.heap.size w w' := by
  by_cases h1 : head.size ≤ 300
  · have t0 : decide ((300 : Int) < (head.size : Int)) = false := decide_eq_false (by omega)
    by_cases h2 : data.size ≤ 300
    · have t1 : decide ((300 : Int) < (data.size : Int)) = false := decide_eq_false (by omega)
      have hos := open_seal kb nb head data hn
      have hbs := sealV_size kb nb head data
      have c1 := fun W => seal_any kb nb head data W hk hn (by omega) (by omega)
      have c3 := fun W => rseal_any kb nb head data W hk hn (by omega) (by omega)
      obtain ⟨b, hb⟩ : ∃ b, sealV kb nb head data = b := ⟨_, rfl⟩
      have c2 := fun W => open_any kb head b W hk (by omega) (by rw [← hb, hbs]; omega)
      rw [hb] at hos hbs c1 c3
      rw [hos] at c2
      have e1 : (b.size : Int) = (data.size : Int) + 44 := by omega
      have e2 : wrap64 ((data.size : Int) + 44) = (data.size : Int) + 44 := by unfold wrap64; omega
      have hbl : b.size ≤ 1000 := by omega
      clear hos hbs hb
      go_enter Try.func11, Try.ntmps11
      have a0 : World.rowIs ((w.alloc (Obj.cells (arrA 32 (bytesV kb)) 34)).alloc (Obj.cells (arrA 12 (bytesV nb)) 49)) w.heap.size 34 32 (bytesV kb) := (row_of_heap (heap_new w _)).alloc _
      have a1 : World.rowIs ((w.alloc (Obj.cells (arrA 32 (bytesV kb)) 34)).alloc (Obj.cells (arrA 12 (bytesV nb)) 49)) (w.heap.size + 1) 49 12 (bytesV nb) := by
        have := heap_new (w.alloc (Obj.cells (arrA 32 (bytesV kb)) 34)) (Obj.cells (arrA 12 (bytesV nb)) 49)
        rw [World.size_alloc] at this
        exact row_of_heap this
      have a2 : Below w.heap.size w ((w.alloc (Obj.cells (arrA 32 (bytesV kb)) 34)).alloc (Obj.cells (arrA 12 (bytesV nb)) 49)) := ((Below.refl _ w).alloc (Nat.le_refl _) _).alloc (by simp) _
      go_upto_region 1 with fail
      obtain ⟨W0, hW0⟩ : ∃ W0, ((w.alloc (Obj.cells (arrA 32 (bytesV kb)) 34)).alloc (Obj.cells (arrA 12 (bytesV nb)) 49)) = W0 := ⟨_, rfl⟩
      rw [hW0] at a0 a1 a2 ⊢
      clear hW0
      have q0 : SQ w.heap.size kb nb w W0 := ⟨a0, a1, a2⟩
      clear a0 a1 a2
      go_wp2_with (first | (refine load_arr rfl 34 _ rfl 32 5 34 w.heap.size _ rfl q0.kr und34 siz34 ?_) | (refine load_arr rfl 49 _ rfl 12 5 49 (w.heap.size + 1) _ rfl q0.nr und49 siz49 ?_))
      refine (c1 _).mono ?_
      rintro e w1 ⟨rfl, hb1⟩
      have q1 := q0.past hb1
      go_wp2_with (first | (refine load_arr rfl 34 _ rfl 32 5 34 w.heap.size _ rfl q1.kr und34 siz34 ?_) | (refine load_arr rfl 49 _ rfl 12 5 49 (w.heap.size + 1) _ rfl q1.nr und49 siz49 ?_))
      refine (c2 _).mono ?_
      rintro e w2 ⟨rfl, hb2⟩
      have q2 := q1.past hb2
      go_wp2_with (first | (refine load_arr rfl 34 _ rfl 32 5 34 w.heap.size _ rfl q2.kr und34 siz34 ?_) | (refine load_arr rfl 49 _ rfl 12 5 49 (w.heap.size + 1) _ rfl q2.nr und49 siz49 ?_))
      refine (c3 _).mono ?_
      rintro e w3 ⟨rfl, hb3⟩
      have q3 := q2.past hb3
      go_wp2_with fail
      refine (awakeS_any _).mono ?_
      rintro e w4 ⟨rfl, hb4⟩
      have q4 := q3.past hb4
      go_wp2
      go_ret
      exact ⟨rfl, q4.below⟩
    · have t1 : decide ((300 : Int) < (data.size : Int)) = true := decide_eq_true (by omega)
      go_enter Try.func11, Try.ntmps11
      have a2 : Below w.heap.size w ((w.alloc (Obj.cells (arrA 32 (bytesV kb)) 34)).alloc (Obj.cells (arrA 12 (bytesV nb)) 49)) := ((Below.refl _ w).alloc (Nat.le_refl _) _).alloc (by simp) _
      go_wp2_with fail
      refine (awakeS_any _).mono ?_
      rintro e w1 ⟨rfl, hb1⟩
      have c2 := a2.trans (hb1.mono a2.size)
      go_wp2
      go_ret
      exact ⟨rfl, c2⟩
  · have t0 : decide ((300 : Int) < (head.size : Int)) = true := decide_eq_true (by omega)
    go_enter Try.func11, Try.ntmps11
    have a2 : Below w.heap.size w ((w.alloc (Obj.cells (arrA 32 (bytesV kb)) 34)).alloc (Obj.cells (arrA 12 (bytesV nb)) 49)) := ((Below.refl _ w).alloc (Nat.le_refl _) _).alloc (by simp) _
    go_wp2_with fail
    refine (awakeS_any _).mono ?_
    rintro e w1 ⟨rfl, hb1⟩
    have c2 := a2.trans (hb1.mono a2.size)
    go_wp2
    go_ret
    exact ⟨rfl, c2⟩

set_option maxRecDepth 100000 in
set_option maxHeartbeats 4000000 in
theorem SealOpens_walk (kb : Nat → Nat) (hk : Bytes kb) (head : ByteArray) (_ : head.size ≤ maxLen) (box : ByteArray) (_ : box.size ≤ maxLen) (w : World) :
    Calls Try.prog 12 #[.agg (arrA 32 (bytesV kb)), .string head, .string box] w fun e w' => e = .returned (.bool true) ∧ Below w.heap.size w w' := by
  by_cases h1 : head.size ≤ 400
  · have t0 : decide ((400 : Int) < (head.size : Int)) = false := decide_eq_false (by omega)
    by_cases h2 : box.size ≤ 400
    · have t1 : decide ((400 : Int) < (box.size : Int)) = false := decide_eq_false (by omega)
      have c1 := fun W => open_any kb head box W hk (by omega) (by omega)
      have c2 := fun W => ropen_any kb head box W hk (by omega) (by omega)
      obtain ⟨s, hs⟩ : ∃ s, (openV kb head box).1 = s := ⟨_, rfl⟩
      obtain ⟨n, hn⟩ : ∃ n, (openV kb head box).2 = n := ⟨_, rfl⟩
      rw [hs, hn] at c1 c2
      clear hs hn
      go_enter Try.func12, Try.ntmps12
      have a0 : World.rowIs (w.alloc (Obj.cells (arrA 32 (bytesV kb)) 34)) w.heap.size 34 32 (bytesV kb) := row_of_heap (heap_new w _)
      have a2 : Below w.heap.size w (w.alloc (Obj.cells (arrA 32 (bytesV kb)) 34)) := (Below.refl _ w).alloc (Nat.le_refl _) _
      go_upto_region 1 with fail
      obtain ⟨W0, hW0⟩ : ∃ W0, (w.alloc (Obj.cells (arrA 32 (bytesV kb)) 34)) = W0 := ⟨_, rfl⟩
      rw [hW0] at a0 a2 ⊢
      clear hW0
      have q0 : SP w.heap.size kb w W0 := ⟨a0, a2⟩
      clear a0 a2
      go_wp2_with ((refine load_arr rfl 34 _ rfl 32 5 34 w.heap.size _ rfl q0.kr und34 siz34 ?_))
      refine (c1 _).mono ?_
      rintro e w1 ⟨rfl, hb1⟩
      have q1 := q0.past hb1
      go_wp2_with ((refine load_arr rfl 34 _ rfl 32 5 34 w.heap.size _ rfl q1.kr und34 siz34 ?_))
      refine (c2 _).mono ?_
      rintro e w2 ⟨rfl, hb2⟩
      have q2 := q1.past hb2
      go_wp2_with fail
      refine (awakeS_any _).mono ?_
      rintro e w4 ⟨rfl, hb4⟩
      have q4 := q2.past hb4
      go_wp2
      go_ret
      exact ⟨rfl, q4.below⟩
    · have t1 : decide ((400 : Int) < (box.size : Int)) = true := decide_eq_true (by omega)
      go_enter Try.func12, Try.ntmps12
      have a2 : Below w.heap.size w (w.alloc (Obj.cells (arrA 32 (bytesV kb)) 34)) := (Below.refl _ w).alloc (Nat.le_refl _) _
      go_wp2_with fail
      refine (awakeS_any _).mono ?_
      rintro e w1 ⟨rfl, hb1⟩
      have c2 := a2.trans (hb1.mono a2.size)
      go_wp2
      go_ret
      exact ⟨rfl, c2⟩
  · have t0 : decide ((400 : Int) < (head.size : Int)) = true := decide_eq_true (by omega)
    go_enter Try.func12, Try.ntmps12
    have a2 : Below w.heap.size w (w.alloc (Obj.cells (arrA 32 (bytesV kb)) 34)) := (Below.refl _ w).alloc (Nat.le_refl _) _
    go_wp2_with fail
    refine (awakeS_any _).mono ?_
    rintro e w1 ⟨rfl, hb1⟩
    have c2 := a2.trans (hb1.mono a2.size)
    go_wp2
    go_ret
    exact ⟨rfl, c2⟩
end Go.Proofs.Ytnjcganknpnjcaa
