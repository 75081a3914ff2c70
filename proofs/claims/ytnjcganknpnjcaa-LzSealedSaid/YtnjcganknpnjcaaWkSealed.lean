/- The walk of LzSealed. -/
import Derived.Test.YtnjcganknpnjcaaGm
import Derived.Test.YtnjcganknpnjcaaGp
set_option linter.unusedVariables false
set_option linter.unusedSimpArgs false
namespace Go.Proofs.Ytnjcganknpnjcaa
open Go.RowKit
set_option maxRecDepth 100000 in
set_option maxHeartbeats 4000000 in
theorem LzSealed_walk (kb : Nat → Nat) (hk : Bytes kb) (s : ByteArray) (_ : s.size ≤ maxLen) (w : World) :
    Calls Try.prog 18 #[.agg (arrA 32 (bytesV kb)), .string s] w fun e w' => e = .returned (.bool true) ∧ Below w.heap.size w w' := by
  by_cases h1 : s.size ≤ 600
  · have t0 : decide ((600 : Int) < (s.size : Int)) = false := decide_eq_false (by omega)
    have hs1 : (Try.prog.info? 34).map (·.size) = some (List.map (bytesV kb) (List.range 32)).length := by rw [siz34]; simp
    have hl : (pack s).length ≤ 80000 := by have := packs_plain s; omega
    have hp := back_plain s (by omega)
    have c0 := fun W => nonce_any s W
    have hnb := nonV_bytes s
    obtain ⟨nv, hnv⟩ : ∃ nv, nonV s = nv := ⟨_, rfl⟩
    rw [hnv] at c0 hnb
    have c1 := fun W => pack_any s W (by omega)
    have c4 : ∀ W : World, Calls Try.prog 28 #[.string ⟨(pack s).toArray⟩, .int .i64 (s.size : Int)] W fun e w' => e = .returned (.tuple #[.string s, .int .i64 0]) ∧ Below W.heap.size W w' := fun W =>
      (unpack_any ⟨(pack s).toArray⟩ s.size W (by show (pack s).toArray.size ≤ 100000; rw [List.size_toArray]; omega) (by omega) (by omega)).mono (by
        rintro e w' ⟨rfl, hb⟩
        refine ⟨?_, hb⟩
        rw [show (⟨(pack s).toArray⟩ : ByteArray).data.toList = pack s from rfl, hp, if_neg (by omega), str_of_bl])
    have hpl : (⟨(pack s).toArray⟩ : ByteArray).size ≤ 80000 := by show (pack s).toArray.size ≤ _; rw [List.size_toArray]; exact hl
    obtain ⟨pk, hpk⟩ : ∃ pk : ByteArray, ⟨(pack s).toArray⟩ = pk := ⟨_, rfl⟩
    rw [hpk] at c1 c4 hpl
    have c2 := fun W => seal_any kb nv ⟨#[108, 122]⟩ pk W hk hnb (by decide) (by omega)
    have hos := open_seal kb nv ⟨#[108, 122]⟩ pk hnb
    have hbs := sealV_size kb nv ⟨#[108, 122]⟩ pk
    obtain ⟨bx, hbx⟩ : ∃ bx, sealV kb nv ⟨#[108, 122]⟩ pk = bx := ⟨_, rfl⟩
    rw [hbx] at c2 hos hbs
    have c3 := fun W => open_any kb ⟨#[108, 122]⟩ bx W hk (by decide) (by omega)
    rw [hos] at c3
    clear hos hbs hbx hpk hpl hp hl hnv
    go_enter Try.func18, Try.ntmps18
    have a0 : World.rowIs (w.alloc (Obj.cells (arrA 32 (bytesV kb)) 34)) w.heap.size 34 32 (bytesV kb) := row_of_heap (heap_new w _)
    have a2 : Below w.heap.size w (w.alloc (Obj.cells (arrA 32 (bytesV kb)) 34)) := (Below.refl _ w).alloc (Nat.le_refl _) _
    go_upto_region 1 with fail
    obtain ⟨W0, hW0⟩ : ∃ W0, (w.alloc (Obj.cells (arrA 32 (bytesV kb)) 34)) = W0 := ⟨_, rfl⟩
    rw [hW0] at a0 a2 ⊢
    clear hW0
    have q0 : SP w.heap.size kb w W0 := ⟨a0, a2⟩
    clear a0 a2
    go_upto_region 3 with fail
    have t1' : SP w.heap.size kb w W0.drew := ⟨q0.kr.drew, q0.below.drew⟩
    clear q0
    refine wp_region_held_drew (S := fun w' => SP w.heap.size kb w w') (by kernel_rfl) t1' (fun hH => ?_)
    clear t1'
    refine wpAnyH_take (i := 0) rfl (by kernel_rfl) (by kernel_rfl) (by kernel_rfl) (fun _ _ _ h => h) (yieldsIf_load_mid (by rfl) 34 (.tmp 2) rfl w.heap.size 0 rfl (List.map (bytesV kb) (List.range 32)) _ (fun w' hw' => range_row hw'.kr) und34 rfl hs1) hH ?_
    try simp only [Act.put, List.setIfInBounds_toArray, List.set_cons_zero, List.set_cons_succ, List.getElem_toArray, List.getElem_cons_zero, List.getElem_cons_succ]
    refine wpAnyH_take (i := 1) rfl (by kernel_rfl) (by kernel_rfl) (by kernel_rfl) (fun _ _ _ h => h) (yieldsIf_load_mid (by rfl) 34 (.tmp 2) rfl w.heap.size 0 rfl (List.map (bytesV kb) (List.range 32)) _ (fun w' hw' => range_row hw'.kr) und34 rfl hs1) hH ?_
    try simp only [Act.put, List.setIfInBounds_toArray, List.set_cons_zero, List.set_cons_succ, List.getElem_toArray, List.getElem_cons_zero, List.getElem_cons_succ]
    refine wpAnyH_take (i := 2) (v := .string s) rfl (by kernel_rfl) (by kernel_rfl) (by kernel_rfl) (fun _ _ _ h => h) (Or.inl ⟨by rfl, fun w' hw' => by go_simp⟩) hH ?_
    try simp only [Act.put, List.setIfInBounds_toArray, List.set_cons_zero, List.set_cons_succ, List.getElem_toArray, List.getElem_cons_zero, List.getElem_cons_succ]
    refine wpAnyH_take (i := 4) (v := .string s) rfl (by kernel_rfl) (by kernel_rfl) (by kernel_rfl) (fun _ _ _ h => h) (Or.inl ⟨by rfl, fun w' hw' => by go_simp⟩) hH ?_
    try simp only [Act.put, List.setIfInBounds_toArray, List.set_cons_zero, List.set_cons_succ, List.getElem_toArray, List.getElem_cons_zero, List.getElem_cons_succ]
    refine wpAnyH_ready (rs := [3]) (by kernel_rfl) (by simp) ?_
    refine AllReadyH.cons rfl (fun K hK => ?_) AllReadyH.nil
    go_simp
    go_at_call 42
    refine (c0 _).mono ?_
    rintro e w1 ⟨rfl, hbw1⟩
    refine hK.out _ _ (hH.past hbw1) (fun h1 => ?_)
    clear hK K
    try simp only [Act.put, List.setIfInBounds_toArray, List.set_cons_zero, List.set_cons_succ, List.getElem_toArray, List.getElem_cons_zero, List.getElem_cons_succ]
    refine wpAnyH_ready (rs := [5]) (by kernel_rfl) (by simp) ?_
    refine AllReadyH.cons rfl (fun K hK => ?_) AllReadyH.nil
    go_simp
    go_at_call 26
    refine (c1 _).mono ?_
    rintro e w2 ⟨rfl, hbw2⟩
    refine hK.out _ _ (h1.past hbw2) (fun h2 => ?_)
    clear hK K
    try simp only [Act.put, List.setIfInBounds_toArray, List.set_cons_zero, List.set_cons_succ, List.getElem_toArray, List.getElem_cons_zero, List.getElem_cons_succ]
    refine wpAnyH_ready (rs := [6]) (by kernel_rfl) (by simp) ?_
    refine AllReadyH.cons rfl (fun K hK => ?_) AllReadyH.nil
    go_simp
    go_at_call 38
    refine (c2 _).mono ?_
    rintro e w3 ⟨rfl, hbw3⟩
    refine hK.out _ _ (h2.past hbw3) (fun h3 => ?_)
    clear hK K
    try simp only [Act.put, List.setIfInBounds_toArray, List.set_cons_zero, List.set_cons_succ, List.getElem_toArray, List.getElem_cons_zero, List.getElem_cons_succ]
    refine wpAnyH_ready (rs := [7]) (by kernel_rfl) (by simp) ?_
    refine AllReadyH.cons rfl (fun K hK => ?_) AllReadyH.nil
    go_simp
    go_at_call 39
    refine (c3 _).mono ?_
    rintro e w4 ⟨rfl, hbw4⟩
    refine hK.out _ _ (h3.past hbw4) (fun h4 => ?_)
    clear hK K
    try simp only [Act.put, List.setIfInBounds_toArray, List.set_cons_zero, List.set_cons_succ, List.getElem_toArray, List.getElem_cons_zero, List.getElem_cons_succ]
    refine wpAnyH_take (i := 8) (v := .tuple #[.string pk, .int .i64 0]) rfl (by kernel_rfl) (by kernel_rfl) (by kernel_rfl) (fun _ _ _ h => h) (Or.inl ⟨by rfl, fun w' hw' => by go_simp⟩) h4 ?_
    try simp only [Act.put, List.setIfInBounds_toArray, List.set_cons_zero, List.set_cons_succ, List.getElem_toArray, List.getElem_cons_zero, List.getElem_cons_succ]
    refine wpAnyH_take (i := 9) (v := .string pk) rfl (by kernel_rfl) (by kernel_rfl) (by kernel_rfl) (fun _ _ _ h => h) (Or.inl ⟨by rfl, fun w' hw' => by go_simp⟩) h4 ?_
    try simp only [Act.put, List.setIfInBounds_toArray, List.set_cons_zero, List.set_cons_succ, List.getElem_toArray, List.getElem_cons_zero, List.getElem_cons_succ]
    refine wpAnyH_take (i := 10) (v := .int .i64 0) rfl (by kernel_rfl) (by kernel_rfl) (by kernel_rfl) (fun _ _ _ h => h) (Or.inl ⟨by rfl, fun w' hw' => by go_simp⟩) h4 ?_
    try simp only [Act.put, List.setIfInBounds_toArray, List.set_cons_zero, List.set_cons_succ, List.getElem_toArray, List.getElem_cons_zero, List.getElem_cons_succ]
    refine wpAnyH_take (i := 11) (v := .string pk) rfl (by kernel_rfl) (by kernel_rfl) (by kernel_rfl) (fun _ _ _ h => h) (Or.inl ⟨by rfl, fun w' hw' => by go_simp⟩) h4 ?_
    try simp only [Act.put, List.setIfInBounds_toArray, List.set_cons_zero, List.set_cons_succ, List.getElem_toArray, List.getElem_cons_zero, List.getElem_cons_succ]
    refine wpAnyH_take (i := 12) (v := .int .i64 0) rfl (by kernel_rfl) (by kernel_rfl) (by kernel_rfl) (fun _ _ _ h => h) (Or.inl ⟨by rfl, fun w' hw' => by go_simp⟩) h4 ?_
    try simp only [Act.put, List.setIfInBounds_toArray, List.set_cons_zero, List.set_cons_succ, List.getElem_toArray, List.getElem_cons_zero, List.getElem_cons_succ]
    refine wpAnyH_done (by kernel_rfl) ?_ _
    go_wp2_with fail
    refine (c4 _).mono ?_
    rintro e w5 ⟨rfl, hb5⟩
    have q5 := h4.past hb5
    go_wp2_with fail
    refine (awake_any _).mono ?_
    rintro e w6 ⟨rfl, hb6⟩
    have q6 := q5.past hb6
    go_wp2
    go_ret
    exact ⟨rfl, q6.below⟩
  · have t0 : decide ((600 : Int) < (s.size : Int)) = true := decide_eq_true (by omega)
    go_enter Try.func18, Try.ntmps18
    have a2 : Below w.heap.size w (w.alloc (Obj.cells (arrA 32 (bytesV kb)) 34)) := (Below.refl _ w).alloc (Nat.le_refl _) _
    go_wp2_with fail
    refine (awake_any _).mono ?_
    rintro e w1 ⟨rfl, hb1⟩
    have c2 := a2.trans (hb1.mono a2.size)
    go_wp2
    go_ret
    exact ⟨rfl, c2⟩
end Go.Proofs.Ytnjcganknpnjcaa
