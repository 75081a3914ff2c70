/- The walks of SealKeys, SealNonces and SealTags. -/
import Derived.Test.YtnjcganknpnjcaaGm
import Derived.Test.YtnjcganknpnjcaaGn
set_option linter.unusedVariables false
set_option linter.unusedSimpArgs false
namespace Go.Proofs.Ytnjcganknpnjcaa
open Go.RowKit

theorem openV_or (kb : Nat → Nat) (head box : ByteArray) : (openV kb head box).2 = 0 ∨ ((openV kb head box).2 ≠ 0 ∧ (openV kb head box).1 = ⟨#[]⟩) := by
  unfold openV
  split
  · exact .inr ⟨by simp, rfl⟩
  · split
    · exact .inl rfl
    · exact .inr ⟨by simp, rfl⟩
theorem below_new (w : World) (o : Obj) : Below w.heap.size w (w.alloc o) := (Below.refl _ w).alloc (Nat.le_refl _) o
structure SK (B : Nat) (kb ob : Nat → Nat) (w wx : World) : Prop where
  kr : wx.rowIs B 34 32 (bytesV kb)
  orr : wx.rowIs (B + 1) 34 32 (bytesV ob)
  below : Below B w wx
theorem SK.past {B : Nat} {kb ob : Nat → Nat} {w wx wy : World} (t : SK B kb ob w wx) (hb : Below wx.heap.size wx wy) : SK B kb ob w wy :=
  ⟨t.kr.of_block (hb.block _ t.kr.lt), t.orr.of_block (hb.block _ t.orr.lt), t.below.trans (hb.mono (Nat.le_of_lt t.kr.lt))⟩
structure SN (B g : Nat) (kb nv : Nat → Nat) (w wx : World) : Prop where
  kr : wx.rowIs B 34 32 (bytesV kb)
  nr : wx.rowIs g 49 12 (bytesV nv)
  below : Below B w wx
theorem SN.past {B g : Nat} {kb nv : Nat → Nat} {w wx wy : World} (t : SN B g kb nv w wx) (hb : Below wx.heap.size wx wy) : SN B g kb nv w wy :=
  ⟨t.kr.of_block (hb.block _ t.kr.lt), t.nr.of_block (hb.block _ t.nr.lt), t.below.trans (hb.mono (Nat.le_of_lt t.kr.lt))⟩
structure ST (B g : Nat) (kb nb d : Nat → Nat) (w wx : World) : Prop where
  kr : wx.rowIs B 34 32 (bytesV kb)
  dr : wx.rowIs g 57 32 (bytesV d)
  below : Below B w wx
theorem ST.past {B g : Nat} {kb nb d : Nat → Nat} {w wx wy : World} (t : ST B g kb nb d w wx) (hb : Below wx.heap.size wx wy) : ST B g kb nb d w wy :=
  ⟨t.kr.of_block (hb.block _ t.kr.lt), t.dr.of_block (hb.block _ t.dr.lt), t.below.trans (hb.mono (Nat.le_of_lt t.kr.lt))⟩

set_option maxRecDepth 100000 in
set_option maxHeartbeats 4000000 in
theorem SealKeys_walk (kb : Nat → Nat) (hk : Bytes kb) (ob : Nat → Nat) (ho : Bytes ob) (head : ByteArray) (_ : head.size ≤ maxLen) (data : ByteArray) (_ : data.size ≤ maxLen) (w : World) :
    Calls Try.prog 14 #[.agg (arrA 32 (bytesV kb)), .agg (arrA 32 (bytesV ob)), .string head, .string data] w fun e w' => e = .returned (.bool true) ∧ Below w.heap.size w w' := by
  by_cases h1 : head.size ≤ 300
  · have t0 : decide ((300 : Int) < (head.size : Int)) = false := decide_eq_false (by omega)
    by_cases h2 : data.size ≤ 300
    · have t1 : decide ((300 : Int) < (data.size : Int)) = false := decide_eq_false (by omega)
      have c0 := fun W => nonce_any data W
      have hnb := nonV_bytes data
      obtain ⟨nv, hnv⟩ : ∃ nv, nonV data = nv := ⟨_, rfl⟩
      rw [hnv] at c0 hnb
      have hbs := sealV_size kb nv head data
      have c1 := fun W => seal_any kb nv head data W hk hnb (by omega) (by omega)
      obtain ⟨b, hb⟩ : ∃ b, sealV kb nv head data = b := ⟨_, rfl⟩
      rw [hb] at hbs c1
      have c2 := fun W => open_any ob head b W ho (by omega) (by omega)
      have c3 := fun W => ropen_any ob head b W ho (by omega) (by omega)
      have hos := openV_or ob head b
      obtain ⟨s, hs⟩ : ∃ s, (openV ob head b).1 = s := ⟨_, rfl⟩
      obtain ⟨n, hn⟩ : ∃ n, (openV ob head b).2 = n := ⟨_, rfl⟩
      rw [hs, hn] at c2 c3 hos
      clear hs hn hb hnv hbs
      have key : ∀ (s : ByteArray) (n : Nat), (n = 0 ∨ (n ≠ 0 ∧ s = ⟨#[]⟩)) → (∀ W, Calls Try.prog 39 #[.agg (arrA 32 (bytesV ob)), .string head, .string b] W fun e w' => e = .returned (.tuple #[.string s, .int .i64 (n : Int)]) ∧ Below W.heap.size W w') → (∀ W, Calls Try.prog 41 #[.agg (arrA 32 (bytesV ob)), .string head, .string b] W fun e w' => e = .returned (.tuple #[.string s, .int .i64 (n : Int)]) ∧ Below W.heap.size W w') →
          Calls Try.prog 14 #[.agg (arrA 32 (bytesV kb)), .agg (arrA 32 (bytesV ob)), .string head, .string data] w fun e w' => e = .returned (.bool true) ∧ Below w.heap.size w w' := by
        clear c2 c3 hos s n
        intro s n hos c2 c3
        have z := fun W : World => (row_of_heap (heap_new W _) : (W.alloc (Obj.cells #[Value.int IntKind.u8 0, Value.int IntKind.u8 0, Value.int IntKind.u8 0, Value.int IntKind.u8 0, Value.int IntKind.u8 0, Value.int IntKind.u8 0, Value.int IntKind.u8 0, Value.int IntKind.u8 0, Value.int IntKind.u8 0, Value.int IntKind.u8 0, Value.int IntKind.u8 0, Value.int IntKind.u8 0] 49)).rowIs W.heap.size 49 12 (fun _ => .int .u8 0))
        rcases hos with rfl | ⟨hn0, rfl⟩
        all_goals
          try have t5 : decide ((n : Int) = 0) = false := decide_eq_false (by omega)
          go_enter Try.func14, Try.ntmps14
          have a0 : World.rowIs ((w.alloc (Obj.cells (arrA 32 (bytesV kb)) 34)).alloc (Obj.cells (arrA 32 (bytesV ob)) 34)) w.heap.size 34 32 (bytesV kb) := (row_of_heap (heap_new w _)).alloc _
          have a1 : World.rowIs ((w.alloc (Obj.cells (arrA 32 (bytesV kb)) 34)).alloc (Obj.cells (arrA 32 (bytesV ob)) 34)) (w.heap.size + 1) 34 32 (bytesV ob) := by
            have := heap_new (w.alloc (Obj.cells (arrA 32 (bytesV kb)) 34)) (Obj.cells (arrA 32 (bytesV ob)) 34)
            rw [World.size_alloc] at this
            exact row_of_heap this
          have a2 : Below w.heap.size w ((w.alloc (Obj.cells (arrA 32 (bytesV kb)) 34)).alloc (Obj.cells (arrA 32 (bytesV ob)) 34)) := ((Below.refl _ w).alloc (Nat.le_refl _) _).alloc (by simp) _
          go_upto_region 1 with fail
          obtain ⟨W0, hW0⟩ : ∃ W0, ((w.alloc (Obj.cells (arrA 32 (bytesV kb)) 34)).alloc (Obj.cells (arrA 32 (bytesV ob)) 34)) = W0 := ⟨_, rfl⟩
          rw [hW0] at a0 a1 a2 ⊢
          clear hW0
          have q0 : SK w.heap.size kb ob w W0 := ⟨a0, a1, a2⟩
          clear a0 a1 a2
          go_wp2_with fail
          refine (c0 _).mono ?_
          rintro e w1 ⟨rfl, hb1⟩
          have q1 := (q0.past hb1)
          have z1 := z w1
          have hlt1 := q1.orr.lt
          have q2 : SK w.heap.size kb ob w ((w1.alloc (Obj.cells #[Value.int IntKind.u8 0, Value.int IntKind.u8 0, Value.int IntKind.u8 0, Value.int IntKind.u8 0, Value.int IntKind.u8 0, Value.int IntKind.u8 0, Value.int IntKind.u8 0, Value.int IntKind.u8 0, Value.int IntKind.u8 0, Value.int IntKind.u8 0, Value.int IntKind.u8 0, Value.int IntKind.u8 0] 49)).setRow w1.heap.size (arrA 12 (bytesV nv))) :=
            ⟨rowIs_setOther (q1.kr.alloc _) (by omega) _, rowIs_setOther (q1.orr.alloc _) (by omega) _, below_setRow (q1.below.alloc (by omega) _) (by omega) _⟩
          have n2 := rowIs_setRow z1 (bytesV nv)
          obtain ⟨X, hX⟩ : ∃ X, ((w1.alloc (Obj.cells #[Value.int IntKind.u8 0, Value.int IntKind.u8 0, Value.int IntKind.u8 0, Value.int IntKind.u8 0, Value.int IntKind.u8 0, Value.int IntKind.u8 0, Value.int IntKind.u8 0, Value.int IntKind.u8 0, Value.int IntKind.u8 0, Value.int IntKind.u8 0, Value.int IntKind.u8 0, Value.int IntKind.u8 0] 49)).setRow w1.heap.size (arrA 12 (bytesV nv))) = X := ⟨_, rfl⟩
          rw [hX] at q2 n2
          go_upto_region 4 with (refine store_arr rfl 49 _ _ rfl 12 49 w1.heap.size _ (bytesV nv) rfl rfl z1 siz49 (fun _ => rfl) ?_)
          try simp only [Act.put, List.setIfInBounds_toArray, List.set_cons_zero, List.set_cons_succ, List.getElem_toArray, List.getElem_cons_zero, List.getElem_cons_succ]
          obtain ⟨g, hg⟩ : ∃ g, w1.heap.size = g := ⟨_, rfl⟩
          try rw [hX]
          rw [hg] at n2
          try rw [hg]
          clear hX z1 hg q1 hlt1
          go_wp2_with (first | (refine load_arr rfl 34 _ rfl 32 5 34 w.heap.size _ rfl q2.kr und34 siz34 ?_) | (refine load_arr rfl 49 _ rfl 12 5 49 g _ rfl n2 und49 siz49 ?_))
          refine (c1 _).mono ?_
          rintro e w3 ⟨rfl, hb3⟩
          have q3 := q2.past hb3
          go_wp2_with (refine load_arr rfl 34 _ rfl 32 5 34 (w.heap.size + 1) _ rfl q3.orr und34 siz34 ?_)
          refine (c2 _).mono ?_
          rintro e w4 ⟨rfl, hb4⟩
          have q4 := q3.past hb4
          go_wp2_with (refine load_arr rfl 34 _ rfl 32 5 34 (w.heap.size + 1) _ rfl q4.orr und34 siz34 ?_)
          refine (c3 _).mono ?_
          rintro e w5 ⟨rfl, hb5⟩
          have q5 := q4.past hb5
          go_wp2_with fail
          refine (awakeS_any _).mono ?_
          rintro e w6 ⟨rfl, hb6⟩
          have q6 := q5.past hb6
          go_wp2
          go_ret
          exact ⟨rfl, q6.below⟩
      exact key s n hos c2 c3
    · have t1 : decide ((300 : Int) < (data.size : Int)) = true := decide_eq_true (by omega)
      go_enter Try.func14, Try.ntmps14
      have a2 : Below w.heap.size w ((w.alloc (Obj.cells (arrA 32 (bytesV kb)) 34)).alloc (Obj.cells (arrA 32 (bytesV ob)) 34)) := ((Below.refl _ w).alloc (Nat.le_refl _) _).alloc (by simp) _
      go_wp2_with fail
      refine (awakeS_any _).mono ?_
      rintro e w1 ⟨rfl, hb1⟩
      have c2 := a2.trans (hb1.mono a2.size)
      go_wp2
      go_ret
      exact ⟨rfl, c2⟩
  · have t0 : decide ((300 : Int) < (head.size : Int)) = true := decide_eq_true (by omega)
    go_enter Try.func14, Try.ntmps14
    have a2 : Below w.heap.size w ((w.alloc (Obj.cells (arrA 32 (bytesV kb)) 34)).alloc (Obj.cells (arrA 32 (bytesV ob)) 34)) := ((Below.refl _ w).alloc (Nat.le_refl _) _).alloc (by simp) _
    go_wp2_with fail
    refine (awakeS_any _).mono ?_
    rintro e w1 ⟨rfl, hb1⟩
    have c2 := a2.trans (hb1.mono a2.size)
    go_wp2
    go_ret
    exact ⟨rfl, c2⟩

set_option maxRecDepth 100000 in
set_option maxHeartbeats 4000000 in
theorem SealNonces_walk (kb : Nat → Nat) (hk : Bytes kb) (s : ByteArray) (_ : s.size ≤ maxLen) (data : ByteArray) (_ : data.size ≤ maxLen) (w : World) :
    Calls Try.prog 15 #[.agg (arrA 32 (bytesV kb)), .string s, .string data] w fun e w' => e = .returned (.bool true) ∧ Below w.heap.size w w' := by
  by_cases h1 : s.size ≤ 300
  · have t0 : decide ((300 : Int) < (s.size : Int)) = false := decide_eq_false (by omega)
    by_cases h2 : data.size ≤ 300
    · have t1 : decide ((300 : Int) < (data.size : Int)) = false := decide_eq_false (by omega)
      have c0 := fun W => nonce_any s W
      have c2 := fun W => rnonce_any s W (by omega)
      have hnb := nonV_bytes s
      obtain ⟨nv, hnv⟩ : ∃ nv, nonV s = nv := ⟨_, rfl⟩
      rw [hnv] at c0 c2 hnb
      have hbs := sealV_size kb nv s data
      have c1 := fun W => seal_any kb nv s data W hk hnb (by omega) (by omega)
      have hfr : (sealV kb nv s data).extract 0 12 = txt 12 nv := by
        refine bytes_ext _ _ (by rw [ByteArray.size_extract, txt_size]; omega) fun j hj => ?_
        have hj' : j < 12 := by rw [ByteArray.size_extract] at hj; omega
        rw [byt_extract _ _ _ _ (by omega) (by omega), Nat.zero_add, sealV, byt_append, if_pos (by rw [frontV_size]; omega), frontV, byt_append, if_pos (by rw [txt_size]; omega)]
      obtain ⟨b, hb⟩ : ∃ b, sealV kb nv s data = b := ⟨_, rfl⟩
      rw [hb] at hbs c1 hfr
      obtain ⟨tn, htn⟩ : ∃ tn, txt 12 nv = tn := ⟨_, rfl⟩
      rw [htn] at hfr
      have Htn := Lib.hid htn
      have t3 : decide ((12 : Int) ≤ (b.size : Int)) = true := decide_eq_true (by omega)
      have t4 : (12 : Int) ≤ (b.size : Int) := by omega
      have t5 : b.size ≤ 1000 := by omega
      have t6 : 12 ≤ b.size := by omega
      have hs2 : (Try.prog.info? 49).map (·.size) = some (List.map (bytesV nv) (List.range 12)).length := by rw [siz49]; simp
      have heq : ∀ W : World, (Op.equalIn 10000 49 (.agg #[bytesV nv 0, bytesV nv 1, bytesV nv 2, bytesV nv 3, bytesV nv 4, bytesV nv 5, bytesV nv 6, bytesV nv 7, bytesV nv 8, bytesV nv 9, bytesV nv 10, bytesV nv 11]) (.agg (arrA 12 (bytesV nv)))).run Try.prog W = .ok true W := fun W => eq49 hnb W
      clear hb hnv hbs htn
      have z := fun W : World => (row_of_heap (heap_new W _) : (W.alloc (Obj.cells #[Value.int IntKind.u8 0, Value.int IntKind.u8 0, Value.int IntKind.u8 0, Value.int IntKind.u8 0, Value.int IntKind.u8 0, Value.int IntKind.u8 0, Value.int IntKind.u8 0, Value.int IntKind.u8 0, Value.int IntKind.u8 0, Value.int IntKind.u8 0, Value.int IntKind.u8 0, Value.int IntKind.u8 0] 49)).rowIs W.heap.size 49 12 (fun _ => .int .u8 0))
      go_enter Try.func15, Try.ntmps15
      have a0 : World.rowIs (w.alloc (Obj.cells (arrA 32 (bytesV kb)) 34)) w.heap.size 34 32 (bytesV kb) := row_of_heap (heap_new w _)
      have a2 : Below w.heap.size w (w.alloc (Obj.cells (arrA 32 (bytesV kb)) 34)) := (Below.refl _ w).alloc (Nat.le_refl _) _
      go_upto_region 1 with fail
      obtain ⟨W0, hW0⟩ : ∃ W0, (w.alloc (Obj.cells (arrA 32 (bytesV kb)) 34)) = W0 := ⟨_, rfl⟩
      rw [hW0] at a0 a2 ⊢
      clear hW0
      have q0 : SP w.heap.size kb w W0 := ⟨a0, a2⟩
      clear a0 a2
      go_wp2_with fail
      refine (c0 _).mono ?_
      rintro e w1 ⟨rfl, hb1⟩
      have q1 := (q0.past hb1)
      have z1 := z w1
      have hlt1 := q1.kr.lt
      have q2 : SN w.heap.size w1.heap.size kb nv w ((w1.alloc (Obj.cells #[Value.int IntKind.u8 0, Value.int IntKind.u8 0, Value.int IntKind.u8 0, Value.int IntKind.u8 0, Value.int IntKind.u8 0, Value.int IntKind.u8 0, Value.int IntKind.u8 0, Value.int IntKind.u8 0, Value.int IntKind.u8 0, Value.int IntKind.u8 0, Value.int IntKind.u8 0, Value.int IntKind.u8 0] 49)).setRow w1.heap.size (arrA 12 (bytesV nv))) :=
        ⟨rowIs_setOther (q1.kr.alloc _) (by omega) _, rowIs_setRow z1 _, below_setRow (q1.below.alloc (by omega) _) (by omega) _⟩
      obtain ⟨X, hX⟩ : ∃ X, ((w1.alloc (Obj.cells #[Value.int IntKind.u8 0, Value.int IntKind.u8 0, Value.int IntKind.u8 0, Value.int IntKind.u8 0, Value.int IntKind.u8 0, Value.int IntKind.u8 0, Value.int IntKind.u8 0, Value.int IntKind.u8 0, Value.int IntKind.u8 0, Value.int IntKind.u8 0, Value.int IntKind.u8 0, Value.int IntKind.u8 0] 49)).setRow w1.heap.size (arrA 12 (bytesV nv))) = X := ⟨_, rfl⟩
      rw [hX] at q2
      go_upto_region 4 with (refine store_arr rfl 49 _ _ rfl 12 49 w1.heap.size _ (bytesV nv) rfl rfl z1 siz49 (fun _ => rfl) ?_)
      try simp only [Act.put, List.setIfInBounds_toArray, List.set_cons_zero, List.set_cons_succ, List.getElem_toArray, List.getElem_cons_zero, List.getElem_cons_succ]
      obtain ⟨g, hg⟩ : ∃ g, w1.heap.size = g := ⟨_, rfl⟩
      try rw [hX]
      rw [hg] at q2
      try rw [hg]
      clear hX z1 hg q1 hlt1
      go_wp2_with (first | (refine load_arr rfl 34 _ rfl 32 5 34 w.heap.size _ rfl q2.kr und34 siz34 ?_) | (refine load_arr rfl 49 _ rfl 12 5 49 g _ rfl q2.nr und49 siz49 ?_))
      refine (c1 _).mono ?_
      rintro e w3 ⟨rfl, hb3⟩
      have q3 := q2.past hb3
      go_upto_region 5 with fail
      have t1' : SN w.heap.size g kb nv w w3.drew := ⟨q3.kr.drew, q3.nr.drew, q3.below.drew⟩
      clear q2 q3
      refine wp_region_held_drew (S := fun w' => SN w.heap.size g kb nv w w') (by kernel_rfl) t1' (fun hH => ?_)
      clear t1'
      refine wpAnyH_take (i := 0) rfl (by kernel_rfl) (by kernel_rfl) (by kernel_rfl) (fun _ _ _ h => h) (yieldsIf_load_mid (by rfl) 49 (.tmp 7) rfl g 0 rfl (List.map (bytesV nv) (List.range 12)) _ (fun w' hw' => range_row hw'.nr) und49 rfl hs2) hH ?_
      try simp only [Act.put, List.setIfInBounds_toArray, List.set_cons_zero, List.set_cons_succ, List.getElem_toArray, List.getElem_cons_zero, List.getElem_cons_succ]
      refine wpAnyH_take (i := 1) (v := .string s) rfl (by kernel_rfl) (by kernel_rfl) (by kernel_rfl) (fun _ _ _ h => h) (Or.inl ⟨by rfl, fun w' hw' => by go_simp⟩) hH ?_
      try simp only [Act.put, List.setIfInBounds_toArray, List.set_cons_zero, List.set_cons_succ, List.getElem_toArray, List.getElem_cons_zero, List.getElem_cons_succ]
      refine wpAnyH_ready (rs := [2]) (by kernel_rfl) (by simp) ?_
      refine AllReadyH.cons rfl (fun K hK => ?_) AllReadyH.nil
      go_simp
      go_at_call 43
      refine (c2 _).mono ?_
      rintro e wy ⟨rfl, hbwy⟩
      refine hK.out _ _ (hH.past hbwy) (fun hy => ?_)
      clear hK K
      try simp only [Act.put, List.setIfInBounds_toArray, List.set_cons_zero, List.set_cons_succ, List.getElem_toArray, List.getElem_cons_zero, List.getElem_cons_succ]
      refine wpAnyH_take (i := 3) (v := .bool true) rfl (by kernel_rfl) (by kernel_rfl) (by kernel_rfl) (fun _ _ _ h => h) (Or.inl ⟨by rfl, fun w' hw' => by have he := heq w'; go_simp⟩) hy ?_
      try simp only [Act.put, List.setIfInBounds_toArray, List.set_cons_zero, List.set_cons_succ, List.getElem_toArray, List.getElem_cons_zero, List.getElem_cons_succ]
      refine wpAnyH_take (i := 4) (v := .bool true) rfl (by kernel_rfl) (by kernel_rfl) (by kernel_rfl) (fun _ _ _ h => h) (Or.inl ⟨by rfl, fun w' hw' => by go_simp⟩) hy ?_
      try simp only [Act.put, List.setIfInBounds_toArray, List.set_cons_zero, List.set_cons_succ, List.getElem_toArray, List.getElem_cons_zero, List.getElem_cons_succ]
      refine wpAnyH_take (i := 5) (v := .string b) rfl (by kernel_rfl) (by kernel_rfl) (by kernel_rfl) (fun _ _ _ h => h) (Or.inl ⟨by rfl, fun w' hw' => by go_simp⟩) hy ?_
      try simp only [Act.put, List.setIfInBounds_toArray, List.set_cons_zero, List.set_cons_succ, List.getElem_toArray, List.getElem_cons_zero, List.getElem_cons_succ]
      refine wpAnyH_take (i := 6) (v := .int .i64 (b.size : Int)) rfl (by kernel_rfl) (by kernel_rfl) (by kernel_rfl) (fun _ _ _ h => h) (Or.inl ⟨by rfl, fun w' hw' => by go_simp⟩) hy ?_
      try simp only [Act.put, List.setIfInBounds_toArray, List.set_cons_zero, List.set_cons_succ, List.getElem_toArray, List.getElem_cons_zero, List.getElem_cons_succ]
      refine wpAnyH_take (i := 7) (v := .bool true) rfl (by kernel_rfl) (by kernel_rfl) (by kernel_rfl) (fun _ _ _ h => h) (Or.inl ⟨by rfl, fun w' hw' => by go_simp⟩) hy ?_
      try simp only [Act.put, List.setIfInBounds_toArray, List.set_cons_zero, List.set_cons_succ, List.getElem_toArray, List.getElem_cons_zero, List.getElem_cons_succ]
      refine wpAnyH_take (i := 8) (v := .bool true) rfl (by kernel_rfl) (by kernel_rfl) (by kernel_rfl) (fun _ _ _ h => h) (Or.inl ⟨by rfl, fun w' hw' => by go_simp⟩) hy ?_
      try simp only [Act.put, List.setIfInBounds_toArray, List.set_cons_zero, List.set_cons_succ, List.getElem_toArray, List.getElem_cons_zero, List.getElem_cons_succ]
      refine wpAnyH_take (i := 9) (v := .bool true) rfl (by kernel_rfl) (by kernel_rfl) (by kernel_rfl) (fun _ _ _ h => h) (Or.inl ⟨by rfl, fun w' hw' => by go_simp⟩) hy ?_
      try simp only [Act.put, List.setIfInBounds_toArray, List.set_cons_zero, List.set_cons_succ, List.getElem_toArray, List.getElem_cons_zero, List.getElem_cons_succ]
      refine wpAnyH_take (i := 10) (v := .string b) rfl (by kernel_rfl) (by kernel_rfl) (by kernel_rfl) (fun _ _ _ h => h) (Or.inl ⟨by rfl, fun w' hw' => by go_simp⟩) hy ?_
      try simp only [Act.put, List.setIfInBounds_toArray, List.set_cons_zero, List.set_cons_succ, List.getElem_toArray, List.getElem_cons_zero, List.getElem_cons_succ]
      refine wpAnyH_take (i := 11) (v := .string tn) rfl (by kernel_rfl) (by kernel_rfl) (by kernel_rfl) (fun _ _ _ h => h) (Or.inl ⟨by rfl, fun w' hw' => by go_simp⟩) hy ?_
      try simp only [Act.put, List.setIfInBounds_toArray, List.set_cons_zero, List.set_cons_succ, List.getElem_toArray, List.getElem_cons_zero, List.getElem_cons_succ]
      refine wpAnyH_take (i := 12) (v := .slice (some ⟨g, 0, none⟩) 12 12) rfl (by kernel_rfl) (by kernel_rfl) (by kernel_rfl) (fun _ _ _ h => h) (Or.inl ⟨by rfl, fun w' hw' => by go_simp⟩) hy ?_
      try simp only [Act.put, List.setIfInBounds_toArray, List.set_cons_zero, List.set_cons_succ, List.getElem_toArray, List.getElem_cons_zero, List.getElem_cons_succ]
      refine wpAnyH_take (i := 13) (v := .string tn) rfl (by kernel_rfl) (by kernel_rfl) (by kernel_rfl) (fun _ _ _ h => h) (Or.inl ⟨by rfl, fun w' hw' => by have hcv := conv_arr hw'.nr; rw [Htn.out] at hcv; go_simp⟩) hy ?_
      try simp only [Act.put, List.setIfInBounds_toArray, List.set_cons_zero, List.set_cons_succ, List.getElem_toArray, List.getElem_cons_zero, List.getElem_cons_succ]
      refine wpAnyH_take (i := 14) (v := .bool true) rfl (by kernel_rfl) (by kernel_rfl) (by kernel_rfl) (fun _ _ _ h => h) (Or.inl ⟨by rfl, fun w' hw' => by go_simp⟩) hy ?_
      try simp only [Act.put, List.setIfInBounds_toArray, List.set_cons_zero, List.set_cons_succ, List.getElem_toArray, List.getElem_cons_zero, List.getElem_cons_succ]
      refine wpAnyH_take (i := 15) (v := .bool true) rfl (by kernel_rfl) (by kernel_rfl) (by kernel_rfl) (fun _ _ _ h => h) (Or.inl ⟨by rfl, fun w' hw' => by go_simp⟩) hy ?_
      try simp only [Act.put, List.setIfInBounds_toArray, List.set_cons_zero, List.set_cons_succ, List.getElem_toArray, List.getElem_cons_zero, List.getElem_cons_succ]
      refine wpAnyH_take (i := 16) (v := .bool true) rfl (by kernel_rfl) (by kernel_rfl) (by kernel_rfl) (fun _ _ _ h => h) (Or.inl ⟨by rfl, fun w' hw' => by go_simp⟩) hy ?_
      try simp only [Act.put, List.setIfInBounds_toArray, List.set_cons_zero, List.set_cons_succ, List.getElem_toArray, List.getElem_cons_zero, List.getElem_cons_succ]
      refine wpAnyH_ready (rs := [17]) (by kernel_rfl) (by simp) ?_
      refine AllReadyH.cons rfl (fun K hK => ?_) AllReadyH.nil
      go_simp
      go_at_call 37
      refine (awakeS_any _).mono ?_
      rintro e wz ⟨rfl, hbwz⟩
      refine hK.out _ _ (hy.past hbwz) (fun hz => ?_)
      clear hK K
      try simp only [Act.put, List.setIfInBounds_toArray, List.set_cons_zero, List.set_cons_succ, List.getElem_toArray, List.getElem_cons_zero, List.getElem_cons_succ]
      refine wpAnyH_take (i := 18) (v := .bool true) rfl (by kernel_rfl) (by kernel_rfl) (by kernel_rfl) (fun _ _ _ h => h) (Or.inl ⟨by rfl, fun w' hw' => by go_simp⟩) hz ?_
      try simp only [Act.put, List.setIfInBounds_toArray, List.set_cons_zero, List.set_cons_succ, List.getElem_toArray, List.getElem_cons_zero, List.getElem_cons_succ]
      refine wpAnyH_take (i := 19) (v := .bool true) rfl (by kernel_rfl) (by kernel_rfl) (by kernel_rfl) (fun _ _ _ h => h) (Or.inl ⟨by rfl, fun w' hw' => by go_simp⟩) hz ?_
      try simp only [Act.put, List.setIfInBounds_toArray, List.set_cons_zero, List.set_cons_succ, List.getElem_toArray, List.getElem_cons_zero, List.getElem_cons_succ]
      refine wpAnyH_done (by kernel_rfl) ?_ _
      go_wp2
      go_ret
      exact ⟨rfl, hz.below⟩
    · have t1 : decide ((300 : Int) < (data.size : Int)) = true := decide_eq_true (by omega)
      go_enter Try.func15, Try.ntmps15
      have a2 : Below w.heap.size w (w.alloc (Obj.cells (arrA 32 (bytesV kb)) 34)) := (Below.refl _ w).alloc (Nat.le_refl _) _
      go_wp2_with fail
      refine (awakeS_any _).mono ?_
      rintro e w1 ⟨rfl, hb1⟩
      have c2 := a2.trans (hb1.mono a2.size)
      go_wp2
      go_ret
      exact ⟨rfl, c2⟩
  · have t0 : decide ((300 : Int) < (s.size : Int)) = true := decide_eq_true (by omega)
    go_enter Try.func15, Try.ntmps15
    have a2 : Below w.heap.size w (w.alloc (Obj.cells (arrA 32 (bytesV kb)) 34)) := (Below.refl _ w).alloc (Nat.le_refl _) _
    go_wp2_with fail
    refine (awakeS_any _).mono ?_
    rintro e w1 ⟨rfl, hb1⟩
    have c2 := a2.trans (hb1.mono a2.size)
    go_wp2
    go_ret
    exact ⟨rfl, c2⟩

set_option maxRecDepth 100000 in
set_option maxHeartbeats 4000000 in
theorem SealTags_walk (kb : Nat → Nat) (hk : Bytes kb) (nb : Nat → Nat) (hn : Bytes nb) (head : ByteArray) (_ : head.size ≤ maxLen) (data : ByteArray) (_ : data.size ≤ maxLen) (w : World) :
    Calls Try.prog 16 #[.agg (arrA 32 (bytesV kb)), .agg (arrA 12 (bytesV nb)), .string head, .string data] w fun e w' => e = .returned (.bool true) ∧ Below w.heap.size w w' := by
  by_cases h1 : head.size ≤ 300
  · have t0 : decide ((300 : Int) < (head.size : Int)) = false := decide_eq_false (by omega)
    by_cases h2 : data.size ≤ 300
    · have t1 : decide ((300 : Int) < (data.size : Int)) = false := decide_eq_false (by omega)
      have hbs := sealV_size kb nb head data
      have c1 := fun W => seal_any kb nb head data W hk hn (by omega) (by omega)
      have hbF := boxF_seal kb nb head data
      have hbT := boxT_seal kb nb head data
      have hfs := frontV_size kb nb data
      obtain ⟨f, hf⟩ : ∃ f, frontV kb nb data = f := ⟨_, rfl⟩
      obtain ⟨b, hb⟩ : ∃ b, sealV kb nb head data = b := ⟨_, rfl⟩
      rw [hf] at hbF hbT hfs
      rw [hb] at hbF hbT hbs c1
      have hrs : (rowV [head, f]).size ≤ 900000 := by rw [rowV_size]; have := rowL_two head f; omega
      have hrow := fun (b : Nat) (W : World) (h : ∀ (j : Nat) s, [head, f][j]? = some s → W.cell? ⟨b, j, none⟩ = some (.string s)) (hb : b < W.heap.size) => nrow_any b [head, f] W h hb (by simp) (by intro s hs; simp at hs; rcases hs with rfl | rfl <;> omega)
      have hkt := fun (b : Nat) (W : World) (h : W.cell? ⟨b, 0, none⟩ = some (.string ⟨#[116, 97, 103]⟩)) => keyed_any kb ⟨#[116, 97, 103]⟩ b W h (by decide)
      have htg : tagV kb head f = txt 32 (keyedV (keyedV kb ⟨#[116, 97, 103]⟩) (rowV [head, f])) := rfl
      obtain ⟨r, hr⟩ : ∃ r, rowV [head, f] = r := ⟨_, rfl⟩
      obtain ⟨k2, hk2⟩ : ∃ k2, keyedV kb ⟨#[116, 97, 103]⟩ = k2 := ⟨_, rfl⟩
      have hkey := fun (b : Nat) (W : World) (h : W.cell? ⟨b, 0, none⟩ = some (.string r)) => keyed_any k2 r b W h (by rw [← hr]; exact hrs)
      rw [hr, hk2] at htg
      rw [hk2] at hkt
      rw [hr] at hrow
      obtain ⟨d, hd⟩ : ∃ d, keyedV k2 r = d := ⟨_, rfl⟩
      rw [hd] at htg hkey
      obtain ⟨t, ht⟩ : ∃ t, txt 32 d = t := ⟨_, rfl⟩
      rw [htg, ht] at hbT
      have Ht := Lib.hid ht
      obtain ⟨n, hnn⟩ : ∃ n, b.size - 32 = n := ⟨_, rfl⟩
      have e1 : (b.size : Int) - 32 = (n : Int) := by omega
      have e2 : wrap64 (n : Int) = (n : Int) := by unfold wrap64; omega
      have e2b : IntKind.i64.wrap (n : Int) = (n : Int) := IntWalk.i64_in _ (by omega)
      have e3 : (n : Int) ≤ (b.size : Int) := by omega
      have e4 : n ≤ b.size := by omega
      have t3 : decide ((b.size : Int) < 44) = false := decide_eq_false (by omega)
      have t5 : b.size ≤ 1000 := by omega
      have x1 : b.extract 0 n = f := by rw [← hbF, boxF, hnn]
      have x2 : b.extract n b.size = t := by rw [← hbT, boxT, hnn]
      clear hbF hbT hfs hf hb hrs htg hr hk2 hd ht hnn hbs
      go_enter Try.func16, Try.ntmps16
      have a0 : World.rowIs ((w.alloc (Obj.cells (arrA 32 (bytesV kb)) 34)).alloc (Obj.cells (arrA 12 (bytesV nb)) 49)) w.heap.size 34 32 (bytesV kb) := (row_of_heap (heap_new w _)).alloc _
      have a1 : World.rowIs ((w.alloc (Obj.cells (arrA 32 (bytesV kb)) 34)).alloc (Obj.cells (arrA 12 (bytesV nb)) 49)) (w.heap.size + 1) 49 12 (bytesV nb) := by
        have := heap_new (w.alloc (Obj.cells (arrA 32 (bytesV kb)) 34)) (Obj.cells (arrA 12 (bytesV nb)) 49)
        rw [World.size_alloc] at this
        exact row_of_heap this
      have a2 : Below w.heap.size w ((w.alloc (Obj.cells (arrA 32 (bytesV kb)) 34)).alloc (Obj.cells (arrA 12 (bytesV nb)) 49)) := ((Below.refl _ w).alloc (Nat.le_refl _) _).alloc (by simp) _
      go_upto_region 1 with fail
      obtain ⟨W0, hW0⟩ : ∃ W0, ((w.alloc (Obj.cells (arrA 32 (bytesV kb)) 34)).alloc (Obj.cells (arrA 12 (bytesV nb)) 49)) = W0 := ⟨_, rfl⟩
      rw [hW0] at a0 a1 a2 ⊢
      clear hW0
      have q0 : SQ w.heap.size kb nb w W0 := ⟨a0, a1, a2⟩
      clear a0 a1 a2
      go_wp2_with (first | (refine load_arr rfl 34 _ rfl 32 5 34 w.heap.size _ rfl q0.kr und34 siz34 ?_) | (refine load_arr rfl 49 _ rfl 12 5 49 (w.heap.size + 1) _ rfl q0.nr und49 siz49 ?_))
      refine (c1 _).mono ?_
      rintro e w1 ⟨rfl, hb1⟩
      have q1 := q0.past hb1
      go_wp2_with (first | (refine load_arr rfl 34 _ rfl 32 5 34 w.heap.size _ rfl q1.kr und34 siz34 ?_) | (refine load_arr rfl 49 _ rfl 12 5 49 (w.heap.size + 1) _ rfl q1.nr und49 siz49 ?_))
      have m1 := cell_new1 w1 (.string ⟨#[116, 97, 103]⟩) 9
      have q2 : SQ w.heap.size kb nb w (w1.alloc (Obj.cells #[Value.string ⟨#[116, 97, 103]⟩] 9)) := q1.past (below_new w1 _)
      refine (hkt w1.heap.size _ m1).mono ?_
      rintro e w2 ⟨rfl, hb2⟩
      have q3 := q2.past hb2
      go_wp2_with fail
      have n1 := heap_new w2 (Obj.cells #[Value.string head, Value.string f] 9)
      have q4 : SQ w.heap.size kb nb w (w2.alloc (Obj.cells #[Value.string head, Value.string f] 9)) := q3.past (below_new w2 _)
      refine (hrow w2.heap.size _ (fun j s hj => by
        match j, hj with
        | 0, hj => simp at hj; subst hj; rw [cell_of_row _ _ 0 _ _ _ n1]; rfl
        | 1, hj => simp at hj; subst hj; rw [cell_of_row _ _ 1 _ _ _ n1]; rfl) (by simp)).mono ?_
      rintro e w3 ⟨rfl, hb3⟩
      have q5 := q4.past hb3
      go_wp2_with fail
      refine (hkey w3.heap.size _ (cell_new1 w3 _ _)).mono ?_
      rintro e w4 ⟨rfl, hb4⟩
      have q6 := (q5.past (below_new w3 (Obj.cells #[Value.string r] 9))).past hb4
      have z : (w4.alloc (Obj.cells #[Value.int IntKind.u8 0, Value.int IntKind.u8 0, Value.int IntKind.u8 0, Value.int IntKind.u8 0, Value.int IntKind.u8 0, Value.int IntKind.u8 0, Value.int IntKind.u8 0, Value.int IntKind.u8 0, Value.int IntKind.u8 0, Value.int IntKind.u8 0, Value.int IntKind.u8 0, Value.int IntKind.u8 0, Value.int IntKind.u8 0, Value.int IntKind.u8 0, Value.int IntKind.u8 0, Value.int IntKind.u8 0, Value.int IntKind.u8 0, Value.int IntKind.u8 0, Value.int IntKind.u8 0, Value.int IntKind.u8 0, Value.int IntKind.u8 0, Value.int IntKind.u8 0, Value.int IntKind.u8 0, Value.int IntKind.u8 0, Value.int IntKind.u8 0, Value.int IntKind.u8 0, Value.int IntKind.u8 0, Value.int IntKind.u8 0, Value.int IntKind.u8 0, Value.int IntKind.u8 0, Value.int IntKind.u8 0, Value.int IntKind.u8 0] 57)).rowIs w4.heap.size 57 32 (fun _ => .int .u8 0) := row_of_heap (heap_new w4 _)
      have hlt1 := q6.nr.lt
      have q7 : ST w.heap.size w4.heap.size kb nb d w ((w4.alloc (Obj.cells #[Value.int IntKind.u8 0, Value.int IntKind.u8 0, Value.int IntKind.u8 0, Value.int IntKind.u8 0, Value.int IntKind.u8 0, Value.int IntKind.u8 0, Value.int IntKind.u8 0, Value.int IntKind.u8 0, Value.int IntKind.u8 0, Value.int IntKind.u8 0, Value.int IntKind.u8 0, Value.int IntKind.u8 0, Value.int IntKind.u8 0, Value.int IntKind.u8 0, Value.int IntKind.u8 0, Value.int IntKind.u8 0, Value.int IntKind.u8 0, Value.int IntKind.u8 0, Value.int IntKind.u8 0, Value.int IntKind.u8 0, Value.int IntKind.u8 0, Value.int IntKind.u8 0, Value.int IntKind.u8 0, Value.int IntKind.u8 0, Value.int IntKind.u8 0, Value.int IntKind.u8 0, Value.int IntKind.u8 0, Value.int IntKind.u8 0, Value.int IntKind.u8 0, Value.int IntKind.u8 0, Value.int IntKind.u8 0, Value.int IntKind.u8 0] 57)).setRow w4.heap.size (arrA 32 (bytesV d))) :=
        ⟨rowIs_setOther (q6.kr.alloc _) (by omega) _, rowIs_setRow z _, below_setRow (q6.below.alloc (by omega) _) (by omega) _⟩
      obtain ⟨X, hX⟩ : ∃ X, ((w4.alloc (Obj.cells #[Value.int IntKind.u8 0, Value.int IntKind.u8 0, Value.int IntKind.u8 0, Value.int IntKind.u8 0, Value.int IntKind.u8 0, Value.int IntKind.u8 0, Value.int IntKind.u8 0, Value.int IntKind.u8 0, Value.int IntKind.u8 0, Value.int IntKind.u8 0, Value.int IntKind.u8 0, Value.int IntKind.u8 0, Value.int IntKind.u8 0, Value.int IntKind.u8 0, Value.int IntKind.u8 0, Value.int IntKind.u8 0, Value.int IntKind.u8 0, Value.int IntKind.u8 0, Value.int IntKind.u8 0, Value.int IntKind.u8 0, Value.int IntKind.u8 0, Value.int IntKind.u8 0, Value.int IntKind.u8 0, Value.int IntKind.u8 0, Value.int IntKind.u8 0, Value.int IntKind.u8 0, Value.int IntKind.u8 0, Value.int IntKind.u8 0, Value.int IntKind.u8 0, Value.int IntKind.u8 0, Value.int IntKind.u8 0, Value.int IntKind.u8 0] 57)).setRow w4.heap.size (arrA 32 (bytesV d))) = X := ⟨_, rfl⟩
      rw [hX] at q7
      go_upto_region 8 with (refine store_arr rfl 57 _ _ rfl 32 57 w4.heap.size _ (bytesV d) rfl rfl z siz57 (fun _ => rfl) ?_)
      try simp only [Act.put, List.setIfInBounds_toArray, List.set_cons_zero, List.set_cons_succ, List.getElem_toArray, List.getElem_cons_zero, List.getElem_cons_succ]
      obtain ⟨g, hg⟩ : ∃ g, w4.heap.size = g := ⟨_, rfl⟩
      try rw [hX]
      rw [hg] at q7
      try rw [hg]
      clear hX z hg q6 hlt1 q5 q4 q3 q2 q1 q0
      have t1' : ST w.heap.size g kb nb d w X.drew := ⟨q7.kr.drew, q7.dr.drew, q7.below.drew⟩
      clear q7
      refine wp_region_held_drew (S := fun w' => ST w.heap.size g kb nb d w w') (by kernel_rfl) t1' (fun hH => ?_)
      clear t1'
      refine wpAnyH_take (i := 0) (v := .string b) rfl (by kernel_rfl) (by kernel_rfl) (by kernel_rfl) (fun _ _ _ h => h) (Or.inl ⟨by rfl, fun w' hw' => by go_simp⟩) hH ?_
      try simp only [Act.put, List.setIfInBounds_toArray, List.set_cons_zero, List.set_cons_succ, List.getElem_toArray, List.getElem_cons_zero, List.getElem_cons_succ]
      refine wpAnyH_take (i := 1) (v := .string b) rfl (by kernel_rfl) (by kernel_rfl) (by kernel_rfl) (fun _ _ _ h => h) (Or.inl ⟨by rfl, fun w' hw' => by go_simp⟩) hH ?_
      try simp only [Act.put, List.setIfInBounds_toArray, List.set_cons_zero, List.set_cons_succ, List.getElem_toArray, List.getElem_cons_zero, List.getElem_cons_succ]
      refine wpAnyH_take (i := 2) (v := .int .i64 (b.size : Int)) rfl (by kernel_rfl) (by kernel_rfl) (by kernel_rfl) (fun _ _ _ h => h) (Or.inl ⟨by rfl, fun w' hw' => by go_simp⟩) hH ?_
      try simp only [Act.put, List.setIfInBounds_toArray, List.set_cons_zero, List.set_cons_succ, List.getElem_toArray, List.getElem_cons_zero, List.getElem_cons_succ]
      refine wpAnyH_take (i := 3) (v := .int .i64 (n : Int)) rfl (by kernel_rfl) (by kernel_rfl) (by kernel_rfl) (fun _ _ _ h => h) (Or.inl ⟨by rfl, fun w' hw' => by go_simp⟩) hH ?_
      try simp only [Act.put, List.setIfInBounds_toArray, List.set_cons_zero, List.set_cons_succ, List.getElem_toArray, List.getElem_cons_zero, List.getElem_cons_succ]
      refine wpAnyH_take (i := 4) (v := .string t) rfl (by kernel_rfl) (by kernel_rfl) (by kernel_rfl) (fun _ _ _ h => h) (Or.inl ⟨by rfl, fun w' hw' => by go_simp⟩) hH ?_
      try simp only [Act.put, List.setIfInBounds_toArray, List.set_cons_zero, List.set_cons_succ, List.getElem_toArray, List.getElem_cons_zero, List.getElem_cons_succ]
      refine wpAnyH_take (i := 5) (v := .slice (some ⟨g, 0, none⟩) 32 32) rfl (by kernel_rfl) (by kernel_rfl) (by kernel_rfl) (fun _ _ _ h => h) (Or.inl ⟨by rfl, fun w' hw' => by go_simp⟩) hH ?_
      try simp only [Act.put, List.setIfInBounds_toArray, List.set_cons_zero, List.set_cons_succ, List.getElem_toArray, List.getElem_cons_zero, List.getElem_cons_succ]
      refine wpAnyH_take (i := 6) (v := .string t) rfl (by kernel_rfl) (by kernel_rfl) (by kernel_rfl) (fun _ _ _ h => h) (Or.inl ⟨by rfl, fun w' hw' => by have hcv := conv_arr hw'.dr; rw [Ht.out] at hcv; go_simp⟩) hH ?_
      try simp only [Act.put, List.setIfInBounds_toArray, List.set_cons_zero, List.set_cons_succ, List.getElem_toArray, List.getElem_cons_zero, List.getElem_cons_succ]
      refine wpAnyH_take (i := 7) (v := .bool true) rfl (by kernel_rfl) (by kernel_rfl) (by kernel_rfl) (fun _ _ _ h => h) (Or.inl ⟨by rfl, fun w' hw' => by go_simp⟩) hH ?_
      try simp only [Act.put, List.setIfInBounds_toArray, List.set_cons_zero, List.set_cons_succ, List.getElem_toArray, List.getElem_cons_zero, List.getElem_cons_succ]
      refine wpAnyH_take (i := 8) (v := .bool true) rfl (by kernel_rfl) (by kernel_rfl) (by kernel_rfl) (fun _ _ _ h => h) (Or.inl ⟨by rfl, fun w' hw' => by go_simp⟩) hH ?_
      try simp only [Act.put, List.setIfInBounds_toArray, List.set_cons_zero, List.set_cons_succ, List.getElem_toArray, List.getElem_cons_zero, List.getElem_cons_succ]
      refine wpAnyH_ready (rs := [9]) (by kernel_rfl) (by simp) ?_
      refine AllReadyH.cons rfl (fun K hK => ?_) AllReadyH.nil
      go_simp
      go_at_call 37
      refine (awakeS_any _).mono ?_
      rintro e wz ⟨rfl, hbwz⟩
      refine hK.out _ _ (hH.past hbwz) (fun hz => ?_)
      clear hK K
      try simp only [Act.put, List.setIfInBounds_toArray, List.set_cons_zero, List.set_cons_succ, List.getElem_toArray, List.getElem_cons_zero, List.getElem_cons_succ]
      refine wpAnyH_take (i := 10) (v := .bool true) rfl (by kernel_rfl) (by kernel_rfl) (by kernel_rfl) (fun _ _ _ h => h) (Or.inl ⟨by rfl, fun w' hw' => by go_simp⟩) hz ?_
      try simp only [Act.put, List.setIfInBounds_toArray, List.set_cons_zero, List.set_cons_succ, List.getElem_toArray, List.getElem_cons_zero, List.getElem_cons_succ]
      refine wpAnyH_take (i := 11) (v := .bool true) rfl (by kernel_rfl) (by kernel_rfl) (by kernel_rfl) (fun _ _ _ h => h) (Or.inl ⟨by rfl, fun w' hw' => by go_simp⟩) hz ?_
      try simp only [Act.put, List.setIfInBounds_toArray, List.set_cons_zero, List.set_cons_succ, List.getElem_toArray, List.getElem_cons_zero, List.getElem_cons_succ]
      refine wpAnyH_done (by kernel_rfl) ?_ _
      go_wp2
      go_ret
      exact ⟨rfl, hz.below⟩
    · have t1 : decide ((300 : Int) < (data.size : Int)) = true := decide_eq_true (by omega)
      go_enter Try.func16, Try.ntmps16
      have a2 : Below w.heap.size w ((w.alloc (Obj.cells (arrA 32 (bytesV kb)) 34)).alloc (Obj.cells (arrA 12 (bytesV nb)) 49)) := ((Below.refl _ w).alloc (Nat.le_refl _) _).alloc (by simp) _
      go_wp2_with fail
      refine (awakeS_any _).mono ?_
      rintro e w1 ⟨rfl, hb1⟩
      have c2 := a2.trans (hb1.mono a2.size)
      go_wp2
      go_ret
      exact ⟨rfl, c2⟩
  · have t0 : decide ((300 : Int) < (head.size : Int)) = true := decide_eq_true (by omega)
    go_enter Try.func16, Try.ntmps16
    have a2 : Below w.heap.size w ((w.alloc (Obj.cells (arrA 32 (bytesV kb)) 34)).alloc (Obj.cells (arrA 12 (bytesV nb)) 49)) := ((Below.refl _ w).alloc (Nat.le_refl _) _).alloc (by simp) _
    go_wp2_with fail
    refine (awakeS_any _).mono ?_
    rintro e w1 ⟨rfl, hb1⟩
    have c2 := a2.trans (hb1.mono a2.size)
    go_wp2
    go_ret
    exact ⟨rfl, c2⟩
end Go.Proofs.Ytnjcganknpnjcaa
