/- hash: a block is taken in. -/
import Derived.Test.YtnjcganknpnjcaaGe
set_option linter.unusedVariables false
set_option linter.unusedSimpArgs false
namespace Go.Proofs.Ytnjcganknpnjcaa
open Go.RowKit

/-- The words of a block of 64 bytes. -/
def msgV (s : ByteArray) (i : Nat) : Nat := w4 (byt s (4 * i)).toNat (byt s (4 * i + 1)).toNat (byt s (4 * i + 2)).toNat (byt s (4 * i + 3)).toNat
theorem byt_extract (s : ByteArray) (a n j : Nat) (h : a + j < n) (hn : n ≤ s.size) : byt (s.extract a n) j = byt s (a + j) := by
  unfold byt
  have h1 : j < (s.extract a n).size := by rw [ByteArray.size_extract]; omega
  rw [dif_pos h1, dif_pos (by omega : a + j < s.size)]
  simp [ByteArray.getElem_extract]
theorem byt_toNat_lt (s : ByteArray) (i : Nat) : (byt s i).toNat < 256 := by have := byt_range s i; omega
theorem msgV_words (s : ByteArray) : Words (msgV s) := fun i => w4_lt _ _ _ _ (byt_toNat_lt _ _) (byt_toNat_lt _ _) (byt_toNat_lt _ _) (byt_toNat_lt _ _)
theorem msgV_at (s : ByteArray) (i : Nat) (hs : s.size = 64) (hi : i < 16) :
    w4 (byt (s.extract (4 * i) s.size) 0).toNat (byt (s.extract (4 * i) s.size) 1).toNat (byt (s.extract (4 * i) s.size) 2).toNat (byt (s.extract (4 * i) s.size) 3).toNat = msgV s i := by
  rw [byt_extract _ _ _ _ (by omega) (by omega), byt_extract _ _ _ _ (by omega) (by omega), byt_extract _ _ _ _ (by omega) (by omega), byt_extract _ _ _ _ (by omega) (by omega)]
  rfl
/-- The first i of them. -/
def msgP (s : ByteArray) (i : Nat) : Nat → Nat := fun j => if j < i then msgV s j else 0
theorem msgP_step (s : ByteArray) (i : Nat) : upd (msgP s i) i (msgV s i) = msgP s (i + 1) := by
  funext j
  unfold upd msgP
  by_cases h : j = i
  · rw [if_pos h, if_pos (by omega), h]
  · rw [if_neg h]
    by_cases h2 : j < i
    · rw [if_pos h2, if_pos (by omega)]
    · rw [if_neg h2, if_neg (by omega)]
theorem msgP_16 (s : ByteArray) : ∀ j, j < 16 → msgP s 16 j = msgV s j := fun j h => if_pos h

/-- What take keeps: the digest's words, the place of its result, the block's words. -/
structure TK (B : Nat) (h m : Nat → Nat) (w wx : World) : Prop where
  hb : wx.rowIs B 97 8 (wordsV h)
  rb : wx.rowIs (B + 1) 97 8 (fun _ => .int .u32 0)
  mb : wx.rowIs (B + 2) 129 16 (wordsV m)
  below : Below B w wx
theorem TK.past {B : Nat} {h m : Nat → Nat} {w wx wy : World} (t : TK B h m w wx) (hb : Below (B + 3) wx wy) : TK B h m w wy :=
  ⟨t.hb.of_block (hb.block _ (by omega)), t.rb.of_block (hb.block _ (by omega)), t.mb.of_block (hb.block _ (by omega)), t.below.trans (hb.mono (by omega))⟩
theorem TK.putM {B : Nat} {h m : Nat → Nat} {w wx : World} (t : TK B h m w wx) (i x : Nat) : TK B h (upd m i x) w (wx.setCell ⟨B + 2, i, none⟩ (.int .u32 (x : Int))) :=
  ⟨t.hb.setOther (by simp) _, t.rb.setOther (by simp) _, (t.mb.set i _).congr (fun k _ => upd_wordsV m i x k), t.below.setCell (by simp) _⟩
theorem TK.putH {B : Nat} {h m : Nat → Nat} {w wx : World} (t : TK B h m w wx) (i x : Nat) : TK B (upd h i x) m w (wx.setCell ⟨B, i, none⟩ (.int .u32 (x : Int))) :=
  ⟨(t.hb.set i _).congr (fun k _ => upd_wordsV h i x k), t.rb.setOther (by simp) _, t.mb.setOther (by simp) _, t.below.setCell (by simp) _⟩
theorem TK.drewN {B : Nat} {h m : Nat → Nat} {w wx : World} (t : TK B h m w wx) (n : Nat) : TK B h m w (wx.drewN n) :=
  ⟨t.hb, t.rb, t.mb, below_drewN t.below n⟩

theorem zero8_row (w : World) : (w.alloc (Obj.cells #[Value.int IntKind.u32 0, Value.int IntKind.u32 0, Value.int IntKind.u32 0, Value.int IntKind.u32 0, Value.int IntKind.u32 0, Value.int IntKind.u32 0, Value.int IntKind.u32 0, Value.int IntKind.u32 0] 97)).rowIs w.heap.size 97 8 (fun _ => .int .u32 0) := row_of_heap (heap_new w _)
theorem zero16_row (w : World) : (w.alloc (Obj.cells #[Value.int IntKind.u32 0, Value.int IntKind.u32 0, Value.int IntKind.u32 0, Value.int IntKind.u32 0, Value.int IntKind.u32 0, Value.int IntKind.u32 0, Value.int IntKind.u32 0, Value.int IntKind.u32 0, Value.int IntKind.u32 0, Value.int IntKind.u32 0, Value.int IntKind.u32 0, Value.int IntKind.u32 0, Value.int IntKind.u32 0, Value.int IntKind.u32 0, Value.int IntKind.u32 0, Value.int IntKind.u32 0] 129)).rowIs w.heap.size 129 16 (fun _ => .int .u32 0) := row_of_heap (heap_new w _)

theorem beg0_copy (h : Nat → Nat) (j : Nat) (hj : j < 16) : copyF 8 8 (wordsV iv) (copyF 0 8 (wordsV h) fun _ => Value.int IntKind.u32 0) j = wordsV (beg0 h) j := by
  unfold copyF wordsV beg0
  by_cases h8 : j < 8
  · rw [if_neg (by omega), if_pos (by omega), if_pos h8]; rfl
  · rw [if_pos (by omega), if_neg h8]
theorem u32_not (x : Nat) (hx : x < 4294967296) : bits .xor .u32 IntKind.u32.max (x : Int) = ((4294967295 - x : Nat) : Int) := by
  have h1 : bits .xor .u32 ((4294967295 : Nat) : Int) (x : Int) = ((4294967295 ^^^ x : Nat) : Int) := u32_xor_nat _ _ (by omega) hx
  have h2 : 4294967295 ^^^ x = 4294967295 - x := by
    have h3 := BitVec.toNat_not (x := BitVec.ofNat 32 x)
    rw [BitVec.not_def, BitVec.toNat_xor, BitVec.toNat_allOnes, BitVec.toNat_ofNat, Nat.mod_eq_of_lt (by omega)] at h3
    exact h3
  rw [← h2, ← h1]
  rfl
def tkP (h fv : Nat → Nat) (i : Nat) : Nat → Nat := fun j => if j < i then h j ^^^ (fv j ^^^ fv (j + 8)) else h j
theorem tkP_step (h fv : Nat → Nat) (i : Nat) : tkP h fv (i + 1) = upd (tkP h fv i) i (h i ^^^ (fv i ^^^ fv (i + 8))) := by
  funext j
  unfold upd tkP
  by_cases e : j = i
  · rw [if_pos e, if_pos (by omega), e]
  · rw [if_neg e]
    by_cases h2 : j < i
    · rw [if_pos h2, if_pos (by omega)]
    · rw [if_neg h2, if_neg (by omega)]
theorem und139 : Try.prog.underlying 139 = some (.slice 38) := by kernel_rfl
theorem siz38 : (Try.prog.info? 38).map (·.size) = some 1 := by kernel_rfl
set_option maxRecDepth 100000 in
set_option maxHeartbeats 4000000 in
theorem take_any (h : Nat → Nat) (s : ByteArray) (count : Nat) (last : Bool) (w : World) (hh : Words h) (hs : s.size = 64) (hc : count < 18446744073709551616) :
    Calls Try.prog 98 #[.agg (arrA 8 (wordsV h)), .string s, .int .u64 (count : Int), .bool last] w fun e w' =>
      e = .returned (.agg (arrA 8 (wordsV (takeV h (msgV s) count last)))) ∧ Below w.heap.size w w' := by
  have hs0 : s.size ≤ 64 := by omega
  go_enter Try.func98, Try.ntmps98
  go_wp2_with fail
  obtain ⟨W0, hW0⟩ : ∃ W0, ((w.alloc (Obj.cells (arrA 8 (wordsV h)) 97)).alloc (Obj.cells #[Value.int IntKind.u32 0, Value.int IntKind.u32 0, Value.int IntKind.u32 0, Value.int IntKind.u32 0, Value.int IntKind.u32 0, Value.int IntKind.u32 0, Value.int IntKind.u32 0, Value.int IntKind.u32 0] 97)).alloc (Obj.cells #[Value.int IntKind.u32 0, Value.int IntKind.u32 0, Value.int IntKind.u32 0, Value.int IntKind.u32 0, Value.int IntKind.u32 0, Value.int IntKind.u32 0, Value.int IntKind.u32 0, Value.int IntKind.u32 0, Value.int IntKind.u32 0, Value.int IntKind.u32 0, Value.int IntKind.u32 0, Value.int IntKind.u32 0, Value.int IntKind.u32 0, Value.int IntKind.u32 0, Value.int IntKind.u32 0, Value.int IntKind.u32 0] 129) = W0 := ⟨_, rfl⟩
  rw [hW0]
  have t0 : TK w.heap.size h (msgP s 0) w W0 := by
    rw [← hW0]
    refine ⟨((row_of_heap (heap_new w _)).alloc _).alloc _, ?_, ?_, (((Below.refl _ w).alloc (Nat.le_refl _) _).alloc (by simp) _).alloc (by simp; omega) _⟩
    · have := zero8_row (w.alloc (Obj.cells (arrA 8 (wordsV h)) 97))
      rw [World.size_alloc] at this
      exact this.alloc _
    · have := zero16_row ((w.alloc (Obj.cells (arrA 8 (wordsV h)) 97)).alloc (Obj.cells #[Value.int IntKind.u32 0, Value.int IntKind.u32 0, Value.int IntKind.u32 0, Value.int IntKind.u32 0, Value.int IntKind.u32 0, Value.int IntKind.u32 0, Value.int IntKind.u32 0, Value.int IntKind.u32 0] 97))
      rw [World.size_alloc, World.size_alloc] at this
      exact this.congr (fun _ _ => rfl)
  clear hW0
  go_loopw [17] (fun a wr => ∃ i : Nat, i ≤ 16 ∧ a = .int .i64 (i : Int) ∧ TK w.heap.size h (msgP s i) w wr) (fun a _ => 16 - (intOf a).toNat)
  case atStart => exact ⟨0, by omega, rfl, t0⟩
  case round =>
    obtain ⟨i, hi, rfl, t1⟩ := hrel
    by_cases hlt : i < 16
    · have c0 : decide ((i : Int) < 16) = true := decide_eq_true (by omega)
      have c1 : (i : Int) < 16 := by omega
      have e1 : IntKind.i64.wrap (4 * (i : Int)) = ((4 * i : Nat) : Int) := by rw [IntWalk.i64_in _ (by omega)]; omega
      have hx := msgV_at s i hs hlt
      rw [hs] at hx
      have hxs : 4 ≤ (s.extract (4 * i) 64).size := by rw [ByteArray.size_extract]; omega
      have Hx := Lib.hid hx
      clear hx
      go_wp2_with fail
      refine (word_any (s.extract (4 * i) 64) wr hxs).mono ?_
      rintro e w1 ⟨rfl, nd, rfl⟩
      rw [Hx.out]
      have t2 := t1.drewN nd
      have d1 : (wr.drewN nd).cell? ⟨w.heap.size + 1 + 1, i, none⟩ = some (.int .u32 (msgP s i i : Int)) := t2.mb.cell hlt
      have d2 : (wr.drewN nd).frozen? ⟨w.heap.size + 1 + 1, i, none⟩ = false := t2.mb.frozen i
      go_wp2
      go_roundw
      case rel =>
        refine ⟨i + 1, by omega, by go_num, ?_⟩
        rw [← msgP_step]
        exact t2.putM i (msgV s i)
      case measure => simp [intOf]; omega
    · have c0 : decide ((i : Int) < 16) = false := decide_eq_false (by omega)
      obtain rfl : i = 16 := by omega
      have c1 : ¬ ((16 : Nat) : Int) < 16 := by omega
      obtain ⟨U, rfl⟩ : ∃ U, U = wr := ⟨wr, rfl⟩
      have hV : w.heap.size + 2 < U.heap.size := t1.mb.lt
      go_upto_region 8 with fail
      obtain ⟨V, hVe⟩ : ∃ V, U.heap.size = V := ⟨_, rfl⟩
      have z1 := zero16_row U
      have b1 : Below (w.heap.size + 3) U (U.alloc (Obj.cells #[Value.int IntKind.u32 0, Value.int IntKind.u32 0, Value.int IntKind.u32 0, Value.int IntKind.u32 0, Value.int IntKind.u32 0, Value.int IntKind.u32 0, Value.int IntKind.u32 0, Value.int IntKind.u32 0, Value.int IntKind.u32 0, Value.int IntKind.u32 0, Value.int IntKind.u32 0, Value.int IntKind.u32 0, Value.int IntKind.u32 0, Value.int IntKind.u32 0, Value.int IntKind.u32 0, Value.int IntKind.u32 0] 129)) := (Below.refl _ U).alloc (by omega) _
      obtain ⟨W1, hW1⟩ : ∃ W1, U.alloc (Obj.cells #[Value.int IntKind.u32 0, Value.int IntKind.u32 0, Value.int IntKind.u32 0, Value.int IntKind.u32 0, Value.int IntKind.u32 0, Value.int IntKind.u32 0, Value.int IntKind.u32 0, Value.int IntKind.u32 0, Value.int IntKind.u32 0, Value.int IntKind.u32 0, Value.int IntKind.u32 0, Value.int IntKind.u32 0, Value.int IntKind.u32 0, Value.int IntKind.u32 0, Value.int IntKind.u32 0, Value.int IntKind.u32 0] 129) = W1 := ⟨_, rfl⟩
      rw [hW1] at z1 b1 ⊢
      rw [hVe] at z1 hV ⊢
      clear hW1 hVe
      have t2 := t1.past b1
      go_wp2_with fail
      refine (eight_any W1).mono ?_
      rintro e w2 ⟨rfl, hb2⟩
      have z2 := z1.of_block (hb2.block _ z1.lt)
      have b2 := b1.trans (hb2.mono (by have := z1.lt; omega))
      have z3 := zero8_row w2
      have hFV : w2.heap.size ≠ V := by have := z2.lt; omega
      go_wp2_with (refine store_arr rfl 97 _ _ rfl 8 97 w2.heap.size _ (wordsV iv) rfl rfl z3 siz97 (fun _ => rfl) ?_)
      simp only [Act.put]
      obtain ⟨W3, hW3⟩ : ∃ W3, (w2.alloc (Obj.cells #[Value.int IntKind.u32 0, Value.int IntKind.u32 0, Value.int IntKind.u32 0, Value.int IntKind.u32 0, Value.int IntKind.u32 0, Value.int IntKind.u32 0, Value.int IntKind.u32 0, Value.int IntKind.u32 0] 97)).setRow w2.heap.size (arrA 8 (wordsV iv)) = W3 := ⟨_, rfl⟩
      obtain ⟨F, hF⟩ : ∃ F, w2.heap.size = F := ⟨_, rfl⟩
      have f4 : W3.rowIs F 97 8 (wordsV iv) := by rw [← hW3, ← hF]; exact rowIs_setRow z3 _
      have v4 : W3.rowIs V 129 16 (fun _ => .int .u32 0) := by rw [← hW3]; exact rowIs_setOther (z2.alloc _) (fun h => hFV h.symm) _
      have b4 : Below (w.heap.size + 3) U W3 := by
        rw [← hW3]
        exact below_setRow (b2.alloc (by have := z2.lt; omega) _) (by have := z2.lt; omega) _
      have hFB : w.heap.size + 3 ≤ F := by have := z2.lt; omega
      have hVB : w.heap.size + 3 ≤ V := by omega
      rw [hW3, hF]
      have t4 := t1.past b4
      have hFV : F ≠ V := by rw [← hF]; exact hFV
      clear hW3 hF z3 z2 b2 z1 b1 t2 hb2
      go_wp2
      refine wp_region_still_tail 2 (by kernel_rfl) (by kernel_rfl) ?_
      change wpStill _ _ W3.drew (fun a' => wpList _ _ _ _ a' W3.drew) _ _
      simp only [List.take_succ_cons, List.take_zero, List.drop_succ_cons, List.drop_zero]
      repeat still_step
      try refine wpStill_nil ?_
      refine copy_arr rfl _ _ 139 139 rfl 38 und139 siz38 V 0 8 16 129 w.heap.size 97 8 8 16 8 8 (wordsV h) _ rfl rfl rfl v4.drew t4.hb.drew (by omega) (by omega) (fun _ => rfl) ?_
      simp only [Act.put, List.setIfInBounds_toArray, List.set_cons_succ, List.set_cons_zero]
      obtain ⟨W4, hW4⟩ : ∃ W4, W3.drew.setRow V (arrA 16 (copyF 0 8 (wordsV h) fun _ => Value.int IntKind.u32 0)) = W4 := ⟨_, rfl⟩
      have v5 : W4.rowIs V 129 16 (copyF 0 8 (wordsV h) fun _ => Value.int IntKind.u32 0) := by rw [← hW4]; exact rowIs_setRow v4.drew _
      have f5 : W4.rowIs F 97 8 (wordsV iv) := by rw [← hW4]; exact rowIs_setOther f4.drew hFV _
      have b5 : Below (w.heap.size + 3) U W4 := by rw [← hW4]; exact below_setRow b4.drew hVB _
      rw [hW4]
      clear hW4 v4 f4 b4 t4
      go_wp2
      refine wp_region_still_tail 2 (by kernel_rfl) (by kernel_rfl) ?_
      change wpStill _ _ W4.drew (fun a' => wpList _ _ _ _ a' W4.drew) _ _
      simp only [List.take_succ_cons, List.take_zero, List.drop_succ_cons, List.drop_zero]
      repeat still_step
      try refine wpStill_nil ?_
      refine copy_arr rfl _ _ 139 139 rfl 38 und139 siz38 V 8 8 16 129 F 97 8 8 8 8 8 (wordsV iv) _ rfl rfl rfl v5.drew f5.drew (by omega) (by omega) (fun _ => rfl) ?_
      simp only [Act.put, List.setIfInBounds_toArray, List.set_cons_succ, List.set_cons_zero]
      obtain ⟨W5, hW5⟩ : ∃ W5, W4.drew.setRow V (arrA 16 (copyF 8 8 (wordsV iv) (copyF 0 8 (wordsV h) fun _ => Value.int IntKind.u32 0))) = W5 := ⟨_, rfl⟩
      have v6 : W5.rowIs V 129 16 (wordsV (beg0 h)) := by
        rw [← hW5]
        exact (rowIs_setRow v5.drew _).congr (fun j hj => beg0_copy h j hj)
      have b6 : Below (w.heap.size + 3) U W5 := by rw [← hW5]; exact below_setRow b5.drew hVB _
      rw [hW5]
      clear hW5 v5 f5 b5
      go_upto_region 11 with fail
      have hw0 : Words (beg0 h) := beg0_words hh
      go_cut [] (fun wx => wx.rowIs V 129 16 (wordsV (beg1 h count)) ∧ Below (w.heap.size + 3) U wx)
      case first =>
        obtain ⟨x, hx⟩ : ∃ x, beg0 h 12 = x := ⟨_, rfl⟩
        have d1 : W5.cell? ⟨V, 12, none⟩ = some (.int .u32 (x : Int)) := by rw [← hx]; exact v6.cell (by omega)
        have d2 := v6.frozen 12
        have d3 : bits .xor .u32 (x : Int) ((count : Int) % 4294967296) = ((x ^^^ (count % 4294967296) : Nat) : Int) := u32_xor_nat x (count % 4294967296) (by rw [← hx]; exact hw0 12) (by omega)
        go_wp2
        go_meet
        refine ⟨(v6.set 12 _).congr (fun k _ => ?_), b6.setCell hVB _⟩
        rw [beg1, hx]
        exact upd_wordsV _ _ _ _
      case rest =>
      obtain ⟨v7, b7⟩ := hcut
      have hw1 : Words (beg1 h count) := beg1_words hh count
      go_upto_region 12 with fail
      go_cut [] (fun wx => wx.rowIs V 129 16 (wordsV (beg2 h count)) ∧ Below (w.heap.size + 3) U wx)
      case first =>
        obtain ⟨x, hx⟩ : ∃ x, beg1 h count 13 = x := ⟨_, rfl⟩
        have d1 : wc.cell? ⟨V, 13, none⟩ = some (.int .u32 (x : Int)) := by rw [← hx]; exact v7.cell (by omega)
        have d2 := v7.frozen 13
        have d3 : bits .xor .u32 (x : Int) ((count : Int) / 4294967296) = ((x ^^^ (count / 4294967296) : Nat) : Int) := u32_xor_nat x (count / 4294967296) (by rw [← hx]; exact hw1 13) (by omega)
        go_wp2
        go_meet
        refine ⟨(v7.set 13 _).congr (fun k _ => ?_), b7.setCell hVB _⟩
        rw [beg2, hx]
        exact upd_wordsV _ _ _ _
      case rest =>
      obtain ⟨v8, b8⟩ := hcut
      have hw2 : Words (beg2 h count) := beg2_words hh count hc
      clear v6 b6 v7 b7
      go_upto_if 48 with fail
      go_cut [] (fun wx => wx.rowIs V 129 16 (wordsV (begV h count last)) ∧ Below (w.heap.size + 3) U wx)
      case first =>
        cases last with
        | false =>
          go_wp2
          go_meet
          exact ⟨v8, b8⟩
        | true =>
          obtain ⟨x, hx⟩ : ∃ x, beg2 h count 14 = x := ⟨_, rfl⟩
          have d1 : wc.cell? ⟨V, 14, none⟩ = some (.int .u32 (x : Int)) := by rw [← hx]; exact v8.cell (by omega)
          have d2 := v8.frozen 14
          have d3 : bits .xor .u32 IntKind.u32.max (x : Int) = ((4294967295 - x : Nat) : Int) := u32_not x (by rw [← hx]; exact hw2 14)
          go_wp2
          go_meet
          refine ⟨(v8.set 14 _).congr (fun k _ => ?_), b8.setCell hVB _⟩
          rw [begV, if_pos rfl, hx]
          exact upd_wordsV _ _ _ _
      case rest =>
      obtain ⟨v9, b9⟩ := hcut
      have hw3 : Words (begV h count last) := begV_words hh count last hc
      clear v8 b8 hw0 hw1 hw2
      obtain ⟨bv, hbv⟩ : ∃ bv, begV h count last = bv := ⟨_, rfl⟩
      rw [hbv] at v9 hw3
      have Hbv := Lib.hid hbv
      clear hbv
      go_wp2_with fail
      go_loopw [53] (fun a wx => ∃ r : Nat, r ≤ 10 ∧ a = .int .i64 (r : Int) ∧ wx.rowIs V 129 16 (wordsV (rnds (msgV s) r bv)) ∧ Below (w.heap.size + 3) U wx) (fun a _ => 10 - (intOf a).toNat)
      case atStart => exact ⟨0, by omega, rfl, v9, b9⟩
      case round =>
        obtain ⟨r, hr, rfl, vr, br⟩ := hrel
        by_cases hrt : r < 10
        · have c2 : decide ((r : Int) < 10) = true := decide_eq_true (by omega)
          have hwr := rnds_words (msgV s) hw3 r
          obtain ⟨v, hv⟩ : ∃ v, rnds (msgV s) r bv = v := ⟨_, rfl⟩
          rw [hv] at vr hwr
          have Hv := Lib.hid hv
          clear hv
          go_wp2_with fail
          go_loopw [56] (fun a wx => ∃ i : Nat, i ≤ 4 ∧ a = .int .i64 (i : Int) ∧ wx.rowIs V 129 16 (wordsV (stps (msgV s) r i v)) ∧ Below (w.heap.size + 3) U wx) (fun a _ => 4 - (intOf a).toNat)
          case atStart => exact ⟨0, by omega, rfl, vr, br⟩
          case round =>
            obtain ⟨i, hi, rfl, vi, bi⟩ := hrel
            have hwi := stps_words (msgV s) r hwr i
            obtain ⟨vv, hvv⟩ : ∃ vv, stps (msgV s) r i v = vv := ⟨_, rfl⟩
            rw [hvv] at vi hwi
            have Hvv := Lib.hid hvv
            clear hvv
            by_cases hlt : i < 4
            · have c3 : decide ((i : Int) < 4) = true := decide_eq_true (by omega)
              have e1 : IntKind.i64.wrap (4 + (i : Int)) = ((4 + i : Nat) : Int) := by rw [IntWalk.i64_in _ (by omega)]; omega
              have e2 : IntKind.i64.wrap (8 + (i : Int)) = ((8 + i : Nat) : Int) := by rw [IntWalk.i64_in _ (by omega)]; omega
              have e3 : IntKind.i64.wrap (12 + (i : Int)) = ((12 + i : Nat) : Int) := by rw [IntWalk.i64_in _ (by omega)]; omega
              have e4 : IntKind.i64.wrap (2 * (i : Int)) = ((2 * i : Nat) : Int) := by rw [IntWalk.i64_in _ (by omega)]; omega
              have e5 : IntKind.i64.wrap (2 * (i : Int) + 1) = ((2 * i + 1 : Nat) : Int) := by rw [IntWalk.i64_in _ (by omega)]; omega
              have hp := sig_lt r (2 * i)
              have hq := sig_lt r (2 * i + 1)
              have k1 := row_any r (2 * i) wr.drew hrt (by omega)
              have k2 := row_any r (2 * i + 1) wr.drew hrt (by omega)
              obtain ⟨p, hpe⟩ : ∃ p, sig r (2 * i) = p := ⟨_, rfl⟩
              obtain ⟨q, hqe⟩ : ∃ q, sig r (2 * i + 1) = q := ⟨_, rfl⟩
              rw [hpe] at hp k1
              rw [hqe] at hq k2
              have Hstp : Hid (stps (msgV s) r (i + 1) v = mixV vv i (4 + i) (8 + i) (12 + i) (msgV s p) (msgV s q)) := by
                refine Lib.hid ?_
                show stp (msgV s) r i (stps (msgV s) r i v) = _
                rw [Hvv.out, stp, if_pos hlt, hpe, hqe]
              clear hpe hqe
              have p1 : (p : Int) < 16 := by omega
              have q1 : (q : Int) < 16 := by omega
              have ti := t1.past bi
              have d1 : wr.drew.cell? ⟨w.heap.size + 1 + 1, p, none⟩ = some (.int .u32 (msgV s p : Int)) := by rw [← msgP_16 s p hp]; exact ti.mb.drew.cell hp
              have d2 : wr.drew.cell? ⟨w.heap.size + 1 + 1, q, none⟩ = some (.int .u32 (msgV s q : Int)) := by rw [← msgP_16 s q hq]; exact ti.mb.drew.cell hq
              have mp := msgV_words s p
              have mq := msgV_words s q
              obtain ⟨x, hx⟩ : ∃ x, msgV s p = x := ⟨_, rfl⟩
              obtain ⟨y, hy⟩ : ∃ y, msgV s q = y := ⟨_, rfl⟩
              rw [hx] at d1 mp Hstp
              rw [hy] at d2 mq Hstp
              clear hx hy
              go_wp2
              refine wp_region_still_tail 20 (by kernel_rfl) (by kernel_rfl) ?_
              change wpStill _ _ wr.drew (fun a' => wpList _ _ _ _ a' wr.drew) _ _
              simp only [List.take_succ_cons, List.take_zero, List.drop_succ_cons, List.drop_zero]
              repeat still_step
              refine still_call (F := 116) rfl (by go_simp) k1 ?_
              simp only [Act.put, List.setIfInBounds_toArray, List.set_cons_succ, List.set_cons_zero]
              repeat still_step
              refine still_call (F := 116) rfl (by go_simp) k2 ?_
              simp only [Act.put, List.setIfInBounds_toArray, List.set_cons_succ, List.set_cons_zero]
              repeat still_step
              try refine wpStill_nil ?_
              go_wp2_with fail
              rw [show (4 + (i : Int)) = ((4 + i : Nat) : Int) by omega, show (8 + (i : Int)) = ((8 + i : Nat) : Int) by omega, show (12 + (i : Int)) = ((12 + i : Nat) : Int) by omega]
              refine (mix_any 129 V i (4 + i) (8 + i) (12 + i) x y vv wr.drew vi.drew hwi mp mq (by omega) (by omega) (by omega) (by omega)).mono ?_
              rintro e w3 ⟨rfl, v3, g3⟩
              go_wp2
              go_roundw
              case rel => exact ⟨i + 1, by omega, by go_num, by rw [Hstp.out]; exact v3, bi.drew.grown g3 ti.mb.lt (fun k hk => by cases hk; exact hVB)⟩
              case measure => simp [intOf]; omega
            · have c3 : decide ((i : Int) < 4) = false := decide_eq_false (by omega)
              obtain rfl : i = 4 := by omega
              rw [show ((4 : Nat) : Int) = 4 from rfl]
              obtain ⟨Y, rfl⟩ : ∃ Y, Y = wr := ⟨wr, rfl⟩
              go_wp2_with fail
              go_loopw [81] (fun a wx => ∃ i : Nat, i ≤ 4 ∧ a = .int .i64 (i : Int) ∧ wx.rowIs V 129 16 (wordsV (stps (msgV s) r (4 + i) v)) ∧ Below (w.heap.size + 3) U wx) (fun a _ => 4 - (intOf a).toNat)
              case atStart => exact ⟨0, by omega, rfl, by rw [← Hvv.out] at vi; exact vi, bi⟩
              case round =>
                clear vi bi hwi Hvv
                obtain ⟨i, hi, rfl, vi, bi⟩ := hrel
                by_cases hlt : i < 4
                · have hwi := stps_words (msgV s) r hwr (4 + i)
                  obtain ⟨vv, hvv⟩ : ∃ vv, stps (msgV s) r (4 + i) v = vv := ⟨_, rfl⟩
                  rw [hvv] at vi hwi
                  have Hvv := Lib.hid hvv
                  clear hvv
                  have c3 : decide ((i : Int) < 4) = true := decide_eq_true (by omega)
                  have e1 : IntKind.i64.wrap ((i : Int) + 1) = (i : Int) + 1 := IntWalk.i64_in _ (by omega)
                  have e2 : IntKind.i64.wrap ((i : Int) + 2) = (i : Int) + 2 := IntWalk.i64_in _ (by omega)
                  have e3 : IntKind.i64.wrap ((i : Int) + 3) = (i : Int) + 3 := IntWalk.i64_in _ (by omega)
                  obtain ⟨b1, hb1⟩ : ∃ b1, 4 + (i + 1) % 4 = b1 := ⟨_, rfl⟩
                  obtain ⟨b2, hb2⟩ : ∃ b2, 8 + (i + 2) % 4 = b2 := ⟨_, rfl⟩
                  obtain ⟨b3, hb3⟩ : ∃ b3, 12 + (i + 3) % 4 = b3 := ⟨_, rfl⟩
                  have f1 : IntKind.i64.wrap (4 + ((i : Int) + 1).tmod 4) = (b1 : Int) := by rw [Int.tmod_eq_emod_of_nonneg (by omega), IntWalk.i64_in _ (by omega)]; omega
                  have f2 : IntKind.i64.wrap (8 + ((i : Int) + 2).tmod 4) = (b2 : Int) := by rw [Int.tmod_eq_emod_of_nonneg (by omega), IntWalk.i64_in _ (by omega)]; omega
                  have f3 : IntKind.i64.wrap (12 + ((i : Int) + 3).tmod 4) = (b3 : Int) := by rw [Int.tmod_eq_emod_of_nonneg (by omega), IntWalk.i64_in _ (by omega)]; omega
                  obtain ⟨n1, hn1⟩ : ∃ n1, 2 * (4 + i) = n1 := ⟨_, rfl⟩
                  obtain ⟨n2, hn2⟩ : ∃ n2, 2 * (4 + i) + 1 = n2 := ⟨_, rfl⟩
                  have e4 : IntKind.i64.wrap (2 * (i : Int)) = 2 * (i : Int) := IntWalk.i64_in _ (by omega)
                  have e5 : IntKind.i64.wrap (8 + 2 * (i : Int)) = (n1 : Int) := by rw [IntWalk.i64_in _ (by omega)]; omega
                  have e6 : IntKind.i64.wrap (9 + 2 * (i : Int)) = (n2 : Int) := by rw [IntWalk.i64_in _ (by omega)]; omega
                  have hp := sig_lt r n1
                  have hq := sig_lt r n2
                  have k1 := row_any r n1 wr.drew hrt (by omega)
                  have k2 := row_any r n2 wr.drew hrt (by omega)
                  obtain ⟨p, hpe⟩ : ∃ p, sig r n1 = p := ⟨_, rfl⟩
                  obtain ⟨q, hqe⟩ : ∃ q, sig r n2 = q := ⟨_, rfl⟩
                  rw [hpe] at hp k1
                  rw [hqe] at hq k2
                  have Hstp : Hid (stps (msgV s) r (4 + (i + 1)) v = mixV vv i b1 b2 b3 (msgV s p) (msgV s q)) := by
                    refine Lib.hid ?_
                    show stp (msgV s) r (4 + i) (stps (msgV s) r (4 + i) v) = _
                    rw [Hvv.out, stp, if_neg (by omega), show 4 + i - 4 = i by omega, hn2, hn1, hpe, hqe, hb1, hb2, hb3]
                  have l1 : b1 < 16 := by omega
                  have l2 : b2 < 16 := by omega
                  have l3 : b3 < 16 := by omega
                  clear hpe hqe hn1 hn2 hb1 hb2 hb3
                  have p1 : (p : Int) < 16 := by omega
                  have q1 : (q : Int) < 16 := by omega
                  have ti := t1.past bi
                  have d1 : wr.drew.cell? ⟨w.heap.size + 1 + 1, p, none⟩ = some (.int .u32 (msgV s p : Int)) := by rw [← msgP_16 s p hp]; exact ti.mb.drew.cell hp
                  have d2 : wr.drew.cell? ⟨w.heap.size + 1 + 1, q, none⟩ = some (.int .u32 (msgV s q : Int)) := by rw [← msgP_16 s q hq]; exact ti.mb.drew.cell hq
                  have mp := msgV_words s p
                  have mq := msgV_words s q
                  obtain ⟨x, hx⟩ : ∃ x, msgV s p = x := ⟨_, rfl⟩
                  obtain ⟨y, hy⟩ : ∃ y, msgV s q = y := ⟨_, rfl⟩
                  rw [hx] at d1 mp Hstp
                  rw [hy] at d2 mq Hstp
                  clear hx hy
                  go_wp2
                  refine wp_region_still_tail 27 (by kernel_rfl) (by kernel_rfl) ?_
                  change wpStill _ _ wr.drew (fun a' => wpList _ _ _ _ a' wr.drew) _ _
                  simp only [List.take_succ_cons, List.take_zero, List.drop_succ_cons, List.drop_zero]
                  repeat still_step
                  refine still_call (F := 116) rfl (by go_simp) k1 ?_
                  simp only [Act.put, List.setIfInBounds_toArray, List.set_cons_succ, List.set_cons_zero]
                  repeat still_step
                  refine still_call (F := 116) rfl (by go_simp) k2 ?_
                  simp only [Act.put, List.setIfInBounds_toArray, List.set_cons_succ, List.set_cons_zero]
                  repeat still_step
                  try refine wpStill_nil ?_
                  go_wp2_with fail
                  refine (mix_any 129 V i b1 b2 b3 x y vv wr.drew vi.drew hwi mp mq (by omega) l1 l2 l3).mono ?_
                  rintro e w3 ⟨rfl, v3, g3⟩
                  go_wp2
                  go_roundw
                  case rel => exact ⟨i + 1, by omega, by go_num, by rw [Hstp.out]; exact v3, bi.drew.grown g3 ti.mb.lt (fun k hk => by cases hk; exact hVB)⟩
                  case measure => simp [intOf]; omega
                · have c3 : decide ((i : Int) < 4) = false := decide_eq_false (by omega)
                  obtain rfl : i = 4 := by omega
                  go_wp2
                  go_roundw
                  case rel =>
                    refine ⟨r + 1, by omega, by go_num, ?_, bi⟩
                    show wr.rowIs V 129 16 (wordsV (stps (msgV s) r 8 (rnds (msgV s) r bv)))
                    rw [Hv.out]
                    exact vi
                  case measure => simp [intOf]; omega
        · have c2 : decide ((r : Int) < 10) = false := decide_eq_false (by omega)
          obtain rfl : r = 10 := by omega
          rw [show ((10 : Nat) : Int) = 10 from rfl]
          have hwr := rnds_words (msgV s) hw3 10
          obtain ⟨fv, hfv⟩ : ∃ fv, rnds (msgV s) 10 bv = fv := ⟨_, rfl⟩
          rw [hfv] at vr hwr
          have Htk : ∀ j, takeV h (msgV s) count last j = h j ^^^ (fv j ^^^ fv (j + 8)) := fun j => by rw [takeV, Hbv.out, hfv]
          have HTk := Lib.hid Htk
          have t9 := t1.past br
          clear hfv Htk t1 br v9 b9 t0
          obtain ⟨Y, rfl⟩ : ∃ Y, Y = wr := ⟨wr, rfl⟩
          go_wp2_with fail
          go_loopw [114] (fun a wx => ∃ i : Nat, i ≤ 8 ∧ a = .int .i64 (i : Int) ∧ wx.rowIs V 129 16 (wordsV fv) ∧ TK w.heap.size (tkP h fv i) (msgP s 16) w wx) (fun a _ => 8 - (intOf a).toNat)
          case atStart => exact ⟨0, by omega, rfl, vr, t9⟩
          case round =>
            obtain ⟨i, hi, rfl, vi, ti⟩ := hrel
            by_cases hlt : i < 8
            · have c3 : decide ((i : Int) < 8) = true := decide_eq_true (by omega)
              have e1 : IntKind.i64.wrap ((i : Int) + 8) = ((i + 8 : Nat) : Int) := by rw [IntWalk.i64_in _ (by omega)]; omega
              have g1 : (i : Int) < 8 := by omega
              have g2 : (i : Int) < 16 := by omega
              have g3 : ((i + 8 : Nat) : Int) < 16 := by omega
              obtain ⟨k, hk⟩ : ∃ k, i + 8 = k := ⟨_, rfl⟩
              rw [hk] at e1 g3
              have hkl : k < 16 := by omega
              have l1 := hh i
              have l2 := hwr i
              have l3 := hwr k
              have hst : tkP h fv (i + 1) = upd (tkP h fv i) i (h i ^^^ (fv i ^^^ fv k)) := by rw [← hk]; exact tkP_step h fv i
              have hcur : tkP h fv i i = h i := if_neg (by omega)
              have d1 : wr.cell? ⟨w.heap.size, i, none⟩ = some (.int .u32 (h i : Int)) := by rw [← hcur]; exact ti.hb.cell hlt
              have d2 : wr.cell? ⟨V, i, none⟩ = some (.int .u32 (fv i : Int)) := vi.cell (by omega)
              have d3 : wr.cell? ⟨V, k, none⟩ = some (.int .u32 (fv k : Int)) := vi.cell hkl
              have d4 := ti.hb.frozen i
              have o1 := u32_xor_nat _ _ l2 l3
              have o2 := u32_xor_nat (h i) (fv i ^^^ fv k) l1 (Nat.xor_lt_two_pow (n := 32) l2 l3)
              have Hst := Lib.hid hst
              clear hst hk hcur
              go_wp2
              go_region
              go_wp2
              go_roundw
              case rel =>
                refine ⟨i + 1, by omega, by go_num, (vi.setOther (by simp; omega) _).drew, ?_⟩
                rw [Hst.out]
                exact (ti.putH i _).drewN 1
              case measure => simp [intOf]; omega
            · have c3 : decide ((i : Int) < 8) = false := decide_eq_false (by omega)
              obtain rfl : i = 8 := by omega
              have hres : arrA 8 (wordsV (tkP h fv 8)) = arrA 8 (wordsV (takeV h (msgV s) count last)) := arrA_congr (fun j hj => by rw [wordsV, wordsV, HTk.out j, tkP, if_pos hj])
              have Hres := Lib.hid hres
              clear hres
              go_wp2_with (first | (refine load_arr rfl 97 _ rfl 8 38 97 w.heap.size _ rfl ti.hb und97 siz97 ?_) | (refine store_arr rfl 97 _ _ rfl 8 97 (w.heap.size + 1) _ _ rfl rfl ti.rb siz97 (fun _ => rfl) ?_))
              refine bodyPost_ret (result_arr rfl _ _ 8 38 97 (w.heap.size + 1) _ rfl (rowIs_setRow ti.rb _) und97 siz97) rfl ?_
              exact ⟨by rw [Hres.out], below_setRow ti.below (by omega) _⟩
end Go.Proofs.Ytnjcganknpnjcaa
