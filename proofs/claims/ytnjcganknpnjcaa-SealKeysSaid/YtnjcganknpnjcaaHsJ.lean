/- hash: the reference's digest of blocks. -/
import Derived.Test.YtnjcganknpnjcaaHsI
import Derived.Test.YtnjcganknpnjcaaHsH
namespace Go.Proofs.Ytnjcganknpnjcaa
open Go.RowKit

/-- Some zeroes behind a text. -/
def zer (x : ByteArray) (n : Nat) : ByteArray := ⟨(x.data.toList ++ List.replicate n 0).toArray⟩
theorem zer_size (x : ByteArray) (n : Nat) : (zer x n).size = x.size + n := by
  have : x.data.toList.length = x.size := by simp
  show (x.data.toList ++ List.replicate n 0).toArray.size = _
  simp
theorem zer_step (x : ByteArray) (n : Nat) : zer x n ++ ⟨#[0]⟩ = zer x (n + 1) := by
  refine ByteArray.ext (Array.ext' ?_)
  simp [zer, List.replicate_succ']
theorem zer_pad (x : ByteArray) : zer x (64 - x.size) = pad x := rfl
theorem zer_nil (x : ByteArray) : zer x 0 = x := by
  refine ByteArray.ext (Array.ext' ?_)
  simp [zer]

theorem extract_two (s : ByteArray) (c n : Nat) (h : c + n ≤ s.size) : (s.extract c s.size).extract 0 n = s.extract c (c + n) := by
  refine ByteArray.ext (Array.ext' ?_)
  rw [Lib.extract_data, Lib.extract_data, Lib.extract_data]
  have e : s.data.toList.length = s.size := by simp
  rw [List.drop_zero, List.take_take, show min (n - 0) (s.size - c) = n by omega, show c + n - c = n by omega]
theorem extract_rest (s : ByteArray) (c n : Nat) (h : c + n ≤ s.size) : (s.extract c s.size).extract n (s.extract c s.size).size = s.extract (c + n) s.size := by
  refine ByteArray.ext (Array.ext' ?_)
  rw [Lib.extract_data, Lib.extract_data, Lib.extract_data, ByteArray.size_extract]
  have e : s.data.toList.length = s.size := by simp
  rw [List.take_of_length_le (by simp), List.take_of_length_le (by simp), List.take_of_length_le (by simp), List.drop_drop]
set_option maxRecDepth 100000 in
set_option maxHeartbeats 4000000 in
theorem rdigest_any (h : Nat → Nat) (s : ByteArray) (w : World) (hh : Words h) (hs : s.size ≤ 1000000) :
    Calls Try.prog 104 #[.agg (arrA 8 (wordsV h)), .string s] w fun e w' => e = .returned (.agg (arrA 32 (bytesV (dgB (dig h s 0))))) ∧ Below w.heap.size w w' := by
  go_enter Try.func104, Try.ntmps104
  go_wp2_with fail
  have a0 : World.rowIs ((w.alloc (Obj.cells (arrA 8 (wordsV h)) 97)).alloc (Obj.cells #[Value.int IntKind.u8 0, Value.int IntKind.u8 0, Value.int IntKind.u8 0, Value.int IntKind.u8 0, Value.int IntKind.u8 0, Value.int IntKind.u8 0, Value.int IntKind.u8 0, Value.int IntKind.u8 0, Value.int IntKind.u8 0, Value.int IntKind.u8 0, Value.int IntKind.u8 0, Value.int IntKind.u8 0, Value.int IntKind.u8 0, Value.int IntKind.u8 0, Value.int IntKind.u8 0, Value.int IntKind.u8 0, Value.int IntKind.u8 0, Value.int IntKind.u8 0, Value.int IntKind.u8 0, Value.int IntKind.u8 0, Value.int IntKind.u8 0, Value.int IntKind.u8 0, Value.int IntKind.u8 0, Value.int IntKind.u8 0, Value.int IntKind.u8 0, Value.int IntKind.u8 0, Value.int IntKind.u8 0, Value.int IntKind.u8 0, Value.int IntKind.u8 0, Value.int IntKind.u8 0, Value.int IntKind.u8 0, Value.int IntKind.u8 0] 57)) w.heap.size 97 8 (wordsV h) := (row_of_heap (heap_new w _)).alloc _
  have a1 : World.rowIs ((w.alloc (Obj.cells (arrA 8 (wordsV h)) 97)).alloc (Obj.cells #[Value.int IntKind.u8 0, Value.int IntKind.u8 0, Value.int IntKind.u8 0, Value.int IntKind.u8 0, Value.int IntKind.u8 0, Value.int IntKind.u8 0, Value.int IntKind.u8 0, Value.int IntKind.u8 0, Value.int IntKind.u8 0, Value.int IntKind.u8 0, Value.int IntKind.u8 0, Value.int IntKind.u8 0, Value.int IntKind.u8 0, Value.int IntKind.u8 0, Value.int IntKind.u8 0, Value.int IntKind.u8 0, Value.int IntKind.u8 0, Value.int IntKind.u8 0, Value.int IntKind.u8 0, Value.int IntKind.u8 0, Value.int IntKind.u8 0, Value.int IntKind.u8 0, Value.int IntKind.u8 0, Value.int IntKind.u8 0, Value.int IntKind.u8 0, Value.int IntKind.u8 0, Value.int IntKind.u8 0, Value.int IntKind.u8 0, Value.int IntKind.u8 0, Value.int IntKind.u8 0, Value.int IntKind.u8 0, Value.int IntKind.u8 0] 57)) (w.heap.size + 1) 57 32 (fun _ => .int .u8 0) := by
    have := heap_new (w.alloc (Obj.cells (arrA 8 (wordsV h)) 97)) (Obj.cells #[Value.int IntKind.u8 0, Value.int IntKind.u8 0, Value.int IntKind.u8 0, Value.int IntKind.u8 0, Value.int IntKind.u8 0, Value.int IntKind.u8 0, Value.int IntKind.u8 0, Value.int IntKind.u8 0, Value.int IntKind.u8 0, Value.int IntKind.u8 0, Value.int IntKind.u8 0, Value.int IntKind.u8 0, Value.int IntKind.u8 0, Value.int IntKind.u8 0, Value.int IntKind.u8 0, Value.int IntKind.u8 0, Value.int IntKind.u8 0, Value.int IntKind.u8 0, Value.int IntKind.u8 0, Value.int IntKind.u8 0, Value.int IntKind.u8 0, Value.int IntKind.u8 0, Value.int IntKind.u8 0, Value.int IntKind.u8 0, Value.int IntKind.u8 0, Value.int IntKind.u8 0, Value.int IntKind.u8 0, Value.int IntKind.u8 0, Value.int IntKind.u8 0, Value.int IntKind.u8 0, Value.int IntKind.u8 0, Value.int IntKind.u8 0] 57)
    rw [World.size_alloc] at this
    exact row_of_heap this
  have a2 : Below w.heap.size w ((w.alloc (Obj.cells (arrA 8 (wordsV h)) 97)).alloc (Obj.cells #[Value.int IntKind.u8 0, Value.int IntKind.u8 0, Value.int IntKind.u8 0, Value.int IntKind.u8 0, Value.int IntKind.u8 0, Value.int IntKind.u8 0, Value.int IntKind.u8 0, Value.int IntKind.u8 0, Value.int IntKind.u8 0, Value.int IntKind.u8 0, Value.int IntKind.u8 0, Value.int IntKind.u8 0, Value.int IntKind.u8 0, Value.int IntKind.u8 0, Value.int IntKind.u8 0, Value.int IntKind.u8 0, Value.int IntKind.u8 0, Value.int IntKind.u8 0, Value.int IntKind.u8 0, Value.int IntKind.u8 0, Value.int IntKind.u8 0, Value.int IntKind.u8 0, Value.int IntKind.u8 0, Value.int IntKind.u8 0, Value.int IntKind.u8 0, Value.int IntKind.u8 0, Value.int IntKind.u8 0, Value.int IntKind.u8 0, Value.int IntKind.u8 0, Value.int IntKind.u8 0, Value.int IntKind.u8 0, Value.int IntKind.u8 0] 57)) := ((Below.refl _ w).alloc (Nat.le_refl _) _).alloc (by simp) _
  obtain ⟨W0, hW0⟩ : ∃ W0, (w.alloc (Obj.cells (arrA 8 (wordsV h)) 97)).alloc (Obj.cells #[Value.int IntKind.u8 0, Value.int IntKind.u8 0, Value.int IntKind.u8 0, Value.int IntKind.u8 0, Value.int IntKind.u8 0, Value.int IntKind.u8 0, Value.int IntKind.u8 0, Value.int IntKind.u8 0, Value.int IntKind.u8 0, Value.int IntKind.u8 0, Value.int IntKind.u8 0, Value.int IntKind.u8 0, Value.int IntKind.u8 0, Value.int IntKind.u8 0, Value.int IntKind.u8 0, Value.int IntKind.u8 0, Value.int IntKind.u8 0, Value.int IntKind.u8 0, Value.int IntKind.u8 0, Value.int IntKind.u8 0, Value.int IntKind.u8 0, Value.int IntKind.u8 0, Value.int IntKind.u8 0, Value.int IntKind.u8 0, Value.int IntKind.u8 0, Value.int IntKind.u8 0, Value.int IntKind.u8 0, Value.int IntKind.u8 0, Value.int IntKind.u8 0, Value.int IntKind.u8 0, Value.int IntKind.u8 0, Value.int IntKind.u8 0] 57) = W0 := ⟨_, rfl⟩
  rw [hW0] at a0 a1 a2 ⊢
  clear hW0
  go_loopw [5] (fun b wr => ∃ (c : Nat) (k : Nat → Nat), b = .int .i64 (c : Int) ∧ c ≤ s.size ∧ Words k ∧ DG w.heap.size k w wr ∧ Hid (dig k (s.extract c s.size) c = dig h s 0)) (fun b _ => s.size - (intOf b).toNat)
  case atStart => exact ⟨0, h, rfl, by omega, hh, ⟨a0, a1, a2⟩, Lib.hid (by rw [show s.extract 0 s.size = s by simp])⟩
  case round =>
    clear a0 a1 a2
    obtain ⟨c, k, rfl, hcs, hk, t1, H⟩ := hrel
    obtain ⟨c1, hc1⟩ : ∃ c1, c + 64 = c1 := ⟨_, rfl⟩
    have e1 : IntKind.i64.wrap ((c : Int) + 64) = (c1 : Int) := by rw [IntWalk.i64_in _ (by omega)]; omega
    by_cases hlt : c1 < s.size
    · have c0 : decide ((s.size : Int) ≤ (c1 : Int)) = false := decide_eq_false (by omega)
      have g1 : (c1 : Int) < (s.size : Int) := by omega
      have H2 : Hid (dig (takeV k (msgV (s.extract c c1)) c1 false) (s.extract c1 s.size) c1 = dig h s 0) := by
        refine Lib.hid ?_
        have e := dig_more k (s.extract c s.size) c (by rw [ByteArray.size_extract]; omega)
        rw [hc1, extract_two _ _ _ (by omega), extract_rest _ _ _ (by omega), hc1] at e
        rw [← H.out, e]
      have hc1b : c1 < 18446744073709551616 := by omega
      have hxs : (s.extract c c1).size = 64 := by rw [ByteArray.size_extract]; omega
      have Hxs := Lib.hid hxs
      have g2 : c ≤ c1 := by omega
      have g3 : (c : Int) ≤ (c1 : Int) := by omega
      have g4 : c1 ≤ s.size := by omega
      have g5 : (c1 : Int) ≤ (s.size : Int) := by omega
      have e2 : IntKind.u64.wrap (c1 : Int) = (c1 : Int) := IntWalk.u64_in _ (by omega)
      have Hc1 := Lib.hid hc1
      clear hc1 H hxs
      have hN : decide (s.size ≤ c1) = false := decide_eq_false (by omega)
      have hct := fun W => rtake_any k (s.extract c c1) c1 false W hk Hxs.out hc1b
      obtain ⟨K, hK⟩ : ∃ K, takeV k (msgV (s.extract c c1)) c1 false = K := ⟨_, rfl⟩
      rw [hK] at hct H2
      have hKw : Words K := by rw [← hK]; exact takeV_words hk _ _ _ hc1b
      clear hK
      go_upto_region 11 with fail
      go_wp2_with (first | (refine load_arr rfl 97 _ rfl 8 38 97 w.heap.size _ rfl t1.hb und97 siz97 ?_) | fail)
      refine (hct wr).mono ?_
      rintro e wx ⟨rfl, hbx⟩
      have t2 := t1.past hbx
      go_wp2_with (first | (refine store_arr rfl 97 _ _ rfl 8 97 w.heap.size _ (wordsV K) rfl rfl t2.hb siz97 (fun _ => rfl) ?_) | fail)
      try simp only [Act.put, List.setIfInBounds_toArray, List.set_cons_succ, List.set_cons_zero]
      go_wp2
      go_roundw
      case rel => exact ⟨c1, K, rfl, by omega, hKw, t2.setH K, H2⟩
      case measure => simp [intOf]; have := Hc1.out; omega
    · have c0 : decide ((s.size : Int) ≤ (c1 : Int)) = true := decide_eq_true (by omega)
      have hN : decide (s.size ≤ c1) = true := decide_eq_true (by omega)
      have g3 : (c : Int) ≤ (s.size : Int) := by omega
      have hxs : (s.extract c s.size).size ≤ 64 := by rw [ByteArray.size_extract]; omega
      obtain ⟨x, hx⟩ : ∃ x, s.extract c s.size = x := ⟨_, rfl⟩
      have hdl : dig h s 0 = takeV k (msgV (pad x)) s.size true := by
        rw [← H.out, dig_last _ _ _ (by omega), hx]
        congr 1
        rw [← hx, ByteArray.size_extract]; omega
      rw [hx] at hxs
      have e2 : IntKind.u64.wrap (s.size : Int) = (s.size : Int) := IntWalk.u64_in _ (by omega)
      have hct := fun W => rtake_any k (pad x) s.size true W hk (pad_size x hxs) (by omega)
      obtain ⟨K, hK⟩ : ∃ K, takeV k (msgV (pad x)) s.size true = K := ⟨_, rfl⟩
      rw [hK] at hct hdl
      have hKw : Words K := by rw [← hK]; exact takeV_words hk _ _ _ (by omega)
      have Hdl := Lib.hid hdl
      clear hK hdl H hc1
      have hx0 : s.extract c s.size = zer x 0 := by rw [hx, zer_nil]
      clear hx
      obtain ⟨Y, rfl⟩ : ∃ Y, Y = wr := ⟨wr, rfl⟩
      go_wp2_with fail
      go_loopw [8] (fun b wx => ∃ j : Nat, b = .string (zer x j) ∧ x.size + j ≤ 64 ∧ wx = Y) (fun b _ => 64 - szOf b)
      case atStart => exact ⟨0, by first | rfl | rw [hx0], by omega, rfl⟩
      case round =>
        obtain ⟨j, rfl, hj, rfl⟩ := hrel
        have hzs := zer_size x j
        by_cases hj2 : x.size + j < 64
        · have c3 : decide ((x.size : Int) + (j : Int) < 64) = true := decide_eq_true (by omega)
          have c4 : (x.size : Int) + (j : Int) < 64 := by omega
          have hst := zer_step x j
          go_wp2
          go_roundw
          case rel => exact ⟨j + 1, rfl, by omega, trivial⟩
          case measure => show 64 - (zer x (j + 1)).size < 64 - (zer x j).size; rw [zer_size, zer_size]; omega
        · have c3 : decide ((x.size : Int) + (j : Int) < 64) = false := decide_eq_false (by omega)
          have c4 : ¬ (x.size : Int) + (j : Int) < 64 := by omega
          have hpd : zer x j = pad x := by rw [← zer_pad, show j = 64 - x.size by omega]
          obtain ⟨px, hpx⟩ : ∃ px, pad x = px := ⟨_, rfl⟩
          have c5 : decide ((px.size : Int) < 64) = false := decide_eq_false (by rw [← hpx, pad_size x hxs]; omega)
          have hps : px.size = 64 := by rw [← hpx]; exact pad_size x hxs
          have hps2 : ¬ px.size < 64 := by omega
          rw [hpx] at hct hpd
          rw [hpd]
          clear hpx hpd hzs hps
          go_upto_region 11 with fail
          go_wp2_with (first | (refine load_arr rfl 97 _ rfl 8 38 97 w.heap.size _ rfl t1.hb und97 siz97 ?_) | fail)
          refine (hct _).mono ?_
          rintro e wx ⟨rfl, hbx⟩
          have t2 := t1.past hbx
          go_wp2_with (first | (refine store_arr rfl 97 _ _ rfl 8 97 w.heap.size _ (wordsV K) rfl rfl t2.hb siz97 (fun _ => rfl) ?_) | fail)
          have t3 := t2.setH K
          have hz : World.rowIs ((wx.setRow w.heap.size (arrA 8 (wordsV K))).alloc (Obj.cells #[Value.int IntKind.u8 0, Value.int IntKind.u8 0, Value.int IntKind.u8 0, Value.int IntKind.u8 0, Value.int IntKind.u8 0, Value.int IntKind.u8 0, Value.int IntKind.u8 0, Value.int IntKind.u8 0, Value.int IntKind.u8 0, Value.int IntKind.u8 0, Value.int IntKind.u8 0, Value.int IntKind.u8 0, Value.int IntKind.u8 0, Value.int IntKind.u8 0, Value.int IntKind.u8 0, Value.int IntKind.u8 0, Value.int IntKind.u8 0, Value.int IntKind.u8 0, Value.int IntKind.u8 0, Value.int IntKind.u8 0, Value.int IntKind.u8 0, Value.int IntKind.u8 0, Value.int IntKind.u8 0, Value.int IntKind.u8 0, Value.int IntKind.u8 0, Value.int IntKind.u8 0, Value.int IntKind.u8 0, Value.int IntKind.u8 0, Value.int IntKind.u8 0, Value.int IntKind.u8 0, Value.int IntKind.u8 0, Value.int IntKind.u8 0] 57)) wx.heap.size 57 32 (bytesV (dgP (dgB K) 0)) := by
            have := heap_new (wx.setRow w.heap.size (arrA 8 (wordsV K))) (Obj.cells #[Value.int IntKind.u8 0, Value.int IntKind.u8 0, Value.int IntKind.u8 0, Value.int IntKind.u8 0, Value.int IntKind.u8 0, Value.int IntKind.u8 0, Value.int IntKind.u8 0, Value.int IntKind.u8 0, Value.int IntKind.u8 0, Value.int IntKind.u8 0, Value.int IntKind.u8 0, Value.int IntKind.u8 0, Value.int IntKind.u8 0, Value.int IntKind.u8 0, Value.int IntKind.u8 0, Value.int IntKind.u8 0, Value.int IntKind.u8 0, Value.int IntKind.u8 0, Value.int IntKind.u8 0, Value.int IntKind.u8 0, Value.int IntKind.u8 0, Value.int IntKind.u8 0, Value.int IntKind.u8 0, Value.int IntKind.u8 0, Value.int IntKind.u8 0, Value.int IntKind.u8 0, Value.int IntKind.u8 0, Value.int IntKind.u8 0, Value.int IntKind.u8 0, Value.int IntKind.u8 0, Value.int IntKind.u8 0, Value.int IntKind.u8 0] 57)
            rw [size_setRow] at this
            exact row_of_heap this
          have t4 := t3.past (wy := (wx.setRow w.heap.size (arrA 8 (wordsV K))).alloc (Obj.cells #[Value.int IntKind.u8 0, Value.int IntKind.u8 0, Value.int IntKind.u8 0, Value.int IntKind.u8 0, Value.int IntKind.u8 0, Value.int IntKind.u8 0, Value.int IntKind.u8 0, Value.int IntKind.u8 0, Value.int IntKind.u8 0, Value.int IntKind.u8 0, Value.int IntKind.u8 0, Value.int IntKind.u8 0, Value.int IntKind.u8 0, Value.int IntKind.u8 0, Value.int IntKind.u8 0, Value.int IntKind.u8 0, Value.int IntKind.u8 0, Value.int IntKind.u8 0, Value.int IntKind.u8 0, Value.int IntKind.u8 0, Value.int IntKind.u8 0, Value.int IntKind.u8 0, Value.int IntKind.u8 0, Value.int IntKind.u8 0, Value.int IntKind.u8 0, Value.int IntKind.u8 0, Value.int IntKind.u8 0, Value.int IntKind.u8 0, Value.int IntKind.u8 0, Value.int IntKind.u8 0, Value.int IntKind.u8 0, Value.int IntKind.u8 0] 57)) ((Below.refl _ _).alloc (Nat.le_refl _) _)
          have hO : w.heap.size + 1 < wx.heap.size := t2.rb.lt
          clear t3 t1 t2
          obtain ⟨O, hOe⟩ : ∃ O, wx.heap.size = O := ⟨_, rfl⟩
          obtain ⟨W1, hW1⟩ : ∃ W1, (wx.setRow w.heap.size (arrA 8 (wordsV K))).alloc (Obj.cells #[Value.int IntKind.u8 0, Value.int IntKind.u8 0, Value.int IntKind.u8 0, Value.int IntKind.u8 0, Value.int IntKind.u8 0, Value.int IntKind.u8 0, Value.int IntKind.u8 0, Value.int IntKind.u8 0, Value.int IntKind.u8 0, Value.int IntKind.u8 0, Value.int IntKind.u8 0, Value.int IntKind.u8 0, Value.int IntKind.u8 0, Value.int IntKind.u8 0, Value.int IntKind.u8 0, Value.int IntKind.u8 0, Value.int IntKind.u8 0, Value.int IntKind.u8 0, Value.int IntKind.u8 0, Value.int IntKind.u8 0, Value.int IntKind.u8 0, Value.int IntKind.u8 0, Value.int IntKind.u8 0, Value.int IntKind.u8 0, Value.int IntKind.u8 0, Value.int IntKind.u8 0, Value.int IntKind.u8 0, Value.int IntKind.u8 0, Value.int IntKind.u8 0, Value.int IntKind.u8 0, Value.int IntKind.u8 0, Value.int IntKind.u8 0] 57) = W1 := ⟨_, rfl⟩
          rw [hW1] at hz t4
          try simp only [Act.put, List.setIfInBounds_toArray, List.set_cons_succ, List.set_cons_zero]
          go_wp2_with fail
          rw [hW1]
          rw [hOe] at hz hO ⊢
          clear hW1 hOe hbx
          go_loopw [10] (fun a wx => ∃ i : Nat, i ≤ 32 ∧ a = .int .i64 (i : Int) ∧ wx.rowIs O 57 32 (bytesV (dgP (dgB K) i)) ∧ DG w.heap.size K w wx) (fun a _ => 32 - (intOf a).toNat)
          case atStart => exact ⟨0, by omega, rfl, hz, t4⟩
          case round =>
            clear hz t4
            obtain ⟨i, hi, rfl, hz, t4⟩ := hrel
            by_cases hlt8 : i < 32
            · have c2 : decide ((i : Int) < 32) = true := decide_eq_true (by omega)
              have c3 : (i : Int) < 32 := by omega
              obtain ⟨q, hq⟩ : ∃ q, i / 4 = q := ⟨_, rfl⟩
              obtain ⟨r, hr⟩ : ∃ r, i % 4 = r := ⟨_, rfl⟩
              have f1 : (i : Int) / 4 = (q : Int) := by omega
              have f2 : (i : Int) % 4 = (r : Int) := by omega
              have f3 : IntKind.i64.wrap (q : Int) = (q : Int) := IntWalk.i64_in _ (by omega)
              have q8 : q < 8 := by omega
              have q8' : (q : Int) < 8 := by omega
              have d1 : wr.cell? ⟨w.heap.size, q, none⟩ = some (.int .u32 (K q : Int)) := t4.hb.cell q8
              have hyl := hKw q
              obtain ⟨y, hy⟩ : ∃ y, K q = y := ⟨_, rfl⟩
              rw [hy] at hyl d1
              have hval : dgB K i = y / 256 ^ r % 256 := by rw [dgB, hq, hr, hy]
              have Hval := Lib.hid hval
              have hr4 : r < 4 := by omega
              clear hq hr hval hy
              go_wp2_with fail
              obtain ⟨Y, rfl⟩ : ∃ Y, Y = wr := ⟨wr, rfl⟩
              clear d1
              go_loopw [11, 12] (fun a b wx => ∃ k v : Nat, k ≤ r ∧ a = .int .u32 (v : Int) ∧ b = .int .i64 (k : Int) ∧ Hid (v = y / 256 ^ k) ∧ wx = Y) (fun _ b _ => 4 - (intOf b).toNat)
              case atStart => exact ⟨0, y, by omega, rfl, rfl, Lib.hid (by simp), rfl⟩
              case round =>
                obtain ⟨k, v, hk2, rfl, rfl, Hv, rfl⟩ := hrel
                by_cases hkr : k < r
                · have c6 : decide ((k : Int) < (r : Int)) = true := decide_eq_true (by omega)
                  have c7 : (k : Int) < (r : Int) := by omega
                  obtain ⟨v2, hv2⟩ : ∃ v2, v / 256 = v2 := ⟨_, rfl⟩
                  have f5 : (v : Int) / 256 = (v2 : Int) := by omega
                  have vl : v < 4294967296 := by rw [Hv.out]; exact Nat.lt_of_le_of_lt (Nat.div_le_self _ _) hyl
                  have v2l : v2 < 4294967296 := by omega
                  have Hv2 : Hid (v2 = y / 256 ^ (k + 1)) := Lib.hid (by rw [← hv2, Hv.out, Nat.div_div_eq_div_mul, Nat.pow_succ])
                  clear hv2 Hv
                  go_wp2
                  go_roundw
                  case rel => exact ⟨k + 1, v2, by omega, congrArg (Value.int .u32) (by omega), by go_num, Hv2, trivial⟩
                  case measure => simp [intOf]; omega
                · have c6 : decide ((k : Int) < (r : Int)) = false := decide_eq_false (by omega)
                  have c7 : ¬ (k : Int) < (r : Int) := by omega
                  obtain rfl : k = r := by omega
                  have d1 : wr.cell? ⟨O, i, none⟩ = some (.int .u8 (dgP (dgB K) i i : Int)) := hz.cell hlt8
                  have d2 := hz.frozen i
                  have hvv : v % 256 = dgB K i := by rw [Hval.out, Hv.out]
                  obtain ⟨u, hu⟩ : ∃ u, v % 256 = u := ⟨_, rfl⟩
                  have f6 : (v : Int) % 256 = (u : Int) := by omega
                  have ul : u < 256 := by omega
                  rw [hu] at hvv
                  have Hvv := Lib.hid hvv
                  clear hu hvv
                  go_wp2
                  go_roundw
                  case rel =>
                    refine ⟨i + 1, by omega, by go_num, ?_, t4.putO hO i _⟩
                    rw [← dgP_step, ← Hvv.out]
                    exact (hz.set i _).congr (fun j _ => upd_bytesV _ _ _ _)
                  case measure => simp [intOf]; omega
            · have c2 : decide ((i : Int) < 32) = false := decide_eq_false (by omega)
              obtain rfl : i = 32 := by omega
              have hres : arrA 32 (bytesV (dgP (dgB K) 32)) = arrA 32 (bytesV (dgB (dig h s 0))) := by
                rw [Hdl.out]
                exact arrA_congr (fun j hj => by rw [bytesV, bytesV, dgP, if_pos (by omega)])
              have Hres := Lib.hid hres
              clear hres
              go_wp2_with (first | (refine load_arr rfl 57 _ rfl 32 5 57 O _ rfl hz und57 siz57 ?_) | (refine store_arr rfl 57 _ _ rfl 32 57 (w.heap.size + 1) _ _ rfl rfl t4.rb siz57 (fun _ => rfl) ?_))
              refine bodyPost_ret (result_arr rfl _ _ 32 5 57 (w.heap.size + 1) _ rfl (rowIs_setRow t4.rb _) und57 siz57) rfl ?_
              exact ⟨by rw [Hres.out], below_setRow t4.below (by omega) _⟩
end Go.Proofs.Ytnjcganknpnjcaa
