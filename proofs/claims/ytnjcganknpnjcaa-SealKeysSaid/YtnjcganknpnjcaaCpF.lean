/- cipher: Xor. -/
import Derived.Test.YtnjcganknpnjcaaCpE
import Derived.Test.YtnjcganknpnjcaaSlB
namespace Go.Proofs.Ytnjcganknpnjcaa
open Go.RowKit

theorem u8_xor_nat (a b : Nat) (ha : a < 256) (hb : b < 256) : bits .xor .u8 (a : Int) (b : Int) = ((a ^^^ b : Nat) : Int) := by
  have hx : a ^^^ b < 2 ^ 8 := Nat.xor_lt_two_pow (by omega) (by omega)
  have e : ∀ x : Nat, x < 256 → (BitVec.ofInt 8 (x : Int)).toNat = x := fun x hx => by
    rw [BitVec.ofInt_natCast, BitVec.toNat_ofNat]; exact Nat.mod_eq_of_lt (by omega)
  show IntKind.u8.wrap ((BitVec.ofInt 8 (a : Int) ^^^ BitVec.ofInt 8 (b : Int)).toNat : Int) = _
  rw [BitVec.toNat_xor, e a ha, e b hb, IntKind.wrap_u8]
  omega
/-- The number of the next block where i bytes are turned. -/
def blkN (n i : Nat) : Nat := (n + (i + 63) / 64) % 4294967296
/-- The block that stands there. -/
def blkAt (kb nb : Nat → Nat) (n i : Nat) : Nat → Nat := if i = 0 then (fun _ => 0) else blkB kb nb ((n + (i - 1) / 64) % 4294967296)
/-- What Xor keeps: u: the block. -/
structure XO (B O : Nat) (kb nb u : Nat → Nat) (n : Nat) (s : ByteArray) (i : Nat) (w wx : World) : Prop where
  kr : wx.rowIs B 34 32 (bytesV kb)
  nr : wx.rowIs (B + 1) 49 12 (bytesV nb)
  ob : BRow wx O s.size (xorP kb nb n s i)
  bb : wx.rowIs (O + 1) 119 64 (bytesV u)
  hO : B + 1 < O
  below : Below B w wx
theorem XO.past {B O : Nat} {kb nb u : Nat → Nat} {n : Nat} {s : ByteArray} {i : Nat} {w wx wy : World} (t : XO B O kb nb u n s i w wx) (hb : Below wx.heap.size wx wy) : XO B O kb nb u n s i w wy :=
  ⟨t.kr.of_block (hb.block _ t.kr.lt), t.nr.of_block (hb.block _ t.nr.lt), t.ob.of_block (hb.block _ t.ob.lt), t.bb.of_block (hb.block _ t.bb.lt), t.hO, t.below.trans (hb.mono (Nat.le_of_lt t.kr.lt))⟩
theorem XO.setB {B O : Nat} {kb nb u : Nat → Nat} {n : Nat} {s : ByteArray} {i : Nat} {w wx : World} (t : XO B O kb nb u n s i w wx) (u' : Nat → Nat) : XO B O kb nb u' n s i w (wx.setRow (O + 1) (arrA 64 (bytesV u'))) := by
  have := t.hO
  exact ⟨rowIs_setOther t.kr (by omega) _, rowIs_setOther t.nr (by omega) _, t.ob.setRowOther (by omega) _, rowIs_setRow t.bb _, t.hO, below_setRow t.below (by omega) _⟩
theorem XO.put {B O : Nat} {kb nb u : Nat → Nat} {n : Nat} {s : ByteArray} {i : Nat} {w wx : World} (t : XO B O kb nb u n s i w wx) (hi : i < s.size) : XO B O kb nb u n s (i + 1) w (wx.setCell ⟨O, i, none⟩ (.int .u8 (xorF kb nb n s i : Int))).drew := by
  have := t.hO
  have h := t.ob.put hi (xorF kb nb n s i)
  rw [xorP_step] at h
  exact ⟨(t.kr.setOther (by dsimp only; omega) _).drew, (t.nr.setOther (by dsimp only; omega) _).drew, h.of_block rfl, (t.bb.setOther (by dsimp only; omega) _).drew, t.hO, (t.below.setCell (p := ⟨O, i, none⟩) (by dsimp only; omega) _).drew⟩

set_option maxRecDepth 100000 in
set_option maxHeartbeats 4000000 in
theorem xor_any (kb nb : Nat → Nat) (n : Nat) (s : ByteArray) (w : World) (hk : Bytes kb) (hn : Bytes nb) (hn32 : n < 4294967296) (hs : s.size ≤ 1000000) :
    Calls Try.prog 71 #[.agg (arrA 32 (bytesV kb)), .agg (arrA 12 (bytesV nb)), .int .u32 (n : Int), .string s] w fun e w' => e = .returned (.string (xorV kb nb n s)) ∧ Below w.heap.size w w' := by
  go_enter Try.func71, Try.ntmps71
  have a0 : World.rowIs ((w.alloc (Obj.cells (arrA 32 (bytesV kb)) 34)).alloc (Obj.cells (arrA 12 (bytesV nb)) 49)) w.heap.size 34 32 (bytesV kb) := (row_of_heap (heap_new w _)).alloc _
  have a1 : World.rowIs ((w.alloc (Obj.cells (arrA 32 (bytesV kb)) 34)).alloc (Obj.cells (arrA 12 (bytesV nb)) 49)) (w.heap.size + 1) 49 12 (bytesV nb) := by
    have := heap_new (w.alloc (Obj.cells (arrA 32 (bytesV kb)) 34)) (Obj.cells (arrA 12 (bytesV nb)) 49)
    rw [World.size_alloc] at this
    exact row_of_heap this
  have a2 : Below w.heap.size w ((w.alloc (Obj.cells (arrA 32 (bytesV kb)) 34)).alloc (Obj.cells (arrA 12 (bytesV nb)) 49)) := ((Below.refl _ w).alloc (Nat.le_refl _) _).alloc (by simp) _
  have a3 : ((w.alloc (Obj.cells (arrA 32 (bytesV kb)) 34)).alloc (Obj.cells (arrA 12 (bytesV nb)) 49)).heap.size = w.heap.size + 1 + 1 := by simp
  obtain ⟨cap, w2, hcv, hob, hb2, hsz⟩ := conv_str ((w.alloc (Obj.cells (arrA 32 (bytesV kb)) 34)).alloc (Obj.cells (arrA 12 (bytesV nb)) 49)) s
  rw [a3] at hcv hob hb2 hsz
  go_wp2_with fail
  have hz := heap_new w2 (Obj.cells #[Value.int IntKind.u8 0, Value.int IntKind.u8 0, Value.int IntKind.u8 0, Value.int IntKind.u8 0, Value.int IntKind.u8 0, Value.int IntKind.u8 0, Value.int IntKind.u8 0, Value.int IntKind.u8 0, Value.int IntKind.u8 0, Value.int IntKind.u8 0, Value.int IntKind.u8 0, Value.int IntKind.u8 0, Value.int IntKind.u8 0, Value.int IntKind.u8 0, Value.int IntKind.u8 0, Value.int IntKind.u8 0, Value.int IntKind.u8 0, Value.int IntKind.u8 0, Value.int IntKind.u8 0, Value.int IntKind.u8 0, Value.int IntKind.u8 0, Value.int IntKind.u8 0, Value.int IntKind.u8 0, Value.int IntKind.u8 0, Value.int IntKind.u8 0, Value.int IntKind.u8 0, Value.int IntKind.u8 0, Value.int IntKind.u8 0, Value.int IntKind.u8 0, Value.int IntKind.u8 0, Value.int IntKind.u8 0, Value.int IntKind.u8 0, Value.int IntKind.u8 0, Value.int IntKind.u8 0, Value.int IntKind.u8 0, Value.int IntKind.u8 0, Value.int IntKind.u8 0, Value.int IntKind.u8 0, Value.int IntKind.u8 0, Value.int IntKind.u8 0, Value.int IntKind.u8 0, Value.int IntKind.u8 0, Value.int IntKind.u8 0, Value.int IntKind.u8 0, Value.int IntKind.u8 0, Value.int IntKind.u8 0, Value.int IntKind.u8 0, Value.int IntKind.u8 0, Value.int IntKind.u8 0, Value.int IntKind.u8 0, Value.int IntKind.u8 0, Value.int IntKind.u8 0, Value.int IntKind.u8 0, Value.int IntKind.u8 0, Value.int IntKind.u8 0, Value.int IntKind.u8 0, Value.int IntKind.u8 0, Value.int IntKind.u8 0, Value.int IntKind.u8 0, Value.int IntKind.u8 0, Value.int IntKind.u8 0, Value.int IntKind.u8 0, Value.int IntKind.u8 0, Value.int IntKind.u8 0] 119)
  have t0 : XO w.heap.size (w.heap.size + 1 + 1) kb nb (fun _ => 0) n s 0 w (w2.alloc (Obj.cells #[Value.int IntKind.u8 0, Value.int IntKind.u8 0, Value.int IntKind.u8 0, Value.int IntKind.u8 0, Value.int IntKind.u8 0, Value.int IntKind.u8 0, Value.int IntKind.u8 0, Value.int IntKind.u8 0, Value.int IntKind.u8 0, Value.int IntKind.u8 0, Value.int IntKind.u8 0, Value.int IntKind.u8 0, Value.int IntKind.u8 0, Value.int IntKind.u8 0, Value.int IntKind.u8 0, Value.int IntKind.u8 0, Value.int IntKind.u8 0, Value.int IntKind.u8 0, Value.int IntKind.u8 0, Value.int IntKind.u8 0, Value.int IntKind.u8 0, Value.int IntKind.u8 0, Value.int IntKind.u8 0, Value.int IntKind.u8 0, Value.int IntKind.u8 0, Value.int IntKind.u8 0, Value.int IntKind.u8 0, Value.int IntKind.u8 0, Value.int IntKind.u8 0, Value.int IntKind.u8 0, Value.int IntKind.u8 0, Value.int IntKind.u8 0, Value.int IntKind.u8 0, Value.int IntKind.u8 0, Value.int IntKind.u8 0, Value.int IntKind.u8 0, Value.int IntKind.u8 0, Value.int IntKind.u8 0, Value.int IntKind.u8 0, Value.int IntKind.u8 0, Value.int IntKind.u8 0, Value.int IntKind.u8 0, Value.int IntKind.u8 0, Value.int IntKind.u8 0, Value.int IntKind.u8 0, Value.int IntKind.u8 0, Value.int IntKind.u8 0, Value.int IntKind.u8 0, Value.int IntKind.u8 0, Value.int IntKind.u8 0, Value.int IntKind.u8 0, Value.int IntKind.u8 0, Value.int IntKind.u8 0, Value.int IntKind.u8 0, Value.int IntKind.u8 0, Value.int IntKind.u8 0, Value.int IntKind.u8 0, Value.int IntKind.u8 0, Value.int IntKind.u8 0, Value.int IntKind.u8 0, Value.int IntKind.u8 0, Value.int IntKind.u8 0, Value.int IntKind.u8 0, Value.int IntKind.u8 0] 119)) := by
    rw [hsz] at hz
    refine ⟨(a0.of_block (hb2.block _ (by omega))).alloc _, (a1.of_block (hb2.block _ (by omega))).alloc _, (hob.congr (fun j _ => by rw [xorP, if_neg (by omega)])).alloc _, row_of_heap hz, by omega, ?_⟩
    exact (a2.trans (hb2.mono (by omega))).alloc (by omega) _
  obtain ⟨W1, hW1⟩ : ∃ W1, w2.alloc (Obj.cells #[Value.int IntKind.u8 0, Value.int IntKind.u8 0, Value.int IntKind.u8 0, Value.int IntKind.u8 0, Value.int IntKind.u8 0, Value.int IntKind.u8 0, Value.int IntKind.u8 0, Value.int IntKind.u8 0, Value.int IntKind.u8 0, Value.int IntKind.u8 0, Value.int IntKind.u8 0, Value.int IntKind.u8 0, Value.int IntKind.u8 0, Value.int IntKind.u8 0, Value.int IntKind.u8 0, Value.int IntKind.u8 0, Value.int IntKind.u8 0, Value.int IntKind.u8 0, Value.int IntKind.u8 0, Value.int IntKind.u8 0, Value.int IntKind.u8 0, Value.int IntKind.u8 0, Value.int IntKind.u8 0, Value.int IntKind.u8 0, Value.int IntKind.u8 0, Value.int IntKind.u8 0, Value.int IntKind.u8 0, Value.int IntKind.u8 0, Value.int IntKind.u8 0, Value.int IntKind.u8 0, Value.int IntKind.u8 0, Value.int IntKind.u8 0, Value.int IntKind.u8 0, Value.int IntKind.u8 0, Value.int IntKind.u8 0, Value.int IntKind.u8 0, Value.int IntKind.u8 0, Value.int IntKind.u8 0, Value.int IntKind.u8 0, Value.int IntKind.u8 0, Value.int IntKind.u8 0, Value.int IntKind.u8 0, Value.int IntKind.u8 0, Value.int IntKind.u8 0, Value.int IntKind.u8 0, Value.int IntKind.u8 0, Value.int IntKind.u8 0, Value.int IntKind.u8 0, Value.int IntKind.u8 0, Value.int IntKind.u8 0, Value.int IntKind.u8 0, Value.int IntKind.u8 0, Value.int IntKind.u8 0, Value.int IntKind.u8 0, Value.int IntKind.u8 0, Value.int IntKind.u8 0, Value.int IntKind.u8 0, Value.int IntKind.u8 0, Value.int IntKind.u8 0, Value.int IntKind.u8 0, Value.int IntKind.u8 0, Value.int IntKind.u8 0, Value.int IntKind.u8 0, Value.int IntKind.u8 0] 119) = W1 := ⟨_, rfl⟩
  rw [hW1] at t0 ⊢
  try rw [hsz]
  obtain ⟨O, hO⟩ : ∃ O, w.heap.size + 1 + 1 = O := ⟨_, rfl⟩
  rw [hO] at t0 ⊢
  clear hW1 hO hz hsz hb2 hob hcv a0 a1 a2 a3
  go_loopw [16, 2] (fun a c wx => ∃ i : Nat, i ≤ s.size ∧ a = .int .i64 (i : Int) ∧ c = .int .u32 (blkN n i : Int) ∧ XO w.heap.size O kb nb (blkAt kb nb n i) n s i w wx) (fun a c _ => s.size - (intOf a).toNat)
  case atStart => exact ⟨0, by omega, rfl, by rw [blkN]; simp; omega, t0⟩
  case round =>
    clear t0
    obtain ⟨i, hi, rfl, rfl, t1⟩ := hrel
    by_cases hlt : i < s.size
    · have c0 : decide ((i : Int) < (s.size : Int)) = true := decide_eq_true (by omega)
      have c2 : (i : Int) < (s.size : Int) := by omega
      obtain ⟨k, hk64⟩ : ∃ k, i % 64 = k := ⟨_, rfl⟩
      have kl : k < 64 := by omega
      obtain ⟨x, hx, lx⟩ := byt_nat s i
      have Hx := Lib.hid (show (byt s i).toNat = x by rw [hx]; simp)
      obtain ⟨y, hy⟩ : ∃ y, blkB kb nb ((n + i / 64) % 4294967296) k = y := ⟨_, rfl⟩
      have Hy := Lib.hid hy
      have yl : y < 256 := by rw [← hy]; exact blkB_bytes _ _ _ _
      have hxy := u8_xor_nat x y lx yl
      have hz : x ^^^ y = xorF kb nb n s i := by rw [xorF, strm, hk64, hy, Hx.out]
      have Hz := Lib.hid hz
      have hu : blkB kb nb ((n + i / 64) % 4294967296) = blkAt kb nb n (i + 1) := by rw [blkAt, if_neg (by omega), show i + 1 - 1 = i by omega]
      have Hu := Lib.hid hu
      clear hx hy hz hu
      by_cases hk0 : k = 0
      · have e3 : (i : Int) % 64 = 0 := by omega
        have hm : blkN n i = (n + i / 64) % 4294967296 := by rw [blkN, show (i + 63) / 64 = i / 64 by omega]
        obtain ⟨m, hmm⟩ : ∃ m, blkN n i = m := ⟨_, rfl⟩
        have hml : m < 4294967296 := by rw [← hmm, blkN]; exact Nat.mod_lt _ (by omega)
        have hm1 : ((m : Int) + 1) % 4294967296 = (blkN n (i + 1) : Int) := by
          rw [← hmm, blkN, blkN, show (i + 1 + 63) / 64 = (i + 63) / 64 + 1 by omega]
          omega
        obtain ⟨m1, hmm1⟩ : ∃ m1, blkN n (i + 1) = m1 := ⟨_, rfl⟩
        rw [hmm1] at hm1
        rw [hmm]
        rw [hm] at hmm
        have hbk := fun W => block_any kb nb m W hk hn hml
        rw [hmm] at Hu Hy
        obtain ⟨u, hu⟩ : ∃ u, blkB kb nb m = u := ⟨_, rfl⟩
        rw [hu] at hbk Hu Hy
        have Hm := Lib.hid hmm1
        clear hm hmm hmm1 hu hk64
        go_wp2_with (first | (refine load_arr rfl 34 _ rfl 32 5 34 w.heap.size _ rfl t1.kr und34 siz34 ?_) | (refine load_arr rfl 49 _ rfl 12 5 49 (w.heap.size + 1) _ rfl t1.nr und49 siz49 ?_))
        refine (hbk _).mono ?_
        rintro e w3 ⟨rfl, hb3⟩
        have t3 := t1.past hb3
        have t2 := t3.setB u
        obtain ⟨wy, hwy⟩ : ∃ wy, w3.setRow (O + 1) (arrA 64 (bytesV u)) = wy := ⟨_, rfl⟩
        rw [hwy] at t2
        go_upto_region 9 with (refine store_arr rfl 119 _ _ rfl 64 119 (O + 1) _ _ rfl rfl t3.bb siz119 (fun _ => rfl) ?_)
        try simp only [Act.put, List.setIfInBounds_toArray, List.set_cons_succ, List.set_cons_zero]
        try rw [hwy]
        try rw [hm1]
        clear hwy t3 t1 hb3 hbk
        obtain rfl : k = 0 := hk0
        rw [Hu.out] at t2 Hy
        have d1 : wy.cell? ⟨O, i, none⟩ = some (.int .u8 (x : Int)) := by
          have := t2.ob.cell hlt
          rw [xorP, if_neg (by omega), Hx.out] at this
          exact this
        have d2 : wy.cell? ⟨O + 1, 0, none⟩ = some (.int .u8 (y : Int)) := by
          have := t2.bb.cell (i := 0) (by omega)
          rw [bytesV, Hy.out] at this
          exact this
        have d3 := t2.ob.frozen hlt
        go_region
        all_goals
          go_wp2
          go_roundw
          case rel => exact ⟨i + 1, by omega, by go_num, by rw [Hm.out], Hz.out ▸ t2.put hlt⟩
          case measure => simp [intOf]; omega
      · have e3 : (i : Int) % 64 = (k : Int) := by omega
        have c1 : decide ((k : Int) = 0) = false := decide_eq_false (by omega)
        have c3 : (k : Int) < 64 := by omega
        have hm1 : blkN n i = blkN n (i + 1) := by rw [blkN, blkN, show (i + 1 + 63) / 64 = (i + 63) / 64 by omega]
        obtain ⟨m1, hmm1⟩ : ∃ m1, blkN n i = m1 := ⟨_, rfl⟩
        rw [hmm1] at hm1 ⊢
        have Hm := Lib.hid hm1.symm
        have hua : blkAt kb nb n i = blkAt kb nb n (i + 1) := by rw [blkAt, blkAt, if_neg (by omega), if_neg (by omega), show (i - 1) / 64 = (i + 1 - 1) / 64 by omega]
        rw [hua] at t1
        have t2 := t1
        rw [Hu.out] at Hy
        obtain ⟨wy, rfl⟩ : ∃ wy, wy = wr := ⟨wr, rfl⟩
        clear hm1 hmm1 hua t1 Hu hk64
        go_upto_region 9 with fail
        have d1 : wy.cell? ⟨O, i, none⟩ = some (.int .u8 (x : Int)) := by
          have := t2.ob.cell hlt
          rw [xorP, if_neg (by omega), Hx.out] at this
          exact this
        have d2 : wy.cell? ⟨O + 1, k, none⟩ = some (.int .u8 (y : Int)) := by
          have := t2.bb.cell (i := k) (by omega)
          rw [bytesV, Hy.out] at this
          exact this
        have d3 := t2.ob.frozen hlt
        go_region
        all_goals
          go_wp2
          go_roundw
          case rel => exact ⟨i + 1, by omega, by go_num, by rw [Hm.out], Hz.out ▸ t2.put hlt⟩
          case measure => simp [intOf]; omega
    · have c0 : decide ((i : Int) < (s.size : Int)) = false := decide_eq_false (by omega)
      obtain rfl : i = s.size := by omega
      have hcv := conv_brow (c := cap) t1.ob
      have hres : txt s.size (xorP kb nb n s s.size) = xorV kb nb n s := by
        refine bytes_ext _ _ (by rw [txt_size, xorV_size]) fun j hj => ?_
        rw [txt_size] at hj
        rw [byt_txt _ _ (fun j => by unfold xorP; split; exact xorF_bytes _ _ _ _ _; exact byt_toNat_lt _ _) _ hj, xorP, if_pos hj, xorV_byt _ _ _ _ _ hj]
        rfl
      rw [hres] at hcv
      clear hres
      go_wp2
      go_ret
      exact ⟨rfl, t1.below⟩
end Go.Proofs.Ytnjcganknpnjcaa
