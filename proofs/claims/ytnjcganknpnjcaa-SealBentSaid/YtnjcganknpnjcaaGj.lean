/- cipher: Xor. -/
import Derived.Test.YtnjcganknpnjcaaGi
import Derived.Test.YtnjcganknpnjcaaGc
import Derived.Lib.SmallJoins
import Derived.Test.YtnjcganknpnjcaaGd
set_option linter.unusedVariables false
set_option linter.unusedSimpArgs false
namespace Go.Proofs.Ytnjcganknpnjcaa
open Go.RowKit

theorem u8_xor_nat (a b : Nat) (ha : a < 256) (hb : b < 256) : bits .xor .u8 (a : Int) (b : Int) = ((a ^^^ b : Nat) : Int) := by
  have hx : a ^^^ b < 2 ^ 8 := Nat.xor_lt_two_pow (by omega) (by omega)
  have e : ∀ x : Nat, x < 256 → (BitVec.ofInt 8 (x : Int)).toNat = x := fun x hx => by
    rw [BitVec.ofInt_natCast, BitVec.toNat_ofNat]; exact Nat.mod_eq_of_lt (by omega)
  show IntKind.u8.wrap ((BitVec.ofInt 8 (a : Int) ^^^ BitVec.ofInt 8 (b : Int)).toNat : Int) = _
  rw [BitVec.toNat_xor, e a ha, e b hb, IntKind.wrap_u8]
  omega
/-- The number of the next block where i bytes are turned. -/
def blkN (n i : Nat) : Nat := (n + (i + 63) / 64) % 4294967296
/-- The block that stands there. -/
def blkAt (kb nb : Nat → Nat) (n i : Nat) : Nat → Nat := if i = 0 then (fun _ => 0) else blkB kb nb ((n + (i - 1) / 64) % 4294967296)
/-- What Xor keeps: u: the block. -/
structure XO (B O : Nat) (kb nb u : Nat → Nat) (n : Nat) (s : ByteArray) (i : Nat) (w wx : World) : Prop where
  kr : wx.rowIs B 34 32 (bytesV kb)
  nr : wx.rowIs (B + 1) 49 12 (bytesV nb)
  ob : BRow wx O s.size (xorP kb nb n s i)
  bb : wx.rowIs (O + 1) 119 64 (bytesV u)
  hO : B + 1 < O
  below : Below B w wx
theorem XO.past {B O : Nat} {kb nb u : Nat → Nat} {n : Nat} {s : ByteArray} {i : Nat} {w wx wy : World} (t : XO B O kb nb u n s i w wx) (hb : Below wx.heap.size wx wy) : XO B O kb nb u n s i w wy :=
  ⟨t.kr.of_block (hb.block _ t.kr.lt), t.nr.of_block (hb.block _ t.nr.lt), t.ob.of_block (hb.block _ t.ob.lt), t.bb.of_block (hb.block _ t.bb.lt), t.hO, t.below.trans (hb.mono (Nat.le_of_lt t.kr.lt))⟩
theorem XO.setB {B O : Nat} {kb nb u : Nat → Nat} {n : Nat} {s : ByteArray} {i : Nat} {w wx : World} (t : XO B O kb nb u n s i w wx) (u' : Nat → Nat) : XO B O kb nb u' n s i w (wx.setRow (O + 1) (arrA 64 (bytesV u'))) := by
  have := t.hO
  exact ⟨rowIs_setOther t.kr (by omega) _, rowIs_setOther t.nr (by omega) _, t.ob.setRowOther (by omega) _, rowIs_setRow t.bb _, t.hO, below_setRow t.below (by omega) _⟩
theorem XO.put {B O : Nat} {kb nb u : Nat → Nat} {n : Nat} {s : ByteArray} {i : Nat} {w wx : World} (t : XO B O kb nb u n s i w wx) (hi : i < s.size) : XO B O kb nb u n s (i + 1) w (wx.setCell ⟨O, i, none⟩ (.int .u8 (xorF kb nb n s i : Int))).drew := by
  have := t.hO
  have h := t.ob.put hi (xorF kb nb n s i)
  rw [xorP_step] at h
  exact ⟨(t.kr.setOther (by dsimp only; omega) _).drew, (t.nr.setOther (by dsimp only; omega) _).drew, h.of_block rfl, (t.bb.setOther (by dsimp only; omega) _).drew, t.hO, (t.below.setCell (p := ⟨O, i, none⟩) (by dsimp only; omega) _).drew⟩

set_option maxRecDepth 100000 in
set_option maxHeartbeats 4000000 in
theorem xor_any (kb nb : Nat → Nat) (n : Nat) (s : ByteArray) (w : World) (hk : Bytes kb) (hn : Bytes nb) (hn32 : n < 4294967296) (hs : s.size ≤ 1000000) :
    Calls Try.prog 71 #[.agg (arrA 32 (bytesV kb)), .agg (arrA 12 (bytesV nb)), .int .u32 (n : Int), .string s] w fun e w' => e = .returned (.string (xorV kb nb n s)) ∧ Below w.heap.size w w' := by
  go_enter Try.func71, Try.ntmps71
  have a0 : World.rowIs ((w.alloc (Obj.cells (arrA 32 (bytesV kb)) 34)).alloc (Obj.cells (arrA 12 (bytesV nb)) 49)) w.heap.size 34 32 (bytesV kb) := (row_of_heap (heap_new w _)).alloc _
  have a1 : World.rowIs ((w.alloc (Obj.cells (arrA 32 (bytesV kb)) 34)).alloc (Obj.cells (arrA 12 (bytesV nb)) 49)) (w.heap.size + 1) 49 12 (bytesV nb) := by
    have := heap_new (w.alloc (Obj.cells (arrA 32 (bytesV kb)) 34)) (Obj.cells (arrA 12 (bytesV nb)) 49)
    rw [World.size_alloc] at this
    exact row_of_heap this
  have a2 : Below w.heap.size w ((w.alloc (Obj.cells (arrA 32 (bytesV kb)) 34)).alloc (Obj.cells (arrA 12 (bytesV nb)) 49)) := ((Below.refl _ w).alloc (Nat.le_refl _) _).alloc (by simp) _
  have a3 : ((w.alloc (Obj.cells (arrA 32 (bytesV kb)) 34)).alloc (Obj.cells (arrA 12 (bytesV nb)) 49)).heap.size = w.heap.size + 1 + 1 := by simp
  obtain ⟨cap, w2, hcv, hob, hb2, hsz⟩ := conv_str ((w.alloc (Obj.cells (arrA 32 (bytesV kb)) 34)).alloc (Obj.cells (arrA 12 (bytesV nb)) 49)) s
  rw [a3] at hcv hob hb2 hsz
  go_wp2_with fail
  have hz := heap_new w2 (Obj.cells #[Value.int IntKind.u8 0, Value.int IntKind.u8 0, Value.int IntKind.u8 0, Value.int IntKind.u8 0, Value.int IntKind.u8 0, Value.int IntKind.u8 0, Value.int IntKind.u8 0, Value.int IntKind.u8 0, Value.int IntKind.u8 0, Value.int IntKind.u8 0, Value.int IntKind.u8 0, Value.int IntKind.u8 0, Value.int IntKind.u8 0, Value.int IntKind.u8 0, Value.int IntKind.u8 0, Value.int IntKind.u8 0, Value.int IntKind.u8 0, Value.int IntKind.u8 0, Value.int IntKind.u8 0, Value.int IntKind.u8 0, Value.int IntKind.u8 0, Value.int IntKind.u8 0, Value.int IntKind.u8 0, Value.int IntKind.u8 0, Value.int IntKind.u8 0, Value.int IntKind.u8 0, Value.int IntKind.u8 0, Value.int IntKind.u8 0, Value.int IntKind.u8 0, Value.int IntKind.u8 0, Value.int IntKind.u8 0, Value.int IntKind.u8 0, Value.int IntKind.u8 0, Value.int IntKind.u8 0, Value.int IntKind.u8 0, Value.int IntKind.u8 0, Value.int IntKind.u8 0, Value.int IntKind.u8 0, Value.int IntKind.u8 0, Value.int IntKind.u8 0, Value.int IntKind.u8 0, Value.int IntKind.u8 0, Value.int IntKind.u8 0, Value.int IntKind.u8 0, Value.int IntKind.u8 0, Value.int IntKind.u8 0, Value.int IntKind.u8 0, Value.int IntKind.u8 0, Value.int IntKind.u8 0, Value.int IntKind.u8 0, Value.int IntKind.u8 0, Value.int IntKind.u8 0, Value.int IntKind.u8 0, Value.int IntKind.u8 0, Value.int IntKind.u8 0, Value.int IntKind.u8 0, Value.int IntKind.u8 0, Value.int IntKind.u8 0, Value.int IntKind.u8 0, Value.int IntKind.u8 0, Value.int IntKind.u8 0, Value.int IntKind.u8 0, Value.int IntKind.u8 0, Value.int IntKind.u8 0] 119)
  have t0 : XO w.heap.size (w.heap.size + 1 + 1) kb nb (fun _ => 0) n s 0 w (w2.alloc (Obj.cells #[Value.int IntKind.u8 0, Value.int IntKind.u8 0, Value.int IntKind.u8 0, Value.int IntKind.u8 0, Value.int IntKind.u8 0, Value.int IntKind.u8 0, Value.int IntKind.u8 0, Value.int IntKind.u8 0, Value.int IntKind.u8 0, Value.int IntKind.u8 0, Value.int IntKind.u8 0, Value.int IntKind.u8 0, Value.int IntKind.u8 0, Value.int IntKind.u8 0, Value.int IntKind.u8 0, Value.int IntKind.u8 0, Value.int IntKind.u8 0, Value.int IntKind.u8 0, Value.int IntKind.u8 0, Value.int IntKind.u8 0, Value.int IntKind.u8 0, Value.int IntKind.u8 0, Value.int IntKind.u8 0, Value.int IntKind.u8 0, Value.int IntKind.u8 0, Value.int IntKind.u8 0, Value.int IntKind.u8 0, Value.int IntKind.u8 0, Value.int IntKind.u8 0, Value.int IntKind.u8 0, Value.int IntKind.u8 0, Value.int IntKind.u8 0, Value.int IntKind.u8 0, Value.int IntKind.u8 0, Value.int IntKind.u8 0, Value.int IntKind.u8 0, Value.int IntKind.u8 0, Value.int IntKind.u8 0, Value.int IntKind.u8 0, Value.int IntKind.u8 0, Value.int IntKind.u8 0, Value.int IntKind.u8 0, Value.int IntKind.u8 0, Value.int IntKind.u8 0, Value.int IntKind.u8 0, Value.int IntKind.u8 0, Value.int IntKind.u8 0, Value.int IntKind.u8 0, Value.int IntKind.u8 0, Value.int IntKind.u8 0, Value.int IntKind.u8 0, Value.int IntKind.u8 0, Value.int IntKind.u8 0, Value.int IntKind.u8 0, Value.int IntKind.u8 0, Value.int IntKind.u8 0, Value.int IntKind.u8 0, Value.int IntKind.u8 0, Value.int IntKind.u8 0, Value.int IntKind.u8 0, Value.int IntKind.u8 0, Value.int IntKind.u8 0, Value.int IntKind.u8 0, Value.int IntKind.u8 0] 119)) := by
    rw [hsz] at hz
    refine ⟨(a0.of_block (hb2.block _ (by omega))).alloc _, (a1.of_block (hb2.block _ (by omega))).alloc _, (hob.congr (fun j _ => by rw [xorP, if_neg (by omega)])).alloc _, row_of_heap hz, by omega, ?_⟩
    exact (a2.trans (hb2.mono (by omega))).alloc (by omega) _
  obtain ⟨W1, hW1⟩ : ∃ W1, w2.alloc (Obj.cells #[Value.int IntKind.u8 0, Value.int IntKind.u8 0, Value.int IntKind.u8 0, Value.int IntKind.u8 0, Value.int IntKind.u8 0, Value.int IntKind.u8 0, Value.int IntKind.u8 0, Value.int IntKind.u8 0, Value.int IntKind.u8 0, Value.int IntKind.u8 0, Value.int IntKind.u8 0, Value.int IntKind.u8 0, Value.int IntKind.u8 0, Value.int IntKind.u8 0, Value.int IntKind.u8 0, Value.int IntKind.u8 0, Value.int IntKind.u8 0, Value.int IntKind.u8 0, Value.int IntKind.u8 0, Value.int IntKind.u8 0, Value.int IntKind.u8 0, Value.int IntKind.u8 0, Value.int IntKind.u8 0, Value.int IntKind.u8 0, Value.int IntKind.u8 0, Value.int IntKind.u8 0, Value.int IntKind.u8 0, Value.int IntKind.u8 0, Value.int IntKind.u8 0, Value.int IntKind.u8 0, Value.int IntKind.u8 0, Value.int IntKind.u8 0, Value.int IntKind.u8 0, Value.int IntKind.u8 0, Value.int IntKind.u8 0, Value.int IntKind.u8 0, Value.int IntKind.u8 0, Value.int IntKind.u8 0, Value.int IntKind.u8 0, Value.int IntKind.u8 0, Value.int IntKind.u8 0, Value.int IntKind.u8 0, Value.int IntKind.u8 0, Value.int IntKind.u8 0, Value.int IntKind.u8 0, Value.int IntKind.u8 0, Value.int IntKind.u8 0, Value.int IntKind.u8 0, Value.int IntKind.u8 0, Value.int IntKind.u8 0, Value.int IntKind.u8 0, Value.int IntKind.u8 0, Value.int IntKind.u8 0, Value.int IntKind.u8 0, Value.int IntKind.u8 0, Value.int IntKind.u8 0, Value.int IntKind.u8 0, Value.int IntKind.u8 0, Value.int IntKind.u8 0, Value.int IntKind.u8 0, Value.int IntKind.u8 0, Value.int IntKind.u8 0, Value.int IntKind.u8 0, Value.int IntKind.u8 0] 119) = W1 := ⟨_, rfl⟩
  rw [hW1] at t0 ⊢
  try rw [hsz]
  obtain ⟨O, hO⟩ : ∃ O, w.heap.size + 1 + 1 = O := ⟨_, rfl⟩
  rw [hO] at t0 ⊢
  clear hW1 hO hz hsz hb2 hob hcv a0 a1 a2 a3
  go_loopw [16, 2] (fun a c wx => ∃ i : Nat, i ≤ s.size ∧ a = .int .i64 (i : Int) ∧ c = .int .u32 (blkN n i : Int) ∧ XO w.heap.size O kb nb (blkAt kb nb n i) n s i w wx) (fun a c _ => s.size - (intOf a).toNat)
  case atStart => exact ⟨0, by omega, rfl, by rw [blkN]; simp; omega, t0⟩
  case round =>
    clear t0
    obtain ⟨i, hi, rfl, rfl, t1⟩ := hrel
    by_cases hlt : i < s.size
    · have c0 : decide ((i : Int) < (s.size : Int)) = true := decide_eq_true (by omega)
      have c2 : (i : Int) < (s.size : Int) := by omega
      obtain ⟨k, hk64⟩ : ∃ k, i % 64 = k := ⟨_, rfl⟩
      have kl : k < 64 := by omega
      obtain ⟨x, hx, lx⟩ := byt_nat s i
      have Hx := Lib.hid (show (byt s i).toNat = x by rw [hx]; simp)
      obtain ⟨y, hy⟩ : ∃ y, blkB kb nb ((n + i / 64) % 4294967296) k = y := ⟨_, rfl⟩
      have Hy := Lib.hid hy
      have yl : y < 256 := by rw [← hy]; exact blkB_bytes _ _ _ _
      have hxy := u8_xor_nat x y lx yl
      have hz : x ^^^ y = xorF kb nb n s i := by rw [xorF, strm, hk64, hy, Hx.out]
      have Hz := Lib.hid hz
      have hu : blkB kb nb ((n + i / 64) % 4294967296) = blkAt kb nb n (i + 1) := by rw [blkAt, if_neg (by omega), show i + 1 - 1 = i by omega]
      have Hu := Lib.hid hu
      clear hx hy hz hu
      by_cases hk0 : k = 0
      · have e3 : (i : Int) % 64 = 0 := by omega
        have hm : blkN n i = (n + i / 64) % 4294967296 := by rw [blkN, show (i + 63) / 64 = i / 64 by omega]
        obtain ⟨m, hmm⟩ : ∃ m, blkN n i = m := ⟨_, rfl⟩
        have hml : m < 4294967296 := by rw [← hmm, blkN]; exact Nat.mod_lt _ (by omega)
        have hm1 : ((m : Int) + 1) % 4294967296 = (blkN n (i + 1) : Int) := by
          rw [← hmm, blkN, blkN, show (i + 1 + 63) / 64 = (i + 63) / 64 + 1 by omega]
          omega
        obtain ⟨m1, hmm1⟩ : ∃ m1, blkN n (i + 1) = m1 := ⟨_, rfl⟩
        rw [hmm1] at hm1
        rw [hmm]
        rw [hm] at hmm
        have hbk := fun W => block_any kb nb m W hk hn hml
        rw [hmm] at Hu Hy
        obtain ⟨u, hu⟩ : ∃ u, blkB kb nb m = u := ⟨_, rfl⟩
        rw [hu] at hbk Hu Hy
        have Hm := Lib.hid hmm1
        clear hm hmm hmm1 hu hk64
        go_wp2_with (first | (refine load_arr rfl 34 _ rfl 32 5 34 w.heap.size _ rfl t1.kr und34 siz34 ?_) | (refine load_arr rfl 49 _ rfl 12 5 49 (w.heap.size + 1) _ rfl t1.nr und49 siz49 ?_))
        refine (hbk _).mono ?_
        rintro e w3 ⟨rfl, hb3⟩
        have t3 := t1.past hb3
        have t2 := t3.setB u
        obtain ⟨wy, hwy⟩ : ∃ wy, w3.setRow (O + 1) (arrA 64 (bytesV u)) = wy := ⟨_, rfl⟩
        rw [hwy] at t2
        go_upto_region 9 with (refine store_arr rfl 119 _ _ rfl 64 119 (O + 1) _ _ rfl rfl t3.bb siz119 (fun _ => rfl) ?_)
        try simp only [Act.put, List.setIfInBounds_toArray, List.set_cons_succ, List.set_cons_zero]
        try rw [hwy]
        try rw [hm1]
        clear hwy t3 t1 hb3 hbk
        obtain rfl : k = 0 := hk0
        rw [Hu.out] at t2 Hy
        have d1 : wy.cell? ⟨O, i, none⟩ = some (.int .u8 (x : Int)) := by
          have := t2.ob.cell hlt
          rw [xorP, if_neg (by omega), Hx.out] at this
          exact this
        have d2 : wy.cell? ⟨O + 1, 0, none⟩ = some (.int .u8 (y : Int)) := by
          have := t2.bb.cell (i := 0) (by omega)
          rw [bytesV, Hy.out] at this
          exact this
        have d3 := t2.ob.frozen hlt
        go_region
        all_goals
          go_wp2
          go_roundw
          case rel => exact ⟨i + 1, by omega, by go_num, by rw [Hm.out], Hz.out ▸ t2.put hlt⟩
          case measure => simp [intOf]; omega
      · have e3 : (i : Int) % 64 = (k : Int) := by omega
        have c1 : decide ((k : Int) = 0) = false := decide_eq_false (by omega)
        have c3 : (k : Int) < 64 := by omega
        have hm1 : blkN n i = blkN n (i + 1) := by rw [blkN, blkN, show (i + 1 + 63) / 64 = (i + 63) / 64 by omega]
        obtain ⟨m1, hmm1⟩ : ∃ m1, blkN n i = m1 := ⟨_, rfl⟩
        rw [hmm1] at hm1 ⊢
        have Hm := Lib.hid hm1.symm
        have hua : blkAt kb nb n i = blkAt kb nb n (i + 1) := by rw [blkAt, blkAt, if_neg (by omega), if_neg (by omega), show (i - 1) / 64 = (i + 1 - 1) / 64 by omega]
        rw [hua] at t1
        have t2 := t1
        rw [Hu.out] at Hy
        obtain ⟨wy, rfl⟩ : ∃ wy, wy = wr := ⟨wr, rfl⟩
        clear hm1 hmm1 hua t1 Hu hk64
        go_upto_region 9 with fail
        have d1 : wy.cell? ⟨O, i, none⟩ = some (.int .u8 (x : Int)) := by
          have := t2.ob.cell hlt
          rw [xorP, if_neg (by omega), Hx.out] at this
          exact this
        have d2 : wy.cell? ⟨O + 1, k, none⟩ = some (.int .u8 (y : Int)) := by
          have := t2.bb.cell (i := k) (by omega)
          rw [bytesV, Hy.out] at this
          exact this
        have d3 := t2.ob.frozen hlt
        go_region
        all_goals
          go_wp2
          go_roundw
          case rel => exact ⟨i + 1, by omega, by go_num, by rw [Hm.out], Hz.out ▸ t2.put hlt⟩
          case measure => simp [intOf]; omega
    · have c0 : decide ((i : Int) < (s.size : Int)) = false := decide_eq_false (by omega)
      obtain rfl : i = s.size := by omega
      have hcv := conv_brow (c := cap) t1.ob
      have hres : txt s.size (xorP kb nb n s s.size) = xorV kb nb n s := by
        refine bytes_ext _ _ (by rw [txt_size, xorV_size]) fun j hj => ?_
        rw [txt_size] at hj
        rw [byt_txt _ _ (fun j => by unfold xorP; split; exact xorF_bytes _ _ _ _ _; exact byt_toNat_lt _ _) _ hj, xorP, if_pos hj, xorV_byt _ _ _ _ _ hj]
        rfl
      rw [hres] at hcv
      clear hres
      go_wp2
      go_ret
      exact ⟨rfl, t1.below⟩
end Go.Proofs.Ytnjcganknpnjcaa
namespace Go.Proofs.Ytnjcganknpnjcaa
open Go.RowKit

def wordsQ (v : Nat → Nat) : Nat → Value := fun i => .int .u64 (v i : Int)
theorem upd_wordsQ (v : Nat → Nat) (i x k : Nat) : (if k = i then Value.int .u64 (x : Int) else wordsQ v k) = wordsQ (upd v i x) k := by
  unfold wordsQ upd
  split <;> rfl
theorem turn_rotl (x s : Nat) (hs : s ≤ 32) : x * 2 ^ s % 4294967296 + x * 2 ^ s / 4294967296 = rotl s x := by
  have hp : (4294967296 : Nat) = 2 ^ (32 - s) * 2 ^ s := by rw [← Nat.pow_add, show 32 - s + s = 32 by omega]
  rw [rotl]
  congr 1
  rw [hp, Nat.mul_div_mul_right _ _ (Nat.two_pow_pos s)]
/-- The exclusive or, from the lowest i bits. -/
theorem xor_bits (a b i : Nat) : (a ^^^ b) % 2 ^ (i + 1) = (a ^^^ b) % 2 ^ i + if a / 2 ^ i % 2 = b / 2 ^ i % 2 then 0 else 2 ^ i := by
  have key : ∀ x : Nat, x / 2 ^ i % 2 = (x.testBit i).toNat := by
    intro x
    rw [Nat.testBit_eq_decide_div_mod_eq]
    have : x / 2 ^ i % 2 < 2 := Nat.mod_lt _ (by omega)
    rcases (show x / 2 ^ i % 2 = 0 ∨ x / 2 ^ i % 2 = 1 by omega) with h | h <;> rw [h] <;> rfl
  rw [Nat.pow_succ, Nat.mod_mul, key, key, key, Nat.testBit_xor]
  congr 1
  cases a.testBit i <;> cases b.testBit i <;> simp

set_option maxRecDepth 100000 in
set_option maxHeartbeats 1000000 in
theorem turn_any (x p s : Nat) (w : World) (hx : x < 4294967296) (hp : 2 ^ s = p) (hs : s ≤ 16) :
    Calls Try.prog 130 #[.int .u64 (x : Int), .int .u64 (p : Int)] w fun e w' => e = .returned (.int .u64 (rotl s x : Int)) ∧ w' = w := by
  have hr := turn_rotl x s (by omega)
  have hpl : p ≤ 65536 := by rw [← hp]; exact Nat.pow_le_pow_right (by omega) hs
  rw [hp] at hr
  have hyl : x * p < 281474976710656 := Nat.lt_of_lt_of_le (Nat.mul_lt_mul_of_lt_of_le hx hpl (by omega)) (by omega)
  obtain ⟨y, hy⟩ : ∃ y, x * p = y := ⟨_, rfl⟩
  rw [hy] at hr hyl
  have e1 : (x : Int) * (p : Int) % 18446744073709551616 = (y : Int) := by
    rw [show (x : Int) * (p : Int) = (y : Int) by rw [← hy]; push_cast; rfl]; omega
  have t1 : IntKind.u64.wrap ((x : Int) * (p : Int)) = (y : Int) := by rw [IntKind.wrap_u64]; exact e1
  have t2 : (y : Int).tmod 4294967296 = (y : Int) % 4294967296 := Int.tmod_eq_emod_of_nonneg (by omega)
  have t3 : (y : Int).tdiv 4294967296 = (y : Int) / 4294967296 := Int.tdiv_eq_ediv_of_nonneg (by omega)
  have t4 : IntKind.u64.wrap ((y : Int) / 4294967296) = (y : Int) / 4294967296 := IntWalk.u64_in _ (by omega)
  have t5 : IntKind.u64.wrap ((y : Int) % 4294967296 + (y : Int) / 4294967296) = (y : Int) % 4294967296 + (y : Int) / 4294967296 := IntWalk.u64_in _ (by omega)
  have Hr := Lib.hid hr
  clear hy hr hp e1
  go_enter Try.func130, Try.ntmps130
  go_wp2
  try simp only [t1, t2, t3, t4, t5]
  go_ret
  exact ⟨ret_int (by rw [← Hr.out]; omega), rfl⟩

set_option maxRecDepth 100000 in
set_option maxHeartbeats 1000000 in
theorem qadd_any (x y : Nat) (w : World) (hx : x < 4294967296) (hy : y < 4294967296) :
    Calls Try.prog 113 #[.int .u64 (x : Int), .int .u64 (y : Int)] w fun e w' => e = .returned (.int .u64 ((x + y) % 4294967296 : Nat)) ∧ w' = w := by
  go_enter Try.func113, Try.ntmps113
  go_wp2
  go_ret
  exact ⟨ret_int (by omega), rfl⟩

set_option maxRecDepth 100000 in
set_option maxHeartbeats 1000000 in
theorem qxor_any (x y : Nat) (w : World) (hx : x < 4294967296) (hy : y < 4294967296) :
    Calls Try.prog 97 #[.int .u64 (x : Int), .int .u64 (y : Int)] w fun e w' => e = .returned (.int .u64 ((x ^^^ y : Nat) : Int)) ∧ w' = w := by
  obtain ⟨z, hz⟩ : ∃ z, x ^^^ y = z := ⟨_, rfl⟩
  have hzl : z < 4294967296 := by rw [← hz]; exact Nat.xor_lt_two_pow (n := 32) hx hy
  have hst : ∀ k, z % 2 ^ (k + 1) = z % 2 ^ k + if x / 2 ^ k % 2 = y / 2 ^ k % 2 then 0 else 2 ^ k := fun k => by rw [← hz]; exact xor_bits x y k
  rw [hz]
  clear hz
  go_enter Try.func97, Try.ntmps97
  go_wp2
  go_loopw [0, 1, 5, 6, 7] (fun a b o u i wx => ∃ k : Nat, k ≤ 32 ∧ a = .int .u64 ((x / 2 ^ k : Nat) : Int) ∧ b = .int .u64 ((y / 2 ^ k : Nat) : Int) ∧ o = .int .u64 ((z % 2 ^ k : Nat) : Int) ∧ u = .int .u64 ((2 ^ k : Nat) : Int) ∧ i = .int .i64 (k : Int) ∧ wx = w) (fun a b o u i _ => 32 - (intOf i).toNat)
  case atStart => exact ⟨0, by omega, by simp, by simp, by simp [Nat.mod_one], by simp, rfl, rfl⟩
  case round =>
    obtain ⟨k, hk, rfl, rfl, rfl, rfl, rfl, rfl⟩ := hrel
    by_cases hlt : k < 32
    · have c0 : decide ((k : Int) < 32) = true := decide_eq_true (by omega)
      obtain ⟨a, ha⟩ : ∃ a, x / 2 ^ k = a := ⟨_, rfl⟩
      obtain ⟨b, hb⟩ : ∃ b, y / 2 ^ k = b := ⟨_, rfl⟩
      obtain ⟨o, ho⟩ : ∃ o, z % 2 ^ k = o := ⟨_, rfl⟩
      obtain ⟨u, hu⟩ : ∃ u, 2 ^ k = u := ⟨_, rfl⟩
      have hal : a < 4294967296 := by rw [← ha]; exact Nat.lt_of_le_of_lt (Nat.div_le_self _ _) hx
      have hbl : b < 4294967296 := by rw [← hb]; exact Nat.lt_of_le_of_lt (Nat.div_le_self _ _) hy
      have hol : o < 4294967296 := by rw [← ho]; exact Nat.lt_of_le_of_lt (Nat.mod_le _ _) hzl
      have hul : u ≤ 4294967296 := by rw [← hu]; exact Nat.pow_le_pow_right (by omega) hk
      have ha2 : x / 2 ^ (k + 1) = a / 2 := by rw [Nat.pow_succ, ← Nat.div_div_eq_div_mul, ha]
      have hb2 : y / 2 ^ (k + 1) = b / 2 := by rw [Nat.pow_succ, ← Nat.div_div_eq_div_mul, hb]
      have hu2 : 2 ^ (k + 1) = 2 * u := by rw [Nat.pow_succ, hu]; omega
      have hs := hst k
      rw [ha, hb, ho, hu] at hs
      rw [ha, hb, ho, hu]
      have Ha := Lib.hid ha2
      have Hb := Lib.hid hb2
      have Hu := Lib.hid hu2
      have Hs := Lib.hid hs
      clear ha hb ho hu ha2 hb2 hu2 hs hst
      have q : (2 * (u : Int)) % 18446744073709551616 = 2 * (u : Int) := by omega
      by_cases hab : a % 2 = b % 2
      · have c1 : decide ((a : Int) % 2 = (b : Int) % 2) = true := decide_eq_true (by omega)
        have c2 : (a : Int) % 2 = (b : Int) % 2 := by omega
        go_wp2
        go_roundw
        case rel => exact ⟨k + 1, by omega, by rw [Ha.out]; push_cast; rfl, by rw [Hb.out]; push_cast; rfl, by rw [Hs.out, if_pos hab]; simp, by rw [Hu.out]; push_cast; rfl, by go_num, trivial⟩
        case measure => simp [intOf]; omega
      · have c1 : decide ((a : Int) % 2 = (b : Int) % 2) = false := decide_eq_false (by omega)
        have c2 : ¬ (a : Int) % 2 = (b : Int) % 2 := by omega
        have q2 : ((o : Int) + (u : Int)) % 18446744073709551616 = (o : Int) + (u : Int) := by omega
        go_wp2
        go_roundw
        case rel => exact ⟨k + 1, by omega, by rw [Ha.out]; push_cast; rfl, by rw [Hb.out]; push_cast; rfl, by rw [Hs.out, if_neg hab]; push_cast; rfl, by rw [Hu.out]; push_cast; rfl, by go_num, trivial⟩
        case measure => simp [intOf]; omega
    · have c0 : decide ((k : Int) < 32) = false := decide_eq_false (by omega)
      obtain rfl : k = 32 := by omega
      have hz32 : z % 2 ^ 32 = z := Nat.mod_eq_of_lt hzl
      go_wp2
      go_ret
      exact ⟨ret_int (by rw [hz32]), rfl⟩
end Go.Proofs.Ytnjcganknpnjcaa
namespace Go.Proofs.Ytnjcganknpnjcaa
open Go.RowKit

theorem und135 : Try.prog.underlying 135 = some (.array 16 32) := by kernel_rfl
theorem siz135 : (Try.prog.info? 135).map (·.size) = some 16 := by kernel_rfl
structure QMix (B : Nat) (v : Nat → Nat) (w wx : World) : Prop where
  row : wx.rowIs B 135 16 (wordsQ v)
  res : wx.rowIs (B + 1) 135 16 (fun _ => .int .u64 0)
  below : Below B w wx
theorem QMix.store {B : Nat} {v : Nat → Nat} {w wx : World} (h : QMix B v w wx) (i x : Nat) : QMix B (upd v i x) w (wx.setCell ⟨B, i, none⟩ (.int .u64 (x : Int))).drew :=
  ⟨((h.row.set i _).drew).congr (fun k _ => upd_wordsQ v i x k), (h.res.setOther (by simp) _).drew, (h.below.setCell (p := ⟨B, i, none⟩) (Nat.le_refl _) _).drew⟩
theorem QMix.past {B : Nat} {v : Nat → Nat} {w wx wy : World} (t : QMix B v w wx) (hb : Below wx.heap.size wx wy) : QMix B v w wy :=
  ⟨t.row.of_block (hb.block _ t.row.lt), t.res.of_block (hb.block _ t.res.lt), t.below.trans (hb.mono (Nat.le_of_lt t.row.lt))⟩
theorem QMix.setV {B : Nat} {v : Nat → Nat} {w wx : World} (t : QMix B v w wx) (v' : Nat → Nat) : QMix B v' w (wx.setRow B (arrA 16 (wordsQ v'))) :=
  ⟨rowIs_setRow t.row _, rowIs_setOther t.res (by omega) _, below_setRow t.below (Nat.le_refl _) _⟩
theorem zeroQ_row (w : World) : (w.alloc (Obj.cells #[Value.int IntKind.u64 0, Value.int IntKind.u64 0, Value.int IntKind.u64 0, Value.int IntKind.u64 0, Value.int IntKind.u64 0, Value.int IntKind.u64 0, Value.int IntKind.u64 0, Value.int IntKind.u64 0, Value.int IntKind.u64 0, Value.int IntKind.u64 0, Value.int IntKind.u64 0, Value.int IntKind.u64 0, Value.int IntKind.u64 0, Value.int IntKind.u64 0, Value.int IntKind.u64 0, Value.int IntKind.u64 0] 135)).rowIs w.heap.size 135 16 (fun _ => .int .u64 0) := row_of_heap (heap_new w _)
theorem QMix.start (v0 : Nat → Nat) (w : World) : QMix w.heap.size v0 w ((w.alloc (Obj.cells (arrA 16 (wordsQ v0)) 135)).alloc (Obj.cells #[Value.int IntKind.u64 0, Value.int IntKind.u64 0, Value.int IntKind.u64 0, Value.int IntKind.u64 0, Value.int IntKind.u64 0, Value.int IntKind.u64 0, Value.int IntKind.u64 0, Value.int IntKind.u64 0, Value.int IntKind.u64 0, Value.int IntKind.u64 0, Value.int IntKind.u64 0, Value.int IntKind.u64 0, Value.int IntKind.u64 0, Value.int IntKind.u64 0, Value.int IntKind.u64 0, Value.int IntKind.u64 0] 135)) := by
  refine ⟨row_of_heap (heap_old (heap_new w _) _), ?_, ((Below.refl _ w).alloc (Nat.le_refl _) _).alloc (by simp) _⟩
  have := zeroQ_row (w.alloc (Obj.cells (arrA 16 (wordsQ v0)) 135))
  rw [World.size_alloc] at this
  exact this
theorem half1_0 (v : Nat → Nat) (a b : Nat) : half1 v a b 0 = upd v a ((v a + v b) % 4294967296) := rfl

set_option maxRecDepth 100000 in
set_option maxHeartbeats 4000000 in
theorem qhalf_any (a b d p s : Nat) (v0 : Nat → Nat) (w : World) (hw : Words v0) (ha : a < 16) (hb : b < 16) (hd : d < 16) (hp : 2 ^ s = p) (h0 : 0 < s) (hs : s ≤ 16) :
    Calls Try.prog 123 #[.agg (arrA 16 (wordsQ v0)), .int .i64 (a : Int), .int .i64 (b : Int), .int .i64 (d : Int), .int .u64 (p : Int)] w fun e w' =>
      e = .returned (.agg (arrA 16 (wordsQ (half2 (half1 v0 a b 0) a d s)))) ∧ Below w.heap.size w w' := by
  have i1 : (a : Int) < 16 := by omega
  have i2 : (b : Int) < 16 := by omega
  have i3 : (d : Int) < 16 := by omega
  have m0 := QMix.start v0 w
  go_enter Try.func123, Try.ntmps123
  go_upto_region 1 with fail
  obtain ⟨W, hW⟩ : ∃ W, ((w.alloc (Obj.cells (arrA 16 (wordsQ v0)) 135)).alloc (Obj.cells #[Value.int IntKind.u64 0, Value.int IntKind.u64 0, Value.int IntKind.u64 0, Value.int IntKind.u64 0, Value.int IntKind.u64 0, Value.int IntKind.u64 0, Value.int IntKind.u64 0, Value.int IntKind.u64 0, Value.int IntKind.u64 0, Value.int IntKind.u64 0, Value.int IntKind.u64 0, Value.int IntKind.u64 0, Value.int IntKind.u64 0, Value.int IntKind.u64 0, Value.int IntKind.u64 0, Value.int IntKind.u64 0] 135)) = W := ⟨_, rfl⟩
  rw [hW] at m0 ⊢
  clear hW
  go_cut [] (fun wx => QMix w.heap.size (half1 v0 a b 0) w wx)
  case first =>
    have r1 : W.cell? ⟨w.heap.size, a, none⟩ = some (.int .u64 (v0 a : Int)) := m0.row.cell ha
    have r2 : W.cell? ⟨w.heap.size, b, none⟩ = some (.int .u64 (v0 b : Int)) := m0.row.cell hb
    have fr := m0.row.frozen a
    go_wp2
    refine wp_region_still_tail 8 (by kernel_rfl) (by kernel_rfl) ?_
    change wpStill _ _ W.drew (fun a' => wpList _ _ _ _ a' W.drew) _ _
    simp only [List.take_succ_cons, List.take_zero, List.drop_succ_cons, List.drop_zero]
    repeat still_step
    refine still_call (F := 113) rfl (by go_simp) (qadd_any (v0 a) (v0 b) W.drew (hw a) (hw b)) ?_
    simp only [Act.put, Array.setIfInBounds, List.size_toArray, List.set_toArray, List.set_cons_succ, List.set_cons_zero]
    repeat still_step
    try refine wpStill_nil ?_
    go_wp2
    go_meet
    rw [half1_0]
    exact m0.store a _
  case rest =>
    have hw1 : Words (half1 v0 a b 0) := half1_words hw a b 0
    obtain ⟨v1, hv1⟩ : ∃ v1, half1 v0 a b 0 = v1 := ⟨_, rfl⟩
    have m1 := hcut
    rw [hv1] at m1 hw1
    have Hv1 := Lib.hid hv1
    clear hcut m0 hv1
    go_upto_region 2 with fail
    go_cut [] (fun wx => QMix w.heap.size (half2 v1 a d s) w wx)
    case first =>
      have r1 : wc.cell? ⟨w.heap.size, a, none⟩ = some (.int .u64 (v1 a : Int)) := m1.row.cell ha
      have r2 : wc.cell? ⟨w.heap.size, d, none⟩ = some (.int .u64 (v1 d : Int)) := m1.row.cell hd
      have fr := m1.row.frozen d
      have xx : v1 d ^^^ v1 a < 4294967296 := Nat.xor_lt_two_pow (n := 32) (hw1 d) (hw1 a)
      go_wp2
      refine wp_region_still_tail 10 (by kernel_rfl) (by kernel_rfl) ?_
      change wpStill _ _ wc.drew (fun a' => wpList _ _ _ _ a' wc.drew) _ _
      simp only [List.take_succ_cons, List.take_zero, List.drop_succ_cons, List.drop_zero]
      repeat still_step
      refine still_call (F := 97) rfl (by go_simp) (qxor_any (v1 d) (v1 a) wc.drew (hw1 d) (hw1 a)) ?_
      simp only [Act.put, Array.setIfInBounds, List.size_toArray, List.set_toArray, List.set_cons_succ, List.set_cons_zero]
      repeat still_step
      refine still_call (F := 130) rfl (by go_simp) (turn_any (v1 d ^^^ v1 a) p s wc.drew xx hp hs) ?_
      simp only [Act.put, Array.setIfInBounds, List.size_toArray, List.set_toArray, List.set_cons_succ, List.set_cons_zero]
      repeat still_step
      try refine wpStill_nil ?_
      go_wp2
      go_meet
      exact m1.store d _
    case rest =>
      obtain ⟨v2, hv2⟩ : ∃ v2, half2 v1 a d s = v2 := ⟨_, rfl⟩
      have m2 := hcut
      rw [hv2] at m2
      have Hv2 := Lib.hid hv2
      clear hcut m1 hv2
      go_wp2_with (first | (refine load_arr rfl 135 _ rfl 16 32 135 w.heap.size _ rfl m2.row und135 siz135 ?_) | (refine store_arr rfl 135 _ _ rfl 16 135 (w.heap.size + 1) _ _ rfl rfl m2.res siz135 (fun _ => rfl) ?_))
      refine bodyPost_ret (result_arr rfl _ _ 16 32 135 (w.heap.size + 1) _ rfl (rowIs_setRow m2.res _) und135 siz135) rfl ?_
      exact ⟨by rw [Hv1.out, Hv2.out], below_setRow m2.below (by omega) _⟩

set_option maxRecDepth 100000 in
set_option maxHeartbeats 4000000 in
theorem qstep_any (a b c d : Nat) (v0 : Nat → Nat) (w : World) (hw : Words v0) (ha : a < 16) (hb : b < 16) (hc : c < 16) (hd : d < 16) :
    Calls Try.prog 112 #[.agg (arrA 16 (wordsQ v0)), .int .i64 (a : Int), .int .i64 (b : Int), .int .i64 (c : Int), .int .i64 (d : Int)] w fun e w' =>
      e = .returned (.agg (arrA 16 (wordsQ (cst v0 a b c d 2)))) ∧ Below w.heap.size w w' := by
  have m0 := QMix.start v0 w
  have hw1 : Words (half2 (half1 v0 a b 0) a d 16) := half2_words (half1_words hw _ _ _) _ _ _ (by omega) (by omega)
  obtain ⟨v1, hv1⟩ : ∃ v1, half2 (half1 v0 a b 0) a d 16 = v1 := ⟨_, rfl⟩
  rw [hv1] at hw1
  have hw2 : Words (half2 (half1 v1 c d 0) c b 12) := half2_words (half1_words hw1 _ _ _) _ _ _ (by omega) (by omega)
  obtain ⟨v2, hv2⟩ : ∃ v2, half2 (half1 v1 c d 0) c b 12 = v2 := ⟨_, rfl⟩
  rw [hv2] at hw2
  have hw3 : Words (half2 (half1 v2 a b 0) a d 8) := half2_words (half1_words hw2 _ _ _) _ _ _ (by omega) (by omega)
  obtain ⟨v3, hv3⟩ : ∃ v3, half2 (half1 v2 a b 0) a d 8 = v3 := ⟨_, rfl⟩
  rw [hv3] at hw3
  obtain ⟨v4, hv4⟩ : ∃ v4, half2 (half1 v3 c d 0) c b 7 = v4 := ⟨_, rfl⟩
  have hfin : cst v0 a b c d 2 = v4 := by rw [← hv4, ← hv3, ← hv2, ← hv1]; rfl
  have h1 := fun W => qhalf_any a b d 65536 16 v0 W hw ha hb hd (by decide) (by omega) (by omega)
  have h2 := fun W => qhalf_any c d b 4096 12 v1 W hw1 hc hd hb (by decide) (by omega) (by omega)
  have h3 := fun W => qhalf_any a b d 256 8 v2 W hw2 ha hb hd (by decide) (by omega) (by omega)
  have h4 := fun W => qhalf_any c d b 128 7 v3 W hw3 hc hd hb (by decide) (by omega) (by omega)
  rw [hv1] at h1
  rw [hv2] at h2
  rw [hv3] at h3
  rw [hv4] at h4
  rw [hfin]
  clear hfin hv1 hv2 hv3 hv4
  go_enter Try.func112, Try.ntmps112
  go_upto_region 1 with fail
  obtain ⟨W, hW⟩ : ∃ W, ((w.alloc (Obj.cells (arrA 16 (wordsQ v0)) 135)).alloc (Obj.cells #[Value.int IntKind.u64 0, Value.int IntKind.u64 0, Value.int IntKind.u64 0, Value.int IntKind.u64 0, Value.int IntKind.u64 0, Value.int IntKind.u64 0, Value.int IntKind.u64 0, Value.int IntKind.u64 0, Value.int IntKind.u64 0, Value.int IntKind.u64 0, Value.int IntKind.u64 0, Value.int IntKind.u64 0, Value.int IntKind.u64 0, Value.int IntKind.u64 0, Value.int IntKind.u64 0, Value.int IntKind.u64 0] 135)) = W := ⟨_, rfl⟩
  rw [hW] at m0 ⊢
  clear hW
  go_wp2_with (refine load_arr rfl 135 _ rfl 16 32 135 w.heap.size _ rfl m0.row und135 siz135 ?_)
  refine (h1 _).mono ?_
  rintro e w1 ⟨rfl, hb1⟩
  have m1 := m0.past hb1
  go_wp2_with (first | (refine store_arr rfl 135 _ _ rfl 16 135 w.heap.size _ _ rfl rfl m1.row siz135 (fun _ => rfl) ?_) | (refine load_arr rfl 135 _ rfl 16 32 135 w.heap.size _ rfl (m1.setV v1).row und135 siz135 ?_))
  refine (h2 _).mono ?_
  rintro e w2 ⟨rfl, hb2⟩
  have m2 := (m1.setV v1).past hb2
  go_wp2_with (first | (refine store_arr rfl 135 _ _ rfl 16 135 w.heap.size _ _ rfl rfl m2.row siz135 (fun _ => rfl) ?_) | (refine load_arr rfl 135 _ rfl 16 32 135 w.heap.size _ rfl (m2.setV v2).row und135 siz135 ?_))
  refine (h3 _).mono ?_
  rintro e w3 ⟨rfl, hb3⟩
  have m3 := (m2.setV v2).past hb3
  go_wp2_with (first | (refine store_arr rfl 135 _ _ rfl 16 135 w.heap.size _ _ rfl rfl m3.row siz135 (fun _ => rfl) ?_) | (refine load_arr rfl 135 _ rfl 16 32 135 w.heap.size _ rfl (m3.setV v3).row und135 siz135 ?_))
  refine (h4 _).mono ?_
  rintro e w4 ⟨rfl, hb4⟩
  have m4 := (m3.setV v3).past hb4
  go_wp2_with (refine store_arr rfl 135 _ _ rfl 16 135 (w.heap.size + 1) _ _ rfl rfl m4.res siz135 (fun _ => rfl) ?_)
  refine bodyPost_ret (result_arr rfl _ _ 16 32 135 (w.heap.size + 1) _ rfl (rowIs_setRow m4.res _) und135 siz135) rfl ?_
  exact ⟨rfl, below_setRow m4.below (by omega) _⟩
end Go.Proofs.Ytnjcganknpnjcaa
namespace Go.Proofs.Ytnjcganknpnjcaa
open Go.RowKit

def uCells (m : List UInt8) : List Value := m.map fun x => .int .u8 (x.toNat : Int)
set_option maxRecDepth 100000 in
set_option maxHeartbeats 2000000 in
theorem wr_any (B b g : Nat) (l m : List UInt8) (c : Nat) (w : World) (h : Bld B b l w) (hg : g ≠ b) (hm : ∀ (j : Nat) v, (uCells m)[j]? = some v → w.cell? ⟨g, j, none⟩ = some v)
    (hlen : l.length + m.length ≤ 140737488355328) (hB : B ≤ w.heap.size) :
    Calls Try.prog 81 #[.pointer (some ⟨b, 0, none⟩), .slice (some ⟨g, 0, none⟩) m.length c] w fun e w' => e = .returned (.tuple #[.int .i64 m.length, .nilIface]) ∧ (Bld B b (l ++ m) w' ∧ Below B w w' ∧ Lib.OthersKept 5 (some b) w w') := by
  obtain ⟨i0, hi, hz0, hz1, hz2⟩ := info_parts Try.BuilderB_Extra.infoByte
  have hcc : Calls Try.prog 90 #[.pointer (some ⟨b, 0, none⟩)] w fun e w1 => e = .returned (.tuple #[]) ∧ Lib.BuilderAtF 74 5 B b (.pointer (some ⟨b, 0, none⟩)) (Lib.byteCells l) w1 ∧ Below B w w1 ∧ Lib.OthersKept 5 (some b) w w1 ∧ (∀ (j : Nat) v, (uCells m)[j]? = some v → w1.cell? ⟨g, j, none⟩ = some v) := by
    rcases h with h | h
    · refine (Any.Builder_copyCheck_fresh Try.laysB240 Try.BuilderB_X72 b w h.cell0 h.shape h.frozen0).mono ?_
      rintro e w' ⟨rfl, rfl⟩
      exact ⟨rfl, h.used _, (Below.refl B w).setCell (p := ⟨b, 0, none⟩) h.1 _, (Lib.OthersKept.refl _ _ w).setCell ⟨b, 0, none⟩ rfl _, fun j v hj => cell_other (hm j v hj) hg⟩
    · refine (Any.Builder_copyCheck_used Try.laysB240 Try.BuilderB_X72 b w h.cell0).mono ?_
      rintro e w' ⟨rfl, rfl⟩
      exact ⟨rfl, h, Below.refl B _, Lib.OthersKept.refl _ _ _, hm⟩
  clear h hm
  go_enter Try.func81, Try.ntmps81
  go_wp2_with fail
  refine hcc.mono ?_
  rintro e w1 ⟨rfl, h1, hb1, hk1, hm⟩
  obtain ⟨hB, v, hbk, hown, hne⟩ := h1
  have c0 : w1.cell? ⟨b, 0, none⟩ = some (.pointer (some ⟨b, 0, none⟩)) := by rw [Lib.cell_of_heap hbk]; rfl
  have c1 : w1.cell? ⟨b, 1, none⟩ = some v := by rw [Lib.cell_of_heap hbk]; rfl
  go_wp2_with (at_builtin; refine wpList_append_ownF _ rfl _ _ 46 rfl B 5 i0 (.int .u8 0) 1 1 Try.underlying46 hi hz0 hz1 hz2 rfl (by decide) _ _ _ rfl hown ⟨g, 0, none⟩ m.length c (uCells m) rfl (by simp [uCells]) ?c1 ?c2 ?c3 ?c4 ?c5 ?_)
  case c1 =>
    intro j u hj
    have hadd : (⟨g, 0, none⟩ : Addr).add j = ⟨g, j, none⟩ := by unfold Addr.add; split <;> simp_all
    rw [hadd]
    exact hm j u hj
  case c2 =>
    intro u hu
    simp only [uCells, List.mem_map] at hu
    obtain ⟨x, _, rfl⟩ := hu
    rfl
  case c3 => rw [Lib.byteCells_length]; unfold maxLen; simp [uCells]; omega
  case c4 => rw [Lib.byteCells_length]; simp [uCells]; omega
  case c5 => have := hb1.size; omega
  intro v' w2 hown' hgrow _
  have hlt : b < w1.heap.size := (Array.getElem?_eq_some_iff.1 hbk).1
  have hb2 : w2.heap[b]? = some (.cells #[.pointer (some ⟨b, 0, none⟩), v] 74 (0, 0)) := by
    rw [hgrow.block b hlt (fun e => hne e.symm)]
    exact hbk
  have d0 : w2.cell? ⟨b, 0, none⟩ = some (.pointer (some ⟨b, 0, none⟩)) := by rw [Lib.cell_of_heap hb2]; rfl
  have d1 : w2.cell? ⟨b, 1, none⟩ = some v := by rw [Lib.cell_of_heap hb2]; rfl
  have f1 : w2.frozen? ⟨b, 1, none⟩ = false := Lib.frozen_of_heap hb2 1
  obtain ⟨ao, n', cap, rfl⟩ : ∃ ao n' cap, v' = .slice ao n' cap := by
    rcases hown'.2 with ⟨hv, _⟩ | ⟨g, cap, cur, fz, hv, _⟩
    · exact ⟨_, _, _, hv⟩
    · exact ⟨_, _, _, hv⟩
  go_wp2
  go_ret2
  refine ⟨rfl, .inr ?_, ?_, (hk1.grown hgrow (Lib.ownsRowF_kind hown)).setCell ⟨b, 1, none⟩ rfl _⟩
  · have := Lib.BuilderAtF.put (T := 74) (e := 5) hB hb2 (bs' := Lib.byteCells l ++ uCells m) (by simpa [uCells] using hown') Try.BuilderB_Extra.neB5
    rw [Lib.byteCells_append]
    exact this
  · exact (hb1.grown hgrow (by have := hb1.size; omega) (fun k hk => (hown.lt k hk).1)).setCell (p := ⟨b, 1, none⟩) hB _
end Go.Proofs.Ytnjcganknpnjcaa
namespace Go.Proofs.Ytnjcganknpnjcaa
open Go.RowKit

theorem info5u : (Try.prog.info? 5).map (fun i => (i.zero, i.size, i.bytes)) = some (some (.int .u8 0), 1, 1) := by kernel_rfl
theorem uCells_append (a b : List UInt8) : uCells (a ++ b) = uCells a ++ uCells b := by simp [uCells]
theorem ofNat_cell (n : Nat) (h : n < 256) : uCells [UInt8.ofNat n] = [.int .u8 (n : Int)] := by
  have : (UInt8.ofNat n).toNat = n := by simp; omega
  simp [uCells]
  omega
theorem lenL_length_le (n : Nat) : (lenL n).length ≤ n + 1 := by have := lenL_length n; omega

set_option maxRecDepth 100000 in
set_option maxHeartbeats 2000000 in
theorem length_any (n : Nat) (w : World) (hn : n ≤ 1000000000000) :
    Calls Try.prog 82 #[.int .i64 (n : Int)] w fun e w' => ∃ v, e = .returned v ∧ w'.ownsRow w.heap.size 5 1 v (lenL n).length (uCells (lenL n)) ∧ Below w.heap.size w w' := by
  obtain ⟨i0, hi, hz0, hz1, hz2⟩ := info_parts info5u
  go_enter Try.func82, Try.ntmps82
  go_wp2_with fail
  go_loopw [0, 3] (fun a v wx => ∃ (m : Nat) (l : List UInt8), a = .int .i64 (m : Int) ∧ m ≤ n ∧ Hid (l.length + m ≤ n) ∧ Hid (lenL n = l ++ lenL m) ∧ wx.ownsRow w.heap.size 5 1 v l.length (uCells l) ∧ Below w.heap.size w wx) (fun a _ _ => (intOf a).toNat)
  case atStart => exact ⟨n, [], rfl, Nat.le_refl _, Lib.hid (by simp), Lib.hid rfl, World.ownsRow_nil _ _ _ _, Below.refl _ _⟩
  case round =>
    obtain ⟨m, l, rfl, hm, hl, Hlen, hown, hb⟩ := hrel
    have hll : l.length ≤ 1000000000000 := by have := hl.out; omega
    by_cases hlt : m < 128
    · have c0 : decide ((128 : Int) ≤ (m : Int)) = false := decide_eq_false (by omega)
      have c1 : (m : Int) % 256 = (m : Int) := by omega
      go_wp2_with (at_builtin; refine wpList_append_own _ rfl _ _ 46 rfl w.heap.size 5 i0 (.int .u8 0) 1 1 Try.underlying46 hi hz0 hz1 hz2 rfl (by decide) _ _ _ rfl (hown.alloc _) ⟨wr.heap.size, 0, none⟩ 1 1 [.int .u8 (m : Int)] rfl rfl ?c1 ?c2 ?c3 ?c4 ?c5 ?_)
      case c1 =>
        intro j u hj
        match j, hj with
        | 0, hj => simp at hj; subst hj; exact cell_new1 wr _ _
      case c2 => intro u hu; simp at hu; subst hu; rfl
      case c3 => unfold maxLen; omega
      case c4 => omega
      case c5 => have := hb.size; simp; omega
      intro v' w1 hown' hgrow _
      have hfin : uCells l ++ [.int .u8 (m : Int)] = uCells (lenL n) := by rw [Hlen.out, uCells_append, lenL_small m hlt, ofNat_cell m (by omega)]
      have hfl : l.length + 1 = (lenL n).length := by rw [Hlen.out, lenL_small m hlt]; simp
      rw [hfin, hfl] at hown'
      have hbf : Below w.heap.size w w1 := (hb.alloc hb.size _).grown hgrow (by have := hb.size; simp; omega) (fun k hk => (hown.lt k hk).1)
      clear hfin hfl c1
      go_wp2
      go_ret
      exact ⟨_, rfl, hown', hbf⟩
    · have c0 : decide ((128 : Int) ≤ (m : Int)) = true := decide_eq_true (by omega)
      obtain ⟨x, hx⟩ : ∃ x, m % 128 + 128 = x := ⟨_, rfl⟩
      have e1 : (m : Int) % 128 + 128 = (x : Int) := by omega
      have hcell := ofNat_cell x (by omega)
      obtain ⟨q, hq⟩ : ∃ q, m / 128 = q := ⟨_, rfl⟩
      have e2 : (m : Int) / 128 = (q : Int) := by omega
      have hlm := lenL_more m hlt
      rw [hx, hq] at hlm
      have Hlm := Lib.hid hlm
      have Hq : Hid (l.length + 1 + q ≤ n ∧ q ≤ n ∧ q < m) := Lib.hid (by have := hl.out; omega)
      clear hx hq hlm
      go_wp2_with (at_builtin; refine wpList_append_own _ rfl _ _ 46 rfl w.heap.size 5 i0 (.int .u8 0) 1 1 Try.underlying46 hi hz0 hz1 hz2 rfl (by decide) _ _ _ rfl (hown.alloc _) ⟨wr.heap.size, 0, none⟩ 1 1 [.int .u8 (x : Int)] rfl rfl ?c1 ?c2 ?c3 ?c4 ?c5 ?_)
      case c1 =>
        intro j u hj
        match j, hj with
        | 0, hj => simp at hj; subst hj; exact cell_new1 wr _ _
      case c2 => intro u hu; simp at hu; subst hu; rfl
      case c3 => unfold maxLen; omega
      case c4 => omega
      case c5 => have := hb.size; simp; omega
      intro v' w1 hown' hgrow _
      rw [← hcell, ← uCells_append] at hown'
      have hbf : Below w.heap.size w w1 := (hb.alloc hb.size _).grown hgrow (by have := hb.size; simp; omega) (fun k hk => (hown.lt k hk).1)
      clear hcell
      go_wp2
      go_roundw
      case rel =>
        obtain ⟨q1, q2, q3⟩ := Hq.out
        refine ⟨q, l ++ [UInt8.ofNat x], rfl, q2, Lib.hid (by simp; omega), Lib.hid (by rw [Hlen.out, Hlm.out]; simp), by simpa using hown', hbf⟩
      case measure =>
        obtain ⟨q1, q2, q3⟩ := Hq.out
        simp [intOf]; omega

theorem take_snoc (l : List ByteArray) (i : Nat) (s : ByteArray) (h : l[i]? = some s) : l.take (i + 1) = l.take i ++ [s] := by
  obtain ⟨hi, hs⟩ := List.getElem?_eq_some_iff.1 h
  rw [List.take_add_one, h]
  rfl
/-- How many bytes a row of texts has at most. -/
theorem rowL_le (l : List ByteArray) (M : Nat) (h : ∀ s ∈ l, s.size + s.size / 128 + 1 ≤ M) : (rowL l).length ≤ l.length * M := by
  induction l with
  | nil => simp [rowL]
  | cons s r ih =>
    have h1 := ih fun x hx => h x (by simp [hx])
    have h2 := lenL_length s.size
    have h3 := h s (by simp)
    have e : s.data.toList.length = s.size := by simp
    simp only [rowL, List.length_append, e, List.length_cons, Nat.succ_mul]
    omega

set_option maxRecDepth 100000 in
set_option maxHeartbeats 4000000 in
theorem nrow_any (b : Nat) (l : List ByteArray) (w : World) (hc : ∀ (j : Nat) s, l[j]? = some s → w.cell? ⟨b, j, none⟩ = some (.string s)) (hbl : b < w.heap.size) (hk : l.length ≤ 1000) (hs : ∀ s ∈ l, s.size ≤ 1000000) :
    Calls Try.prog 45 #[.slice (some ⟨b, 0, none⟩) l.length l.length] w fun e w' => e = .returned (.string (rowV l)) ∧ Below w.heap.size w w' := by
  obtain ⟨k, hkl⟩ : ∃ k, l.length = k := ⟨_, rfl⟩
  have hlen : ∀ i, (rowL (l.take i)).length ≤ 10000000000 := fun i => by
    have h1 := rowL_le (l.take i) 2000001 (fun s h => by have := hs s (List.mem_of_mem_take h); omega)
    have h2 : (l.take i).length ≤ 1000 := by rw [List.length_take]; omega
    have h3 := Nat.mul_le_mul_right 2000001 h2
    omega
  rw [hkl] at hk ⊢
  have Hkl := Lib.hid hkl
  clear hkl
  go_enter Try.func45, Try.ntmps45
  have b0 : Bld w.heap.size w.heap.size [] (w.alloc (.cells #[.pointer none, .slice none 0 0] 74)) := Lib.IsBuilderF.of (Lib.fresh_isBuilder 74 5 w)
  have b1 : Below w.heap.size w (w.alloc (.cells #[.pointer none, .slice none 0 0] 74)) := (Below.refl _ w).alloc (Nat.le_refl _) _
  go_wp2_with fail
  obtain ⟨W, hW⟩ : ∃ W, w.alloc (.cells #[.pointer none, .slice none 0 0] 74) = W := ⟨_, rfl⟩
  rw [hW] at b0 b1 ⊢
  clear hW
  go_loopw [8] (fun a wx => ∃ i : Nat, i ≤ k ∧ a = .int .i64 (i : Int) ∧ Bld w.heap.size w.heap.size (rowL (l.take i)) wx ∧ Below w.heap.size w wx ∧ w.heap.size < wx.heap.size) (fun a _ => k - (intOf a).toNat)
  case atStart => exact ⟨0, by omega, rfl, b0, b1, by rcases b0 with h | h <;> exact h.lt⟩
  case round =>
    clear b0 b1
    obtain ⟨i, hi, rfl, hbd, hbw, hlt0⟩ := hrel
    by_cases hlt : i < k
    · have c0 : decide ((i : Int) < (k : Int)) = true := decide_eq_true (by omega)
      have c2 : (i : Int) < (k : Int) := by omega
      obtain ⟨s, hsi⟩ : ∃ s, l[i]? = some s := ⟨_, List.getElem?_eq_getElem (by have := Hkl.out; omega)⟩
      have hcell : wr.cell? ⟨b, i, none⟩ = some (.string s) := (hbw.cell (p := ⟨b, i, none⟩) hbl).trans (hc i s hsi)
      have hss : s.size ≤ 1000000 := hs s (List.mem_of_getElem? hsi)
      have Hsi := Lib.hid hsi
      clear hsi
      go_wp2_with fail
      refine (length_any s.size wr (by omega)).mono ?_
      rintro e w1 ⟨v, rfl, hown, hb1⟩
      have hpos : 0 < (lenL s.size).length := by
        by_cases h : s.size < 128
        · rw [lenL_small _ h]; simp
        · rw [lenL_more _ h]; simp
      obtain ⟨g, cap, rfl⟩ := Go.Joins.ownsRow_form hown hpos
      have hg : wr.heap.size ≤ g := (hown.lt g rfl).1
      have hbd1 := hbd.below hb1
      have hbw1 := hbw.trans (hb1.mono hbw.size)
      have hlp := lenL_length s.size
      have hli := hlen i
      obtain ⟨ml, hml⟩ : ∃ ml, lenL s.size = ml := ⟨_, rfl⟩
      rw [hml] at hown hlp ⊢
      have hwr := wr_any w.heap.size w.heap.size g (rowL (l.take i)) ml cap w1 hbd1 (by omega) (fun j u hj => by
        have := hown.cells (g := g) rfl j u hj
        have hadd : (⟨g, 0, none⟩ : Addr).add j = ⟨g, j, none⟩ := by unfold Addr.add; split <;> simp_all
        rwa [hadd] at this) (by omega) hbw1.size
      have Hml := Lib.hid hml
      clear hml hpos
      go_wp2_with fail
      refine hwr.mono ?_
      rintro e w2 ⟨rfl, hbd2, hb2, _⟩
      have hbw2 := hbw1.trans hb2
      have hws := ws_any w.heap.size w.heap.size (rowL (l.take i) ++ ml) s w2 hbd2 (by simp; omega) hbw2.size
      go_wp2_with fail
      refine hws.mono ?_
      rintro e w3 ⟨rfl, hbd3, hb3, _⟩
      have hbw3 := hbw2.trans hb3
      have hst : rowL (l.take i) ++ ml ++ s.data.toList = rowL (l.take (i + 1)) := by rw [take_snoc l i s Hsi.out, rowL_snoc, Hml.out]
      rw [hst] at hbd3
      clear hst hwr hws
      go_wp2
      go_roundw
      case rel => exact ⟨i + 1, by omega, by go_num, hbd3, hbw3, by rcases hbd3 with h | h <;> exact h.lt⟩
      case measure => simp [intOf]; omega
    · have c0 : decide ((i : Int) < (k : Int)) = false := decide_eq_false (by omega)
      obtain rfl : i = k := by omega
      rw [← Hkl.out, List.take_length] at hbd
      go_wp2_with fail
      refine (Try.Builder_String_any_f _ _ _ wr hbd hbw.size).mono ?_
      rintro e w1 ⟨rfl, _, hb1⟩
      have hbw1 := hbw.trans hb1
      go_wp2
      go_ret
      exact ⟨rfl, hbw1⟩
end Go.Proofs.Ytnjcganknpnjcaa
namespace Go.Proofs.Ytnjcganknpnjcaa
open Go.RowKit

theorem conv_kept1 (g : Nat) (A wx : World) (c : UInt8) (h : A.heap[g]? = some (.cells #[.int .u8 (c.toNat : Int)] 5)) (hb : Below A.heap.size A wx) :
    (convert 46 9 (.slice (some ⟨g, 0, none⟩) 1 1)).run Try.prog wx = .ok (.string ⟨#[c]⟩) wx := by
  have hx := (hb.block _ (lt_of_block h)).trans h
  refine conv_row (base := 0) (l := [c]) ⟨by simp [Lib.byteCells], .inr ⟨_, _, _, rfl, Nat.zero_le _, hx, Nat.le_refl _, by unfold maxLen; simp, by simp, ?_⟩⟩
  simp [Lib.byteCells]
def lenB (n : Nat) : ByteArray := ⟨(lenL n).toArray⟩
theorem lenB_size (n : Nat) : (lenB n).size ≤ n / 128 + 1 := by
  show (lenL n).toArray.size ≤ _
  rw [List.size_toArray]
  exact lenL_length n

set_option maxRecDepth 100000 in
set_option maxHeartbeats 2000000 in
theorem rlength_any (n : Nat) : ∀ (w : World), n ≤ 1000000000000 → Calls Try.prog 85 #[.int .i64 (n : Int)] w fun e w' => e = .returned (.string (lenB n)) ∧ Below w.heap.size w w' := by
  induction n using Nat.strongRecOn with
  | _ n ih =>
    intro w hn
    by_cases hlt : n < 128
    · clear ih
      have c0 : decide ((n : Int) < 128) = true := decide_eq_true (by omega)
      have c1 : (n : Int) % 256 = (n : Int) := by omega
      obtain ⟨c, hc⟩ : ∃ c : UInt8, UInt8.ofNat n = c := ⟨_, rfl⟩
      have hcn : (n : Int) = (c.toNat : Int) := by rw [← hc]; simp; omega
      have hcv := conv_one0 w c
      rw [← hcn] at hcv
      have hfin : (⟨#[c]⟩ : ByteArray) = lenB n := by rw [lenB, lenL_small n hlt, hc]
      have Hfin := Lib.hid hfin
      clear hc hcn hfin
      go_enter Try.func85, Try.ntmps85
      go_wp2
      go_ret
      exact ⟨by first | rfl | (rw [Hfin.out]; rfl), (Below.refl _ w).alloc (Nat.le_refl _) _⟩
    · have c0 : decide ((n : Int) < 128) = false := decide_eq_false (by omega)
      obtain ⟨q, hq⟩ : ∃ q, n / 128 = q := ⟨_, rfl⟩
      have e2 : (n : Int) / 128 = (q : Int) := by omega
      obtain ⟨c, hc⟩ : ∃ c : UInt8, UInt8.ofNat (n % 128 + 128) = c := ⟨_, rfl⟩
      have hcn : (n : Int) % 128 + 128 = (c.toNat : Int) := by rw [← hc]; simp; omega
      have hcl : c.toNat < 256 := c.toNat_lt
      have e3 : IntKind.u8.wrap (c.toNat : Int) = (c.toNat : Int) := IntWalk.u8_in _ (by omega)
      obtain ⟨k, hk⟩ : ∃ k, n % 128 = k := ⟨_, rfl⟩
      have e4 : (n : Int).tmod 128 = (k : Int) := by rw [Int.tmod_eq_emod_of_nonneg (by omega)]; omega
      have e5 : IntKind.i64.wrap ((k : Int) + 128) = (c.toNat : Int) := by rw [IntWalk.i64_in _ (by omega)]; omega
      have e6 : (n : Int).tdiv 128 = (q : Int) := by rw [Int.tdiv_eq_ediv_of_nonneg (by omega)]; exact e2
      have e7 : IntKind.i64.wrap (q : Int) = (q : Int) := IntWalk.i64_in _ (by omega)
      have e8 : IntKind.i64.wrap (k : Int) = (k : Int) := IntWalk.i64_in _ (by omega)
      have ih' := fun W => ih q (by omega) W (by omega)
      have hqs := lenB_size q
      obtain ⟨r, hr⟩ : ∃ r, lenB q = r := ⟨_, rfl⟩
      rw [hr] at ih' hqs
      have hrs : r.size ≤ 10000000000 := by omega
      have hfin : (⟨#[c]⟩ : ByteArray) ++ r = lenB n := by
        rw [← hr, lenB, lenB, lenL_more n hlt, hc, hq]
        apply ByteArray.ext
        simp
      have Hfin := Lib.hid hfin
      clear ih hfin hr hc hq hqs
      have hcv := fun W => conv_one W c
      have hcv0 := fun W => conv_one0 W c
      go_enter Try.func85, Try.ntmps85
      go_wp2
      have hcw : (convert 46 9 (.slice (some ⟨w.heap.size, 0, none⟩) 1 1)).run Try.prog ((w.drew).alloc (.cells #[.int .u8 (c.toNat : Int)] 5)) = .ok (.string ⟨#[c]⟩) ((w.drew).alloc (.cells #[.int .u8 (c.toNat : Int)] 5)) := conv_one0 (w.drew) c
      go_region_with (go_at_call 85; refine (ih' _).mono ?_; rintro e wx ⟨rfl, hbx⟩; try (have hcx : (convert 46 9 (.slice (some ⟨w.heap.size, 0, none⟩) 1 1)).run Try.prog wx = .ok (.string ⟨#[c]⟩) wx := conv_kept1 _ _ wx c (by exact heap_new (w.drew) _) hbx))
      all_goals
        go_wp2
        go_ret
        refine ⟨by first | rfl | (rw [← Hfin.out]; rfl), ?_⟩
        first
        | exact Below.alloc (show Below w.heap.size w wx from ⟨hbx.os, hbx.tape, hbx.output, hbx.size, hbx.block⟩) hbx.size _
        | exact ((Below.refl _ w).drew.alloc (Nat.le_refl _) _).trans (hbx.mono ((Below.refl _ w).drew.alloc (Nat.le_refl _) _).size)

set_option maxRecDepth 100000 in
set_option maxHeartbeats 4000000 in
theorem rrow_any (b : Nat) (l : List ByteArray) (w : World) (hc : ∀ (j : Nat) s, l[j]? = some s → w.cell? ⟨b, j, none⟩ = some (.string s)) (hbl : b < w.heap.size) (hk : l.length ≤ 1000) (hs : ∀ s ∈ l, s.size ≤ 1000000) :
    Calls Try.prog 49 #[.slice (some ⟨b, 0, none⟩) l.length l.length] w fun e w' => e = .returned (.string (rowV l)) ∧ Below w.heap.size w w' := by
  obtain ⟨k, hkl⟩ : ∃ k, l.length = k := ⟨_, rfl⟩
  have hlen : ∀ i, (rowV (l.take i)).size ≤ 10000000000 := fun i => by
    have h1 := rowL_le (l.take i) 2000001 (fun s h => by have := hs s (List.mem_of_mem_take h); omega)
    have h2 : (l.take i).length ≤ 1000 := by rw [List.length_take]; omega
    have h3 := Nat.mul_le_mul_right 2000001 h2
    rw [rowV_size]
    omega
  rw [hkl] at hk ⊢
  have Hkl := Lib.hid hkl
  clear hkl
  go_enter Try.func49, Try.ntmps49
  go_wp2_with fail
  go_loopw [8, 3] (fun a x wx => ∃ i : Nat, i ≤ k ∧ a = .int .i64 (i : Int) ∧ x = .string (rowV (l.take i)) ∧ Below w.heap.size w wx) (fun a _ _ => k - (intOf a).toNat)
  case atStart => exact ⟨0, by omega, rfl, rfl, Below.refl _ _⟩
  case round =>
    obtain ⟨i, hi, rfl, rfl, hbw⟩ := hrel
    by_cases hlt : i < k
    · have c0 : decide ((i : Int) < (k : Int)) = true := decide_eq_true (by omega)
      have c2 : (i : Int) < (k : Int) := by omega
      obtain ⟨s, hsi⟩ : ∃ s, l[i]? = some s := ⟨_, List.getElem?_eq_getElem (by have := Hkl.out; omega)⟩
      have hcell : wr.cell? ⟨b, i, none⟩ = some (.string s) := (hbw.cell (p := ⟨b, i, none⟩) hbl).trans (hc i s hsi)
      have hss : s.size ≤ 1000000 := hs s (List.mem_of_getElem? hsi)
      have hst : rowV (l.take i) ++ (lenB s.size ++ s) = rowV (l.take (i + 1)) := by
        rw [take_snoc l i s hsi, rowV, rowV, rowL_snoc, lenB]
        apply ByteArray.ext
        simp
      have hli := hlen i
      obtain ⟨x, hx⟩ : ∃ x, rowV (l.take i) = x := ⟨_, rfl⟩
      rw [hx] at hst hli ⊢
      have hls := lenB_size s.size
      obtain ⟨y, hy⟩ : ∃ y, lenB s.size = y := ⟨_, rfl⟩
      have hlc := rlength_any s.size wr (by omega)
      rw [hy] at hst hls hlc
      have Hst := Lib.hid hst
      clear hst hx hsi hy
      have hyl : y.size ≤ 1000000 := by omega
      have hcat1 : ¬ 9223372036854775807 < y.size + s.size := by omega
      have hcat2 : ¬ 9223372036854775807 < x.size + (y ++ s).size := by rw [ByteArray.size_append]; omega
      clear hls
      go_wp2_with fail
      refine hlc.mono ?_
      rintro e w1 ⟨rfl, hb1⟩
      have hbw1 := hbw.trans (hb1.mono hbw.size)
      go_wp2
      go_roundw
      case rel => exact ⟨i + 1, by omega, by go_num, by rw [← Hst.out], hbw1⟩
      case measure => simp [intOf]; omega
    · have c0 : decide ((i : Int) < (k : Int)) = false := decide_eq_false (by omega)
      obtain rfl : i = k := by omega
      rw [← Hkl.out, List.take_length]
      go_wp2
      go_ret
      exact ⟨rfl, hbw⟩
end Go.Proofs.Ytnjcganknpnjcaa
