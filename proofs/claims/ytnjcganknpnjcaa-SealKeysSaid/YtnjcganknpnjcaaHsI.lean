/- hash: the digest of blocks. -/
import Derived.Test.YtnjcganknpnjcaaHsF
import Derived.Deep.RegionWith
import Derived.BigRegion
import Derived.Test.YtnjcganknpnjcaaLzE
namespace Go.Proofs.Ytnjcganknpnjcaa
open Go.RowKit

/-- A block, filled up with zeroes. -/
def pad (s : ByteArray) : ByteArray := ⟨(s.data.toList ++ List.replicate (64 - s.size) 0).toArray⟩
theorem pad_size (s : ByteArray) (h : s.size ≤ 64) : (pad s).size = 64 := by
  have : s.data.toList.length = s.size := by simp
  show (s.data.toList ++ List.replicate (64 - s.size) 0).toArray.size = 64
  simp
  omega
/-- The digest's words: s is what is left, count how many bytes have been taken. -/
def dig (h : Nat → Nat) (s : ByteArray) (count : Nat) : Nat → Nat :=
  if 64 < s.size then dig (takeV h (msgV (s.extract 0 64)) (count + 64) false) (s.extract 64 s.size) (count + 64) else takeV h (msgV (pad s)) (count + s.size) true
termination_by s.size
decreasing_by rw [ByteArray.size_extract]; omega
theorem dig_more (h : Nat → Nat) (s : ByteArray) (count : Nat) (hs : 64 < s.size) : dig h s count = dig (takeV h (msgV (s.extract 0 64)) (count + 64) false) (s.extract 64 s.size) (count + 64) := by rw [dig, if_pos hs]
theorem dig_last (h : Nat → Nat) (s : ByteArray) (count : Nat) (hs : ¬ 64 < s.size) : dig h s count = takeV h (msgV (pad s)) (count + s.size) true := by rw [dig, if_neg hs]
def bytesV (v : Nat → Nat) : Nat → Value := fun i => .int .u8 (v i : Int)
/-- The digest's bytes. -/
def dgB (h : Nat → Nat) : Nat → Nat := fun j => h (j / 4) / 256 ^ (j % 4) % 256

structure DG (B : Nat) (h : Nat → Nat) (w wx : World) : Prop where
  hb : wx.rowIs B 97 8 (wordsV h)
  rb : wx.rowIs (B + 1) 57 32 (fun _ => .int .u8 0)
  below : Below B w wx
theorem DG.past {B : Nat} {h : Nat → Nat} {w wx wy : World} (t : DG B h w wx) (hb : Below wx.heap.size wx wy) : DG B h w wy :=
  ⟨t.hb.of_block (hb.block _ t.hb.lt), t.rb.of_block (hb.block _ t.rb.lt), t.below.trans (hb.mono (Nat.le_of_lt t.hb.lt))⟩
theorem DG.drewN {B : Nat} {h : Nat → Nat} {w wx : World} (t : DG B h w wx) (n : Nat) : DG B h w (wx.drewN n) := ⟨t.hb, t.rb, below_drewN t.below n⟩
theorem DG.putO {B : Nat} {h : Nat → Nat} {w wx : World} (t : DG B h w wx) {O : Nat} (hO : B + 1 < O) (i : Nat) (x : Value) : DG B h w (wx.setCell ⟨O, i, none⟩ x) :=
  ⟨t.hb.setOther (by dsimp only; omega) _, t.rb.setOther (by dsimp only; omega) _, t.below.setCell (by dsimp only; omega) _⟩
theorem DG.setH {B : Nat} {h : Nat → Nat} {w wx : World} (t : DG B h w wx) (h' : Nat → Nat) : DG B h' w (wx.setRow B (arrA 8 (wordsV h'))) :=
  ⟨rowIs_setRow t.hb _, rowIs_setOther t.rb (by omega) _, below_setRow t.below (Nat.le_refl _) _⟩

theorem repeatL_zero : ∀ n, Lib.repeatL [0] n = List.replicate n 0
  | 0 => rfl
  | n + 1 => by rw [Lib.repeatL, repeatL_zero n]; rfl
theorem pad_rep (x : ByteArray) : x ++ (⟨(Lib.repeatL [0] (64 - x.size)).toArray⟩ : ByteArray) = pad x := by
  rw [repeatL_zero]
  refine ByteArray.ext (Array.ext' ?_)
  simp [pad]
def dgP (d : Nat → Nat) (p : Nat) : Nat → Nat := fun j => if j < p then d j else 0
theorem dgP_step (d : Nat → Nat) (p : Nat) : upd (dgP d p) p (d p) = dgP d (p + 1) := by
  funext j
  unfold upd dgP
  by_cases e : j = p
  · rw [if_pos e, if_pos (by omega), e]
  · rw [if_neg e]
    by_cases h2 : j < p
    · rw [if_pos h2, if_pos (by omega)]
    · rw [if_neg h2, if_neg (by omega)]
theorem upd_bytesV (v : Nat → Nat) (i x k : Nat) : (if k = i then Value.int .u8 (x : Int) else bytesV v k) = bytesV (upd v i x) k := by
  unfold bytesV upd
  split <;> rfl
theorem run_index97 (f : Nat → Value) (i : Nat) (h : i < 8) (W : World) : (Instr.index 97 (.agg (arrA 8 f)) (.int .i64 (i : Int))).run Try.prog W = .ok (f i) W := by
  have h1 : (i : Int) < 8 := by omega
  have h2 := arrA_at 8 f i h
  simp [Instr.index, run_underlying und97, asIntOf, go_sem]
  rw [h2, if_pos h]
  rfl
theorem store_cells_arr {w : World} {b T n : Nat} {f g : Nat → Value} (h : w.rowIs b T n f) (h1 : ∀ i, (g i).oneCell' = true) :
    (storeCells ⟨b, 0, none⟩ (arrA n g).toList 0).run Try.prog w = .ok () (w.setRow b (arrA n g)) := by
  have := run_storeCells_from (P := Try.prog) b T (arrA n g).toList 0 (arrA n f) w (heap_of_row h) (by simp [arrA_size]) (fun v hv => (Array.all_eq_true_iff_forall_mem.1 (arrA_one n g h1)) v (by simpa using hv))
  simpa using this

set_option maxRecDepth 100000 in
set_option maxHeartbeats 4000000 in
theorem digest_any (h : Nat → Nat) (s : ByteArray) (w : World) (hh : Words h) (hs : s.size ≤ 1000000) :
    Calls Try.prog 78 #[.agg (arrA 8 (wordsV h)), .string s] w fun e w' => e = .returned (.agg (arrA 32 (bytesV (dgB (dig h s 0))))) ∧ Below w.heap.size w w' := by
  go_enter Try.func78, Try.ntmps78
  go_wp2_with fail
  have a0 : World.rowIs ((w.alloc (Obj.cells (arrA 8 (wordsV h)) 97)).alloc (Obj.cells #[Value.int IntKind.u8 0, Value.int IntKind.u8 0, Value.int IntKind.u8 0, Value.int IntKind.u8 0, Value.int IntKind.u8 0, Value.int IntKind.u8 0, Value.int IntKind.u8 0, Value.int IntKind.u8 0, Value.int IntKind.u8 0, Value.int IntKind.u8 0, Value.int IntKind.u8 0, Value.int IntKind.u8 0, Value.int IntKind.u8 0, Value.int IntKind.u8 0, Value.int IntKind.u8 0, Value.int IntKind.u8 0, Value.int IntKind.u8 0, Value.int IntKind.u8 0, Value.int IntKind.u8 0, Value.int IntKind.u8 0, Value.int IntKind.u8 0, Value.int IntKind.u8 0, Value.int IntKind.u8 0, Value.int IntKind.u8 0, Value.int IntKind.u8 0, Value.int IntKind.u8 0, Value.int IntKind.u8 0, Value.int IntKind.u8 0, Value.int IntKind.u8 0, Value.int IntKind.u8 0, Value.int IntKind.u8 0, Value.int IntKind.u8 0] 57)) w.heap.size 97 8 (wordsV h) := (row_of_heap (heap_new w _)).alloc _
  have a1 : World.rowIs ((w.alloc (Obj.cells (arrA 8 (wordsV h)) 97)).alloc (Obj.cells #[Value.int IntKind.u8 0, Value.int IntKind.u8 0, Value.int IntKind.u8 0, Value.int IntKind.u8 0, Value.int IntKind.u8 0, Value.int IntKind.u8 0, Value.int IntKind.u8 0, Value.int IntKind.u8 0, Value.int IntKind.u8 0, Value.int IntKind.u8 0, Value.int IntKind.u8 0, Value.int IntKind.u8 0, Value.int IntKind.u8 0, Value.int IntKind.u8 0, Value.int IntKind.u8 0, Value.int IntKind.u8 0, Value.int IntKind.u8 0, Value.int IntKind.u8 0, Value.int IntKind.u8 0, Value.int IntKind.u8 0, Value.int IntKind.u8 0, Value.int IntKind.u8 0, Value.int IntKind.u8 0, Value.int IntKind.u8 0, Value.int IntKind.u8 0, Value.int IntKind.u8 0, Value.int IntKind.u8 0, Value.int IntKind.u8 0, Value.int IntKind.u8 0, Value.int IntKind.u8 0, Value.int IntKind.u8 0, Value.int IntKind.u8 0] 57)) (w.heap.size + 1) 57 32 (fun _ => .int .u8 0) := by
    have := heap_new (w.alloc (Obj.cells (arrA 8 (wordsV h)) 97)) (Obj.cells #[Value.int IntKind.u8 0, Value.int IntKind.u8 0, Value.int IntKind.u8 0, Value.int IntKind.u8 0, Value.int IntKind.u8 0, Value.int IntKind.u8 0, Value.int IntKind.u8 0, Value.int IntKind.u8 0, Value.int IntKind.u8 0, Value.int IntKind.u8 0, Value.int IntKind.u8 0, Value.int IntKind.u8 0, Value.int IntKind.u8 0, Value.int IntKind.u8 0, Value.int IntKind.u8 0, Value.int IntKind.u8 0, Value.int IntKind.u8 0, Value.int IntKind.u8 0, Value.int IntKind.u8 0, Value.int IntKind.u8 0, Value.int IntKind.u8 0, Value.int IntKind.u8 0, Value.int IntKind.u8 0, Value.int IntKind.u8 0, Value.int IntKind.u8 0, Value.int IntKind.u8 0, Value.int IntKind.u8 0, Value.int IntKind.u8 0, Value.int IntKind.u8 0, Value.int IntKind.u8 0, Value.int IntKind.u8 0, Value.int IntKind.u8 0] 57)
    rw [World.size_alloc] at this
    exact row_of_heap this
  have a2 : Below w.heap.size w ((w.alloc (Obj.cells (arrA 8 (wordsV h)) 97)).alloc (Obj.cells #[Value.int IntKind.u8 0, Value.int IntKind.u8 0, Value.int IntKind.u8 0, Value.int IntKind.u8 0, Value.int IntKind.u8 0, Value.int IntKind.u8 0, Value.int IntKind.u8 0, Value.int IntKind.u8 0, Value.int IntKind.u8 0, Value.int IntKind.u8 0, Value.int IntKind.u8 0, Value.int IntKind.u8 0, Value.int IntKind.u8 0, Value.int IntKind.u8 0, Value.int IntKind.u8 0, Value.int IntKind.u8 0, Value.int IntKind.u8 0, Value.int IntKind.u8 0, Value.int IntKind.u8 0, Value.int IntKind.u8 0, Value.int IntKind.u8 0, Value.int IntKind.u8 0, Value.int IntKind.u8 0, Value.int IntKind.u8 0, Value.int IntKind.u8 0, Value.int IntKind.u8 0, Value.int IntKind.u8 0, Value.int IntKind.u8 0, Value.int IntKind.u8 0, Value.int IntKind.u8 0, Value.int IntKind.u8 0, Value.int IntKind.u8 0] 57)) := ((Below.refl _ w).alloc (Nat.le_refl _) _).alloc (by simp) _
  obtain ⟨W0, hW0⟩ : ∃ W0, (w.alloc (Obj.cells (arrA 8 (wordsV h)) 97)).alloc (Obj.cells #[Value.int IntKind.u8 0, Value.int IntKind.u8 0, Value.int IntKind.u8 0, Value.int IntKind.u8 0, Value.int IntKind.u8 0, Value.int IntKind.u8 0, Value.int IntKind.u8 0, Value.int IntKind.u8 0, Value.int IntKind.u8 0, Value.int IntKind.u8 0, Value.int IntKind.u8 0, Value.int IntKind.u8 0, Value.int IntKind.u8 0, Value.int IntKind.u8 0, Value.int IntKind.u8 0, Value.int IntKind.u8 0, Value.int IntKind.u8 0, Value.int IntKind.u8 0, Value.int IntKind.u8 0, Value.int IntKind.u8 0, Value.int IntKind.u8 0, Value.int IntKind.u8 0, Value.int IntKind.u8 0, Value.int IntKind.u8 0, Value.int IntKind.u8 0, Value.int IntKind.u8 0, Value.int IntKind.u8 0, Value.int IntKind.u8 0, Value.int IntKind.u8 0, Value.int IntKind.u8 0, Value.int IntKind.u8 0, Value.int IntKind.u8 0] 57) = W0 := ⟨_, rfl⟩
  rw [hW0] at a0 a1 a2 ⊢
  clear hW0
  go_loopw [1, 5] (fun a b wr => ∃ (x : ByteArray) (c : Nat) (k : Nat → Nat), a = .string x ∧ b = .int .u64 (c : Int) ∧ c + x.size ≤ 1000000 ∧ Words k ∧ DG w.heap.size k w wr ∧ Hid (dig k x c = dig h s 0)) (fun a _ _ => szOf a)
  case atStart => exact ⟨s, 0, h, rfl, rfl, by omega, hh, ⟨a0, a1, a2⟩, Lib.hid rfl⟩
  case round =>
    obtain ⟨x, c, k, rfl, rfl, hcx, hk, t1, H⟩ := hrel
    clear a0 a1 a2
    by_cases hlt : 64 < x.size
    · have c0 : decide ((64 : Int) < (x.size : Int)) = true := decide_eq_true (by omega)
      have g0 : (64 : Int) ≤ (x.size : Int) := by omega
      obtain ⟨c1, hc1⟩ : ∃ c1, c + 64 = c1 := ⟨_, rfl⟩
      have e1 : IntKind.u64.wrap ((c : Int) + 64) = (c1 : Int) := by rw [IntWalk.u64_in _ (by omega)]; omega
      have H2 : Hid (dig (takeV k (msgV (x.extract 0 64)) c1 false) (x.extract 64 x.size) c1 = dig h s 0) := by
        refine Lib.hid ?_
        rw [← H.out, dig_more _ _ _ hlt, hc1]
      have hc1b : c1 < 18446744073709551616 := by omega
      have hxs : (x.extract 0 64).size = 64 := by rw [ByteArray.size_extract]; omega
      have hle : c1 + (x.size - 64) ≤ 1000000 := by omega
      have Hle := Lib.hid hle
      have Hxs := Lib.hid hxs
      clear hc1 H hle hxs
      go_upto_region 4 with fail
      have d0 : wr.drew.cell? ⟨w.heap.size, 0, none⟩ = some (.int .u32 (k 0 : Int)) := t1.hb.drew.cell (by omega)
      have d1 : wr.drew.cell? ⟨w.heap.size, 1, none⟩ = some (.int .u32 (k 1 : Int)) := t1.hb.drew.cell (by omega)
      have d2 : wr.drew.cell? ⟨w.heap.size, 2, none⟩ = some (.int .u32 (k 2 : Int)) := t1.hb.drew.cell (by omega)
      have d3 : wr.drew.cell? ⟨w.heap.size, 3, none⟩ = some (.int .u32 (k 3 : Int)) := t1.hb.drew.cell (by omega)
      have d4 : wr.drew.cell? ⟨w.heap.size, 4, none⟩ = some (.int .u32 (k 4 : Int)) := t1.hb.drew.cell (by omega)
      have d5 : wr.drew.cell? ⟨w.heap.size, 5, none⟩ = some (.int .u32 (k 5 : Int)) := t1.hb.drew.cell (by omega)
      have d6 : wr.drew.cell? ⟨w.heap.size, 6, none⟩ = some (.int .u32 (k 6 : Int)) := t1.hb.drew.cell (by omega)
      have d7 : wr.drew.cell? ⟨w.heap.size, 7, none⟩ = some (.int .u32 (k 7 : Int)) := t1.hb.drew.cell (by omega)
      have hfold : #[Value.int IntKind.u32 (k 0 : Int), Value.int IntKind.u32 (k 1 : Int), Value.int IntKind.u32 (k 2 : Int), Value.int IntKind.u32 (k 3 : Int), Value.int IntKind.u32 (k 4 : Int), Value.int IntKind.u32 (k 5 : Int), Value.int IntKind.u32 (k 6 : Int), Value.int IntKind.u32 (k 7 : Int)] = arrA 8 (wordsV k) := rfl
      obtain ⟨K, hK⟩ : ∃ K, takeV k (msgV (x.extract 0 64)) c1 false = K := ⟨_, rfl⟩
      have hct := fun W => take_any k (x.extract 0 64) c1 false W hk Hxs.out hc1b
      rw [hK] at hct H2
      have hKw : Words K := by rw [← hK]; exact takeV_words hk _ _ _ hc1b
      have hKs := arrA_size 8 (wordsV K)
      clear hK
      go_region_with (go_at_call 98; refine (hct _).mono ?_; rintro e wx ⟨rfl, hbx⟩; have hst := store_cells_arr (((t1.drewN 1).past hbx).hb) (g := wordsV K) (fun _ => rfl))
      all_goals
        simp only [List.getElem_toArray, List.getElem_cons_succ, List.getElem_cons_zero, Act.put, List.setIfInBounds_toArray, List.set_cons_succ, List.set_cons_zero]
        go_wp2
        go_roundw
        case rel => exact ⟨x.extract 64 x.size, c1, K, rfl, rfl, by rw [ByteArray.size_extract]; have := Hle.out; omega, hKw, ((t1.drewN 1).past hbx).setH K, H2⟩
        case measure => simp [szOf, ByteArray.size_extract]; omega
    · have c0 : decide ((64 : Int) < (x.size : Int)) = false := decide_eq_false (by omega)
      obtain ⟨c1, hc1⟩ : ∃ c1, c + x.size = c1 := ⟨_, rfl⟩
      have f0 : IntKind.u64.wrap (x.size : Int) = (x.size : Int) := IntWalk.u64_in _ (by omega)
      have f1 : IntKind.u64.wrap ((c : Int) + (x.size : Int)) = (c1 : Int) := by rw [IntWalk.u64_in _ (by omega)]; omega
      have hdl : dig h s 0 = takeV k (msgV (pad x)) c1 true := by rw [← H.out, dig_last _ _ _ hlt, hc1]
      have hc1b : c1 < 18446744073709551616 := by omega
      have hxs : x.size ≤ 64 := by omega
      obtain ⟨n, hn⟩ : ∃ n, 64 - x.size = n := ⟨_, rfl⟩
      have f2 : IntKind.i64.wrap (64 - (x.size : Int)) = (n : Int) := by rw [IntWalk.i64_in _ (by omega)]; omega
      have hn64 : n ≤ 64 := by omega
      have hps := pad_size x hxs
      have hpd : x ++ (⟨(Lib.repeatL [0] n).toArray⟩ : ByteArray) = pad x := by rw [← hn]; exact pad_rep x
      clear hc1 H
      go_upto_region 6 with fail
      have d0 : wr.drew.cell? ⟨w.heap.size, 0, none⟩ = some (.int .u32 (k 0 : Int)) := t1.hb.drew.cell (by omega)
      have d1 : wr.drew.cell? ⟨w.heap.size, 1, none⟩ = some (.int .u32 (k 1 : Int)) := t1.hb.drew.cell (by omega)
      have d2 : wr.drew.cell? ⟨w.heap.size, 2, none⟩ = some (.int .u32 (k 2 : Int)) := t1.hb.drew.cell (by omega)
      have d3 : wr.drew.cell? ⟨w.heap.size, 3, none⟩ = some (.int .u32 (k 3 : Int)) := t1.hb.drew.cell (by omega)
      have d4 : wr.drew.cell? ⟨w.heap.size, 4, none⟩ = some (.int .u32 (k 4 : Int)) := t1.hb.drew.cell (by omega)
      have d5 : wr.drew.cell? ⟨w.heap.size, 5, none⟩ = some (.int .u32 (k 5 : Int)) := t1.hb.drew.cell (by omega)
      have d6 : wr.drew.cell? ⟨w.heap.size, 6, none⟩ = some (.int .u32 (k 6 : Int)) := t1.hb.drew.cell (by omega)
      have d7 : wr.drew.cell? ⟨w.heap.size, 7, none⟩ = some (.int .u32 (k 7 : Int)) := t1.hb.drew.cell (by omega)
      have hfold : #[Value.int IntKind.u32 (k 0 : Int), Value.int IntKind.u32 (k 1 : Int), Value.int IntKind.u32 (k 2 : Int), Value.int IntKind.u32 (k 3 : Int), Value.int IntKind.u32 (k 4 : Int), Value.int IntKind.u32 (k 5 : Int), Value.int IntKind.u32 (k 6 : Int), Value.int IntKind.u32 (k 7 : Int)] = arrA 8 (wordsV k) := rfl
      obtain ⟨K, hK⟩ : ∃ K, takeV k (msgV (pad x)) c1 true = K := ⟨_, rfl⟩
      have hct := fun W => take_any k (pad x) c1 true W hk hps hc1b
      rw [hK] at hct hdl
      have hKw : Words K := by rw [← hK]; exact takeV_words hk _ _ _ hc1b
      have hKs := arrA_size 8 (wordsV K)
      have Hdl := Lib.hid hdl
      clear hK hdl
      obtain ⟨px, hpx⟩ : ∃ px, pad x = px := ⟨_, rfl⟩
      rw [hpx] at hct hps hpd
      obtain ⟨zz, hzz⟩ : ∃ zz : ByteArray, ⟨(Lib.repeatL [0] n).toArray⟩ = zz := ⟨_, rfl⟩
      have hrep := fun W => Try.strings_Repeat ⟨#[0]⟩ n W (by omega) (by show 1 * n ≤ _; omega)
      have hzl : zz.size ≤ 64 := by rw [← hzz]; show (Lib.repeatL [0] n).toArray.size ≤ 64; rw [repeatL_zero]; simp; omega
      change ∀ W, Calls Try.prog 79 _ W fun e w' => e = .returned (.string ⟨(Lib.repeatL [0] n).toArray⟩) ∧ _ at hrep
      rw [hzz] at hpd
      have Hzz := Lib.hid hzz
      clear hpx hn hzz
      go_cut [] (fun wx => DG w.heap.size K w wx)
      case first =>
        go_region_with (first
          | (go_at_call 79; refine (hrep _).mono ?_; rintro e wy ⟨rfl, hby⟩; rw [Hzz.out]; have ty := (t1.drewN 1).past hby; have b0 : wy.cell? ⟨w.heap.size, 0, none⟩ = some (.int .u32 (k 0 : Int)) := ty.hb.cell (by omega); have b1 : wy.cell? ⟨w.heap.size, 1, none⟩ = some (.int .u32 (k 1 : Int)) := ty.hb.cell (by omega); have b2 : wy.cell? ⟨w.heap.size, 2, none⟩ = some (.int .u32 (k 2 : Int)) := ty.hb.cell (by omega); have b3 : wy.cell? ⟨w.heap.size, 3, none⟩ = some (.int .u32 (k 3 : Int)) := ty.hb.cell (by omega); have b4 : wy.cell? ⟨w.heap.size, 4, none⟩ = some (.int .u32 (k 4 : Int)) := ty.hb.cell (by omega); have b5 : wy.cell? ⟨w.heap.size, 5, none⟩ = some (.int .u32 (k 5 : Int)) := ty.hb.cell (by omega); have b6 : wy.cell? ⟨w.heap.size, 6, none⟩ = some (.int .u32 (k 6 : Int)) := ty.hb.cell (by omega); have b7 : wy.cell? ⟨w.heap.size, 7, none⟩ = some (.int .u32 (k 7 : Int)) := ty.hb.cell (by omega))
          | (go_at_call 98; refine (hct _).mono ?_; rintro e wx ⟨rfl, hbx⟩; have hst := store_cells_arr ((ty.past hbx).hb) (g := wordsV K) (fun _ => rfl)))
        all_goals
          go_wp2
          go_meet
          exact (ty.past hbx).setH K
      case rest =>
        have t2 := hcut
        have hz : World.rowIs (wc.alloc (Obj.cells #[Value.int IntKind.u8 0, Value.int IntKind.u8 0, Value.int IntKind.u8 0, Value.int IntKind.u8 0, Value.int IntKind.u8 0, Value.int IntKind.u8 0, Value.int IntKind.u8 0, Value.int IntKind.u8 0, Value.int IntKind.u8 0, Value.int IntKind.u8 0, Value.int IntKind.u8 0, Value.int IntKind.u8 0, Value.int IntKind.u8 0, Value.int IntKind.u8 0, Value.int IntKind.u8 0, Value.int IntKind.u8 0, Value.int IntKind.u8 0, Value.int IntKind.u8 0, Value.int IntKind.u8 0, Value.int IntKind.u8 0, Value.int IntKind.u8 0, Value.int IntKind.u8 0, Value.int IntKind.u8 0, Value.int IntKind.u8 0, Value.int IntKind.u8 0, Value.int IntKind.u8 0, Value.int IntKind.u8 0, Value.int IntKind.u8 0, Value.int IntKind.u8 0, Value.int IntKind.u8 0, Value.int IntKind.u8 0, Value.int IntKind.u8 0] 57)) wc.heap.size 57 32 (bytesV (dgP (dgB K) 0)) := row_of_heap (heap_new wc _)
        have hbz : Below wc.heap.size wc (wc.alloc (Obj.cells #[Value.int IntKind.u8 0, Value.int IntKind.u8 0, Value.int IntKind.u8 0, Value.int IntKind.u8 0, Value.int IntKind.u8 0, Value.int IntKind.u8 0, Value.int IntKind.u8 0, Value.int IntKind.u8 0, Value.int IntKind.u8 0, Value.int IntKind.u8 0, Value.int IntKind.u8 0, Value.int IntKind.u8 0, Value.int IntKind.u8 0, Value.int IntKind.u8 0, Value.int IntKind.u8 0, Value.int IntKind.u8 0, Value.int IntKind.u8 0, Value.int IntKind.u8 0, Value.int IntKind.u8 0, Value.int IntKind.u8 0, Value.int IntKind.u8 0, Value.int IntKind.u8 0, Value.int IntKind.u8 0, Value.int IntKind.u8 0, Value.int IntKind.u8 0, Value.int IntKind.u8 0, Value.int IntKind.u8 0, Value.int IntKind.u8 0, Value.int IntKind.u8 0, Value.int IntKind.u8 0, Value.int IntKind.u8 0, Value.int IntKind.u8 0] 57)) := (Below.refl _ wc).alloc (Nat.le_refl _) _
        have t3 := t2.past hbz
        have hO : w.heap.size + 1 < wc.heap.size := t2.rb.lt
        clear hbz
        go_wp2_with (refine load_arr rfl 97 _ rfl 8 38 97 w.heap.size _ rfl t3.hb und97 siz97 ?_)
        obtain ⟨O, hOe⟩ : ∃ O, wc.heap.size = O := ⟨_, rfl⟩
        obtain ⟨W1, hW1⟩ : ∃ W1, wc.alloc (Obj.cells #[Value.int IntKind.u8 0, Value.int IntKind.u8 0, Value.int IntKind.u8 0, Value.int IntKind.u8 0, Value.int IntKind.u8 0, Value.int IntKind.u8 0, Value.int IntKind.u8 0, Value.int IntKind.u8 0, Value.int IntKind.u8 0, Value.int IntKind.u8 0, Value.int IntKind.u8 0, Value.int IntKind.u8 0, Value.int IntKind.u8 0, Value.int IntKind.u8 0, Value.int IntKind.u8 0, Value.int IntKind.u8 0, Value.int IntKind.u8 0, Value.int IntKind.u8 0, Value.int IntKind.u8 0, Value.int IntKind.u8 0, Value.int IntKind.u8 0, Value.int IntKind.u8 0, Value.int IntKind.u8 0, Value.int IntKind.u8 0, Value.int IntKind.u8 0, Value.int IntKind.u8 0, Value.int IntKind.u8 0, Value.int IntKind.u8 0, Value.int IntKind.u8 0, Value.int IntKind.u8 0, Value.int IntKind.u8 0, Value.int IntKind.u8 0] 57) = W1 := ⟨_, rfl⟩
        rw [hW1] at hz t3 ⊢
        rw [hOe] at hz hO ⊢
        clear hW1 hOe t2
        try simp only [Act.put, List.setIfInBounds_toArray, List.set_cons_succ, List.set_cons_zero]
        go_wp2_with fail
        go_loopw [37] (fun a wx => ∃ i : Nat, i ≤ 8 ∧ a = .int .i64 (i : Int) ∧ wx.rowIs O 57 32 (bytesV (dgP (dgB K) (4 * i))) ∧ DG w.heap.size K w wx) (fun a _ => 8 - (intOf a).toNat)
        case atStart => exact ⟨0, by omega, rfl, hz, t3⟩
        case round =>
          clear hz t3
          obtain ⟨i, hi, rfl, hz, t3⟩ := hrel
          by_cases hlt8 : i < 8
          · have c2 : decide ((i : Int) < 8) = true := decide_eq_true (by omega)
            have c3 : (i : Int) < 8 := by omega
            have hidx := run_index97 (wordsV K) i hlt8
            obtain ⟨y, hy⟩ : ∃ y, K i = y := ⟨_, rfl⟩
            have hyl : y < 4294967296 := by rw [← hy]; exact hKw i
            rw [wordsV, hy] at hidx
            change ∀ W, (Instr.index 97 (.agg (arrA 8 (wordsV K))) (.int .i64 (i : Int))).run Try.prog W = .ok (.int .u32 (y : Int)) W at hidx
            have Hy := Lib.hid hy
            clear hy
            go_wp2_with fail
            go_loopw [41] (fun a wx => ∃ k : Nat, k ≤ 4 ∧ a = .int .i64 (k : Int) ∧ wx.rowIs O 57 32 (bytesV (dgP (dgB K) (4 * i + k))) ∧ DG w.heap.size K w wx) (fun a _ => 4 - (intOf a).toNat)
            case atStart => exact ⟨0, by omega, rfl, hz, t3⟩
            case round =>
              clear hz t3
              obtain ⟨k, hk, rfl, hz, t3⟩ := hrel
              by_cases hlt4 : k < 4
              · have c4 : decide ((k : Int) < 4) = true := decide_eq_true (by omega)
                have g1 : IntKind.i64.wrap (4 * (i : Int)) = 4 * (i : Int) := IntWalk.i64_in _ (by omega)
                obtain ⟨p, hp⟩ : ∃ p, 4 * i + k = p := ⟨_, rfl⟩
                have g2 : IntKind.i64.wrap (4 * (i : Int) + (k : Int)) = (p : Int) := by rw [IntWalk.i64_in _ (by omega)]; omega
                obtain ⟨q, hq⟩ : ∃ q, 8 * k = q := ⟨_, rfl⟩
                have g3 : IntKind.i64.wrap (8 * (k : Int)) = (q : Int) := by rw [IntWalk.i64_in _ (by omega)]; omega
                have hp32 : p < 32 := by omega
                have hp32' : (p : Int) < 32 := by omega
                rw [hp] at hz
                have hval : dgB K p = y / 2 ^ q % 256 := by
                  rw [dgB, show p / 4 = i by omega, show p % 4 = k by omega, Hy.out, ← hq, Nat.pow_mul]
                have Hval := Lib.hid hval
                have hmin : min q 32 = q := by omega
                have d1 : wr.cell? ⟨O, p, none⟩ = some (.int .u8 (dgP (dgB K) p p : Int)) := hz.cell hp32
                have d2 := hz.frozen p
                have Hp := Lib.hid hp
                clear hp hq hval
                go_wp2
                go_roundw
                case rel =>
                  refine ⟨k + 1, by omega, by go_num, ?_, ?_⟩
                  · have e : (y : Int) / 2 ^ q % 256 = ((y / 2 ^ q % 256 : Nat) : Int) := by push_cast; rfl
                    rw [e, ← Hval.out, show 4 * i + (k + 1) = p + 1 by have := Hp.out; omega, ← dgP_step]
                    exact (hz.set p _).congr (fun j _ => upd_bytesV _ _ _ _)
                  · exact t3.putO hO p _
                case measure => simp [intOf]; omega
              · have c4 : decide ((k : Int) < 4) = false := decide_eq_false (by omega)
                obtain rfl : k = 4 := by omega
                go_wp2
                go_roundw
                case rel => exact ⟨i + 1, by omega, by go_num, by rw [show 4 * (i + 1) = 4 * i + 4 by omega]; exact hz, t3⟩
                case measure => simp [intOf]; omega
          · have c2 : decide ((i : Int) < 8) = false := decide_eq_false (by omega)
            obtain rfl : i = 8 := by omega
            have hres : arrA 32 (bytesV (dgP (dgB K) (4 * 8))) = arrA 32 (bytesV (dgB (dig h s 0))) := by
              rw [Hdl.out]
              exact arrA_congr (fun j hj => by rw [bytesV, bytesV, dgP, if_pos (by omega)])
            have Hres := Lib.hid hres
            clear hres
            go_wp2_with (first | (refine load_arr rfl 57 _ rfl 32 5 57 O _ rfl hz und57 siz57 ?_) | (refine store_arr rfl 57 _ _ rfl 32 57 (w.heap.size + 1) _ _ rfl rfl t3.rb siz57 (fun _ => rfl) ?_))
            refine bodyPost_ret (result_arr rfl _ _ 32 5 57 (w.heap.size + 1) _ rfl (rowIs_setRow t3.rb _) und57 siz57) rfl ?_
            exact ⟨by rw [Hres.out], below_setRow t3.below (by omega) _⟩
end Go.Proofs.Ytnjcganknpnjcaa
