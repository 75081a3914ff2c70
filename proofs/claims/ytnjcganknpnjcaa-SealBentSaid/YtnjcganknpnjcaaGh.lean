/- hash: the digest of blocks. -/
import Derived.Test.YtnjcganknpnjcaaGf
import Derived.Deep.RegionWith
import Derived.BigRegion
import Derived.Test.YtnjcganknpnjcaaGc
import Derived.Test.YtnjcganknpnjcaaGg
set_option linter.unusedVariables false
set_option linter.unusedSimpArgs false
namespace Go.Proofs.Ytnjcganknpnjcaa
open Go.RowKit

/-- A block, filled up with zeroes. -/
def pad (s : ByteArray) : ByteArray := ⟨(s.data.toList ++ List.replicate (64 - s.size) 0).toArray⟩
theorem pad_size (s : ByteArray) (h : s.size ≤ 64) : (pad s).size = 64 := by
  have : s.data.toList.length = s.size := by simp
  show (s.data.toList ++ List.replicate (64 - s.size) 0).toArray.size = 64
  simp
  omega
/-- The digest's words: s is what is left, count how many bytes have been taken. -/
def dig (h : Nat → Nat) (s : ByteArray) (count : Nat) : Nat → Nat :=
  if 64 < s.size then dig (takeV h (msgV (s.extract 0 64)) (count + 64) false) (s.extract 64 s.size) (count + 64) else takeV h (msgV (pad s)) (count + s.size) true
termination_by s.size
decreasing_by rw [ByteArray.size_extract]; omega
theorem dig_more (h : Nat → Nat) (s : ByteArray) (count : Nat) (hs : 64 < s.size) : dig h s count = dig (takeV h (msgV (s.extract 0 64)) (count + 64) false) (s.extract 64 s.size) (count + 64) := by rw [dig, if_pos hs]
theorem dig_last (h : Nat → Nat) (s : ByteArray) (count : Nat) (hs : ¬ 64 < s.size) : dig h s count = takeV h (msgV (pad s)) (count + s.size) true := by rw [dig, if_neg hs]
def bytesV (v : Nat → Nat) : Nat → Value := fun i => .int .u8 (v i : Int)
/-- The digest's bytes. -/
def dgB (h : Nat → Nat) : Nat → Nat := fun j => h (j / 4) / 256 ^ (j % 4) % 256

structure DG (B : Nat) (h : Nat → Nat) (w wx : World) : Prop where
  hb : wx.rowIs B 97 8 (wordsV h)
  rb : wx.rowIs (B + 1) 57 32 (fun _ => .int .u8 0)
  below : Below B w wx
theorem DG.past {B : Nat} {h : Nat → Nat} {w wx wy : World} (t : DG B h w wx) (hb : Below wx.heap.size wx wy) : DG B h w wy :=
  ⟨t.hb.of_block (hb.block _ t.hb.lt), t.rb.of_block (hb.block _ t.rb.lt), t.below.trans (hb.mono (Nat.le_of_lt t.hb.lt))⟩
theorem DG.drewN {B : Nat} {h : Nat → Nat} {w wx : World} (t : DG B h w wx) (n : Nat) : DG B h w (wx.drewN n) := ⟨t.hb, t.rb, below_drewN t.below n⟩
theorem DG.putO {B : Nat} {h : Nat → Nat} {w wx : World} (t : DG B h w wx) {O : Nat} (hO : B + 1 < O) (i : Nat) (x : Value) : DG B h w (wx.setCell ⟨O, i, none⟩ x) :=
  ⟨t.hb.setOther (by dsimp only; omega) _, t.rb.setOther (by dsimp only; omega) _, t.below.setCell (by dsimp only; omega) _⟩
theorem DG.setH {B : Nat} {h : Nat → Nat} {w wx : World} (t : DG B h w wx) (h' : Nat → Nat) : DG B h' w (wx.setRow B (arrA 8 (wordsV h'))) :=
  ⟨rowIs_setRow t.hb _, rowIs_setOther t.rb (by omega) _, below_setRow t.below (Nat.le_refl _) _⟩

theorem repeatL_zero : ∀ n, Lib.repeatL [0] n = List.replicate n 0
  | 0 => rfl
  | n + 1 => by rw [Lib.repeatL, repeatL_zero n]; rfl
theorem pad_rep (x : ByteArray) : x ++ (⟨(Lib.repeatL [0] (64 - x.size)).toArray⟩ : ByteArray) = pad x := by
  rw [repeatL_zero]
  refine ByteArray.ext (Array.ext' ?_)
  simp [pad]
def dgP (d : Nat → Nat) (p : Nat) : Nat → Nat := fun j => if j < p then d j else 0
theorem dgP_step (d : Nat → Nat) (p : Nat) : upd (dgP d p) p (d p) = dgP d (p + 1) := by
  funext j
  unfold upd dgP
  by_cases e : j = p
  · rw [if_pos e, if_pos (by omega), e]
  · rw [if_neg e]
    by_cases h2 : j < p
    · rw [if_pos h2, if_pos (by omega)]
    · rw [if_neg h2, if_neg (by omega)]
theorem upd_bytesV (v : Nat → Nat) (i x k : Nat) : (if k = i then Value.int .u8 (x : Int) else bytesV v k) = bytesV (upd v i x) k := by
  unfold bytesV upd
  split <;> rfl
theorem run_index97 (f : Nat → Value) (i : Nat) (h : i < 8) (W : World) : (Instr.index 97 (.agg (arrA 8 f)) (.int .i64 (i : Int))).run Try.prog W = .ok (f i) W := by
  have h1 : (i : Int) < 8 := by omega
  have h2 := arrA_at 8 f i h
  simp [Instr.index, run_underlying und97, asIntOf, go_sem]
  rw [h2, if_pos h]
  rfl
theorem store_cells_arr {w : World} {b T n : Nat} {f g : Nat → Value} (h : w.rowIs b T n f) (h1 : ∀ i, (g i).oneCell' = true) :
    (storeCells ⟨b, 0, none⟩ (arrA n g).toList 0).run Try.prog w = .ok () (w.setRow b (arrA n g)) := by
  have := run_storeCells_from (P := Try.prog) b T (arrA n g).toList 0 (arrA n f) w (heap_of_row h) (by simp [arrA_size]) (fun v hv => (Array.all_eq_true_iff_forall_mem.1 (arrA_one n g h1)) v (by simpa using hv))
  simpa using this

set_option maxRecDepth 100000 in
set_option maxHeartbeats 4000000 in
theorem digest_any (h : Nat → Nat) (s : ByteArray) (w : World) (hh : Words h) (hs : s.size ≤ 1000000) :
    Calls Try.prog 78 #[.agg (arrA 8 (wordsV h)), .string s] w fun e w' => e = .returned (.agg (arrA 32 (bytesV (dgB (dig h s 0))))) ∧ Below w.heap.size w w' := by
  go_enter Try.func78, Try.ntmps78
  go_wp2_with fail
  have a0 : World.rowIs ((w.alloc (Obj.cells (arrA 8 (wordsV h)) 97)).alloc (Obj.cells #[Value.int IntKind.u8 0, Value.int IntKind.u8 0, Value.int IntKind.u8 0, Value.int IntKind.u8 0, Value.int IntKind.u8 0, Value.int IntKind.u8 0, Value.int IntKind.u8 0, Value.int IntKind.u8 0, Value.int IntKind.u8 0, Value.int IntKind.u8 0, Value.int IntKind.u8 0, Value.int IntKind.u8 0, Value.int IntKind.u8 0, Value.int IntKind.u8 0, Value.int IntKind.u8 0, Value.int IntKind.u8 0, Value.int IntKind.u8 0, Value.int IntKind.u8 0, Value.int IntKind.u8 0, Value.int IntKind.u8 0, Value.int IntKind.u8 0, Value.int IntKind.u8 0, Value.int IntKind.u8 0, Value.int IntKind.u8 0, Value.int IntKind.u8 0, Value.int IntKind.u8 0, Value.int IntKind.u8 0, Value.int IntKind.u8 0, Value.int IntKind.u8 0, Value.int IntKind.u8 0, Value.int IntKind.u8 0, Value.int IntKind.u8 0] 57)) w.heap.size 97 8 (wordsV h) := (row_of_heap (heap_new w _)).alloc _
  have a1 : World.rowIs ((w.alloc (Obj.cells (arrA 8 (wordsV h)) 97)).alloc (Obj.cells #[Value.int IntKind.u8 0, Value.int IntKind.u8 0, Value.int IntKind.u8 0, Value.int IntKind.u8 0, Value.int IntKind.u8 0, Value.int IntKind.u8 0, Value.int IntKind.u8 0, Value.int IntKind.u8 0, Value.int IntKind.u8 0, Value.int IntKind.u8 0, Value.int IntKind.u8 0, Value.int IntKind.u8 0, Value.int IntKind.u8 0, Value.int IntKind.u8 0, Value.int IntKind.u8 0, Value.int IntKind.u8 0, Value.int IntKind.u8 0, Value.int IntKind.u8 0, Value.int IntKind.u8 0, Value.int IntKind.u8 0, Value.int IntKind.u8 0, Value.int IntKind.u8 0, Value.int IntKind.u8 0, Value.int IntKind.u8 0, Value.int IntKind.u8 0, Value.int IntKind.u8 0, Value.int IntKind.u8 0, Value.int IntKind.u8 0, Value.int IntKind.u8 0, Value.int IntKind.u8 0, Value.int IntKind.u8 0, Value.int IntKind.u8 0] 57)) (w.heap.size + 1) 57 32 (fun _ => .int .u8 0) := by
    have := heap_new (w.alloc (Obj.cells (arrA 8 (wordsV h)) 97)) (Obj.cells #[Value.int IntKind.u8 0, Value.int IntKind.u8 0, Value.int IntKind.u8 0, Value.int IntKind.u8 0, Value.int IntKind.u8 0, Value.int IntKind.u8 0, Value.int IntKind.u8 0, Value.int IntKind.u8 0, Value.int IntKind.u8 0, Value.int IntKind.u8 0, Value.int IntKind.u8 0, Value.int IntKind.u8 0, Value.int IntKind.u8 0, Value.int IntKind.u8 0, Value.int IntKind.u8 0, Value.int IntKind.u8 0, Value.int IntKind.u8 0, Value.int IntKind.u8 0, Value.int IntKind.u8 0, Value.int IntKind.u8 0, Value.int IntKind.u8 0, Value.int IntKind.u8 0, Value.int IntKind.u8 0, Value.int IntKind.u8 0, Value.int IntKind.u8 0, Value.int IntKind.u8 0, Value.int IntKind.u8 0, Value.int IntKind.u8 0, Value.int IntKind.u8 0, Value.int IntKind.u8 0, Value.int IntKind.u8 0, Value.int IntKind.u8 0] 57)
    rw [World.size_alloc] at this
    exact row_of_heap this
  have a2 : Below w.heap.size w ((w.alloc (Obj.cells (arrA 8 (wordsV h)) 97)).alloc (Obj.cells #[Value.int IntKind.u8 0, Value.int IntKind.u8 0, Value.int IntKind.u8 0, Value.int IntKind.u8 0, Value.int IntKind.u8 0, Value.int IntKind.u8 0, Value.int IntKind.u8 0, Value.int IntKind.u8 0, Value.int IntKind.u8 0, Value.int IntKind.u8 0, Value.int IntKind.u8 0, Value.int IntKind.u8 0, Value.int IntKind.u8 0, Value.int IntKind.u8 0, Value.int IntKind.u8 0, Value.int IntKind.u8 0, Value.int IntKind.u8 0, Value.int IntKind.u8 0, Value.int IntKind.u8 0, Value.int IntKind.u8 0, Value.int IntKind.u8 0, Value.int IntKind.u8 0, Value.int IntKind.u8 0, Value.int IntKind.u8 0, Value.int IntKind.u8 0, Value.int IntKind.u8 0, Value.int IntKind.u8 0, Value.int IntKind.u8 0, Value.int IntKind.u8 0, Value.int IntKind.u8 0, Value.int IntKind.u8 0, Value.int IntKind.u8 0] 57)) := ((Below.refl _ w).alloc (Nat.le_refl _) _).alloc (by simp) _
  obtain ⟨W0, hW0⟩ : ∃ W0, (w.alloc (Obj.cells (arrA 8 (wordsV h)) 97)).alloc (Obj.cells #[Value.int IntKind.u8 0, Value.int IntKind.u8 0, Value.int IntKind.u8 0, Value.int IntKind.u8 0, Value.int IntKind.u8 0, Value.int IntKind.u8 0, Value.int IntKind.u8 0, Value.int IntKind.u8 0, Value.int IntKind.u8 0, Value.int IntKind.u8 0, Value.int IntKind.u8 0, Value.int IntKind.u8 0, Value.int IntKind.u8 0, Value.int IntKind.u8 0, Value.int IntKind.u8 0, Value.int IntKind.u8 0, Value.int IntKind.u8 0, Value.int IntKind.u8 0, Value.int IntKind.u8 0, Value.int IntKind.u8 0, Value.int IntKind.u8 0, Value.int IntKind.u8 0, Value.int IntKind.u8 0, Value.int IntKind.u8 0, Value.int IntKind.u8 0, Value.int IntKind.u8 0, Value.int IntKind.u8 0, Value.int IntKind.u8 0, Value.int IntKind.u8 0, Value.int IntKind.u8 0, Value.int IntKind.u8 0, Value.int IntKind.u8 0] 57) = W0 := ⟨_, rfl⟩
  rw [hW0] at a0 a1 a2 ⊢
  clear hW0
  go_loopw [1, 5] (fun a b wr => ∃ (x : ByteArray) (c : Nat) (k : Nat → Nat), a = .string x ∧ b = .int .u64 (c : Int) ∧ c + x.size ≤ 1000000 ∧ Words k ∧ DG w.heap.size k w wr ∧ Hid (dig k x c = dig h s 0)) (fun a _ _ => szOf a)
  case atStart => exact ⟨s, 0, h, rfl, rfl, by omega, hh, ⟨a0, a1, a2⟩, Lib.hid rfl⟩
  case round =>
    obtain ⟨x, c, k, rfl, rfl, hcx, hk, t1, H⟩ := hrel
    clear a0 a1 a2
    by_cases hlt : 64 < x.size
    · have c0 : decide ((64 : Int) < (x.size : Int)) = true := decide_eq_true (by omega)
      have g0 : (64 : Int) ≤ (x.size : Int) := by omega
      obtain ⟨c1, hc1⟩ : ∃ c1, c + 64 = c1 := ⟨_, rfl⟩
      have e1 : IntKind.u64.wrap ((c : Int) + 64) = (c1 : Int) := by rw [IntWalk.u64_in _ (by omega)]; omega
      have H2 : Hid (dig (takeV k (msgV (x.extract 0 64)) c1 false) (x.extract 64 x.size) c1 = dig h s 0) := by
        refine Lib.hid ?_
        rw [← H.out, dig_more _ _ _ hlt, hc1]
      have hc1b : c1 < 18446744073709551616 := by omega
      have hxs : (x.extract 0 64).size = 64 := by rw [ByteArray.size_extract]; omega
      have hle : c1 + (x.size - 64) ≤ 1000000 := by omega
      have Hle := Lib.hid hle
      have Hxs := Lib.hid hxs
      clear hc1 H hle hxs
      go_upto_region 4 with fail
      have d0 : wr.drew.cell? ⟨w.heap.size, 0, none⟩ = some (.int .u32 (k 0 : Int)) := t1.hb.drew.cell (by omega)
      have d1 : wr.drew.cell? ⟨w.heap.size, 1, none⟩ = some (.int .u32 (k 1 : Int)) := t1.hb.drew.cell (by omega)
      have d2 : wr.drew.cell? ⟨w.heap.size, 2, none⟩ = some (.int .u32 (k 2 : Int)) := t1.hb.drew.cell (by omega)
      have d3 : wr.drew.cell? ⟨w.heap.size, 3, none⟩ = some (.int .u32 (k 3 : Int)) := t1.hb.drew.cell (by omega)
      have d4 : wr.drew.cell? ⟨w.heap.size, 4, none⟩ = some (.int .u32 (k 4 : Int)) := t1.hb.drew.cell (by omega)
      have d5 : wr.drew.cell? ⟨w.heap.size, 5, none⟩ = some (.int .u32 (k 5 : Int)) := t1.hb.drew.cell (by omega)
      have d6 : wr.drew.cell? ⟨w.heap.size, 6, none⟩ = some (.int .u32 (k 6 : Int)) := t1.hb.drew.cell (by omega)
      have d7 : wr.drew.cell? ⟨w.heap.size, 7, none⟩ = some (.int .u32 (k 7 : Int)) := t1.hb.drew.cell (by omega)
      have hfold : #[Value.int IntKind.u32 (k 0 : Int), Value.int IntKind.u32 (k 1 : Int), Value.int IntKind.u32 (k 2 : Int), Value.int IntKind.u32 (k 3 : Int), Value.int IntKind.u32 (k 4 : Int), Value.int IntKind.u32 (k 5 : Int), Value.int IntKind.u32 (k 6 : Int), Value.int IntKind.u32 (k 7 : Int)] = arrA 8 (wordsV k) := rfl
      obtain ⟨K, hK⟩ : ∃ K, takeV k (msgV (x.extract 0 64)) c1 false = K := ⟨_, rfl⟩
      have hct := fun W => take_any k (x.extract 0 64) c1 false W hk Hxs.out hc1b
      rw [hK] at hct H2
      have hKw : Words K := by rw [← hK]; exact takeV_words hk _ _ _ hc1b
      have hKs := arrA_size 8 (wordsV K)
      clear hK
      go_region_with (go_at_call 98; refine (hct _).mono ?_; rintro e wx ⟨rfl, hbx⟩; have hst := store_cells_arr (((t1.drewN 1).past hbx).hb) (g := wordsV K) (fun _ => rfl))
      all_goals
        simp only [List.getElem_toArray, List.getElem_cons_succ, List.getElem_cons_zero, Act.put, List.setIfInBounds_toArray, List.set_cons_succ, List.set_cons_zero]
        go_wp2
        go_roundw
        case rel => exact ⟨x.extract 64 x.size, c1, K, rfl, rfl, by rw [ByteArray.size_extract]; have := Hle.out; omega, hKw, ((t1.drewN 1).past hbx).setH K, H2⟩
        case measure => simp [szOf, ByteArray.size_extract]; omega
    · have c0 : decide ((64 : Int) < (x.size : Int)) = false := decide_eq_false (by omega)
      obtain ⟨c1, hc1⟩ : ∃ c1, c + x.size = c1 := ⟨_, rfl⟩
      have f0 : IntKind.u64.wrap (x.size : Int) = (x.size : Int) := IntWalk.u64_in _ (by omega)
      have f1 : IntKind.u64.wrap ((c : Int) + (x.size : Int)) = (c1 : Int) := by rw [IntWalk.u64_in _ (by omega)]; omega
      have hdl : dig h s 0 = takeV k (msgV (pad x)) c1 true := by rw [← H.out, dig_last _ _ _ hlt, hc1]
      have hc1b : c1 < 18446744073709551616 := by omega
      have hxs : x.size ≤ 64 := by omega
      obtain ⟨n, hn⟩ : ∃ n, 64 - x.size = n := ⟨_, rfl⟩
      have f2 : IntKind.i64.wrap (64 - (x.size : Int)) = (n : Int) := by rw [IntWalk.i64_in _ (by omega)]; omega
      have hn64 : n ≤ 64 := by omega
      have hps := pad_size x hxs
      have hpd : x ++ (⟨(Lib.repeatL [0] n).toArray⟩ : ByteArray) = pad x := by rw [← hn]; exact pad_rep x
      clear hc1 H
      go_upto_region 6 with fail
      have d0 : wr.drew.cell? ⟨w.heap.size, 0, none⟩ = some (.int .u32 (k 0 : Int)) := t1.hb.drew.cell (by omega)
      have d1 : wr.drew.cell? ⟨w.heap.size, 1, none⟩ = some (.int .u32 (k 1 : Int)) := t1.hb.drew.cell (by omega)
      have d2 : wr.drew.cell? ⟨w.heap.size, 2, none⟩ = some (.int .u32 (k 2 : Int)) := t1.hb.drew.cell (by omega)
      have d3 : wr.drew.cell? ⟨w.heap.size, 3, none⟩ = some (.int .u32 (k 3 : Int)) := t1.hb.drew.cell (by omega)
      have d4 : wr.drew.cell? ⟨w.heap.size, 4, none⟩ = some (.int .u32 (k 4 : Int)) := t1.hb.drew.cell (by omega)
      have d5 : wr.drew.cell? ⟨w.heap.size, 5, none⟩ = some (.int .u32 (k 5 : Int)) := t1.hb.drew.cell (by omega)
      have d6 : wr.drew.cell? ⟨w.heap.size, 6, none⟩ = some (.int .u32 (k 6 : Int)) := t1.hb.drew.cell (by omega)
      have d7 : wr.drew.cell? ⟨w.heap.size, 7, none⟩ = some (.int .u32 (k 7 : Int)) := t1.hb.drew.cell (by omega)
      have hfold : #[Value.int IntKind.u32 (k 0 : Int), Value.int IntKind.u32 (k 1 : Int), Value.int IntKind.u32 (k 2 : Int), Value.int IntKind.u32 (k 3 : Int), Value.int IntKind.u32 (k 4 : Int), Value.int IntKind.u32 (k 5 : Int), Value.int IntKind.u32 (k 6 : Int), Value.int IntKind.u32 (k 7 : Int)] = arrA 8 (wordsV k) := rfl
      obtain ⟨K, hK⟩ : ∃ K, takeV k (msgV (pad x)) c1 true = K := ⟨_, rfl⟩
      have hct := fun W => take_any k (pad x) c1 true W hk hps hc1b
      rw [hK] at hct hdl
      have hKw : Words K := by rw [← hK]; exact takeV_words hk _ _ _ hc1b
      have hKs := arrA_size 8 (wordsV K)
      have Hdl := Lib.hid hdl
      clear hK hdl
      obtain ⟨px, hpx⟩ : ∃ px, pad x = px := ⟨_, rfl⟩
      rw [hpx] at hct hps hpd
      obtain ⟨zz, hzz⟩ : ∃ zz : ByteArray, ⟨(Lib.repeatL [0] n).toArray⟩ = zz := ⟨_, rfl⟩
      have hrep := fun W => Try.strings_Repeat ⟨#[0]⟩ n W (by omega) (by show 1 * n ≤ _; omega)
      have hzl : zz.size ≤ 64 := by rw [← hzz]; show (Lib.repeatL [0] n).toArray.size ≤ 64; rw [repeatL_zero]; simp; omega
      change ∀ W, Calls Try.prog 79 _ W fun e w' => e = .returned (.string ⟨(Lib.repeatL [0] n).toArray⟩) ∧ _ at hrep
      rw [hzz] at hpd
      have Hzz := Lib.hid hzz
      clear hpx hn hzz
      go_cut [] (fun wx => DG w.heap.size K w wx)
      case first =>
        go_region_with (first
          | (go_at_call 79; refine (hrep _).mono ?_; rintro e wy ⟨rfl, hby⟩; rw [Hzz.out]; have ty := (t1.drewN 1).past hby; have b0 : wy.cell? ⟨w.heap.size, 0, none⟩ = some (.int .u32 (k 0 : Int)) := ty.hb.cell (by omega); have b1 : wy.cell? ⟨w.heap.size, 1, none⟩ = some (.int .u32 (k 1 : Int)) := ty.hb.cell (by omega); have b2 : wy.cell? ⟨w.heap.size, 2, none⟩ = some (.int .u32 (k 2 : Int)) := ty.hb.cell (by omega); have b3 : wy.cell? ⟨w.heap.size, 3, none⟩ = some (.int .u32 (k 3 : Int)) := ty.hb.cell (by omega); have b4 : wy.cell? ⟨w.heap.size, 4, none⟩ = some (.int .u32 (k 4 : Int)) := ty.hb.cell (by omega); have b5 : wy.cell? ⟨w.heap.size, 5, none⟩ = some (.int .u32 (k 5 : Int)) := ty.hb.cell (by omega); have b6 : wy.cell? ⟨w.heap.size, 6, none⟩ = some (.int .u32 (k 6 : Int)) := ty.hb.cell (by omega); have b7 : wy.cell? ⟨w.heap.size, 7, none⟩ = some (.int .u32 (k 7 : Int)) := ty.hb.cell (by omega))
          | (go_at_call 98; refine (hct _).mono ?_; rintro e wx ⟨rfl, hbx⟩; have hst := store_cells_arr ((ty.past hbx).hb) (g := wordsV K) (fun _ => rfl)))
        all_goals
          go_wp2
          go_meet
          exact (ty.past hbx).setH K
      case rest =>
        have t2 := hcut
        have hz : World.rowIs (wc.alloc (Obj.cells #[Value.int IntKind.u8 0, Value.int IntKind.u8 0, Value.int IntKind.u8 0, Value.int IntKind.u8 0, Value.int IntKind.u8 0, Value.int IntKind.u8 0, Value.int IntKind.u8 0, Value.int IntKind.u8 0, Value.int IntKind.u8 0, Value.int IntKind.u8 0, Value.int IntKind.u8 0, Value.int IntKind.u8 0, Value.int IntKind.u8 0, Value.int IntKind.u8 0, Value.int IntKind.u8 0, Value.int IntKind.u8 0, Value.int IntKind.u8 0, Value.int IntKind.u8 0, Value.int IntKind.u8 0, Value.int IntKind.u8 0, Value.int IntKind.u8 0, Value.int IntKind.u8 0, Value.int IntKind.u8 0, Value.int IntKind.u8 0, Value.int IntKind.u8 0, Value.int IntKind.u8 0, Value.int IntKind.u8 0, Value.int IntKind.u8 0, Value.int IntKind.u8 0, Value.int IntKind.u8 0, Value.int IntKind.u8 0, Value.int IntKind.u8 0] 57)) wc.heap.size 57 32 (bytesV (dgP (dgB K) 0)) := row_of_heap (heap_new wc _)
        have hbz : Below wc.heap.size wc (wc.alloc (Obj.cells #[Value.int IntKind.u8 0, Value.int IntKind.u8 0, Value.int IntKind.u8 0, Value.int IntKind.u8 0, Value.int IntKind.u8 0, Value.int IntKind.u8 0, Value.int IntKind.u8 0, Value.int IntKind.u8 0, Value.int IntKind.u8 0, Value.int IntKind.u8 0, Value.int IntKind.u8 0, Value.int IntKind.u8 0, Value.int IntKind.u8 0, Value.int IntKind.u8 0, Value.int IntKind.u8 0, Value.int IntKind.u8 0, Value.int IntKind.u8 0, Value.int IntKind.u8 0, Value.int IntKind.u8 0, Value.int IntKind.u8 0, Value.int IntKind.u8 0, Value.int IntKind.u8 0, Value.int IntKind.u8 0, Value.int IntKind.u8 0, Value.int IntKind.u8 0, Value.int IntKind.u8 0, Value.int IntKind.u8 0, Value.int IntKind.u8 0, Value.int IntKind.u8 0, Value.int IntKind.u8 0, Value.int IntKind.u8 0, Value.int IntKind.u8 0] 57)) := (Below.refl _ wc).alloc (Nat.le_refl _) _
        have t3 := t2.past hbz
        have hO : w.heap.size + 1 < wc.heap.size := t2.rb.lt
        clear hbz
        go_wp2_with (refine load_arr rfl 97 _ rfl 8 38 97 w.heap.size _ rfl t3.hb und97 siz97 ?_)
        obtain ⟨O, hOe⟩ : ∃ O, wc.heap.size = O := ⟨_, rfl⟩
        obtain ⟨W1, hW1⟩ : ∃ W1, wc.alloc (Obj.cells #[Value.int IntKind.u8 0, Value.int IntKind.u8 0, Value.int IntKind.u8 0, Value.int IntKind.u8 0, Value.int IntKind.u8 0, Value.int IntKind.u8 0, Value.int IntKind.u8 0, Value.int IntKind.u8 0, Value.int IntKind.u8 0, Value.int IntKind.u8 0, Value.int IntKind.u8 0, Value.int IntKind.u8 0, Value.int IntKind.u8 0, Value.int IntKind.u8 0, Value.int IntKind.u8 0, Value.int IntKind.u8 0, Value.int IntKind.u8 0, Value.int IntKind.u8 0, Value.int IntKind.u8 0, Value.int IntKind.u8 0, Value.int IntKind.u8 0, Value.int IntKind.u8 0, Value.int IntKind.u8 0, Value.int IntKind.u8 0, Value.int IntKind.u8 0, Value.int IntKind.u8 0, Value.int IntKind.u8 0, Value.int IntKind.u8 0, Value.int IntKind.u8 0, Value.int IntKind.u8 0, Value.int IntKind.u8 0, Value.int IntKind.u8 0] 57) = W1 := ⟨_, rfl⟩
        rw [hW1] at hz t3 ⊢
        rw [hOe] at hz hO ⊢
        clear hW1 hOe t2
        try simp only [Act.put, List.setIfInBounds_toArray, List.set_cons_succ, List.set_cons_zero]
        go_wp2_with fail
        go_loopw [37] (fun a wx => ∃ i : Nat, i ≤ 8 ∧ a = .int .i64 (i : Int) ∧ wx.rowIs O 57 32 (bytesV (dgP (dgB K) (4 * i))) ∧ DG w.heap.size K w wx) (fun a _ => 8 - (intOf a).toNat)
        case atStart => exact ⟨0, by omega, rfl, hz, t3⟩
        case round =>
          clear hz t3
          obtain ⟨i, hi, rfl, hz, t3⟩ := hrel
          by_cases hlt8 : i < 8
          · have c2 : decide ((i : Int) < 8) = true := decide_eq_true (by omega)
            have c3 : (i : Int) < 8 := by omega
            have hidx := run_index97 (wordsV K) i hlt8
            obtain ⟨y, hy⟩ : ∃ y, K i = y := ⟨_, rfl⟩
            have hyl : y < 4294967296 := by rw [← hy]; exact hKw i
            rw [wordsV, hy] at hidx
            change ∀ W, (Instr.index 97 (.agg (arrA 8 (wordsV K))) (.int .i64 (i : Int))).run Try.prog W = .ok (.int .u32 (y : Int)) W at hidx
            have Hy := Lib.hid hy
            clear hy
            go_wp2_with fail
            go_loopw [41] (fun a wx => ∃ k : Nat, k ≤ 4 ∧ a = .int .i64 (k : Int) ∧ wx.rowIs O 57 32 (bytesV (dgP (dgB K) (4 * i + k))) ∧ DG w.heap.size K w wx) (fun a _ => 4 - (intOf a).toNat)
            case atStart => exact ⟨0, by omega, rfl, hz, t3⟩
            case round =>
              clear hz t3
              obtain ⟨k, hk, rfl, hz, t3⟩ := hrel
              by_cases hlt4 : k < 4
              · have c4 : decide ((k : Int) < 4) = true := decide_eq_true (by omega)
                have g1 : IntKind.i64.wrap (4 * (i : Int)) = 4 * (i : Int) := IntWalk.i64_in _ (by omega)
                obtain ⟨p, hp⟩ : ∃ p, 4 * i + k = p := ⟨_, rfl⟩
                have g2 : IntKind.i64.wrap (4 * (i : Int) + (k : Int)) = (p : Int) := by rw [IntWalk.i64_in _ (by omega)]; omega
                obtain ⟨q, hq⟩ : ∃ q, 8 * k = q := ⟨_, rfl⟩
                have g3 : IntKind.i64.wrap (8 * (k : Int)) = (q : Int) := by rw [IntWalk.i64_in _ (by omega)]; omega
                have hp32 : p < 32 := by omega
                have hp32' : (p : Int) < 32 := by omega
                rw [hp] at hz
                have hval : dgB K p = y / 2 ^ q % 256 := by
                  rw [dgB, show p / 4 = i by omega, show p % 4 = k by omega, Hy.out, ← hq, Nat.pow_mul]
                have Hval := Lib.hid hval
                have hmin : min q 32 = q := by omega
                have d1 : wr.cell? ⟨O, p, none⟩ = some (.int .u8 (dgP (dgB K) p p : Int)) := hz.cell hp32
                have d2 := hz.frozen p
                have Hp := Lib.hid hp
                clear hp hq hval
                go_wp2
                go_roundw
                case rel =>
                  refine ⟨k + 1, by omega, by go_num, ?_, ?_⟩
                  · have e : (y : Int) / 2 ^ q % 256 = ((y / 2 ^ q % 256 : Nat) : Int) := by push_cast; rfl
                    rw [e, ← Hval.out, show 4 * i + (k + 1) = p + 1 by have := Hp.out; omega, ← dgP_step]
                    exact (hz.set p _).congr (fun j _ => upd_bytesV _ _ _ _)
                  · exact t3.putO hO p _
                case measure => simp [intOf]; omega
              · have c4 : decide ((k : Int) < 4) = false := decide_eq_false (by omega)
                obtain rfl : k = 4 := by omega
                go_wp2
                go_roundw
                case rel => exact ⟨i + 1, by omega, by go_num, by rw [show 4 * (i + 1) = 4 * i + 4 by omega]; exact hz, t3⟩
                case measure => simp [intOf]; omega
          · have c2 : decide ((i : Int) < 8) = false := decide_eq_false (by omega)
            obtain rfl : i = 8 := by omega
            have hres : arrA 32 (bytesV (dgP (dgB K) (4 * 8))) = arrA 32 (bytesV (dgB (dig h s 0))) := by
              rw [Hdl.out]
              exact arrA_congr (fun j hj => by rw [bytesV, bytesV, dgP, if_pos (by omega)])
            have Hres := Lib.hid hres
            clear hres
            go_wp2_with (first | (refine load_arr rfl 57 _ rfl 32 5 57 O _ rfl hz und57 siz57 ?_) | (refine store_arr rfl 57 _ _ rfl 32 57 (w.heap.size + 1) _ _ rfl rfl t3.rb siz57 (fun _ => rfl) ?_))
            refine bodyPost_ret (result_arr rfl _ _ 32 5 57 (w.heap.size + 1) _ rfl (rowIs_setRow t3.rb _) und57 siz57) rfl ?_
            exact ⟨by rw [Hres.out], below_setRow t3.below (by omega) _⟩
end Go.Proofs.Ytnjcganknpnjcaa
namespace Go.Proofs.Ytnjcganknpnjcaa
open Go.RowKit

/-- Some zeroes behind a text. -/
def zer (x : ByteArray) (n : Nat) : ByteArray := ⟨(x.data.toList ++ List.replicate n 0).toArray⟩
theorem zer_size (x : ByteArray) (n : Nat) : (zer x n).size = x.size + n := by
  have : x.data.toList.length = x.size := by simp
  show (x.data.toList ++ List.replicate n 0).toArray.size = _
  simp
theorem zer_step (x : ByteArray) (n : Nat) : zer x n ++ ⟨#[0]⟩ = zer x (n + 1) := by
  refine ByteArray.ext (Array.ext' ?_)
  simp [zer, List.replicate_succ']
theorem zer_pad (x : ByteArray) : zer x (64 - x.size) = pad x := rfl
theorem zer_nil (x : ByteArray) : zer x 0 = x := by
  refine ByteArray.ext (Array.ext' ?_)
  simp [zer]

theorem extract_two (s : ByteArray) (c n : Nat) (h : c + n ≤ s.size) : (s.extract c s.size).extract 0 n = s.extract c (c + n) := by
  refine ByteArray.ext (Array.ext' ?_)
  rw [Lib.extract_data, Lib.extract_data, Lib.extract_data]
  have e : s.data.toList.length = s.size := by simp
  rw [List.drop_zero, List.take_take, show min (n - 0) (s.size - c) = n by omega, show c + n - c = n by omega]
theorem extract_rest (s : ByteArray) (c n : Nat) (h : c + n ≤ s.size) : (s.extract c s.size).extract n (s.extract c s.size).size = s.extract (c + n) s.size := by
  refine ByteArray.ext (Array.ext' ?_)
  rw [Lib.extract_data, Lib.extract_data, Lib.extract_data, ByteArray.size_extract]
  have e : s.data.toList.length = s.size := by simp
  rw [List.take_of_length_le (by simp), List.take_of_length_le (by simp), List.take_of_length_le (by simp), List.drop_drop]
set_option maxRecDepth 100000 in
set_option maxHeartbeats 4000000 in
theorem rdigest_any (h : Nat → Nat) (s : ByteArray) (w : World) (hh : Words h) (hs : s.size ≤ 1000000) :
    Calls Try.prog 104 #[.agg (arrA 8 (wordsV h)), .string s] w fun e w' => e = .returned (.agg (arrA 32 (bytesV (dgB (dig h s 0))))) ∧ Below w.heap.size w w' := by
  go_enter Try.func104, Try.ntmps104
  go_wp2_with fail
  have a0 : World.rowIs ((w.alloc (Obj.cells (arrA 8 (wordsV h)) 97)).alloc (Obj.cells #[Value.int IntKind.u8 0, Value.int IntKind.u8 0, Value.int IntKind.u8 0, Value.int IntKind.u8 0, Value.int IntKind.u8 0, Value.int IntKind.u8 0, Value.int IntKind.u8 0, Value.int IntKind.u8 0, Value.int IntKind.u8 0, Value.int IntKind.u8 0, Value.int IntKind.u8 0, Value.int IntKind.u8 0, Value.int IntKind.u8 0, Value.int IntKind.u8 0, Value.int IntKind.u8 0, Value.int IntKind.u8 0, Value.int IntKind.u8 0, Value.int IntKind.u8 0, Value.int IntKind.u8 0, Value.int IntKind.u8 0, Value.int IntKind.u8 0, Value.int IntKind.u8 0, Value.int IntKind.u8 0, Value.int IntKind.u8 0, Value.int IntKind.u8 0, Value.int IntKind.u8 0, Value.int IntKind.u8 0, Value.int IntKind.u8 0, Value.int IntKind.u8 0, Value.int IntKind.u8 0, Value.int IntKind.u8 0, Value.int IntKind.u8 0] 57)) w.heap.size 97 8 (wordsV h) := (row_of_heap (heap_new w _)).alloc _
  have a1 : World.rowIs ((w.alloc (Obj.cells (arrA 8 (wordsV h)) 97)).alloc (Obj.cells #[Value.int IntKind.u8 0, Value.int IntKind.u8 0, Value.int IntKind.u8 0, Value.int IntKind.u8 0, Value.int IntKind.u8 0, Value.int IntKind.u8 0, Value.int IntKind.u8 0, Value.int IntKind.u8 0, Value.int IntKind.u8 0, Value.int IntKind.u8 0, Value.int IntKind.u8 0, Value.int IntKind.u8 0, Value.int IntKind.u8 0, Value.int IntKind.u8 0, Value.int IntKind.u8 0, Value.int IntKind.u8 0, Value.int IntKind.u8 0, Value.int IntKind.u8 0, Value.int IntKind.u8 0, Value.int IntKind.u8 0, Value.int IntKind.u8 0, Value.int IntKind.u8 0, Value.int IntKind.u8 0, Value.int IntKind.u8 0, Value.int IntKind.u8 0, Value.int IntKind.u8 0, Value.int IntKind.u8 0, Value.int IntKind.u8 0, Value.int IntKind.u8 0, Value.int IntKind.u8 0, Value.int IntKind.u8 0, Value.int IntKind.u8 0] 57)) (w.heap.size + 1) 57 32 (fun _ => .int .u8 0) := by
    have := heap_new (w.alloc (Obj.cells (arrA 8 (wordsV h)) 97)) (Obj.cells #[Value.int IntKind.u8 0, Value.int IntKind.u8 0, Value.int IntKind.u8 0, Value.int IntKind.u8 0, Value.int IntKind.u8 0, Value.int IntKind.u8 0, Value.int IntKind.u8 0, Value.int IntKind.u8 0, Value.int IntKind.u8 0, Value.int IntKind.u8 0, Value.int IntKind.u8 0, Value.int IntKind.u8 0, Value.int IntKind.u8 0, Value.int IntKind.u8 0, Value.int IntKind.u8 0, Value.int IntKind.u8 0, Value.int IntKind.u8 0, Value.int IntKind.u8 0, Value.int IntKind.u8 0, Value.int IntKind.u8 0, Value.int IntKind.u8 0, Value.int IntKind.u8 0, Value.int IntKind.u8 0, Value.int IntKind.u8 0, Value.int IntKind.u8 0, Value.int IntKind.u8 0, Value.int IntKind.u8 0, Value.int IntKind.u8 0, Value.int IntKind.u8 0, Value.int IntKind.u8 0, Value.int IntKind.u8 0, Value.int IntKind.u8 0] 57)
    rw [World.size_alloc] at this
    exact row_of_heap this
  have a2 : Below w.heap.size w ((w.alloc (Obj.cells (arrA 8 (wordsV h)) 97)).alloc (Obj.cells #[Value.int IntKind.u8 0, Value.int IntKind.u8 0, Value.int IntKind.u8 0, Value.int IntKind.u8 0, Value.int IntKind.u8 0, Value.int IntKind.u8 0, Value.int IntKind.u8 0, Value.int IntKind.u8 0, Value.int IntKind.u8 0, Value.int IntKind.u8 0, Value.int IntKind.u8 0, Value.int IntKind.u8 0, Value.int IntKind.u8 0, Value.int IntKind.u8 0, Value.int IntKind.u8 0, Value.int IntKind.u8 0, Value.int IntKind.u8 0, Value.int IntKind.u8 0, Value.int IntKind.u8 0, Value.int IntKind.u8 0, Value.int IntKind.u8 0, Value.int IntKind.u8 0, Value.int IntKind.u8 0, Value.int IntKind.u8 0, Value.int IntKind.u8 0, Value.int IntKind.u8 0, Value.int IntKind.u8 0, Value.int IntKind.u8 0, Value.int IntKind.u8 0, Value.int IntKind.u8 0, Value.int IntKind.u8 0, Value.int IntKind.u8 0] 57)) := ((Below.refl _ w).alloc (Nat.le_refl _) _).alloc (by simp) _
  obtain ⟨W0, hW0⟩ : ∃ W0, (w.alloc (Obj.cells (arrA 8 (wordsV h)) 97)).alloc (Obj.cells #[Value.int IntKind.u8 0, Value.int IntKind.u8 0, Value.int IntKind.u8 0, Value.int IntKind.u8 0, Value.int IntKind.u8 0, Value.int IntKind.u8 0, Value.int IntKind.u8 0, Value.int IntKind.u8 0, Value.int IntKind.u8 0, Value.int IntKind.u8 0, Value.int IntKind.u8 0, Value.int IntKind.u8 0, Value.int IntKind.u8 0, Value.int IntKind.u8 0, Value.int IntKind.u8 0, Value.int IntKind.u8 0, Value.int IntKind.u8 0, Value.int IntKind.u8 0, Value.int IntKind.u8 0, Value.int IntKind.u8 0, Value.int IntKind.u8 0, Value.int IntKind.u8 0, Value.int IntKind.u8 0, Value.int IntKind.u8 0, Value.int IntKind.u8 0, Value.int IntKind.u8 0, Value.int IntKind.u8 0, Value.int IntKind.u8 0, Value.int IntKind.u8 0, Value.int IntKind.u8 0, Value.int IntKind.u8 0, Value.int IntKind.u8 0] 57) = W0 := ⟨_, rfl⟩
  rw [hW0] at a0 a1 a2 ⊢
  clear hW0
  go_loopw [5] (fun b wr => ∃ (c : Nat) (k : Nat → Nat), b = .int .i64 (c : Int) ∧ c ≤ s.size ∧ Words k ∧ DG w.heap.size k w wr ∧ Hid (dig k (s.extract c s.size) c = dig h s 0)) (fun b _ => s.size - (intOf b).toNat)
  case atStart => exact ⟨0, h, rfl, by omega, hh, ⟨a0, a1, a2⟩, Lib.hid (by rw [show s.extract 0 s.size = s by simp])⟩
  case round =>
    clear a0 a1 a2
    obtain ⟨c, k, rfl, hcs, hk, t1, H⟩ := hrel
    obtain ⟨c1, hc1⟩ : ∃ c1, c + 64 = c1 := ⟨_, rfl⟩
    have e1 : IntKind.i64.wrap ((c : Int) + 64) = (c1 : Int) := by rw [IntWalk.i64_in _ (by omega)]; omega
    by_cases hlt : c1 < s.size
    · have c0 : decide ((s.size : Int) ≤ (c1 : Int)) = false := decide_eq_false (by omega)
      have g1 : (c1 : Int) < (s.size : Int) := by omega
      have H2 : Hid (dig (takeV k (msgV (s.extract c c1)) c1 false) (s.extract c1 s.size) c1 = dig h s 0) := by
        refine Lib.hid ?_
        have e := dig_more k (s.extract c s.size) c (by rw [ByteArray.size_extract]; omega)
        rw [hc1, extract_two _ _ _ (by omega), extract_rest _ _ _ (by omega), hc1] at e
        rw [← H.out, e]
      have hc1b : c1 < 18446744073709551616 := by omega
      have hxs : (s.extract c c1).size = 64 := by rw [ByteArray.size_extract]; omega
      have Hxs := Lib.hid hxs
      have g2 : c ≤ c1 := by omega
      have g3 : (c : Int) ≤ (c1 : Int) := by omega
      have g4 : c1 ≤ s.size := by omega
      have g5 : (c1 : Int) ≤ (s.size : Int) := by omega
      have e2 : IntKind.u64.wrap (c1 : Int) = (c1 : Int) := IntWalk.u64_in _ (by omega)
      have Hc1 := Lib.hid hc1
      clear hc1 H hxs
      have hN : decide (s.size ≤ c1) = false := decide_eq_false (by omega)
      have hct := fun W => rtake_any k (s.extract c c1) c1 false W hk Hxs.out hc1b
      obtain ⟨K, hK⟩ : ∃ K, takeV k (msgV (s.extract c c1)) c1 false = K := ⟨_, rfl⟩
      rw [hK] at hct H2
      have hKw : Words K := by rw [← hK]; exact takeV_words hk _ _ _ hc1b
      clear hK
      go_upto_region 11 with fail
      go_wp2_with (first | (refine load_arr rfl 97 _ rfl 8 38 97 w.heap.size _ rfl t1.hb und97 siz97 ?_) | fail)
      refine (hct wr).mono ?_
      rintro e wx ⟨rfl, hbx⟩
      have t2 := t1.past hbx
      go_wp2_with (first | (refine store_arr rfl 97 _ _ rfl 8 97 w.heap.size _ (wordsV K) rfl rfl t2.hb siz97 (fun _ => rfl) ?_) | fail)
      try simp only [Act.put, List.setIfInBounds_toArray, List.set_cons_succ, List.set_cons_zero]
      go_wp2
      go_roundw
      case rel => exact ⟨c1, K, rfl, by omega, hKw, t2.setH K, H2⟩
      case measure => simp [intOf]; have := Hc1.out; omega
    · have c0 : decide ((s.size : Int) ≤ (c1 : Int)) = true := decide_eq_true (by omega)
      have hN : decide (s.size ≤ c1) = true := decide_eq_true (by omega)
      have g3 : (c : Int) ≤ (s.size : Int) := by omega
      have hxs : (s.extract c s.size).size ≤ 64 := by rw [ByteArray.size_extract]; omega
      obtain ⟨x, hx⟩ : ∃ x, s.extract c s.size = x := ⟨_, rfl⟩
      have hdl : dig h s 0 = takeV k (msgV (pad x)) s.size true := by
        rw [← H.out, dig_last _ _ _ (by omega), hx]
        congr 1
        rw [← hx, ByteArray.size_extract]; omega
      rw [hx] at hxs
      have e2 : IntKind.u64.wrap (s.size : Int) = (s.size : Int) := IntWalk.u64_in _ (by omega)
      have hct := fun W => rtake_any k (pad x) s.size true W hk (pad_size x hxs) (by omega)
      obtain ⟨K, hK⟩ : ∃ K, takeV k (msgV (pad x)) s.size true = K := ⟨_, rfl⟩
      rw [hK] at hct hdl
      have hKw : Words K := by rw [← hK]; exact takeV_words hk _ _ _ (by omega)
      have Hdl := Lib.hid hdl
      clear hK hdl H hc1
      have hx0 : s.extract c s.size = zer x 0 := by rw [hx, zer_nil]
      clear hx
      obtain ⟨Y, rfl⟩ : ∃ Y, Y = wr := ⟨wr, rfl⟩
      go_wp2_with fail
      go_loopw [8] (fun b wx => ∃ j : Nat, b = .string (zer x j) ∧ x.size + j ≤ 64 ∧ wx = Y) (fun b _ => 64 - szOf b)
      case atStart => exact ⟨0, by first | rfl | rw [hx0], by omega, rfl⟩
      case round =>
        obtain ⟨j, rfl, hj, rfl⟩ := hrel
        have hzs := zer_size x j
        by_cases hj2 : x.size + j < 64
        · have c3 : decide ((x.size : Int) + (j : Int) < 64) = true := decide_eq_true (by omega)
          have c4 : (x.size : Int) + (j : Int) < 64 := by omega
          have hst := zer_step x j
          go_wp2
          go_roundw
          case rel => exact ⟨j + 1, rfl, by omega, trivial⟩
          case measure => show 64 - (zer x (j + 1)).size < 64 - (zer x j).size; rw [zer_size, zer_size]; omega
        · have c3 : decide ((x.size : Int) + (j : Int) < 64) = false := decide_eq_false (by omega)
          have c4 : ¬ (x.size : Int) + (j : Int) < 64 := by omega
          have hpd : zer x j = pad x := by rw [← zer_pad, show j = 64 - x.size by omega]
          obtain ⟨px, hpx⟩ : ∃ px, pad x = px := ⟨_, rfl⟩
          have c5 : decide ((px.size : Int) < 64) = false := decide_eq_false (by rw [← hpx, pad_size x hxs]; omega)
          have hps : px.size = 64 := by rw [← hpx]; exact pad_size x hxs
          have hps2 : ¬ px.size < 64 := by omega
          rw [hpx] at hct hpd
          rw [hpd]
          clear hpx hpd hzs hps
          go_upto_region 11 with fail
          go_wp2_with (first | (refine load_arr rfl 97 _ rfl 8 38 97 w.heap.size _ rfl t1.hb und97 siz97 ?_) | fail)
          refine (hct _).mono ?_
          rintro e wx ⟨rfl, hbx⟩
          have t2 := t1.past hbx
          go_wp2_with (first | (refine store_arr rfl 97 _ _ rfl 8 97 w.heap.size _ (wordsV K) rfl rfl t2.hb siz97 (fun _ => rfl) ?_) | fail)
          have t3 := t2.setH K
          have hz : World.rowIs ((wx.setRow w.heap.size (arrA 8 (wordsV K))).alloc (Obj.cells #[Value.int IntKind.u8 0, Value.int IntKind.u8 0, Value.int IntKind.u8 0, Value.int IntKind.u8 0, Value.int IntKind.u8 0, Value.int IntKind.u8 0, Value.int IntKind.u8 0, Value.int IntKind.u8 0, Value.int IntKind.u8 0, Value.int IntKind.u8 0, Value.int IntKind.u8 0, Value.int IntKind.u8 0, Value.int IntKind.u8 0, Value.int IntKind.u8 0, Value.int IntKind.u8 0, Value.int IntKind.u8 0, Value.int IntKind.u8 0, Value.int IntKind.u8 0, Value.int IntKind.u8 0, Value.int IntKind.u8 0, Value.int IntKind.u8 0, Value.int IntKind.u8 0, Value.int IntKind.u8 0, Value.int IntKind.u8 0, Value.int IntKind.u8 0, Value.int IntKind.u8 0, Value.int IntKind.u8 0, Value.int IntKind.u8 0, Value.int IntKind.u8 0, Value.int IntKind.u8 0, Value.int IntKind.u8 0, Value.int IntKind.u8 0] 57)) wx.heap.size 57 32 (bytesV (dgP (dgB K) 0)) := by
            have := heap_new (wx.setRow w.heap.size (arrA 8 (wordsV K))) (Obj.cells #[Value.int IntKind.u8 0, Value.int IntKind.u8 0, Value.int IntKind.u8 0, Value.int IntKind.u8 0, Value.int IntKind.u8 0, Value.int IntKind.u8 0, Value.int IntKind.u8 0, Value.int IntKind.u8 0, Value.int IntKind.u8 0, Value.int IntKind.u8 0, Value.int IntKind.u8 0, Value.int IntKind.u8 0, Value.int IntKind.u8 0, Value.int IntKind.u8 0, Value.int IntKind.u8 0, Value.int IntKind.u8 0, Value.int IntKind.u8 0, Value.int IntKind.u8 0, Value.int IntKind.u8 0, Value.int IntKind.u8 0, Value.int IntKind.u8 0, Value.int IntKind.u8 0, Value.int IntKind.u8 0, Value.int IntKind.u8 0, Value.int IntKind.u8 0, Value.int IntKind.u8 0, Value.int IntKind.u8 0, Value.int IntKind.u8 0, Value.int IntKind.u8 0, Value.int IntKind.u8 0, Value.int IntKind.u8 0, Value.int IntKind.u8 0] 57)
            rw [size_setRow] at this
            exact row_of_heap this
          have t4 := t3.past (wy := (wx.setRow w.heap.size (arrA 8 (wordsV K))).alloc (Obj.cells #[Value.int IntKind.u8 0, Value.int IntKind.u8 0, Value.int IntKind.u8 0, Value.int IntKind.u8 0, Value.int IntKind.u8 0, Value.int IntKind.u8 0, Value.int IntKind.u8 0, Value.int IntKind.u8 0, Value.int IntKind.u8 0, Value.int IntKind.u8 0, Value.int IntKind.u8 0, Value.int IntKind.u8 0, Value.int IntKind.u8 0, Value.int IntKind.u8 0, Value.int IntKind.u8 0, Value.int IntKind.u8 0, Value.int IntKind.u8 0, Value.int IntKind.u8 0, Value.int IntKind.u8 0, Value.int IntKind.u8 0, Value.int IntKind.u8 0, Value.int IntKind.u8 0, Value.int IntKind.u8 0, Value.int IntKind.u8 0, Value.int IntKind.u8 0, Value.int IntKind.u8 0, Value.int IntKind.u8 0, Value.int IntKind.u8 0, Value.int IntKind.u8 0, Value.int IntKind.u8 0, Value.int IntKind.u8 0, Value.int IntKind.u8 0] 57)) ((Below.refl _ _).alloc (Nat.le_refl _) _)
          have hO : w.heap.size + 1 < wx.heap.size := t2.rb.lt
          clear t3 t1 t2
          obtain ⟨O, hOe⟩ : ∃ O, wx.heap.size = O := ⟨_, rfl⟩
          obtain ⟨W1, hW1⟩ : ∃ W1, (wx.setRow w.heap.size (arrA 8 (wordsV K))).alloc (Obj.cells #[Value.int IntKind.u8 0, Value.int IntKind.u8 0, Value.int IntKind.u8 0, Value.int IntKind.u8 0, Value.int IntKind.u8 0, Value.int IntKind.u8 0, Value.int IntKind.u8 0, Value.int IntKind.u8 0, Value.int IntKind.u8 0, Value.int IntKind.u8 0, Value.int IntKind.u8 0, Value.int IntKind.u8 0, Value.int IntKind.u8 0, Value.int IntKind.u8 0, Value.int IntKind.u8 0, Value.int IntKind.u8 0, Value.int IntKind.u8 0, Value.int IntKind.u8 0, Value.int IntKind.u8 0, Value.int IntKind.u8 0, Value.int IntKind.u8 0, Value.int IntKind.u8 0, Value.int IntKind.u8 0, Value.int IntKind.u8 0, Value.int IntKind.u8 0, Value.int IntKind.u8 0, Value.int IntKind.u8 0, Value.int IntKind.u8 0, Value.int IntKind.u8 0, Value.int IntKind.u8 0, Value.int IntKind.u8 0, Value.int IntKind.u8 0] 57) = W1 := ⟨_, rfl⟩
          rw [hW1] at hz t4
          try simp only [Act.put, List.setIfInBounds_toArray, List.set_cons_succ, List.set_cons_zero]
          go_wp2_with fail
          rw [hW1]
          rw [hOe] at hz hO ⊢
          clear hW1 hOe hbx
          go_loopw [10] (fun a wx => ∃ i : Nat, i ≤ 32 ∧ a = .int .i64 (i : Int) ∧ wx.rowIs O 57 32 (bytesV (dgP (dgB K) i)) ∧ DG w.heap.size K w wx) (fun a _ => 32 - (intOf a).toNat)
          case atStart => exact ⟨0, by omega, rfl, hz, t4⟩
          case round =>
            clear hz t4
            obtain ⟨i, hi, rfl, hz, t4⟩ := hrel
            by_cases hlt8 : i < 32
            · have c2 : decide ((i : Int) < 32) = true := decide_eq_true (by omega)
              have c3 : (i : Int) < 32 := by omega
              obtain ⟨q, hq⟩ : ∃ q, i / 4 = q := ⟨_, rfl⟩
              obtain ⟨r, hr⟩ : ∃ r, i % 4 = r := ⟨_, rfl⟩
              have f1 : (i : Int) / 4 = (q : Int) := by omega
              have f2 : (i : Int) % 4 = (r : Int) := by omega
              have f3 : IntKind.i64.wrap (q : Int) = (q : Int) := IntWalk.i64_in _ (by omega)
              have q8 : q < 8 := by omega
              have q8' : (q : Int) < 8 := by omega
              have d1 : wr.cell? ⟨w.heap.size, q, none⟩ = some (.int .u32 (K q : Int)) := t4.hb.cell q8
              have hyl := hKw q
              obtain ⟨y, hy⟩ : ∃ y, K q = y := ⟨_, rfl⟩
              rw [hy] at hyl d1
              have hval : dgB K i = y / 256 ^ r % 256 := by rw [dgB, hq, hr, hy]
              have Hval := Lib.hid hval
              have hr4 : r < 4 := by omega
              clear hq hr hval hy
              go_wp2_with fail
              obtain ⟨Y, rfl⟩ : ∃ Y, Y = wr := ⟨wr, rfl⟩
              clear d1
              go_loopw [11, 12] (fun a b wx => ∃ k v : Nat, k ≤ r ∧ a = .int .u32 (v : Int) ∧ b = .int .i64 (k : Int) ∧ Hid (v = y / 256 ^ k) ∧ wx = Y) (fun _ b _ => 4 - (intOf b).toNat)
              case atStart => exact ⟨0, y, by omega, rfl, rfl, Lib.hid (by simp), rfl⟩
              case round =>
                obtain ⟨k, v, hk2, rfl, rfl, Hv, rfl⟩ := hrel
                by_cases hkr : k < r
                · have c6 : decide ((k : Int) < (r : Int)) = true := decide_eq_true (by omega)
                  have c7 : (k : Int) < (r : Int) := by omega
                  obtain ⟨v2, hv2⟩ : ∃ v2, v / 256 = v2 := ⟨_, rfl⟩
                  have f5 : (v : Int) / 256 = (v2 : Int) := by omega
                  have vl : v < 4294967296 := by rw [Hv.out]; exact Nat.lt_of_le_of_lt (Nat.div_le_self _ _) hyl
                  have v2l : v2 < 4294967296 := by omega
                  have Hv2 : Hid (v2 = y / 256 ^ (k + 1)) := Lib.hid (by rw [← hv2, Hv.out, Nat.div_div_eq_div_mul, Nat.pow_succ])
                  clear hv2 Hv
                  go_wp2
                  go_roundw
                  case rel => exact ⟨k + 1, v2, by omega, congrArg (Value.int .u32) (by omega), by go_num, Hv2, trivial⟩
                  case measure => simp [intOf]; omega
                · have c6 : decide ((k : Int) < (r : Int)) = false := decide_eq_false (by omega)
                  have c7 : ¬ (k : Int) < (r : Int) := by omega
                  obtain rfl : k = r := by omega
                  have d1 : wr.cell? ⟨O, i, none⟩ = some (.int .u8 (dgP (dgB K) i i : Int)) := hz.cell hlt8
                  have d2 := hz.frozen i
                  have hvv : v % 256 = dgB K i := by rw [Hval.out, Hv.out]
                  obtain ⟨u, hu⟩ : ∃ u, v % 256 = u := ⟨_, rfl⟩
                  have f6 : (v : Int) % 256 = (u : Int) := by omega
                  have ul : u < 256 := by omega
                  rw [hu] at hvv
                  have Hvv := Lib.hid hvv
                  clear hu hvv
                  go_wp2
                  go_roundw
                  case rel =>
                    refine ⟨i + 1, by omega, by go_num, ?_, t4.putO hO i _⟩
                    rw [← dgP_step, ← Hvv.out]
                    exact (hz.set i _).congr (fun j _ => upd_bytesV _ _ _ _)
                  case measure => simp [intOf]; omega
            · have c2 : decide ((i : Int) < 32) = false := decide_eq_false (by omega)
              obtain rfl : i = 32 := by omega
              have hres : arrA 32 (bytesV (dgP (dgB K) 32)) = arrA 32 (bytesV (dgB (dig h s 0))) := by
                rw [Hdl.out]
                exact arrA_congr (fun j hj => by rw [bytesV, bytesV, dgP, if_pos (by omega)])
              have Hres := Lib.hid hres
              clear hres
              go_wp2_with (first | (refine load_arr rfl 57 _ rfl 32 5 57 O _ rfl hz und57 siz57 ?_) | (refine store_arr rfl 57 _ _ rfl 32 57 (w.heap.size + 1) _ _ rfl rfl t4.rb siz57 (fun _ => rfl) ?_))
              refine bodyPost_ret (result_arr rfl _ _ 32 5 57 (w.heap.size + 1) _ rfl (rowIs_setRow t4.rb _) und57 siz57) rfl ?_
              exact ⟨by rw [Hres.out], below_setRow t4.below (by omega) _⟩
end Go.Proofs.Ytnjcganknpnjcaa
namespace Go.Proofs.Ytnjcganknpnjcaa
open Go.RowKit

def Bytes (v : Nat → Nat) : Prop := ∀ i, v i < 256
/-- An array's bytes as a text. -/
def txt (n : Nat) (v : Nat → Nat) : ByteArray := ⟨((List.range n).map fun i => UInt8.ofNat (v i)).toArray⟩
theorem txt_size (n : Nat) (v : Nat → Nat) : (txt n v).size = n := by
  show ((List.range n).map fun i => UInt8.ofNat (v i)).toArray.size = n
  simp
theorem dgB_bytes (h : Nat → Nat) : Bytes (dgB h) := fun _ => Nat.mod_lt _ (by omega)
/-- 'string(a[:])' of an array of bytes. -/
theorem conv_arr {w : World} {b T n : Nat} {v : Nat → Nat} (h : w.rowIs b T n (bytesV v)) :
    (convert 46 9 (.slice (some ⟨b, 0, none⟩) n n)).run Try.prog w = .ok (.string (txt n v)) w := by
  rw [run_convert_bytes_arg w 46 5 Try.underlying46 Try.underlying5 b 0 n n ((List.range n).map fun i => (v i : Int)) (by simp) (fun i hi => by rw [Nat.zero_add, h.cell hi, bytesV]; simp [List.getD, hi]) 9 Try.underlying9]
  have : strOfNums ((List.range n).map fun i => (v i : Int)) = txt n v := by
    unfold strOfNums txt
    congr 1
    simp [Function.comp_def]
  rw [this]

def key0 : Nat → Nat := upd iv 0 (iv 0 ^^^ 16850976)
theorem key0_words : Words key0 := iv_words.upd 0 (by decide)
/-- What is digested: the key's block, and the text. -/
def keyT (kb : Nat → Nat) (s : ByteArray) : ByteArray := txt 32 kb ++ ⟨(List.replicate 32 (0 : UInt8)).toArray⟩ ++ s
theorem keyT_size (kb : Nat → Nat) (s : ByteArray) : (keyT kb s).size = 64 + s.size := by
  have : ((⟨(List.replicate 32 (0 : UInt8)).toArray⟩ : ByteArray)).size = 32 := by kernel_rfl
  rw [keyT, ByteArray.size_append, ByteArray.size_append, txt_size, this]
/-- The digest of a text under a key. -/
def keyedV (kb : Nat → Nat) (s : ByteArray) : Nat → Nat := dgB (dig key0 (keyT kb s) 0)
theorem keyedV_bytes (kb : Nat → Nat) (s : ByteArray) : Bytes (keyedV kb s) := dgB_bytes _

theorem join_single (s : ByteArray) : (⟨(Lib.join ([s].map (·.data.toList)) (⟨#[]⟩ : ByteArray).data.toList).toArray⟩ : ByteArray) = s := by
  show (⟨(Lib.join [s.data.toList] []).toArray⟩ : ByteArray) = s
  rw [Lib.join_one]

theorem setCells_row {w : World} {b T n : Nat} {f g : Nat → Value} (h : w.rowIs b T n f) (h1 : ∀ i, (g i).oneCell' = true) : w.setCells b 0 (List.map g (List.range n)) = w.setRow b (arrA n g) := by
  have e1 := store_cells_arr h h1 (g := g)
  have e2 := run_storeCells_cells (P := Try.prog) b 0 (List.map g (List.range n)) 0 w (fun j hj => by
      have hj' : j < n := by simpa using hj
      rw [show 0 + 0 + j = j by omega, h.cell hj']; rfl)
    (fun j hj => by rw [show 0 + 0 + j = j by omega]; exact h.frozen j) (fun v hv => by
      obtain ⟨i, _, rfl⟩ := List.mem_map.1 hv
      exact h1 i)
  have e3 : (arrA n g).toList = List.map g (List.range n) := rfl
  rw [e3] at e1
  rw [e1] at e2
  injection e2 with _ e
  exact e.symm
theorem there_row {w : World} {b T n : Nat} {f : Nat → Value} (h : w.rowIs b T n f) (g : Nat → Value) : w.there b 0 (List.map g (List.range n)).length := by
  intro j hj
  have hj' : j < n := by simpa using hj
  rw [Nat.zero_add]
  exact ⟨by rw [h.cell hj']; rfl, h.frozen j⟩
structure KD (B F b : Nat) (h0 kb : Nat → Nat) (s : ByteArray) (w wx : World) : Prop where
  kb : wx.rowIs B 34 32 (bytesV kb)
  rb : ∃ f, wx.rowIs (B + 1) 57 32 f
  hb : wx.rowIs F 97 8 (wordsV h0)
  hF : B + 1 < F
  below : Below B w wx
  cb : w.cell? ⟨b, 0, none⟩ = some (.string s)
  lt : b < B
theorem KD.past {B F b : Nat} {h0 kb : Nat → Nat} {s : ByteArray} {w wx wy : World} (t : KD B F b h0 kb s w wx) (hb : Below wx.heap.size wx wy) : KD B F b h0 kb s w wy :=
  ⟨t.kb.of_block (hb.block _ t.kb.lt), (match t.rb with | ⟨f, h⟩ => ⟨f, h.of_block (hb.block _ h.lt)⟩), t.hb.of_block (hb.block _ t.hb.lt), t.hF, t.below.trans (hb.mono (Nat.le_of_lt t.kb.lt)), t.cb, t.lt⟩
theorem KD.drewN {B F b : Nat} {h0 kb : Nat → Nat} {s : ByteArray} {w wx : World} (t : KD B F b h0 kb s w wx) (n : Nat) : KD B F b h0 kb s w (wx.drewN n) := ⟨t.kb, t.rb, t.hb, t.hF, below_drewN t.below n, t.cb, t.lt⟩
theorem KD.cell {B F b : Nat} {h0 kb : Nat → Nat} {s : ByteArray} {w wx : World} (t : KD B F b h0 kb s w wx) : wx.cell? ⟨b, 0, none⟩ = some (.string s) := (t.below.cell (p := ⟨b, 0, none⟩) t.lt).trans t.cb

theorem KD.held {B F b : Nat} {h0 kb : Nat → Nat} {s : ByteArray} {w wx : World} (t : KD B F b h0 kb s w wx) {tk : ByteArray} (e : Hid (txt 32 kb = tk)) : wx.cell? ⟨F, 0, none⟩ = some (.int .u32 (h0 0 : Int)) ∧ wx.cell? ⟨F, 1, none⟩ = some (.int .u32 (h0 1 : Int)) ∧ wx.cell? ⟨F, 2, none⟩ = some (.int .u32 (h0 2 : Int)) ∧ wx.cell? ⟨F, 3, none⟩ = some (.int .u32 (h0 3 : Int)) ∧ wx.cell? ⟨F, 4, none⟩ = some (.int .u32 (h0 4 : Int)) ∧ wx.cell? ⟨F, 5, none⟩ = some (.int .u32 (h0 5 : Int)) ∧ wx.cell? ⟨F, 6, none⟩ = some (.int .u32 (h0 6 : Int)) ∧ wx.cell? ⟨F, 7, none⟩ = some (.int .u32 (h0 7 : Int)) ∧ (convert 46 9 (.slice (some ⟨B, 0, none⟩) 32 32)).run Try.prog wx = .ok (.string tk) wx :=
  ⟨t.hb.cell (by omega), t.hb.cell (by omega), t.hb.cell (by omega), t.hb.cell (by omega), t.hb.cell (by omega), t.hb.cell (by omega), t.hb.cell (by omega), t.hb.cell (by omega), e.out ▸ conv_arr t.kb⟩
theorem KD.setR {B F b : Nat} {h0 kb : Nat → Nat} {s : ByteArray} {w wx : World} (t : KD B F b h0 kb s w wx) (D : Nat → Nat) : KD B F b h0 kb s w (wx.setRow (B + 1) (arrA 32 (bytesV D))) := by
  have := t.hF
  obtain ⟨f, hf⟩ := t.rb
  exact ⟨rowIs_setOther t.kb (by omega) _, ⟨_, rowIs_setRow hf _⟩, rowIs_setOther t.hb (by omega) _, t.hF, below_setRow t.below (by omega) _, t.cb, t.lt⟩

theorem KD.setC {B F b : Nat} {h0 kb : Nat → Nat} {s : ByteArray} {w wx : World} (t : KD B F b h0 kb s w wx) (D : Nat → Nat) : KD B F b h0 kb s w (wx.setCells (B + 1) 0 (List.map (bytesV D) (List.range 32))) := by
  obtain ⟨f, hf⟩ := t.rb
  rw [setCells_row hf (fun _ => rfl)]
  exact t.setR D

set_option maxRecDepth 100000 in
set_option maxHeartbeats 4000000 in
theorem keyed_any (kb : Nat → Nat) (s : ByteArray) (b : Nat) (w : World) (hb : w.cell? ⟨b, 0, none⟩ = some (.string s)) (hs : s.size ≤ 900000) :
    Calls Try.prog 44 #[.agg (arrA 32 (bytesV kb)), .slice (some ⟨b, 0, none⟩) 1 1] w fun e w' => e = .returned (.agg (arrA 32 (bytesV (keyedV kb s)))) ∧ Below w.heap.size w w' := by
  have hblt := block_lt_of_cell hb
  change b < w.heap.size at hblt
  go_enter Try.func44, Try.ntmps44
  go_upto_region 1 with fail
  have a0 : World.rowIs ((w.alloc (Obj.cells (arrA 32 (bytesV kb)) 34)).alloc (Obj.cells #[Value.int IntKind.u8 0, Value.int IntKind.u8 0, Value.int IntKind.u8 0, Value.int IntKind.u8 0, Value.int IntKind.u8 0, Value.int IntKind.u8 0, Value.int IntKind.u8 0, Value.int IntKind.u8 0, Value.int IntKind.u8 0, Value.int IntKind.u8 0, Value.int IntKind.u8 0, Value.int IntKind.u8 0, Value.int IntKind.u8 0, Value.int IntKind.u8 0, Value.int IntKind.u8 0, Value.int IntKind.u8 0, Value.int IntKind.u8 0, Value.int IntKind.u8 0, Value.int IntKind.u8 0, Value.int IntKind.u8 0, Value.int IntKind.u8 0, Value.int IntKind.u8 0, Value.int IntKind.u8 0, Value.int IntKind.u8 0, Value.int IntKind.u8 0, Value.int IntKind.u8 0, Value.int IntKind.u8 0, Value.int IntKind.u8 0, Value.int IntKind.u8 0, Value.int IntKind.u8 0, Value.int IntKind.u8 0, Value.int IntKind.u8 0] 57)) w.heap.size 34 32 (bytesV kb) := (row_of_heap (heap_new w _)).alloc _
  have a1 : World.rowIs ((w.alloc (Obj.cells (arrA 32 (bytesV kb)) 34)).alloc (Obj.cells #[Value.int IntKind.u8 0, Value.int IntKind.u8 0, Value.int IntKind.u8 0, Value.int IntKind.u8 0, Value.int IntKind.u8 0, Value.int IntKind.u8 0, Value.int IntKind.u8 0, Value.int IntKind.u8 0, Value.int IntKind.u8 0, Value.int IntKind.u8 0, Value.int IntKind.u8 0, Value.int IntKind.u8 0, Value.int IntKind.u8 0, Value.int IntKind.u8 0, Value.int IntKind.u8 0, Value.int IntKind.u8 0, Value.int IntKind.u8 0, Value.int IntKind.u8 0, Value.int IntKind.u8 0, Value.int IntKind.u8 0, Value.int IntKind.u8 0, Value.int IntKind.u8 0, Value.int IntKind.u8 0, Value.int IntKind.u8 0, Value.int IntKind.u8 0, Value.int IntKind.u8 0, Value.int IntKind.u8 0, Value.int IntKind.u8 0, Value.int IntKind.u8 0, Value.int IntKind.u8 0, Value.int IntKind.u8 0, Value.int IntKind.u8 0] 57)) (w.heap.size + 1) 57 32 (fun _ => .int .u8 0) := by
    have := heap_new (w.alloc (Obj.cells (arrA 32 (bytesV kb)) 34)) (Obj.cells #[Value.int IntKind.u8 0, Value.int IntKind.u8 0, Value.int IntKind.u8 0, Value.int IntKind.u8 0, Value.int IntKind.u8 0, Value.int IntKind.u8 0, Value.int IntKind.u8 0, Value.int IntKind.u8 0, Value.int IntKind.u8 0, Value.int IntKind.u8 0, Value.int IntKind.u8 0, Value.int IntKind.u8 0, Value.int IntKind.u8 0, Value.int IntKind.u8 0, Value.int IntKind.u8 0, Value.int IntKind.u8 0, Value.int IntKind.u8 0, Value.int IntKind.u8 0, Value.int IntKind.u8 0, Value.int IntKind.u8 0, Value.int IntKind.u8 0, Value.int IntKind.u8 0, Value.int IntKind.u8 0, Value.int IntKind.u8 0, Value.int IntKind.u8 0, Value.int IntKind.u8 0, Value.int IntKind.u8 0, Value.int IntKind.u8 0, Value.int IntKind.u8 0, Value.int IntKind.u8 0, Value.int IntKind.u8 0, Value.int IntKind.u8 0] 57)
    rw [World.size_alloc] at this
    exact row_of_heap this
  have a2 : Below w.heap.size w ((w.alloc (Obj.cells (arrA 32 (bytesV kb)) 34)).alloc (Obj.cells #[Value.int IntKind.u8 0, Value.int IntKind.u8 0, Value.int IntKind.u8 0, Value.int IntKind.u8 0, Value.int IntKind.u8 0, Value.int IntKind.u8 0, Value.int IntKind.u8 0, Value.int IntKind.u8 0, Value.int IntKind.u8 0, Value.int IntKind.u8 0, Value.int IntKind.u8 0, Value.int IntKind.u8 0, Value.int IntKind.u8 0, Value.int IntKind.u8 0, Value.int IntKind.u8 0, Value.int IntKind.u8 0, Value.int IntKind.u8 0, Value.int IntKind.u8 0, Value.int IntKind.u8 0, Value.int IntKind.u8 0, Value.int IntKind.u8 0, Value.int IntKind.u8 0, Value.int IntKind.u8 0, Value.int IntKind.u8 0, Value.int IntKind.u8 0, Value.int IntKind.u8 0, Value.int IntKind.u8 0, Value.int IntKind.u8 0, Value.int IntKind.u8 0, Value.int IntKind.u8 0, Value.int IntKind.u8 0, Value.int IntKind.u8 0] 57)) := ((Below.refl _ w).alloc (Nat.le_refl _) _).alloc (by simp) _
  obtain ⟨W0, hW0⟩ : ∃ W0, (w.alloc (Obj.cells (arrA 32 (bytesV kb)) 34)).alloc (Obj.cells #[Value.int IntKind.u8 0, Value.int IntKind.u8 0, Value.int IntKind.u8 0, Value.int IntKind.u8 0, Value.int IntKind.u8 0, Value.int IntKind.u8 0, Value.int IntKind.u8 0, Value.int IntKind.u8 0, Value.int IntKind.u8 0, Value.int IntKind.u8 0, Value.int IntKind.u8 0, Value.int IntKind.u8 0, Value.int IntKind.u8 0, Value.int IntKind.u8 0, Value.int IntKind.u8 0, Value.int IntKind.u8 0, Value.int IntKind.u8 0, Value.int IntKind.u8 0, Value.int IntKind.u8 0, Value.int IntKind.u8 0, Value.int IntKind.u8 0, Value.int IntKind.u8 0, Value.int IntKind.u8 0, Value.int IntKind.u8 0, Value.int IntKind.u8 0, Value.int IntKind.u8 0, Value.int IntKind.u8 0, Value.int IntKind.u8 0, Value.int IntKind.u8 0, Value.int IntKind.u8 0, Value.int IntKind.u8 0, Value.int IntKind.u8 0] 57) = W0 := ⟨_, rfl⟩
  rw [hW0] at a0 a1 a2 ⊢
  clear hW0
  go_wp2_with fail
  refine (eight_any W0).mono ?_
  rintro e w2 ⟨rfl, hb2⟩
  have z3 := zero8_row w2
  have z4 := rowIs_setRow z3 (wordsV iv)
  have d1 : ((w2.alloc (Obj.cells #[Value.int IntKind.u32 0, Value.int IntKind.u32 0, Value.int IntKind.u32 0, Value.int IntKind.u32 0, Value.int IntKind.u32 0, Value.int IntKind.u32 0, Value.int IntKind.u32 0, Value.int IntKind.u32 0] 97)).setRow w2.heap.size (arrA 8 (wordsV iv))).cell? ⟨w2.heap.size, 0, none⟩ = some (.int .u32 1779033703) := z4.cell (by omega)
  have d2 := z4.frozen 0
  have dx : bits .xor .u32 1779033703 16850976 = 1795737159 := by kernel_rfl
  go_upto_region 3 with (refine store_arr rfl 97 _ _ rfl 8 97 w2.heap.size _ (wordsV iv) rfl rfl z3 siz97 (fun _ => rfl) ?_)
  have z5 : World.rowIs (((w2.alloc (Obj.cells #[Value.int IntKind.u32 0, Value.int IntKind.u32 0, Value.int IntKind.u32 0, Value.int IntKind.u32 0, Value.int IntKind.u32 0, Value.int IntKind.u32 0, Value.int IntKind.u32 0, Value.int IntKind.u32 0] 97)).setRow w2.heap.size (arrA 8 (wordsV iv))).setCell ⟨w2.heap.size, 0, none⟩ (.int .u32 1795737159)) w2.heap.size 97 8 (wordsV key0) := (z4.set 0 _).congr (fun k _ => upd_wordsV iv 0 1795737159 k)
  have hF0 : w.heap.size + 1 < w2.heap.size := Nat.lt_of_lt_of_le a1.lt hb2.size
  have b0 : World.rowIs (((w2.alloc (Obj.cells #[Value.int IntKind.u32 0, Value.int IntKind.u32 0, Value.int IntKind.u32 0, Value.int IntKind.u32 0, Value.int IntKind.u32 0, Value.int IntKind.u32 0, Value.int IntKind.u32 0, Value.int IntKind.u32 0] 97)).setRow w2.heap.size (arrA 8 (wordsV iv))).setCell ⟨w2.heap.size, 0, none⟩ (.int .u32 1795737159)) w.heap.size 34 32 (bytesV kb) := (rowIs_setOther ((a0.of_block (hb2.block _ a0.lt)).alloc _) (by omega) _).setOther (by dsimp only; omega) _
  have b1 : World.rowIs (((w2.alloc (Obj.cells #[Value.int IntKind.u32 0, Value.int IntKind.u32 0, Value.int IntKind.u32 0, Value.int IntKind.u32 0, Value.int IntKind.u32 0, Value.int IntKind.u32 0, Value.int IntKind.u32 0, Value.int IntKind.u32 0] 97)).setRow w2.heap.size (arrA 8 (wordsV iv))).setCell ⟨w2.heap.size, 0, none⟩ (.int .u32 1795737159)) (w.heap.size + 1) 57 32 (fun _ => .int .u8 0) := (rowIs_setOther ((a1.of_block (hb2.block _ a1.lt)).alloc _) (by omega) _).setOther (by dsimp only; omega) _
  have b2 : Below w.heap.size w (((w2.alloc (Obj.cells #[Value.int IntKind.u32 0, Value.int IntKind.u32 0, Value.int IntKind.u32 0, Value.int IntKind.u32 0, Value.int IntKind.u32 0, Value.int IntKind.u32 0, Value.int IntKind.u32 0, Value.int IntKind.u32 0] 97)).setRow w2.heap.size (arrA 8 (wordsV iv))).setCell ⟨w2.heap.size, 0, none⟩ (.int .u32 1795737159)) := (below_setRow ((a2.trans (hb2.mono a2.size)).alloc (by omega) _) (by omega) _).setCell (by dsimp only; omega) _
  obtain ⟨W3, hW3⟩ : ∃ W3, ((w2.alloc (Obj.cells #[Value.int IntKind.u32 0, Value.int IntKind.u32 0, Value.int IntKind.u32 0, Value.int IntKind.u32 0, Value.int IntKind.u32 0, Value.int IntKind.u32 0, Value.int IntKind.u32 0, Value.int IntKind.u32 0] 97)).setRow w2.heap.size (arrA 8 (wordsV iv))).setCell ⟨w2.heap.size, 0, none⟩ (.int .u32 1795737159) = W3 := ⟨_, rfl⟩
  rw [hW3] at z5 b0 b1 b2 ⊢
  obtain ⟨F, hF⟩ : ∃ F, w2.heap.size = F := ⟨_, rfl⟩
  rw [hF] at z5 hF0 ⊢
  clear d1 d2 z4 hW3 hF hb2 z3 a0 a1 a2
  have t0 : KD w.heap.size F b key0 kb s w W3 := ⟨b0, ⟨_, b1⟩, z5, hF0, b2, hb, hblt⟩
  clear b0 b1 z5 b2
  clear dx
  have hrep := fun W => Try.strings_Repeat ⟨#[0]⟩ 32 W (by omega) (by show 1 * 32 ≤ _; omega)
  obtain ⟨zz, hzz⟩ : ∃ zz : ByteArray, ⟨(List.replicate 32 (0 : UInt8)).toArray⟩ = zz := ⟨_, rfl⟩
  have hrz : (⟨(Lib.repeatL (ByteArray.mk #[0]).data.toList 32).toArray⟩ : ByteArray) = zz := by rw [← hzz]; exact congrArg (fun l => ByteArray.mk (List.toArray l)) (repeatL_zero 32)
  rw [hrz] at hrep
  have hks : keyT kb s = txt 32 kb ++ zz ++ s := by rw [keyT, hzz]
  have hdg := fun W => digest_any key0 (keyT kb s) W key0_words (by rw [keyT_size]; omega)
  obtain ⟨D, hD⟩ : ∃ D, dgB (dig key0 (keyT kb s) 0) = D := ⟨_, rfl⟩
  rw [hD, hks] at hdg
  have hDk : keyedV kb s = D := hD
  have hDs := arrA_size 32 (bytesV D)
  have HDk := Lib.hid hDk
  obtain ⟨tk, htk⟩ : ∃ tk, txt 32 kb = tk := ⟨_, rfl⟩
  have htl : tk.size ≤ 32 := by rw [← htk, txt_size]; omega
  rw [htk] at hdg
  have Htk := Lib.hid htk
  obtain ⟨h0, hh0⟩ : ∃ h0, key0 = h0 := ⟨_, rfl⟩
  rw [hh0] at hdg t0
  have hfold : #[Value.int IntKind.u32 (h0 0 : Int), Value.int IntKind.u32 (h0 1 : Int), Value.int IntKind.u32 (h0 2 : Int), Value.int IntKind.u32 (h0 3 : Int), Value.int IntKind.u32 (h0 4 : Int), Value.int IntKind.u32 (h0 5 : Int), Value.int IntKind.u32 (h0 6 : Int), Value.int IntKind.u32 (h0 7 : Int)] = arrA 8 (wordsV h0) := rfl
  have hzl : zz.size ≤ 32 := by rw [← hzz]; exact Nat.le_of_eq (by kernel_rfl)
  have hj := fun (W : World) (hc : W.cell? ⟨b, 0, none⟩ = some (.string s)) => Try.strings_Join b 0 1 [s] ⟨#[]⟩ W (fun j x hx => by
    cases j with
    | zero => simp at hx; rw [← hx]; exact hc
    | succ j => simp at hx) (block_lt_of_cell hc) (by simp) (by simp) (by rw [show (ByteArray.mk #[]).data.toList = [] from rfl]; show (Lib.join [s.data.toList] []).length ≤ _; rw [Lib.join_one]; simp; omega)
  rw [join_single] at hj
  clear hzz hrz hks hD hDk htk hh0
  change ∀ W, Calls Try.prog 79 #[Value.string (ByteArray.mk #[0]), Value.int .i64 32] W fun e w' => e = .returned (.string zz) ∧ Below W.heap.size W w' at hrep
  change ∀ W : World, W.cell? ⟨b, 0, none⟩ = some (.string s) → Calls Try.prog 80 #[.slice (some ⟨b, 0, none⟩) 1 1, .string ⟨#[]⟩] W fun e w' => e = .returned (.string s) ∧ Below W.heap.size W w' at hj
  have t1 : KD w.heap.size F b h0 kb s w W3.drew := t0.drewN 1
  have hone : ∀ v, v ∈ List.map (bytesV D) (List.range 32) → v.oneCell' = true := fun v hv => by
    obtain ⟨i, _, rfl⟩ := List.mem_map.1 hv
    rfl
  have hinf : (Try.prog.info? 57).map (·.size) = some (List.map (bytesV D) (List.range 32)).length := by rw [siz57]; simp
  have hcat1 : ¬ 9223372036854775807 < tk.size + zz.size := by omega
  have hcat2 : ¬ 9223372036854775807 < tk.size + zz.size + s.size := by omega
  go_region_held3 (fun w' => w'.cell? ⟨F, 0, none⟩ = some (.int .u32 (h0 0 : Int)) ∧ w'.cell? ⟨F, 1, none⟩ = some (.int .u32 (h0 1 : Int)) ∧ w'.cell? ⟨F, 2, none⟩ = some (.int .u32 (h0 2 : Int)) ∧ w'.cell? ⟨F, 3, none⟩ = some (.int .u32 (h0 3 : Int)) ∧ w'.cell? ⟨F, 4, none⟩ = some (.int .u32 (h0 4 : Int)) ∧ w'.cell? ⟨F, 5, none⟩ = some (.int .u32 (h0 5 : Int)) ∧ w'.cell? ⟨F, 6, none⟩ = some (.int .u32 (h0 6 : Int)) ∧ w'.cell? ⟨F, 7, none⟩ = some (.int .u32 (h0 7 : Int)) ∧ (convert 46 9 (.slice (some ⟨w.heap.size, 0, none⟩) 32 32)).run Try.prog w' = .ok (.string tk) w') (first | with_reducible exact t1.held Htk | with_reducible exact ty.held Htk | with_reducible exact tz.held Htk | with_reducible exact tv.held Htk | with_reducible exact (tv.setC D).held Htk) (first
    | (go_at_call 79; refine (hrep _).mono ?_; rintro e wy ⟨rfl, hby⟩; have ty := t1.past hby)
    | (go_at_call 80; refine (hj _ ty.cell).mono ?_; rintro e wz ⟨rfl, hbz⟩; have tz := ty.past hbz)
    | (go_at_call 78; refine (hdg _).mono ?_; rintro e wv ⟨rfl, hbv⟩; have tv := tz.past hbv; obtain ⟨fv, hfv⟩ := tv.rb; have hth := there_row hfv (bytesV D)))
  all_goals
    rw [setCells_row hfv (fun _ => rfl)]
    go_wp2
    refine bodyPost_ret (result_arr rfl _ _ 32 5 57 (w.heap.size + 1) _ rfl (rowIs_setRow hfv _) und57 siz57) rfl ?_
    exact ⟨by rw [HDk.out], below_setRow tv.below (by omega) _⟩
end Go.Proofs.Ytnjcganknpnjcaa
namespace Go.Proofs.Ytnjcganknpnjcaa
open Go.RowKit

set_option maxRecDepth 100000 in
set_option maxHeartbeats 1000000 in
theorem joined_any (s : ByteArray) (b : Nat) (w : World) (hb : w.cell? ⟨b, 0, none⟩ = some (.string s)) (hs : s.size ≤ 900000) :
    Calls Try.prog 105 #[.slice (some ⟨b, 0, none⟩) 1 1] w fun e w' => e = .returned (.string s) ∧ w' = w := by
  go_enter Try.func105, Try.ntmps105
  go_wp2_with fail
  go_loopw [3, 4] (fun a c wx => ((a = .string ⟨#[]⟩ ∧ c = .int .i64 0) ∨ (a = .string s ∧ c = .int .i64 1)) ∧ wx = w) (fun _ c _ => 1 - (intOf c).toNat)
  case atStart => exact ⟨.inl ⟨rfl, rfl⟩, rfl⟩
  case round =>
    obtain ⟨h, rfl⟩ := hrel
    rcases h with ⟨rfl, rfl⟩ | ⟨rfl, rfl⟩
    · go_wp2
      go_roundw
      case rel => exact ⟨.inr ⟨congrArg Value.string (ByteArray.ext (Array.ext' (by simp))), rfl⟩, trivial⟩
      case measure => simp [intOf]
    · go_wp2
      go_ret
      exact ⟨rfl, rfl⟩

/-- The key's block. -/
def kz (kb : Nat → Nat) (n : Nat) : Nat → Nat := fun i => if i < n then kb i else 0
theorem kz_step (kb : Nat → Nat) (i : Nat) : upd (kz kb i) i (kb i) = kz kb (i + 1) := by
  funext j
  unfold upd kz
  by_cases e : j = i
  · rw [if_pos e, if_pos (by omega), e]
  · rw [if_neg e]
    by_cases h2 : j < i
    · rw [if_pos h2, if_pos (by omega)]
    · rw [if_neg h2, if_neg (by omega)]
theorem txt_kz (kb : Nat → Nat) (s : ByteArray) : txt 64 (kz kb 32) ++ s = keyT kb s := by
  have e : txt 64 (kz kb 32) = txt 32 kb ++ ⟨(List.replicate 32 (0 : UInt8)).toArray⟩ := by
    refine ByteArray.ext (Array.ext' ?_)
    show ((List.range 64).map fun i => UInt8.ofNat (kz kb 32 i)) = _
    rw [ByteArray.data_append, Array.toList_append]
    show _ = ((List.range 32).map fun i => UInt8.ofNat (kb i)) ++ List.replicate 32 0
    refine List.ext_getElem? fun j => ?_
    by_cases h : j < 32
    · rw [List.getElem?_append_left (by simpa using h)]
      simp [show j < 64 by omega, h, kz]
    · rw [List.getElem?_append_right (by simpa using h)]
      by_cases h2 : j < 64
      · have e : (List.replicate 32 (0 : UInt8))[j - 32]? = some 0 := by rw [List.getElem?_replicate, if_pos (by omega)]
        rw [show j - ((List.range 32).map fun i => UInt8.ofNat (kb i)).length = j - 32 by simp, e]
        simp [h2, kz, h]
      · simp [h2, show ¬ j - 32 < 32 by omega]
  rw [e, keyT]

structure KE (B F O b : Nat) (h0 v : Nat → Nat) (s : ByteArray) (w wx : World) : Prop where
  ob : wx.rowIs O 119 64 (bytesV v)
  rb : ∃ f, wx.rowIs (B + 1) 57 32 f
  hb : wx.rowIs F 97 8 (wordsV h0)
  hF : B + 1 < F
  hO : F < O
  below : Below B w wx
  cb : w.cell? ⟨b, 0, none⟩ = some (.string s)
  lt : b < B
theorem KE.past {B F O b : Nat} {h0 v : Nat → Nat} {s : ByteArray} {w wx wy : World} (t : KE B F O b h0 v s w wx) (hb : Below wx.heap.size wx wy) : KE B F O b h0 v s w wy :=
  ⟨t.ob.of_block (hb.block _ t.ob.lt), (match t.rb with | ⟨f, h⟩ => ⟨f, h.of_block (hb.block _ h.lt)⟩), t.hb.of_block (hb.block _ t.hb.lt), t.hF, t.hO, t.below.trans (hb.mono (by have := t.hb.lt; have := t.hF; omega)), t.cb, t.lt⟩
theorem KE.drewN {B F O b : Nat} {h0 v : Nat → Nat} {s : ByteArray} {w wx : World} (t : KE B F O b h0 v s w wx) (n : Nat) : KE B F O b h0 v s w (wx.drewN n) := ⟨t.ob, t.rb, t.hb, t.hF, t.hO, below_drewN t.below n, t.cb, t.lt⟩
theorem KE.cell {B F O b : Nat} {h0 v : Nat → Nat} {s : ByteArray} {w wx : World} (t : KE B F O b h0 v s w wx) : wx.cell? ⟨b, 0, none⟩ = some (.string s) := (t.below.cell (p := ⟨b, 0, none⟩) t.lt).trans t.cb
theorem KE.held {B F O b : Nat} {h0 v : Nat → Nat} {s : ByteArray} {w wx : World} (t : KE B F O b h0 v s w wx) {tk : ByteArray} (e : Hid (txt 64 v = tk)) : wx.cell? ⟨F, 0, none⟩ = some (.int .u32 (h0 0 : Int)) ∧ wx.cell? ⟨F, 1, none⟩ = some (.int .u32 (h0 1 : Int)) ∧ wx.cell? ⟨F, 2, none⟩ = some (.int .u32 (h0 2 : Int)) ∧ wx.cell? ⟨F, 3, none⟩ = some (.int .u32 (h0 3 : Int)) ∧ wx.cell? ⟨F, 4, none⟩ = some (.int .u32 (h0 4 : Int)) ∧ wx.cell? ⟨F, 5, none⟩ = some (.int .u32 (h0 5 : Int)) ∧ wx.cell? ⟨F, 6, none⟩ = some (.int .u32 (h0 6 : Int)) ∧ wx.cell? ⟨F, 7, none⟩ = some (.int .u32 (h0 7 : Int)) ∧ (convert 46 9 (.slice (some ⟨O, 0, none⟩) 64 64)).run Try.prog wx = .ok (.string tk) wx :=
  ⟨t.hb.cell (by omega), t.hb.cell (by omega), t.hb.cell (by omega), t.hb.cell (by omega), t.hb.cell (by omega), t.hb.cell (by omega), t.hb.cell (by omega), t.hb.cell (by omega), e.out ▸ conv_arr t.ob⟩
theorem KE.setC {B F O b : Nat} {h0 v : Nat → Nat} {s : ByteArray} {w wx : World} (t : KE B F O b h0 v s w wx) (D : Nat → Nat) : KE B F O b h0 v s w (wx.setCells (B + 1) 0 (List.map (bytesV D) (List.range 32))) := by
  have := t.hF
  have := t.hO
  obtain ⟨f, hf⟩ := t.rb
  rw [setCells_row hf (fun _ => rfl)]
  exact ⟨rowIs_setOther t.ob (by omega) _, ⟨_, rowIs_setRow hf _⟩, rowIs_setOther t.hb (by omega) _, t.hF, t.hO, below_setRow t.below (by omega) _, t.cb, t.lt⟩

set_option maxRecDepth 100000 in
set_option maxHeartbeats 4000000 in
theorem rkeyed_any (kb : Nat → Nat) (s : ByteArray) (b : Nat) (w : World) (hb : w.cell? ⟨b, 0, none⟩ = some (.string s)) (hs : s.size ≤ 900000) :
    Calls Try.prog 84 #[.agg (arrA 32 (bytesV kb)), .slice (some ⟨b, 0, none⟩) 1 1] w fun e w' => e = .returned (.agg (arrA 32 (bytesV (keyedV kb s)))) ∧ Below w.heap.size w w' := by
  have hblt := block_lt_of_cell hb
  change b < w.heap.size at hblt
  go_enter Try.func84, Try.ntmps84
  go_upto_region 1 with fail
  have a0 : World.rowIs ((w.alloc (Obj.cells (arrA 32 (bytesV kb)) 34)).alloc (Obj.cells #[Value.int IntKind.u8 0, Value.int IntKind.u8 0, Value.int IntKind.u8 0, Value.int IntKind.u8 0, Value.int IntKind.u8 0, Value.int IntKind.u8 0, Value.int IntKind.u8 0, Value.int IntKind.u8 0, Value.int IntKind.u8 0, Value.int IntKind.u8 0, Value.int IntKind.u8 0, Value.int IntKind.u8 0, Value.int IntKind.u8 0, Value.int IntKind.u8 0, Value.int IntKind.u8 0, Value.int IntKind.u8 0, Value.int IntKind.u8 0, Value.int IntKind.u8 0, Value.int IntKind.u8 0, Value.int IntKind.u8 0, Value.int IntKind.u8 0, Value.int IntKind.u8 0, Value.int IntKind.u8 0, Value.int IntKind.u8 0, Value.int IntKind.u8 0, Value.int IntKind.u8 0, Value.int IntKind.u8 0, Value.int IntKind.u8 0, Value.int IntKind.u8 0, Value.int IntKind.u8 0, Value.int IntKind.u8 0, Value.int IntKind.u8 0] 57)) w.heap.size 34 32 (bytesV kb) := (row_of_heap (heap_new w _)).alloc _
  have a1 : World.rowIs ((w.alloc (Obj.cells (arrA 32 (bytesV kb)) 34)).alloc (Obj.cells #[Value.int IntKind.u8 0, Value.int IntKind.u8 0, Value.int IntKind.u8 0, Value.int IntKind.u8 0, Value.int IntKind.u8 0, Value.int IntKind.u8 0, Value.int IntKind.u8 0, Value.int IntKind.u8 0, Value.int IntKind.u8 0, Value.int IntKind.u8 0, Value.int IntKind.u8 0, Value.int IntKind.u8 0, Value.int IntKind.u8 0, Value.int IntKind.u8 0, Value.int IntKind.u8 0, Value.int IntKind.u8 0, Value.int IntKind.u8 0, Value.int IntKind.u8 0, Value.int IntKind.u8 0, Value.int IntKind.u8 0, Value.int IntKind.u8 0, Value.int IntKind.u8 0, Value.int IntKind.u8 0, Value.int IntKind.u8 0, Value.int IntKind.u8 0, Value.int IntKind.u8 0, Value.int IntKind.u8 0, Value.int IntKind.u8 0, Value.int IntKind.u8 0, Value.int IntKind.u8 0, Value.int IntKind.u8 0, Value.int IntKind.u8 0] 57)) (w.heap.size + 1) 57 32 (fun _ => .int .u8 0) := by
    have := heap_new (w.alloc (Obj.cells (arrA 32 (bytesV kb)) 34)) (Obj.cells #[Value.int IntKind.u8 0, Value.int IntKind.u8 0, Value.int IntKind.u8 0, Value.int IntKind.u8 0, Value.int IntKind.u8 0, Value.int IntKind.u8 0, Value.int IntKind.u8 0, Value.int IntKind.u8 0, Value.int IntKind.u8 0, Value.int IntKind.u8 0, Value.int IntKind.u8 0, Value.int IntKind.u8 0, Value.int IntKind.u8 0, Value.int IntKind.u8 0, Value.int IntKind.u8 0, Value.int IntKind.u8 0, Value.int IntKind.u8 0, Value.int IntKind.u8 0, Value.int IntKind.u8 0, Value.int IntKind.u8 0, Value.int IntKind.u8 0, Value.int IntKind.u8 0, Value.int IntKind.u8 0, Value.int IntKind.u8 0, Value.int IntKind.u8 0, Value.int IntKind.u8 0, Value.int IntKind.u8 0, Value.int IntKind.u8 0, Value.int IntKind.u8 0, Value.int IntKind.u8 0, Value.int IntKind.u8 0, Value.int IntKind.u8 0] 57)
    rw [World.size_alloc] at this
    exact row_of_heap this
  have a2 : Below w.heap.size w ((w.alloc (Obj.cells (arrA 32 (bytesV kb)) 34)).alloc (Obj.cells #[Value.int IntKind.u8 0, Value.int IntKind.u8 0, Value.int IntKind.u8 0, Value.int IntKind.u8 0, Value.int IntKind.u8 0, Value.int IntKind.u8 0, Value.int IntKind.u8 0, Value.int IntKind.u8 0, Value.int IntKind.u8 0, Value.int IntKind.u8 0, Value.int IntKind.u8 0, Value.int IntKind.u8 0, Value.int IntKind.u8 0, Value.int IntKind.u8 0, Value.int IntKind.u8 0, Value.int IntKind.u8 0, Value.int IntKind.u8 0, Value.int IntKind.u8 0, Value.int IntKind.u8 0, Value.int IntKind.u8 0, Value.int IntKind.u8 0, Value.int IntKind.u8 0, Value.int IntKind.u8 0, Value.int IntKind.u8 0, Value.int IntKind.u8 0, Value.int IntKind.u8 0, Value.int IntKind.u8 0, Value.int IntKind.u8 0, Value.int IntKind.u8 0, Value.int IntKind.u8 0, Value.int IntKind.u8 0, Value.int IntKind.u8 0] 57)) := ((Below.refl _ w).alloc (Nat.le_refl _) _).alloc (by simp) _
  obtain ⟨W0, hW0⟩ : ∃ W0, (w.alloc (Obj.cells (arrA 32 (bytesV kb)) 34)).alloc (Obj.cells #[Value.int IntKind.u8 0, Value.int IntKind.u8 0, Value.int IntKind.u8 0, Value.int IntKind.u8 0, Value.int IntKind.u8 0, Value.int IntKind.u8 0, Value.int IntKind.u8 0, Value.int IntKind.u8 0, Value.int IntKind.u8 0, Value.int IntKind.u8 0, Value.int IntKind.u8 0, Value.int IntKind.u8 0, Value.int IntKind.u8 0, Value.int IntKind.u8 0, Value.int IntKind.u8 0, Value.int IntKind.u8 0, Value.int IntKind.u8 0, Value.int IntKind.u8 0, Value.int IntKind.u8 0, Value.int IntKind.u8 0, Value.int IntKind.u8 0, Value.int IntKind.u8 0, Value.int IntKind.u8 0, Value.int IntKind.u8 0, Value.int IntKind.u8 0, Value.int IntKind.u8 0, Value.int IntKind.u8 0, Value.int IntKind.u8 0, Value.int IntKind.u8 0, Value.int IntKind.u8 0, Value.int IntKind.u8 0, Value.int IntKind.u8 0] 57) = W0 := ⟨_, rfl⟩
  rw [hW0] at a0 a1 a2 ⊢
  clear hW0
  go_wp2_with fail
  refine (reight_any W0).mono ?_
  rintro e w2 ⟨rfl, hb2⟩
  have z3 := zero8_row w2
  have z4 := rowIs_setRow z3 (wordsV iv)
  have d1 : ((w2.alloc (Obj.cells #[Value.int IntKind.u32 0, Value.int IntKind.u32 0, Value.int IntKind.u32 0, Value.int IntKind.u32 0, Value.int IntKind.u32 0, Value.int IntKind.u32 0, Value.int IntKind.u32 0, Value.int IntKind.u32 0] 97)).setRow w2.heap.size (arrA 8 (wordsV iv))).cell? ⟨w2.heap.size, 0, none⟩ = some (.int .u32 1779033703) := z4.cell (by omega)
  have d2 := z4.frozen 0
  have dx : bits .xor .u32 1779033703 16842784 = 1795745351 := by kernel_rfl
  have dy : bits .xor .u32 1795745351 8192 = 1795737159 := by kernel_rfl
  go_upto_region 3 with (refine store_arr rfl 97 _ _ rfl 8 97 w2.heap.size _ (wordsV iv) rfl rfl z3 siz97 (fun _ => rfl) ?_)
  have z5 : World.rowIs (((w2.alloc (Obj.cells #[Value.int IntKind.u32 0, Value.int IntKind.u32 0, Value.int IntKind.u32 0, Value.int IntKind.u32 0, Value.int IntKind.u32 0, Value.int IntKind.u32 0, Value.int IntKind.u32 0, Value.int IntKind.u32 0] 97)).setRow w2.heap.size (arrA 8 (wordsV iv))).setCell ⟨w2.heap.size, 0, none⟩ (.int .u32 1795737159)) w2.heap.size 97 8 (wordsV key0) := (z4.set 0 _).congr (fun k _ => upd_wordsV iv 0 1795737159 k)
  have hF0 : w.heap.size + 1 < w2.heap.size := Nat.lt_of_lt_of_le a1.lt hb2.size
  have b0 : World.rowIs (((w2.alloc (Obj.cells #[Value.int IntKind.u32 0, Value.int IntKind.u32 0, Value.int IntKind.u32 0, Value.int IntKind.u32 0, Value.int IntKind.u32 0, Value.int IntKind.u32 0, Value.int IntKind.u32 0, Value.int IntKind.u32 0] 97)).setRow w2.heap.size (arrA 8 (wordsV iv))).setCell ⟨w2.heap.size, 0, none⟩ (.int .u32 1795737159)) w.heap.size 34 32 (bytesV kb) := (rowIs_setOther ((a0.of_block (hb2.block _ a0.lt)).alloc _) (by omega) _).setOther (by dsimp only; omega) _
  have b1 : World.rowIs (((w2.alloc (Obj.cells #[Value.int IntKind.u32 0, Value.int IntKind.u32 0, Value.int IntKind.u32 0, Value.int IntKind.u32 0, Value.int IntKind.u32 0, Value.int IntKind.u32 0, Value.int IntKind.u32 0, Value.int IntKind.u32 0] 97)).setRow w2.heap.size (arrA 8 (wordsV iv))).setCell ⟨w2.heap.size, 0, none⟩ (.int .u32 1795737159)) (w.heap.size + 1) 57 32 (fun _ => .int .u8 0) := (rowIs_setOther ((a1.of_block (hb2.block _ a1.lt)).alloc _) (by omega) _).setOther (by dsimp only; omega) _
  have b2 : Below w.heap.size w (((w2.alloc (Obj.cells #[Value.int IntKind.u32 0, Value.int IntKind.u32 0, Value.int IntKind.u32 0, Value.int IntKind.u32 0, Value.int IntKind.u32 0, Value.int IntKind.u32 0, Value.int IntKind.u32 0, Value.int IntKind.u32 0] 97)).setRow w2.heap.size (arrA 8 (wordsV iv))).setCell ⟨w2.heap.size, 0, none⟩ (.int .u32 1795737159)) := (below_setRow ((a2.trans (hb2.mono a2.size)).alloc (by omega) _) (by omega) _).setCell (by dsimp only; omega) _
  obtain ⟨W3, hW3⟩ : ∃ W3, ((w2.alloc (Obj.cells #[Value.int IntKind.u32 0, Value.int IntKind.u32 0, Value.int IntKind.u32 0, Value.int IntKind.u32 0, Value.int IntKind.u32 0, Value.int IntKind.u32 0, Value.int IntKind.u32 0, Value.int IntKind.u32 0] 97)).setRow w2.heap.size (arrA 8 (wordsV iv))).setCell ⟨w2.heap.size, 0, none⟩ (.int .u32 1795737159) = W3 := ⟨_, rfl⟩
  rw [hW3] at z5 b0 b1 b2 ⊢
  obtain ⟨F, hF⟩ : ∃ F, w2.heap.size = F := ⟨_, rfl⟩
  rw [hF] at z5 hF0 ⊢
  clear d1 d2 z4 hW3 hF hb2 z3 a0 a1 a2 dx dy
  have z6 : World.rowIs (W3.alloc (Obj.cells #[Value.int IntKind.u8 0, Value.int IntKind.u8 0, Value.int IntKind.u8 0, Value.int IntKind.u8 0, Value.int IntKind.u8 0, Value.int IntKind.u8 0, Value.int IntKind.u8 0, Value.int IntKind.u8 0, Value.int IntKind.u8 0, Value.int IntKind.u8 0, Value.int IntKind.u8 0, Value.int IntKind.u8 0, Value.int IntKind.u8 0, Value.int IntKind.u8 0, Value.int IntKind.u8 0, Value.int IntKind.u8 0, Value.int IntKind.u8 0, Value.int IntKind.u8 0, Value.int IntKind.u8 0, Value.int IntKind.u8 0, Value.int IntKind.u8 0, Value.int IntKind.u8 0, Value.int IntKind.u8 0, Value.int IntKind.u8 0, Value.int IntKind.u8 0, Value.int IntKind.u8 0, Value.int IntKind.u8 0, Value.int IntKind.u8 0, Value.int IntKind.u8 0, Value.int IntKind.u8 0, Value.int IntKind.u8 0, Value.int IntKind.u8 0, Value.int IntKind.u8 0, Value.int IntKind.u8 0, Value.int IntKind.u8 0, Value.int IntKind.u8 0, Value.int IntKind.u8 0, Value.int IntKind.u8 0, Value.int IntKind.u8 0, Value.int IntKind.u8 0, Value.int IntKind.u8 0, Value.int IntKind.u8 0, Value.int IntKind.u8 0, Value.int IntKind.u8 0, Value.int IntKind.u8 0, Value.int IntKind.u8 0, Value.int IntKind.u8 0, Value.int IntKind.u8 0, Value.int IntKind.u8 0, Value.int IntKind.u8 0, Value.int IntKind.u8 0, Value.int IntKind.u8 0, Value.int IntKind.u8 0, Value.int IntKind.u8 0, Value.int IntKind.u8 0, Value.int IntKind.u8 0, Value.int IntKind.u8 0, Value.int IntKind.u8 0, Value.int IntKind.u8 0, Value.int IntKind.u8 0, Value.int IntKind.u8 0, Value.int IntKind.u8 0, Value.int IntKind.u8 0, Value.int IntKind.u8 0] 119)) W3.heap.size 119 64 (bytesV (kz kb 0)) := row_of_heap (heap_new W3 _)
  have hFO : F < W3.heap.size := z5.lt
  have t0 : KE w.heap.size F W3.heap.size b key0 (kz kb 0) s w (W3.alloc (Obj.cells #[Value.int IntKind.u8 0, Value.int IntKind.u8 0, Value.int IntKind.u8 0, Value.int IntKind.u8 0, Value.int IntKind.u8 0, Value.int IntKind.u8 0, Value.int IntKind.u8 0, Value.int IntKind.u8 0, Value.int IntKind.u8 0, Value.int IntKind.u8 0, Value.int IntKind.u8 0, Value.int IntKind.u8 0, Value.int IntKind.u8 0, Value.int IntKind.u8 0, Value.int IntKind.u8 0, Value.int IntKind.u8 0, Value.int IntKind.u8 0, Value.int IntKind.u8 0, Value.int IntKind.u8 0, Value.int IntKind.u8 0, Value.int IntKind.u8 0, Value.int IntKind.u8 0, Value.int IntKind.u8 0, Value.int IntKind.u8 0, Value.int IntKind.u8 0, Value.int IntKind.u8 0, Value.int IntKind.u8 0, Value.int IntKind.u8 0, Value.int IntKind.u8 0, Value.int IntKind.u8 0, Value.int IntKind.u8 0, Value.int IntKind.u8 0, Value.int IntKind.u8 0, Value.int IntKind.u8 0, Value.int IntKind.u8 0, Value.int IntKind.u8 0, Value.int IntKind.u8 0, Value.int IntKind.u8 0, Value.int IntKind.u8 0, Value.int IntKind.u8 0, Value.int IntKind.u8 0, Value.int IntKind.u8 0, Value.int IntKind.u8 0, Value.int IntKind.u8 0, Value.int IntKind.u8 0, Value.int IntKind.u8 0, Value.int IntKind.u8 0, Value.int IntKind.u8 0, Value.int IntKind.u8 0, Value.int IntKind.u8 0, Value.int IntKind.u8 0, Value.int IntKind.u8 0, Value.int IntKind.u8 0, Value.int IntKind.u8 0, Value.int IntKind.u8 0, Value.int IntKind.u8 0, Value.int IntKind.u8 0, Value.int IntKind.u8 0, Value.int IntKind.u8 0, Value.int IntKind.u8 0, Value.int IntKind.u8 0, Value.int IntKind.u8 0, Value.int IntKind.u8 0, Value.int IntKind.u8 0] 119)) := ⟨z6, ⟨_, b1.alloc _⟩, z5.alloc _, hF0, hFO, b2.alloc (by omega) _, hb, hblt⟩
  have b3 : World.rowIs (W3.alloc (Obj.cells #[Value.int IntKind.u8 0, Value.int IntKind.u8 0, Value.int IntKind.u8 0, Value.int IntKind.u8 0, Value.int IntKind.u8 0, Value.int IntKind.u8 0, Value.int IntKind.u8 0, Value.int IntKind.u8 0, Value.int IntKind.u8 0, Value.int IntKind.u8 0, Value.int IntKind.u8 0, Value.int IntKind.u8 0, Value.int IntKind.u8 0, Value.int IntKind.u8 0, Value.int IntKind.u8 0, Value.int IntKind.u8 0, Value.int IntKind.u8 0, Value.int IntKind.u8 0, Value.int IntKind.u8 0, Value.int IntKind.u8 0, Value.int IntKind.u8 0, Value.int IntKind.u8 0, Value.int IntKind.u8 0, Value.int IntKind.u8 0, Value.int IntKind.u8 0, Value.int IntKind.u8 0, Value.int IntKind.u8 0, Value.int IntKind.u8 0, Value.int IntKind.u8 0, Value.int IntKind.u8 0, Value.int IntKind.u8 0, Value.int IntKind.u8 0, Value.int IntKind.u8 0, Value.int IntKind.u8 0, Value.int IntKind.u8 0, Value.int IntKind.u8 0, Value.int IntKind.u8 0, Value.int IntKind.u8 0, Value.int IntKind.u8 0, Value.int IntKind.u8 0, Value.int IntKind.u8 0, Value.int IntKind.u8 0, Value.int IntKind.u8 0, Value.int IntKind.u8 0, Value.int IntKind.u8 0, Value.int IntKind.u8 0, Value.int IntKind.u8 0, Value.int IntKind.u8 0, Value.int IntKind.u8 0, Value.int IntKind.u8 0, Value.int IntKind.u8 0, Value.int IntKind.u8 0, Value.int IntKind.u8 0, Value.int IntKind.u8 0, Value.int IntKind.u8 0, Value.int IntKind.u8 0, Value.int IntKind.u8 0, Value.int IntKind.u8 0, Value.int IntKind.u8 0, Value.int IntKind.u8 0, Value.int IntKind.u8 0, Value.int IntKind.u8 0, Value.int IntKind.u8 0, Value.int IntKind.u8 0] 119)) w.heap.size 34 32 (bytesV kb) := b0.alloc _
  go_wp2_with fail
  obtain ⟨W4, hW4⟩ : ∃ W4, W3.alloc (Obj.cells #[Value.int IntKind.u8 0, Value.int IntKind.u8 0, Value.int IntKind.u8 0, Value.int IntKind.u8 0, Value.int IntKind.u8 0, Value.int IntKind.u8 0, Value.int IntKind.u8 0, Value.int IntKind.u8 0, Value.int IntKind.u8 0, Value.int IntKind.u8 0, Value.int IntKind.u8 0, Value.int IntKind.u8 0, Value.int IntKind.u8 0, Value.int IntKind.u8 0, Value.int IntKind.u8 0, Value.int IntKind.u8 0, Value.int IntKind.u8 0, Value.int IntKind.u8 0, Value.int IntKind.u8 0, Value.int IntKind.u8 0, Value.int IntKind.u8 0, Value.int IntKind.u8 0, Value.int IntKind.u8 0, Value.int IntKind.u8 0, Value.int IntKind.u8 0, Value.int IntKind.u8 0, Value.int IntKind.u8 0, Value.int IntKind.u8 0, Value.int IntKind.u8 0, Value.int IntKind.u8 0, Value.int IntKind.u8 0, Value.int IntKind.u8 0, Value.int IntKind.u8 0, Value.int IntKind.u8 0, Value.int IntKind.u8 0, Value.int IntKind.u8 0, Value.int IntKind.u8 0, Value.int IntKind.u8 0, Value.int IntKind.u8 0, Value.int IntKind.u8 0, Value.int IntKind.u8 0, Value.int IntKind.u8 0, Value.int IntKind.u8 0, Value.int IntKind.u8 0, Value.int IntKind.u8 0, Value.int IntKind.u8 0, Value.int IntKind.u8 0, Value.int IntKind.u8 0, Value.int IntKind.u8 0, Value.int IntKind.u8 0, Value.int IntKind.u8 0, Value.int IntKind.u8 0, Value.int IntKind.u8 0, Value.int IntKind.u8 0, Value.int IntKind.u8 0, Value.int IntKind.u8 0, Value.int IntKind.u8 0, Value.int IntKind.u8 0, Value.int IntKind.u8 0, Value.int IntKind.u8 0, Value.int IntKind.u8 0, Value.int IntKind.u8 0, Value.int IntKind.u8 0, Value.int IntKind.u8 0] 119) = W4 := ⟨_, rfl⟩
  obtain ⟨O, hO⟩ : ∃ O, W3.heap.size = O := ⟨_, rfl⟩
  rw [hW4] at t0 b3 ⊢
  rw [hO] at t0 hFO ⊢
  clear z6 b0 b1 b2 z5 hW4 hO
  go_loopw [7] (fun a wx => ∃ i : Nat, i ≤ 32 ∧ a = .int .i64 (i : Int) ∧ KE w.heap.size F O b key0 (kz kb i) s w wx ∧ wx.rowIs w.heap.size 34 32 (bytesV kb)) (fun a _ => 32 - (intOf a).toNat)
  case atStart => exact ⟨0, by omega, rfl, t0, b3⟩
  case round =>
    clear t0 b3
    obtain ⟨i, hi, rfl, t0, b3⟩ := hrel
    by_cases hlt : i < 32
    · have c0 : decide ((i : Int) < 32) = true := decide_eq_true (by omega)
      have c1 : (i : Int) < 32 := by omega
      have c2 : (i : Int) < 64 := by omega
      have d1 : wr.cell? ⟨w.heap.size, i, none⟩ = some (.int .u8 (kb i : Int)) := b3.cell hlt
      have d2 : wr.cell? ⟨O, i, none⟩ = some (.int .u8 (kz kb i i : Int)) := t0.ob.cell (by omega)
      have d3 := t0.ob.frozen i
      go_wp2
      go_roundw
      case rel =>
        have := t0.hF
        have := t0.hO
        refine ⟨i + 1, by omega, by go_num, ⟨?_, ?_, t0.hb.setOther (by dsimp only; omega) _, t0.hF, t0.hO, t0.below.setCell (by dsimp only; omega) _, t0.cb, t0.lt⟩, b3.setOther (by dsimp only; omega) _⟩
        · rw [← kz_step]
          exact (t0.ob.set i _).congr (fun j _ => upd_bytesV _ _ _ _)
        · obtain ⟨f, hf⟩ := t0.rb
          exact ⟨f, hf.setOther (by dsimp only; omega) _⟩
      case measure => simp [intOf]; omega
    · have c0 : decide ((i : Int) < 32) = false := decide_eq_false (by omega)
      obtain rfl : i = 32 := by omega
      clear b3
      obtain ⟨v, hv⟩ : ∃ v, kz kb 32 = v := ⟨_, rfl⟩
      rw [hv] at t0
      have hdg := fun W => rdigest_any key0 (keyT kb s) W key0_words (by rw [keyT_size]; omega)
      obtain ⟨D, hD⟩ : ∃ D, dgB (dig key0 (keyT kb s) 0) = D := ⟨_, rfl⟩
      have hks := txt_kz kb s
      rw [hv] at hks
      rw [hD, ← hks] at hdg
      have hDk : keyedV kb s = D := hD
      have hDs := arrA_size 32 (bytesV D)
      have HDk := Lib.hid hDk
      obtain ⟨tk, htk⟩ : ∃ tk, txt 64 v = tk := ⟨_, rfl⟩
      have htl : tk.size ≤ 64 := by rw [← htk, txt_size]; omega
      rw [htk] at hdg
      have Htk := Lib.hid htk
      obtain ⟨h0, hh0⟩ : ∃ h0, key0 = h0 := ⟨_, rfl⟩
      rw [hh0] at hdg t0
      have hfold : #[Value.int IntKind.u32 (h0 0 : Int), Value.int IntKind.u32 (h0 1 : Int), Value.int IntKind.u32 (h0 2 : Int), Value.int IntKind.u32 (h0 3 : Int), Value.int IntKind.u32 (h0 4 : Int), Value.int IntKind.u32 (h0 5 : Int), Value.int IntKind.u32 (h0 6 : Int), Value.int IntKind.u32 (h0 7 : Int)] = arrA 8 (wordsV h0) := rfl
      have hj := fun (W : World) (hc : W.cell? ⟨b, 0, none⟩ = some (.string s)) => joined_any s b W hc hs
      clear hv hD hks hDk htk hh0
      go_upto_region 8 with fail
      have hcat : ¬ 9223372036854775807 < tk.size + s.size := by omega
      have t1 : KE w.heap.size F O b h0 v s w wr.drew := t0.drewN 1
      have hone : ∀ v, v ∈ List.map (bytesV D) (List.range 32) → v.oneCell' = true := fun v hv => by
        obtain ⟨i, _, rfl⟩ := List.mem_map.1 hv
        rfl
      have hinf : (Try.prog.info? 57).map (·.size) = some (List.map (bytesV D) (List.range 32)).length := by rw [siz57]; simp
      go_region_held3 (fun w' => w'.cell? ⟨F, 0, none⟩ = some (.int .u32 (h0 0 : Int)) ∧ w'.cell? ⟨F, 1, none⟩ = some (.int .u32 (h0 1 : Int)) ∧ w'.cell? ⟨F, 2, none⟩ = some (.int .u32 (h0 2 : Int)) ∧ w'.cell? ⟨F, 3, none⟩ = some (.int .u32 (h0 3 : Int)) ∧ w'.cell? ⟨F, 4, none⟩ = some (.int .u32 (h0 4 : Int)) ∧ w'.cell? ⟨F, 5, none⟩ = some (.int .u32 (h0 5 : Int)) ∧ w'.cell? ⟨F, 6, none⟩ = some (.int .u32 (h0 6 : Int)) ∧ w'.cell? ⟨F, 7, none⟩ = some (.int .u32 (h0 7 : Int)) ∧ (convert 46 9 (.slice (some ⟨O, 0, none⟩) 64 64)).run Try.prog w' = .ok (.string tk) w') (first | with_reducible exact t1.held Htk | with_reducible exact tv.held Htk | with_reducible exact (tv.setC D).held Htk) (first
        | (go_at_call 105; refine (hj _ t1.cell).mono ?_; rintro e wz ⟨rfl, rfl⟩)
        | (go_at_call 104; refine (hdg _).mono ?_; rintro e wv ⟨rfl, hbv⟩; have tv := t1.past hbv; obtain ⟨fv, hfv⟩ := tv.rb; have hth := there_row hfv (bytesV D)))
      all_goals
        rw [setCells_row hfv (fun _ => rfl)]
        go_wp2
        refine bodyPost_ret (result_arr rfl _ _ 32 5 57 (w.heap.size + 1) _ rfl (rowIs_setRow hfv _) und57 siz57) rfl ?_
        exact ⟨by rw [HDk.out], below_setRow tv.below (by omega) _⟩
end Go.Proofs.Ytnjcganknpnjcaa
namespace Go.Proofs.Ytnjcganknpnjcaa
open Go.RowKit

set_option maxRecDepth 100000 in
set_option maxHeartbeats 2000000 in
theorem own_any (kb : Nat → Nat) (s : ByteArray) (w : World) (hs : s.size ≤ 900000) :
    Calls Try.prog 72 #[.agg (arrA 32 (bytesV kb)), .string s] w fun e w' => e = .returned (.agg (arrA 32 (bytesV (keyedV kb s)))) ∧ Below w.heap.size w w' := by
  go_enter Try.func72, Try.ntmps72
  have a0 : World.rowIs ((w.alloc (Obj.cells (arrA 32 (bytesV kb)) 34)).alloc (Obj.cells #[Value.int IntKind.u8 0, Value.int IntKind.u8 0, Value.int IntKind.u8 0, Value.int IntKind.u8 0, Value.int IntKind.u8 0, Value.int IntKind.u8 0, Value.int IntKind.u8 0, Value.int IntKind.u8 0, Value.int IntKind.u8 0, Value.int IntKind.u8 0, Value.int IntKind.u8 0, Value.int IntKind.u8 0, Value.int IntKind.u8 0, Value.int IntKind.u8 0, Value.int IntKind.u8 0, Value.int IntKind.u8 0, Value.int IntKind.u8 0, Value.int IntKind.u8 0, Value.int IntKind.u8 0, Value.int IntKind.u8 0, Value.int IntKind.u8 0, Value.int IntKind.u8 0, Value.int IntKind.u8 0, Value.int IntKind.u8 0, Value.int IntKind.u8 0, Value.int IntKind.u8 0, Value.int IntKind.u8 0, Value.int IntKind.u8 0, Value.int IntKind.u8 0, Value.int IntKind.u8 0, Value.int IntKind.u8 0, Value.int IntKind.u8 0] 34)) w.heap.size 34 32 (bytesV kb) := (row_of_heap (heap_new w _)).alloc _
  have a1 : World.rowIs ((w.alloc (Obj.cells (arrA 32 (bytesV kb)) 34)).alloc (Obj.cells #[Value.int IntKind.u8 0, Value.int IntKind.u8 0, Value.int IntKind.u8 0, Value.int IntKind.u8 0, Value.int IntKind.u8 0, Value.int IntKind.u8 0, Value.int IntKind.u8 0, Value.int IntKind.u8 0, Value.int IntKind.u8 0, Value.int IntKind.u8 0, Value.int IntKind.u8 0, Value.int IntKind.u8 0, Value.int IntKind.u8 0, Value.int IntKind.u8 0, Value.int IntKind.u8 0, Value.int IntKind.u8 0, Value.int IntKind.u8 0, Value.int IntKind.u8 0, Value.int IntKind.u8 0, Value.int IntKind.u8 0, Value.int IntKind.u8 0, Value.int IntKind.u8 0, Value.int IntKind.u8 0, Value.int IntKind.u8 0, Value.int IntKind.u8 0, Value.int IntKind.u8 0, Value.int IntKind.u8 0, Value.int IntKind.u8 0, Value.int IntKind.u8 0, Value.int IntKind.u8 0, Value.int IntKind.u8 0, Value.int IntKind.u8 0] 34)) (w.heap.size + 1) 34 32 (fun _ => .int .u8 0) := by
    have := heap_new (w.alloc (Obj.cells (arrA 32 (bytesV kb)) 34)) (Obj.cells #[Value.int IntKind.u8 0, Value.int IntKind.u8 0, Value.int IntKind.u8 0, Value.int IntKind.u8 0, Value.int IntKind.u8 0, Value.int IntKind.u8 0, Value.int IntKind.u8 0, Value.int IntKind.u8 0, Value.int IntKind.u8 0, Value.int IntKind.u8 0, Value.int IntKind.u8 0, Value.int IntKind.u8 0, Value.int IntKind.u8 0, Value.int IntKind.u8 0, Value.int IntKind.u8 0, Value.int IntKind.u8 0, Value.int IntKind.u8 0, Value.int IntKind.u8 0, Value.int IntKind.u8 0, Value.int IntKind.u8 0, Value.int IntKind.u8 0, Value.int IntKind.u8 0, Value.int IntKind.u8 0, Value.int IntKind.u8 0, Value.int IntKind.u8 0, Value.int IntKind.u8 0, Value.int IntKind.u8 0, Value.int IntKind.u8 0, Value.int IntKind.u8 0, Value.int IntKind.u8 0, Value.int IntKind.u8 0, Value.int IntKind.u8 0] 34)
    rw [World.size_alloc] at this
    exact row_of_heap this
  have a2 : Below w.heap.size w ((w.alloc (Obj.cells (arrA 32 (bytesV kb)) 34)).alloc (Obj.cells #[Value.int IntKind.u8 0, Value.int IntKind.u8 0, Value.int IntKind.u8 0, Value.int IntKind.u8 0, Value.int IntKind.u8 0, Value.int IntKind.u8 0, Value.int IntKind.u8 0, Value.int IntKind.u8 0, Value.int IntKind.u8 0, Value.int IntKind.u8 0, Value.int IntKind.u8 0, Value.int IntKind.u8 0, Value.int IntKind.u8 0, Value.int IntKind.u8 0, Value.int IntKind.u8 0, Value.int IntKind.u8 0, Value.int IntKind.u8 0, Value.int IntKind.u8 0, Value.int IntKind.u8 0, Value.int IntKind.u8 0, Value.int IntKind.u8 0, Value.int IntKind.u8 0, Value.int IntKind.u8 0, Value.int IntKind.u8 0, Value.int IntKind.u8 0, Value.int IntKind.u8 0, Value.int IntKind.u8 0, Value.int IntKind.u8 0, Value.int IntKind.u8 0, Value.int IntKind.u8 0, Value.int IntKind.u8 0, Value.int IntKind.u8 0] 34)) := ((Below.refl _ w).alloc (Nat.le_refl _) _).alloc (by simp) _
  go_upto_region 1 with fail
  obtain ⟨W0, hW0⟩ : ∃ W0, (w.alloc (Obj.cells (arrA 32 (bytesV kb)) 34)).alloc (Obj.cells #[Value.int IntKind.u8 0, Value.int IntKind.u8 0, Value.int IntKind.u8 0, Value.int IntKind.u8 0, Value.int IntKind.u8 0, Value.int IntKind.u8 0, Value.int IntKind.u8 0, Value.int IntKind.u8 0, Value.int IntKind.u8 0, Value.int IntKind.u8 0, Value.int IntKind.u8 0, Value.int IntKind.u8 0, Value.int IntKind.u8 0, Value.int IntKind.u8 0, Value.int IntKind.u8 0, Value.int IntKind.u8 0, Value.int IntKind.u8 0, Value.int IntKind.u8 0, Value.int IntKind.u8 0, Value.int IntKind.u8 0, Value.int IntKind.u8 0, Value.int IntKind.u8 0, Value.int IntKind.u8 0, Value.int IntKind.u8 0, Value.int IntKind.u8 0, Value.int IntKind.u8 0, Value.int IntKind.u8 0, Value.int IntKind.u8 0, Value.int IntKind.u8 0, Value.int IntKind.u8 0, Value.int IntKind.u8 0, Value.int IntKind.u8 0] 34) = W0 := ⟨_, rfl⟩
  rw [hW0] at a0 a1 a2 ⊢
  clear hW0
  go_wp2_with (first | (refine load_arr rfl 34 _ rfl 32 5 34 w.heap.size _ rfl a0 und34 siz34 ?_) | fail)
  have hc : (W0.alloc (Obj.cells #[Value.string s] 9)).cell? ⟨W0.heap.size, 0, none⟩ = some (.string s) := cell_new1 W0 _ _
  have hb : Below W0.heap.size W0 (W0.alloc (Obj.cells #[Value.string s] 9)) := (Below.refl _ W0).alloc (Nat.le_refl _) _
  refine (keyed_any kb s W0.heap.size _ hc hs).mono ?_
  rintro e w2 ⟨rfl, hb2⟩
  have hb3 := hb.trans (hb2.mono hb.size)
  have c1 := a1.of_block (hb3.block _ a1.lt)
  have c2 := a2.trans (hb3.mono a2.size)
  go_wp2_with (refine store_arr rfl 34 _ _ rfl 32 34 (w.heap.size + 1) _ _ rfl rfl c1 siz34 (fun _ => rfl) ?_)
  refine bodyPost_ret (result_arr rfl _ _ 32 5 34 (w.heap.size + 1) _ rfl (rowIs_setRow c1 _) und34 siz34) rfl ?_
  exact ⟨rfl, below_setRow c2 (by omega) _⟩

set_option maxRecDepth 100000 in
set_option maxHeartbeats 2000000 in
theorem rof_any (kb : Nat → Nat) (s : ByteArray) (w : World) (hs : s.size ≤ 900000) :
    Calls Try.prog 75 #[.agg (arrA 32 (bytesV kb)), .string s] w fun e w' => e = .returned (.agg (arrA 32 (bytesV (keyedV kb s)))) ∧ Below w.heap.size w w' := by
  go_enter Try.func75, Try.ntmps75
  have a0 : World.rowIs ((w.alloc (Obj.cells (arrA 32 (bytesV kb)) 34)).alloc (Obj.cells #[Value.int IntKind.u8 0, Value.int IntKind.u8 0, Value.int IntKind.u8 0, Value.int IntKind.u8 0, Value.int IntKind.u8 0, Value.int IntKind.u8 0, Value.int IntKind.u8 0, Value.int IntKind.u8 0, Value.int IntKind.u8 0, Value.int IntKind.u8 0, Value.int IntKind.u8 0, Value.int IntKind.u8 0, Value.int IntKind.u8 0, Value.int IntKind.u8 0, Value.int IntKind.u8 0, Value.int IntKind.u8 0, Value.int IntKind.u8 0, Value.int IntKind.u8 0, Value.int IntKind.u8 0, Value.int IntKind.u8 0, Value.int IntKind.u8 0, Value.int IntKind.u8 0, Value.int IntKind.u8 0, Value.int IntKind.u8 0, Value.int IntKind.u8 0, Value.int IntKind.u8 0, Value.int IntKind.u8 0, Value.int IntKind.u8 0, Value.int IntKind.u8 0, Value.int IntKind.u8 0, Value.int IntKind.u8 0, Value.int IntKind.u8 0] 34)) w.heap.size 34 32 (bytesV kb) := (row_of_heap (heap_new w _)).alloc _
  have a1 : World.rowIs ((w.alloc (Obj.cells (arrA 32 (bytesV kb)) 34)).alloc (Obj.cells #[Value.int IntKind.u8 0, Value.int IntKind.u8 0, Value.int IntKind.u8 0, Value.int IntKind.u8 0, Value.int IntKind.u8 0, Value.int IntKind.u8 0, Value.int IntKind.u8 0, Value.int IntKind.u8 0, Value.int IntKind.u8 0, Value.int IntKind.u8 0, Value.int IntKind.u8 0, Value.int IntKind.u8 0, Value.int IntKind.u8 0, Value.int IntKind.u8 0, Value.int IntKind.u8 0, Value.int IntKind.u8 0, Value.int IntKind.u8 0, Value.int IntKind.u8 0, Value.int IntKind.u8 0, Value.int IntKind.u8 0, Value.int IntKind.u8 0, Value.int IntKind.u8 0, Value.int IntKind.u8 0, Value.int IntKind.u8 0, Value.int IntKind.u8 0, Value.int IntKind.u8 0, Value.int IntKind.u8 0, Value.int IntKind.u8 0, Value.int IntKind.u8 0, Value.int IntKind.u8 0, Value.int IntKind.u8 0, Value.int IntKind.u8 0] 34)) (w.heap.size + 1) 34 32 (fun _ => .int .u8 0) := by
    have := heap_new (w.alloc (Obj.cells (arrA 32 (bytesV kb)) 34)) (Obj.cells #[Value.int IntKind.u8 0, Value.int IntKind.u8 0, Value.int IntKind.u8 0, Value.int IntKind.u8 0, Value.int IntKind.u8 0, Value.int IntKind.u8 0, Value.int IntKind.u8 0, Value.int IntKind.u8 0, Value.int IntKind.u8 0, Value.int IntKind.u8 0, Value.int IntKind.u8 0, Value.int IntKind.u8 0, Value.int IntKind.u8 0, Value.int IntKind.u8 0, Value.int IntKind.u8 0, Value.int IntKind.u8 0, Value.int IntKind.u8 0, Value.int IntKind.u8 0, Value.int IntKind.u8 0, Value.int IntKind.u8 0, Value.int IntKind.u8 0, Value.int IntKind.u8 0, Value.int IntKind.u8 0, Value.int IntKind.u8 0, Value.int IntKind.u8 0, Value.int IntKind.u8 0, Value.int IntKind.u8 0, Value.int IntKind.u8 0, Value.int IntKind.u8 0, Value.int IntKind.u8 0, Value.int IntKind.u8 0, Value.int IntKind.u8 0] 34)
    rw [World.size_alloc] at this
    exact row_of_heap this
  have a2 : Below w.heap.size w ((w.alloc (Obj.cells (arrA 32 (bytesV kb)) 34)).alloc (Obj.cells #[Value.int IntKind.u8 0, Value.int IntKind.u8 0, Value.int IntKind.u8 0, Value.int IntKind.u8 0, Value.int IntKind.u8 0, Value.int IntKind.u8 0, Value.int IntKind.u8 0, Value.int IntKind.u8 0, Value.int IntKind.u8 0, Value.int IntKind.u8 0, Value.int IntKind.u8 0, Value.int IntKind.u8 0, Value.int IntKind.u8 0, Value.int IntKind.u8 0, Value.int IntKind.u8 0, Value.int IntKind.u8 0, Value.int IntKind.u8 0, Value.int IntKind.u8 0, Value.int IntKind.u8 0, Value.int IntKind.u8 0, Value.int IntKind.u8 0, Value.int IntKind.u8 0, Value.int IntKind.u8 0, Value.int IntKind.u8 0, Value.int IntKind.u8 0, Value.int IntKind.u8 0, Value.int IntKind.u8 0, Value.int IntKind.u8 0, Value.int IntKind.u8 0, Value.int IntKind.u8 0, Value.int IntKind.u8 0, Value.int IntKind.u8 0] 34)) := ((Below.refl _ w).alloc (Nat.le_refl _) _).alloc (by simp) _
  go_upto_region 1 with fail
  obtain ⟨W0, hW0⟩ : ∃ W0, (w.alloc (Obj.cells (arrA 32 (bytesV kb)) 34)).alloc (Obj.cells #[Value.int IntKind.u8 0, Value.int IntKind.u8 0, Value.int IntKind.u8 0, Value.int IntKind.u8 0, Value.int IntKind.u8 0, Value.int IntKind.u8 0, Value.int IntKind.u8 0, Value.int IntKind.u8 0, Value.int IntKind.u8 0, Value.int IntKind.u8 0, Value.int IntKind.u8 0, Value.int IntKind.u8 0, Value.int IntKind.u8 0, Value.int IntKind.u8 0, Value.int IntKind.u8 0, Value.int IntKind.u8 0, Value.int IntKind.u8 0, Value.int IntKind.u8 0, Value.int IntKind.u8 0, Value.int IntKind.u8 0, Value.int IntKind.u8 0, Value.int IntKind.u8 0, Value.int IntKind.u8 0, Value.int IntKind.u8 0, Value.int IntKind.u8 0, Value.int IntKind.u8 0, Value.int IntKind.u8 0, Value.int IntKind.u8 0, Value.int IntKind.u8 0, Value.int IntKind.u8 0, Value.int IntKind.u8 0, Value.int IntKind.u8 0] 34) = W0 := ⟨_, rfl⟩
  rw [hW0] at a0 a1 a2 ⊢
  clear hW0
  go_wp2_with (first | (refine load_arr rfl 34 _ rfl 32 5 34 w.heap.size _ rfl a0 und34 siz34 ?_) | fail)
  have hc : (W0.alloc (Obj.cells #[Value.string s] 9)).cell? ⟨W0.heap.size, 0, none⟩ = some (.string s) := cell_new1 W0 _ _
  have hb : Below W0.heap.size W0 (W0.alloc (Obj.cells #[Value.string s] 9)) := (Below.refl _ W0).alloc (Nat.le_refl _) _
  refine (rkeyed_any kb s W0.heap.size _ hc hs).mono ?_
  rintro e w2 ⟨rfl, hb2⟩
  have hb3 := hb.trans (hb2.mono hb.size)
  have c1 := a1.of_block (hb3.block _ a1.lt)
  have c2 := a2.trans (hb3.mono a2.size)
  go_wp2_with (refine store_arr rfl 34 _ _ rfl 32 34 (w.heap.size + 1) _ _ rfl rfl c1 siz34 (fun _ => rfl) ?_)
  refine bodyPost_ret (result_arr rfl _ _ 32 5 34 (w.heap.size + 1) _ rfl (rowIs_setRow c1 _) und34 siz34) rfl ?_
  exact ⟨rfl, below_setRow c2 (by omega) _⟩
end Go.Proofs.Ytnjcganknpnjcaa
