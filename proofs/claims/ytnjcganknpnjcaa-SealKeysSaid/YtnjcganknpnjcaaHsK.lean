/- hash: a digest under a key. -/
import Derived.Test.YtnjcganknpnjcaaHsI
namespace Go.Proofs.Ytnjcganknpnjcaa
open Go.RowKit

def Bytes (v : Nat → Nat) : Prop := ∀ i, v i < 256
/-- An array's bytes as a text. -/
def txt (n : Nat) (v : Nat → Nat) : ByteArray := ⟨((List.range n).map fun i => UInt8.ofNat (v i)).toArray⟩
theorem txt_size (n : Nat) (v : Nat → Nat) : (txt n v).size = n := by
  show ((List.range n).map fun i => UInt8.ofNat (v i)).toArray.size = n
  simp
theorem dgB_bytes (h : Nat → Nat) : Bytes (dgB h) := fun _ => Nat.mod_lt _ (by omega)
/-- 'string(a[:])' of an array of bytes. -/
theorem conv_arr {w : World} {b T n : Nat} {v : Nat → Nat} (h : w.rowIs b T n (bytesV v)) :
    (convert 46 9 (.slice (some ⟨b, 0, none⟩) n n)).run Try.prog w = .ok (.string (txt n v)) w := by
  rw [run_convert_bytes_arg w 46 5 Try.underlying46 Try.underlying5 b 0 n n ((List.range n).map fun i => (v i : Int)) (by simp) (fun i hi => by rw [Nat.zero_add, h.cell hi, bytesV]; simp [List.getD, hi]) 9 Try.underlying9]
  have : strOfNums ((List.range n).map fun i => (v i : Int)) = txt n v := by
    unfold strOfNums txt
    congr 1
    simp [Function.comp_def]
  rw [this]

def key0 : Nat → Nat := upd iv 0 (iv 0 ^^^ 16850976)
theorem key0_words : Words key0 := iv_words.upd 0 (by decide)
/-- What is digested: the key's block, and the text. -/
def keyT (kb : Nat → Nat) (s : ByteArray) : ByteArray := txt 32 kb ++ ⟨(List.replicate 32 (0 : UInt8)).toArray⟩ ++ s
theorem keyT_size (kb : Nat → Nat) (s : ByteArray) : (keyT kb s).size = 64 + s.size := by
  have : ((⟨(List.replicate 32 (0 : UInt8)).toArray⟩ : ByteArray)).size = 32 := by kernel_rfl
  rw [keyT, ByteArray.size_append, ByteArray.size_append, txt_size, this]
/-- The digest of a text under a key. -/
def keyedV (kb : Nat → Nat) (s : ByteArray) : Nat → Nat := dgB (dig key0 (keyT kb s) 0)
theorem keyedV_bytes (kb : Nat → Nat) (s : ByteArray) : Bytes (keyedV kb s) := dgB_bytes _

theorem join_single (s : ByteArray) : (⟨(Lib.join ([s].map (·.data.toList)) (⟨#[]⟩ : ByteArray).data.toList).toArray⟩ : ByteArray) = s := by
  show (⟨(Lib.join [s.data.toList] []).toArray⟩ : ByteArray) = s
  rw [Lib.join_one]

theorem setCells_row {w : World} {b T n : Nat} {f g : Nat → Value} (h : w.rowIs b T n f) (h1 : ∀ i, (g i).oneCell' = true) : w.setCells b 0 (List.map g (List.range n)) = w.setRow b (arrA n g) := by
  have e1 := store_cells_arr h h1 (g := g)
  have e2 := run_storeCells_cells (P := Try.prog) b 0 (List.map g (List.range n)) 0 w (fun j hj => by
      have hj' : j < n := by simpa using hj
      rw [show 0 + 0 + j = j by omega, h.cell hj']; rfl)
    (fun j hj => by rw [show 0 + 0 + j = j by omega]; exact h.frozen j) (fun v hv => by
      obtain ⟨i, _, rfl⟩ := List.mem_map.1 hv
      exact h1 i)
  have e3 : (arrA n g).toList = List.map g (List.range n) := rfl
  rw [e3] at e1
  rw [e1] at e2
  injection e2 with _ e
  exact e.symm
theorem there_row {w : World} {b T n : Nat} {f : Nat → Value} (h : w.rowIs b T n f) (g : Nat → Value) : w.there b 0 (List.map g (List.range n)).length := by
  intro j hj
  have hj' : j < n := by simpa using hj
  rw [Nat.zero_add]
  exact ⟨by rw [h.cell hj']; rfl, h.frozen j⟩
structure KD (B F b : Nat) (h0 kb : Nat → Nat) (s : ByteArray) (w wx : World) : Prop where
  kb : wx.rowIs B 34 32 (bytesV kb)
  rb : ∃ f, wx.rowIs (B + 1) 57 32 f
  hb : wx.rowIs F 97 8 (wordsV h0)
  hF : B + 1 < F
  below : Below B w wx
  cb : w.cell? ⟨b, 0, none⟩ = some (.string s)
  lt : b < B
theorem KD.past {B F b : Nat} {h0 kb : Nat → Nat} {s : ByteArray} {w wx wy : World} (t : KD B F b h0 kb s w wx) (hb : Below wx.heap.size wx wy) : KD B F b h0 kb s w wy :=
  ⟨t.kb.of_block (hb.block _ t.kb.lt), (match t.rb with | ⟨f, h⟩ => ⟨f, h.of_block (hb.block _ h.lt)⟩), t.hb.of_block (hb.block _ t.hb.lt), t.hF, t.below.trans (hb.mono (Nat.le_of_lt t.kb.lt)), t.cb, t.lt⟩
theorem KD.drewN {B F b : Nat} {h0 kb : Nat → Nat} {s : ByteArray} {w wx : World} (t : KD B F b h0 kb s w wx) (n : Nat) : KD B F b h0 kb s w (wx.drewN n) := ⟨t.kb, t.rb, t.hb, t.hF, below_drewN t.below n, t.cb, t.lt⟩
theorem KD.cell {B F b : Nat} {h0 kb : Nat → Nat} {s : ByteArray} {w wx : World} (t : KD B F b h0 kb s w wx) : wx.cell? ⟨b, 0, none⟩ = some (.string s) := (t.below.cell (p := ⟨b, 0, none⟩) t.lt).trans t.cb

theorem KD.held {B F b : Nat} {h0 kb : Nat → Nat} {s : ByteArray} {w wx : World} (t : KD B F b h0 kb s w wx) {tk : ByteArray} (e : Hid (txt 32 kb = tk)) : wx.cell? ⟨F, 0, none⟩ = some (.int .u32 (h0 0 : Int)) ∧ wx.cell? ⟨F, 1, none⟩ = some (.int .u32 (h0 1 : Int)) ∧ wx.cell? ⟨F, 2, none⟩ = some (.int .u32 (h0 2 : Int)) ∧ wx.cell? ⟨F, 3, none⟩ = some (.int .u32 (h0 3 : Int)) ∧ wx.cell? ⟨F, 4, none⟩ = some (.int .u32 (h0 4 : Int)) ∧ wx.cell? ⟨F, 5, none⟩ = some (.int .u32 (h0 5 : Int)) ∧ wx.cell? ⟨F, 6, none⟩ = some (.int .u32 (h0 6 : Int)) ∧ wx.cell? ⟨F, 7, none⟩ = some (.int .u32 (h0 7 : Int)) ∧ (convert 46 9 (.slice (some ⟨B, 0, none⟩) 32 32)).run Try.prog wx = .ok (.string tk) wx :=
  ⟨t.hb.cell (by omega), t.hb.cell (by omega), t.hb.cell (by omega), t.hb.cell (by omega), t.hb.cell (by omega), t.hb.cell (by omega), t.hb.cell (by omega), t.hb.cell (by omega), e.out ▸ conv_arr t.kb⟩
theorem KD.setR {B F b : Nat} {h0 kb : Nat → Nat} {s : ByteArray} {w wx : World} (t : KD B F b h0 kb s w wx) (D : Nat → Nat) : KD B F b h0 kb s w (wx.setRow (B + 1) (arrA 32 (bytesV D))) := by
  have := t.hF
  obtain ⟨f, hf⟩ := t.rb
  exact ⟨rowIs_setOther t.kb (by omega) _, ⟨_, rowIs_setRow hf _⟩, rowIs_setOther t.hb (by omega) _, t.hF, below_setRow t.below (by omega) _, t.cb, t.lt⟩

theorem KD.setC {B F b : Nat} {h0 kb : Nat → Nat} {s : ByteArray} {w wx : World} (t : KD B F b h0 kb s w wx) (D : Nat → Nat) : KD B F b h0 kb s w (wx.setCells (B + 1) 0 (List.map (bytesV D) (List.range 32))) := by
  obtain ⟨f, hf⟩ := t.rb
  rw [setCells_row hf (fun _ => rfl)]
  exact t.setR D

set_option maxRecDepth 100000 in
set_option maxHeartbeats 4000000 in
theorem keyed_any (kb : Nat → Nat) (s : ByteArray) (b : Nat) (w : World) (hb : w.cell? ⟨b, 0, none⟩ = some (.string s)) (hs : s.size ≤ 900000) :
    Calls Try.prog 44 #[.agg (arrA 32 (bytesV kb)), .slice (some ⟨b, 0, none⟩) 1 1] w fun e w' => e = .returned (.agg (arrA 32 (bytesV (keyedV kb s)))) ∧ Below w.heap.size w w' := by
  have hblt := block_lt_of_cell hb
  change b < w.heap.size at hblt
  go_enter Try.func44, Try.ntmps44
  go_upto_region 1 with fail
  have a0 : World.rowIs ((w.alloc (Obj.cells (arrA 32 (bytesV kb)) 34)).alloc (Obj.cells #[Value.int IntKind.u8 0, Value.int IntKind.u8 0, Value.int IntKind.u8 0, Value.int IntKind.u8 0, Value.int IntKind.u8 0, Value.int IntKind.u8 0, Value.int IntKind.u8 0, Value.int IntKind.u8 0, Value.int IntKind.u8 0, Value.int IntKind.u8 0, Value.int IntKind.u8 0, Value.int IntKind.u8 0, Value.int IntKind.u8 0, Value.int IntKind.u8 0, Value.int IntKind.u8 0, Value.int IntKind.u8 0, Value.int IntKind.u8 0, Value.int IntKind.u8 0, Value.int IntKind.u8 0, Value.int IntKind.u8 0, Value.int IntKind.u8 0, Value.int IntKind.u8 0, Value.int IntKind.u8 0, Value.int IntKind.u8 0, Value.int IntKind.u8 0, Value.int IntKind.u8 0, Value.int IntKind.u8 0, Value.int IntKind.u8 0, Value.int IntKind.u8 0, Value.int IntKind.u8 0, Value.int IntKind.u8 0, Value.int IntKind.u8 0] 57)) w.heap.size 34 32 (bytesV kb) := (row_of_heap (heap_new w _)).alloc _
  have a1 : World.rowIs ((w.alloc (Obj.cells (arrA 32 (bytesV kb)) 34)).alloc (Obj.cells #[Value.int IntKind.u8 0, Value.int IntKind.u8 0, Value.int IntKind.u8 0, Value.int IntKind.u8 0, Value.int IntKind.u8 0, Value.int IntKind.u8 0, Value.int IntKind.u8 0, Value.int IntKind.u8 0, Value.int IntKind.u8 0, Value.int IntKind.u8 0, Value.int IntKind.u8 0, Value.int IntKind.u8 0, Value.int IntKind.u8 0, Value.int IntKind.u8 0, Value.int IntKind.u8 0, Value.int IntKind.u8 0, Value.int IntKind.u8 0, Value.int IntKind.u8 0, Value.int IntKind.u8 0, Value.int IntKind.u8 0, Value.int IntKind.u8 0, Value.int IntKind.u8 0, Value.int IntKind.u8 0, Value.int IntKind.u8 0, Value.int IntKind.u8 0, Value.int IntKind.u8 0, Value.int IntKind.u8 0, Value.int IntKind.u8 0, Value.int IntKind.u8 0, Value.int IntKind.u8 0, Value.int IntKind.u8 0, Value.int IntKind.u8 0] 57)) (w.heap.size + 1) 57 32 (fun _ => .int .u8 0) := by
    have := heap_new (w.alloc (Obj.cells (arrA 32 (bytesV kb)) 34)) (Obj.cells #[Value.int IntKind.u8 0, Value.int IntKind.u8 0, Value.int IntKind.u8 0, Value.int IntKind.u8 0, Value.int IntKind.u8 0, Value.int IntKind.u8 0, Value.int IntKind.u8 0, Value.int IntKind.u8 0, Value.int IntKind.u8 0, Value.int IntKind.u8 0, Value.int IntKind.u8 0, Value.int IntKind.u8 0, Value.int IntKind.u8 0, Value.int IntKind.u8 0, Value.int IntKind.u8 0, Value.int IntKind.u8 0, Value.int IntKind.u8 0, Value.int IntKind.u8 0, Value.int IntKind.u8 0, Value.int IntKind.u8 0, Value.int IntKind.u8 0, Value.int IntKind.u8 0, Value.int IntKind.u8 0, Value.int IntKind.u8 0, Value.int IntKind.u8 0, Value.int IntKind.u8 0, Value.int IntKind.u8 0, Value.int IntKind.u8 0, Value.int IntKind.u8 0, Value.int IntKind.u8 0, Value.int IntKind.u8 0, Value.int IntKind.u8 0] 57)
    rw [World.size_alloc] at this
    exact row_of_heap this
  have a2 : Below w.heap.size w ((w.alloc (Obj.cells (arrA 32 (bytesV kb)) 34)).alloc (Obj.cells #[Value.int IntKind.u8 0, Value.int IntKind.u8 0, Value.int IntKind.u8 0, Value.int IntKind.u8 0, Value.int IntKind.u8 0, Value.int IntKind.u8 0, Value.int IntKind.u8 0, Value.int IntKind.u8 0, Value.int IntKind.u8 0, Value.int IntKind.u8 0, Value.int IntKind.u8 0, Value.int IntKind.u8 0, Value.int IntKind.u8 0, Value.int IntKind.u8 0, Value.int IntKind.u8 0, Value.int IntKind.u8 0, Value.int IntKind.u8 0, Value.int IntKind.u8 0, Value.int IntKind.u8 0, Value.int IntKind.u8 0, Value.int IntKind.u8 0, Value.int IntKind.u8 0, Value.int IntKind.u8 0, Value.int IntKind.u8 0, Value.int IntKind.u8 0, Value.int IntKind.u8 0, Value.int IntKind.u8 0, Value.int IntKind.u8 0, Value.int IntKind.u8 0, Value.int IntKind.u8 0, Value.int IntKind.u8 0, Value.int IntKind.u8 0] 57)) := ((Below.refl _ w).alloc (Nat.le_refl _) _).alloc (by simp) _
  obtain ⟨W0, hW0⟩ : ∃ W0, (w.alloc (Obj.cells (arrA 32 (bytesV kb)) 34)).alloc (Obj.cells #[Value.int IntKind.u8 0, Value.int IntKind.u8 0, Value.int IntKind.u8 0, Value.int IntKind.u8 0, Value.int IntKind.u8 0, Value.int IntKind.u8 0, Value.int IntKind.u8 0, Value.int IntKind.u8 0, Value.int IntKind.u8 0, Value.int IntKind.u8 0, Value.int IntKind.u8 0, Value.int IntKind.u8 0, Value.int IntKind.u8 0, Value.int IntKind.u8 0, Value.int IntKind.u8 0, Value.int IntKind.u8 0, Value.int IntKind.u8 0, Value.int IntKind.u8 0, Value.int IntKind.u8 0, Value.int IntKind.u8 0, Value.int IntKind.u8 0, Value.int IntKind.u8 0, Value.int IntKind.u8 0, Value.int IntKind.u8 0, Value.int IntKind.u8 0, Value.int IntKind.u8 0, Value.int IntKind.u8 0, Value.int IntKind.u8 0, Value.int IntKind.u8 0, Value.int IntKind.u8 0, Value.int IntKind.u8 0, Value.int IntKind.u8 0] 57) = W0 := ⟨_, rfl⟩
  rw [hW0] at a0 a1 a2 ⊢
  clear hW0
  go_wp2_with fail
  refine (eight_any W0).mono ?_
  rintro e w2 ⟨rfl, hb2⟩
  have z3 := zero8_row w2
  have z4 := rowIs_setRow z3 (wordsV iv)
  have d1 : ((w2.alloc (Obj.cells #[Value.int IntKind.u32 0, Value.int IntKind.u32 0, Value.int IntKind.u32 0, Value.int IntKind.u32 0, Value.int IntKind.u32 0, Value.int IntKind.u32 0, Value.int IntKind.u32 0, Value.int IntKind.u32 0] 97)).setRow w2.heap.size (arrA 8 (wordsV iv))).cell? ⟨w2.heap.size, 0, none⟩ = some (.int .u32 1779033703) := z4.cell (by omega)
  have d2 := z4.frozen 0
  have dx : bits .xor .u32 1779033703 16850976 = 1795737159 := by kernel_rfl
  go_upto_region 3 with (refine store_arr rfl 97 _ _ rfl 8 97 w2.heap.size _ (wordsV iv) rfl rfl z3 siz97 (fun _ => rfl) ?_)
  have z5 : World.rowIs (((w2.alloc (Obj.cells #[Value.int IntKind.u32 0, Value.int IntKind.u32 0, Value.int IntKind.u32 0, Value.int IntKind.u32 0, Value.int IntKind.u32 0, Value.int IntKind.u32 0, Value.int IntKind.u32 0, Value.int IntKind.u32 0] 97)).setRow w2.heap.size (arrA 8 (wordsV iv))).setCell ⟨w2.heap.size, 0, none⟩ (.int .u32 1795737159)) w2.heap.size 97 8 (wordsV key0) := (z4.set 0 _).congr (fun k _ => upd_wordsV iv 0 1795737159 k)
  have hF0 : w.heap.size + 1 < w2.heap.size := Nat.lt_of_lt_of_le a1.lt hb2.size
  have b0 : World.rowIs (((w2.alloc (Obj.cells #[Value.int IntKind.u32 0, Value.int IntKind.u32 0, Value.int IntKind.u32 0, Value.int IntKind.u32 0, Value.int IntKind.u32 0, Value.int IntKind.u32 0, Value.int IntKind.u32 0, Value.int IntKind.u32 0] 97)).setRow w2.heap.size (arrA 8 (wordsV iv))).setCell ⟨w2.heap.size, 0, none⟩ (.int .u32 1795737159)) w.heap.size 34 32 (bytesV kb) := (rowIs_setOther ((a0.of_block (hb2.block _ a0.lt)).alloc _) (by omega) _).setOther (by dsimp only; omega) _
  have b1 : World.rowIs (((w2.alloc (Obj.cells #[Value.int IntKind.u32 0, Value.int IntKind.u32 0, Value.int IntKind.u32 0, Value.int IntKind.u32 0, Value.int IntKind.u32 0, Value.int IntKind.u32 0, Value.int IntKind.u32 0, Value.int IntKind.u32 0] 97)).setRow w2.heap.size (arrA 8 (wordsV iv))).setCell ⟨w2.heap.size, 0, none⟩ (.int .u32 1795737159)) (w.heap.size + 1) 57 32 (fun _ => .int .u8 0) := (rowIs_setOther ((a1.of_block (hb2.block _ a1.lt)).alloc _) (by omega) _).setOther (by dsimp only; omega) _
  have b2 : Below w.heap.size w (((w2.alloc (Obj.cells #[Value.int IntKind.u32 0, Value.int IntKind.u32 0, Value.int IntKind.u32 0, Value.int IntKind.u32 0, Value.int IntKind.u32 0, Value.int IntKind.u32 0, Value.int IntKind.u32 0, Value.int IntKind.u32 0] 97)).setRow w2.heap.size (arrA 8 (wordsV iv))).setCell ⟨w2.heap.size, 0, none⟩ (.int .u32 1795737159)) := (below_setRow ((a2.trans (hb2.mono a2.size)).alloc (by omega) _) (by omega) _).setCell (by dsimp only; omega) _
  obtain ⟨W3, hW3⟩ : ∃ W3, ((w2.alloc (Obj.cells #[Value.int IntKind.u32 0, Value.int IntKind.u32 0, Value.int IntKind.u32 0, Value.int IntKind.u32 0, Value.int IntKind.u32 0, Value.int IntKind.u32 0, Value.int IntKind.u32 0, Value.int IntKind.u32 0] 97)).setRow w2.heap.size (arrA 8 (wordsV iv))).setCell ⟨w2.heap.size, 0, none⟩ (.int .u32 1795737159) = W3 := ⟨_, rfl⟩
  rw [hW3] at z5 b0 b1 b2 ⊢
  obtain ⟨F, hF⟩ : ∃ F, w2.heap.size = F := ⟨_, rfl⟩
  rw [hF] at z5 hF0 ⊢
  clear d1 d2 z4 hW3 hF hb2 z3 a0 a1 a2
  have t0 : KD w.heap.size F b key0 kb s w W3 := ⟨b0, ⟨_, b1⟩, z5, hF0, b2, hb, hblt⟩
  clear b0 b1 z5 b2
  clear dx
  have hrep := fun W => Try.strings_Repeat ⟨#[0]⟩ 32 W (by omega) (by show 1 * 32 ≤ _; omega)
  obtain ⟨zz, hzz⟩ : ∃ zz : ByteArray, ⟨(List.replicate 32 (0 : UInt8)).toArray⟩ = zz := ⟨_, rfl⟩
  have hrz : (⟨(Lib.repeatL (ByteArray.mk #[0]).data.toList 32).toArray⟩ : ByteArray) = zz := by rw [← hzz]; exact congrArg (fun l => ByteArray.mk (List.toArray l)) (repeatL_zero 32)
  rw [hrz] at hrep
  have hks : keyT kb s = txt 32 kb ++ zz ++ s := by rw [keyT, hzz]
  have hdg := fun W => digest_any key0 (keyT kb s) W key0_words (by rw [keyT_size]; omega)
  obtain ⟨D, hD⟩ : ∃ D, dgB (dig key0 (keyT kb s) 0) = D := ⟨_, rfl⟩
  rw [hD, hks] at hdg
  have hDk : keyedV kb s = D := hD
  have hDs := arrA_size 32 (bytesV D)
  have HDk := Lib.hid hDk
  obtain ⟨tk, htk⟩ : ∃ tk, txt 32 kb = tk := ⟨_, rfl⟩
  have htl : tk.size ≤ 32 := by rw [← htk, txt_size]; omega
  rw [htk] at hdg
  have Htk := Lib.hid htk
  obtain ⟨h0, hh0⟩ : ∃ h0, key0 = h0 := ⟨_, rfl⟩
  rw [hh0] at hdg t0
  have hfold : #[Value.int IntKind.u32 (h0 0 : Int), Value.int IntKind.u32 (h0 1 : Int), Value.int IntKind.u32 (h0 2 : Int), Value.int IntKind.u32 (h0 3 : Int), Value.int IntKind.u32 (h0 4 : Int), Value.int IntKind.u32 (h0 5 : Int), Value.int IntKind.u32 (h0 6 : Int), Value.int IntKind.u32 (h0 7 : Int)] = arrA 8 (wordsV h0) := rfl
  have hzl : zz.size ≤ 32 := by rw [← hzz]; exact Nat.le_of_eq (by kernel_rfl)
  have hj := fun (W : World) (hc : W.cell? ⟨b, 0, none⟩ = some (.string s)) => Try.strings_Join b 0 1 [s] ⟨#[]⟩ W (fun j x hx => by
    cases j with
    | zero => simp at hx; rw [← hx]; exact hc
    | succ j => simp at hx) (block_lt_of_cell hc) (by simp) (by simp) (by rw [show (ByteArray.mk #[]).data.toList = [] from rfl]; show (Lib.join [s.data.toList] []).length ≤ _; rw [Lib.join_one]; simp; omega)
  rw [join_single] at hj
  clear hzz hrz hks hD hDk htk hh0
  change ∀ W, Calls Try.prog 79 #[Value.string (ByteArray.mk #[0]), Value.int .i64 32] W fun e w' => e = .returned (.string zz) ∧ Below W.heap.size W w' at hrep
  change ∀ W : World, W.cell? ⟨b, 0, none⟩ = some (.string s) → Calls Try.prog 80 #[.slice (some ⟨b, 0, none⟩) 1 1, .string ⟨#[]⟩] W fun e w' => e = .returned (.string s) ∧ Below W.heap.size W w' at hj
  have t1 : KD w.heap.size F b h0 kb s w W3.drew := t0.drewN 1
  have hone : ∀ v, v ∈ List.map (bytesV D) (List.range 32) → v.oneCell' = true := fun v hv => by
    obtain ⟨i, _, rfl⟩ := List.mem_map.1 hv
    rfl
  have hinf : (Try.prog.info? 57).map (·.size) = some (List.map (bytesV D) (List.range 32)).length := by rw [siz57]; simp
  have hcat1 : ¬ 9223372036854775807 < tk.size + zz.size := by omega
  have hcat2 : ¬ 9223372036854775807 < tk.size + zz.size + s.size := by omega
  go_region_held3 (fun w' => w'.cell? ⟨F, 0, none⟩ = some (.int .u32 (h0 0 : Int)) ∧ w'.cell? ⟨F, 1, none⟩ = some (.int .u32 (h0 1 : Int)) ∧ w'.cell? ⟨F, 2, none⟩ = some (.int .u32 (h0 2 : Int)) ∧ w'.cell? ⟨F, 3, none⟩ = some (.int .u32 (h0 3 : Int)) ∧ w'.cell? ⟨F, 4, none⟩ = some (.int .u32 (h0 4 : Int)) ∧ w'.cell? ⟨F, 5, none⟩ = some (.int .u32 (h0 5 : Int)) ∧ w'.cell? ⟨F, 6, none⟩ = some (.int .u32 (h0 6 : Int)) ∧ w'.cell? ⟨F, 7, none⟩ = some (.int .u32 (h0 7 : Int)) ∧ (convert 46 9 (.slice (some ⟨w.heap.size, 0, none⟩) 32 32)).run Try.prog w' = .ok (.string tk) w') (first | with_reducible exact t1.held Htk | with_reducible exact ty.held Htk | with_reducible exact tz.held Htk | with_reducible exact tv.held Htk | with_reducible exact (tv.setC D).held Htk) (first
    | (go_at_call 79; refine (hrep _).mono ?_; rintro e wy ⟨rfl, hby⟩; have ty := t1.past hby)
    | (go_at_call 80; refine (hj _ ty.cell).mono ?_; rintro e wz ⟨rfl, hbz⟩; have tz := ty.past hbz)
    | (go_at_call 78; refine (hdg _).mono ?_; rintro e wv ⟨rfl, hbv⟩; have tv := tz.past hbv; obtain ⟨fv, hfv⟩ := tv.rb; have hth := there_row hfv (bytesV D)))
  all_goals
    rw [setCells_row hfv (fun _ => rfl)]
    go_wp2
    refine bodyPost_ret (result_arr rfl _ _ 32 5 57 (w.heap.size + 1) _ rfl (rowIs_setRow hfv _) und57 siz57) rfl ?_
    exact ⟨by rw [HDk.out], below_setRow tv.below (by omega) _⟩
end Go.Proofs.Ytnjcganknpnjcaa
