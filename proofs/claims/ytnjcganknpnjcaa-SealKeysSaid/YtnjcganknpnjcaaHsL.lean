/- hash: the reference's digest under a key. -/
import Derived.Test.YtnjcganknpnjcaaHsJ
import Derived.Test.YtnjcganknpnjcaaHsK
namespace Go.Proofs.Ytnjcganknpnjcaa
open Go.RowKit

set_option maxRecDepth 100000 in
set_option maxHeartbeats 1000000 in
theorem joined_any (s : ByteArray) (b : Nat) (w : World) (hb : w.cell? ⟨b, 0, none⟩ = some (.string s)) (hs : s.size ≤ 900000) :
    Calls Try.prog 105 #[.slice (some ⟨b, 0, none⟩) 1 1] w fun e w' => e = .returned (.string s) ∧ w' = w := by
  go_enter Try.func105, Try.ntmps105
  go_wp2_with fail
  go_loopw [3, 4] (fun a c wx => ((a = .string ⟨#[]⟩ ∧ c = .int .i64 0) ∨ (a = .string s ∧ c = .int .i64 1)) ∧ wx = w) (fun _ c _ => 1 - (intOf c).toNat)
  case atStart => exact ⟨.inl ⟨rfl, rfl⟩, rfl⟩
  case round =>
    obtain ⟨h, rfl⟩ := hrel
    rcases h with ⟨rfl, rfl⟩ | ⟨rfl, rfl⟩
    · go_wp2
      go_roundw
      case rel => exact ⟨.inr ⟨congrArg Value.string (ByteArray.ext (Array.ext' (by simp))), rfl⟩, trivial⟩
      case measure => simp [intOf]
    · go_wp2
      go_ret
      exact ⟨rfl, rfl⟩

/-- The key's block. -/
def kz (kb : Nat → Nat) (n : Nat) : Nat → Nat := fun i => if i < n then kb i else 0
theorem kz_step (kb : Nat → Nat) (i : Nat) : upd (kz kb i) i (kb i) = kz kb (i + 1) := by
  funext j
  unfold upd kz
  by_cases e : j = i
  · rw [if_pos e, if_pos (by omega), e]
  · rw [if_neg e]
    by_cases h2 : j < i
    · rw [if_pos h2, if_pos (by omega)]
    · rw [if_neg h2, if_neg (by omega)]
theorem txt_kz (kb : Nat → Nat) (s : ByteArray) : txt 64 (kz kb 32) ++ s = keyT kb s := by
  have e : txt 64 (kz kb 32) = txt 32 kb ++ ⟨(List.replicate 32 (0 : UInt8)).toArray⟩ := by
    refine ByteArray.ext (Array.ext' ?_)
    show ((List.range 64).map fun i => UInt8.ofNat (kz kb 32 i)) = _
    rw [ByteArray.data_append, Array.toList_append]
    show _ = ((List.range 32).map fun i => UInt8.ofNat (kb i)) ++ List.replicate 32 0
    refine List.ext_getElem? fun j => ?_
    by_cases h : j < 32
    · rw [List.getElem?_append_left (by simpa using h)]
      simp [show j < 64 by omega, h, kz]
    · rw [List.getElem?_append_right (by simpa using h)]
      by_cases h2 : j < 64
      · have e : (List.replicate 32 (0 : UInt8))[j - 32]? = some 0 := by rw [List.getElem?_replicate, if_pos (by omega)]
        rw [show j - ((List.range 32).map fun i => UInt8.ofNat (kb i)).length = j - 32 by simp, e]
        simp [h2, kz, h]
      · simp [h2, show ¬ j - 32 < 32 by omega]
  rw [e, keyT]

structure KE (B F O b : Nat) (h0 v : Nat → Nat) (s : ByteArray) (w wx : World) : Prop where
  ob : wx.rowIs O 119 64 (bytesV v)
  rb : ∃ f, wx.rowIs (B + 1) 57 32 f
  hb : wx.rowIs F 97 8 (wordsV h0)
  hF : B + 1 < F
  hO : F < O
  below : Below B w wx
  cb : w.cell? ⟨b, 0, none⟩ = some (.string s)
  lt : b < B
theorem KE.past {B F O b : Nat} {h0 v : Nat → Nat} {s : ByteArray} {w wx wy : World} (t : KE B F O b h0 v s w wx) (hb : Below wx.heap.size wx wy) : KE B F O b h0 v s w wy :=
  ⟨t.ob.of_block (hb.block _ t.ob.lt), (match t.rb with | ⟨f, h⟩ => ⟨f, h.of_block (hb.block _ h.lt)⟩), t.hb.of_block (hb.block _ t.hb.lt), t.hF, t.hO, t.below.trans (hb.mono (by have := t.hb.lt; have := t.hF; omega)), t.cb, t.lt⟩
theorem KE.drewN {B F O b : Nat} {h0 v : Nat → Nat} {s : ByteArray} {w wx : World} (t : KE B F O b h0 v s w wx) (n : Nat) : KE B F O b h0 v s w (wx.drewN n) := ⟨t.ob, t.rb, t.hb, t.hF, t.hO, below_drewN t.below n, t.cb, t.lt⟩
theorem KE.cell {B F O b : Nat} {h0 v : Nat → Nat} {s : ByteArray} {w wx : World} (t : KE B F O b h0 v s w wx) : wx.cell? ⟨b, 0, none⟩ = some (.string s) := (t.below.cell (p := ⟨b, 0, none⟩) t.lt).trans t.cb
theorem KE.held {B F O b : Nat} {h0 v : Nat → Nat} {s : ByteArray} {w wx : World} (t : KE B F O b h0 v s w wx) {tk : ByteArray} (e : Hid (txt 64 v = tk)) : wx.cell? ⟨F, 0, none⟩ = some (.int .u32 (h0 0 : Int)) ∧ wx.cell? ⟨F, 1, none⟩ = some (.int .u32 (h0 1 : Int)) ∧ wx.cell? ⟨F, 2, none⟩ = some (.int .u32 (h0 2 : Int)) ∧ wx.cell? ⟨F, 3, none⟩ = some (.int .u32 (h0 3 : Int)) ∧ wx.cell? ⟨F, 4, none⟩ = some (.int .u32 (h0 4 : Int)) ∧ wx.cell? ⟨F, 5, none⟩ = some (.int .u32 (h0 5 : Int)) ∧ wx.cell? ⟨F, 6, none⟩ = some (.int .u32 (h0 6 : Int)) ∧ wx.cell? ⟨F, 7, none⟩ = some (.int .u32 (h0 7 : Int)) ∧ (convert 46 9 (.slice (some ⟨O, 0, none⟩) 64 64)).run Try.prog wx = .ok (.string tk) wx :=
  ⟨t.hb.cell (by omega), t.hb.cell (by omega), t.hb.cell (by omega), t.hb.cell (by omega), t.hb.cell (by omega), t.hb.cell (by omega), t.hb.cell (by omega), t.hb.cell (by omega), e.out ▸ conv_arr t.ob⟩
theorem KE.setC {B F O b : Nat} {h0 v : Nat → Nat} {s : ByteArray} {w wx : World} (t : KE B F O b h0 v s w wx) (D : Nat → Nat) : KE B F O b h0 v s w (wx.setCells (B + 1) 0 (List.map (bytesV D) (List.range 32))) := by
  have := t.hF
  have := t.hO
  obtain ⟨f, hf⟩ := t.rb
  rw [setCells_row hf (fun _ => rfl)]
  exact ⟨rowIs_setOther t.ob (by omega) _, ⟨_, rowIs_setRow hf _⟩, rowIs_setOther t.hb (by omega) _, t.hF, t.hO, below_setRow t.below (by omega) _, t.cb, t.lt⟩

set_option maxRecDepth 100000 in
set_option maxHeartbeats 4000000 in
theorem rkeyed_any (kb : Nat → Nat) (s : ByteArray) (b : Nat) (w : World) (hb : w.cell? ⟨b, 0, none⟩ = some (.string s)) (hs : s.size ≤ 900000) :
    Calls Try.prog 84 #[.agg (arrA 32 (bytesV kb)), .slice (some ⟨b, 0, none⟩) 1 1] w fun e w' => e = .returned (.agg (arrA 32 (bytesV (keyedV kb s)))) ∧ Below w.heap.size w w' := by
  have hblt := block_lt_of_cell hb
  change b < w.heap.size at hblt
  go_enter Try.func84, Try.ntmps84
  go_upto_region 1 with fail
  have a0 : World.rowIs ((w.alloc (Obj.cells (arrA 32 (bytesV kb)) 34)).alloc (Obj.cells #[Value.int IntKind.u8 0, Value.int IntKind.u8 0, Value.int IntKind.u8 0, Value.int IntKind.u8 0, Value.int IntKind.u8 0, Value.int IntKind.u8 0, Value.int IntKind.u8 0, Value.int IntKind.u8 0, Value.int IntKind.u8 0, Value.int IntKind.u8 0, Value.int IntKind.u8 0, Value.int IntKind.u8 0, Value.int IntKind.u8 0, Value.int IntKind.u8 0, Value.int IntKind.u8 0, Value.int IntKind.u8 0, Value.int IntKind.u8 0, Value.int IntKind.u8 0, Value.int IntKind.u8 0, Value.int IntKind.u8 0, Value.int IntKind.u8 0, Value.int IntKind.u8 0, Value.int IntKind.u8 0, Value.int IntKind.u8 0, Value.int IntKind.u8 0, Value.int IntKind.u8 0, Value.int IntKind.u8 0, Value.int IntKind.u8 0, Value.int IntKind.u8 0, Value.int IntKind.u8 0, Value.int IntKind.u8 0, Value.int IntKind.u8 0] 57)) w.heap.size 34 32 (bytesV kb) := (row_of_heap (heap_new w _)).alloc _
  have a1 : World.rowIs ((w.alloc (Obj.cells (arrA 32 (bytesV kb)) 34)).alloc (Obj.cells #[Value.int IntKind.u8 0, Value.int IntKind.u8 0, Value.int IntKind.u8 0, Value.int IntKind.u8 0, Value.int IntKind.u8 0, Value.int IntKind.u8 0, Value.int IntKind.u8 0, Value.int IntKind.u8 0, Value.int IntKind.u8 0, Value.int IntKind.u8 0, Value.int IntKind.u8 0, Value.int IntKind.u8 0, Value.int IntKind.u8 0, Value.int IntKind.u8 0, Value.int IntKind.u8 0, Value.int IntKind.u8 0, Value.int IntKind.u8 0, Value.int IntKind.u8 0, Value.int IntKind.u8 0, Value.int IntKind.u8 0, Value.int IntKind.u8 0, Value.int IntKind.u8 0, Value.int IntKind.u8 0, Value.int IntKind.u8 0, Value.int IntKind.u8 0, Value.int IntKind.u8 0, Value.int IntKind.u8 0, Value.int IntKind.u8 0, Value.int IntKind.u8 0, Value.int IntKind.u8 0, Value.int IntKind.u8 0, Value.int IntKind.u8 0] 57)) (w.heap.size + 1) 57 32 (fun _ => .int .u8 0) := by
    have := heap_new (w.alloc (Obj.cells (arrA 32 (bytesV kb)) 34)) (Obj.cells #[Value.int IntKind.u8 0, Value.int IntKind.u8 0, Value.int IntKind.u8 0, Value.int IntKind.u8 0, Value.int IntKind.u8 0, Value.int IntKind.u8 0, Value.int IntKind.u8 0, Value.int IntKind.u8 0, Value.int IntKind.u8 0, Value.int IntKind.u8 0, Value.int IntKind.u8 0, Value.int IntKind.u8 0, Value.int IntKind.u8 0, Value.int IntKind.u8 0, Value.int IntKind.u8 0, Value.int IntKind.u8 0, Value.int IntKind.u8 0, Value.int IntKind.u8 0, Value.int IntKind.u8 0, Value.int IntKind.u8 0, Value.int IntKind.u8 0, Value.int IntKind.u8 0, Value.int IntKind.u8 0, Value.int IntKind.u8 0, Value.int IntKind.u8 0, Value.int IntKind.u8 0, Value.int IntKind.u8 0, Value.int IntKind.u8 0, Value.int IntKind.u8 0, Value.int IntKind.u8 0, Value.int IntKind.u8 0, Value.int IntKind.u8 0] 57)
    rw [World.size_alloc] at this
    exact row_of_heap this
  have a2 : Below w.heap.size w ((w.alloc (Obj.cells (arrA 32 (bytesV kb)) 34)).alloc (Obj.cells #[Value.int IntKind.u8 0, Value.int IntKind.u8 0, Value.int IntKind.u8 0, Value.int IntKind.u8 0, Value.int IntKind.u8 0, Value.int IntKind.u8 0, Value.int IntKind.u8 0, Value.int IntKind.u8 0, Value.int IntKind.u8 0, Value.int IntKind.u8 0, Value.int IntKind.u8 0, Value.int IntKind.u8 0, Value.int IntKind.u8 0, Value.int IntKind.u8 0, Value.int IntKind.u8 0, Value.int IntKind.u8 0, Value.int IntKind.u8 0, Value.int IntKind.u8 0, Value.int IntKind.u8 0, Value.int IntKind.u8 0, Value.int IntKind.u8 0, Value.int IntKind.u8 0, Value.int IntKind.u8 0, Value.int IntKind.u8 0, Value.int IntKind.u8 0, Value.int IntKind.u8 0, Value.int IntKind.u8 0, Value.int IntKind.u8 0, Value.int IntKind.u8 0, Value.int IntKind.u8 0, Value.int IntKind.u8 0, Value.int IntKind.u8 0] 57)) := ((Below.refl _ w).alloc (Nat.le_refl _) _).alloc (by simp) _
  obtain ⟨W0, hW0⟩ : ∃ W0, (w.alloc (Obj.cells (arrA 32 (bytesV kb)) 34)).alloc (Obj.cells #[Value.int IntKind.u8 0, Value.int IntKind.u8 0, Value.int IntKind.u8 0, Value.int IntKind.u8 0, Value.int IntKind.u8 0, Value.int IntKind.u8 0, Value.int IntKind.u8 0, Value.int IntKind.u8 0, Value.int IntKind.u8 0, Value.int IntKind.u8 0, Value.int IntKind.u8 0, Value.int IntKind.u8 0, Value.int IntKind.u8 0, Value.int IntKind.u8 0, Value.int IntKind.u8 0, Value.int IntKind.u8 0, Value.int IntKind.u8 0, Value.int IntKind.u8 0, Value.int IntKind.u8 0, Value.int IntKind.u8 0, Value.int IntKind.u8 0, Value.int IntKind.u8 0, Value.int IntKind.u8 0, Value.int IntKind.u8 0, Value.int IntKind.u8 0, Value.int IntKind.u8 0, Value.int IntKind.u8 0, Value.int IntKind.u8 0, Value.int IntKind.u8 0, Value.int IntKind.u8 0, Value.int IntKind.u8 0, Value.int IntKind.u8 0] 57) = W0 := ⟨_, rfl⟩
  rw [hW0] at a0 a1 a2 ⊢
  clear hW0
  go_wp2_with fail
  refine (reight_any W0).mono ?_
  rintro e w2 ⟨rfl, hb2⟩
  have z3 := zero8_row w2
  have z4 := rowIs_setRow z3 (wordsV iv)
  have d1 : ((w2.alloc (Obj.cells #[Value.int IntKind.u32 0, Value.int IntKind.u32 0, Value.int IntKind.u32 0, Value.int IntKind.u32 0, Value.int IntKind.u32 0, Value.int IntKind.u32 0, Value.int IntKind.u32 0, Value.int IntKind.u32 0] 97)).setRow w2.heap.size (arrA 8 (wordsV iv))).cell? ⟨w2.heap.size, 0, none⟩ = some (.int .u32 1779033703) := z4.cell (by omega)
  have d2 := z4.frozen 0
  have dx : bits .xor .u32 1779033703 16842784 = 1795745351 := by kernel_rfl
  have dy : bits .xor .u32 1795745351 8192 = 1795737159 := by kernel_rfl
  go_upto_region 3 with (refine store_arr rfl 97 _ _ rfl 8 97 w2.heap.size _ (wordsV iv) rfl rfl z3 siz97 (fun _ => rfl) ?_)
  have z5 : World.rowIs (((w2.alloc (Obj.cells #[Value.int IntKind.u32 0, Value.int IntKind.u32 0, Value.int IntKind.u32 0, Value.int IntKind.u32 0, Value.int IntKind.u32 0, Value.int IntKind.u32 0, Value.int IntKind.u32 0, Value.int IntKind.u32 0] 97)).setRow w2.heap.size (arrA 8 (wordsV iv))).setCell ⟨w2.heap.size, 0, none⟩ (.int .u32 1795737159)) w2.heap.size 97 8 (wordsV key0) := (z4.set 0 _).congr (fun k _ => upd_wordsV iv 0 1795737159 k)
  have hF0 : w.heap.size + 1 < w2.heap.size := Nat.lt_of_lt_of_le a1.lt hb2.size
  have b0 : World.rowIs (((w2.alloc (Obj.cells #[Value.int IntKind.u32 0, Value.int IntKind.u32 0, Value.int IntKind.u32 0, Value.int IntKind.u32 0, Value.int IntKind.u32 0, Value.int IntKind.u32 0, Value.int IntKind.u32 0, Value.int IntKind.u32 0] 97)).setRow w2.heap.size (arrA 8 (wordsV iv))).setCell ⟨w2.heap.size, 0, none⟩ (.int .u32 1795737159)) w.heap.size 34 32 (bytesV kb) := (rowIs_setOther ((a0.of_block (hb2.block _ a0.lt)).alloc _) (by omega) _).setOther (by dsimp only; omega) _
  have b1 : World.rowIs (((w2.alloc (Obj.cells #[Value.int IntKind.u32 0, Value.int IntKind.u32 0, Value.int IntKind.u32 0, Value.int IntKind.u32 0, Value.int IntKind.u32 0, Value.int IntKind.u32 0, Value.int IntKind.u32 0, Value.int IntKind.u32 0] 97)).setRow w2.heap.size (arrA 8 (wordsV iv))).setCell ⟨w2.heap.size, 0, none⟩ (.int .u32 1795737159)) (w.heap.size + 1) 57 32 (fun _ => .int .u8 0) := (rowIs_setOther ((a1.of_block (hb2.block _ a1.lt)).alloc _) (by omega) _).setOther (by dsimp only; omega) _
  have b2 : Below w.heap.size w (((w2.alloc (Obj.cells #[Value.int IntKind.u32 0, Value.int IntKind.u32 0, Value.int IntKind.u32 0, Value.int IntKind.u32 0, Value.int IntKind.u32 0, Value.int IntKind.u32 0, Value.int IntKind.u32 0, Value.int IntKind.u32 0] 97)).setRow w2.heap.size (arrA 8 (wordsV iv))).setCell ⟨w2.heap.size, 0, none⟩ (.int .u32 1795737159)) := (below_setRow ((a2.trans (hb2.mono a2.size)).alloc (by omega) _) (by omega) _).setCell (by dsimp only; omega) _
  obtain ⟨W3, hW3⟩ : ∃ W3, ((w2.alloc (Obj.cells #[Value.int IntKind.u32 0, Value.int IntKind.u32 0, Value.int IntKind.u32 0, Value.int IntKind.u32 0, Value.int IntKind.u32 0, Value.int IntKind.u32 0, Value.int IntKind.u32 0, Value.int IntKind.u32 0] 97)).setRow w2.heap.size (arrA 8 (wordsV iv))).setCell ⟨w2.heap.size, 0, none⟩ (.int .u32 1795737159) = W3 := ⟨_, rfl⟩
  rw [hW3] at z5 b0 b1 b2 ⊢
  obtain ⟨F, hF⟩ : ∃ F, w2.heap.size = F := ⟨_, rfl⟩
  rw [hF] at z5 hF0 ⊢
  clear d1 d2 z4 hW3 hF hb2 z3 a0 a1 a2 dx dy
  have z6 : World.rowIs (W3.alloc (Obj.cells #[Value.int IntKind.u8 0, Value.int IntKind.u8 0, Value.int IntKind.u8 0, Value.int IntKind.u8 0, Value.int IntKind.u8 0, Value.int IntKind.u8 0, Value.int IntKind.u8 0, Value.int IntKind.u8 0, Value.int IntKind.u8 0, Value.int IntKind.u8 0, Value.int IntKind.u8 0, Value.int IntKind.u8 0, Value.int IntKind.u8 0, Value.int IntKind.u8 0, Value.int IntKind.u8 0, Value.int IntKind.u8 0, Value.int IntKind.u8 0, Value.int IntKind.u8 0, Value.int IntKind.u8 0, Value.int IntKind.u8 0, Value.int IntKind.u8 0, Value.int IntKind.u8 0, Value.int IntKind.u8 0, Value.int IntKind.u8 0, Value.int IntKind.u8 0, Value.int IntKind.u8 0, Value.int IntKind.u8 0, Value.int IntKind.u8 0, Value.int IntKind.u8 0, Value.int IntKind.u8 0, Value.int IntKind.u8 0, Value.int IntKind.u8 0, Value.int IntKind.u8 0, Value.int IntKind.u8 0, Value.int IntKind.u8 0, Value.int IntKind.u8 0, Value.int IntKind.u8 0, Value.int IntKind.u8 0, Value.int IntKind.u8 0, Value.int IntKind.u8 0, Value.int IntKind.u8 0, Value.int IntKind.u8 0, Value.int IntKind.u8 0, Value.int IntKind.u8 0, Value.int IntKind.u8 0, Value.int IntKind.u8 0, Value.int IntKind.u8 0, Value.int IntKind.u8 0, Value.int IntKind.u8 0, Value.int IntKind.u8 0, Value.int IntKind.u8 0, Value.int IntKind.u8 0, Value.int IntKind.u8 0, Value.int IntKind.u8 0, Value.int IntKind.u8 0, Value.int IntKind.u8 0, Value.int IntKind.u8 0, Value.int IntKind.u8 0, Value.int IntKind.u8 0, Value.int IntKind.u8 0, Value.int IntKind.u8 0, Value.int IntKind.u8 0, Value.int IntKind.u8 0, Value.int IntKind.u8 0] 119)) W3.heap.size 119 64 (bytesV (kz kb 0)) := row_of_heap (heap_new W3 _)
  have hFO : F < W3.heap.size := z5.lt
  have t0 : KE w.heap.size F W3.heap.size b key0 (kz kb 0) s w (W3.alloc (Obj.cells #[Value.int IntKind.u8 0, Value.int IntKind.u8 0, Value.int IntKind.u8 0, Value.int IntKind.u8 0, Value.int IntKind.u8 0, Value.int IntKind.u8 0, Value.int IntKind.u8 0, Value.int IntKind.u8 0, Value.int IntKind.u8 0, Value.int IntKind.u8 0, Value.int IntKind.u8 0, Value.int IntKind.u8 0, Value.int IntKind.u8 0, Value.int IntKind.u8 0, Value.int IntKind.u8 0, Value.int IntKind.u8 0, Value.int IntKind.u8 0, Value.int IntKind.u8 0, Value.int IntKind.u8 0, Value.int IntKind.u8 0, Value.int IntKind.u8 0, Value.int IntKind.u8 0, Value.int IntKind.u8 0, Value.int IntKind.u8 0, Value.int IntKind.u8 0, Value.int IntKind.u8 0, Value.int IntKind.u8 0, Value.int IntKind.u8 0, Value.int IntKind.u8 0, Value.int IntKind.u8 0, Value.int IntKind.u8 0, Value.int IntKind.u8 0, Value.int IntKind.u8 0, Value.int IntKind.u8 0, Value.int IntKind.u8 0, Value.int IntKind.u8 0, Value.int IntKind.u8 0, Value.int IntKind.u8 0, Value.int IntKind.u8 0, Value.int IntKind.u8 0, Value.int IntKind.u8 0, Value.int IntKind.u8 0, Value.int IntKind.u8 0, Value.int IntKind.u8 0, Value.int IntKind.u8 0, Value.int IntKind.u8 0, Value.int IntKind.u8 0, Value.int IntKind.u8 0, Value.int IntKind.u8 0, Value.int IntKind.u8 0, Value.int IntKind.u8 0, Value.int IntKind.u8 0, Value.int IntKind.u8 0, Value.int IntKind.u8 0, Value.int IntKind.u8 0, Value.int IntKind.u8 0, Value.int IntKind.u8 0, Value.int IntKind.u8 0, Value.int IntKind.u8 0, Value.int IntKind.u8 0, Value.int IntKind.u8 0, Value.int IntKind.u8 0, Value.int IntKind.u8 0, Value.int IntKind.u8 0] 119)) := ⟨z6, ⟨_, b1.alloc _⟩, z5.alloc _, hF0, hFO, b2.alloc (by omega) _, hb, hblt⟩
  have b3 : World.rowIs (W3.alloc (Obj.cells #[Value.int IntKind.u8 0, Value.int IntKind.u8 0, Value.int IntKind.u8 0, Value.int IntKind.u8 0, Value.int IntKind.u8 0, Value.int IntKind.u8 0, Value.int IntKind.u8 0, Value.int IntKind.u8 0, Value.int IntKind.u8 0, Value.int IntKind.u8 0, Value.int IntKind.u8 0, Value.int IntKind.u8 0, Value.int IntKind.u8 0, Value.int IntKind.u8 0, Value.int IntKind.u8 0, Value.int IntKind.u8 0, Value.int IntKind.u8 0, Value.int IntKind.u8 0, Value.int IntKind.u8 0, Value.int IntKind.u8 0, Value.int IntKind.u8 0, Value.int IntKind.u8 0, Value.int IntKind.u8 0, Value.int IntKind.u8 0, Value.int IntKind.u8 0, Value.int IntKind.u8 0, Value.int IntKind.u8 0, Value.int IntKind.u8 0, Value.int IntKind.u8 0, Value.int IntKind.u8 0, Value.int IntKind.u8 0, Value.int IntKind.u8 0, Value.int IntKind.u8 0, Value.int IntKind.u8 0, Value.int IntKind.u8 0, Value.int IntKind.u8 0, Value.int IntKind.u8 0, Value.int IntKind.u8 0, Value.int IntKind.u8 0, Value.int IntKind.u8 0, Value.int IntKind.u8 0, Value.int IntKind.u8 0, Value.int IntKind.u8 0, Value.int IntKind.u8 0, Value.int IntKind.u8 0, Value.int IntKind.u8 0, Value.int IntKind.u8 0, Value.int IntKind.u8 0, Value.int IntKind.u8 0, Value.int IntKind.u8 0, Value.int IntKind.u8 0, Value.int IntKind.u8 0, Value.int IntKind.u8 0, Value.int IntKind.u8 0, Value.int IntKind.u8 0, Value.int IntKind.u8 0, Value.int IntKind.u8 0, Value.int IntKind.u8 0, Value.int IntKind.u8 0, Value.int IntKind.u8 0, Value.int IntKind.u8 0, Value.int IntKind.u8 0, Value.int IntKind.u8 0, Value.int IntKind.u8 0] 119)) w.heap.size 34 32 (bytesV kb) := b0.alloc _
  go_wp2_with fail
  obtain ⟨W4, hW4⟩ : ∃ W4, W3.alloc (Obj.cells #[Value.int IntKind.u8 0, Value.int IntKind.u8 0, Value.int IntKind.u8 0, Value.int IntKind.u8 0, Value.int IntKind.u8 0, Value.int IntKind.u8 0, Value.int IntKind.u8 0, Value.int IntKind.u8 0, Value.int IntKind.u8 0, Value.int IntKind.u8 0, Value.int IntKind.u8 0, Value.int IntKind.u8 0, Value.int IntKind.u8 0, Value.int IntKind.u8 0, Value.int IntKind.u8 0, Value.int IntKind.u8 0, Value.int IntKind.u8 0, Value.int IntKind.u8 0, Value.int IntKind.u8 0, Value.int IntKind.u8 0, Value.int IntKind.u8 0, Value.int IntKind.u8 0, Value.int IntKind.u8 0, Value.int IntKind.u8 0, Value.int IntKind.u8 0, Value.int IntKind.u8 0, Value.int IntKind.u8 0, Value.int IntKind.u8 0, Value.int IntKind.u8 0, Value.int IntKind.u8 0, Value.int IntKind.u8 0, Value.int IntKind.u8 0, Value.int IntKind.u8 0, Value.int IntKind.u8 0, Value.int IntKind.u8 0, Value.int IntKind.u8 0, Value.int IntKind.u8 0, Value.int IntKind.u8 0, Value.int IntKind.u8 0, Value.int IntKind.u8 0, Value.int IntKind.u8 0, Value.int IntKind.u8 0, Value.int IntKind.u8 0, Value.int IntKind.u8 0, Value.int IntKind.u8 0, Value.int IntKind.u8 0, Value.int IntKind.u8 0, Value.int IntKind.u8 0, Value.int IntKind.u8 0, Value.int IntKind.u8 0, Value.int IntKind.u8 0, Value.int IntKind.u8 0, Value.int IntKind.u8 0, Value.int IntKind.u8 0, Value.int IntKind.u8 0, Value.int IntKind.u8 0, Value.int IntKind.u8 0, Value.int IntKind.u8 0, Value.int IntKind.u8 0, Value.int IntKind.u8 0, Value.int IntKind.u8 0, Value.int IntKind.u8 0, Value.int IntKind.u8 0, Value.int IntKind.u8 0] 119) = W4 := ⟨_, rfl⟩
  obtain ⟨O, hO⟩ : ∃ O, W3.heap.size = O := ⟨_, rfl⟩
  rw [hW4] at t0 b3 ⊢
  rw [hO] at t0 hFO ⊢
  clear z6 b0 b1 b2 z5 hW4 hO
  go_loopw [7] (fun a wx => ∃ i : Nat, i ≤ 32 ∧ a = .int .i64 (i : Int) ∧ KE w.heap.size F O b key0 (kz kb i) s w wx ∧ wx.rowIs w.heap.size 34 32 (bytesV kb)) (fun a _ => 32 - (intOf a).toNat)
  case atStart => exact ⟨0, by omega, rfl, t0, b3⟩
  case round =>
    clear t0 b3
    obtain ⟨i, hi, rfl, t0, b3⟩ := hrel
    by_cases hlt : i < 32
    · have c0 : decide ((i : Int) < 32) = true := decide_eq_true (by omega)
      have c1 : (i : Int) < 32 := by omega
      have c2 : (i : Int) < 64 := by omega
      have d1 : wr.cell? ⟨w.heap.size, i, none⟩ = some (.int .u8 (kb i : Int)) := b3.cell hlt
      have d2 : wr.cell? ⟨O, i, none⟩ = some (.int .u8 (kz kb i i : Int)) := t0.ob.cell (by omega)
      have d3 := t0.ob.frozen i
      go_wp2
      go_roundw
      case rel =>
        have := t0.hF
        have := t0.hO
        refine ⟨i + 1, by omega, by go_num, ⟨?_, ?_, t0.hb.setOther (by dsimp only; omega) _, t0.hF, t0.hO, t0.below.setCell (by dsimp only; omega) _, t0.cb, t0.lt⟩, b3.setOther (by dsimp only; omega) _⟩
        · rw [← kz_step]
          exact (t0.ob.set i _).congr (fun j _ => upd_bytesV _ _ _ _)
        · obtain ⟨f, hf⟩ := t0.rb
          exact ⟨f, hf.setOther (by dsimp only; omega) _⟩
      case measure => simp [intOf]; omega
    · have c0 : decide ((i : Int) < 32) = false := decide_eq_false (by omega)
      obtain rfl : i = 32 := by omega
      clear b3
      obtain ⟨v, hv⟩ : ∃ v, kz kb 32 = v := ⟨_, rfl⟩
      rw [hv] at t0
      have hdg := fun W => rdigest_any key0 (keyT kb s) W key0_words (by rw [keyT_size]; omega)
      obtain ⟨D, hD⟩ : ∃ D, dgB (dig key0 (keyT kb s) 0) = D := ⟨_, rfl⟩
      have hks := txt_kz kb s
      rw [hv] at hks
      rw [hD, ← hks] at hdg
      have hDk : keyedV kb s = D := hD
      have hDs := arrA_size 32 (bytesV D)
      have HDk := Lib.hid hDk
      obtain ⟨tk, htk⟩ : ∃ tk, txt 64 v = tk := ⟨_, rfl⟩
      have htl : tk.size ≤ 64 := by rw [← htk, txt_size]; omega
      rw [htk] at hdg
      have Htk := Lib.hid htk
      obtain ⟨h0, hh0⟩ : ∃ h0, key0 = h0 := ⟨_, rfl⟩
      rw [hh0] at hdg t0
      have hfold : #[Value.int IntKind.u32 (h0 0 : Int), Value.int IntKind.u32 (h0 1 : Int), Value.int IntKind.u32 (h0 2 : Int), Value.int IntKind.u32 (h0 3 : Int), Value.int IntKind.u32 (h0 4 : Int), Value.int IntKind.u32 (h0 5 : Int), Value.int IntKind.u32 (h0 6 : Int), Value.int IntKind.u32 (h0 7 : Int)] = arrA 8 (wordsV h0) := rfl
      have hj := fun (W : World) (hc : W.cell? ⟨b, 0, none⟩ = some (.string s)) => joined_any s b W hc hs
      clear hv hD hks hDk htk hh0
      go_upto_region 8 with fail
      have hcat : ¬ 9223372036854775807 < tk.size + s.size := by omega
      have t1 : KE w.heap.size F O b h0 v s w wr.drew := t0.drewN 1
      have hone : ∀ v, v ∈ List.map (bytesV D) (List.range 32) → v.oneCell' = true := fun v hv => by
        obtain ⟨i, _, rfl⟩ := List.mem_map.1 hv
        rfl
      have hinf : (Try.prog.info? 57).map (·.size) = some (List.map (bytesV D) (List.range 32)).length := by rw [siz57]; simp
      go_region_held3 (fun w' => w'.cell? ⟨F, 0, none⟩ = some (.int .u32 (h0 0 : Int)) ∧ w'.cell? ⟨F, 1, none⟩ = some (.int .u32 (h0 1 : Int)) ∧ w'.cell? ⟨F, 2, none⟩ = some (.int .u32 (h0 2 : Int)) ∧ w'.cell? ⟨F, 3, none⟩ = some (.int .u32 (h0 3 : Int)) ∧ w'.cell? ⟨F, 4, none⟩ = some (.int .u32 (h0 4 : Int)) ∧ w'.cell? ⟨F, 5, none⟩ = some (.int .u32 (h0 5 : Int)) ∧ w'.cell? ⟨F, 6, none⟩ = some (.int .u32 (h0 6 : Int)) ∧ w'.cell? ⟨F, 7, none⟩ = some (.int .u32 (h0 7 : Int)) ∧ (convert 46 9 (.slice (some ⟨O, 0, none⟩) 64 64)).run Try.prog w' = .ok (.string tk) w') (first | with_reducible exact t1.held Htk | with_reducible exact tv.held Htk | with_reducible exact (tv.setC D).held Htk) (first
        | (go_at_call 105; refine (hj _ t1.cell).mono ?_; rintro e wz ⟨rfl, rfl⟩)
        | (go_at_call 104; refine (hdg _).mono ?_; rintro e wv ⟨rfl, hbv⟩; have tv := t1.past hbv; obtain ⟨fv, hfv⟩ := tv.rb; have hth := there_row hfv (bytesV D)))
      all_goals
        rw [setCells_row hfv (fun _ => rfl)]
        go_wp2
        refine bodyPost_ret (result_arr rfl _ _ 32 5 57 (w.heap.size + 1) _ rfl (rowIs_setRow hfv _) und57 siz57) rfl ?_
        exact ⟨by rw [HDk.out], below_setRow tv.below (by omega) _⟩
end Go.Proofs.Ytnjcganknpnjcaa
