/- cipher: bytes, turned by the stream: plain; a row of bytes of the call's own. -/
import Derived.Test.YtnjcganknpnjcaaCpD
import Derived.Test.YtnjcganknpnjcaaHsG
import Derived.Laws.IdiomStrings
namespace Go.Proofs.Ytnjcganknpnjcaa
open Go.RowKit

theorem byt_txt (n : Nat) (v : Nat → Nat) (hv : Bytes v) (i : Nat) (h : i < n) : byt (txt n v) i = (v i : Int) := by
  have e : (txt n v) = ⟨((List.range n).map fun i => UInt8.ofNat (v i)).toArray⟩ := rfl
  rw [e, byt_list _ _ (by simpa using h)]
  have := hv i
  simp
  omega
theorem bytes_ext (a b : ByteArray) (h : a.size = b.size) (hb : ∀ i, i < a.size → byt a i = byt b i) : a = b := by
  apply ByteArray.ext
  apply Array.ext
  · exact h
  · intro i h1 h2
    have := hb i h1
    have k1 : i < a.size := h1
    have k2 : i < b.size := h2
    unfold byt at this
    rw [dif_pos k1, dif_pos k2] at this
    have h3 : (a[i]'k1).toNat = (b[i]'k2).toNat := Int.ofNat.inj this
    exact UInt8.toNat_inj.1 h3
theorem byt_append (a b : ByteArray) (i : Nat) : byt (a ++ b) i = if i < a.size then byt a i else byt b (i - a.size) := by
  unfold byt
  by_cases h : i < a.size
  · rw [if_pos h, dif_pos (by rw [ByteArray.size_append]; omega), dif_pos h]
    congr 2
    exact ByteArray.getElem_append_left h
  · rw [if_neg h]
    by_cases h2 : i < a.size + b.size
    · rw [dif_pos (by rw [ByteArray.size_append]; omega), dif_pos (by omega)]
      congr 2
      exact ByteArray.getElem_append_right (by omega)
    · rw [dif_neg (by rw [ByteArray.size_append]; omega), dif_neg (by omega)]

theorem blkB_bytes (kb nb : Nat → Nat) (n : Nat) : Bytes (blkB kb nb n) := dgB_bytes _
/-- The stream's byte number i, from the block n on. -/
def strm (kb nb : Nat → Nat) (n i : Nat) : Nat := blkB kb nb ((n + i / 64) % 4294967296) (i % 64)
theorem strm_lt (kb nb : Nat → Nat) (n i : Nat) : strm kb nb n i < 256 := blkB_bytes _ _ _ _
def xorF (kb nb : Nat → Nat) (n : Nat) (s : ByteArray) : Nat → Nat := fun i => (byt s i).toNat ^^^ strm kb nb n i
theorem xorF_bytes (kb nb : Nat → Nat) (n : Nat) (s : ByteArray) : Bytes (xorF kb nb n s) := fun i => Nat.xor_lt_two_pow (n := 8) (byt_toNat_lt s i) (strm_lt kb nb n i)
/-- Bytes, turned by the stream from the block n on. -/
def xorV (kb nb : Nat → Nat) (n : Nat) (s : ByteArray) : ByteArray := txt s.size (xorF kb nb n s)
theorem xorV_size (kb nb : Nat → Nat) (n : Nat) (s : ByteArray) : (xorV kb nb n s).size = s.size := txt_size _ _
theorem xorV_byt (kb nb : Nat → Nat) (n : Nat) (s : ByteArray) (i : Nat) (h : i < s.size) : byt (xorV kb nb n s) i = (((byt s i).toNat ^^^ strm kb nb n i : Nat) : Int) :=
  byt_txt _ _ (xorF_bytes _ _ _ _) i h
theorem xorV_xorV (kb nb : Nat → Nat) (n : Nat) (s : ByteArray) : xorV kb nb n (xorV kb nb n s) = s := by
  refine bytes_ext _ _ (by rw [xorV_size, xorV_size]) fun i hi => ?_
  rw [xorV_size, xorV_size] at hi
  rw [xorV_byt _ _ _ _ _ (by rw [xorV_size]; exact hi), xorV_byt _ _ _ _ _ hi, Int.toNat_natCast, Nat.xor_assoc, Nat.xor_self, Nat.xor_zero]
  have := byt_range s i
  omega
/-- What stands where i bytes are turned. -/
def xorP (kb nb : Nat → Nat) (n : Nat) (s : ByteArray) (i : Nat) : Nat → Nat := fun j => if j < i then xorF kb nb n s j else (byt s j).toNat
theorem xorP_step (kb nb : Nat → Nat) (n : Nat) (s : ByteArray) (i : Nat) : upd (xorP kb nb n s i) i (xorF kb nb n s i) = xorP kb nb n s (i + 1) := by
  funext j
  unfold upd xorP
  by_cases e : j = i
  · rw [if_pos e, if_pos (by omega), e]
  · rw [if_neg e]
    by_cases h2 : j < i
    · rw [if_pos h2, if_pos (by omega)]
    · rw [if_neg h2, if_neg (by omega)]

/-- A row of bytes that a conversion has laid: n of them known; one place behind its last cell bears the mark. -/
def BRow (w : World) (b n : Nat) (v : Nat → Nat) : Prop :=
  ∃ c : Array Value, w.heap[b]? = some (.cells c 5 (c.size, c.size + 1)) ∧ n ≤ c.size ∧ ∀ i, i < n → c[i]? = some (bytesV v i)
theorem BRow.lt {w : World} {b n : Nat} {v : Nat → Nat} (h : BRow w b n v) : b < w.heap.size := by
  obtain ⟨c, hb, _⟩ := h
  exact (Array.getElem?_eq_some_iff.1 hb).1
theorem BRow.of_block {w w' : World} {b n : Nat} {v : Nat → Nat} (h : BRow w b n v) (e : w'.heap[b]? = w.heap[b]?) : BRow w' b n v := by
  obtain ⟨c, hb, r⟩ := h
  exact ⟨c, e.trans hb, r⟩
theorem BRow.alloc {w : World} {b n : Nat} {v : Nat → Nat} (h : BRow w b n v) (o : Obj) : BRow (w.alloc o) b n v := h.of_block (Below.heap_alloc w o b h.lt)
theorem BRow.cell {w : World} {b n : Nat} {v : Nat → Nat} (h : BRow w b n v) {i : Nat} (hi : i < n) : w.cell? ⟨b, i, none⟩ = some (.int .u8 (v i : Int)) := by
  obtain ⟨c, hb, _, hc⟩ := h
  rw [cell_of_row _ _ _ _ _ _ hb]
  exact hc i hi
theorem BRow.frozen {w : World} {b n : Nat} {v : Nat → Nat} (h : BRow w b n v) {i : Nat} (hi : i < n) : w.frozen? ⟨b, i, none⟩ = false := by
  obtain ⟨c, hb, hn, _⟩ := h
  unfold World.frozen?
  rw [hb]
  simp
  omega
theorem BRow.congr {w : World} {b n : Nat} {v v' : Nat → Nat} (h : BRow w b n v) (e : ∀ i, i < n → v i = v' i) : BRow w b n v' := by
  obtain ⟨c, hb, hn, hc⟩ := h
  exact ⟨c, hb, hn, fun i hi => by rw [hc i hi, bytesV, bytesV, e i hi]⟩
theorem BRow.put {w : World} {b n : Nat} {v : Nat → Nat} (h : BRow w b n v) {i : Nat} (hi : i < n) (x : Nat) : BRow (w.setCell ⟨b, i, none⟩ (.int .u8 (x : Int))) b n (upd v i x) := by
  obtain ⟨c, hb, hn, hc⟩ := h
  refine ⟨c.setIfInBounds i (.int .u8 (x : Int)), ?_, by simpa using hn, fun j hj => ?_⟩
  · show (w.heap.modify b _)[b]? = _
    rw [Array.getElem?_modify, if_pos rfl, hb]
    simp
  · rw [Array.getElem?_setIfInBounds]
    by_cases e : i = j
    · subst e
      rw [if_pos rfl, if_pos (by omega)]
      simp [bytesV, upd]
    · rw [if_neg e, hc j hj]
      unfold bytesV upd
      rw [if_neg (by omega)]
theorem BRow.setOther {w : World} {b n : Nat} {v : Nat → Nat} (h : BRow w b n v) {p : Addr} (hne : p.block ≠ b) (x : Value) : BRow (w.setCell p x) b n v := by
  refine h.of_block ?_
  show (w.heap.modify p.block _)[b]? = _
  rw [Array.getElem?_modify, if_neg hne]
theorem BRow.setRowOther {w : World} {b b' n : Nat} {v : Nat → Nat} (h : BRow w b n v) (hne : b ≠ b') (c : Array Value) : BRow (w.setRow b' c) b n v := h.of_block (setRow_other w b' b c hne)
/-- '[]byte(s)'. -/
theorem conv_str (w : World) (s : ByteArray) : ∃ cap w', (convert 9 46 (.string s)).run Try.prog w = .ok (.slice (some ⟨w.heap.size, 0, none⟩) s.size cap) w' ∧ BRow w' w.heap.size s.size (fun i => (byt s i).toNat) ∧ Below w.heap.size w w' ∧ w'.heap.size = w.heap.size + 1 := by
  refine ⟨_, _, run_bytes_of_string w 9 46 5 s Try.underlying9 Try.underlying46 Try.underlying5, ⟨bytesRow s (grownCap w s.size 0 5), heap_new w.drew _, ?_, ?_⟩, (Below.refl _ w).drew.alloc (Nat.le_refl _) _, ?_⟩
  · simp [bytesRow]
  · intro i hi
    have hi' : i < s.data.size := hi
    rw [bytesRow, Array.getElem?_append_left (by simpa using hi)]
    have hb := byt_range s i
    have hv : (((byt s i).toNat : Nat) : Int) = ((s[i]'hi).toNat : Int) := by
      rw [byt_at s i hi]
      omega
    rw [bytesV, hv]
    have e1 : s.data[i]? = some (s[i]'hi) := Array.getElem?_eq_getElem hi'
    rw [Array.getElem?_map, e1]
    rfl
  · show (w.heap.push _).size = _
    simp
/-- 'string(b)' of such a row. -/
theorem conv_brow {w : World} {b n c : Nat} {v : Nat → Nat} (h : BRow w b n v) : (convert 46 9 (.slice (some ⟨b, 0, none⟩) n c)).run Try.prog w = .ok (.string (txt n v)) w := by
  rw [run_convert_bytes_arg w 46 5 Try.underlying46 Try.underlying5 b 0 n c ((List.range n).map fun i => (v i : Int)) (by simp) (fun i hi => by rw [Nat.zero_add, h.cell hi]; simp [List.getD, hi]) 9 Try.underlying9]
  have : strOfNums ((List.range n).map fun i => (v i : Int)) = txt n v := by
    unfold strOfNums txt
    congr 1
    simp [Function.comp_def]
  rw [this]
end Go.Proofs.Ytnjcganknpnjcaa
