/- num, seal: rows of texts, boxes: plain. -/
import Derived.Test.YtnjcganknpnjcaaCpE
import Derived.Test.YtnjcganknpnjcaaSlC
namespace Go.Proofs.Ytnjcganknpnjcaa
open Go.RowKit

/-- A number as a length in bytes. -/
def lenL (n : Nat) : List UInt8 := if n < 128 then [UInt8.ofNat n] else UInt8.ofNat (n % 128 + 128) :: lenL (n / 128)
termination_by n
decreasing_by omega
theorem lenL_small (n : Nat) (h : n < 128) : lenL n = [UInt8.ofNat n] := by rw [lenL, if_pos h]
theorem lenL_more (n : Nat) (h : ¬ n < 128) : lenL n = UInt8.ofNat (n % 128 + 128) :: lenL (n / 128) := by rw [lenL, if_neg h]
theorem lenL_length : ∀ n, (lenL n).length ≤ n / 128 + 1 := by
  intro n
  induction n using Nat.strongRecOn with
  | _ n ih =>
    by_cases h : n < 128
    · rw [lenL_small n h]; simp
    · rw [lenL_more n h]
      have := ih (n / 128) (by omega)
      simp
      omega
/-- A row of texts as bytes. -/
def rowL : List ByteArray → List UInt8
  | [] => []
  | s :: r => lenL s.size ++ (s.data.toList ++ rowL r)
theorem rowL_append (a b : List ByteArray) : rowL (a ++ b) = rowL a ++ rowL b := by
  induction a with
  | nil => rfl
  | cons s r ih => simp [rowL, ih]
theorem rowL_snoc (a : List ByteArray) (s : ByteArray) : rowL (a ++ [s]) = rowL a ++ lenL s.size ++ s.data.toList := by
  rw [rowL_append]; simp [rowL]
def rowV (l : List ByteArray) : ByteArray := ⟨(rowL l).toArray⟩
theorem rowV_size (l : List ByteArray) : (rowV l).size = (rowL l).length := by
  show (rowL l).toArray.size = _
  simp
theorem rowL_two (a b : ByteArray) : (rowL [a, b]).length ≤ a.size + a.size / 128 + b.size + b.size / 128 + 2 := by
  have h1 := lenL_length a.size
  have h2 := lenL_length b.size
  have e1 : a.data.toList.length = a.size := by simp
  have e2 : b.data.toList.length = b.size := by simp
  simp only [rowL, List.length_append, List.length_nil]
  omega

def wTag : ByteArray := ⟨#[116, 97, 103]⟩
def wCip : ByteArray := ⟨#[99, 105, 112, 104, 101, 114]⟩
theorem wTag_size : wTag.size = 3 := by kernel_rfl
theorem wCip_size : wCip.size = 6 := by kernel_rfl
/-- What stands ahead of a box's tag. -/
def frontV (kb nb : Nat → Nat) (data : ByteArray) : ByteArray := txt 12 nb ++ xorV (keyedV kb wCip) nb 1 data
def tagV (kb : Nat → Nat) (head front : ByteArray) : ByteArray := txt 32 (keyedV (keyedV kb wTag) (rowV [head, front]))
/-- A box. -/
def sealV (kb nb : Nat → Nat) (head data : ByteArray) : ByteArray := frontV kb nb data ++ tagV kb head (frontV kb nb data)
def boxF (box : ByteArray) : ByteArray := box.extract 0 (box.size - 32)
def boxT (box : ByteArray) : ByteArray := box.extract (box.size - 32) box.size
def boxD (box : ByteArray) : ByteArray := box.extract 12 (box.size - 32)
/-- What a box says, and the error. -/
def openV (kb : Nat → Nat) (head box : ByteArray) : ByteArray × Nat :=
  if box.size < 44 then (⟨#[]⟩, 4) else if tagV kb head (boxF box) = boxT box then (xorV (keyedV kb wCip) (nonV (boxF box)) 1 (boxD box), 0) else (⟨#[]⟩, 5)

theorem frontV_size (kb nb : Nat → Nat) (data : ByteArray) : (frontV kb nb data).size = 12 + data.size := by rw [frontV, ByteArray.size_append, txt_size, xorV_size]
theorem tagV_size (kb : Nat → Nat) (head front : ByteArray) : (tagV kb head front).size = 32 := txt_size _ _
theorem sealV_size (kb nb : Nat → Nat) (head data : ByteArray) : (sealV kb nb head data).size = 44 + data.size := by
  rw [sealV, ByteArray.size_append, frontV_size, tagV_size]; omega
theorem extract_all (s : ByteArray) : s.extract 0 s.size = s :=
  bytes_ext _ _ (by simp) fun i hi => by
    rw [byt_extract _ _ _ _ (by simp at hi; omega) (Nat.le_refl _), Nat.zero_add]
theorem extract_front (a b : ByteArray) : (a ++ b).extract 0 a.size = a :=
  bytes_ext _ _ (by simp) fun i hi => by
    have hi' : i < a.size := by simpa using hi
    rw [byt_extract _ _ _ _ (by omega) (by simp), Nat.zero_add, byt_append, if_pos hi']
theorem extract_back (a b : ByteArray) : (a ++ b).extract a.size (a ++ b).size = b :=
  bytes_ext _ _ (by simp) fun i hi => by
    have hi' : i < b.size := by simpa using hi
    rw [byt_extract _ _ _ _ (by simp; omega) (Nat.le_refl _), byt_append, if_neg (by omega), Nat.add_sub_cancel_left]
theorem boxF_seal (kb nb : Nat → Nat) (head data : ByteArray) : boxF (sealV kb nb head data) = frontV kb nb data := by
  rw [boxF, sealV_size, show 44 + data.size - 32 = (frontV kb nb data).size by rw [frontV_size]; omega, sealV, extract_front]
theorem boxT_seal (kb nb : Nat → Nat) (head data : ByteArray) : boxT (sealV kb nb head data) = tagV kb head (frontV kb nb data) := by
  have h : (sealV kb nb head data).size - 32 = (frontV kb nb data).size := by rw [sealV_size, frontV_size]; omega
  rw [boxT, h, sealV, extract_back]
theorem sealV_byt (kb nb : Nat → Nat) (head data : ByteArray) (i : Nat) (h : i < data.size) : byt (sealV kb nb head data) (12 + i) = (((byt data i).toNat ^^^ strm (keyedV kb wCip) nb 1 i : Nat) : Int) := by
  rw [sealV, byt_append, if_pos (by rw [frontV_size]; omega), frontV, byt_append, if_neg (by rw [txt_size]; omega), txt_size, show 12 + i - 12 = i by omega, xorV_byt _ _ _ _ _ h]
theorem boxD_seal (kb nb : Nat → Nat) (head data : ByteArray) : boxD (sealV kb nb head data) = xorV (keyedV kb wCip) nb 1 data := by
  have hs : (sealV kb nb head data).size - 32 = 12 + data.size := by rw [sealV_size]; omega
  refine bytes_ext _ _ ?_ fun i hi => ?_
  · rw [boxD, hs, xorV_size, ByteArray.size_extract, sealV_size]; omega
  · have hi' : i < data.size := by rw [boxD, hs, ByteArray.size_extract, sealV_size] at hi; omega
    rw [boxD, hs, byt_extract _ _ _ _ (by omega) (by rw [sealV_size]; omega), sealV_byt _ _ _ _ _ hi', xorV_byt _ _ _ _ _ hi']
theorem begC_congr {kb nb nb' : Nat → Nat} (n : Nat) (h : ∀ j, j < 12 → nb j = nb' j) : begC kb nb n = begC kb nb' n := by
  funext j
  unfold begC bgN
  by_cases h1 : j < 12
  · rw [if_pos h1, if_pos h1]
  · rw [if_neg h1, if_neg h1]
    by_cases h2 : j = 12
    · rw [if_pos h2, if_pos h2]
    · rw [if_neg h2, if_neg h2]
      by_cases h3 : j < 13 + 3
      · rw [if_pos h3, if_pos h3, cwA, cwA, h _ (by omega), h _ (by omega), h _ (by omega), h _ (by omega)]
      · rw [if_neg h3, if_neg h3]
theorem xorV_congr {kb nb nb' : Nat → Nat} (n : Nat) (s : ByteArray) (h : ∀ j, j < 12 → nb j = nb' j) : xorV kb nb n s = xorV kb nb' n s := by
  have e : xorF kb nb n s = xorF kb nb' n s := by
    funext i
    unfold xorF strm blkB
    have : ∀ m, blkW kb nb m = blkW kb nb' m := fun m => by unfold blkW; rw [begC_congr m h]
    rw [this]
  rw [xorV, xorV, e]
theorem nonV_front (kb nb : Nat → Nat) (data : ByteArray) (hn : Bytes nb) : ∀ j, j < 12 → nonV (frontV kb nb data) j = nb j := by
  intro j hj
  rw [nonV, if_pos (by rw [frontV_size]; omega), frontV, byt_append, if_pos (by rw [txt_size]; exact hj), byt_txt _ _ hn _ hj]
  simp
/-- What was sealed is opened by the same key and head. -/
theorem open_seal (kb nb : Nat → Nat) (head data : ByteArray) (hn : Bytes nb) : openV kb head (sealV kb nb head data) = (data, 0) := by
  rw [openV, if_neg (by rw [sealV_size]; omega), boxF_seal, boxT_seal, if_pos rfl, boxD_seal, xorV_congr 1 _ (nonV_front kb nb data hn), xorV_xorV]
end Go.Proofs.Ytnjcganknpnjcaa
