/- lz: the words of the plain side: how many bytes stand alike, where four bytes stood last. -/
import Derived.Test.YtnjcganknpnjcaaBase
namespace Go.Proofs.Ytnjcganknpnjcaa

def sameGo (s : ByteArray) (a k : Nat) : Nat → Nat → Nat
  | 0, m => m
  | d + 1, m => if m < 131 ∧ a + m < s.size ∧ byt s (k + m) = byt s (a + m) then sameGo s a k d (m + 1) else m
def sameLen (s : ByteArray) (a k : Nat) : Nat := sameGo s a k 131 0

/-- Four bytes of a text, as a map's key. -/
def four (s : ByteArray) (p : Nat) : ByteArray := s.extract p (p + 4)
def fourL (s : ByteArray) (p : Nat) : List UInt8 := (four s p).data.toList
/-- The last place ahead of k that has these four bytes. -/
def lastOf (s : ByteArray) : Nat → List UInt8 → Option Nat
  | 0, _ => none
  | k + 1, x => if k + 4 ≤ s.size ∧ fourL s k = x then some k else lastOf s k x
def prevOf (s : ByteArray) (j : Nat) : Int :=
  if j + 4 ≤ s.size then (match lastOf s j (fourL s j) with | some p => (p : Int) | none => -1) else -1
def prevs (s : ByteArray) (k : Nat) : List Int := (List.range k).map (prevOf s)
theorem prevs_length (s : ByteArray) (k : Nat) : (prevs s k).length = k := by simp [prevs]
theorem prevs_succ (s : ByteArray) (k : Nat) : prevs s (k + 1) = prevs s k ++ [prevOf s k] := by simp [prevs, List.range_succ]

end Go.Proofs.Ytnjcganknpnjcaa
