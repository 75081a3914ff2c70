/- The head of this program's dump, read sign by sign: it may be entered, it is a cut, nothing is lifted. (By computing alone these three facts cost the kernel thirteen gigabytes: the head lists 22 roots.) -/
import Derived.Test.YtnjcganknpnjcaaRows
import Derived.WalkKit
import Derived.ProofKit
namespace Go.Proofs.Ytnjcganknpnjcaa
def headA : List Char := [Char.ofNat 104, Char.ofNat 97, Char.ofNat 114, Char.ofNat 110, Char.ofNat 101, Char.ofNat 115, Char.ofNat 115, Char.ofNat 32, Char.ofNat 101,
  Char.ofNat 48, Char.ofNat 55, Char.ofNat 53, Char.ofNat 100, Char.ofNat 99, Char.ofNat 54, Char.ofNat 51, Char.ofNat 57, Char.ofNat 102, Char.ofNat 49, Char.ofNat 53, Char.ofNat 98,
  Char.ofNat 57, Char.ofNat 99, Char.ofNat 55, Char.ofNat 102, Char.ofNat 50, Char.ofNat 102, Char.ofNat 100, Char.ofNat 54, Char.ofNat 100, Char.ofNat 54, Char.ofNat 98,
  Char.ofNat 100, Char.ofNat 54, Char.ofNat 53, Char.ofNat 57, Char.ofNat 51, Char.ofNat 52, Char.ofNat 50, Char.ofNat 52, Char.ofNat 54, Char.ofNat 56, Char.ofNat 52, Char.ofNat 50,
  Char.ofNat 101, Char.ofNat 56, Char.ofNat 102, Char.ofNat 54, Char.ofNat 98, Char.ofNat 56, Char.ofNat 97, Char.ofNat 51, Char.ofNat 55, Char.ofNat 50, Char.ofNat 50, Char.ofNat 55,
  Char.ofNat 98, Char.ofNat 102, Char.ofNat 55, Char.ofNat 51, Char.ofNat 57, Char.ofNat 54, Char.ofNat 99, Char.ofNat 57, Char.ofNat 97, Char.ofNat 57, Char.ofNat 54, Char.ofNat 99,
  Char.ofNat 55, Char.ofNat 51, Char.ofNat 55, Char.ofNat 98, Char.ofNat 32, Char.ofNat 99, Char.ofNat 117, Char.ofNat 116]
def headB : List Char := [Char.ofNat 97, Char.ofNat 116, Char.ofNat 32, Char.ofNat 104, Char.ofNat 105, Char.ofNat 98, Char.ofNat 101, Char.ofNat 114, Char.ofNat 110, Char.ofNat 97,
  Char.ofNat 99, Char.ofNat 108, Char.ofNat 101, Char.ofNat 47, Char.ofNat 104, Char.ofNat 105, Char.ofNat 98, Char.ofNat 101, Char.ofNat 114, Char.ofNat 110, Char.ofNat 97,
  Char.ofNat 99, Char.ofNat 108, Char.ofNat 101, Char.ofNat 108, Char.ofNat 97, Char.ofNat 119, Char.ofNat 48, Char.ofNat 56, Char.ofNat 46, Char.ofNat 76, Char.ofNat 122,
  Char.ofNat 80, Char.ofNat 97, Char.ofNat 99, Char.ofNat 107, Char.ofNat 115, Char.ofNat 32, Char.ofNat 104, Char.ofNat 105, Char.ofNat 98, Char.ofNat 101, Char.ofNat 114,
  Char.ofNat 110, Char.ofNat 97, Char.ofNat 99, Char.ofNat 108, Char.ofNat 101, Char.ofNat 47, Char.ofNat 104, Char.ofNat 105, Char.ofNat 98, Char.ofNat 101, Char.ofNat 114,
  Char.ofNat 110, Char.ofNat 97, Char.ofNat 99, Char.ofNat 108, Char.ofNat 101, Char.ofNat 108, Char.ofNat 97, Char.ofNat 119, Char.ofNat 48, Char.ofNat 56, Char.ofNat 46,
  Char.ofNat 76, Char.ofNat 122, Char.ofNat 66, Char.ofNat 97, Char.ofNat 99, Char.ofNat 107, Char.ofNat 32, Char.ofNat 104, Char.ofNat 105, Char.ofNat 98, Char.ofNat 101,
  Char.ofNat 114, Char.ofNat 110, Char.ofNat 97, Char.ofNat 99, Char.ofNat 108, Char.ofNat 101, Char.ofNat 47, Char.ofNat 104, Char.ofNat 105, Char.ofNat 98, Char.ofNat 101,
  Char.ofNat 114, Char.ofNat 110, Char.ofNat 97, Char.ofNat 99, Char.ofNat 108, Char.ofNat 101, Char.ofNat 108, Char.ofNat 97, Char.ofNat 119, Char.ofNat 48, Char.ofNat 56,
  Char.ofNat 46, Char.ofNat 76, Char.ofNat 122, Char.ofNat 85, Char.ofNat 110, Char.ofNat 112, Char.ofNat 97, Char.ofNat 99, Char.ofNat 107, Char.ofNat 115, Char.ofNat 32,
  Char.ofNat 104, Char.ofNat 105, Char.ofNat 98, Char.ofNat 101, Char.ofNat 114, Char.ofNat 110, Char.ofNat 97, Char.ofNat 99, Char.ofNat 108, Char.ofNat 101, Char.ofNat 47,
  Char.ofNat 104, Char.ofNat 105, Char.ofNat 98, Char.ofNat 101, Char.ofNat 114, Char.ofNat 110, Char.ofNat 97, Char.ofNat 99, Char.ofNat 108, Char.ofNat 101, Char.ofNat 108,
  Char.ofNat 97, Char.ofNat 119, Char.ofNat 48, Char.ofNat 56, Char.ofNat 46, Char.ofNat 76, Char.ofNat 122, Char.ofNat 74, Char.ofNat 111, Char.ofNat 105, Char.ofNat 110,
  Char.ofNat 115, Char.ofNat 32, Char.ofNat 104, Char.ofNat 105, Char.ofNat 98, Char.ofNat 101, Char.ofNat 114, Char.ofNat 110, Char.ofNat 97, Char.ofNat 99, Char.ofNat 108,
  Char.ofNat 101, Char.ofNat 47, Char.ofNat 104, Char.ofNat 105, Char.ofNat 98, Char.ofNat 101, Char.ofNat 114, Char.ofNat 110, Char.ofNat 97, Char.ofNat 99, Char.ofNat 108,
  Char.ofNat 101, Char.ofNat 108, Char.ofNat 97, Char.ofNat 119, Char.ofNat 48, Char.ofNat 56, Char.ofNat 46, Char.ofNat 76, Char.ofNat 122, Char.ofNat 67, Char.ofNat 117,
  Char.ofNat 116, Char.ofNat 115, Char.ofNat 32, Char.ofNat 104, Char.ofNat 105, Char.ofNat 98, Char.ofNat 101, Char.ofNat 114, Char.ofNat 110, Char.ofNat 97, Char.ofNat 99,
  Char.ofNat 108, Char.ofNat 101, Char.ofNat 47, Char.ofNat 104, Char.ofNat 105, Char.ofNat 98, Char.ofNat 101, Char.ofNat 114, Char.ofNat 110, Char.ofNat 97, Char.ofNat 99,
  Char.ofNat 108, Char.ofNat 101, Char.ofNat 108, Char.ofNat 97, Char.ofNat 119, Char.ofNat 52, Char.ofNat 51, Char.ofNat 46, Char.ofNat 83, Char.ofNat 101, Char.ofNat 115,
  Char.ofNat 115, Char.ofNat 105, Char.ofNat 111, Char.ofNat 110, Char.ofNat 71, Char.ofNat 111, Char.ofNat 101, Char.ofNat 115, Char.ofNat 32, Char.ofNat 104, Char.ofNat 105,
  Char.ofNat 98, Char.ofNat 101, Char.ofNat 114, Char.ofNat 110, Char.ofNat 97, Char.ofNat 99, Char.ofNat 108, Char.ofNat 101, Char.ofNat 47, Char.ofNat 104, Char.ofNat 105,
  Char.ofNat 98, Char.ofNat 101, Char.ofNat 114, Char.ofNat 110, Char.ofNat 97, Char.ofNat 99, Char.ofNat 108, Char.ofNat 101, Char.ofNat 108, Char.ofNat 97, Char.ofNat 119,
  Char.ofNat 48, Char.ofNat 56, Char.ofNat 46, Char.ofNat 76, Char.ofNat 122, Char.ofNat 82, Char.ofNat 101, Char.ofNat 112, Char.ofNat 101, Char.ofNat 97, Char.ofNat 116,
  Char.ofNat 115, Char.ofNat 32, Char.ofNat 104, Char.ofNat 105, Char.ofNat 98, Char.ofNat 101, Char.ofNat 114, Char.ofNat 110, Char.ofNat 97, Char.ofNat 99, Char.ofNat 108,
  Char.ofNat 101, Char.ofNat 47, Char.ofNat 104, Char.ofNat 105, Char.ofNat 98, Char.ofNat 101, Char.ofNat 114, Char.ofNat 110, Char.ofNat 97, Char.ofNat 99, Char.ofNat 108,
  Char.ofNat 101, Char.ofNat 108, Char.ofNat 97, Char.ofNat 119, Char.ofNat 52, Char.ofNat 51, Char.ofNat 46, Char.ofNat 83, Char.ofNat 101, Char.ofNat 115, Char.ofNat 115,
  Char.ofNat 105, Char.ofNat 111, Char.ofNat 110, Char.ofNat 65, Char.ofNat 110, Char.ofNat 115, Char.ofNat 119, Char.ofNat 101, Char.ofNat 114, Char.ofNat 115, Char.ofNat 32,
  Char.ofNat 104, Char.ofNat 105, Char.ofNat 98, Char.ofNat 101, Char.ofNat 114, Char.ofNat 110, Char.ofNat 97, Char.ofNat 99, Char.ofNat 108, Char.ofNat 101, Char.ofNat 47,
  Char.ofNat 104, Char.ofNat 105, Char.ofNat 98, Char.ofNat 101, Char.ofNat 114, Char.ofNat 110, Char.ofNat 97, Char.ofNat 99, Char.ofNat 108, Char.ofNat 101, Char.ofNat 108,
  Char.ofNat 97, Char.ofNat 119, Char.ofNat 48, Char.ofNat 52, Char.ofNat 46, Char.ofNat 83, Char.ofNat 101, Char.ofNat 97, Char.ofNat 108, Char.ofNat 66, Char.ofNat 111,
  Char.ofNat 120, Char.ofNat 101, Char.ofNat 115, Char.ofNat 32, Char.ofNat 104, Char.ofNat 105, Char.ofNat 98, Char.ofNat 101, Char.ofNat 114, Char.ofNat 110, Char.ofNat 97,
  Char.ofNat 99, Char.ofNat 108, Char.ofNat 101, Char.ofNat 47, Char.ofNat 104, Char.ofNat 105, Char.ofNat 98, Char.ofNat 101, Char.ofNat 114, Char.ofNat 110, Char.ofNat 97,
  Char.ofNat 99, Char.ofNat 108, Char.ofNat 101, Char.ofNat 108, Char.ofNat 97, Char.ofNat 119, Char.ofNat 48, Char.ofNat 52, Char.ofNat 46, Char.ofNat 83, Char.ofNat 101,
  Char.ofNat 97, Char.ofNat 108, Char.ofNat 79, Char.ofNat 112, Char.ofNat 101, Char.ofNat 110, Char.ofNat 115, Char.ofNat 32, Char.ofNat 104, Char.ofNat 105, Char.ofNat 98,
  Char.ofNat 101, Char.ofNat 114, Char.ofNat 110, Char.ofNat 97, Char.ofNat 99, Char.ofNat 108, Char.ofNat 101, Char.ofNat 47, Char.ofNat 104, Char.ofNat 105, Char.ofNat 98,
  Char.ofNat 101, Char.ofNat 114, Char.ofNat 110, Char.ofNat 97, Char.ofNat 99, Char.ofNat 108, Char.ofNat 101, Char.ofNat 108, Char.ofNat 97, Char.ofNat 119, Char.ofNat 48,
  Char.ofNat 52, Char.ofNat 46, Char.ofNat 83, Char.ofNat 101, Char.ofNat 97, Char.ofNat 108, Char.ofNat 66, Char.ofNat 101, Char.ofNat 110, Char.ofNat 116, Char.ofNat 32,
  Char.ofNat 104, Char.ofNat 105, Char.ofNat 98, Char.ofNat 101, Char.ofNat 114, Char.ofNat 110, Char.ofNat 97, Char.ofNat 99, Char.ofNat 108, Char.ofNat 101, Char.ofNat 47,
  Char.ofNat 104, Char.ofNat 105, Char.ofNat 98, Char.ofNat 101, Char.ofNat 114, Char.ofNat 110, Char.ofNat 97, Char.ofNat 99, Char.ofNat 108, Char.ofNat 101, Char.ofNat 108,
  Char.ofNat 97, Char.ofNat 119, Char.ofNat 48, Char.ofNat 52, Char.ofNat 46, Char.ofNat 83, Char.ofNat 101, Char.ofNat 97, Char.ofNat 108, Char.ofNat 75, Char.ofNat 101,
  Char.ofNat 121, Char.ofNat 115, Char.ofNat 32, Char.ofNat 104, Char.ofNat 105, Char.ofNat 98, Char.ofNat 101, Char.ofNat 114, Char.ofNat 110, Char.ofNat 97, Char.ofNat 99,
  Char.ofNat 108, Char.ofNat 101, Char.ofNat 47, Char.ofNat 104, Char.ofNat 105, Char.ofNat 98, Char.ofNat 101, Char.ofNat 114, Char.ofNat 110, Char.ofNat 97, Char.ofNat 99,
  Char.ofNat 108, Char.ofNat 101, Char.ofNat 108, Char.ofNat 97, Char.ofNat 119, Char.ofNat 48, Char.ofNat 52, Char.ofNat 46, Char.ofNat 83, Char.ofNat 101, Char.ofNat 97,
  Char.ofNat 108, Char.ofNat 78, Char.ofNat 111, Char.ofNat 110, Char.ofNat 99, Char.ofNat 101, Char.ofNat 115, Char.ofNat 32, Char.ofNat 104, Char.ofNat 105, Char.ofNat 98,
  Char.ofNat 101, Char.ofNat 114, Char.ofNat 110, Char.ofNat 97, Char.ofNat 99, Char.ofNat 108, Char.ofNat 101, Char.ofNat 47, Char.ofNat 104, Char.ofNat 105, Char.ofNat 98,
  Char.ofNat 101, Char.ofNat 114, Char.ofNat 110, Char.ofNat 97, Char.ofNat 99, Char.ofNat 108, Char.ofNat 101, Char.ofNat 108, Char.ofNat 97, Char.ofNat 119, Char.ofNat 48,
  Char.ofNat 52, Char.ofNat 46, Char.ofNat 83, Char.ofNat 101, Char.ofNat 97, Char.ofNat 108, Char.ofNat 84, Char.ofNat 97, Char.ofNat 103, Char.ofNat 115, Char.ofNat 32,
  Char.ofNat 104, Char.ofNat 105, Char.ofNat 98, Char.ofNat 101, Char.ofNat 114, Char.ofNat 110, Char.ofNat 97, Char.ofNat 99, Char.ofNat 108, Char.ofNat 101, Char.ofNat 47,
  Char.ofNat 104, Char.ofNat 105, Char.ofNat 98, Char.ofNat 101, Char.ofNat 114, Char.ofNat 110, Char.ofNat 97, Char.ofNat 99, Char.ofNat 108, Char.ofNat 101, Char.ofNat 108,
  Char.ofNat 97, Char.ofNat 119, Char.ofNat 48, Char.ofNat 52, Char.ofNat 46, Char.ofNat 83, Char.ofNat 101, Char.ofNat 97, Char.ofNat 108, Char.ofNat 83, Char.ofNat 116,
  Char.ofNat 114, Char.ofNat 101, Char.ofNat 97, Char.ofNat 109, Char.ofNat 115, Char.ofNat 32, Char.ofNat 104, Char.ofNat 105, Char.ofNat 98, Char.ofNat 101, Char.ofNat 114,
  Char.ofNat 110, Char.ofNat 97, Char.ofNat 99, Char.ofNat 108, Char.ofNat 101, Char.ofNat 47, Char.ofNat 104, Char.ofNat 105, Char.ofNat 98, Char.ofNat 101, Char.ofNat 114,
  Char.ofNat 110, Char.ofNat 97, Char.ofNat 99, Char.ofNat 108, Char.ofNat 101, Char.ofNat 108, Char.ofNat 97, Char.ofNat 119, Char.ofNat 48, Char.ofNat 56, Char.ofNat 46,
  Char.ofNat 76, Char.ofNat 122, Char.ofNat 83, Char.ofNat 101, Char.ofNat 97, Char.ofNat 108, Char.ofNat 101, Char.ofNat 100, Char.ofNat 32, Char.ofNat 104, Char.ofNat 105,
  Char.ofNat 98, Char.ofNat 101, Char.ofNat 114, Char.ofNat 110, Char.ofNat 97, Char.ofNat 99, Char.ofNat 108, Char.ofNat 101, Char.ofNat 47, Char.ofNat 104, Char.ofNat 105,
  Char.ofNat 98, Char.ofNat 101, Char.ofNat 114, Char.ofNat 110, Char.ofNat 97, Char.ofNat 99, Char.ofNat 108, Char.ofNat 101, Char.ofNat 108, Char.ofNat 97, Char.ofNat 119,
  Char.ofNat 52, Char.ofNat 51, Char.ofNat 46, Char.ofNat 83, Char.ofNat 101, Char.ofNat 115, Char.ofNat 115, Char.ofNat 105, Char.ofNat 111, Char.ofNat 110, Char.ofNat 79,
  Char.ofNat 110, Char.ofNat 99, Char.ofNat 101, Char.ofNat 32, Char.ofNat 104, Char.ofNat 105, Char.ofNat 98, Char.ofNat 101, Char.ofNat 114, Char.ofNat 110, Char.ofNat 97,
  Char.ofNat 99, Char.ofNat 108, Char.ofNat 101, Char.ofNat 47, Char.ofNat 104, Char.ofNat 105, Char.ofNat 98, Char.ofNat 101, Char.ofNat 114, Char.ofNat 110, Char.ofNat 97,
  Char.ofNat 99, Char.ofNat 108, Char.ofNat 101, Char.ofNat 108, Char.ofNat 97, Char.ofNat 119, Char.ofNat 52, Char.ofNat 51, Char.ofNat 46, Char.ofNat 83, Char.ofNat 101,
  Char.ofNat 115, Char.ofNat 115, Char.ofNat 105, Char.ofNat 111, Char.ofNat 110, Char.ofNat 66, Char.ofNat 101, Char.ofNat 110, Char.ofNat 116, Char.ofNat 32, Char.ofNat 104,
  Char.ofNat 105, Char.ofNat 98, Char.ofNat 101, Char.ofNat 114, Char.ofNat 110, Char.ofNat 97, Char.ofNat 99, Char.ofNat 108, Char.ofNat 101, Char.ofNat 47, Char.ofNat 104,
  Char.ofNat 105, Char.ofNat 98, Char.ofNat 101, Char.ofNat 114, Char.ofNat 110, Char.ofNat 97, Char.ofNat 99, Char.ofNat 108, Char.ofNat 101, Char.ofNat 108, Char.ofNat 97,
  Char.ofNat 119, Char.ofNat 52, Char.ofNat 51, Char.ofNat 46, Char.ofNat 83, Char.ofNat 101, Char.ofNat 115, Char.ofNat 115, Char.ofNat 105, Char.ofNat 111, Char.ofNat 110,
  Char.ofNat 70, Char.ofNat 97, Char.ofNat 114, Char.ofNat 32, Char.ofNat 104, Char.ofNat 105, Char.ofNat 98, Char.ofNat 101, Char.ofNat 114, Char.ofNat 110, Char.ofNat 97,
  Char.ofNat 99, Char.ofNat 108, Char.ofNat 101, Char.ofNat 47, Char.ofNat 104, Char.ofNat 105, Char.ofNat 98, Char.ofNat 101, Char.ofNat 114, Char.ofNat 110, Char.ofNat 97,
  Char.ofNat 99, Char.ofNat 108, Char.ofNat 101, Char.ofNat 108, Char.ofNat 97, Char.ofNat 119, Char.ofNat 52, Char.ofNat 51, Char.ofNat 46, Char.ofNat 83, Char.ofNat 101,
  Char.ofNat 115, Char.ofNat 115, Char.ofNat 105, Char.ofNat 111, Char.ofNat 110, Char.ofNat 79, Char.ofNat 116, Char.ofNat 104, Char.ofNat 101, Char.ofNat 114, Char.ofNat 32,
  Char.ofNat 104, Char.ofNat 105, Char.ofNat 98, Char.ofNat 101, Char.ofNat 114, Char.ofNat 110, Char.ofNat 97, Char.ofNat 99, Char.ofNat 108, Char.ofNat 101, Char.ofNat 47,
  Char.ofNat 104, Char.ofNat 105, Char.ofNat 98, Char.ofNat 101, Char.ofNat 114, Char.ofNat 110, Char.ofNat 97, Char.ofNat 99, Char.ofNat 108, Char.ofNat 101, Char.ofNat 108,
  Char.ofNat 97, Char.ofNat 119, Char.ofNat 52, Char.ofNat 51, Char.ofNat 46, Char.ofNat 83, Char.ofNat 101, Char.ofNat 115, Char.ofNat 115, Char.ofNat 105, Char.ofNat 111,
  Char.ofNat 110, Char.ofNat 83, Char.ofNat 101, Char.ofNat 110, Char.ofNat 100, Char.ofNat 115, Char.ofNat 32, Char.ofNat 104, Char.ofNat 105, Char.ofNat 98, Char.ofNat 101,
  Char.ofNat 114, Char.ofNat 110, Char.ofNat 97, Char.ofNat 99, Char.ofNat 108, Char.ofNat 101, Char.ofNat 47, Char.ofNat 104, Char.ofNat 105, Char.ofNat 98, Char.ofNat 101,
  Char.ofNat 114, Char.ofNat 110, Char.ofNat 97, Char.ofNat 99, Char.ofNat 108, Char.ofNat 101, Char.ofNat 108, Char.ofNat 97, Char.ofNat 119, Char.ofNat 52, Char.ofNat 51,
  Char.ofNat 46, Char.ofNat 83, Char.ofNat 101, Char.ofNat 115, Char.ofNat 115, Char.ofNat 105, Char.ofNat 111, Char.ofNat 110, Char.ofNat 84, Char.ofNat 97, Char.ofNat 107,
  Char.ofNat 101, Char.ofNat 115]
theorem head_is : Try.pinned.checked.prog.initOrder = String.ofList (headA ++ Char.ofNat 32 :: headB) := by kernel_rfl
theorem head_list : Try.pinned.checked.prog.initOrder.toList = headA ++ Char.ofNat 32 :: headB := by rw [head_is, String.toList_ofList]
theorem words_append (b : List Char) : ∀ a : List Char, wordsSigns (a ++ Char.ofNat 32 :: b) = wordsSigns a ++ wordsSigns b
  | [] => rfl
  | c :: a => by
    have ih := words_append b a
    by_cases hc : c = Char.ofNat 32
    · subst hc
      show [] :: wordsSigns (a ++ Char.ofNat 32 :: b) = ([] :: wordsSigns a) ++ wordsSigns b
      rw [ih]
      rfl
    · have e : ∀ r : List Char, wordsSigns (c :: r) = (match wordsSigns r with | w :: ws => (c :: w) :: ws | [] => [[c]]) := by
        intro r
        rw [wordsSigns]
        · rfl
        · exact hc
      rw [List.cons_append, e, e, ih]
      cases h : wordsSigns a with
      | nil =>
        exfalso
        cases a with
        | nil => cases h
        | cons d a =>
          rw [wordsSigns.eq_def] at h
          split at h <;> try contradiction
          split at h <;> contradiction
      | cons w ws => rfl
theorem words_A : wordsSigns headA = [headA.take 7, (headA.drop 8).take 64, headA.drop 73] := by kernel_rfl
theorem behind_A (R : List (List Char)) : behindMainWord (headA.take 7 :: (headA.drop 8).take 64 :: headA.drop 73 :: R) = "cut".toList :: R := by kernel_rfl
theorem strip_A (R : List (List Char)) : stripLifts liftWords ("cut".toList :: R) = ([], "cut".toList :: R) := by kernel_rfl
theorem may_enter_of (P : Program) (h : P.initOrder.toList = headA ++ Char.ofNat 32 :: headB) (l : P.laysLater = false) (b : P.bearsReflect = false) (d : P.doorFits [] = true) : P.mayEnter = true := by
  unfold Program.mayEnter
  rw [h, words_append, words_A, List.cons_append, List.cons_append, List.cons_append, List.nil_append, behind_A]
  generalize wordsSigns headB = R
  simp only [strip_A, l, b, d]
  simp
theorem may_enter : Try.pinned.checked.prog.mayEnter = true :=
  may_enter_of Try.pinned.checked.prog head_list (by kernel_rfl) (by kernel_rfl) (by kernel_rfl)
theorem lifts_of (P : Program) (h : P.initOrder.toList = headA ++ Char.ofNat 32 :: headB) : P.liftsFinal = false := by
  unfold Program.liftsFinal Program.headLifts
  rw [h, words_append, words_A, List.cons_append, List.cons_append, List.cons_append, List.nil_append, behind_A]
  generalize wordsSigns headB = R
  simp only [strip_A]
  simp
theorem make_of (P : Program) (h : P.initOrder.toList = headA ++ Char.ofNat 32 :: headB) : P.make = some .cut := by
  unfold Program.make
  rw [h, words_append, words_A, List.cons_append, List.cons_append, List.cons_append, List.nil_append, behind_A]
  generalize wordsSigns headB = R
  simp
theorem lifts : Try.pinned.checked.prog.liftsFinal = false := lifts_of _ head_list
theorem make_ : Try.pinned.checked.prog.make = some .cut := make_of _ head_list
theorem and_of {a b : Bool} (ha : a = true) (hb : b = true) : (a && b) = true := by rw [ha, hb]; rfl
theorem beq_no {a b : Bool} (h : b = false) (ha : a = false) : (a == b) = true := by rw [h, ha]; rfl
theorem beq_make {a : Option Make} {b : Make} (h : a = some .cut) (hb : b = .cut) : (a == some b) = true := by rw [h, hb]; rfl
end Go.Proofs.Ytnjcganknpnjcaa
