/- The head of this program's dump, read sign by sign: it may be entered, it is a cut, nothing is lifted. (By computing alone these three facts cost the kernel thirteen gigabytes: the head lists 22 roots.) -/
import Derived.Test.YtnjcganknpnjcaaRows
import Derived.WalkKit
import Derived.ProofKit
import Derived.Below
import Derived.ChangeSame
set_option linter.unusedVariables false
set_option linter.unusedSimpArgs false
namespace Go.Proofs.Ytnjcganknpnjcaa
def headA : List Char := [Char.ofNat 104, Char.ofNat 97, Char.ofNat 114, Char.ofNat 110, Char.ofNat 101, Char.ofNat 115, Char.ofNat 115, Char.ofNat 32, Char.ofNat 101,
  Char.ofNat 48, Char.ofNat 55, Char.ofNat 53, Char.ofNat 100, Char.ofNat 99, Char.ofNat 54, Char.ofNat 51, Char.ofNat 57, Char.ofNat 102, Char.ofNat 49, Char.ofNat 53, Char.ofNat 98,
  Char.ofNat 57, Char.ofNat 99, Char.ofNat 55, Char.ofNat 102, Char.ofNat 50, Char.ofNat 102, Char.ofNat 100, Char.ofNat 54, Char.ofNat 100, Char.ofNat 54, Char.ofNat 98,
  Char.ofNat 100, Char.ofNat 54, Char.ofNat 53, Char.ofNat 57, Char.ofNat 51, Char.ofNat 52, Char.ofNat 50, Char.ofNat 52, Char.ofNat 54, Char.ofNat 56, Char.ofNat 52, Char.ofNat 50,
  Char.ofNat 101, Char.ofNat 56, Char.ofNat 102, Char.ofNat 54, Char.ofNat 98, Char.ofNat 56, Char.ofNat 97, Char.ofNat 51, Char.ofNat 55, Char.ofNat 50, Char.ofNat 50, Char.ofNat 55,
  Char.ofNat 98, Char.ofNat 102, Char.ofNat 55, Char.ofNat 51, Char.ofNat 57, Char.ofNat 54, Char.ofNat 99, Char.ofNat 57, Char.ofNat 97, Char.ofNat 57, Char.ofNat 54, Char.ofNat 99,
  Char.ofNat 55, Char.ofNat 51, Char.ofNat 55, Char.ofNat 98, Char.ofNat 32, Char.ofNat 99, Char.ofNat 117, Char.ofNat 116]
def headB : List Char := [Char.ofNat 97, Char.ofNat 116, Char.ofNat 32, Char.ofNat 104, Char.ofNat 105, Char.ofNat 98, Char.ofNat 101, Char.ofNat 114, Char.ofNat 110, Char.ofNat 97,
  Char.ofNat 99, Char.ofNat 108, Char.ofNat 101, Char.ofNat 47, Char.ofNat 104, Char.ofNat 105, Char.ofNat 98, Char.ofNat 101, Char.ofNat 114, Char.ofNat 110, Char.ofNat 97,
  Char.ofNat 99, Char.ofNat 108, Char.ofNat 101, Char.ofNat 108, Char.ofNat 97, Char.ofNat 119, Char.ofNat 48, Char.ofNat 56, Char.ofNat 46, Char.ofNat 76, Char.ofNat 122,
  Char.ofNat 80, Char.ofNat 97, Char.ofNat 99, Char.ofNat 107, Char.ofNat 115, Char.ofNat 32, Char.ofNat 104, Char.ofNat 105, Char.ofNat 98, Char.ofNat 101, Char.ofNat 114,
  Char.ofNat 110, Char.ofNat 97, Char.ofNat 99, Char.ofNat 108, Char.ofNat 101, Char.ofNat 47, Char.ofNat 104, Char.ofNat 105, Char.ofNat 98, Char.ofNat 101, Char.ofNat 114,
  Char.ofNat 110, Char.ofNat 97, Char.ofNat 99, Char.ofNat 108, Char.ofNat 101, Char.ofNat 108, Char.ofNat 97, Char.ofNat 119, Char.ofNat 48, Char.ofNat 56, Char.ofNat 46,
  Char.ofNat 76, Char.ofNat 122, Char.ofNat 66, Char.ofNat 97, Char.ofNat 99, Char.ofNat 107, Char.ofNat 32, Char.ofNat 104, Char.ofNat 105, Char.ofNat 98, Char.ofNat 101,
  Char.ofNat 114, Char.ofNat 110, Char.ofNat 97, Char.ofNat 99, Char.ofNat 108, Char.ofNat 101, Char.ofNat 47, Char.ofNat 104, Char.ofNat 105, Char.ofNat 98, Char.ofNat 101,
  Char.ofNat 114, Char.ofNat 110, Char.ofNat 97, Char.ofNat 99, Char.ofNat 108, Char.ofNat 101, Char.ofNat 108, Char.ofNat 97, Char.ofNat 119, Char.ofNat 48, Char.ofNat 56,
  Char.ofNat 46, Char.ofNat 76, Char.ofNat 122, Char.ofNat 85, Char.ofNat 110, Char.ofNat 112, Char.ofNat 97, Char.ofNat 99, Char.ofNat 107, Char.ofNat 115, Char.ofNat 32,
  Char.ofNat 104, Char.ofNat 105, Char.ofNat 98, Char.ofNat 101, Char.ofNat 114, Char.ofNat 110, Char.ofNat 97, Char.ofNat 99, Char.ofNat 108, Char.ofNat 101, Char.ofNat 47,
  Char.ofNat 104, Char.ofNat 105, Char.ofNat 98, Char.ofNat 101, Char.ofNat 114, Char.ofNat 110, Char.ofNat 97, Char.ofNat 99, Char.ofNat 108, Char.ofNat 101, Char.ofNat 108,
  Char.ofNat 97, Char.ofNat 119, Char.ofNat 48, Char.ofNat 56, Char.ofNat 46, Char.ofNat 76, Char.ofNat 122, Char.ofNat 74, Char.ofNat 111, Char.ofNat 105, Char.ofNat 110,
  Char.ofNat 115, Char.ofNat 32, Char.ofNat 104, Char.ofNat 105, Char.ofNat 98, Char.ofNat 101, Char.ofNat 114, Char.ofNat 110, Char.ofNat 97, Char.ofNat 99, Char.ofNat 108,
  Char.ofNat 101, Char.ofNat 47, Char.ofNat 104, Char.ofNat 105, Char.ofNat 98, Char.ofNat 101, Char.ofNat 114, Char.ofNat 110, Char.ofNat 97, Char.ofNat 99, Char.ofNat 108,
  Char.ofNat 101, Char.ofNat 108, Char.ofNat 97, Char.ofNat 119, Char.ofNat 48, Char.ofNat 56, Char.ofNat 46, Char.ofNat 76, Char.ofNat 122, Char.ofNat 67, Char.ofNat 117,
  Char.ofNat 116, Char.ofNat 115, Char.ofNat 32, Char.ofNat 104, Char.ofNat 105, Char.ofNat 98, Char.ofNat 101, Char.ofNat 114, Char.ofNat 110, Char.ofNat 97, Char.ofNat 99,
  Char.ofNat 108, Char.ofNat 101, Char.ofNat 47, Char.ofNat 104, Char.ofNat 105, Char.ofNat 98, Char.ofNat 101, Char.ofNat 114, Char.ofNat 110, Char.ofNat 97, Char.ofNat 99,
  Char.ofNat 108, Char.ofNat 101, Char.ofNat 108, Char.ofNat 97, Char.ofNat 119, Char.ofNat 52, Char.ofNat 51, Char.ofNat 46, Char.ofNat 83, Char.ofNat 101, Char.ofNat 115,
  Char.ofNat 115, Char.ofNat 105, Char.ofNat 111, Char.ofNat 110, Char.ofNat 71, Char.ofNat 111, Char.ofNat 101, Char.ofNat 115, Char.ofNat 32, Char.ofNat 104, Char.ofNat 105,
  Char.ofNat 98, Char.ofNat 101, Char.ofNat 114, Char.ofNat 110, Char.ofNat 97, Char.ofNat 99, Char.ofNat 108, Char.ofNat 101, Char.ofNat 47, Char.ofNat 104, Char.ofNat 105,
  Char.ofNat 98, Char.ofNat 101, Char.ofNat 114, Char.ofNat 110, Char.ofNat 97, Char.ofNat 99, Char.ofNat 108, Char.ofNat 101, Char.ofNat 108, Char.ofNat 97, Char.ofNat 119,
  Char.ofNat 48, Char.ofNat 56, Char.ofNat 46, Char.ofNat 76, Char.ofNat 122, Char.ofNat 82, Char.ofNat 101, Char.ofNat 112, Char.ofNat 101, Char.ofNat 97, Char.ofNat 116,
  Char.ofNat 115, Char.ofNat 32, Char.ofNat 104, Char.ofNat 105, Char.ofNat 98, Char.ofNat 101, Char.ofNat 114, Char.ofNat 110, Char.ofNat 97, Char.ofNat 99, Char.ofNat 108,
  Char.ofNat 101, Char.ofNat 47, Char.ofNat 104, Char.ofNat 105, Char.ofNat 98, Char.ofNat 101, Char.ofNat 114, Char.ofNat 110, Char.ofNat 97, Char.ofNat 99, Char.ofNat 108,
  Char.ofNat 101, Char.ofNat 108, Char.ofNat 97, Char.ofNat 119, Char.ofNat 52, Char.ofNat 51, Char.ofNat 46, Char.ofNat 83, Char.ofNat 101, Char.ofNat 115, Char.ofNat 115,
  Char.ofNat 105, Char.ofNat 111, Char.ofNat 110, Char.ofNat 65, Char.ofNat 110, Char.ofNat 115, Char.ofNat 119, Char.ofNat 101, Char.ofNat 114, Char.ofNat 115, Char.ofNat 32,
  Char.ofNat 104, Char.ofNat 105, Char.ofNat 98, Char.ofNat 101, Char.ofNat 114, Char.ofNat 110, Char.ofNat 97, Char.ofNat 99, Char.ofNat 108, Char.ofNat 101, Char.ofNat 47,
  Char.ofNat 104, Char.ofNat 105, Char.ofNat 98, Char.ofNat 101, Char.ofNat 114, Char.ofNat 110, Char.ofNat 97, Char.ofNat 99, Char.ofNat 108, Char.ofNat 101, Char.ofNat 108,
  Char.ofNat 97, Char.ofNat 119, Char.ofNat 48, Char.ofNat 52, Char.ofNat 46, Char.ofNat 83, Char.ofNat 101, Char.ofNat 97, Char.ofNat 108, Char.ofNat 66, Char.ofNat 111,
  Char.ofNat 120, Char.ofNat 101, Char.ofNat 115, Char.ofNat 32, Char.ofNat 104, Char.ofNat 105, Char.ofNat 98, Char.ofNat 101, Char.ofNat 114, Char.ofNat 110, Char.ofNat 97,
  Char.ofNat 99, Char.ofNat 108, Char.ofNat 101, Char.ofNat 47, Char.ofNat 104, Char.ofNat 105, Char.ofNat 98, Char.ofNat 101, Char.ofNat 114, Char.ofNat 110, Char.ofNat 97,
  Char.ofNat 99, Char.ofNat 108, Char.ofNat 101, Char.ofNat 108, Char.ofNat 97, Char.ofNat 119, Char.ofNat 48, Char.ofNat 52, Char.ofNat 46, Char.ofNat 83, Char.ofNat 101,
  Char.ofNat 97, Char.ofNat 108, Char.ofNat 79, Char.ofNat 112, Char.ofNat 101, Char.ofNat 110, Char.ofNat 115, Char.ofNat 32, Char.ofNat 104, Char.ofNat 105, Char.ofNat 98,
  Char.ofNat 101, Char.ofNat 114, Char.ofNat 110, Char.ofNat 97, Char.ofNat 99, Char.ofNat 108, Char.ofNat 101, Char.ofNat 47, Char.ofNat 104, Char.ofNat 105, Char.ofNat 98,
  Char.ofNat 101, Char.ofNat 114, Char.ofNat 110, Char.ofNat 97, Char.ofNat 99, Char.ofNat 108, Char.ofNat 101, Char.ofNat 108, Char.ofNat 97, Char.ofNat 119, Char.ofNat 48,
  Char.ofNat 52, Char.ofNat 46, Char.ofNat 83, Char.ofNat 101, Char.ofNat 97, Char.ofNat 108, Char.ofNat 66, Char.ofNat 101, Char.ofNat 110, Char.ofNat 116, Char.ofNat 32,
  Char.ofNat 104, Char.ofNat 105, Char.ofNat 98, Char.ofNat 101, Char.ofNat 114, Char.ofNat 110, Char.ofNat 97, Char.ofNat 99, Char.ofNat 108, Char.ofNat 101, Char.ofNat 47,
  Char.ofNat 104, Char.ofNat 105, Char.ofNat 98, Char.ofNat 101, Char.ofNat 114, Char.ofNat 110, Char.ofNat 97, Char.ofNat 99, Char.ofNat 108, Char.ofNat 101, Char.ofNat 108,
  Char.ofNat 97, Char.ofNat 119, Char.ofNat 48, Char.ofNat 52, Char.ofNat 46, Char.ofNat 83, Char.ofNat 101, Char.ofNat 97, Char.ofNat 108, Char.ofNat 75, Char.ofNat 101,
  Char.ofNat 121, Char.ofNat 115, Char.ofNat 32, Char.ofNat 104, Char.ofNat 105, Char.ofNat 98, Char.ofNat 101, Char.ofNat 114, Char.ofNat 110, Char.ofNat 97, Char.ofNat 99,
  Char.ofNat 108, Char.ofNat 101, Char.ofNat 47, Char.ofNat 104, Char.ofNat 105, Char.ofNat 98, Char.ofNat 101, Char.ofNat 114, Char.ofNat 110, Char.ofNat 97, Char.ofNat 99,
  Char.ofNat 108, Char.ofNat 101, Char.ofNat 108, Char.ofNat 97, Char.ofNat 119, Char.ofNat 48, Char.ofNat 52, Char.ofNat 46, Char.ofNat 83, Char.ofNat 101, Char.ofNat 97,
  Char.ofNat 108, Char.ofNat 78, Char.ofNat 111, Char.ofNat 110, Char.ofNat 99, Char.ofNat 101, Char.ofNat 115, Char.ofNat 32, Char.ofNat 104, Char.ofNat 105, Char.ofNat 98,
  Char.ofNat 101, Char.ofNat 114, Char.ofNat 110, Char.ofNat 97, Char.ofNat 99, Char.ofNat 108, Char.ofNat 101, Char.ofNat 47, Char.ofNat 104, Char.ofNat 105, Char.ofNat 98,
  Char.ofNat 101, Char.ofNat 114, Char.ofNat 110, Char.ofNat 97, Char.ofNat 99, Char.ofNat 108, Char.ofNat 101, Char.ofNat 108, Char.ofNat 97, Char.ofNat 119, Char.ofNat 48,
  Char.ofNat 52, Char.ofNat 46, Char.ofNat 83, Char.ofNat 101, Char.ofNat 97, Char.ofNat 108, Char.ofNat 84, Char.ofNat 97, Char.ofNat 103, Char.ofNat 115, Char.ofNat 32,
  Char.ofNat 104, Char.ofNat 105, Char.ofNat 98, Char.ofNat 101, Char.ofNat 114, Char.ofNat 110, Char.ofNat 97, Char.ofNat 99, Char.ofNat 108, Char.ofNat 101, Char.ofNat 47,
  Char.ofNat 104, Char.ofNat 105, Char.ofNat 98, Char.ofNat 101, Char.ofNat 114, Char.ofNat 110, Char.ofNat 97, Char.ofNat 99, Char.ofNat 108, Char.ofNat 101, Char.ofNat 108,
  Char.ofNat 97, Char.ofNat 119, Char.ofNat 48, Char.ofNat 52, Char.ofNat 46, Char.ofNat 83, Char.ofNat 101, Char.ofNat 97, Char.ofNat 108, Char.ofNat 83, Char.ofNat 116,
  Char.ofNat 114, Char.ofNat 101, Char.ofNat 97, Char.ofNat 109, Char.ofNat 115, Char.ofNat 32, Char.ofNat 104, Char.ofNat 105, Char.ofNat 98, Char.ofNat 101, Char.ofNat 114,
  Char.ofNat 110, Char.ofNat 97, Char.ofNat 99, Char.ofNat 108, Char.ofNat 101, Char.ofNat 47, Char.ofNat 104, Char.ofNat 105, Char.ofNat 98, Char.ofNat 101, Char.ofNat 114,
  Char.ofNat 110, Char.ofNat 97, Char.ofNat 99, Char.ofNat 108, Char.ofNat 101, Char.ofNat 108, Char.ofNat 97, Char.ofNat 119, Char.ofNat 48, Char.ofNat 56, Char.ofNat 46,
  Char.ofNat 76, Char.ofNat 122, Char.ofNat 83, Char.ofNat 101, Char.ofNat 97, Char.ofNat 108, Char.ofNat 101, Char.ofNat 100, Char.ofNat 32, Char.ofNat 104, Char.ofNat 105,
  Char.ofNat 98, Char.ofNat 101, Char.ofNat 114, Char.ofNat 110, Char.ofNat 97, Char.ofNat 99, Char.ofNat 108, Char.ofNat 101, Char.ofNat 47, Char.ofNat 104, Char.ofNat 105,
  Char.ofNat 98, Char.ofNat 101, Char.ofNat 114, Char.ofNat 110, Char.ofNat 97, Char.ofNat 99, Char.ofNat 108, Char.ofNat 101, Char.ofNat 108, Char.ofNat 97, Char.ofNat 119,
  Char.ofNat 52, Char.ofNat 51, Char.ofNat 46, Char.ofNat 83, Char.ofNat 101, Char.ofNat 115, Char.ofNat 115, Char.ofNat 105, Char.ofNat 111, Char.ofNat 110, Char.ofNat 79,
  Char.ofNat 110, Char.ofNat 99, Char.ofNat 101, Char.ofNat 32, Char.ofNat 104, Char.ofNat 105, Char.ofNat 98, Char.ofNat 101, Char.ofNat 114, Char.ofNat 110, Char.ofNat 97,
  Char.ofNat 99, Char.ofNat 108, Char.ofNat 101, Char.ofNat 47, Char.ofNat 104, Char.ofNat 105, Char.ofNat 98, Char.ofNat 101, Char.ofNat 114, Char.ofNat 110, Char.ofNat 97,
  Char.ofNat 99, Char.ofNat 108, Char.ofNat 101, Char.ofNat 108, Char.ofNat 97, Char.ofNat 119, Char.ofNat 52, Char.ofNat 51, Char.ofNat 46, Char.ofNat 83, Char.ofNat 101,
  Char.ofNat 115, Char.ofNat 115, Char.ofNat 105, Char.ofNat 111, Char.ofNat 110, Char.ofNat 66, Char.ofNat 101, Char.ofNat 110, Char.ofNat 116, Char.ofNat 32, Char.ofNat 104,
  Char.ofNat 105, Char.ofNat 98, Char.ofNat 101, Char.ofNat 114, Char.ofNat 110, Char.ofNat 97, Char.ofNat 99, Char.ofNat 108, Char.ofNat 101, Char.ofNat 47, Char.ofNat 104,
  Char.ofNat 105, Char.ofNat 98, Char.ofNat 101, Char.ofNat 114, Char.ofNat 110, Char.ofNat 97, Char.ofNat 99, Char.ofNat 108, Char.ofNat 101, Char.ofNat 108, Char.ofNat 97,
  Char.ofNat 119, Char.ofNat 52, Char.ofNat 51, Char.ofNat 46, Char.ofNat 83, Char.ofNat 101, Char.ofNat 115, Char.ofNat 115, Char.ofNat 105, Char.ofNat 111, Char.ofNat 110,
  Char.ofNat 70, Char.ofNat 97, Char.ofNat 114, Char.ofNat 32, Char.ofNat 104, Char.ofNat 105, Char.ofNat 98, Char.ofNat 101, Char.ofNat 114, Char.ofNat 110, Char.ofNat 97,
  Char.ofNat 99, Char.ofNat 108, Char.ofNat 101, Char.ofNat 47, Char.ofNat 104, Char.ofNat 105, Char.ofNat 98, Char.ofNat 101, Char.ofNat 114, Char.ofNat 110, Char.ofNat 97,
  Char.ofNat 99, Char.ofNat 108, Char.ofNat 101, Char.ofNat 108, Char.ofNat 97, Char.ofNat 119, Char.ofNat 52, Char.ofNat 51, Char.ofNat 46, Char.ofNat 83, Char.ofNat 101,
  Char.ofNat 115, Char.ofNat 115, Char.ofNat 105, Char.ofNat 111, Char.ofNat 110, Char.ofNat 79, Char.ofNat 116, Char.ofNat 104, Char.ofNat 101, Char.ofNat 114, Char.ofNat 32,
  Char.ofNat 104, Char.ofNat 105, Char.ofNat 98, Char.ofNat 101, Char.ofNat 114, Char.ofNat 110, Char.ofNat 97, Char.ofNat 99, Char.ofNat 108, Char.ofNat 101, Char.ofNat 47,
  Char.ofNat 104, Char.ofNat 105, Char.ofNat 98, Char.ofNat 101, Char.ofNat 114, Char.ofNat 110, Char.ofNat 97, Char.ofNat 99, Char.ofNat 108, Char.ofNat 101, Char.ofNat 108,
  Char.ofNat 97, Char.ofNat 119, Char.ofNat 52, Char.ofNat 51, Char.ofNat 46, Char.ofNat 83, Char.ofNat 101, Char.ofNat 115, Char.ofNat 115, Char.ofNat 105, Char.ofNat 111,
  Char.ofNat 110, Char.ofNat 83, Char.ofNat 101, Char.ofNat 110, Char.ofNat 100, Char.ofNat 115, Char.ofNat 32, Char.ofNat 104, Char.ofNat 105, Char.ofNat 98, Char.ofNat 101,
  Char.ofNat 114, Char.ofNat 110, Char.ofNat 97, Char.ofNat 99, Char.ofNat 108, Char.ofNat 101, Char.ofNat 47, Char.ofNat 104, Char.ofNat 105, Char.ofNat 98, Char.ofNat 101,
  Char.ofNat 114, Char.ofNat 110, Char.ofNat 97, Char.ofNat 99, Char.ofNat 108, Char.ofNat 101, Char.ofNat 108, Char.ofNat 97, Char.ofNat 119, Char.ofNat 52, Char.ofNat 51,
  Char.ofNat 46, Char.ofNat 83, Char.ofNat 101, Char.ofNat 115, Char.ofNat 115, Char.ofNat 105, Char.ofNat 111, Char.ofNat 110, Char.ofNat 84, Char.ofNat 97, Char.ofNat 107,
  Char.ofNat 101, Char.ofNat 115]
theorem head_is : Try.pinned.checked.prog.initOrder = String.ofList (headA ++ Char.ofNat 32 :: headB) := by kernel_rfl
theorem head_list : Try.pinned.checked.prog.initOrder.toList = headA ++ Char.ofNat 32 :: headB := by rw [head_is, String.toList_ofList]
theorem words_append (b : List Char) : ∀ a : List Char, wordsSigns (a ++ Char.ofNat 32 :: b) = wordsSigns a ++ wordsSigns b
  | [] => rfl
  | c :: a => by
    have ih := words_append b a
    by_cases hc : c = Char.ofNat 32
    · subst hc
      show [] :: wordsSigns (a ++ Char.ofNat 32 :: b) = ([] :: wordsSigns a) ++ wordsSigns b
      rw [ih]
      rfl
    · have e : ∀ r : List Char, wordsSigns (c :: r) = (match wordsSigns r with | w :: ws => (c :: w) :: ws | [] => [[c]]) := by
        intro r
        rw [wordsSigns]
        · rfl
        · exact hc
      rw [List.cons_append, e, e, ih]
      cases h : wordsSigns a with
      | nil =>
        exfalso
        cases a with
        | nil => cases h
        | cons d a =>
          rw [wordsSigns.eq_def] at h
          split at h <;> try contradiction
          split at h <;> contradiction
      | cons w ws => rfl
theorem words_A : wordsSigns headA = [headA.take 7, (headA.drop 8).take 64, headA.drop 73] := by kernel_rfl
theorem behind_A (R : List (List Char)) : behindMainWord (headA.take 7 :: (headA.drop 8).take 64 :: headA.drop 73 :: R) = "cut".toList :: R := by kernel_rfl
theorem strip_A (R : List (List Char)) : stripLifts liftWords ("cut".toList :: R) = ([], "cut".toList :: R) := by kernel_rfl
theorem may_enter_of (P : Program) (h : P.initOrder.toList = headA ++ Char.ofNat 32 :: headB) (l : P.laysLater = false) (b : P.bearsReflect = false) (d : P.doorFits [] = true) : P.mayEnter = true := by
  unfold Program.mayEnter
  rw [h, words_append, words_A, List.cons_append, List.cons_append, List.cons_append, List.nil_append, behind_A]
  generalize wordsSigns headB = R
  simp only [strip_A, l, b, d]
  simp
theorem may_enter : Try.pinned.checked.prog.mayEnter = true :=
  may_enter_of Try.pinned.checked.prog head_list (by kernel_rfl) (by kernel_rfl) (by kernel_rfl)
theorem lifts_of (P : Program) (h : P.initOrder.toList = headA ++ Char.ofNat 32 :: headB) : P.liftsFinal = false := by
  unfold Program.liftsFinal Program.headLifts
  rw [h, words_append, words_A, List.cons_append, List.cons_append, List.cons_append, List.nil_append, behind_A]
  generalize wordsSigns headB = R
  simp only [strip_A]
  simp
theorem make_of (P : Program) (h : P.initOrder.toList = headA ++ Char.ofNat 32 :: headB) : P.make = some .cut := by
  unfold Program.make
  rw [h, words_append, words_A, List.cons_append, List.cons_append, List.cons_append, List.nil_append, behind_A]
  generalize wordsSigns headB = R
  simp
theorem lifts : Try.pinned.checked.prog.liftsFinal = false := lifts_of _ head_list
theorem make_ : Try.pinned.checked.prog.make = some .cut := make_of _ head_list
theorem and_of {a b : Bool} (ha : a = true) (hb : b = true) : (a && b) = true := by rw [ha, hb]; rfl
theorem beq_no {a b : Bool} (h : b = false) (ha : a = false) : (a == b) = true := by rw [h, ha]; rfl
theorem beq_make {a : Option Make} {b : Make} (h : a = some .cut) (hb : b = .cut) : (a == some b) = true := by rw [h, hb]; rfl
end Go.Proofs.Ytnjcganknpnjcaa
namespace Go.Proofs.Ytnjcganknpnjcaa
open Go.RowKit Go.WideShapes Go.ChangeShapes
section
variable {H : Type} {enc : TypeId × Value → H} {P : Program}
theorem post_of_below {f : Func} {s : ChangeSpec} {apart fresh handsOn again : Bool} {W W' : World} {args : Array Value} {v : Value} {ds gs : List (DataW H)} {before pa pv : List MemPlace}
    (hW : DataW.Whole enc P f.params.toList s.vars apart W args.toList ds gs before)
    (hres : ∀ (b : Nat) (sp : Nat → Bool) (hd : Bool), DataW.TrodAll enc P W' b sp hd f.resultTypes.toList (v.resultList f.resultTypes.size) (s.fn H (ds ++ gs)).results [])
    (hargs : ∀ sp : Nat → Bool, (∀ p ∈ before, sp p.block = true) → DataW.TrodAll enc P W' 0 sp true f.params.toList args.toList (s.fn H (ds ++ gs)).args pa)
    (hvars : ∀ sp : Nat → Bool, (∀ p ∈ before, sp p.block = true) → DataW.TrodVars enc P W' sp s.vars (s.fn H (ds ++ gs)).vars pv)
    (hps : before = pa ++ pv) (hb : Below W.heap.size W W')
    (hok : ∀ (j : Nat) (t : TypeId) (r : Value), f.resultTypes[j]? = some t → (v.resultList f.resultTypes.size)[j]? = some r → Value.okWide P W' .any 0 t r) :
    s.post enc P f apart fresh handsOn again W args v W' := by
  have hlt : ∀ p ∈ before, p.block < W.heap.size := fun p hp => hW.lt p hp
  have hold : ∀ p ∈ before, (fun b => decide (b < W.heap.size)) p.block = true := fun p hp => by simpa using hlt p hp
  refine ⟨ds, gs, before, [], pa, pv, hW, hres _ _ _, hargs _ hold, hvars _ hold, World.keptBut_mono (fun p hp => ⟨hp, ?_⟩) (hb.frame (· ∈ before)), fun _ => ?_⟩
  · rw [hps, List.mem_append] at hp
    exact Or.inr hp
  · obtain ⟨_, _, _, _, _, hz, hn⟩ := hW
    refine ⟨hok, _, _, ([] ++ pa) ++ pv, ⟨[] ++ pa, pv, trodAll_append (hargs _ (fun _ _ => rfl)) (hres _ _ _), hvars _ (fun _ _ => rfl), rfl, ?_, ?_⟩, ?_⟩
    · intro b off hp
      have hin : MemPlace.cell b off ∈ before := by rw [hps]; simpa using hp
      rw [hb.frozen (hlt _ hin)]
      exact hz b off hin
    · intro ha
      have := hn ha
      rw [hps] at this
      simpa using this
    · intro p hp _
      rw [hps]
      simpa using hp
end
end Go.Proofs.Ytnjcganknpnjcaa
