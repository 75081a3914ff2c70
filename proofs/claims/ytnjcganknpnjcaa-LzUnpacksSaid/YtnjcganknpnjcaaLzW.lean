/- lz: the document's example: six a's are packed to five bytes, and back. -/
import Derived.Test.YtnjcganknpnjcaaLzG
import Derived.Test.YtnjcganknpnjcaaLzV
namespace Go.Proofs.Ytnjcganknpnjcaa
open Go.RowKit

theorem pack_six : pack ⟨#[97, 97, 97, 97, 97, 97]⟩ = [0, 97, 129, 1, 0] := by decide +kernel
theorem unp_six : unp [0, 97, 129, 1, 0] 6 = ([97, 97, 97, 97, 97, 97], 0) := by decide +kernel

set_option maxRecDepth 100000 in
set_option maxHeartbeats 1000000 in
theorem awake_any (w : World) : Calls Try.prog 25 #[] w fun e w' => e = .returned (.bool true) ∧ Below w.heap.size w w' := by
  go_enter Try.func25, Try.ntmps25
  go_wp2_with fail
  refine (pack_any ⟨#[97, 97, 97, 97, 97, 97]⟩ w (by decide)).mono ?_
  rintro e w1 ⟨rfl, hb1⟩
  rw [pack_six]
  go_wp2_with fail
  refine (unpack_any ⟨#[0, 97, 129, 1, 0]⟩ 6 w1 (by decide) (by omega) (by omega)).mono ?_
  rintro e w2 ⟨rfl, hb2⟩
  rw [show (⟨#[0, 97, 129, 1, 0]⟩ : ByteArray).data.toList = [0, 97, 129, 1, 0] from rfl, unp_six]
  go_wp2
  go_ret
  exact ⟨rfl, hb1.trans (hb2.mono hb1.size)⟩

end Go.Proofs.Ytnjcganknpnjcaa
