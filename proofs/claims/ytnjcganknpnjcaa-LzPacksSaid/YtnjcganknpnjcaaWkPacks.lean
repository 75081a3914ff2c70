/- The walk of LzPacks. -/
import Derived.Test.YtnjcganknpnjcaaLzRC
import Derived.Test.YtnjcganknpnjcaaWkJoins
namespace Go.Proofs.Ytnjcganknpnjcaa
open Go.RowKit

set_option maxRecDepth 100000 in
set_option maxHeartbeats 1000000 in
theorem LzPacks_walk (s : ByteArray) (hs : s.size ≤ maxLen) (w : World) :
    Calls Try.prog 3 #[.string s] w fun e w' => e = .returned (.bool true) ∧ Below w.heap.size w w' := by
  unfold maxLen at hs
  by_cases h : s.size ≤ 600
  · have t0 : decide ((600 : Int) < (s.size : Int)) = false := decide_eq_false (by omega)
    have hp := packs_plain s
    obtain ⟨b, hbe⟩ : ∃ b : ByteArray, (⟨(pack s).toArray⟩ : ByteArray) = b := ⟨_, rfl⟩
    have hbl : b.size = (pack s).length := by rw [← hbe]; show (pack s).toArray.size = _; simp
    rw [← hbl] at hp
    have t1 : decide ((b.size : Int) ≤ (s.size : Int) + ((s.size : Int) + 127) / 128) = true := decide_eq_true (by omega)
    have Hbe := Lib.hid hbe
    have hb6 : b.size ≤ 1000 := by omega
    clear hp hbl hbe
    go_enter Try.func3, Try.ntmps3
    go_wp2_with fail
    refine (pack_any s w (by omega)).mono ?_
    rintro e w1 ⟨rfl, hb1⟩
    rw [Hbe.out]
    go_wp2_with fail
    refine (rpack_any s w1 (by omega)).mono ?_
    rintro e w2 ⟨rfl, hb2⟩
    rw [Hbe.out]
    go_wp2_with fail
    refine (awake_any w2).mono ?_
    rintro e w3 ⟨rfl, hb3⟩
    go_wp2
    go_ret
    exact ⟨rfl, below2 (below2 hb1 hb2) hb3⟩
  · have t0 : decide ((600 : Int) < (s.size : Int)) = true := decide_eq_true (by omega)
    go_enter Try.func3, Try.ntmps3
    go_wp2_with fail
    refine (awake_any w).mono ?_
    rintro e w1 ⟨rfl, hb1⟩
    go_wp2
    go_ret
    exact ⟨rfl, hb1⟩

end Go.Proofs.Ytnjcganknpnjcaa
