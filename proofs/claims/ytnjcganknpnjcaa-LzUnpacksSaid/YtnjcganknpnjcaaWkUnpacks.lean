/- The walk of LzUnpacks. -/
import Derived.Test.YtnjcganknpnjcaaLzRD
import Derived.Test.YtnjcganknpnjcaaWkJoins
namespace Go.Proofs.Ytnjcganknpnjcaa
open Go.RowKit

set_option maxRecDepth 100000 in
set_option maxHeartbeats 1000000 in
theorem LzUnpacks_walk (s : ByteArray) (most : Int) (hs : s.size ≤ maxLen) (hm : (Lit.int .i64 most).wf = true) (w : World) :
    Calls Try.prog 5 #[.string s, .int .i64 most] w fun e w' => e = .returned (.bool true) ∧ Below w.heap.size w w' := by
  unfold maxLen at hs
  obtain ⟨hm1, hm2⟩ := bounds_i64 hm
  clear hm
  by_cases h : s.size ≤ 300 ∧ most ≤ 3000
  · obtain ⟨h1, h2⟩ := h
    have t0 : decide ((300 : Int) < (s.size : Int)) = false := decide_eq_false (by omega)
    have t1 : decide ((3000 : Int) < most) = false := decide_eq_false (by omega)
    go_enter Try.func5, Try.ntmps5
    go_wp2_with fail
    refine (unpack_any s most w (by omega) hm1 hm2).mono ?_
    rintro e w1 ⟨rfl, hb1⟩
    go_wp2_with fail
    refine (runpack_any s most w1 (by omega) hm1 hm2).mono ?_
    rintro e w2 ⟨rfl, n2, rfl⟩
    go_wp2_with fail
    refine (awake_any (w1.drewN n2)).mono ?_
    rintro e w3 ⟨rfl, hb3⟩
    go_wp2
    go_ret
    exact ⟨rfl, below2 (below_drewN hb1 n2) hb3⟩
  · by_cases h1 : s.size ≤ 300
    · have t0 : decide ((300 : Int) < (s.size : Int)) = false := decide_eq_false (by omega)
      have t1 : decide ((3000 : Int) < most) = true := decide_eq_true (by omega)
      clear h
      go_enter Try.func5, Try.ntmps5
      go_wp2_with fail
      refine (awake_any w).mono ?_
      rintro e w1 ⟨rfl, hb1⟩
      go_wp2
      go_ret
      exact ⟨rfl, hb1⟩
    · have t0 : decide ((300 : Int) < (s.size : Int)) = true := decide_eq_true (by omega)
      clear h
      go_enter Try.func5, Try.ntmps5
      go_wp2_with fail
      refine (awake_any w).mono ?_
      rintro e w1 ⟨rfl, hb1⟩
      go_wp2
      go_ret
      exact ⟨rfl, hb1⟩

end Go.Proofs.Ytnjcganknpnjcaa
