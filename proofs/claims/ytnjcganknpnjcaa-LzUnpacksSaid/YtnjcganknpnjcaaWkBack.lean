/- The walk of LzBack. -/
import Derived.Test.YtnjcganknpnjcaaLzW
import Derived.Test.YtnjcganknpnjcaaLzR
import Derived.OpenShut
namespace Go.Proofs.Ytnjcganknpnjcaa
open Go.RowKit

theorem str_of_bl (s : ByteArray) : (⟨(bl s).toArray⟩ : ByteArray) = s := by simp [bl]
theorem beq_self_str (s : ByteArray) : (s.toList == s.toList) = true := by simp

set_option maxRecDepth 100000 in
set_option maxHeartbeats 1000000 in
theorem LzBack_walk (s : ByteArray) (most : Int) (hs : s.size ≤ maxLen) (hm : (Lit.int .i64 most).wf = true) (w : World) :
    Calls Try.prog 4 #[.string s, .int .i64 most] w fun e w' => e = .returned (.bool true) ∧ Below w.heap.size w w' := by
  unfold maxLen at hs
  obtain ⟨hm1, hm2⟩ := bounds_i64 hm
  clear hm
  by_cases h : s.size ≤ 2000
  · have t0 : decide ((2000 : Int) < (s.size : Int)) = false := decide_eq_false (by omega)
    have hp := back_plain s (by omega)
    have Hp := Lib.hid hp
    clear hp
    go_enter Try.func4, Try.ntmps4
    go_wp2_with fail
    refine (pack_any s w (by omega)).mono ?_
    rintro e w1 ⟨rfl, hb1⟩
    have hl : (pack s).length ≤ 100000 := by have := packs_plain s; omega
    go_wp2_with fail
    refine (unpack_any ⟨(pack s).toArray⟩ s.size w1 (by show (pack s).toArray.size ≤ 100000; simpa using hl) (by omega) (by omega)).mono ?_
    rintro e w2 ⟨rfl, hb2⟩
    rw [show (⟨(pack s).toArray⟩ : ByteArray).data.toList = pack s from rfl, Hp.out, if_neg (by omega), str_of_bl]
    go_wp2_with fail
    refine (unpack_any ⟨(pack s).toArray⟩ most w2 (by show (pack s).toArray.size ≤ 100000; simpa using hl) hm1 hm2).mono ?_
    rintro e w3 ⟨rfl, hb3⟩
    rw [show (⟨(pack s).toArray⟩ : ByteArray).data.toList = pack s from rfl, Hp.out]
    by_cases hlt : most < s.size
    · have t1 : decide (most < (s.size : Int)) = true := decide_eq_true hlt
      rw [if_pos hlt]
      go_wp2_with fail
      refine (awake_any w3).mono ?_
      rintro e w4 ⟨rfl, hb4⟩
      go_wp2
      go_ret
      exact ⟨rfl, ((hb1.trans (hb2.mono hb1.size)).trans (hb3.mono (Nat.le_trans hb1.size hb2.size))).trans (hb4.mono (Nat.le_trans (Nat.le_trans hb1.size hb2.size) hb3.size))⟩
    · have t1 : decide (most < (s.size : Int)) = false := decide_eq_false hlt
      rw [if_neg hlt, str_of_bl]
      go_wp2_with fail
      refine (awake_any w3).mono ?_
      rintro e w4 ⟨rfl, hb4⟩
      go_wp2
      go_ret
      exact ⟨rfl, ((hb1.trans (hb2.mono hb1.size)).trans (hb3.mono (Nat.le_trans hb1.size hb2.size))).trans (hb4.mono (Nat.le_trans (Nat.le_trans hb1.size hb2.size) hb3.size))⟩
  · have t0 : decide ((2000 : Int) < (s.size : Int)) = true := decide_eq_true (by omega)
    go_enter Try.func4, Try.ntmps4
    go_wp2_with fail
    refine (awake_any w).mono ?_
    rintro e w1 ⟨rfl, hb1⟩
    go_wp2
    go_ret
    exact ⟨rfl, hb1⟩

end Go.Proofs.Ytnjcganknpnjcaa
