/- lz: what the closure of finder.best comes to: how many bytes stand alike at two places, at most 131. -/
import Derived.Test.YtnjcganknpnjcaaLzD

namespace Go.Proofs.Ytnjcganknpnjcaa
open Go.RowKit

set_option maxRecDepth 100000 in
set_option maxHeartbeats 1000000 in
theorem alike_any (s : ByteArray) (k at_ : Nat) (Ba Bf F : Nat) (w : World) (hs : s.size ≤ 140737488351232) (hk : k < at_) (hat : at_ ≤ s.size)
    (ea : w.cell? ⟨Ba, 0, none⟩ = some (.int .i64 at_)) (ef : w.cell? ⟨Bf, 0, none⟩ = some (.pointer (some ⟨F, 0, none⟩)))
    (es : w.cell? ⟨F, 0, none⟩ = some (.string s)) :
    Calls Try.prog 89 #[.int .i64 k, .pointer (some ⟨Ba, 0, none⟩), .pointer (some ⟨Bf, 0, none⟩)] w fun e w' => e = .returned (.int .i64 (sameLen s at_ k)) ∧ Drew w w' := by
  go_enter Try.func89, Try.ntmps89
  go_wp2
  go_loopw [5] (fun v wr => ∃ m : Nat, m ≤ 131 ∧ v = .int .i64 m ∧ Hid (sameGo s at_ k (131 - m) m = sameLen s at_ k) ∧ ∃ n, wr = w.drewN n) (fun v _ => 131 - (intOf v).toNat)
  case atStart => exact ⟨0, by omega, rfl, Lib.hid rfl, 0, rfl⟩
  case round =>
    obtain ⟨m, hm, rfl, H, n, rfl⟩ := hrel
    have e1 : IntKind.i64.wrap ((at_ : Int) + m) = (at_ : Int) + m := IntWalk.i64_in _ (by omega)
    have e2 : IntKind.i64.wrap ((k : Int) + m) = (k : Int) + m := IntWalk.i64_in _ (by omega)
    have e3 : 0 ≤ (at_ : Int) + m := by omega
    have e4 : 0 ≤ (k : Int) + m := by omega
    have e5 : ((at_ : Int) + m).toNat = at_ + m := by omega
    have e6 : ((k : Int) + m).toNat = k + m := by omega
    by_cases h1 : m < 131
    · have h1b : decide ((m : Int) < 131) = true := decide_eq_true (by omega)
      by_cases h2 : at_ + m < s.size
      · have h2b : decide ((at_ : Int) + m < s.size) = true := decide_eq_true (by omega)
        have hx1 := byt_at s (k + m)
        have hx2 := byt_at s (at_ + m)
        have e7 : (k : Int) + m < s.size := by omega
        by_cases h3 : byt s (k + m) = byt s (at_ + m)
        · have h3b : (byt s (k + m) == byt s (at_ + m)) = true := by simpa using h3
          have Hn : Hid (sameGo s at_ k (131 - (m + 1)) (m + 1) = sameLen s at_ k) := by
            rw [← H.out, show 131 - m = (131 - (m + 1)) + 1 by omega]
            exact Lib.hid (by rw [sameGo, if_pos ⟨h1, h2, h3⟩])
          clear h3 H
          go_wp2
          go_quiet (fail)
          go_wp2
          go_roundw
          case rel => exact ⟨m + 1, by omega, by go_num, Hn, _, rfl⟩
          case measure => simp [intOf]; omega
        · have h3b : (byt s (k + m) == byt s (at_ + m)) = false := by simpa using h3
          have Hn : Hid (sameLen s at_ k = m) := by
            rw [← H.out, show 131 - m = (131 - (m + 1)) + 1 by omega]
            exact Lib.hid (by rw [sameGo, if_neg (fun h => h3 h.2.2)])
          clear h3 H
          go_wp2
          go_quiet (fail)
          go_wp2
          go_ret
          exact ⟨ret_int (by rw [Hn.out]), Drew.draws2 _ _ _⟩
      · have h2b : decide ((at_ : Int) + m < s.size) = false := decide_eq_false (by omega)
        have Hn : Hid (sameLen s at_ k = m) := by
          rw [← H.out, show 131 - m = (131 - (m + 1)) + 1 by omega]
          exact Lib.hid (by rw [sameGo, if_neg (fun h => h2 h.2.1)])
        clear H
        go_wp2
        go_quiet (fail)
        go_wp2
        go_ret
        exact ⟨ret_int (by rw [Hn.out]), Drew.draws2 _ _ _⟩
    · have h1b : decide ((m : Int) < 131) = false := decide_eq_false (by omega)
      have Hn : Hid (sameLen s at_ k = m) := by
        rw [← H.out, show 131 - m = 0 by omega]
        exact Lib.hid (by rw [sameGo])
      clear H
      go_wp2
      go_quiet (fail)
      go_wp2
      go_ret
      exact ⟨ret_int (by rw [Hn.out]), Drew.draws2 _ _ _⟩

end Go.Proofs.Ytnjcganknpnjcaa
