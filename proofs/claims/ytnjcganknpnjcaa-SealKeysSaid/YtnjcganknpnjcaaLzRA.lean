/- lz: the reference's same and best. -/
import Derived.Test.YtnjcganknpnjcaaLzF
namespace Go.Proofs.Ytnjcganknpnjcaa
open Go.RowKit

set_option maxRecDepth 100000 in
set_option maxHeartbeats 1000000 in
theorem rsame_any (s : ByteArray) (k d : Nat) (w : World) (hs : s.size ≤ 60000) (hk : k < s.size) (hd : d ≤ k) (hd0 : 1 ≤ d) :
    Calls Try.prog 91 #[.string s, .int .i64 k, .int .i64 d] w fun e w' => e = .returned (.int .i64 (sameLen s k (k - d))) ∧ Drew w w' := by
  go_enter Try.func91, Try.ntmps91
  go_wp2
  go_loopw [7] (fun v wr => ∃ m : Nat, m ≤ 131 ∧ v = .int .i64 m ∧ Hid (sameGo s k (k - d) (131 - m) m = sameLen s k (k - d)) ∧ ∃ n, wr = w.drewN n) (fun v _ => 131 - (intOf v).toNat)
  case atStart => exact ⟨0, by omega, rfl, Lib.hid rfl, 0, rfl⟩
  case round =>
    obtain ⟨m, hm, rfl, H, n, rfl⟩ := hrel
    have e1 : IntKind.i64.wrap ((k : Int) + m) = (k : Int) + m := IntWalk.i64_in _ (by omega)
    have e2 : IntKind.i64.wrap ((k : Int) + m - d) = (k : Int) + m - d := IntWalk.i64_in _ (by omega)
    have e3 : 0 ≤ (k : Int) + m := by omega
    have e4 : 0 ≤ (k : Int) + m - d := by omega
    have e5 : ((k : Int) + m).toNat = k + m := by omega
    have e6 : ((k : Int) + m - d).toNat = k - d + m := by omega
    by_cases h1 : m < 131
    · have h1b : decide ((m : Int) < 131) = true := decide_eq_true (by omega)
      by_cases h2 : k + m < s.size
      · have h2b : decide ((k : Int) + m < s.size) = true := decide_eq_true (by omega)
        have hx1 := byt_at s (k - d + m)
        have hx2 := byt_at s (k + m)
        have e7 : (k : Int) + m - d < s.size := by omega
        have e8 : k - d + m < s.size := by omega
        by_cases h3 : byt s (k - d + m) = byt s (k + m)
        · have h3b : (byt s (k + m) == byt s (k - d + m)) = true := by simpa using h3.symm
          have Hn : Hid (sameGo s k (k - d) (131 - (m + 1)) (m + 1) = sameLen s k (k - d)) := by
            rw [← H.out, show 131 - m = (131 - (m + 1)) + 1 by omega]
            exact Lib.hid (by rw [sameGo, if_pos ⟨h1, h2, h3⟩])
          clear h3 H
          go_wp2
          go_quiet (fail)
          go_wp2
          go_roundw
          case rel => exact ⟨m + 1, by omega, by go_num, Hn, _, rfl⟩
          case measure => simp [intOf]; omega
        · have h3b : (byt s (k + m) == byt s (k - d + m)) = false := by simpa using (fun h => h3 (Eq.symm h))
          have Hn : Hid (sameLen s k (k - d) = m) := by
            rw [← H.out, show 131 - m = (131 - (m + 1)) + 1 by omega]
            exact Lib.hid (by rw [sameGo, if_neg (fun h => h3 h.2.2)])
          clear h3 H
          go_wp2
          go_quiet (fail)
          go_wp2
          go_ret
          exact ⟨ret_int (by rw [Hn.out]), Drew.draws2 _ _ _⟩
      · have h2b : decide ((k : Int) + m < s.size) = false := decide_eq_false (by omega)
        have Hn : Hid (sameLen s k (k - d) = m) := by
          rw [← H.out, show 131 - m = (131 - (m + 1)) + 1 by omega]
          exact Lib.hid (by rw [sameGo, if_neg (fun h => h2 h.2.1)])
        clear H
        go_wp2
        go_quiet (fail)
        go_wp2
        go_ret
        exact ⟨ret_int (by rw [Hn.out]), Drew.draws2 _ _ _⟩
    · have h1b : decide ((m : Int) < 131) = false := decide_eq_false (by omega)
      have Hn : Hid (sameLen s k (k - d) = m) := by
        rw [← H.out, show 131 - m = 0 by omega]
        exact Lib.hid (by rw [sameGo])
      clear H
      by_cases h2 : k + m < s.size
      · have h2b : decide ((k : Int) + m < s.size) = true := decide_eq_true (by omega)
        go_wp2
        go_quiet (fail)
        go_wp2
        go_ret
        exact ⟨ret_int (by rw [Hn.out]), Drew.draws2 _ _ _⟩
      · have h2b : decide ((k : Int) + m < s.size) = false := decide_eq_false (by omega)
        go_wp2
        go_quiet (fail)
        go_wp2
        go_ret
        exact ⟨ret_int (by rw [Hn.out]), Drew.draws2 _ _ _⟩

/-- The reference's best: the first distance of the greatest number. -/
def rscan (s : ByteArray) (a : Nat) : Nat → Nat × Nat
  | 0 => (0, 0)
  | d + 1 => if (rscan s a d).1 < sameLen s a (a - (d + 1)) then (sameLen s a (a - (d + 1)), d + 1) else rscan s a d
theorem rscan_scan (s : ByteArray) (a : Nat) : ∀ d, (rscan s a d).1 < 4 ∧ scan s a d = (0, 0) ∨ 4 ≤ (rscan s a d).1 ∧ scan s a d = rscan s a d
  | 0 => .inl ⟨Nat.zero_lt_succ _, rfl⟩
  | d + 1 => by
    rw [scan, rscan]
    rcases rscan_scan s a d with ⟨h1, h2⟩ | ⟨h1, h2⟩
    · rw [h2]
      by_cases h4 : 4 ≤ sameLen s a (a - (d + 1))
      · have hA : (rscan s a d).1 < sameLen s a (a - (d + 1)) := by omega
        have hB : 4 ≤ sameLen s a (a - (d + 1)) ∧ (0, 0).1 < sameLen s a (a - (d + 1)) := ⟨h4, by show 0 < _; omega⟩
        simp only [if_pos hA, if_pos hB]
        exact .inr ⟨h4, trivial⟩
      · have hB : ¬ (4 ≤ sameLen s a (a - (d + 1)) ∧ (0, 0).1 < sameLen s a (a - (d + 1))) := fun h => h4 h.1
        simp only [if_neg hB]
        by_cases hA : (rscan s a d).1 < sameLen s a (a - (d + 1))
        · simp only [if_pos hA]
          exact .inl ⟨by show sameLen _ _ _ < 4; omega, trivial⟩
        · simp only [if_neg hA]
          exact .inl ⟨h1, trivial⟩
    · rw [h2]
      by_cases hlt : (rscan s a d).1 < sameLen s a (a - (d + 1))
      · rw [if_pos hlt, if_pos (by omega)]
        exact .inr ⟨by show 4 ≤ sameLen _ _ _; omega, rfl⟩
      · rw [if_neg hlt, if_neg (by omega)]
        exact .inr ⟨h1, rfl⟩
theorem rscan_facts (s : ByteArray) (a : Nat) : ∀ d, (rscan s a d).1 ≤ 131 ∧ (rscan s a d).2 ≤ d
  | 0 => ⟨Nat.zero_le _, Nat.zero_le _⟩
  | d + 1 => by
    rw [rscan]
    split
    · exact ⟨sameLen_le _ _ _, Nat.le_refl _⟩
    · have := rscan_facts s a d
      exact ⟨this.1, by omega⟩
theorem rscan_short (s : ByteArray) (a : Nat) (h : s.size < a + 4) : ∀ d, (rscan s a d).1 < 4
  | 0 => Nat.zero_lt_succ _
  | d + 1 => by
    rw [rscan]
    split
    · refine Nat.lt_of_not_le fun h4 => ?_
      have := (sameLen_alike s a (a - (d + 1)) 3 h4).2
      omega
    · exact rscan_short s a h d
theorem rscan_best (s : ByteArray) (a : Nat) : (rscan s a a).1 < 4 ∧ (bestN s a).1 < 4 ∨ 4 ≤ (rscan s a a).1 ∧ bestN s a = rscan s a a := by
  unfold bestN
  by_cases h4 : a + 4 ≤ s.size
  · rw [if_pos h4]
    rcases rscan_scan s a a with ⟨h1, h2⟩ | h
    · exact .inl ⟨h1, by rw [h2]; decide⟩
    · exact .inr h
  · rw [if_neg h4]
    exact .inl ⟨rscan_short s a (by omega) a, by decide⟩

set_option maxRecDepth 100000 in
set_option maxHeartbeats 1000000 in
theorem rbest_any (s : ByteArray) (k : Nat) (w : World) (hs : s.size ≤ 60000) (hk : k < s.size) :
    Calls Try.prog 60 #[.string s, .int .i64 k] w fun e w' => e = .returned (.tuple #[.int .i64 (rscan s k k).1, .int .i64 (rscan s k k).2]) ∧ Drew w w' := by
  go_enter Try.func60, Try.ntmps60
  go_wp2
  go_loopw [6, 7, 8] (fun a b c wr => ∃ d : Nat, 1 ≤ d ∧ d ≤ k + 1 ∧ a = .int .i64 (rscan s k (d - 1)).1 ∧ b = .int .i64 (rscan s k (d - 1)).2 ∧ c = .int .i64 (d : Int) ∧ Drew w wr) (fun _ _ c _ => k + 2 - (intOf c).toNat)
  case atStart => exact ⟨1, by omega, by omega, rfl, rfl, rfl, Drew.refl _⟩
  case round =>
    obtain ⟨d, hd1, hd, rfl, rfl, rfl, n, rfl⟩ := hrel
    obtain ⟨N, hN⟩ : ∃ N, (rscan s k (d - 1)).1 = N := ⟨_, rfl⟩
    obtain ⟨E, hE⟩ : ∃ E, (rscan s k (d - 1)).2 = E := ⟨_, rfl⟩
    rw [hN, hE]
    have HN := Lib.hid hN
    have HE := Lib.hid hE
    by_cases hlt : d ≤ k
    · have t0 : decide ((d : Int) ≤ (k : Int)) = true := decide_eq_true (by omega)
      have t1 : decide ((d : Int) ≤ 65535) = true := decide_eq_true (by omega)
      have Hs := Lib.hid (show rscan s k d = if (rscan s k (d - 1)).1 < sameLen s k (k - d) then (sameLen s k (k - d), d) else rscan s k (d - 1) by
        obtain ⟨d', rfl⟩ : ∃ d', d = d' + 1 := ⟨d - 1, by omega⟩
        rw [rscan]
        rfl)
      clear hN hE
      go_wp2_with fail
      refine (rsame_any s k d (w.drewN n) hs hk hlt hd1).mono ?_
      rintro e w' ⟨rfl, n2, rfl⟩
      by_cases hb : N < sameLen s k (k - d)
      · have t2 : decide ((N : Int) < (sameLen s k (k - d) : Int)) = true := decide_eq_true (by omega)
        go_wp2
        go_roundw
        case rel =>
          have h1 := Hs.out
          rw [HN.out, if_pos hb] at h1
          exact ⟨d + 1, by omega, by omega, by rw [Nat.add_sub_cancel, h1], by rw [Nat.add_sub_cancel, h1], by go_num, Drew.draws _ _⟩
        case measure => simp [intOf]; omega
      · have t2 : decide ((N : Int) < (sameLen s k (k - d) : Int)) = false := decide_eq_false (by omega)
        go_wp2
        go_roundw
        case rel =>
          have h1 := Hs.out
          rw [HN.out, if_neg hb] at h1
          exact ⟨d + 1, by omega, by omega, by rw [Nat.add_sub_cancel, h1, HN.out], by rw [Nat.add_sub_cancel, h1, HE.out], by go_num, Drew.draws _ _⟩
        case measure => simp [intOf]; omega
    · have hdk : d - 1 = k := by omega
      have t0 : decide ((d : Int) ≤ (k : Int)) = false := decide_eq_false (by omega)
      have Hd := Lib.hid hdk
      clear hN hE hdk
      go_wp2
      go_ret2
      exact ⟨ret_two (by rw [← HN.out, Hd.out]) (by rw [← HE.out, Hd.out]), Drew.draws _ _⟩

end Go.Proofs.Ytnjcganknpnjcaa
