/- The walks of LzJoins and LzCuts. -/
import Derived.Test.YtnjcganknpnjcaaWkBack
namespace Go.Proofs.Ytnjcganknpnjcaa
open Go.RowKit

theorem below2 {a b c : World} (h : Below a.heap.size a b) (k : Below b.heap.size b c) : Below a.heap.size a c := h.trans (k.mono h.size)

set_option maxRecDepth 100000 in
set_option maxHeartbeats 1000000 in
theorem LzJoins_walk (a b : ByteArray) (ha : a.size ≤ maxLen) (hb : b.size ≤ maxLen) (w : World) :
    Calls Try.prog 6 #[.string a, .string b] w fun e w' => e = .returned (.bool true) ∧ Below w.heap.size w w' := by
  unfold maxLen at ha hb
  by_cases h : a.size ≤ 1000 ∧ b.size ≤ 1000
  · obtain ⟨h1, h2⟩ := h
    have t0 : decide ((1000 : Int) < (a.size : Int)) = false := decide_eq_false (by omega)
    have t1 : decide ((1000 : Int) < (b.size : Int)) = false := decide_eq_false (by omega)
    have hp := joins_plain a b (by omega) (by omega)
    have Hp := Lib.hid hp
    have la := packs_plain a
    have lb := packs_plain b
    have la' : (pack a).length ≤ 1008 := by omega
    have lb' : (pack b).length ≤ 1008 := by omega
    clear hp la lb
    go_enter Try.func6, Try.ntmps6
    go_wp2_with fail
    refine (pack_any a w (by omega)).mono ?_
    rintro e w1 ⟨rfl, hb1⟩
    go_wp2_with fail
    refine (pack_any b w1 (by omega)).mono ?_
    rintro e w2 ⟨rfl, hb2⟩
    obtain ⟨z, hz⟩ : ∃ z : ByteArray, (⟨(pack a).toArray⟩ : ByteArray) ++ (⟨(pack b).toArray⟩ : ByteArray) = z := ⟨_, rfl⟩
    have hzd : z.data.toList = pack a ++ pack b := by rw [← hz]; simp
    have hzl : z.size ≤ 100000 := by
      have : z.data.toList.length = z.size := by simp
      rw [← this, hzd, List.length_append]
      omega
    have Hzd := Lib.hid hzd
    clear hzd
    go_wp2_with fail
    refine (unpack_any z ((a.size : Int) + (b.size : Int)) w2 hzl (by omega) (by omega)).mono ?_
    rintro e w3 ⟨rfl, hb3⟩
    rw [Hzd.out, show (a.size : Int) + (b.size : Int) = ((a.size + b.size : Nat) : Int) by omega, Hp.out]
    have hab : (⟨(bl a ++ bl b).toArray⟩ : ByteArray) = a ++ b := by
      apply ByteArray.ext
      apply Array.ext'
      simp [bl]
    rw [hab]
    clear hz hab
    go_wp2_with fail
    refine (awake_any w3).mono ?_
    rintro e w4 ⟨rfl, hb4⟩
    go_wp2
    go_ret
    exact ⟨rfl, below2 (below2 (below2 hb1 hb2) (hb3.mono (Nat.le_refl _))) hb4⟩
  · by_cases h1 : a.size ≤ 1000
    · have t0 : decide ((1000 : Int) < (a.size : Int)) = false := decide_eq_false (by omega)
      have t1 : decide ((1000 : Int) < (b.size : Int)) = true := decide_eq_true (by omega)
      clear h
      go_enter Try.func6, Try.ntmps6
      go_wp2_with fail
      refine (awake_any w).mono ?_
      rintro e w1 ⟨rfl, hb1⟩
      go_wp2
      go_ret
      exact ⟨rfl, hb1⟩
    · have t0 : decide ((1000 : Int) < (a.size : Int)) = true := decide_eq_true (by omega)
      clear h
      go_enter Try.func6, Try.ntmps6
      go_wp2_with fail
      refine (awake_any w).mono ?_
      rintro e w1 ⟨rfl, hb1⟩
      go_wp2
      go_ret
      exact ⟨rfl, hb1⟩

set_option maxRecDepth 100000 in
set_option maxHeartbeats 1000000 in
theorem LzCuts_walk (s : ByteArray) (k : Int) (hs : s.size ≤ maxLen) (hk : (Lit.int .u16 k).wf = true) (w : World) :
    Calls Try.prog 7 #[.string s, .int .u16 k] w fun e w' => e = .returned (.bool true) ∧ Below w.heap.size w w' := by
  unfold maxLen at hs
  obtain ⟨hk1, hk2⟩ := bounds_u16 hk
  clear hk
  by_cases h : s.size ≤ 1000
  · have t0 : decide ((1000 : Int) < (s.size : Int)) = false := decide_eq_false (by omega)
    go_enter Try.func7, Try.ntmps7
    go_wp2_with fail
    refine (pack_any s w (by omega)).mono ?_
    rintro e w1 ⟨rfl, hb1⟩
    obtain ⟨b, hbe⟩ : ∃ b : ByteArray, (⟨(pack s).toArray⟩ : ByteArray) = b := ⟨_, rfl⟩
    have hbl : b.size = (pack s).length := by rw [← hbe]; show (pack s).toArray.size = _; simp
    have hbd : b.data.toList = pack s := by rw [← hbe]
    have hps := packs_plain s
    have hb2 : b.size ≤ 1008 := by omega
    have Hbl := Lib.hid hbl
    rw [hbe]
    obtain ⟨n, hn⟩ : ∃ n : Nat, k % ((b.size : Int) + 1) = (n : Int) := ⟨(k % ((b.size : Int) + 1)).toNat, (Int.toNat_of_nonneg (Int.emod_nonneg k (by omega))).symm⟩
    have hnb : n ≤ b.size := by
      have := Int.emod_lt_of_pos k (show 0 < (b.size : Int) + 1 by omega)
      omega
    obtain ⟨c, hc⟩ : ∃ c : ByteArray, b.extract 0 n = c := ⟨_, rfl⟩
    have hcd : c.data.toList = (pack s).take n := by rw [← hc, Lib.extract_data, hbd]; simp
    have hcl : c.size ≤ 100000 := by
      have : c.data.toList.length = c.size := by simp
      rw [← this, hcd, List.length_take]
      omega
    have Hcd := Lib.hid hcd
    have hcut := cuts_plain s (by omega) n
    have Hall := Lib.hid (back_plain s (by omega) s.size)
    clear hps hbl hbd hcd hbe
    go_wp2_with fail
    refine (unpack_any c s.size w1 hcl (by omega) (by omega)).mono ?_
    rintro e w2 ⟨rfl, hb3⟩
    rw [Hcd.out]
    rcases hcut with h4 | ⟨m, hm, h0⟩
    · rw [h4]
      clear h4 hc hn
      go_wp2_with fail
      refine (awake_any w2).mono ?_
      rintro e w3 ⟨rfl, hb4⟩
      go_wp2
      go_ret
      exact ⟨rfl, below2 (below2 hb1 hb3) hb4⟩
    · rw [h0]
      rw [bl_length] at hm
      obtain ⟨x, hx⟩ : ∃ x : ByteArray, (⟨((bl s).take m).toArray⟩ : ByteArray) = x := ⟨_, rfl⟩
      have hxl : x.size = m := by
        rw [← hx]
        show ((bl s).take m).toArray.size = m
        simp [bl_length]
        omega
      have hxe : s.extract 0 x.size = x := by
        rw [hxl, ← hx]
        apply ByteArray.ext
        apply Array.ext'
        rw [Lib.extract_data]
        simp [bl]
      rw [hx]
      have hxs : x.size ≤ s.size := by omega
      by_cases hlt : n < b.size
      · have t5 : k % ((b.size : Int) + 1) < (b.size : Int) := by rw [hn]; omega
        clear h0 hc hn hx hxl
        go_wp2_with fail
        refine (awake_any w2).mono ?_
        rintro e w3 ⟨rfl, hb4⟩
        go_wp2
        go_ret
        exact ⟨rfl, below2 (below2 hb1 hb3) hb4⟩
      · have t5 : decide ((n : Int) < (b.size : Int)) = false := decide_eq_false (by omega)
        have hxs2 : x = s := by
          have h1 := Hall.out
          rw [if_neg (by omega)] at h1
          rw [List.take_of_length_le (by rw [← Hbl.out]; omega), h1] at h0
          injection h0 with h0 _
          rw [← hx, ← h0, str_of_bl]
        subst hxs2
        have t6 : ¬ k % ((b.size : Int) + 1) < (b.size : Int) := by rw [hn]; omega
        clear h0 hc hn hx hxl
        go_wp2_with fail
        refine (awake_any w2).mono ?_
        rintro e w3 ⟨rfl, hb4⟩
        go_wp2
        go_ret
        exact ⟨rfl, below2 (below2 hb1 hb3) hb4⟩
  · have t0 : decide ((1000 : Int) < (s.size : Int)) = true := decide_eq_true (by omega)
    go_enter Try.func7, Try.ntmps7
    go_wp2_with fail
    refine (awake_any w).mono ?_
    rintro e w1 ⟨rfl, hb1⟩
    go_wp2
    go_ret
    exact ⟨rfl, hb1⟩

end Go.Proofs.Ytnjcganknpnjcaa
