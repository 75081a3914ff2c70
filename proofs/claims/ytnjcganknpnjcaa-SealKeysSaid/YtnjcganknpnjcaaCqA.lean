/- cipher's reference: words of 64 bits: plain; a word, turning, exclusive or, a sum. -/
import Derived.Test.YtnjcganknpnjcaaCpE
namespace Go.Proofs.Ytnjcganknpnjcaa
open Go.RowKit

def wordsQ (v : Nat → Nat) : Nat → Value := fun i => .int .u64 (v i : Int)
theorem upd_wordsQ (v : Nat → Nat) (i x k : Nat) : (if k = i then Value.int .u64 (x : Int) else wordsQ v k) = wordsQ (upd v i x) k := by
  unfold wordsQ upd
  split <;> rfl
theorem turn_rotl (x s : Nat) (hs : s ≤ 32) : x * 2 ^ s % 4294967296 + x * 2 ^ s / 4294967296 = rotl s x := by
  have hp : (4294967296 : Nat) = 2 ^ (32 - s) * 2 ^ s := by rw [← Nat.pow_add, show 32 - s + s = 32 by omega]
  rw [rotl]
  congr 1
  rw [hp, Nat.mul_div_mul_right _ _ (Nat.two_pow_pos s)]
/-- The exclusive or, from the lowest i bits. -/
theorem xor_bits (a b i : Nat) : (a ^^^ b) % 2 ^ (i + 1) = (a ^^^ b) % 2 ^ i + if a / 2 ^ i % 2 = b / 2 ^ i % 2 then 0 else 2 ^ i := by
  have key : ∀ x : Nat, x / 2 ^ i % 2 = (x.testBit i).toNat := by
    intro x
    rw [Nat.testBit_eq_decide_div_mod_eq]
    have : x / 2 ^ i % 2 < 2 := Nat.mod_lt _ (by omega)
    rcases (show x / 2 ^ i % 2 = 0 ∨ x / 2 ^ i % 2 = 1 by omega) with h | h <;> rw [h] <;> rfl
  rw [Nat.pow_succ, Nat.mod_mul, key, key, key, Nat.testBit_xor]
  congr 1
  cases a.testBit i <;> cases b.testBit i <;> simp

set_option maxRecDepth 100000 in
set_option maxHeartbeats 1000000 in
theorem turn_any (x p s : Nat) (w : World) (hx : x < 4294967296) (hp : 2 ^ s = p) (hs : s ≤ 16) :
    Calls Try.prog 130 #[.int .u64 (x : Int), .int .u64 (p : Int)] w fun e w' => e = .returned (.int .u64 (rotl s x : Int)) ∧ w' = w := by
  have hr := turn_rotl x s (by omega)
  have hpl : p ≤ 65536 := by rw [← hp]; exact Nat.pow_le_pow_right (by omega) hs
  rw [hp] at hr
  have hyl : x * p < 281474976710656 := Nat.lt_of_lt_of_le (Nat.mul_lt_mul_of_lt_of_le hx hpl (by omega)) (by omega)
  obtain ⟨y, hy⟩ : ∃ y, x * p = y := ⟨_, rfl⟩
  rw [hy] at hr hyl
  have e1 : (x : Int) * (p : Int) % 18446744073709551616 = (y : Int) := by
    rw [show (x : Int) * (p : Int) = (y : Int) by rw [← hy]; push_cast; rfl]; omega
  have t1 : IntKind.u64.wrap ((x : Int) * (p : Int)) = (y : Int) := by rw [IntKind.wrap_u64]; exact e1
  have t2 : (y : Int).tmod 4294967296 = (y : Int) % 4294967296 := Int.tmod_eq_emod_of_nonneg (by omega)
  have t3 : (y : Int).tdiv 4294967296 = (y : Int) / 4294967296 := Int.tdiv_eq_ediv_of_nonneg (by omega)
  have t4 : IntKind.u64.wrap ((y : Int) / 4294967296) = (y : Int) / 4294967296 := IntWalk.u64_in _ (by omega)
  have t5 : IntKind.u64.wrap ((y : Int) % 4294967296 + (y : Int) / 4294967296) = (y : Int) % 4294967296 + (y : Int) / 4294967296 := IntWalk.u64_in _ (by omega)
  have Hr := Lib.hid hr
  clear hy hr hp e1
  go_enter Try.func130, Try.ntmps130
  go_wp2
  try simp only [t1, t2, t3, t4, t5]
  go_ret
  exact ⟨ret_int (by rw [← Hr.out]; omega), rfl⟩

set_option maxRecDepth 100000 in
set_option maxHeartbeats 1000000 in
theorem qadd_any (x y : Nat) (w : World) (hx : x < 4294967296) (hy : y < 4294967296) :
    Calls Try.prog 113 #[.int .u64 (x : Int), .int .u64 (y : Int)] w fun e w' => e = .returned (.int .u64 ((x + y) % 4294967296 : Nat)) ∧ w' = w := by
  go_enter Try.func113, Try.ntmps113
  go_wp2
  go_ret
  exact ⟨ret_int (by omega), rfl⟩

set_option maxRecDepth 100000 in
set_option maxHeartbeats 1000000 in
theorem qxor_any (x y : Nat) (w : World) (hx : x < 4294967296) (hy : y < 4294967296) :
    Calls Try.prog 97 #[.int .u64 (x : Int), .int .u64 (y : Int)] w fun e w' => e = .returned (.int .u64 ((x ^^^ y : Nat) : Int)) ∧ w' = w := by
  obtain ⟨z, hz⟩ : ∃ z, x ^^^ y = z := ⟨_, rfl⟩
  have hzl : z < 4294967296 := by rw [← hz]; exact Nat.xor_lt_two_pow (n := 32) hx hy
  have hst : ∀ k, z % 2 ^ (k + 1) = z % 2 ^ k + if x / 2 ^ k % 2 = y / 2 ^ k % 2 then 0 else 2 ^ k := fun k => by rw [← hz]; exact xor_bits x y k
  rw [hz]
  clear hz
  go_enter Try.func97, Try.ntmps97
  go_wp2
  go_loopw [0, 1, 5, 6, 7] (fun a b o u i wx => ∃ k : Nat, k ≤ 32 ∧ a = .int .u64 ((x / 2 ^ k : Nat) : Int) ∧ b = .int .u64 ((y / 2 ^ k : Nat) : Int) ∧ o = .int .u64 ((z % 2 ^ k : Nat) : Int) ∧ u = .int .u64 ((2 ^ k : Nat) : Int) ∧ i = .int .i64 (k : Int) ∧ wx = w) (fun a b o u i _ => 32 - (intOf i).toNat)
  case atStart => exact ⟨0, by omega, by simp, by simp, by simp [Nat.mod_one], by simp, rfl, rfl⟩
  case round =>
    obtain ⟨k, hk, rfl, rfl, rfl, rfl, rfl, rfl⟩ := hrel
    by_cases hlt : k < 32
    · have c0 : decide ((k : Int) < 32) = true := decide_eq_true (by omega)
      obtain ⟨a, ha⟩ : ∃ a, x / 2 ^ k = a := ⟨_, rfl⟩
      obtain ⟨b, hb⟩ : ∃ b, y / 2 ^ k = b := ⟨_, rfl⟩
      obtain ⟨o, ho⟩ : ∃ o, z % 2 ^ k = o := ⟨_, rfl⟩
      obtain ⟨u, hu⟩ : ∃ u, 2 ^ k = u := ⟨_, rfl⟩
      have hal : a < 4294967296 := by rw [← ha]; exact Nat.lt_of_le_of_lt (Nat.div_le_self _ _) hx
      have hbl : b < 4294967296 := by rw [← hb]; exact Nat.lt_of_le_of_lt (Nat.div_le_self _ _) hy
      have hol : o < 4294967296 := by rw [← ho]; exact Nat.lt_of_le_of_lt (Nat.mod_le _ _) hzl
      have hul : u ≤ 4294967296 := by rw [← hu]; exact Nat.pow_le_pow_right (by omega) hk
      have ha2 : x / 2 ^ (k + 1) = a / 2 := by rw [Nat.pow_succ, ← Nat.div_div_eq_div_mul, ha]
      have hb2 : y / 2 ^ (k + 1) = b / 2 := by rw [Nat.pow_succ, ← Nat.div_div_eq_div_mul, hb]
      have hu2 : 2 ^ (k + 1) = 2 * u := by rw [Nat.pow_succ, hu]; omega
      have hs := hst k
      rw [ha, hb, ho, hu] at hs
      rw [ha, hb, ho, hu]
      have Ha := Lib.hid ha2
      have Hb := Lib.hid hb2
      have Hu := Lib.hid hu2
      have Hs := Lib.hid hs
      clear ha hb ho hu ha2 hb2 hu2 hs hst
      have q : (2 * (u : Int)) % 18446744073709551616 = 2 * (u : Int) := by omega
      by_cases hab : a % 2 = b % 2
      · have c1 : decide ((a : Int) % 2 = (b : Int) % 2) = true := decide_eq_true (by omega)
        have c2 : (a : Int) % 2 = (b : Int) % 2 := by omega
        go_wp2
        go_roundw
        case rel => exact ⟨k + 1, by omega, by rw [Ha.out]; push_cast; rfl, by rw [Hb.out]; push_cast; rfl, by rw [Hs.out, if_pos hab]; simp, by rw [Hu.out]; push_cast; rfl, by go_num, trivial⟩
        case measure => simp [intOf]; omega
      · have c1 : decide ((a : Int) % 2 = (b : Int) % 2) = false := decide_eq_false (by omega)
        have c2 : ¬ (a : Int) % 2 = (b : Int) % 2 := by omega
        have q2 : ((o : Int) + (u : Int)) % 18446744073709551616 = (o : Int) + (u : Int) := by omega
        go_wp2
        go_roundw
        case rel => exact ⟨k + 1, by omega, by rw [Ha.out]; push_cast; rfl, by rw [Hb.out]; push_cast; rfl, by rw [Hs.out, if_neg hab]; push_cast; rfl, by rw [Hu.out]; push_cast; rfl, by go_num, trivial⟩
        case measure => simp [intOf]; omega
    · have c0 : decide ((k : Int) < 32) = false := decide_eq_false (by omega)
      obtain rfl : k = 32 := by omega
      have hz32 : z % 2 ^ 32 = z := Nat.mod_eq_of_lt hzl
      go_wp2
      go_ret
      exact ⟨ret_int (by rw [hz32]), rfl⟩
end Go.Proofs.Ytnjcganknpnjcaa
