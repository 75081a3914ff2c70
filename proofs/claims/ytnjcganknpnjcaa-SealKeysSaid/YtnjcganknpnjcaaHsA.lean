/- hash, cipher: words of 32 bits as natural numbers; turning. -/
import Derived.Test.YtnjcganknpnjcaaBase
namespace Go.Proofs.Ytnjcganknpnjcaa
open Go.RowKit

/-- A word, turned left by s bits. -/
def rotl (s x : Nat) : Nat := x * 2 ^ s % 4294967296 + x / 2 ^ (32 - s)
theorem ofInt_u32 (a : Nat) (ha : a < 4294967296) : (BitVec.ofInt 32 (a : Int)).toNat = a := by
  rw [BitVec.ofInt_natCast, BitVec.toNat_ofNat]; exact Nat.mod_eq_of_lt (by omega)
theorem u32_or_nat (a b : Nat) (ha : a < 4294967296) (hb : b < 4294967296) : bits .or .u32 (a : Int) (b : Int) = ((a ||| b : Nat) : Int) := by
  have hx : a ||| b < 2 ^ 32 := Nat.or_lt_two_pow (by omega) (by omega)
  show IntKind.u32.wrap ((BitVec.ofInt 32 (a : Int) ||| BitVec.ofInt 32 (b : Int)).toNat : Int) = _
  rw [BitVec.toNat_or, ofInt_u32 a ha, ofInt_u32 b hb, IntKind.wrap_u32]
  omega
theorem u32_xor_nat (a b : Nat) (ha : a < 4294967296) (hb : b < 4294967296) : bits .xor .u32 (a : Int) (b : Int) = ((a ^^^ b : Nat) : Int) := by
  have hx : a ^^^ b < 2 ^ 32 := Nat.xor_lt_two_pow (by omega) (by omega)
  show IntKind.u32.wrap ((BitVec.ofInt 32 (a : Int) ^^^ BitVec.ofInt 32 (b : Int)).toNat : Int) = _
  rw [BitVec.toNat_xor, ofInt_u32 a ha, ofInt_u32 b hb, IntKind.wrap_u32]
  omega
theorem rot_parts (x s : Nat) (hs : 0 < s) (h : s < 32) (hx : x < 4294967296) : x * 2 ^ s % 4294967296 = (x % 2 ^ (32 - s)) <<< s ∧ x / 2 ^ (32 - s) < 2 ^ s := by
  have hp : (4294967296 : Nat) = 2 ^ (32 - s) * 2 ^ s := by rw [← Nat.pow_add, show 32 - s + s = 32 by omega]
  constructor
  · rw [hp, Nat.mul_mod_mul_right, Nat.shiftLeft_eq]
  · rw [Nat.div_lt_iff_lt_mul (Nat.two_pow_pos _), Nat.mul_comm, ← hp]
    exact hx
theorem rot_or (x s : Nat) (hs : 0 < s) (h : s < 32) (hx : x < 4294967296) : (x * 2 ^ s % 4294967296) ||| (x / 2 ^ (32 - s)) = rotl s x := by
  obtain ⟨h1, h2⟩ := rot_parts x s hs h hx
  rw [rotl, h1, Nat.shiftLeft_add_eq_or_of_lt h2]
theorem rotl_lt (s x : Nat) (hs : 0 < s) (h : s < 32) (hx : x < 4294967296) : rotl s x < 4294967296 := by
  rw [← rot_or x s hs h hx]
  have h1 : x * 2 ^ s % 4294967296 < 2 ^ 32 := Nat.mod_lt _ (by omega)
  have h2 : x / 2 ^ (32 - s) < 2 ^ 32 := Nat.lt_of_le_of_lt (Nat.div_le_self _ _) (by omega)
  exact Nat.or_lt_two_pow h1 h2

set_option maxRecDepth 100000 in
set_option maxHeartbeats 1000000 in
theorem rot_any (x s : Nat) (k : Int) (w : World) (hx : x < 4294967296) (h : bits .and .u64 (IntKind.u64.wrap k) 31 = (s : Int)) (h0 : 0 < s) (h1 : s < 32) :
    Calls Try.prog 110 #[.int .u32 x, .int .i64 k] w fun e w' => e = .returned (.int .u32 (rotl s x)) ∧ w' = w := by
  have t1 : IntKind.u64.wrap (32 - (s : Int)) = 32 - (s : Int) := IntWalk.u64_in _ (by omega)
  have t2 : (32 - (s : Int)).toNat = 32 - s := by omega
  have t3 : bits .or .u32 ((x : Int) * 2 ^ s % 4294967296) ((x : Int) / 2 ^ (32 - s)) = (rotl s x : Int) := by
    have hq : x / 2 ^ (32 - s) < 4294967296 := Nat.lt_of_le_of_lt (Nat.div_le_self _ _) (by omega)
    have hp : x * 2 ^ s % 4294967296 < 4294967296 := Nat.mod_lt _ (by omega)
    have := u32_or_nat (x * 2 ^ s % 4294967296) (x / 2 ^ (32 - s)) hp hq
    rw [rot_or x s h0 h1 hx] at this
    rw [← this]
    congr 1
  go_enter Try.func110, Try.ntmps110
  go_wp2
  go_ret
  exact ⟨rfl, rfl⟩

set_option maxRecDepth 100000 in
set_option maxHeartbeats 1000000 in
theorem turned_any (x s : Nat) (w : World) (hx : x < 4294967296) (h0 : 0 < s) (h1 : s < 32) :
    Calls Try.prog 132 #[.int .u32 x, .int .u64 (s : Int)] w fun e w' => e = .returned (.int .u32 (rotl (32 - s) x)) ∧ w' = w := by
  have t1 : IntKind.u64.wrap (32 - (s : Int)) = 32 - (s : Int) := IntWalk.u64_in _ (by omega)
  have t2 : (32 - (s : Int)).toNat = 32 - s := by omega
  have t3 : bits .or .u32 ((x : Int) / 2 ^ s) ((x : Int) * 2 ^ (32 - s) % 4294967296) = (rotl (32 - s) x : Int) := by
    have hq : x / 2 ^ s < 4294967296 := Nat.lt_of_le_of_lt (Nat.div_le_self _ _) (by omega)
    have hp : x * 2 ^ (32 - s) % 4294967296 < 4294967296 := Nat.mod_lt _ (by omega)
    have := u32_or_nat (x / 2 ^ s) (x * 2 ^ (32 - s) % 4294967296) hq hp
    have hr := rot_or x (32 - s) (by omega) (by omega) hx
    rw [show 32 - (32 - s) = s by omega] at hr
    rw [Nat.or_comm, hr] at this
    rw [← this]
    congr 1
  go_enter Try.func132, Try.ntmps132
  go_wp2
  go_ret
  exact ⟨rfl, rfl⟩
end Go.Proofs.Ytnjcganknpnjcaa
