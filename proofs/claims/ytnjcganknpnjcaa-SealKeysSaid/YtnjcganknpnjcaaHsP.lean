/- hash and cipher, plain: words as functions of their number, mixing, the rounds, taking a block in. -/
import Derived.Test.YtnjcganknpnjcaaHsA
namespace Go.Proofs.Ytnjcganknpnjcaa
open Go.RowKit

def upd (v : Nat → Nat) (i x : Nat) : Nat → Nat := fun j => if j = i then x else v j
def wordsV (v : Nat → Nat) : Nat → Value := fun i => .int .u32 (v i : Int)
def Words (v : Nat → Nat) : Prop := ∀ i, v i < 4294967296
theorem Words.upd {v : Nat → Nat} (h : Words v) (i : Nat) {x : Nat} (hx : x < 4294967296) : Words (upd v i x) := by
  intro j
  unfold Ytnjcganknpnjcaa.upd
  split
  · exact hx
  · exact h j
theorem upd_wordsV (v : Nat → Nat) (i x k : Nat) : (if k = i then Value.int .u32 (x : Int) else wordsV v k) = wordsV (upd v i x) k := by
  unfold wordsV upd
  split <;> rfl

def half1 (v : Nat → Nat) (a b n : Nat) : Nat → Nat := upd v a ((v a + (v b + n)) % 4294967296)
def half2 (v : Nat → Nat) (a d s : Nat) : Nat → Nat := upd v d (rotl s (v d ^^^ v a))
/-- A half of a mixing step. -/
def halfV (v : Nat → Nat) (a b c d n s1 s2 : Nat) : Nat → Nat := half2 (half1 (half2 (half1 v a b n) a d s1) c d 0) c b s2
/-- A mixing step. -/
def mixV (v : Nat → Nat) (a b c d x y : Nat) : Nat → Nat := halfV (halfV v a b c d x 16 20) a b c d y 24 25
theorem half1_words {v : Nat → Nat} (h : Words v) (a b n : Nat) : Words (half1 v a b n) := h.upd _ (Nat.mod_lt _ (by omega))
theorem half2_words {v : Nat → Nat} (h : Words v) (a d s : Nat) (h0 : 0 < s) (h1 : s < 32) : Words (half2 v a d s) :=
  h.upd _ (rotl_lt _ _ h0 h1 (Nat.xor_lt_two_pow (n := 32) (h d) (h a)))
theorem halfV_words {v : Nat → Nat} (h : Words v) (a b c d n s1 s2 : Nat) (h0 : 0 < s1) (h1 : s1 < 32) (h2 : 0 < s2) (h3 : s2 < 32) : Words (halfV v a b c d n s1 s2) :=
  half2_words (half1_words (half2_words (half1_words h _ _ _) _ _ _ h0 h1) _ _ _) _ _ _ h2 h3
theorem mixV_words {v : Nat → Nat} (h : Words v) (a b c d x y : Nat) : Words (mixV v a b c d x y) :=
  halfV_words (halfV_words h _ _ _ _ _ _ _ (by omega) (by omega) (by omega) (by omega)) _ _ _ _ _ _ _ (by omega) (by omega) (by omega) (by omega)

/-- The number of a round's sign. -/
def sigL : List Nat := [0, 1, 2, 3, 4, 5, 6, 7, 8, 9, 10, 11, 12, 13, 14, 15, 14, 10, 4, 8, 9, 15, 13, 6, 1, 12, 0, 2, 11, 7, 5, 3, 11, 8, 12, 0, 5, 2, 15, 13, 10, 14, 3, 6, 7, 1, 9, 4, 7, 9, 3, 1, 13, 12, 11, 14, 2, 6, 5, 10, 4, 0, 15, 8, 9, 0, 5, 7, 2, 4, 10, 15, 14, 1, 11, 12, 6, 8, 3, 13, 2, 12, 6, 10, 0, 11, 8, 3, 4, 13, 7, 5, 15, 14, 1, 9, 12, 5, 1, 15, 14, 13, 4, 10, 0, 7, 6, 3, 9, 2, 8, 11, 13, 11, 7, 14, 12, 1, 3, 9, 5, 0, 15, 4, 8, 6, 2, 10, 6, 15, 14, 9, 11, 3, 0, 8, 12, 2, 13, 7, 1, 4, 10, 5, 10, 2, 8, 4, 7, 6, 1, 5, 15, 11, 9, 14, 3, 12, 13, 0]
def sig (r j : Nat) : Nat := sigL.getD (16 * r + j) 0
theorem getD_lt {l : List Nat} {b : Nat} (h : ∀ x ∈ l, x < b) (hb : 0 < b) (k : Nat) : l.getD k 0 < b := by
  rw [List.getD_eq_getElem?_getD]
  cases hk : l[k]? with
  | none => exact hb
  | some x => exact h x (List.mem_of_getElem? hk)
set_option maxRecDepth 10000 in
theorem sig_lt (r j : Nat) : sig r j < 16 := getD_lt (by decide) (by omega) _

/-- The step number k of a round. -/
def stp (m : Nat → Nat) (r k : Nat) (v : Nat → Nat) : Nat → Nat :=
  if k < 4 then mixV v k (4 + k) (8 + k) (12 + k) (m (sig r (2 * k))) (m (sig r (2 * k + 1)))
  else mixV v (k - 4) (4 + (k - 4 + 1) % 4) (8 + (k - 4 + 2) % 4) (12 + (k - 4 + 3) % 4) (m (sig r (2 * k))) (m (sig r (2 * k + 1)))
def stps (m : Nat → Nat) (r : Nat) : Nat → (Nat → Nat) → (Nat → Nat)
  | 0, v => v
  | k + 1, v => stp m r k (stps m r k v)
def rnds (m : Nat → Nat) : Nat → (Nat → Nat) → (Nat → Nat)
  | 0, v => v
  | r + 1, v => stps m r 8 (rnds m r v)
theorem stp_words {v : Nat → Nat} (m : Nat → Nat) (r k : Nat) (h : Words v) : Words (stp m r k v) := by
  unfold stp
  split <;> exact mixV_words h _ _ _ _ _ _
theorem stps_words {v : Nat → Nat} (m : Nat → Nat) (r : Nat) (h : Words v) : ∀ k, Words (stps m r k v)
  | 0 => h
  | k + 1 => stp_words m r k (stps_words m r h k)
theorem rnds_words {v : Nat → Nat} (m : Nat → Nat) (h : Words v) : ∀ r, Words (rnds m r v)
  | 0 => h
  | r + 1 => stps_words m r (rnds_words m h r) 8

/-- The eight numbers at the beginning. -/
def ivL : List Nat := [0x6a09e667, 0xbb67ae85, 0x3c6ef372, 0xa54ff53a, 0x510e527f, 0x9b05688c, 0x1f83d9ab, 0x5be0cd19]
def iv (i : Nat) : Nat := ivL.getD i 0
/-- What the sixteen words begin with. -/
def beg0 (h : Nat → Nat) : Nat → Nat := fun i => if i < 8 then h i else iv (i - 8)
def beg1 (h : Nat → Nat) (count : Nat) : Nat → Nat := upd (beg0 h) 12 (beg0 h 12 ^^^ (count % 4294967296))
def beg2 (h : Nat → Nat) (count : Nat) : Nat → Nat := upd (beg1 h count) 13 (beg1 h count 13 ^^^ (count / 4294967296))
def begV (h : Nat → Nat) (count : Nat) (last : Bool) : Nat → Nat := if last then upd (beg2 h count) 14 (4294967295 - beg2 h count 14) else beg2 h count
/-- A block is taken in. -/
def takeV (h m : Nat → Nat) (count : Nat) (last : Bool) : Nat → Nat := fun i => h i ^^^ (rnds m 10 (begV h count last) i ^^^ rnds m 10 (begV h count last) (i + 8))
theorem iv_words : Words iv := fun i => getD_lt (by decide) (by omega) i
theorem beg0_words {h : Nat → Nat} (hh : Words h) : Words (beg0 h) := by
  intro i
  unfold beg0
  split
  · exact hh i
  · exact iv_words _
theorem beg1_words {h : Nat → Nat} (hh : Words h) (count : Nat) : Words (beg1 h count) :=
  (beg0_words hh).upd 12 (Nat.xor_lt_two_pow (n := 32) (beg0_words hh 12) (by omega))
theorem beg2_words {h : Nat → Nat} (hh : Words h) (count : Nat) (hc : count < 18446744073709551616) : Words (beg2 h count) :=
  (beg1_words hh count).upd 13 (Nat.xor_lt_two_pow (n := 32) (beg1_words hh count 13) (show count / 4294967296 < 2 ^ 32 by omega))
theorem begV_words {h : Nat → Nat} (hh : Words h) (count : Nat) (last : Bool) (hc : count < 18446744073709551616) : Words (begV h count last) := by
  unfold begV
  split
  · exact (beg2_words hh count hc).upd 14 (by omega)
  · exact beg2_words hh count hc
theorem takeV_words {h : Nat → Nat} (hh : Words h) (m : Nat → Nat) (count : Nat) (last : Bool) (hc : count < 18446744073709551616) : Words (takeV h m count last) := by
  intro i
  have := rnds_words m (begV_words hh count last hc) 10
  exact Nat.xor_lt_two_pow (n := 32) (hh i) (Nat.xor_lt_two_pow (n := 32) (this i) (this (i + 8)))
end Go.Proofs.Ytnjcganknpnjcaa
