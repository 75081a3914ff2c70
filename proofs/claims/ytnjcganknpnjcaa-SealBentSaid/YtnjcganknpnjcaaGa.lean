/- Small words that all walks of this seat use: a string's byte by its number, endings that are equal. -/
import Derived.Test.YtnjcganknpnjcaaProg
import Derived.WalkKit
import Derived.WalkLawsBesides
import Derived.WalkSpells
import Derived.Deep.QuietTactic
import Derived.BigQuiet
import Derived.Lib.Hide
import Derived.Deep.LoopGhost
import Derived.IntWalk
import Derived.StillTailTactics
import Derived.Deep.RegionHeld3
import Derived.Deep.DeepCutAuto
import Derived.Deep.CutBlock
import Derived.Laws.Rows
import Derived.Below
import Derived.Deep.OwnRows
import Derived.OwnWalk
import Derived.Laws.CopyOwn
set_option linter.unusedVariables false
set_option linter.unusedSimpArgs false
namespace Go.Proofs.Ytnjcganknpnjcaa
open Go.RowKit

theorem ret_int {k : IntKind} {a b : Int} (h : a = b) : Ending.returned (.int k a) = .returned (.int k b) := by rw [h]
theorem ret_val {a b : Value} (h : a = b) : Ending.returned a = .returned b := by rw [h]
theorem ret_two {k l : IntKind} {a b c d : Int} (h : a = b) (h' : c = d) : Ending.returned (.tuple #[.int k a, .int l c]) = .returned (.tuple #[.int k b, .int l d]) := by rw [h, h']

/-- The byte number i of a string. -/
def byt (s : ByteArray) (i : Nat) : Int := if h : i < s.size then ((s[i]'h).toNat : Int) else 0
theorem byt_at (s : ByteArray) (i : Nat) : ∀ h : i < s.size, ((s[i]'h).toNat : Int) = byt s i := fun h => by simp [byt, h]
theorem byt_range (s : ByteArray) (i : Nat) : 0 ≤ byt s i ∧ byt s i ≤ 255 := by
  unfold byt
  split
  · rename_i h
    have := (s[i]'h).toNat_lt
    omega
  · omega
theorem byt_lt (s : ByteArray) (i : Nat) : byt s i < 256 := by have := byt_range s i; omega

/-- Some draws, nothing else. -/
def Drew (w w' : World) : Prop := ∃ n, w' = w.drewN n
theorem Drew.refl (w : World) : Drew w w := ⟨0, rfl⟩
theorem Drew.draws (w : World) (n : Nat) : Drew w (w.drewN n) := ⟨n, rfl⟩
theorem Drew.draws2 (w : World) (n m : Nat) : Drew w ((w.drewN n).drewN m) := ⟨n + m, World.drewN_drewN _ _ _⟩
theorem Drew.drew (w : World) : Drew w w.drew := ⟨1, rfl⟩
theorem Drew.below {w w' : World} (h : Drew w w') (B : Nat) : Below B w w' := by
  obtain ⟨n, rfl⟩ := h
  exact ⟨rfl, rfl, rfl, Nat.le_refl _, fun _ _ => rfl⟩
theorem below_drewN {B : Nat} {a w : World} (h : Below B a w) (n : Nat) : Below B a (w.drewN n) := ⟨h.os, h.tape, h.output, h.size, h.block⟩
theorem grown_drewN {a w : World} {row : Option Nat} (h : a.grownBy w row) (n : Nat) : a.grownBy (w.drewN n) row := ⟨h.os, h.tape, h.output, h.size, h.block⟩

theorem cell_alloc {w : World} {p : Addr} {v : Value} (h : w.cell? p = some v) (o : Obj) : (w.alloc o).cell? p = some v :=
  (World.cell?_of_block (Below.heap_alloc w o p.block (block_lt_of_cell h))).trans h
theorem heap_new (w : World) (o : Obj) : (w.alloc o).heap[w.heap.size]? = some o := by
  show (w.heap.push o)[w.heap.size]? = some o
  simp
theorem heap_old {w : World} {i : Nat} {x : Obj} (h : w.heap[i]? = some x) (o : Obj) : (w.alloc o).heap[i]? = some x :=
  (Below.heap_alloc w o i (Array.getElem?_eq_some_iff.1 h).1).trans h

end Go.Proofs.Ytnjcganknpnjcaa
namespace Go.Proofs.Ytnjcganknpnjcaa
open Go.RowKit

/-- A word, turned left by s bits. -/
def rotl (s x : Nat) : Nat := x * 2 ^ s % 4294967296 + x / 2 ^ (32 - s)
theorem ofInt_u32 (a : Nat) (ha : a < 4294967296) : (BitVec.ofInt 32 (a : Int)).toNat = a := by
  rw [BitVec.ofInt_natCast, BitVec.toNat_ofNat]; exact Nat.mod_eq_of_lt (by omega)
theorem u32_or_nat (a b : Nat) (ha : a < 4294967296) (hb : b < 4294967296) : bits .or .u32 (a : Int) (b : Int) = ((a ||| b : Nat) : Int) := by
  have hx : a ||| b < 2 ^ 32 := Nat.or_lt_two_pow (by omega) (by omega)
  show IntKind.u32.wrap ((BitVec.ofInt 32 (a : Int) ||| BitVec.ofInt 32 (b : Int)).toNat : Int) = _
  rw [BitVec.toNat_or, ofInt_u32 a ha, ofInt_u32 b hb, IntKind.wrap_u32]
  omega
theorem u32_xor_nat (a b : Nat) (ha : a < 4294967296) (hb : b < 4294967296) : bits .xor .u32 (a : Int) (b : Int) = ((a ^^^ b : Nat) : Int) := by
  have hx : a ^^^ b < 2 ^ 32 := Nat.xor_lt_two_pow (by omega) (by omega)
  show IntKind.u32.wrap ((BitVec.ofInt 32 (a : Int) ^^^ BitVec.ofInt 32 (b : Int)).toNat : Int) = _
  rw [BitVec.toNat_xor, ofInt_u32 a ha, ofInt_u32 b hb, IntKind.wrap_u32]
  omega
theorem rot_parts (x s : Nat) (hs : 0 < s) (h : s < 32) (hx : x < 4294967296) : x * 2 ^ s % 4294967296 = (x % 2 ^ (32 - s)) <<< s ∧ x / 2 ^ (32 - s) < 2 ^ s := by
  have hp : (4294967296 : Nat) = 2 ^ (32 - s) * 2 ^ s := by rw [← Nat.pow_add, show 32 - s + s = 32 by omega]
  constructor
  · rw [hp, Nat.mul_mod_mul_right, Nat.shiftLeft_eq]
  · rw [Nat.div_lt_iff_lt_mul (Nat.two_pow_pos _), Nat.mul_comm, ← hp]
    exact hx
theorem rot_or (x s : Nat) (hs : 0 < s) (h : s < 32) (hx : x < 4294967296) : (x * 2 ^ s % 4294967296) ||| (x / 2 ^ (32 - s)) = rotl s x := by
  obtain ⟨h1, h2⟩ := rot_parts x s hs h hx
  rw [rotl, h1, Nat.shiftLeft_add_eq_or_of_lt h2]
theorem rotl_lt (s x : Nat) (hs : 0 < s) (h : s < 32) (hx : x < 4294967296) : rotl s x < 4294967296 := by
  rw [← rot_or x s hs h hx]
  have h1 : x * 2 ^ s % 4294967296 < 2 ^ 32 := Nat.mod_lt _ (by omega)
  have h2 : x / 2 ^ (32 - s) < 2 ^ 32 := Nat.lt_of_le_of_lt (Nat.div_le_self _ _) (by omega)
  exact Nat.or_lt_two_pow h1 h2

set_option maxRecDepth 100000 in
set_option maxHeartbeats 1000000 in
theorem rot_any (x s : Nat) (k : Int) (w : World) (hx : x < 4294967296) (h : bits .and .u64 (IntKind.u64.wrap k) 31 = (s : Int)) (h0 : 0 < s) (h1 : s < 32) :
    Calls Try.prog 110 #[.int .u32 x, .int .i64 k] w fun e w' => e = .returned (.int .u32 (rotl s x)) ∧ w' = w := by
  have t1 : IntKind.u64.wrap (32 - (s : Int)) = 32 - (s : Int) := IntWalk.u64_in _ (by omega)
  have t2 : (32 - (s : Int)).toNat = 32 - s := by omega
  have t3 : bits .or .u32 ((x : Int) * 2 ^ s % 4294967296) ((x : Int) / 2 ^ (32 - s)) = (rotl s x : Int) := by
    have hq : x / 2 ^ (32 - s) < 4294967296 := Nat.lt_of_le_of_lt (Nat.div_le_self _ _) (by omega)
    have hp : x * 2 ^ s % 4294967296 < 4294967296 := Nat.mod_lt _ (by omega)
    have := u32_or_nat (x * 2 ^ s % 4294967296) (x / 2 ^ (32 - s)) hp hq
    rw [rot_or x s h0 h1 hx] at this
    rw [← this]
    congr 1
  go_enter Try.func110, Try.ntmps110
  go_wp2
  go_ret
  exact ⟨rfl, rfl⟩

set_option maxRecDepth 100000 in
set_option maxHeartbeats 1000000 in
theorem turned_any (x s : Nat) (w : World) (hx : x < 4294967296) (h0 : 0 < s) (h1 : s < 32) :
    Calls Try.prog 132 #[.int .u32 x, .int .u64 (s : Int)] w fun e w' => e = .returned (.int .u32 (rotl (32 - s) x)) ∧ w' = w := by
  have t1 : IntKind.u64.wrap (32 - (s : Int)) = 32 - (s : Int) := IntWalk.u64_in _ (by omega)
  have t2 : (32 - (s : Int)).toNat = 32 - s := by omega
  have t3 : bits .or .u32 ((x : Int) / 2 ^ s) ((x : Int) * 2 ^ (32 - s) % 4294967296) = (rotl (32 - s) x : Int) := by
    have hq : x / 2 ^ s < 4294967296 := Nat.lt_of_le_of_lt (Nat.div_le_self _ _) (by omega)
    have hp : x * 2 ^ (32 - s) % 4294967296 < 4294967296 := Nat.mod_lt _ (by omega)
    have := u32_or_nat (x / 2 ^ s) (x * 2 ^ (32 - s) % 4294967296) hq hp
    have hr := rot_or x (32 - s) (by omega) (by omega) hx
    rw [show 32 - (32 - s) = s by omega] at hr
    rw [Nat.or_comm, hr] at this
    rw [← this]
    congr 1
  go_enter Try.func132, Try.ntmps132
  go_wp2
  go_ret
  exact ⟨rfl, rfl⟩
end Go.Proofs.Ytnjcganknpnjcaa
namespace Go.Proofs.Ytnjcganknpnjcaa
open Go.RowKit

def upd (v : Nat → Nat) (i x : Nat) : Nat → Nat := fun j => if j = i then x else v j
def wordsV (v : Nat → Nat) : Nat → Value := fun i => .int .u32 (v i : Int)
def Words (v : Nat → Nat) : Prop := ∀ i, v i < 4294967296
theorem Words.upd {v : Nat → Nat} (h : Words v) (i : Nat) {x : Nat} (hx : x < 4294967296) : Words (upd v i x) := by
  intro j
  unfold Ytnjcganknpnjcaa.upd
  split
  · exact hx
  · exact h j
theorem upd_wordsV (v : Nat → Nat) (i x k : Nat) : (if k = i then Value.int .u32 (x : Int) else wordsV v k) = wordsV (upd v i x) k := by
  unfold wordsV upd
  split <;> rfl

def half1 (v : Nat → Nat) (a b n : Nat) : Nat → Nat := upd v a ((v a + (v b + n)) % 4294967296)
def half2 (v : Nat → Nat) (a d s : Nat) : Nat → Nat := upd v d (rotl s (v d ^^^ v a))
/-- A half of a mixing step. -/
def halfV (v : Nat → Nat) (a b c d n s1 s2 : Nat) : Nat → Nat := half2 (half1 (half2 (half1 v a b n) a d s1) c d 0) c b s2
/-- A mixing step. -/
def mixV (v : Nat → Nat) (a b c d x y : Nat) : Nat → Nat := halfV (halfV v a b c d x 16 20) a b c d y 24 25
theorem half1_words {v : Nat → Nat} (h : Words v) (a b n : Nat) : Words (half1 v a b n) := h.upd _ (Nat.mod_lt _ (by omega))
theorem half2_words {v : Nat → Nat} (h : Words v) (a d s : Nat) (h0 : 0 < s) (h1 : s < 32) : Words (half2 v a d s) :=
  h.upd _ (rotl_lt _ _ h0 h1 (Nat.xor_lt_two_pow (n := 32) (h d) (h a)))
theorem halfV_words {v : Nat → Nat} (h : Words v) (a b c d n s1 s2 : Nat) (h0 : 0 < s1) (h1 : s1 < 32) (h2 : 0 < s2) (h3 : s2 < 32) : Words (halfV v a b c d n s1 s2) :=
  half2_words (half1_words (half2_words (half1_words h _ _ _) _ _ _ h0 h1) _ _ _) _ _ _ h2 h3
theorem mixV_words {v : Nat → Nat} (h : Words v) (a b c d x y : Nat) : Words (mixV v a b c d x y) :=
  halfV_words (halfV_words h _ _ _ _ _ _ _ (by omega) (by omega) (by omega) (by omega)) _ _ _ _ _ _ _ (by omega) (by omega) (by omega) (by omega)

/-- The number of a round's sign. -/
def sigL : List Nat := [0, 1, 2, 3, 4, 5, 6, 7, 8, 9, 10, 11, 12, 13, 14, 15, 14, 10, 4, 8, 9, 15, 13, 6, 1, 12, 0, 2, 11, 7, 5, 3, 11, 8, 12, 0, 5, 2, 15, 13, 10, 14, 3, 6, 7, 1, 9, 4, 7, 9, 3, 1, 13, 12, 11, 14, 2, 6, 5, 10, 4, 0, 15, 8, 9, 0, 5, 7, 2, 4, 10, 15, 14, 1, 11, 12, 6, 8, 3, 13, 2, 12, 6, 10, 0, 11, 8, 3, 4, 13, 7, 5, 15, 14, 1, 9, 12, 5, 1, 15, 14, 13, 4, 10, 0, 7, 6, 3, 9, 2, 8, 11, 13, 11, 7, 14, 12, 1, 3, 9, 5, 0, 15, 4, 8, 6, 2, 10, 6, 15, 14, 9, 11, 3, 0, 8, 12, 2, 13, 7, 1, 4, 10, 5, 10, 2, 8, 4, 7, 6, 1, 5, 15, 11, 9, 14, 3, 12, 13, 0]
def sig (r j : Nat) : Nat := sigL.getD (16 * r + j) 0
theorem getD_lt {l : List Nat} {b : Nat} (h : ∀ x ∈ l, x < b) (hb : 0 < b) (k : Nat) : l.getD k 0 < b := by
  rw [List.getD_eq_getElem?_getD]
  cases hk : l[k]? with
  | none => exact hb
  | some x => exact h x (List.mem_of_getElem? hk)
set_option maxRecDepth 10000 in
theorem sig_lt (r j : Nat) : sig r j < 16 := getD_lt (by decide) (by omega) _

/-- The step number k of a round. -/
def stp (m : Nat → Nat) (r k : Nat) (v : Nat → Nat) : Nat → Nat :=
  if k < 4 then mixV v k (4 + k) (8 + k) (12 + k) (m (sig r (2 * k))) (m (sig r (2 * k + 1)))
  else mixV v (k - 4) (4 + (k - 4 + 1) % 4) (8 + (k - 4 + 2) % 4) (12 + (k - 4 + 3) % 4) (m (sig r (2 * k))) (m (sig r (2 * k + 1)))
def stps (m : Nat → Nat) (r : Nat) : Nat → (Nat → Nat) → (Nat → Nat)
  | 0, v => v
  | k + 1, v => stp m r k (stps m r k v)
def rnds (m : Nat → Nat) : Nat → (Nat → Nat) → (Nat → Nat)
  | 0, v => v
  | r + 1, v => stps m r 8 (rnds m r v)
theorem stp_words {v : Nat → Nat} (m : Nat → Nat) (r k : Nat) (h : Words v) : Words (stp m r k v) := by
  unfold stp
  split <;> exact mixV_words h _ _ _ _ _ _
theorem stps_words {v : Nat → Nat} (m : Nat → Nat) (r : Nat) (h : Words v) : ∀ k, Words (stps m r k v)
  | 0 => h
  | k + 1 => stp_words m r k (stps_words m r h k)
theorem rnds_words {v : Nat → Nat} (m : Nat → Nat) (h : Words v) : ∀ r, Words (rnds m r v)
  | 0 => h
  | r + 1 => stps_words m r (rnds_words m h r) 8

/-- The eight numbers at the beginning. -/
def ivL : List Nat := [0x6a09e667, 0xbb67ae85, 0x3c6ef372, 0xa54ff53a, 0x510e527f, 0x9b05688c, 0x1f83d9ab, 0x5be0cd19]
def iv (i : Nat) : Nat := ivL.getD i 0
/-- What the sixteen words begin with. -/
def beg0 (h : Nat → Nat) : Nat → Nat := fun i => if i < 8 then h i else iv (i - 8)
def beg1 (h : Nat → Nat) (count : Nat) : Nat → Nat := upd (beg0 h) 12 (beg0 h 12 ^^^ (count % 4294967296))
def beg2 (h : Nat → Nat) (count : Nat) : Nat → Nat := upd (beg1 h count) 13 (beg1 h count 13 ^^^ (count / 4294967296))
def begV (h : Nat → Nat) (count : Nat) (last : Bool) : Nat → Nat := if last then upd (beg2 h count) 14 (4294967295 - beg2 h count 14) else beg2 h count
/-- A block is taken in. -/
def takeV (h m : Nat → Nat) (count : Nat) (last : Bool) : Nat → Nat := fun i => h i ^^^ (rnds m 10 (begV h count last) i ^^^ rnds m 10 (begV h count last) (i + 8))
theorem iv_words : Words iv := fun i => getD_lt (by decide) (by omega) i
theorem beg0_words {h : Nat → Nat} (hh : Words h) : Words (beg0 h) := by
  intro i
  unfold beg0
  split
  · exact hh i
  · exact iv_words _
theorem beg1_words {h : Nat → Nat} (hh : Words h) (count : Nat) : Words (beg1 h count) :=
  (beg0_words hh).upd 12 (Nat.xor_lt_two_pow (n := 32) (beg0_words hh 12) (by omega))
theorem beg2_words {h : Nat → Nat} (hh : Words h) (count : Nat) (hc : count < 18446744073709551616) : Words (beg2 h count) :=
  (beg1_words hh count).upd 13 (Nat.xor_lt_two_pow (n := 32) (beg1_words hh count 13) (show count / 4294967296 < 2 ^ 32 by omega))
theorem begV_words {h : Nat → Nat} (hh : Words h) (count : Nat) (last : Bool) (hc : count < 18446744073709551616) : Words (begV h count last) := by
  unfold begV
  split
  · exact (beg2_words hh count hc).upd 14 (by omega)
  · exact beg2_words hh count hc
theorem takeV_words {h : Nat → Nat} (hh : Words h) (m : Nat → Nat) (count : Nat) (last : Bool) (hc : count < 18446744073709551616) : Words (takeV h m count last) := by
  intro i
  have := rnds_words m (begV_words hh count last hc) 10
  exact Nat.xor_lt_two_pow (n := 32) (hh i) (Nat.xor_lt_two_pow (n := 32) (this i) (this (i + 8)))
end Go.Proofs.Ytnjcganknpnjcaa
namespace Go.Proofs.Ytnjcganknpnjcaa
open Go.RowKit

/-- An array's cells, by their number. -/
def arrA (n : Nat) (f : Nat → Value) : Array Value := ((List.range n).map f).toArray
theorem arrA_size (n : Nat) (f : Nat → Value) : (arrA n f).size = n := by simp [arrA]
theorem arrA_at (n : Nat) (f : Nat → Value) (i : Nat) (h : i < n) : (arrA n f)[i]? = some (f i) := by simp [arrA, h]
theorem row_of_heap {w : World} {b t n : Nat} {f : Nat → Value} (h : w.heap[b]? = some (.cells (arrA n f) t (0, 0))) : w.rowIs b t n f :=
  ⟨_, h, arrA_size _ _, fun i hi => arrA_at n f i hi⟩
theorem heap_of_row {w : World} {b t n : Nat} {f : Nat → Value} (h : w.rowIs b t n f) : w.heap[b]? = some (.cells (arrA n f) t (0, 0)) := by
  obtain ⟨c, hb, hn, hc⟩ := h
  rw [hb]
  refine congrArg (fun x => some (Obj.cells x t (0, 0))) (Array.ext_getElem? fun i => ?_)
  by_cases hi : i < n
  · rw [hc i hi, arrA_at n f i hi]
  · rw [Array.getElem?_eq_none (by omega), Array.getElem?_eq_none (by rw [arrA_size]; omega)]
theorem arrA_one (n : Nat) (f : Nat → Value) (h : ∀ i, (f i).oneCell' = true) : (arrA n f).all (·.oneCell') = true := by
  rw [Array.all_eq_true_iff_forall_mem]
  intro x hx
  simp [arrA] at hx
  obtain ⟨i, _, rfl⟩ := hx
  exact h i
theorem arrA_congr {n : Nat} {f g : Nat → Value} (h : ∀ i, i < n → f i = g i) : arrA n f = arrA n g := by
  unfold arrA
  refine congrArg List.toArray (List.map_congr_left fun i hi => h i (by simpa using hi))

theorem und129 : Try.prog.underlying 129 = some (.array 16 38) := by kernel_rfl
theorem siz129 : (Try.prog.info? 129).map (·.size) = some 16 := by kernel_rfl
theorem und97 : Try.prog.underlying 97 = some (.array 8 38) := by kernel_rfl
theorem siz97 : (Try.prog.info? 97).map (·.size) = some 8 := by kernel_rfl
theorem und34 : Try.prog.underlying 34 = some (.array 32 5) := by kernel_rfl
theorem siz34 : (Try.prog.info? 34).map (·.size) = some 32 := by kernel_rfl
theorem und57 : Try.prog.underlying 57 = some (.array 32 5) := by kernel_rfl
theorem siz57 : (Try.prog.info? 57).map (·.size) = some 32 := by kernel_rfl
theorem und119 : Try.prog.underlying 119 = some (.array 64 5) := by kernel_rfl
theorem siz119 : (Try.prog.info? 119).map (·.size) = some 64 := by kernel_rfl

theorem siz_arr {t n : Nat} {f : Nat → Value} (hi : (Try.prog.info? t).map (·.size) = some n) : (Try.prog.info? t).map (·.size) = some (arrA n f).size := by rw [hi, arrA_size]
theorem rowIs_setRow {w : World} {b t n : Nat} {f : Nat → Value} (h : w.rowIs b t n f) (g : Nat → Value) : (w.setRow b (arrA n g)).rowIs b t n g :=
  row_of_heap (setRow_heap w b _ _ t _ (heap_of_row h))
theorem rowIs_setOther {w : World} {b b' t n : Nat} {f : Nat → Value} (h : w.rowIs b t n f) (hne : b ≠ b') (c : Array Value) : (w.setRow b' c).rowIs b t n f :=
  h.of_block (setRow_other w b' b c hne)
theorem below_setRow {B b : Nat} {a w : World} (h : Below B a w) (hb : B ≤ b) (c : Array Value) : Below B a (w.setRow b c) :=
  ⟨h.os, h.tape, h.output, by rw [size_setRow]; exact h.size, fun k hk => (setRow_other w b k c (by omega)).trans (h.block k hk)⟩
theorem load_arr {ops : Array Oper} {rest : List Oper} {o : Oper} {a : Act} {w : World} {Q : Exit → Act → World → Prop} (hgd : o.guard = none) (ty : TypeId) (x : Operand) (ho : o.op = .load ty x)
    (n e T b : Nat) (f : Nat → Value) (hx : a.eval x = .pointer (some ⟨b, 0, none⟩)) (h : w.rowIs b T n f)
    (hu : Try.prog.underlying ty = some (.array n e)) (hi : (Try.prog.info? ty).map (·.size) = some n)
    (hk : wpList Try.prog ops Q rest (a.put o.dst (.agg (arrA n f))) w) : wpList Try.prog ops Q (o :: rest) a w :=
  wpList_load_row hgd ty x ho b hx T _ (0, 0) _ (heap_of_row h) hu rfl (siz_arr hi) hk
theorem store_arr {ops : Array Oper} {rest : List Oper} {o : Oper} {a : Act} {w : World} {Q : Exit → Act → World → Prop} (hgd : o.guard = none) (ty : TypeId) (x y : Operand) (ho : o.op = .store ty x y)
    (n T b : Nat) (f g : Nat → Value) (hx : a.eval x = .pointer (some ⟨b, 0, none⟩)) (hy : a.eval y = .agg (arrA n g)) (h : w.rowIs b T n f)
    (hi : (Try.prog.info? ty).map (·.size) = some n) (h1 : ∀ i, (g i).oneCell' = true)
    (hk : wpList Try.prog ops Q rest (a.put o.dst undef) (w.setRow b (arrA n g))) : wpList Try.prog ops Q (o :: rest) a w :=
  wpList_store_row hgd ty x y ho b _ hx hy T _ (heap_of_row h) (siz_arr hi) (by rw [arrA_size, arrA_size]) (arrA_one n g h1) hk
theorem result_arr {fn : Func} {p : Tmp} {ty : TypeId} (hf : fn.results = #[.cell p ty]) (tmps : Array Value) (w : World) (n e T b : Nat) (f : Nat → Value)
    (hp : tmps.getD p undef = .pointer (some ⟨b, 0, none⟩)) (h : w.rowIs b T n f)
    (hu : Try.prog.underlying ty = some (.array n e)) (hi : (Try.prog.info? ty).map (·.size) = some n) :
    (results fn tmps).run Try.prog w = .ok (.agg (arrA n f)) w :=
  results_cell_row hf tmps w b T _ (0, 0) _ hp (heap_of_row h) hu rfl (siz_arr hi)

/-- What copy leaves: k of f's cells from place off on. -/
def copyF (off k : Nat) (f cur : Nat → Value) : Nat → Value := fun j => if off ≤ j ∧ j < off + k then f (j - off) else cur j
theorem copy_list (n off k : Nat) (f cur : Nat → Value) (h : off + k ≤ n) :
    ((arrA n cur).toList.take off ++ (((List.range k).map f) ++ (arrA n cur).toList.drop (off + ((List.range k).map f).length))).toArray = arrA n (copyF off k f cur) := by
  unfold arrA
  refine congrArg List.toArray (List.ext_getElem? fun j => ?_)
  simp only [List.getElem?_append, List.getElem?_map, List.getElem?_take, List.getElem?_drop, List.length_map, List.length_range, List.length_take, List.getElem?_range]
  have hm : min off n = off := by omega
  rw [hm]
  by_cases h1 : j < off
  · have hv : copyF off k f cur j = cur j := if_neg (by omega)
    have h4 : j < n := by omega
    simp [h1, h4, hv]
  · by_cases h2 : j - off < k
    · have hv : copyF off k f cur j = f (j - off) := if_pos (by omega)
      have h4 : j < n := by omega
      simp [h1, h2, h4, hv]
    · have hv : copyF off k f cur j = cur j := if_neg (by omega)
      have h5 : off + k + (j - off - k) = j := by omega
      by_cases h4 : j < n
      · simp [h1, h2, h5, h4, hv]
      · simp [h1, h2, h5, h4]
theorem copy_arr {w : World} {ops : Array Oper} {rest : List Oper} {o : Oper} {a : Act} {Q : Exit → Act → World → Prop} (hgd : o.guard = none) (d s : Operand) (dT sT : TypeId)
    (ho : o.op = .call { callee := .builtin .copy, args := #[d, s], argTypes := #[dT, sT] }) (elem : TypeId) (hu : Try.prog.underlying dT = some (.slice elem)) (hsz : (Try.prog.info? elem).map (·.size) = some 1)
    (g off k n t S T ns dl dCap sl sCap : Nat) (f cur : Nat → Value) (hd : a.eval d = .slice (some ⟨g, off, none⟩) dl dCap) (hs : a.eval s = .slice (some ⟨S, 0, none⟩) sl sCap)
    (hk : k = Nat.min sl dl) (hg : w.rowIs g t n cur) (hS : w.rowIs S T ns f) (hkn : k ≤ ns) (hfit : off + k ≤ n) (h1 : ∀ i, (f i).oneCell' = true)
    (h : wpList Try.prog ops Q rest (a.put o.dst (goInt k)) (w.setRow g (arrA n (copyF off k f cur)))) : wpList Try.prog ops Q (o :: rest) a w := by
  have hl : ((List.range k).map f).length = k := by simp
  refine wpList_copy_own hgd d s dT sT ho elem hu hsz g off dl dCap ⟨S, 0, none⟩ sl sCap hd hs (arrA n cur) t (heap_of_row hg) ((List.range k).map f) (by rw [hl, hk]) ?_ (by rw [hl, arrA_size]; exact hfit) ?_ ?_
  · intro j v hv
    have hj : j < k := by
      have := (List.getElem?_eq_some_iff.1 hv).1
      simpa using this
    have hadd : (⟨S, 0, none⟩ : Addr).add j = ⟨S, j, none⟩ := by unfold Addr.add; split <;> simp_all
    rw [hadd, hS.cell (by omega)]
    simpa [hj, List.getElem?_range] using hv
  · intro v hv
    simp only [List.mem_map, List.mem_range] at hv
    obtain ⟨i, _, rfl⟩ := hv
    exact h1 i
  · rw [copy_list n off k f cur hfit, hl]
    exact h
end Go.Proofs.Ytnjcganknpnjcaa
