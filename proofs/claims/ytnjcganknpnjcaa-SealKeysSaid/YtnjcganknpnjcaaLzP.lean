/- lz, plain: which places ahead have the same four bytes; the best distance is found among these. No program. -/
import Derived.Test.YtnjcganknpnjcaaLzD
import Derived.Lib.Strings
namespace Go.Proofs.Ytnjcganknpnjcaa

theorem sameGo_le (s : ByteArray) (a k : Nat) : ∀ d m, m + d ≤ 131 → sameGo s a k d m ≤ 131
  | 0, m, h => by rw [sameGo]; omega
  | d + 1, m, h => by
    rw [sameGo]
    split
    · exact sameGo_le s a k d (m + 1) (by omega)
    · omega
theorem sameLen_le (s : ByteArray) (a k : Nat) : sameLen s a k ≤ 131 := sameGo_le s a k 131 0 (by omega)

theorem le_sameGo_self (s : ByteArray) (a k : Nat) : ∀ d m, m ≤ sameGo s a k d m
  | 0, m => by rw [sameGo]; omega
  | d + 1, m => by
    rw [sameGo]
    split
    · have := le_sameGo_self s a k d (m + 1)
      omega
    · omega
/-- As many bytes stand alike: a number of them that all stand alike is no greater. -/
theorem le_sameGo (s : ByteArray) (a k n : Nat) (hn : n ≤ 131) (hs : a + n ≤ s.size) (h : ∀ i, i < n → byt s (k + i) = byt s (a + i)) : ∀ d m, m + d = 131 → m ≤ n → n ≤ sameGo s a k d m
  | 0, m, hd, hm => by rw [sameGo]; omega
  | d + 1, m, hd, hm => by
    rw [sameGo]
    by_cases hmn : m = n
    · split
      · have := le_sameGo_self s a k d (m + 1)
        omega
      · omega
    · rw [if_pos ⟨by omega, by omega, h m (by omega)⟩]
      exact le_sameGo s a k n hn hs h d (m + 1) (by omega) (by omega)
theorem le_sameLen (s : ByteArray) (a k n : Nat) (hn : n ≤ 131) (hs : a + n ≤ s.size) (h : ∀ i, i < n → byt s (k + i) = byt s (a + i)) : n ≤ sameLen s a k :=
  le_sameGo s a k n hn hs h 131 0 rfl (Nat.zero_le _)
theorem sameGo_alike (s : ByteArray) (a k : Nat) : ∀ d m, ∀ i, m ≤ i → i < sameGo s a k d m → byt s (k + i) = byt s (a + i) ∧ a + i < s.size
  | 0, m, i, h1, h2 => by rw [sameGo] at h2; omega
  | d + 1, m, i, h1, h2 => by
    rw [sameGo] at h2
    split at h2
    · rename_i hc
      by_cases him : i = m
      · rw [him]; exact ⟨hc.2.2, hc.2.1⟩
      · exact sameGo_alike s a k d (m + 1) i (by omega) h2
    · omega
theorem sameLen_alike (s : ByteArray) (a k i : Nat) (h : i < sameLen s a k) : byt s (k + i) = byt s (a + i) ∧ a + i < s.size := sameGo_alike s a k 131 0 i (Nat.zero_le _) h

theorem byt_ext (s : ByteArray) (i j : Nat) (hi : i < s.size) (hj : j < s.size) : byt s i = byt s j ↔ s[i] = s[j] := by
  simp only [byt, hi, hj, dif_pos]
  constructor
  · intro h
    exact UInt8.toNat_inj.1 (by omega)
  · intro h
    rw [h]
theorem fourL_eq (s : ByteArray) (p : Nat) : fourL s p = (s.data.toList.drop p).take 4 := by
  unfold fourL four
  rw [Lib.extract_data]
  congr 1
  omega
theorem fourL_iff (s : ByteArray) (p q : Nat) (hp : p + 4 ≤ s.size) (hq : q + 4 ≤ s.size) : fourL s p = fourL s q ↔ ∀ i, i < 4 → byt s (p + i) = byt s (q + i) := by
  rw [fourL_eq, fourL_eq]
  have hsz : s.data.toList.length = s.size := by simp
  have get (r : Nat) (hr : r + 4 ≤ s.size) (i : Nat) (hi : i < 4) : ((s.data.toList.drop r).take 4)[i]? = some (s[r + i]'(by omega)) := by
    rw [List.getElem?_take_of_lt hi, List.getElem?_drop]
    rw [List.getElem?_eq_getElem (by omega)]
    rfl
  have len (r : Nat) (hr : r + 4 ≤ s.size) : ((s.data.toList.drop r).take 4).length = 4 := by simp only [List.length_take, List.length_drop, hsz]; omega
  constructor
  · intro h i hi
    have h1 := get p hp i hi
    rw [h, get q hq i hi] at h1
    injection h1 with h1
    rw [byt_ext s _ _ (by omega) (by omega), h1]
  · intro h
    refine List.ext_getElem? fun i => ?_
    by_cases hi : i < 4
    · rw [get p hp i hi, get q hq i hi]
      rw [(byt_ext s _ _ (by omega) (by omega)).1 (h i hi)]
    · rw [List.getElem?_eq_none (by rw [len p hp]; omega), List.getElem?_eq_none (by rw [len q hq]; omega)]

theorem match_iff (s : ByteArray) (a p : Nat) (hp : p < a) (ha : a + 4 ≤ s.size) : 4 ≤ sameLen s a p ↔ fourL s p = fourL s a := by
  rw [fourL_iff s p a (by omega) ha]
  constructor
  · intro h i hi
    exact (sameLen_alike s a p i (by omega)).1
  · intro h
    exact le_sameLen s a p 4 (by omega) ha h

theorem lastOf_some {s : ByteArray} {x : List UInt8} : ∀ {j p : Nat}, lastOf s j x = some p → p < j ∧ p + 4 ≤ s.size ∧ fourL s p = x ∧ ∀ q, p < q → q < j → q + 4 ≤ s.size → fourL s q ≠ x
  | 0, p, h => by rw [lastOf] at h; cases h
  | j + 1, p, h => by
    rw [lastOf] at h
    split at h
    · rename_i hc
      injection h with h
      subst h
      exact ⟨by omega, hc.1, hc.2, fun q h1 h2 => by omega⟩
    · rename_i hc
      obtain ⟨h1, h2, h3, h4⟩ := lastOf_some h
      refine ⟨by omega, h2, h3, fun q hq hq' hs hx => ?_⟩
      by_cases hqj : q = j
      · subst hqj; exact hc ⟨hs, hx⟩
      · exact h4 q hq (by omega) hs hx
theorem lastOf_none {s : ByteArray} {x : List UInt8} : ∀ {j : Nat}, lastOf s j x = none → ∀ q, q < j → q + 4 ≤ s.size → fourL s q ≠ x
  | 0, _, q, hq, _ => by omega
  | j + 1, h, q, hq, hs => by
    rw [lastOf] at h
    split at h
    · cases h
    · rename_i hc
      intro hx
      by_cases hqj : q = j
      · subst hqj; exact hc ⟨hs, hx⟩
      · exact lastOf_none h q (by omega) hs hx

/-- The best of the distances 1 .. d, copies of less than four bytes left out. -/
def scan (s : ByteArray) (a : Nat) : Nat → Nat × Nat
  | 0 => (0, 0)
  | d + 1 => if 4 ≤ sameLen s a (a - (d + 1)) ∧ (scan s a d).1 < sameLen s a (a - (d + 1)) then (sameLen s a (a - (d + 1)), d + 1) else scan s a d

theorem scan_skip (s : ByteArray) (a d : Nat) : ∀ e, (∀ x, d < x → x ≤ d + e → sameLen s a (a - x) < 4) → scan s a (d + e) = scan s a d
  | 0, _ => rfl
  | e + 1, h => by
    rw [← Nat.add_assoc, scan, if_neg (fun hh => by have := h (d + e + 1) (by omega) (by omega); omega)]
    exact scan_skip s a d e fun x h1 h2 => h x h1 (by omega)
theorem scan_full (s : ByteArray) (a d : Nat) (h : 131 ≤ (scan s a d).1) : ∀ e, scan s a (d + e) = scan s a d
  | 0 => rfl
  | e + 1 => by
    have ih := scan_full s a d h e
    rw [← Nat.add_assoc, scan, if_neg (fun hh => by have := sameLen_le s a (a - (d + e + 1)); rw [ih] at hh; omega)]
    exact ih

/-- Where the chain stands, j being passed: the next place with the same four bytes, or none. -/
def nextOf (s : ByteArray) (j : Nat) (x : List UInt8) : Int := match lastOf s j x with | some p => (p : Int) | none => -1
theorem prevOf_eq (s : ByteArray) (p : Nat) (h : p + 4 ≤ s.size) : prevOf s p = nextOf s p (fourL s p) := by
  unfold prevOf nextOf
  rw [if_pos h]
  cases lastOf s p (fourL s p) <;> rfl
/-- No place is left: all has been looked at. -/
theorem scan_none {s : ByteArray} {a j : Nat} (ha : a + 4 ≤ s.size) (hj : j ≤ a) (h : lastOf s j (fourL s a) = none) : scan s a a = scan s a (a - j) := by
  have := scan_skip s a (a - j) j fun x h1 h2 => by
    have h3 := lastOf_none h (a - x) (by omega) (by omega)
    rcases Nat.lt_or_ge (sameLen s a (a - x)) 4 with h4 | h4
    · exact h4
    · exact absurd ((match_iff s a (a - x) (by omega) ha).1 h4) h3
  rwa [show a - j + j = a by omega] at this
/-- The next place: what lies between has not four bytes alike. -/
theorem scan_some {s : ByteArray} {a j p : Nat} (ha : a + 4 ≤ s.size) (hj : j ≤ a) (h : lastOf s j (fourL s a) = some p) :
    scan s a (a - p) = if (scan s a (a - j)).1 < sameLen s a p then (sameLen s a p, a - p) else scan s a (a - j) := by
  obtain ⟨h1, h2, h3, h4⟩ := lastOf_some h
  have hsk := scan_skip s a (a - j) (j - 1 - p) fun x g1 g2 => by
    have h5 := h4 (a - x) (by omega) (by omega) (by omega)
    rcases Nat.lt_or_ge (sameLen s a (a - x)) 4 with h6 | h6
    · exact h6
    · exact absurd ((match_iff s a (a - x) (by omega) ha).1 h6) h5
  have hm := (match_iff s a p (by omega) ha).2 h3
  rw [show a - p = (a - j + (j - 1 - p)) + 1 by omega, scan, hsk, show a - (a - j + (j - 1 - p) + 1) = p by omega]
  by_cases hlt : (scan s a (a - j)).1 < sameLen s a p
  · rw [if_pos ⟨hm, hlt⟩, if_pos hlt]
  · rw [if_neg (fun hh => hlt hh.2), if_neg hlt]

end Go.Proofs.Ytnjcganknpnjcaa
