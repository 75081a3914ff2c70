/- lz, plain: how long a byte so many times over is, packed. No program. -/
import Derived.Test.YtnjcganknpnjcaaLzR
namespace Go.Proofs.Ytnjcganknpnjcaa

theorem packFrom_tail (s : ByteArray) : ∀ (k fr at_ : Nat), s.size - at_ = k → s.size < at_ + 4 → packFrom s fr at_ = runB (seg s fr s.size) := by
  intro k
  induction k with
  | zero => intro fr at_ hk _; exact packFrom_end s fr at_ (by omega)
  | succ k ih =>
    intro fr at_ hk h4
    have : (bestN s at_).1 < 4 := by unfold bestN; rw [if_neg (by omega)]; decide
    rw [packFrom_one s fr at_ (by omega) this]
    exact ih fr (at_ + 1) (by omega) (by omega)

theorem scan_le (s : ByteArray) (a : Nat) (h : 4 ≤ sameLen s a (a - 1)) : ∀ d, sameLen s a (a - 1) ≤ (scan s a (d + 1)).1
  | 0 => by
    rw [scan]
    split
    · exact Nat.le_refl _
    · rename_i hc
      have h0 : (scan s a 0).1 = 0 := rfl
      rw [h0] at hc
      simp at hc
      omega
  | d + 1 => by
    have := scan_le s a h d
    rw [scan]
    split
    · rename_i hc
      have := hc.2
      show sameLen s a (a - 1) ≤ sameLen s a (a - (d + 1 + 1))
      omega
    · exact this

theorem best_alike (s : ByteArray) (hs : ∀ i j, i < s.size → j < s.size → byt s i = byt s j) (k : Nat) (hk : 1 ≤ k) (h4 : k + 4 ≤ s.size) : (bestN s k).1 = min 131 (s.size - k) := by
  have hl : min 131 (s.size - k) ≤ sameLen s k (k - 1) := le_sameLen s k (k - 1) _ (by omega) (by omega) (fun i hi => hs _ _ (by omega) (by omega))
  have h1 : min 131 (s.size - k) ≤ (bestN s k).1 := by
    unfold bestN
    rw [if_pos h4]
    obtain ⟨d, rfl⟩ : ∃ d, k = d + 1 := ⟨k - 1, by omega⟩
    have := scan_le s (d + 1) (by omega) d
    omega
  rcases bestN_facts s k with ⟨h0, _⟩ | ⟨_, g1, _, _, g2, _⟩
  · omega
  · omega

theorem rep_from (s : ByteArray) (hs : ∀ i j, i < s.size → j < s.size → byt s i = byt s j) : ∀ (k at_ : Nat), s.size - at_ = k → 1 ≤ at_ → (packFrom s at_ at_).length ≤ 4 + 3 * ((s.size - at_ + 130) / 131) := by
  intro k
  induction k using Nat.strongRecOn with
  | _ k ih =>
    intro at_ hk h1
    by_cases h4 : at_ + 4 ≤ s.size
    · have hb := best_alike s hs at_ h1 h4
      rw [packFrom_copy s at_ at_ (by omega) (by omega)]
      have h := ih (s.size - (at_ + (bestN s at_).1)) (by omega) (at_ + (bestN s at_).1) rfl (by omega)
      have h0 : (seg s at_ at_).length = 0 := by unfold seg; simp
      simp only [List.length_append, List.length_cons, List.length_nil, runB_length _ _ h0]
      omega
    · rw [packFrom_tail s _ at_ at_ rfl (by omega)]
      by_cases hle : at_ ≤ s.size
      · rw [runB_length _ _ (seg_length s at_ s.size (Nat.le_refl _))]
        omega
      · have h0 : (seg s at_ s.size).length = 0 := by rw [seg_length s at_ s.size (Nat.le_refl _)]; omega
        rw [runB_length _ _ h0]
        omega

/-- LzRepeats, plain. -/
theorem repeats_plain (s : ByteArray) (h0 : 1 ≤ s.size) (hs : ∀ i j, i < s.size → j < s.size → byt s i = byt s j) : (pack s).length ≤ 8 + 3 * ((s.size + 129) / 131) := by
  have hz : (bestN s 0).1 < 4 := by
    unfold bestN
    split
    · show (0 : Nat) < 4
      decide
    · decide
  rw [pack, packFrom_one s 0 0 (by omega) hz]
  by_cases h4 : 1 + 4 ≤ s.size
  · have hb := best_alike s hs 1 (Nat.le_refl _) h4
    rw [packFrom_copy s 0 (0 + 1) (by omega) (by rw [Nat.zero_add]; omega)]
    rw [Nat.zero_add]
    have h := rep_from s hs _ (1 + (bestN s 1).1) rfl (by omega)
    have h1 : (seg s 0 1).length = 1 := by rw [seg_length s 0 1 (by omega)]
    simp only [List.length_append, List.length_cons, List.length_nil, runB_length _ _ h1]
    omega
  · rw [packFrom_tail s _ 0 (0 + 1) rfl (by omega), runB_length _ _ (seg_length s 0 s.size (Nat.le_refl _))]
    omega

end Go.Proofs.Ytnjcganknpnjcaa
