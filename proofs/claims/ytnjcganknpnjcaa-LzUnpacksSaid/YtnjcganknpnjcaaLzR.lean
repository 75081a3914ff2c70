/- lz, plain: packed bytes that are cut short; how long packed bytes are. No program. -/
import Derived.Test.YtnjcganknpnjcaaLzQ
namespace Go.Proofs.Ytnjcganknpnjcaa

/-- Told to be short, or the front of what all stand for. -/
def CutOK (t : List UInt8) (r : List UInt8 × Int) : Prop := r = ([], 4) ∨ ∃ m, m ≤ t.length ∧ r = (t.take m, 0)

theorem cut_nil (t : List UInt8) (m : Nat) (hm : m ≤ t.length) (most : Int) (h0 : 0 ≤ most) : CutOK t (unpFrom [] (t.take m) most) := by
  rw [unpFrom_nil, if_neg (by omega)]
  exact .inr ⟨m, hm, rfl⟩

theorem unp_short_run (c : UInt8) (r out : List UInt8) (most : Int) (hc : c.toNat < 128) (hr : r.length < c.toNat + 1) : unpFrom (c :: r) out most = ([], 4) := by
  rw [unpFrom_cons, if_pos hc, if_pos hr]
theorem unp_short_copy (c : UInt8) (r out : List UInt8) (most : Int) (hc : ¬ c.toNat < 128) (hr : r.length < 2) : unpFrom (c :: r) out most = ([], 4) := by
  rw [unpFrom_cons, if_neg hc, if_pos hr]

/-- A cut inside a run. -/
theorem cut_run (t : List UInt8) (most : Int) (h0 : 0 ≤ most) : ∀ (k : Nat) (l : List UInt8) (m j : Nat), l.length = k → m + l.length ≤ t.length → ((m + l.length : Nat) : Int) ≤ most → (t.drop m).take l.length = l → j < (runB l).length →
    CutOK t (unpFrom ((runB l).take j) (t.take m) most) := by
  intro k
  induction k using Nat.strongRecOn with
  | _ k ih =>
    intro l m j hl hmt hm hlt hj
    by_cases h : l = []
    · subst h
      simp [runB_nil] at hj
    · have hp : 0 < l.length := List.length_pos_iff.2 h
      rw [runB_step l h] at hj ⊢
      cases j with
      | zero => exact cut_nil t m (by omega) most h0
      | succ j =>
        rw [List.take_succ_cons]
        by_cases hjn : j < min l.length 128
        · refine .inl (unp_short_run _ _ _ _ ?_ ?_)
          · rw [ofNat_toNat _ (by omega)]; omega
          · rw [ofNat_toNat _ (by omega)]; simp; omega
        · have hlen : (l.take 128).length = min l.length 128 := by rw [List.length_take]; omega
          rw [List.take_append, List.take_of_length_le (l := l.take 128) (by omega)]
          rw [unp_token (min l.length 128) (by omega) (by omega) _ _ _ hlen, if_neg (by simp; omega)]
          have e : t.take m ++ l.take 128 = t.take (m + min l.length 128) := by
            rw [List.take_add]
            congr 1
            conv => lhs; rw [← hlt]
            rw [List.take_take]
            congr 1
            omega
          rw [e]
          refine ih (l.drop 128).length (by simp; omega) (l.drop 128) _ _ rfl (by simp; omega) (by simp; omega) ?_ ?_
          · conv => rhs; rw [← hlt]
            rw [List.drop_take, List.drop_drop, List.length_drop]
            by_cases h128 : l.length ≤ 128
            · rw [show l.length - 128 = 0 by omega]
              simp
            · rw [show min l.length 128 = 128 by omega]
          · simp only [List.length_cons, List.length_append, hlen] at hj
            omega

theorem cut_pack (s : ByteArray) (hs : s.size < 65536) : ∀ (k fr at_ j : Nat), s.size - at_ = k → fr ≤ at_ → at_ ≤ s.size → CutOK (bl s) (unpFrom ((packFrom s fr at_).take j) ((bl s).take fr) (s.size : Int)) := by
  intro k
  induction k using Nat.strongRecOn with
  | _ k ih =>
    intro fr at_ j hk hfa has
    have hseg : ∀ b, fr ≤ b → b ≤ s.size → ((bl s).drop fr).take (seg s fr b).length = seg s fr b := by
      intro b _ hb
      rw [seg_length s fr b hb]
      rfl
    by_cases hlt : at_ < s.size
    · by_cases h4 : (bestN s at_).1 < 4
      · rw [packFrom_one s fr at_ hlt h4]
        exact ih (s.size - (at_ + 1)) (by omega) fr (at_ + 1) j rfl (by omega) (by omega)
      · obtain ⟨h1, h2, h3, h5, h6, h7⟩ : 4 ≤ (bestN s at_).1 ∧ (bestN s at_).1 ≤ 131 ∧ 1 ≤ (bestN s at_).2 ∧ (bestN s at_).2 ≤ at_ ∧ at_ + (bestN s at_).1 ≤ s.size ∧ ∀ i, i < (bestN s at_).1 → byt s (at_ - (bestN s at_).2 + i) = byt s (at_ + i) := by
          rcases bestN_facts s at_ with ⟨h0, _⟩ | h
          · omega
          · exact h
        rw [packFrom_copy s fr at_ hlt h4, List.append_assoc]
        by_cases hj : j < (runB (seg s fr at_)).length
        · rw [List.take_append_of_le_length (by omega)]
          exact cut_run (bl s) _ (by omega) _ (seg s fr at_) fr j rfl (by rw [seg_length s fr at_ has, bl_length]; omega) (by rw [seg_length s fr at_ has]; omega) (hseg at_ hfa has) hj
        · rw [List.take_append, List.take_of_length_le (l := runB (seg s fr at_)) (by omega)]
          rw [unp_run _ _ (seg s fr at_) _ _ rfl (by rw [seg_length s fr at_ has]; simp [bl_length]; omega)]
          rw [seg_take s fr at_ hfa]
          simp only [List.cons_append, List.nil_append]
          generalize j - (runB (seg s fr at_)).length = i
          match i with
          | 0 => exact cut_nil _ at_ (by rw [bl_length]; exact has) _ (by omega)
          | 1 => exact .inl (unp_short_copy _ _ _ _ (by rw [ofNat_toNat _ (by omega)]; omega) (by simp))
          | 2 => exact .inl (unp_short_copy _ _ _ _ (by rw [ofNat_toNat _ (by omega)]; omega) (by simp))
          | i + 3 =>
            simp only [List.take_succ_cons]
            rw [unp_copy _ _ h1 h2 h3 (by omega) _ _ (by simp [bl_length]; omega), if_neg (by simp [bl_length]; omega)]
            have := copyN_alike (bl s) [] at_ _ h3 h5 _ (by rw [bl_length]; exact h6) (fun i hi => alike_get s _ _ (by omega) (by omega) (h7 i hi))
            simp only [List.nil_append] at this
            rw [this]
            exact ih (s.size - (at_ + (bestN s at_).1)) (by omega) _ _ i rfl (Nat.le_refl _) h6
    · rw [packFrom_end s fr at_ (by omega)]
      by_cases hj : j < (runB (seg s fr s.size)).length
      · exact cut_run (bl s) _ (by omega) _ (seg s fr s.size) fr j rfl (by rw [seg_length s fr s.size (Nat.le_refl _), bl_length]; omega) (by rw [seg_length s fr s.size (Nat.le_refl _)]; omega) (hseg s.size (by omega) (Nat.le_refl _)) hj
      · rw [List.take_of_length_le (by omega)]
        have := unp_run (s.size : Int) _ (seg s fr s.size) [] ((bl s).take fr) rfl (by rw [seg_length s fr s.size (Nat.le_refl _)]; simp [bl_length]; omega)
        rw [List.append_nil] at this
        rw [this, seg_take s fr s.size (by omega)]
        exact cut_nil _ s.size (by rw [bl_length]; exact Nat.le_refl _) _ (by omega)

/-- LzCuts, plain. -/
theorem cuts_plain (s : ByteArray) (hs : s.size < 65536) (n : Nat) : CutOK (bl s) (unp ((pack s).take n) (s.size : Int)) :=
  cut_pack s hs _ 0 0 n rfl (Nat.le_refl _) (Nat.zero_le _)

/-- LzPacks' bound. -/
theorem pack_bound (s : ByteArray) : ∀ (k fr at_ : Nat), s.size - at_ = k → fr ≤ at_ → at_ ≤ s.size → (packFrom s fr at_).length + fr + fr / 128 ≤ s.size + (s.size + 127) / 128 := by
  intro k
  induction k using Nat.strongRecOn with
  | _ k ih =>
    intro fr at_ hk hfa has
    by_cases hlt : at_ < s.size
    · by_cases h4 : (bestN s at_).1 < 4
      · rw [packFrom_one s fr at_ hlt h4]
        exact ih (s.size - (at_ + 1)) (by omega) fr (at_ + 1) rfl (by omega) (by omega)
      · obtain ⟨h1, h2, h3, h5, h6, h7⟩ : 4 ≤ (bestN s at_).1 ∧ (bestN s at_).1 ≤ 131 ∧ 1 ≤ (bestN s at_).2 ∧ (bestN s at_).2 ≤ at_ ∧ at_ + (bestN s at_).1 ≤ s.size ∧ ∀ i, i < (bestN s at_).1 → byt s (at_ - (bestN s at_).2 + i) = byt s (at_ + i) := by
          rcases bestN_facts s at_ with ⟨h0, _⟩ | h
          · omega
          · exact h
        rw [packFrom_copy s fr at_ hlt h4]
        have := ih (s.size - (at_ + (bestN s at_).1)) (by omega) _ _ rfl (Nat.le_refl _) h6
        simp only [List.length_append, List.length_cons, List.length_nil, runB_length _ _ (seg_length s fr at_ has)]
        omega
    · rw [packFrom_end s fr at_ (by omega), runB_length _ _ (seg_length s fr s.size (Nat.le_refl _))]
      omega
theorem packs_plain (s : ByteArray) : (pack s).length ≤ s.size + (s.size + 127) / 128 := by
  have := pack_bound s _ 0 0 rfl (Nat.le_refl _) (Nat.zero_le _)
  simpa [pack] using this

end Go.Proofs.Ytnjcganknpnjcaa
