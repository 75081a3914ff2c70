/- lz, plain: what was packed is unpacked; cut short it is short, or stands for the front; how long it is. No program. -/
import Derived.Test.YtnjcganknpnjcaaLzF
import Derived.Test.YtnjcganknpnjcaaLzU
namespace Go.Proofs.Ytnjcganknpnjcaa

theorem ofNat_toNat (n : Nat) (h : n < 256) : (UInt8.ofNat n).toNat = n := by simp; omega

/-- One run's token. -/
theorem unp_token (n : Nat) (hn : 1 ≤ n) (hn2 : n ≤ 128) (l rest out : List UInt8) (hl : l.length = n) (most : Int) :
    unpFrom (UInt8.ofNat (n - 1) :: (l ++ rest)) out most = if most < ((out.length + n : Nat) : Int) then ([], 6) else unpFrom rest (out ++ l) most := by
  rw [unpFrom_cons, ofNat_toNat (n - 1) (by omega), if_pos (by omega), if_neg (by simp; omega), show n - 1 + 1 = n by omega]
  rw [List.drop_append_of_le_length (by omega), List.take_append_of_le_length (by omega), List.drop_of_length_le (by omega), List.take_of_length_le (by omega)]
  rfl

theorem unp_run (most : Int) : ∀ (k : Nat) (l rest out : List UInt8), l.length = k → ((out.length + l.length : Nat) : Int) ≤ most → unpFrom (runB l ++ rest) out most = unpFrom rest (out ++ l) most := by
  intro k
  induction k using Nat.strongRecOn with
  | _ k ih =>
    intro l rest out hl hm
    by_cases h : l = []
    · subst h
      rw [runB_nil, List.nil_append, List.append_nil]
    · have hp : 0 < l.length := List.length_pos_iff.2 h
      rw [runB_step l h, List.cons_append, List.append_assoc]
      rw [unp_token (min l.length 128) (by omega) (by omega) _ _ _ (by rw [List.length_take]; omega), if_neg (by omega)]
      rw [ih (l.drop 128).length (by simp; omega) (l.drop 128) rest (out ++ l.take 128) rfl (by simp; omega)]
      rw [List.append_assoc, List.take_append_drop]
theorem unp_run_over (most : Int) : ∀ (k : Nat) (l rest out : List UInt8), l.length = k → l ≠ [] → most < ((out.length + l.length : Nat) : Int) → unpFrom (runB l ++ rest) out most = ([], 6) := by
  intro k
  induction k using Nat.strongRecOn with
  | _ k ih =>
    intro l rest out hl h hm
    have hp : 0 < l.length := List.length_pos_iff.2 h
    rw [runB_step l h, List.cons_append, List.append_assoc]
    rw [unp_token (min l.length 128) (by omega) (by omega) _ _ _ (by rw [List.length_take]; omega)]
    by_cases hlt : most < ((out.length + min l.length 128 : Nat) : Int)
    · rw [if_pos hlt]
    · rw [if_neg hlt]
      exact ih (l.drop 128).length (by simp; omega) (l.drop 128) rest (out ++ l.take 128) rfl (by intro h0; have := congrArg List.length h0; simp at this; omega) (by simp; omega)

theorem unp_copy (n d : Nat) (hn : 4 ≤ n) (hn2 : n ≤ 131) (hd : 1 ≤ d) (hd2 : d < 65536) (rest out : List UInt8) (ho : d ≤ out.length) (most : Int) :
    unpFrom (UInt8.ofNat (n + 124) :: UInt8.ofNat d :: UInt8.ofNat (d / 256) :: rest) out most = if most < ((out.length + n : Nat) : Int) then ([], 6) else unpFrom rest (copyN d n out) most := by
  have e : (UInt8.ofNat d).toNat + 256 * (UInt8.ofNat (d / 256)).toNat = d := by simp; omega
  rw [unpFrom_cons, ofNat_toNat (n + 124) (by omega), if_neg (by omega), if_neg (by simp)]
  simp only [List.getD_cons_zero, List.getD_cons_succ, List.drop_succ_cons, List.drop_zero, e]
  rw [if_neg (by omega), show n + 124 - 124 = n by omega]

/-- A copy of what stands alike. -/
theorem copyN_alike (t pfx : List UInt8) (a d : Nat) (hd : 1 ≤ d) (hda : d ≤ a) : ∀ n, a + n ≤ t.length → (∀ i, i < n → t[a - d + i]? = t[a + i]?) → copyN d n (pfx ++ t.take a) = pfx ++ t.take (a + n)
  | 0, _, _ => rfl
  | n + 1, hn, h => by
    rw [copyN, copyN_alike t pfx a d hd hda n (by omega) (fun i hi => h i (by omega))]
    rw [List.append_assoc]
    congr 1
    have hl : (pfx ++ t.take (a + n)).length = pfx.length + (a + n) := by simp; omega
    rw [hl, List.getD_eq_getElem?_getD, List.getElem?_append_right (by omega), show pfx.length + (a + n) - d - pfx.length = a - d + n by omega, List.getElem?_take_of_lt (by omega), h n (by omega)]
    rw [show a + (n + 1) = (a + n) + 1 by omega, List.take_add_one]
    rw [List.getElem?_eq_getElem (by omega)]
    rfl

def bl (s : ByteArray) : List UInt8 := s.data.toList
theorem bl_length (s : ByteArray) : (bl s).length = s.size := by simp [bl]
theorem bl_get (s : ByteArray) (i : Nat) (h : i < s.size) : (bl s)[i]? = some (s[i]'h) := by
  have : i < (bl s).length := by rw [bl_length]; exact h
  rw [List.getElem?_eq_getElem this]
  rfl
theorem alike_get (s : ByteArray) (i j : Nat) (hi : i < s.size) (hj : j < s.size) (h : byt s i = byt s j) : (bl s)[i]? = (bl s)[j]? := by
  rw [bl_get s i hi, bl_get s j hj, (byt_ext s i j hi hj).1 h]
theorem seg_take (s : ByteArray) (a b : Nat) (h : a ≤ b) : (bl s).take a ++ seg s a b = (bl s).take b := by
  unfold seg bl
  rw [← List.take_add]
  congr 1
  omega

/-- **What was packed from a place on comes out from there on.** -/
theorem unp_pack (s : ByteArray) (hs : s.size < 65536) (pfx rest : List UInt8) (most : Int) (hm : ((pfx.length + s.size : Nat) : Int) ≤ most) :
    ∀ (k fr at_ : Nat), s.size - at_ = k → fr ≤ at_ → at_ ≤ s.size → unpFrom (packFrom s fr at_ ++ rest) (pfx ++ (bl s).take fr) most = unpFrom rest (pfx ++ bl s) most := by
  intro k
  induction k using Nat.strongRecOn with
  | _ k ih =>
    intro fr at_ hk hfa has
    by_cases hlt : at_ < s.size
    · by_cases h4 : (bestN s at_).1 < 4
      · rw [packFrom_one s fr at_ hlt h4]
        exact ih (s.size - (at_ + 1)) (by omega) fr (at_ + 1) rfl (by omega) (by omega)
      · obtain ⟨h1, h2, h3, h5, h6, h7⟩ : 4 ≤ (bestN s at_).1 ∧ (bestN s at_).1 ≤ 131 ∧ 1 ≤ (bestN s at_).2 ∧ (bestN s at_).2 ≤ at_ ∧ at_ + (bestN s at_).1 ≤ s.size ∧ ∀ i, i < (bestN s at_).1 → byt s (at_ - (bestN s at_).2 + i) = byt s (at_ + i) := by
          rcases bestN_facts s at_ with ⟨h0, _⟩ | h
          · omega
          · exact h
        rw [packFrom_copy s fr at_ hlt h4, List.append_assoc, List.append_assoc]
        rw [unp_run most _ (seg s fr at_) _ _ rfl (by rw [seg_length s fr at_ has]; simp [bl_length]; omega)]
        rw [List.append_assoc, seg_take s fr at_ hfa]
        simp only [List.cons_append, List.nil_append]
        rw [unp_copy _ _ h1 h2 h3 (by omega) _ _ (by simp [bl_length]; omega), if_neg (by simp [bl_length]; omega)]
        rw [copyN_alike (bl s) pfx at_ _ h3 h5 _ (by rw [bl_length]; exact h6) (fun i hi => alike_get s _ _ (by omega) (by omega) (h7 i hi))]
        exact ih (s.size - (at_ + (bestN s at_).1)) (by omega) _ _ rfl (Nat.le_refl _) h6
    · rw [packFrom_end s fr at_ (by omega)]
      rw [unp_run most _ (seg s fr s.size) _ _ rfl (by rw [seg_length s fr s.size (Nat.le_refl _)]; simp [bl_length]; omega)]
      rw [List.append_assoc, seg_take s fr s.size (by omega), List.take_of_length_le (by rw [bl_length]; exact Nat.le_refl _)]

theorem unp_pack_over (s : ByteArray) (hs : s.size < 65536) (rest : List UInt8) (most : Int) (hm : most < (s.size : Int)) :
    ∀ (k fr at_ : Nat), s.size - at_ = k → fr ≤ at_ → at_ ≤ s.size → fr < s.size → unpFrom (packFrom s fr at_ ++ rest) ((bl s).take fr) most = ([], 6) := by
  intro k
  induction k using Nat.strongRecOn with
  | _ k ih =>
    intro fr at_ hk hfa has hfs
    by_cases hlt : at_ < s.size
    · by_cases h4 : (bestN s at_).1 < 4
      · rw [packFrom_one s fr at_ hlt h4]
        exact ih (s.size - (at_ + 1)) (by omega) fr (at_ + 1) rfl (by omega) (by omega) hfs
      · obtain ⟨h1, h2, h3, h5, h6, h7⟩ : 4 ≤ (bestN s at_).1 ∧ (bestN s at_).1 ≤ 131 ∧ 1 ≤ (bestN s at_).2 ∧ (bestN s at_).2 ≤ at_ ∧ at_ + (bestN s at_).1 ≤ s.size ∧ ∀ i, i < (bestN s at_).1 → byt s (at_ - (bestN s at_).2 + i) = byt s (at_ + i) := by
          rcases bestN_facts s at_ with ⟨h0, _⟩ | h
          · omega
          · exact h
        rw [packFrom_copy s fr at_ hlt h4, List.append_assoc, List.append_assoc]
        by_cases hm1 : (at_ : Int) ≤ most
        · rw [unp_run most _ (seg s fr at_) _ _ rfl (by rw [seg_length s fr at_ has]; simp [bl_length]; omega)]
          rw [seg_take s fr at_ hfa]
          simp only [List.cons_append, List.nil_append]
          rw [unp_copy _ _ h1 h2 h3 (by omega) _ _ (by simp [bl_length]; omega)]
          by_cases hm2 : most < ((((bl s).take at_).length + (bestN s at_).1 : Nat) : Int)
          · rw [if_pos hm2]
          · rw [if_neg hm2]
            have := copyN_alike (bl s) [] at_ _ h3 h5 _ (by rw [bl_length]; exact h6) (fun i hi => alike_get s _ _ (by omega) (by omega) (h7 i hi))
            simp only [List.nil_append] at this
            rw [this]
            simp only [List.length_take, bl_length] at hm2
            exact ih (s.size - (at_ + (bestN s at_).1)) (by omega) _ _ rfl (Nat.le_refl _) h6 (by omega)
        · by_cases hfa2 : fr = at_
          · subst hfa2
            have : seg s fr fr = [] := by unfold seg; simp
            rw [this, runB_nil, List.nil_append]
            simp only [List.cons_append, List.nil_append]
            rw [unp_copy _ _ h1 h2 h3 (by omega) _ _ (by simp [bl_length]; omega), if_pos (by simp [bl_length]; omega)]
          · refine unp_run_over most _ (seg s fr at_) _ _ rfl ?_ (by rw [seg_length s fr at_ has]; simp [bl_length]; omega)
            intro h0
            have := congrArg List.length h0
            rw [seg_length s fr at_ has] at this
            simp at this
            omega
    · rw [packFrom_end s fr at_ (by omega)]
      refine unp_run_over most _ (seg s fr s.size) _ _ rfl ?_ (by rw [seg_length s fr s.size (Nat.le_refl _)]; simp [bl_length]; omega)
      intro h0
      have := congrArg List.length h0
      rw [seg_length s fr s.size (Nat.le_refl _)] at this
      simp at this
      omega

/-- LzBack, plain. -/
theorem back_plain (s : ByteArray) (hs : s.size < 65536) (most : Int) : unp (pack s) most = if most < (s.size : Int) then ([], 6) else (bl s, 0) := by
  by_cases hm : most < (s.size : Int)
  · rw [if_pos hm]
    by_cases h0 : s.size = 0
    · have : pack s = [] := by rw [pack, packFrom_end s 0 0 (by omega)]; unfold seg; rw [h0]; rfl
      rw [this, unp, unpFrom_nil, if_pos (by omega)]
    · have := unp_pack_over s hs [] most hm _ 0 0 rfl (Nat.le_refl _) (Nat.zero_le _) (by omega)
      simpa [unp, pack] using this
  · rw [if_neg hm]
    have := unp_pack s hs [] [] most (by simp; omega) _ 0 0 rfl (Nat.le_refl _) (Nat.zero_le _)
    simp only [List.append_nil, List.nil_append, List.take_zero] at this
    rw [unp, pack, this, unpFrom_nil, if_neg (by omega)]

/-- LzJoins, plain. -/
theorem joins_plain (a b : ByteArray) (ha : a.size < 65536) (hb : b.size < 65536) : unp (pack a ++ pack b) ((a.size + b.size : Nat) : Int) = (bl a ++ bl b, 0) := by
  have h1 := unp_pack a ha [] (pack b) ((a.size + b.size : Nat) : Int) (by simp; omega) _ 0 0 rfl (Nat.le_refl _) (Nat.zero_le _)
  have h2 := unp_pack b hb (bl a) [] ((a.size + b.size : Nat) : Int) (by simp [bl_length]) _ 0 0 rfl (Nat.le_refl _) (Nat.zero_le _)
  simp only [List.append_nil, List.nil_append, List.take_zero] at h1 h2
  rw [unp, pack, h1, pack, h2, unpFrom_nil, if_neg (by omega)]

end Go.Proofs.Ytnjcganknpnjcaa
