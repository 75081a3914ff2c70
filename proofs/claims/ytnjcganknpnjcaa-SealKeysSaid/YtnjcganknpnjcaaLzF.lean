/- lz: what Pack comes to: the tokens, from the left. -/
import Derived.Test.YtnjcganknpnjcaaLzE
namespace Go.Proofs.Ytnjcganknpnjcaa
open Go.RowKit Go.Maps Go.WideMaps

def bestN (s : ByteArray) (k : Nat) : Nat × Nat := if k + 4 ≤ s.size then scan s k k else (0, 0)
theorem best_call (s : ByteArray) (B F M k : Nat) (v : Value) (D : DataW Unit) (w : World) (h : Finder s B F M k v D w) (hs : s.size ≤ 60000) (hk : k < s.size) :
    Calls Try.prog 55 #[.pointer (some ⟨F, 0, none⟩), .int .i64 k] w fun e w' => e = .returned (.tuple #[.int .i64 (bestN s k).1, .int .i64 (bestN s k).2]) ∧ Below w.heap.size w w' := by
  have := best_any s B F M k v D w h hs hk
  unfold bestN
  by_cases h4 : k + 4 ≤ s.size
  · simp only [if_pos h4] at this ⊢
    exact this
  · simp only [if_neg h4] at this ⊢
    exact this

/-- The bytes of s from a on, up to b. -/
def seg (s : ByteArray) (a b : Nat) : List UInt8 := (s.data.toList.drop a).take (b - a)
def packGo (s : ByteArray) : Nat → Nat → Nat → List UInt8
  | 0, fr, at_ => runB (seg s fr s.size)
  | f + 1, fr, at_ =>
    if at_ < s.size then
      if (bestN s at_).1 < 4 then packGo s f fr (at_ + 1)
      else runB (seg s fr at_) ++ [UInt8.ofNat ((bestN s at_).1 + 124), UInt8.ofNat (bestN s at_).2, UInt8.ofNat ((bestN s at_).2 / 256)] ++ packGo s f (at_ + (bestN s at_).1) (at_ + (bestN s at_).1)
    else runB (seg s fr s.size)
def packFrom (s : ByteArray) (fr at_ : Nat) : List UInt8 := packGo s (s.size - at_) fr at_
def pack (s : ByteArray) : List UInt8 := packFrom s 0 0

theorem packGo_more (s : ByteArray) : ∀ (f g fr at_ : Nat), s.size - at_ ≤ f → s.size - at_ ≤ g → packGo s f fr at_ = packGo s g fr at_
  | 0, 0, _, _, _, _ => rfl
  | 0, g + 1, fr, at_, h, _ => by rw [packGo, packGo, if_neg (by omega)]
  | f + 1, 0, fr, at_, _, h => by rw [packGo, packGo, if_neg (by omega)]
  | f + 1, g + 1, fr, at_, h1, h2 => by
    rw [packGo, packGo]
    by_cases hlt : at_ < s.size
    · rw [if_pos hlt, if_pos hlt]
      by_cases h4 : (bestN s at_).1 < 4
      · rw [if_pos h4, if_pos h4]
        exact packGo_more s f g fr (at_ + 1) (by omega) (by omega)
      · rw [if_neg h4, if_neg h4]
        rw [packGo_more s f g (at_ + (bestN s at_).1) (at_ + (bestN s at_).1) (by omega) (by omega)]
    · rw [if_neg hlt, if_neg hlt]
theorem packFrom_end (s : ByteArray) (fr at_ : Nat) (h : s.size ≤ at_) : packFrom s fr at_ = runB (seg s fr s.size) := by
  rw [packFrom, show s.size - at_ = 0 by omega, packGo]
theorem packFrom_one (s : ByteArray) (fr at_ : Nat) (h : at_ < s.size) (h4 : (bestN s at_).1 < 4) : packFrom s fr at_ = packFrom s fr (at_ + 1) := by
  obtain ⟨f, hf⟩ : ∃ f, s.size - at_ = f + 1 := ⟨s.size - at_ - 1, by omega⟩
  rw [packFrom, hf, packGo, if_pos h, if_pos h4, packFrom]
  exact packGo_more s f _ _ _ (by omega) (Nat.le_refl _)
theorem packFrom_copy (s : ByteArray) (fr at_ : Nat) (h : at_ < s.size) (h4 : ¬ (bestN s at_).1 < 4) :
    packFrom s fr at_ = runB (seg s fr at_) ++ [UInt8.ofNat ((bestN s at_).1 + 124), UInt8.ofNat (bestN s at_).2, UInt8.ofNat ((bestN s at_).2 / 256)] ++ packFrom s (at_ + (bestN s at_).1) (at_ + (bestN s at_).1) := by
  obtain ⟨f, hf⟩ : ∃ f, s.size - at_ = f + 1 := ⟨s.size - at_ - 1, by omega⟩
  rw [packFrom, hf, packGo, if_pos h, if_neg h4, packFrom]
  rw [packGo_more s f _ _ _ (by omega) (Nat.le_refl _)]

theorem scan_facts (s : ByteArray) (a : Nat) : ∀ d, (scan s a d).1 = 0 ∧ (scan s a d).2 = 0 ∨ (4 ≤ (scan s a d).1 ∧ 1 ≤ (scan s a d).2 ∧ (scan s a d).2 ≤ d ∧ (scan s a d).1 = sameLen s a (a - (scan s a d).2))
  | 0 => .inl ⟨rfl, rfl⟩
  | d + 1 => by
    rw [scan]
    split
    · rename_i hc
      exact .inr ⟨hc.1, by simp, by simp, rfl⟩
    · rcases scan_facts s a d with h | ⟨h1, h2, h3, h4⟩
      · exact .inl h
      · exact .inr ⟨h1, h2, by omega, h4⟩
theorem bestN_facts (s : ByteArray) (a : Nat) : (bestN s a).1 = 0 ∧ (bestN s a).2 = 0 ∨ (4 ≤ (bestN s a).1 ∧ (bestN s a).1 ≤ 131 ∧ 1 ≤ (bestN s a).2 ∧ (bestN s a).2 ≤ a ∧ a + (bestN s a).1 ≤ s.size ∧ ∀ i, i < (bestN s a).1 → byt s (a - (bestN s a).2 + i) = byt s (a + i)) := by
  unfold bestN
  by_cases h4 : a + 4 ≤ s.size
  · rw [if_pos h4]
    rcases scan_facts s a a with h | ⟨h1, h2, h3, h5⟩
    · exact .inl h
    · refine .inr ⟨h1, by rw [h5]; exact sameLen_le _ _ _, h2, h3, ?_, ?_⟩
      · have := (sameLen_alike s a (a - (scan s a a).2) ((scan s a a).1 - 1) (by omega)).2
        omega
      · intro i hi
        exact (sameLen_alike s a (a - (scan s a a).2) i (by omega)).1
  · rw [if_neg h4]
    exact .inl ⟨rfl, rfl⟩

theorem runB_length : ∀ (n : Nat) (l : List UInt8), l.length = n → (runB l).length = n + (n + 127) / 128 := by
  intro n
  induction n using Nat.strongRecOn with
  | _ n ih =>
    intro l hl
    by_cases h : l = []
    · subst h
      simp at hl
      subst hl
      rfl
    · have hp : 0 < l.length := List.length_pos_iff.2 h
      rw [runB_step l h, List.length_cons, List.length_append, List.length_take, ih (n - 128) (by omega) (l.drop 128) (by simp; omega)]
      omega
theorem seg_length (s : ByteArray) (a b : Nat) (h : b ≤ s.size) : (seg s a b).length = b - a := by
  have : s.data.toList.length = s.size := by simp
  simp only [seg, List.length_take, List.length_drop, this]
  omega
theorem runB_seg_le (s : ByteArray) (a b : Nat) (h : b ≤ s.size) : (runB (seg s a b)).length ≤ 2 * (b - a) := by
  rw [runB_length _ _ (seg_length s a b h)]
  omega

theorem Finder.keep {s : ByteArray} {B F M k : Nat} {v : Value} {D : DataW Unit} {w w' : World} (h : Finder s B F M k v D w) (hb : Below w.heap.size w w') : Finder s B F M k v D w' := by
  have hg : w.grownBy w' none := ⟨hb.os, hb.tape, hb.output, hb.size, fun i hi _ => hb.block i hi⟩
  exact ⟨⟨h.bF, h.bM, (hb.block F (lt_of_block h.blk)).trans h.blk, h.map.kept hg (by simp), h.row.kept hg (by cases v.ownBlock <;> simp)⟩, h.tells⟩
theorem Bld.kept {B b : Nat} {l : List UInt8} {w w' : World} (h : Bld B b l w) (hk : KeptB w w') : Bld B b l w' := by
  have one : ∀ p, Lib.BuilderAtF 74 5 B b p (Lib.byteCells l) w → Lib.BuilderAtF 74 5 B b p (Lib.byteCells l) w' := by
    rintro p ⟨hB, v, hb, hown, hne⟩
    refine ⟨hB, v, hk _ _ _ _ (.inl rfl) hb, ⟨hown.1, ?_⟩, hne⟩
    rcases hown.2 with h0 | ⟨g, cap, cur, fz, h1, h2, h3, h4⟩
    · exact .inl h0
    · exact .inr ⟨g, cap, cur, fz, h1, h2, hk _ _ _ _ (.inr rfl) h3, h4⟩
  exact h.imp (one _) (one _)
theorem Bld.below {B b : Nat} {l : List UInt8} {w w' : World} (h : Bld B b l w) (hb : Below w.heap.size w w') : Bld B b l w' :=
  h.kept fun i c t fz _ hi => (hb.block i (lt_of_block hi)).trans hi
theorem Finder.others {s : ByteArray} {B F M k b : Nat} {v : Value} {D : DataW Unit} {l : List UInt8} {w w' : World} (h : Finder s B F M k v D w) (hbl : Bld B b l w) (ho : Lib.OthersKept 5 (some b) w w') : Finder s B F M k v D w' := by
  obtain ⟨vb, hb⟩ : ∃ c, w.heap[b]? = some (.cells c 74 (0, 0)) := by
    rcases hbl with ⟨_, v, hb, _⟩ | ⟨_, v, hb, _⟩ <;> exact ⟨_, hb⟩
  have keep : ∀ (i : Nat) (c : Array Value) (t : TypeId) (fz : Nat × Nat), t ≠ 74 → t ≠ 5 → w.heap[i]? = some (.cells c t fz) → w'.heap[i]? = some (.cells c t fz) := by
    intro i c t fz h1 h2 hi
    refine ho i _ hi ?_ ?_
    · intro e
      injection e with e
      subst e
      rw [hb] at hi
      injection hi with hi
      injection hi with _ hi
      exact h1 hi.symm
    · intro c' fz' e
      injection e with _ e
      exact h2 e
  obtain ⟨es, cl, hes, hrest⟩ := h.map
  refine ⟨⟨h.bF, h.bM, keep _ _ _ _ (by decide) (by decide) h.blk, ⟨es, cl, ?_, hrest⟩, ⟨h.row.1, ?_⟩⟩, h.tells⟩
  · refine ho M _ hes ?_ (by intro c fz e; cases e)
    intro e
    injection e with e
    subst e
    rw [hb] at hes
    injection hes with hes
    cases hes
  · rcases h.row.2 with h0 | ⟨g, cap, cur, h1, h2, h3, h4⟩
    · exact .inl h0
    · exact .inr ⟨g, cap, cur, h1, h2, keep _ _ _ _ (by decide) (by decide) h3, h4⟩

end Go.Proofs.Ytnjcganknpnjcaa
