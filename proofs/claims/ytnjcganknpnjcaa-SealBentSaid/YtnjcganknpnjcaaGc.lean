/- lz: the words of the plain side: how many bytes stand alike, where four bytes stood last. -/
import Derived.Test.YtnjcganknpnjcaaGa
import Derived.Maps.OwnSet
import Derived.Maps.AppendAt
import Derived.RangeFuncBox
import Derived.Lib.Strings
import Derived.Test.YtnjcganknpnjcaaGb
set_option linter.unusedVariables false
set_option linter.unusedSimpArgs false
namespace Go.Proofs.Ytnjcganknpnjcaa

def sameGo (s : ByteArray) (a k : Nat) : Nat → Nat → Nat
  | 0, m => m
  | d + 1, m => if m < 131 ∧ a + m < s.size ∧ byt s (k + m) = byt s (a + m) then sameGo s a k d (m + 1) else m
def sameLen (s : ByteArray) (a k : Nat) : Nat := sameGo s a k 131 0

/-- Four bytes of a text, as a map's key. -/
def four (s : ByteArray) (p : Nat) : ByteArray := s.extract p (p + 4)
def fourL (s : ByteArray) (p : Nat) : List UInt8 := (four s p).data.toList
/-- The last place ahead of k that has these four bytes. -/
def lastOf (s : ByteArray) : Nat → List UInt8 → Option Nat
  | 0, _ => none
  | k + 1, x => if k + 4 ≤ s.size ∧ fourL s k = x then some k else lastOf s k x
def prevOf (s : ByteArray) (j : Nat) : Int :=
  if j + 4 ≤ s.size then (match lastOf s j (fourL s j) with | some p => (p : Int) | none => -1) else -1
def prevs (s : ByteArray) (k : Nat) : List Int := (List.range k).map (prevOf s)
theorem prevs_length (s : ByteArray) (k : Nat) : (prevs s k).length = k := by simp [prevs]
theorem prevs_succ (s : ByteArray) (k : Nat) : prevs s (k + 1) = prevs s k ++ [prevOf s k] := by simp [prevs, List.range_succ]

end Go.Proofs.Ytnjcganknpnjcaa
namespace Go.Proofs.Ytnjcganknpnjcaa
open Go.RowKit

set_option maxRecDepth 100000 in
set_option maxHeartbeats 1000000 in
theorem alike_any (s : ByteArray) (k at_ : Nat) (Ba Bf F : Nat) (w : World) (hs : s.size ≤ 140737488351232) (hk : k < at_) (hat : at_ ≤ s.size)
    (ea : w.cell? ⟨Ba, 0, none⟩ = some (.int .i64 at_)) (ef : w.cell? ⟨Bf, 0, none⟩ = some (.pointer (some ⟨F, 0, none⟩)))
    (es : w.cell? ⟨F, 0, none⟩ = some (.string s)) :
    Calls Try.prog 89 #[.int .i64 k, .pointer (some ⟨Ba, 0, none⟩), .pointer (some ⟨Bf, 0, none⟩)] w fun e w' => e = .returned (.int .i64 (sameLen s at_ k)) ∧ Drew w w' := by
  go_enter Try.func89, Try.ntmps89
  go_wp2
  go_loopw [5] (fun v wr => ∃ m : Nat, m ≤ 131 ∧ v = .int .i64 m ∧ Hid (sameGo s at_ k (131 - m) m = sameLen s at_ k) ∧ ∃ n, wr = w.drewN n) (fun v _ => 131 - (intOf v).toNat)
  case atStart => exact ⟨0, by omega, rfl, Lib.hid rfl, 0, rfl⟩
  case round =>
    obtain ⟨m, hm, rfl, H, n, rfl⟩ := hrel
    have e1 : IntKind.i64.wrap ((at_ : Int) + m) = (at_ : Int) + m := IntWalk.i64_in _ (by omega)
    have e2 : IntKind.i64.wrap ((k : Int) + m) = (k : Int) + m := IntWalk.i64_in _ (by omega)
    have e3 : 0 ≤ (at_ : Int) + m := by omega
    have e4 : 0 ≤ (k : Int) + m := by omega
    have e5 : ((at_ : Int) + m).toNat = at_ + m := by omega
    have e6 : ((k : Int) + m).toNat = k + m := by omega
    by_cases h1 : m < 131
    · have h1b : decide ((m : Int) < 131) = true := decide_eq_true (by omega)
      by_cases h2 : at_ + m < s.size
      · have h2b : decide ((at_ : Int) + m < s.size) = true := decide_eq_true (by omega)
        have hx1 := byt_at s (k + m)
        have hx2 := byt_at s (at_ + m)
        have e7 : (k : Int) + m < s.size := by omega
        by_cases h3 : byt s (k + m) = byt s (at_ + m)
        · have h3b : (byt s (k + m) == byt s (at_ + m)) = true := by simpa using h3
          have Hn : Hid (sameGo s at_ k (131 - (m + 1)) (m + 1) = sameLen s at_ k) := by
            rw [← H.out, show 131 - m = (131 - (m + 1)) + 1 by omega]
            exact Lib.hid (by rw [sameGo, if_pos ⟨h1, h2, h3⟩])
          clear h3 H
          go_wp2
          go_quiet (fail)
          go_wp2
          go_roundw
          case rel => exact ⟨m + 1, by omega, by go_num, Hn, _, rfl⟩
          case measure => simp [intOf]; omega
        · have h3b : (byt s (k + m) == byt s (at_ + m)) = false := by simpa using h3
          have Hn : Hid (sameLen s at_ k = m) := by
            rw [← H.out, show 131 - m = (131 - (m + 1)) + 1 by omega]
            exact Lib.hid (by rw [sameGo, if_neg (fun h => h3 h.2.2)])
          clear h3 H
          go_wp2
          go_quiet (fail)
          go_wp2
          go_ret
          exact ⟨ret_int (by rw [Hn.out]), Drew.draws2 _ _ _⟩
      · have h2b : decide ((at_ : Int) + m < s.size) = false := decide_eq_false (by omega)
        have Hn : Hid (sameLen s at_ k = m) := by
          rw [← H.out, show 131 - m = (131 - (m + 1)) + 1 by omega]
          exact Lib.hid (by rw [sameGo, if_neg (fun h => h2 h.2.1)])
        clear H
        go_wp2
        go_quiet (fail)
        go_wp2
        go_ret
        exact ⟨ret_int (by rw [Hn.out]), Drew.draws2 _ _ _⟩
    · have h1b : decide ((m : Int) < 131) = false := decide_eq_false (by omega)
      have Hn : Hid (sameLen s at_ k = m) := by
        rw [← H.out, show 131 - m = 0 by omega]
        exact Lib.hid (by rw [sameGo])
      clear H
      go_wp2
      go_quiet (fail)
      go_wp2
      go_ret
      exact ⟨ret_int (by rw [Hn.out]), Drew.draws2 _ _ _⟩

end Go.Proofs.Ytnjcganknpnjcaa
namespace Go.Proofs.Ytnjcganknpnjcaa
open Go.RowKit Go.Maps Go.WideMaps

/-- What the map says. -/
def Tells (s : ByteArray) (k : Nat) (D : DataW Unit) : Prop :=
  ∀ x : List UInt8, (Maps.has D (.string x) = (lastOf s k x).isSome) ∧ ∀ p, lastOf s k x = some p → D.atKey (.string x) (.lit (.int .i64 0)) = .lit (.int .i64 (p : Int))

theorem law9 : Keyed Try.prog 9 := string_keyed Try.underlying9
theorem zero3 (w : World) : (zeroValue 3).run Try.prog w = .ok (.int .i64 0) w := by kernel_rfl
theorem info3 : (Try.prog.info? 3).map (fun i => (i.zero, i.size, i.bytes)) = some (some (.int .i64 0), 1, 8) := by kernel_rfl

/-- The finder in memory, k places being passed; n of them are listed. -/
structure FinderX (s : ByteArray) (B F M k : Nat) (v : Value) (n : Nat) (xs : List Int) (D : DataW Unit) (w : World) : Prop where
  bF : B ≤ F
  bM : B ≤ M
  blk : w.heap[F]? = some (.cells #[.string s, .map (some M), v] 79 (0, 0))
  map : w.ownsMap Try.prog 9 (plainElem Try.prog 3) M k D
  row : w.ownsRow B 3 1 v n (xs.map (Value.int .i64))

structure Finder (s : ByteArray) (B F M k : Nat) (v : Value) (D : DataW Unit) (w : World) : Prop extends FinderX s B F M k v k (prevs s k) D w where
  tells : Tells s k D

/-- Builders and bytes are as they were. -/
def KeptB (w w' : World) : Prop := ∀ (i : Nat) (c : Array Value) (t : TypeId) (fz : Nat × Nat), (t = 74 ∨ t = 5) → w.heap[i]? = some (.cells c t fz) → w'.heap[i]? = some (.cells c t fz)
theorem KeptB.refl (w : World) : KeptB w w := fun _ _ _ _ _ h => h
theorem KeptB.trans {a b c : World} (h : KeptB a b) (k : KeptB b c) : KeptB a c := fun i c t fz ht h0 => k i c t fz ht (h i c t fz ht h0)
theorem KeptB.drewN {a b : World} (h : KeptB a b) (n : Nat) : KeptB a (b.drewN n) := h
theorem lt_of_block {w : World} {i : Nat} {o : Obj} (h : w.heap[i]? = some o) : i < w.heap.size := (Array.getElem?_eq_some_iff.1 h).1
theorem KeptB.of_grown {w w' : World} {row : Option Nat} (h : w.grownBy w' row) (hr : ∀ g, row = some g → (∃ c t fz, w.heap[g]? = some (.cells c t fz) ∧ t ≠ 74 ∧ t ≠ 5) ∨ (∃ es cl, w.heap[g]? = some (.map es cl))) : KeptB w w' := by
  intro i c t fz ht h0
  rw [h.block i (lt_of_block h0) ?_]
  · exact h0
  · intro e
    rcases hr i e.symm with ⟨c', t', fz', h1, h2, h3⟩ | ⟨es, cl, h1⟩
    · rw [h1] at h0
      injection h0 with h0
      injection h0 with _ h0
      rcases ht with rfl | rfl
      · exact h2 h0
      · exact h3 h0
    · rw [h1] at h0
      injection h0 with h0
      cases h0
theorem KeptB.setCell {w : World} {a : Addr} {c : Array Value} {t : TypeId} {fz : Nat × Nat} (h : w.heap[a.block]? = some (.cells c t fz)) (h1 : t ≠ 74) (h2 : t ≠ 5) (u : Value) : KeptB w (w.setCell a u) := by
  intro i c' t' fz' ht h0
  rw [heap_setCell_other w a i u ?_]
  · exact h0
  · rintro rfl
    rw [h] at h0
    injection h0 with h0
    injection h0 with _ h0
    rcases ht with rfl | rfl
    · exact h1 h0
    · exact h2 h0

theorem row_block {w : World} {base : Nat} {e : TypeId} {size n : Nat} {v : Value} {xs : List Value} (h : w.ownsRow base e size v n xs) {g : Nat} (hg : v.ownBlock = some g) : ∃ c, w.heap[g]? = some (.cells c e (0, 0)) := by
  rcases h.2 with ⟨rfl, _⟩ | ⟨g', cap, cur, rfl, _, hh, _⟩
  · simp [Value.ownBlock] at hg
  · have : g' = g := by simpa [Value.ownBlock] using hg
    subst this
    exact ⟨_, hh⟩
theorem row_ne {w : World} {base : Nat} {e t : TypeId} {size n g : Nat} {v : Value} {xs : List Value} {c : Array Value} {fz : Nat × Nat} (h : w.ownsRow base e size v n xs) (hg : w.heap[g]? = some (.cells c t fz)) (hne : e ≠ t) : v.ownBlock ≠ some g := by
  intro he
  obtain ⟨c', hc⟩ := row_block h he
  rw [hc] at hg
  injection hg with hg
  injection hg with _ hg
  exact hne hg
theorem row_ne_map {w : World} {base : Nat} {e : TypeId} {size n g : Nat} {v : Value} {xs : List Value} {es : Array MapEntry} {cl : Nat} (h : w.ownsRow base e size v n xs) (hg : w.heap[g]? = some (.map es cl)) : v.ownBlock ≠ some g := by
  intro he
  obtain ⟨c', hc⟩ := row_block h he
  rw [hc] at hg
  injection hg with hg
  cases hg

/-- Behind 'f.prev = append(f.prev, -1)': the list is longer by one. -/
theorem put_mid {s : ByteArray} {B F M k : Nat} {v : Value} {D : DataW Unit} {w w1 : World} (h : Finder s B F M k v D w) {o : Obj} {g cap : Nat}
    (hown : w1.ownsRow B 3 1 (.slice (some ⟨g, 0, none⟩) (k + 1) cap) (k + 1) ((prevs s k).map (Value.int .i64) ++ [Value.int .i64 (-1)])) (hgrow : (w.alloc o).grownBy w1 v.ownBlock) (hB : B ≤ w.heap.size) :
    (w1.heap[F]? = some (.cells #[.string s, .map (some M), v] 79 (0, 0))) ∧ g ≠ F ∧
    FinderX s B F M k (.slice (some ⟨g, 0, none⟩) (k + 1) cap) (k + 1) (prevs s k ++ [-1]) D (w1.setCell ⟨F, 2, none⟩ (.slice (some ⟨g, 0, none⟩) (k + 1) cap)) ∧
    Below B w (w1.setCell ⟨F, 2, none⟩ (.slice (some ⟨g, 0, none⟩) (k + 1) cap)) ∧ KeptB w (w1.setCell ⟨F, 2, none⟩ (.slice (some ⟨g, 0, none⟩) (k + 1) cap)) := by
  have hFlt := lt_of_block h.blk
  have hF0 : (w.alloc o).heap[F]? = some (.cells #[.string s, .map (some M), v] 79 (0, 0)) := by rw [Below.heap_alloc w o F hFlt]; exact h.blk
  have hr0 := h.row.alloc o
  have hF1 : w1.heap[F]? = some (.cells #[.string s, .map (some M), v] 79 (0, 0)) := by
    rw [hgrow.block F (lt_of_block hF0) (fun e => row_ne hr0 hF0 (by decide) e.symm)]
    exact hF0
  have hgF : g ≠ F := fun e => row_ne hown hF1 (by decide) (by rw [e]; rfl)
  have hm0 := h.map.alloc o
  obtain ⟨es, cl, hes, _⟩ := hm0
  have hm1 := (h.map.alloc o).kept hgrow (fun e => row_ne_map hr0 hes e.symm)
  obtain ⟨es1, cl1, hes1, _⟩ := hm1
  have hMF : M ≠ F := by
    rintro rfl
    rw [hes1] at hF1
    injection hF1 with hF1
    cases hF1
  refine ⟨hF1, hgF, ⟨h.bF, h.bM, ?_, ?_, ?_⟩, ?_, ?_⟩
  · have := heap_setCell_same w1 F 2 _ 79 (.slice (some ⟨g, 0, none⟩) (k + 1) cap) hF1
    simpa using this
  · exact ((h.map.alloc o).kept hgrow (fun e => row_ne_map hr0 hes e.symm)).setCell hMF _
  · have hk : w1.grownBy (w1.setCell ⟨F, 2, none⟩ (.slice (some ⟨g, 0, none⟩) (k + 1) cap)) (some F) :=
      ⟨rfl, rfl, rfl, by simp [World.setCell], fun i _ hne => heap_setCell_other _ _ _ _ (fun e => hne (by rw [e]))⟩
    have := hown.kept hk (.inr (fun e => hgF (by simpa [Value.ownBlock] using e)))
    simpa using this
  · refine Below.trans (b := w1) ?_ ?_
    · refine ⟨hgrow.os, hgrow.tape, hgrow.output, Nat.le_trans (by simp) hgrow.size, fun i hi => ?_⟩
      have hi0 : i < w.heap.size := by omega
      rw [hgrow.block i (by simp; omega) (fun e => by have := (hr0.lt i e.symm).1; omega), Below.heap_alloc w o i hi0]
    · exact ⟨rfl, rfl, rfl, by simp [World.setCell], fun i hi => heap_setCell_other _ _ _ _ (by have := h.bF; show i ≠ F; omega)⟩
  · refine KeptB.trans (b := w.alloc o) ?_ (KeptB.trans (b := w1) ?_ ?_)
    · intro i c t fz _ h0
      rw [Below.heap_alloc w o i (lt_of_block h0)]
      exact h0
    · refine KeptB.of_grown hgrow (fun g' hg' => .inl ?_)
      obtain ⟨c, hc⟩ := row_block hr0 hg'
      exact ⟨c, 3, _, hc, by decide, by decide⟩
    · exact KeptB.setCell (a := ⟨F, 2, none⟩) hF1 (by decide) (by decide) _

theorem FinderX.turned {s : ByteArray} {B F M k n : Nat} {v : Value} {xs : List Int} {D D' : DataW Unit} {w w' : World} (h : FinderX s B F M k v n xs D w) (hm : w'.ownsMap Try.prog 9 (plainElem Try.prog 3) M (k + 1) D') (hg : w.grownBy w' (some M)) :
    FinderX s B F M (k + 1) v n xs D' w' ∧ Below B w w' ∧ KeptB w w' := by
  obtain ⟨es, cl, hes, _⟩ := h.map
  have hMF : F ≠ M := by
    rintro rfl
    have hb := h.blk
    rw [hes] at hb
    injection hb with hb
    cases hb
  refine ⟨⟨h.bF, h.bM, ?_, hm, h.row.kept hg (.inr (row_ne_map h.row hes))⟩, ?_, ?_⟩
  · rw [hg.block F (lt_of_block h.blk) (fun e => hMF (by injection e))]
    exact h.blk
  · refine ⟨hg.os, hg.tape, hg.output, hg.size, fun i hi => ?_⟩
    have hM := lt_of_block hes
    have hbM := h.bM
    exact hg.block i (by omega) (fun e => by injection e with e; omega)
  · exact KeptB.of_grown hg (fun g hg' => .inr ⟨es, cl, by injection hg' with hg'; rw [← hg']; exact hes⟩)

theorem FinderX.stored {s : ByteArray} {B F M k n g cap : Nat} {xs : List Int} {D : DataW Unit} {w : World} (h : FinderX s B F M k (.slice (some ⟨g, 0, none⟩) n cap) n xs D w) (j : Nat) (a : Int) :
    FinderX s B F M k (.slice (some ⟨g, 0, none⟩) n cap) n (xs.set j a) D (w.setCell ⟨g, j, none⟩ (.int .i64 a)) ∧ Below B w (w.setCell ⟨g, j, none⟩ (.int .i64 a)) ∧ KeptB w (w.setCell ⟨g, j, none⟩ (.int .i64 a)) := by
  obtain ⟨es, cl, hes, _⟩ := h.map
  obtain ⟨c, hc⟩ := row_block h.row (g := g) rfl
  have hgF : F ≠ g := fun e => row_ne h.row h.blk (by decide) (by rw [e]; rfl)
  have hgM : M ≠ g := fun e => row_ne_map h.row hes (by rw [e]; rfl)
  have hst := h.row.stored j (.int .i64 a)
  refine ⟨⟨h.bF, h.bM, ?_, h.map.setCell hgM _, ?_⟩, ?_, ?_⟩
  · rw [heap_setCell_other w ⟨g, j, none⟩ F _ hgF]
    exact h.blk
  · have := hst.1
    rwa [← List.map_set] at this
  · refine ⟨rfl, rfl, rfl, by simp [World.setCell], fun i hi => heap_setCell_other _ _ _ _ ?_⟩
    have := (h.row.lt g rfl).1
    show i ≠ g
    omega
  · exact KeptB.setCell (a := ⟨g, j, none⟩) hc (by decide) (by decide) _

/-- What 'put' leaves. -/
def PutPost (s : ByteArray) (B F M k : Nat) (w : World) (e : Ending) (w' : World) : Prop :=
  e = .returned (.tuple #[]) ∧ ∃ v D, Finder s B F M (k + 1) v D w' ∧ Below B w w' ∧ KeptB w w'

theorem tells_skip {s : ByteArray} {k : Nat} {D : DataW Unit} (h : Tells s k D) (h4 : ¬ k + 4 ≤ s.size) : Tells s (k + 1) D := by
  intro x
  have e : lastOf s (k + 1) x = lastOf s k x := by rw [lastOf, if_neg (fun hh => h4 hh.1)]
  rw [e]
  exact h x

set_option maxRecDepth 100000 in
set_option maxHeartbeats 1000000 in
theorem put_end (s : ByteArray) (B F M k : Nat) (v : Value) (D : DataW Unit) (w : World) (h : Finder s B F M k v D w) (hB : B ≤ w.heap.size) (hs : s.size ≤ 140737488351232) (hk : k < s.size) (h4 : s.size < k + 4) (hl : k ≤ 1000000) :
    Calls Try.prog 56 #[.pointer (some ⟨F, 0, none⟩), .int .i64 k] w (PutPost s B F M k w) := by
  obtain ⟨i0, hi, hz0, hz1, hz2⟩ := info_parts info3
  have c0 := cell_of_row w F 0 _ _ _ h.blk
  have c1 := cell_of_row w F 1 _ _ _ h.blk
  have c2 := cell_of_row w F 2 _ _ _ h.blk
  simp at c0 c1 c2
  have hrow := h.row
  go_enter Try.func56, Try.ntmps56
  go_wp2_with (first
    | (at_builtin; refine wpList_append_own _ rfl _ _ 77 rfl B 3 i0 (.int .i64 0) 1 8 Try.underlying77 hi hz0 hz1 hz2 rfl (by decide) _ _ _ rfl (hrow.alloc _) ⟨w.heap.size, 0, none⟩ 1 1 [.int .i64 (-1)] rfl rfl (cell_one_new _ _ _) ?c2 ?c3 ?c4 ?c5 ?_))
  case c2 => intro u hu; simp at hu; subst hu; rfl
  case c3 => unfold maxLen; omega
  case c4 => omega
  case c5 => simp; omega
  intro v1 w1 hown hgrow _
  obtain ⟨g, cap, rfl⟩ := ownsRow_succ hown
  obtain ⟨b1, hgF, hx, hbel, hkb⟩ := put_mid h hown hgrow hB
  have f2 := frozen_of_row w1 F 2 _ _ b1
  have d2 := cell_of_row w1 F 2 _ _ _ b1
  have d0 := cell_of_row w1 F 0 _ _ _ b1
  simp at d2 d0
  have ht : decide ((k : Int) + 4 ≤ s.size) = false := decide_eq_false (by omega)
  clear hown hgrow c0 c1 c2 hrow b1
  go_wp2
  go_end0
  refine ⟨rfl, _, D, ⟨⟨hx.bF, hx.bM, hx.blk, hx.map.mono (Nat.le_succ _), ?_⟩, tells_skip h.tells (by omega)⟩, hbel, hkb⟩
  rw [prevs_succ, show prevOf s k = -1 by unfold prevOf; rw [if_neg (by omega)]]
  exact hx.row

theorem fourL_wf (s : ByteArray) (k : Nat) (hs : s.size ≤ 140737488351232) : keyOf Try.prog 9 (.string (s.extract k (k + 4))) = some (.string (fourL s k)) :=
  keyOf_string_mk Try.underlying9 (by simp [ByteArray.size_extract]; unfold maxLen; omega)

theorem tells_put {s : ByteArray} {k : Nat} {D : DataW Unit} (h : Tells s k D) (hD : IsMap D) (h4 : k + 4 ≤ s.size) (hl : WideAt.IsKeyLit (.string (fourL s k))) : Tells s (k + 1) (D.put (.string (fourL s k)) (.lit (.int .i64 (k : Int)))) := by
  intro x
  by_cases hx : fourL s k = x
  · have e : lastOf s (k + 1) x = some k := by rw [lastOf, if_pos ⟨h4, hx⟩]
    rw [e]
    subst hx
    refine ⟨by rw [has_put_same hD hl]; rfl, fun p hp => ?_⟩
    rw [atKey_put_same hD hl]
    injection hp with hp
    rw [hp]
  · have e : lastOf s (k + 1) x = lastOf s k x := by rw [lastOf, if_neg (fun hh => hx hh.2)]
    rw [e]
    have hne : Lit.string x ≠ Lit.string (fourL s k) := fun hh => hx (by injection hh with hh; exact hh.symm)
    refine ⟨by rw [has_put_other hne]; exact (h x).1, fun p hp => ?_⟩
    rw [atKey_put_other hne]
    exact (h x).2 p hp

set_option maxRecDepth 100000 in
set_option maxHeartbeats 1000000 in
theorem put_new (s : ByteArray) (B F M k : Nat) (v : Value) (D : DataW Unit) (w : World) (h : Finder s B F M k v D w) (hB : B ≤ w.heap.size) (hs : s.size ≤ 140737488351232) (h4 : k + 4 ≤ s.size) (hl : k ≤ 1000000)
    (hno : lastOf s k (fourL s k) = none) :
    Calls Try.prog 56 #[.pointer (some ⟨F, 0, none⟩), .int .i64 k] w (PutPost s B F M k w) := by
  obtain ⟨i0, hi, hz0, hz1, hz2⟩ := info_parts info3
  have c0 := cell_of_row w F 0 _ _ _ h.blk
  have c1 := cell_of_row w F 1 _ _ _ h.blk
  have c2 := cell_of_row w F 2 _ _ _ h.blk
  simp at c0 c1 c2
  have hrow := h.row
  go_enter Try.func56, Try.ntmps56
  go_wp2_with (first
    | (at_builtin; refine wpList_append_own _ rfl _ _ 77 rfl B 3 i0 (.int .i64 0) 1 8 Try.underlying77 hi hz0 hz1 hz2 rfl (by decide) _ _ _ rfl (hrow.alloc _) ⟨w.heap.size, 0, none⟩ 1 1 [.int .i64 (-1)] rfl rfl (cell_one_new _ _ _) ?c2 ?c3 ?c4 ?c5 ?_))
  case c2 => intro u hu; simp at hu; subst hu; rfl
  case c3 => unfold maxLen; omega
  case c4 => omega
  case c5 => simp; omega
  intro v1 w1 hown hgrow _
  obtain ⟨g, cap, rfl⟩ := ownsRow_succ hown
  obtain ⟨b1, hgF, hx, hbel, hkb⟩ := put_mid h hown hgrow hB
  have f2 := frozen_of_row w1 F 2 _ _ b1
  have d2 := cell_of_row w1 F 2 _ _ _ b1
  have d0 := cell_of_row w1 F 0 _ _ _ b1
  have d1 := cell_of_row w1 F 1 _ _ _ b1
  simp at d2 d0 d1
  have ht : decide ((k : Int) + 4 ≤ s.size) = true := decide_eq_true (by omega)
  have hhas : Maps.has D (.string (fourL s k)) = false := by rw [(h.tells _).1, hno]; rfl
  have Hno := Lib.hid hno
  have hkey := fourL_wf s k hs
  have hmap := hx.map
  clear hown hgrow c0 c1 c2 hrow b1 hno
  go_wp2_with (first
    | (at_lookup; refine wpList_lookup_own_ok_int _ rfl _ _ 76 rfl 9 3 .i64 law9 Try.underlying76 Try.underlying3 (zero3 _) M k D rfl hmap _ _ rfl hkey ?_; intro c hat hwc)
    | (at_mapUpdate; refine wpList_mapUpdate_own _ rfl _ _ _ 76 rfl 9 3 law9 Try.underlying76 _ M k _ rfl hmap ?m1 _ _ _ rfl rfl hkey _ [] (plainElem_int Try.underlying3 ?m2) ?_))
  case m1 => unfold maxLen; omega
  case m2 => exact WalkArith.wf_i64 (by omega)
  intro w9 hm9 hg9
  go_wp2
  go_end0
  obtain ⟨hx9, hb9, hk9⟩ := hx.turned hm9 hg9
  refine ⟨rfl, _, _, ⟨⟨hx9.bF, hx9.bM, hx9.blk, hx9.map, ?_⟩, tells_put h.tells h.map.isMap h4 trivial⟩, hbel.trans hb9, hkb.trans hk9⟩
  rw [prevs_succ, show prevOf s k = -1 by unfold prevOf; rw [if_pos h4, Hno.out]]
  exact hx9.row

set_option maxRecDepth 100000 in
set_option maxHeartbeats 1000000 in
theorem put_old (s : ByteArray) (B F M k p : Nat) (v : Value) (D : DataW Unit) (w : World) (h : Finder s B F M k v D w) (hB : B ≤ w.heap.size) (hs : s.size ≤ 140737488351232) (h4 : k + 4 ≤ s.size) (hl : k ≤ 1000000)
    (hp : lastOf s k (fourL s k) = some p) :
    Calls Try.prog 56 #[.pointer (some ⟨F, 0, none⟩), .int .i64 k] w (PutPost s B F M k w) := by
  obtain ⟨i0, hi, hz0, hz1, hz2⟩ := info_parts info3
  have c0 := cell_of_row w F 0 _ _ _ h.blk
  have c1 := cell_of_row w F 1 _ _ _ h.blk
  have c2 := cell_of_row w F 2 _ _ _ h.blk
  simp at c0 c1 c2
  have hrow := h.row
  go_enter Try.func56, Try.ntmps56
  go_wp2_with (first
    | (at_builtin; refine wpList_append_own _ rfl _ _ 77 rfl B 3 i0 (.int .i64 0) 1 8 Try.underlying77 hi hz0 hz1 hz2 rfl (by decide) _ _ _ rfl (hrow.alloc _) ⟨w.heap.size, 0, none⟩ 1 1 [.int .i64 (-1)] rfl rfl (cell_one_new _ _ _) ?c2 ?c3 ?c4 ?c5 ?_))
  case c2 => intro u hu; simp at hu; subst hu; rfl
  case c3 => unfold maxLen; omega
  case c4 => omega
  case c5 => simp; omega
  intro v1 w1 hown hgrow _
  obtain ⟨g, cap, rfl⟩ := ownsRow_succ hown
  obtain ⟨b1, hgF, hx, hbel, hkb⟩ := put_mid h hown hgrow hB
  have f2 := frozen_of_row w1 F 2 _ _ b1
  have d2 := cell_of_row w1 F 2 _ _ _ b1
  have d0 := cell_of_row w1 F 0 _ _ _ b1
  have d1 := cell_of_row w1 F 1 _ _ _ b1
  simp at d2 d0 d1
  have r1 := hown.cellAt k (by omega)
  have rf := hown.frozenAt k
  have hlen := prevs_length s k
  rw [List.getElem?_append_right (by simp [hlen]), List.length_map, hlen, Nat.sub_self] at r1
  simp at r1
  have ht : decide ((k : Int) + 4 ≤ s.size) = true := decide_eq_true (by omega)
  have hhas : Maps.has D (.string (fourL s k)) = true := by rw [(h.tells _).1, hp]; rfl
  have hatp := (h.tells _).2 p hp
  have Hp := Lib.hid hp
  have hkey := fourL_wf s k hs
  have hmap := hx.map
  obtain ⟨hx2, hb2, hk2⟩ := hx.stored k (p : Int)
  have hmap2 := hx2.map
  clear hown hgrow c0 c1 c2 hrow b1 hp hlen
  go_wp2_with (first
    | (at_lookup; refine wpList_lookup_own_ok_int _ rfl _ _ 76 rfl 9 3 .i64 law9 Try.underlying76 Try.underlying3 (zero3 _) M k D rfl hmap _ _ rfl hkey ?_; intro c hat hwc; rw [hatp] at hat; obtain rfl : (p : Int) = c := by (injection hat with hat; injection hat))
    | (at_mapUpdate; refine wpList_mapUpdate_own _ rfl _ _ _ 76 rfl 9 3 law9 Try.underlying76 _ M k _ rfl hmap2 ?m1 _ _ _ rfl rfl hkey _ [] (plainElem_int Try.underlying3 ?m2) ?_))
  case m1 => unfold maxLen; omega
  case m2 => exact WalkArith.wf_i64 (by omega)
  intro w9 hm9 hg9
  go_wp2
  go_end0
  obtain ⟨hx9, hb9, hk9⟩ := hx2.turned hm9 hg9
  refine ⟨rfl, _, _, ⟨⟨hx9.bF, hx9.bM, hx9.blk, hx9.map, ?_⟩, tells_put h.tells h.map.isMap h4 trivial⟩, (hbel.trans hb2).trans hb9, (hkb.trans hk2).trans hk9⟩
  rw [prevs_succ, show prevOf s k = (p : Int) by unfold prevOf; rw [if_pos h4, Hp.out]]
  have hlen := prevs_length s k
  have e : (prevs s k ++ [-1]).set k (p : Int) = prevs s k ++ [(p : Int)] := by
    rw [List.set_append_right _ _ (by omega), hlen, Nat.sub_self]
    rfl
  rw [← e]
  exact hx9.row

theorem put_any (s : ByteArray) (B F M k : Nat) (v : Value) (D : DataW Unit) (w : World) (h : Finder s B F M k v D w) (hB : B ≤ w.heap.size) (hs : s.size ≤ 140737488351232) (hk : k < s.size) (hl : k ≤ 1000000) :
    Calls Try.prog 56 #[.pointer (some ⟨F, 0, none⟩), .int .i64 k] w (PutPost s B F M k w) := by
  by_cases h4 : k + 4 ≤ s.size
  · cases hp : lastOf s k (fourL s k) with
    | none => exact put_new s B F M k v D w h hB hs h4 hl hp
    | some p => exact put_old s B F M k p v D w h hB hs h4 hl hp
  · exact put_end s B F M k v D w h hB hs hk (by omega) hl

end Go.Proofs.Ytnjcganknpnjcaa
namespace Go.Proofs.Ytnjcganknpnjcaa

theorem sameGo_le (s : ByteArray) (a k : Nat) : ∀ d m, m + d ≤ 131 → sameGo s a k d m ≤ 131
  | 0, m, h => by rw [sameGo]; omega
  | d + 1, m, h => by
    rw [sameGo]
    split
    · exact sameGo_le s a k d (m + 1) (by omega)
    · omega
theorem sameLen_le (s : ByteArray) (a k : Nat) : sameLen s a k ≤ 131 := sameGo_le s a k 131 0 (by omega)

theorem le_sameGo_self (s : ByteArray) (a k : Nat) : ∀ d m, m ≤ sameGo s a k d m
  | 0, m => by rw [sameGo]; omega
  | d + 1, m => by
    rw [sameGo]
    split
    · have := le_sameGo_self s a k d (m + 1)
      omega
    · omega
/-- As many bytes stand alike: a number of them that all stand alike is no greater. -/
theorem le_sameGo (s : ByteArray) (a k n : Nat) (hn : n ≤ 131) (hs : a + n ≤ s.size) (h : ∀ i, i < n → byt s (k + i) = byt s (a + i)) : ∀ d m, m + d = 131 → m ≤ n → n ≤ sameGo s a k d m
  | 0, m, hd, hm => by rw [sameGo]; omega
  | d + 1, m, hd, hm => by
    rw [sameGo]
    by_cases hmn : m = n
    · split
      · have := le_sameGo_self s a k d (m + 1)
        omega
      · omega
    · rw [if_pos ⟨by omega, by omega, h m (by omega)⟩]
      exact le_sameGo s a k n hn hs h d (m + 1) (by omega) (by omega)
theorem le_sameLen (s : ByteArray) (a k n : Nat) (hn : n ≤ 131) (hs : a + n ≤ s.size) (h : ∀ i, i < n → byt s (k + i) = byt s (a + i)) : n ≤ sameLen s a k :=
  le_sameGo s a k n hn hs h 131 0 rfl (Nat.zero_le _)
theorem sameGo_alike (s : ByteArray) (a k : Nat) : ∀ d m, ∀ i, m ≤ i → i < sameGo s a k d m → byt s (k + i) = byt s (a + i) ∧ a + i < s.size
  | 0, m, i, h1, h2 => by rw [sameGo] at h2; omega
  | d + 1, m, i, h1, h2 => by
    rw [sameGo] at h2
    split at h2
    · rename_i hc
      by_cases him : i = m
      · rw [him]; exact ⟨hc.2.2, hc.2.1⟩
      · exact sameGo_alike s a k d (m + 1) i (by omega) h2
    · omega
theorem sameLen_alike (s : ByteArray) (a k i : Nat) (h : i < sameLen s a k) : byt s (k + i) = byt s (a + i) ∧ a + i < s.size := sameGo_alike s a k 131 0 i (Nat.zero_le _) h

theorem byt_ext (s : ByteArray) (i j : Nat) (hi : i < s.size) (hj : j < s.size) : byt s i = byt s j ↔ s[i] = s[j] := by
  simp only [byt, hi, hj, dif_pos]
  constructor
  · intro h
    exact UInt8.toNat_inj.1 (by omega)
  · intro h
    rw [h]
theorem fourL_eq (s : ByteArray) (p : Nat) : fourL s p = (s.data.toList.drop p).take 4 := by
  unfold fourL four
  rw [Lib.extract_data]
  congr 1
  omega
theorem fourL_iff (s : ByteArray) (p q : Nat) (hp : p + 4 ≤ s.size) (hq : q + 4 ≤ s.size) : fourL s p = fourL s q ↔ ∀ i, i < 4 → byt s (p + i) = byt s (q + i) := by
  rw [fourL_eq, fourL_eq]
  have hsz : s.data.toList.length = s.size := by simp
  have get (r : Nat) (hr : r + 4 ≤ s.size) (i : Nat) (hi : i < 4) : ((s.data.toList.drop r).take 4)[i]? = some (s[r + i]'(by omega)) := by
    rw [List.getElem?_take_of_lt hi, List.getElem?_drop]
    rw [List.getElem?_eq_getElem (by omega)]
    rfl
  have len (r : Nat) (hr : r + 4 ≤ s.size) : ((s.data.toList.drop r).take 4).length = 4 := by simp only [List.length_take, List.length_drop, hsz]; omega
  constructor
  · intro h i hi
    have h1 := get p hp i hi
    rw [h, get q hq i hi] at h1
    injection h1 with h1
    rw [byt_ext s _ _ (by omega) (by omega), h1]
  · intro h
    refine List.ext_getElem? fun i => ?_
    by_cases hi : i < 4
    · rw [get p hp i hi, get q hq i hi]
      rw [(byt_ext s _ _ (by omega) (by omega)).1 (h i hi)]
    · rw [List.getElem?_eq_none (by rw [len p hp]; omega), List.getElem?_eq_none (by rw [len q hq]; omega)]

theorem match_iff (s : ByteArray) (a p : Nat) (hp : p < a) (ha : a + 4 ≤ s.size) : 4 ≤ sameLen s a p ↔ fourL s p = fourL s a := by
  rw [fourL_iff s p a (by omega) ha]
  constructor
  · intro h i hi
    exact (sameLen_alike s a p i (by omega)).1
  · intro h
    exact le_sameLen s a p 4 (by omega) ha h

theorem lastOf_some {s : ByteArray} {x : List UInt8} : ∀ {j p : Nat}, lastOf s j x = some p → p < j ∧ p + 4 ≤ s.size ∧ fourL s p = x ∧ ∀ q, p < q → q < j → q + 4 ≤ s.size → fourL s q ≠ x
  | 0, p, h => by rw [lastOf] at h; cases h
  | j + 1, p, h => by
    rw [lastOf] at h
    split at h
    · rename_i hc
      injection h with h
      subst h
      exact ⟨by omega, hc.1, hc.2, fun q h1 h2 => by omega⟩
    · rename_i hc
      obtain ⟨h1, h2, h3, h4⟩ := lastOf_some h
      refine ⟨by omega, h2, h3, fun q hq hq' hs hx => ?_⟩
      by_cases hqj : q = j
      · subst hqj; exact hc ⟨hs, hx⟩
      · exact h4 q hq (by omega) hs hx
theorem lastOf_none {s : ByteArray} {x : List UInt8} : ∀ {j : Nat}, lastOf s j x = none → ∀ q, q < j → q + 4 ≤ s.size → fourL s q ≠ x
  | 0, _, q, hq, _ => by omega
  | j + 1, h, q, hq, hs => by
    rw [lastOf] at h
    split at h
    · cases h
    · rename_i hc
      intro hx
      by_cases hqj : q = j
      · subst hqj; exact hc ⟨hs, hx⟩
      · exact lastOf_none h q (by omega) hs hx

/-- The best of the distances 1 .. d, copies of less than four bytes left out. -/
def scan (s : ByteArray) (a : Nat) : Nat → Nat × Nat
  | 0 => (0, 0)
  | d + 1 => if 4 ≤ sameLen s a (a - (d + 1)) ∧ (scan s a d).1 < sameLen s a (a - (d + 1)) then (sameLen s a (a - (d + 1)), d + 1) else scan s a d

theorem scan_skip (s : ByteArray) (a d : Nat) : ∀ e, (∀ x, d < x → x ≤ d + e → sameLen s a (a - x) < 4) → scan s a (d + e) = scan s a d
  | 0, _ => rfl
  | e + 1, h => by
    rw [← Nat.add_assoc, scan, if_neg (fun hh => by have := h (d + e + 1) (by omega) (by omega); omega)]
    exact scan_skip s a d e fun x h1 h2 => h x h1 (by omega)
theorem scan_full (s : ByteArray) (a d : Nat) (h : 131 ≤ (scan s a d).1) : ∀ e, scan s a (d + e) = scan s a d
  | 0 => rfl
  | e + 1 => by
    have ih := scan_full s a d h e
    rw [← Nat.add_assoc, scan, if_neg (fun hh => by have := sameLen_le s a (a - (d + e + 1)); rw [ih] at hh; omega)]
    exact ih

/-- Where the chain stands, j being passed: the next place with the same four bytes, or none. -/
def nextOf (s : ByteArray) (j : Nat) (x : List UInt8) : Int := match lastOf s j x with | some p => (p : Int) | none => -1
theorem prevOf_eq (s : ByteArray) (p : Nat) (h : p + 4 ≤ s.size) : prevOf s p = nextOf s p (fourL s p) := by
  unfold prevOf nextOf
  rw [if_pos h] <;> (cases lastOf s p (fourL s p) <;> rfl)
/-- No place is left: all has been looked at. -/
theorem scan_none {s : ByteArray} {a j : Nat} (ha : a + 4 ≤ s.size) (hj : j ≤ a) (h : lastOf s j (fourL s a) = none) : scan s a a = scan s a (a - j) := by
  have := scan_skip s a (a - j) j fun x h1 h2 => by
    have h3 := lastOf_none h (a - x) (by omega) (by omega)
    rcases Nat.lt_or_ge (sameLen s a (a - x)) 4 with h4 | h4
    · exact h4
    · exact absurd ((match_iff s a (a - x) (by omega) ha).1 h4) h3
  rwa [show a - j + j = a by omega] at this
/-- The next place: what lies between has not four bytes alike. -/
theorem scan_some {s : ByteArray} {a j p : Nat} (ha : a + 4 ≤ s.size) (hj : j ≤ a) (h : lastOf s j (fourL s a) = some p) :
    scan s a (a - p) = if (scan s a (a - j)).1 < sameLen s a p then (sameLen s a p, a - p) else scan s a (a - j) := by
  obtain ⟨h1, h2, h3, h4⟩ := lastOf_some h
  have hsk := scan_skip s a (a - j) (j - 1 - p) fun x g1 g2 => by
    have h5 := h4 (a - x) (by omega) (by omega) (by omega)
    rcases Nat.lt_or_ge (sameLen s a (a - x)) 4 with h6 | h6
    · exact h6
    · exact absurd ((match_iff s a (a - x) (by omega) ha).1 h6) h5
  have hm := (match_iff s a p (by omega) ha).2 h3
  rw [show a - p = (a - j + (j - 1 - p)) + 1 by omega, scan, hsk, show a - (a - j + (j - 1 - p) + 1) = p by omega]
  by_cases hlt : (scan s a (a - j)).1 < sameLen s a p
  · rw [if_pos ⟨hm, hlt⟩, if_pos hlt]
  · rw [if_neg (fun hh => hlt hh.2), if_neg hlt]

end Go.Proofs.Ytnjcganknpnjcaa
namespace Go.Proofs.Ytnjcganknpnjcaa
open Go.RowKit Go.Maps Go.WideMaps

set_option maxRecDepth 100000 in
set_option maxHeartbeats 1000000 in
theorem best_end (s : ByteArray) (B F M k : Nat) (v : Value) (D : DataW Unit) (w : World) (h : Finder s B F M k v D w) (hs : s.size ≤ 60000) (hk : k < s.size) (h4 : s.size < k + 4) :
    Calls Try.prog 55 #[.pointer (some ⟨F, 0, none⟩), .int .i64 k] w fun e w' => e = .returned (.tuple #[.int .i64 0, .int .i64 0]) ∧ Below w.heap.size w w' := by
  have c0 := cell_of_row w F 0 _ _ _ h.blk
  simp at c0
  have e1 : IntKind.i64.wrap ((k : Int) + 4) = (k : Int) + 4 := IntWalk.i64_in _ (by omega)
  have e2 : decide ((s.size : Int) < (k : Int) + 4) = true := decide_eq_true (by omega)
  go_enter Try.func55, Try.ntmps55
  go_wp2
  have d0 := cell_alloc (cell_alloc c0 (.cells #[.pointer (some ⟨F, 0, none⟩)] 75)) (.cells #[.int .i64 k] 3)
  go_quiet (fail)
  go_wp2
  go_ret2
  exact ⟨rfl, below_drewN (((Below.refl _ w).alloc (Nat.le_refl _) _).alloc (by simp) _) _⟩

set_option maxRecDepth 100000 in
theorem look_at {M n : Nat} {D : DataW Unit} {W : World} (h : W.ownsMap Try.prog 9 (plainElem Try.prog 3) M n D) {key : Value} {kl : Lit} (hkey : keyOf Try.prog 9 key = some kl) {c : Int} {b : Bool}
    (hb : Maps.has D kl = b) (hc : D.atKey kl (.lit (.int .i64 0)) = .lit (.int .i64 c)) :
    ∀ m, (Instr.lookup 76 (.map (some M)) key true).run Try.prog (W.drewN m) = .ok (.tuple #[.int .i64 c, .bool b]) (W.drewN m) := by
  intro m
  obtain ⟨v, ps, hl, hr⟩ := (show (W.drewN m).ownsMap Try.prog 9 (plainElem Try.prog 3) M n D from h).look_ok law9 Try.underlying76 (zero3 _) (plainElem_int Try.underlying3 (by decide)) hkey
  obtain ⟨a, rfl, e, _⟩ := plainElem_int_inv Try.underlying3 hr
  rw [hc] at e
  injection e with e _
  injection e with e
  injection e with _ e
  rw [hl, hb, e]

set_option maxRecDepth 100000 in
set_option maxHeartbeats 1000000 in
theorem best_none (s : ByteArray) (B F M k : Nat) (v : Value) (D : DataW Unit) (w : World) (h : Finder s B F M k v D w) (hs : s.size ≤ 60000) (h4 : k + 4 ≤ s.size) (hno : lastOf s k (fourL s k) = none) :
    Calls Try.prog 55 #[.pointer (some ⟨F, 0, none⟩), .int .i64 k] w fun e w' => e = .returned (.tuple #[.int .i64 0, .int .i64 0]) ∧ Below w.heap.size w w' := by
  have c0 := cell_of_row w F 0 _ _ _ h.blk
  have c1 := cell_of_row w F 1 _ _ _ h.blk
  simp at c0 c1
  have e1 : IntKind.i64.wrap ((k : Int) + 4) = (k : Int) + 4 := IntWalk.i64_in _ (by omega)
  have e2 : decide ((s.size : Int) < (k : Int) + 4) = false := decide_eq_false (by omega)
  have hhas : Maps.has D (.string (fourL s k)) = false := by rw [(h.tells _).1, hno]; rfl
  have hkey := fourL_wf s k (by omega)
  go_enter Try.func55, Try.ntmps55
  go_wp2
  obtain ⟨W, hW⟩ : ∃ W, (w.alloc (.cells #[.pointer (some ⟨F, 0, none⟩)] 75)).alloc (.cells #[.int .i64 k] 3) = W := ⟨_, rfl⟩
  rw [hW]
  have d0 : W.cell? ⟨F, 0, none⟩ = some (.string s) := by rw [← hW]; exact cell_alloc (cell_alloc c0 _) _
  have d1 : W.cell? ⟨F, 1, none⟩ = some (.map (some M)) := by rw [← hW]; exact cell_alloc (cell_alloc c1 _) _
  have d2 : W.cell? ⟨w.heap.size, 0, none⟩ = some (.pointer (some ⟨F, 0, none⟩)) := by rw [← hW]; exact cell_alloc (by rw [cell_of_row _ _ 0 _ _ _ (heap_new w _)]; rfl) _
  have d3 : W.cell? ⟨w.heap.size + 1, 0, none⟩ = some (.int .i64 k) := by
    rw [← hW]
    have := heap_new (w.alloc (.cells #[.pointer (some ⟨F, 0, none⟩)] 75)) (.cells #[.int .i64 k] 3)
    rw [World.size_alloc] at this
    rw [cell_of_row _ _ 0 _ _ _ this]; rfl
  have hb : Below w.heap.size w W := by rw [← hW]; exact ((Below.refl _ w).alloc (Nat.le_refl _) _).alloc (by simp) _
  have hm : W.ownsMap Try.prog 9 (plainElem Try.prog 3) M k D := by rw [← hW]; exact (h.map.alloc _).alloc _
  clear hW c0 c1
  go_quiet (fail)
  have hl := look_at hm hkey hhas (Maps.atKey_of_not_has hhas _)
  go_wp2
  go_quiet (fail)
  go_wp2
  refine wp_loop_once ?_
  go_wp2
  go_ret2
  exact ⟨rfl, below_drewN hb _⟩

set_option maxRecDepth 100000 in
set_option maxHeartbeats 2000000 in
theorem best_some (s : ByteArray) (B F M k p0 : Nat) (v : Value) (D : DataW Unit) (w : World) (h : Finder s B F M k v D w) (hs : s.size ≤ 60000) (h4 : k + 4 ≤ s.size) (hp : lastOf s k (fourL s k) = some p0) :
    Calls Try.prog 55 #[.pointer (some ⟨F, 0, none⟩), .int .i64 k] w fun e w' => e = .returned (.tuple #[.int .i64 (scan s k k).1, .int .i64 (scan s k k).2]) ∧ Below w.heap.size w w' := by
  obtain ⟨g, cap, rfl⟩ : ∃ g cap, v = .slice (some ⟨g, 0, none⟩) k cap := by
    have hk0 : 0 < k := by have := (lastOf_some hp).1; omega
    obtain ⟨j, rfl⟩ : ∃ j, k = j + 1 := ⟨k - 1, by omega⟩
    exact ownsRow_succ h.row
  have c0 := cell_of_row w F 0 _ _ _ h.blk
  have c1 := cell_of_row w F 1 _ _ _ h.blk
  have c2 := cell_of_row w F 2 _ _ _ h.blk
  simp at c0 c1 c2
  have e1 : IntKind.i64.wrap ((k : Int) + 4) = (k : Int) + 4 := IntWalk.i64_in _ (by omega)
  have e2 : decide ((s.size : Int) < (k : Int) + 4) = false := decide_eq_false (by omega)
  have hhas : Maps.has D (.string (fourL s k)) = true := by rw [(h.tells _).1, hp]; rfl
  have hkey := fourL_wf s k (by omega)
  go_enter Try.func55, Try.ntmps55
  go_wp2
  obtain ⟨W, hW⟩ : ∃ W, (w.alloc (.cells #[.pointer (some ⟨F, 0, none⟩)] 75)).alloc (.cells #[.int .i64 k] 3) = W := ⟨_, rfl⟩
  rw [hW]
  have d0 : W.cell? ⟨F, 0, none⟩ = some (.string s) := by rw [← hW]; exact cell_alloc (cell_alloc c0 _) _
  have d1 : W.cell? ⟨F, 1, none⟩ = some (.map (some M)) := by rw [← hW]; exact cell_alloc (cell_alloc c1 _) _
  have d2 : W.cell? ⟨w.heap.size, 0, none⟩ = some (.pointer (some ⟨F, 0, none⟩)) := by rw [← hW]; exact cell_alloc (by rw [cell_of_row _ _ 0 _ _ _ (heap_new w _)]; rfl) _
  have d3 : W.cell? ⟨w.heap.size + 1, 0, none⟩ = some (.int .i64 k) := by
    rw [← hW]
    have := heap_new (w.alloc (.cells #[.pointer (some ⟨F, 0, none⟩)] 75)) (.cells #[.int .i64 k] 3)
    rw [World.size_alloc] at this
    rw [cell_of_row _ _ 0 _ _ _ this]; rfl
  have d5 : W.cell? ⟨F, 2, none⟩ = some (.slice (some ⟨g, 0, none⟩) k cap) := by rw [← hW]; exact cell_alloc (cell_alloc c2 _) _
  have hb : Below w.heap.size w W := by rw [← hW]; exact ((Below.refl _ w).alloc (Nat.le_refl _) _).alloc (by simp) _
  have hm : W.ownsMap Try.prog 9 (plainElem Try.prog 3) M k D := by rw [← hW]; exact (h.map.alloc _).alloc _
  have hrow : W.ownsRow B 3 1 (.slice (some ⟨g, 0, none⟩) k cap) k ((prevs s k).map (Value.int .i64)) := by rw [← hW]; exact (h.row.alloc _).alloc _
  clear hW c0 c1 c2
  go_quiet (fail)
  have hl := look_at hm hkey hhas ((h.tells _).2 p0 hp)
  go_wp2
  go_quiet (fail)
  clear hl hm
  have Hp := Lib.hid hp
  clear hp hhas hkey
  go_wp2
  go_loopw [4, 5, 7] (fun n d c wr => ∃ j, j ≤ k ∧ c = .int .i64 (nextOf s j (fourL s k)) ∧ n = .int .i64 (scan s k (k - j)).1 ∧ d = .int .i64 (scan s k (k - j)).2 ∧ Drew W wr) (fun _ _ c _ => (intOf c + 1).toNat)
  case atStart =>
    refine ⟨k, by omega, ?_, ?_, ?_, ?_⟩
    · unfold nextOf; rw [Hp.out]
    · rw [Nat.sub_self, scan]; rfl
    · rw [Nat.sub_self, scan]; rfl
    · exact Drew.draws2 _ _ _
  case round =>
    obtain ⟨j, hj, rfl, rfl, rfl, hD⟩ := hrel
    obtain ⟨nn, rfl⟩ := hD
    cases hc : lastOf s j (fourL s k) with
    | none =>
      have hn : nextOf s j (fourL s k) = -1 := by unfold nextOf; rw [hc]
      rw [hn]
      have Hr := Lib.hid (scan_none h4 hj hc)
      clear hn hc
      go_wp2
      go_ret2
      exact ⟨ret_two (by rw [Hr.out]) (by rw [Hr.out]), below_drewN hb _⟩
    | some p =>
      have hn : nextOf s j (fourL s k) = (p : Int) := by unfold nextOf; rw [hc]
      rw [hn]
      obtain ⟨q1, q2, q3, q4⟩ := lastOf_some hc
      clear q4
      have Hs := Lib.hid (scan_some h4 hj hc)
      have Hq := Lib.hid q3
      have Hf := Lib.hid (fun hh => scan_full s k (k - j) hh j)
      clear hn hc q3
      obtain ⟨N, hN⟩ : ∃ N, (scan s k (k - j)).1 = N := ⟨_, rfl⟩
      obtain ⟨E, hE⟩ : ∃ E, (scan s k (k - j)).2 = E := ⟨_, rfl⟩
      rw [hN, hE]
      have HN := Lib.hid hN
      have HE := Lib.hid hE
      clear hN hE
      by_cases h131 : N < 131
      · have t1 : decide ((N : Int) < 131) = true := decide_eq_true (by omega)
        have hcell : ∀ i, i < k → (W.cell? ⟨g, i, none⟩) = some (.int .i64 (prevOf s i)) := by
          intro i hi
          rw [hrow.cellAt i (by omega)]
          simp [prevs, hi]
        have hcp := hcell p (by omega)
        have hpv : prevOf s p = nextOf s p (fourL s k) := by rw [prevOf_eq s p q2, Hq.out]
        rw [hpv] at hcp
        clear hcell hpv
        by_cases hlt : N < sameLen s k p
        · have t2 : decide ((N : Int) < (sameLen s k p : Int)) = true := decide_eq_true (by omega)
          go_wp2_with (go_at_call 89; refine (alike_any s p k (w.heap.size + 1) w.heap.size F (W.drewN nn) (by omega) (by omega) (by omega) d3 d2 d0).mono ?_; rintro e w' ⟨rfl, n2, rfl⟩)
          have e3 : IntKind.i64.wrap ((k : Int) - p) = (k : Int) - p := IntWalk.i64_in _ (by omega)
          go_quiet (fail)
          go_wp2
          go_roundw
          case rel =>
            have h1 := Hs.out
            rw [HN.out, if_pos hlt] at h1
            refine ⟨p, by omega, rfl, ?_, ?_, Drew.draws _ _⟩
            · rw [h1]
            · rw [h1]
              exact congrArg (Value.int .i64) (by omega)
          case measure =>
            have : nextOf s p (fourL s k) < p := by
              unfold nextOf
              cases hq : lastOf s p (fourL s k) with
              | none => show (-1 : Int) < p; omega
              | some q => show (q : Int) < p; have := (lastOf_some hq).1; omega
            simp [intOf]
            omega
        · have t2 : decide ((N : Int) < (sameLen s k p : Int)) = false := decide_eq_false (by omega)
          go_wp2_with (go_at_call 89; refine (alike_any s p k (w.heap.size + 1) w.heap.size F (W.drewN nn) (by omega) (by omega) (by omega) d3 d2 d0).mono ?_; rintro e w' ⟨rfl, n2, rfl⟩)
          go_roundw
          case rel =>
            have h1 := Hs.out
            rw [HN.out, if_neg hlt] at h1
            refine ⟨p, by omega, rfl, ?_, ?_, Drew.draws _ _⟩
            · rw [h1, HN.out]
            · rw [h1, HE.out]
          case measure =>
            have : nextOf s p (fourL s k) < p := by
              unfold nextOf
              cases hq : lastOf s p (fourL s k) with
              | none => show (-1 : Int) < p; omega
              | some q => show (q : Int) < p; have := (lastOf_some hq).1; omega
            simp [intOf]
            omega
      · have t1 : decide ((N : Int) < 131) = false := decide_eq_false (by omega)
        go_wp2
        go_ret2
        have h1 := Hf.out (by rw [HN.out]; omega)
        rw [show k - j + j = k by omega] at h1
        exact ⟨ret_two (by rw [h1, HN.out]) (by rw [h1, HE.out]), below_drewN hb _⟩

/-- **finder.best**, wherever the place is. -/
theorem best_any (s : ByteArray) (B F M k : Nat) (v : Value) (D : DataW Unit) (w : World) (h : Finder s B F M k v D w) (hs : s.size ≤ 60000) (hk : k < s.size) :
    Calls Try.prog 55 #[.pointer (some ⟨F, 0, none⟩), .int .i64 k] w fun e w' => e = .returned (.tuple #[.int .i64 (if k + 4 ≤ s.size then (scan s k k).1 else 0 : Nat), .int .i64 (if k + 4 ≤ s.size then (scan s k k).2 else 0 : Nat)]) ∧ Below w.heap.size w w' := by
  by_cases h4 : k + 4 ≤ s.size
  · simp only [if_pos h4]
    cases hp : lastOf s k (fourL s k) with
    | none =>
      have h1 := scan_none h4 (Nat.le_refl k) hp
      rw [Nat.sub_self] at h1
      rw [h1]
      exact best_none s B F M k v D w h hs h4 hp
    | some p => exact best_some s B F M k p v D w h hs h4 hp
  · simp only [if_neg h4]
    exact best_end s B F M k v D w h hs hk (by omega)

end Go.Proofs.Ytnjcganknpnjcaa
namespace Go.Proofs.Ytnjcganknpnjcaa
open Go.RowKit

/-- A builder of the call's own that holds these bytes. -/
def Bld (B b : Nat) (l : List UInt8) (w : World) : Prop := Lib.IsBuilderF 74 5 B b (Lib.byteCells l) w

theorem wb_any (B b : Nat) (l : List UInt8) (c : UInt8) (w : World) (h : Bld B b l w) (hlen : l.length + 1 ≤ 140737488355328) (hB : B ≤ w.heap.size) :
    Calls Try.prog 58 #[.pointer (some ⟨b, 0, none⟩), .int .u8 (c.toNat : Int)] w fun e w' => e = .returned .nilIface ∧ (Bld B b (l ++ [c]) w' ∧ Below B w w' ∧ Lib.OthersKept 5 (some b) w w') :=
  (Try.Builder_WriteByte_k B b _ c.toNat w h (by rw [Lib.byteCells_length]; exact hlen) hB).mono fun e w' ⟨h1, h2, h3⟩ => ⟨h1, .inr (by rw [Lib.byteCells_append]; exact h2), h3⟩
theorem ws_any (B b : Nat) (l : List UInt8) (s : ByteArray) (w : World) (h : Bld B b l w) (hlen : l.length + s.size ≤ 140737488355328) (hB : B ≤ w.heap.size) :
    Calls Try.prog 83 #[.pointer (some ⟨b, 0, none⟩), .string s] w fun e w' => e = .returned (.tuple #[.int .i64 s.size, .nilIface]) ∧ (Bld B b (l ++ s.data.toList) w' ∧ Below B w w' ∧ Lib.OthersKept 5 (some b) w w') :=
  (Try.Builder_WriteString_k B b _ s w h (by rw [Lib.byteCells_length]; exact hlen) hB).mono fun e w' ⟨h1, h2, h3⟩ => ⟨h1, .inr (by rw [Lib.byteCells_append]; exact h2), h3⟩

def runGo : Nat → List UInt8 → List UInt8
  | 0, _ => []
  | f + 1, l => if l = [] then [] else UInt8.ofNat (min l.length 128 - 1) :: (l.take 128 ++ runGo f (l.drop 128))
def runB (l : List UInt8) : List UInt8 := runGo l.length l
theorem runGo_more : ∀ (f g : Nat) (l : List UInt8), l.length ≤ f → l.length ≤ g → runGo f l = runGo g l
  | 0, 0, _, _, _ => rfl
  | 0, g + 1, l, h, _ => by
    have : l = [] := List.eq_nil_of_length_eq_zero (by omega)
    rw [runGo, runGo, if_pos this]
  | f + 1, 0, l, _, h => by
    have : l = [] := List.eq_nil_of_length_eq_zero (by omega)
    rw [runGo, runGo, if_pos this]
  | f + 1, g + 1, l, h1, h2 => by
    rw [runGo, runGo]
    by_cases hl : l = []
    · rw [if_pos hl, if_pos hl]
    · rw [if_neg hl, if_neg hl]
      have : 0 < l.length := List.length_pos_iff.2 hl
      rw [runGo_more f g (l.drop 128) (by simp; omega) (by simp; omega)]
theorem runB_nil : runB [] = [] := rfl
theorem runB_step (l : List UInt8) (h : l ≠ []) : runB l = UInt8.ofNat (min l.length 128 - 1) :: (l.take 128 ++ runB (l.drop 128)) := by
  have hp : 0 < l.length := List.length_pos_iff.2 h
  obtain ⟨f, hf⟩ : ∃ f, l.length = f + 1 := ⟨l.length - 1, by omega⟩
  rw [runB, hf, runGo, if_neg h, hf]
  rw [runB, runGo_more f _ (l.drop 128) (by simp; omega) (Nat.le_refl _)]

def szOf (v : Value) : Nat := match v with | .string x => x.size | _ => 0

def RunsPost (B b : Nat) (l : List UInt8) (w : World) (e : Ending) (w' : World) : Prop :=
  e = .returned (.tuple #[]) ∧ Bld B b l w' ∧ Below B w w' ∧ Lib.OthersKept 5 (some b) w w'

set_option maxRecDepth 100000 in
set_option maxHeartbeats 1000000 in
theorem runs_any (B b : Nat) (l : List UInt8) (s : ByteArray) (w : World) (h : Bld B b l w) (hlen : l.length + 2 * s.size ≤ 140737488355328) (hB : B ≤ w.heap.size) :
    Calls Try.prog 57 #[.pointer (some ⟨b, 0, none⟩), .string s] w (RunsPost B b (l ++ runB s.data.toList) w) := by
  go_enter Try.func57, Try.ntmps57
  go_wp2
  go_loopw [1] (fun v wr => ∃ x : ByteArray, v = .string x ∧ ∃ pre : List UInt8, Bld B b pre wr ∧ pre.length + 2 * x.size ≤ 140737488355328 ∧ Hid (pre ++ runB x.data.toList = l ++ runB s.data.toList) ∧ Below B w wr ∧ Lib.OthersKept 5 (some b) w wr) (fun v _ => szOf v)
  case atStart => exact ⟨s, rfl, l, h, hlen, Lib.hid rfl, Below.refl _ _, Lib.OthersKept.refl _ _ _⟩
  case round =>
    obtain ⟨x, rfl, pre, hb, hl, H, hbel, hoth⟩ := hrel
    have hsz : x.data.toList.length = x.size := by simp
    by_cases hx : x.data.toList = []
    · have hx1 : (!x.toList.isEmpty) = false := by
        have : x.toList = x.data.toList := ByteArray.toList_eq ..
        rw [this, hx]; rfl
      rw [hx, runB_nil, List.append_nil] at H
      clear hx hsz
      go_wp2_with fail
      go_end0
      exact ⟨rfl, by rw [← H.out]; exact hb, hbel, hoth⟩
    · have hx1 : (!x.toList.isEmpty) = true := by
        have : x.toList = x.data.toList := ByteArray.toList_eq ..
        rw [this]
        cases hq : x.data.toList with
        | nil => exact absurd hq hx
        | cons a t => rfl
      obtain ⟨n, hn⟩ : ∃ n, min x.size 128 = n := ⟨_, rfl⟩
      have hp : 0 < x.size := by rw [← hsz]; exact List.length_pos_iff.2 hx
      have hn1 : 1 ≤ n := by omega
      have hn2 : n ≤ 128 := by omega
      have hn3 : n ≤ x.size := by omega
      have hmin : min (x.size : Int) 128 = (n : Int) := by omega
      obtain ⟨c, hc⟩ : ∃ c : UInt8, UInt8.ofNat (n - 1) = c := ⟨_, rfl⟩
      have hcv : (n : Int) - 1 = (c.toNat : Int) := by
        rw [← hc]
        simp
        omega
      have Hr : Hid (runB x.data.toList = c :: ((x.extract 0 n).data.toList ++ runB (x.extract n x.size).data.toList)) := by
        refine Lib.hid ?_
        have hd : ∀ (t : List UInt8), t.length = x.size → (t.take 128 = t.take n ∧ t.drop 128 = t.drop n) := by
          intro t ht
          by_cases h128 : x.size ≤ 128
          · have : n = x.size := by omega
            rw [List.take_of_length_le (by omega), List.take_of_length_le (by omega), List.drop_eq_nil_of_le (by omega), List.drop_eq_nil_of_le (by omega)]
            exact ⟨rfl, rfl⟩
          · have : n = 128 := by omega
            rw [this]
            exact ⟨rfl, rfl⟩
        rw [runB_step _ hx, hsz, hn, hc, (hd _ hsz).1, (hd _ hsz).2, Lib.extract_data, Lib.extract_data]
        simp [List.take_of_length_le]
      clear hn hc hx hsz
      go_wp2_with fail
      refine (wb_any B b pre c wr hb (by omega) (by have := hbel.size; omega)).mono ?_
      rintro e w1 ⟨rfl, hb1, hbel1, hoth1⟩
      go_wp2_with fail
      refine (ws_any B b (pre ++ [c]) (x.extract 0 n) w1 hb1 (by simp [ByteArray.size_extract]; omega) (by have := hbel.size; have := hbel1.size; omega)).mono ?_
      rintro e w2 ⟨rfl, hb2, hbel2, hoth2⟩
      go_wp2_with fail
      go_roundw
      case rel =>
        refine ⟨_, rfl, _, hb2, ?_, ?_, (hbel.trans hbel1).trans hbel2, (hoth.trans hoth1).trans hoth2⟩
        · simp [ByteArray.size_extract]
          omega
        · refine Lib.hid ?_
          rw [← H.out, Hr.out]
          simp
      case measure =>
        simp [szOf, ByteArray.size_extract]
        omega

end Go.Proofs.Ytnjcganknpnjcaa
namespace Go.Proofs.Ytnjcganknpnjcaa
open Go.RowKit Go.Maps Go.WideMaps

def bestN (s : ByteArray) (k : Nat) : Nat × Nat := if k + 4 ≤ s.size then scan s k k else (0, 0)
theorem best_call (s : ByteArray) (B F M k : Nat) (v : Value) (D : DataW Unit) (w : World) (h : Finder s B F M k v D w) (hs : s.size ≤ 60000) (hk : k < s.size) :
    Calls Try.prog 55 #[.pointer (some ⟨F, 0, none⟩), .int .i64 k] w fun e w' => e = .returned (.tuple #[.int .i64 (bestN s k).1, .int .i64 (bestN s k).2]) ∧ Below w.heap.size w w' := by
  have := best_any s B F M k v D w h hs hk
  unfold bestN
  by_cases h4 : k + 4 ≤ s.size
  · simp only [if_pos h4] at this ⊢
    exact this
  · simp only [if_neg h4] at this ⊢
    exact this

/-- The bytes of s from a on, up to b. -/
def seg (s : ByteArray) (a b : Nat) : List UInt8 := (s.data.toList.drop a).take (b - a)
def packGo (s : ByteArray) : Nat → Nat → Nat → List UInt8
  | 0, fr, at_ => runB (seg s fr s.size)
  | f + 1, fr, at_ =>
    if at_ < s.size then
      if (bestN s at_).1 < 4 then packGo s f fr (at_ + 1)
      else runB (seg s fr at_) ++ [UInt8.ofNat ((bestN s at_).1 + 124), UInt8.ofNat (bestN s at_).2, UInt8.ofNat ((bestN s at_).2 / 256)] ++ packGo s f (at_ + (bestN s at_).1) (at_ + (bestN s at_).1)
    else runB (seg s fr s.size)
def packFrom (s : ByteArray) (fr at_ : Nat) : List UInt8 := packGo s (s.size - at_) fr at_
def pack (s : ByteArray) : List UInt8 := packFrom s 0 0

theorem packGo_more (s : ByteArray) : ∀ (f g fr at_ : Nat), s.size - at_ ≤ f → s.size - at_ ≤ g → packGo s f fr at_ = packGo s g fr at_
  | 0, 0, _, _, _, _ => rfl
  | 0, g + 1, fr, at_, h, _ => by rw [packGo, packGo, if_neg (by omega)]
  | f + 1, 0, fr, at_, _, h => by rw [packGo, packGo, if_neg (by omega)]
  | f + 1, g + 1, fr, at_, h1, h2 => by
    rw [packGo, packGo]
    by_cases hlt : at_ < s.size
    · rw [if_pos hlt, if_pos hlt]
      by_cases h4 : (bestN s at_).1 < 4
      · rw [if_pos h4, if_pos h4]
        exact packGo_more s f g fr (at_ + 1) (by omega) (by omega)
      · rw [if_neg h4, if_neg h4]
        rw [packGo_more s f g (at_ + (bestN s at_).1) (at_ + (bestN s at_).1) (by omega) (by omega)]
    · rw [if_neg hlt, if_neg hlt]
theorem packFrom_end (s : ByteArray) (fr at_ : Nat) (h : s.size ≤ at_) : packFrom s fr at_ = runB (seg s fr s.size) := by
  rw [packFrom, show s.size - at_ = 0 by omega, packGo]
theorem packFrom_one (s : ByteArray) (fr at_ : Nat) (h : at_ < s.size) (h4 : (bestN s at_).1 < 4) : packFrom s fr at_ = packFrom s fr (at_ + 1) := by
  obtain ⟨f, hf⟩ : ∃ f, s.size - at_ = f + 1 := ⟨s.size - at_ - 1, by omega⟩
  rw [packFrom, hf, packGo, if_pos h, if_pos h4, packFrom]
  exact packGo_more s f _ _ _ (by omega) (Nat.le_refl _)
theorem packFrom_copy (s : ByteArray) (fr at_ : Nat) (h : at_ < s.size) (h4 : ¬ (bestN s at_).1 < 4) :
    packFrom s fr at_ = runB (seg s fr at_) ++ [UInt8.ofNat ((bestN s at_).1 + 124), UInt8.ofNat (bestN s at_).2, UInt8.ofNat ((bestN s at_).2 / 256)] ++ packFrom s (at_ + (bestN s at_).1) (at_ + (bestN s at_).1) := by
  obtain ⟨f, hf⟩ : ∃ f, s.size - at_ = f + 1 := ⟨s.size - at_ - 1, by omega⟩
  rw [packFrom, hf, packGo, if_pos h, if_neg h4, packFrom]
  rw [packGo_more s f _ _ _ (by omega) (Nat.le_refl _)]

theorem scan_facts (s : ByteArray) (a : Nat) : ∀ d, (scan s a d).1 = 0 ∧ (scan s a d).2 = 0 ∨ (4 ≤ (scan s a d).1 ∧ 1 ≤ (scan s a d).2 ∧ (scan s a d).2 ≤ d ∧ (scan s a d).1 = sameLen s a (a - (scan s a d).2))
  | 0 => .inl ⟨rfl, rfl⟩
  | d + 1 => by
    rw [scan]
    split
    · rename_i hc
      exact .inr ⟨hc.1, by simp, by simp, rfl⟩
    · rcases scan_facts s a d with h | ⟨h1, h2, h3, h4⟩
      · exact .inl h
      · exact .inr ⟨h1, h2, by omega, h4⟩
theorem bestN_facts (s : ByteArray) (a : Nat) : (bestN s a).1 = 0 ∧ (bestN s a).2 = 0 ∨ (4 ≤ (bestN s a).1 ∧ (bestN s a).1 ≤ 131 ∧ 1 ≤ (bestN s a).2 ∧ (bestN s a).2 ≤ a ∧ a + (bestN s a).1 ≤ s.size ∧ ∀ i, i < (bestN s a).1 → byt s (a - (bestN s a).2 + i) = byt s (a + i)) := by
  unfold bestN
  by_cases h4 : a + 4 ≤ s.size
  · rw [if_pos h4]
    rcases scan_facts s a a with h | ⟨h1, h2, h3, h5⟩
    · exact .inl h
    · refine .inr ⟨h1, by rw [h5]; exact sameLen_le _ _ _, h2, h3, ?_, ?_⟩
      · have := (sameLen_alike s a (a - (scan s a a).2) ((scan s a a).1 - 1) (by omega)).2
        omega
      · intro i hi
        exact (sameLen_alike s a (a - (scan s a a).2) i (by omega)).1
  · rw [if_neg h4]
    exact .inl ⟨rfl, rfl⟩

theorem runB_length : ∀ (n : Nat) (l : List UInt8), l.length = n → (runB l).length = n + (n + 127) / 128 := by
  intro n
  induction n using Nat.strongRecOn with
  | _ n ih =>
    intro l hl
    by_cases h : l = []
    · subst h
      simp at hl
      subst hl
      rfl
    · have hp : 0 < l.length := List.length_pos_iff.2 h
      rw [runB_step l h, List.length_cons, List.length_append, List.length_take, ih (n - 128) (by omega) (l.drop 128) (by simp; omega)]
      omega
theorem seg_length (s : ByteArray) (a b : Nat) (h : b ≤ s.size) : (seg s a b).length = b - a := by
  have : s.data.toList.length = s.size := by simp
  simp only [seg, List.length_take, List.length_drop, this]
  omega
theorem runB_seg_le (s : ByteArray) (a b : Nat) (h : b ≤ s.size) : (runB (seg s a b)).length ≤ 2 * (b - a) := by
  rw [runB_length _ _ (seg_length s a b h)]
  omega

theorem Finder.keep {s : ByteArray} {B F M k : Nat} {v : Value} {D : DataW Unit} {w w' : World} (h : Finder s B F M k v D w) (hb : Below w.heap.size w w') : Finder s B F M k v D w' := by
  have hg : w.grownBy w' none := ⟨hb.os, hb.tape, hb.output, hb.size, fun i hi _ => hb.block i hi⟩
  exact ⟨⟨h.bF, h.bM, (hb.block F (lt_of_block h.blk)).trans h.blk, h.map.kept hg (by simp), h.row.kept hg (by cases v.ownBlock <;> simp)⟩, h.tells⟩
theorem Bld.kept {B b : Nat} {l : List UInt8} {w w' : World} (h : Bld B b l w) (hk : KeptB w w') : Bld B b l w' := by
  have one : ∀ p, Lib.BuilderAtF 74 5 B b p (Lib.byteCells l) w → Lib.BuilderAtF 74 5 B b p (Lib.byteCells l) w' := by
    rintro p ⟨hB, v, hb, hown, hne⟩
    refine ⟨hB, v, hk _ _ _ _ (.inl rfl) hb, ⟨hown.1, ?_⟩, hne⟩
    rcases hown.2 with h0 | ⟨g, cap, cur, fz, h1, h2, h3, h4⟩
    · exact .inl h0
    · exact .inr ⟨g, cap, cur, fz, h1, h2, hk _ _ _ _ (.inr rfl) h3, h4⟩
  exact h.imp (one _) (one _)
theorem Bld.below {B b : Nat} {l : List UInt8} {w w' : World} (h : Bld B b l w) (hb : Below w.heap.size w w') : Bld B b l w' :=
  h.kept fun i c t fz _ hi => (hb.block i (lt_of_block hi)).trans hi
theorem Finder.others {s : ByteArray} {B F M k b : Nat} {v : Value} {D : DataW Unit} {l : List UInt8} {w w' : World} (h : Finder s B F M k v D w) (hbl : Bld B b l w) (ho : Lib.OthersKept 5 (some b) w w') : Finder s B F M k v D w' := by
  obtain ⟨vb, hb⟩ : ∃ c, w.heap[b]? = some (.cells c 74 (0, 0)) := by
    rcases hbl with ⟨_, v, hb, _⟩ | ⟨_, v, hb, _⟩ <;> exact ⟨_, hb⟩
  have keep : ∀ (i : Nat) (c : Array Value) (t : TypeId) (fz : Nat × Nat), t ≠ 74 → t ≠ 5 → w.heap[i]? = some (.cells c t fz) → w'.heap[i]? = some (.cells c t fz) := by
    intro i c t fz h1 h2 hi
    refine ho i _ hi ?_ ?_
    · intro e
      injection e with e
      subst e
      rw [hb] at hi
      injection hi with hi
      injection hi with _ hi
      exact h1 hi.symm
    · intro c' fz' e
      injection e with _ e
      exact h2 e
  obtain ⟨es, cl, hes, hrest⟩ := h.map
  refine ⟨⟨h.bF, h.bM, keep _ _ _ _ (by decide) (by decide) h.blk, ⟨es, cl, ?_, hrest⟩, ⟨h.row.1, ?_⟩⟩, h.tells⟩
  · refine ho M _ hes ?_ (by intro c fz e; cases e)
    intro e
    injection e with e
    subst e
    rw [hb] at hes
    injection hes with hes
    cases hes
  · rcases h.row.2 with h0 | ⟨g, cap, cur, h1, h2, h3, h4⟩
    · exact .inl h0
    · exact .inr ⟨g, cap, cur, h1, h2, keep _ _ _ _ (by decide) (by decide) h3, h4⟩

end Go.Proofs.Ytnjcganknpnjcaa
namespace Go.Proofs.Ytnjcganknpnjcaa

/-- n bytes more, each the one that stands d ahead. -/
def copyN (d : Nat) : Nat → List UInt8 → List UInt8
  | 0, out => out
  | n + 1, out => copyN d n out ++ [(copyN d n out).getD ((copyN d n out).length - d) 0]
theorem copyN_length (d : Nat) : ∀ (n : Nat) (out : List UInt8), (copyN d n out).length = out.length + n
  | 0, _ => rfl
  | n + 1, out => by rw [copyN, List.length_append, copyN_length d n out]; rfl

def unpGo : Nat → List UInt8 → List UInt8 → Int → List UInt8 × Int
  | 0, _, out, most => if most < 0 then ([], 6) else (out, 0)
  | f + 1, b, out, most =>
    match b with
    | [] => if most < 0 then ([], 6) else (out, 0)
    | c :: r =>
      if c.toNat < 128 then
        if r.length < c.toNat + 1 then ([], 4)
        else if most < ((out.length + (c.toNat + 1) : Nat) : Int) then ([], 6)
        else unpGo f (r.drop (c.toNat + 1)) (out ++ r.take (c.toNat + 1)) most
      else if r.length < 2 then ([], 4)
      else if (r.getD 0 0).toNat + 256 * (r.getD 1 0).toNat = 0 ∨ out.length < (r.getD 0 0).toNat + 256 * (r.getD 1 0).toNat then ([], 3)
      else if most < ((out.length + (c.toNat - 124) : Nat) : Int) then ([], 6)
      else unpGo f (r.drop 2) (copyN ((r.getD 0 0).toNat + 256 * (r.getD 1 0).toNat) (c.toNat - 124) out) most

theorem unpGo_more : ∀ (f g : Nat) (b out : List UInt8) (most : Int), b.length ≤ f → b.length ≤ g → unpGo f b out most = unpGo g b out most
  | 0, 0, _, _, _, _, _ => rfl
  | 0, g + 1, b, out, most, h, _ => by
    have : b = [] := List.eq_nil_of_length_eq_zero (by omega)
    subst this
    rfl
  | f + 1, 0, b, out, most, _, h => by
    have : b = [] := List.eq_nil_of_length_eq_zero (by omega)
    subst this
    rfl
  | f + 1, g + 1, b, out, most, h1, h2 => by
    cases b with
    | nil => rfl
    | cons c r =>
      simp only [List.length_cons] at h1 h2
      simp only [unpGo]
      split
      · split
        · rfl
        · split
          · rfl
          · exact unpGo_more f g _ _ _ (by simp; omega) (by simp; omega)
      · split
        · rfl
        · split
          · rfl
          · split
            · rfl
            · exact unpGo_more f g _ _ _ (by simp; omega) (by simp; omega)

/-- What is left is read, so much being out. -/
def unpFrom (b out : List UInt8) (most : Int) : List UInt8 × Int := unpGo b.length b out most
def unp (b : List UInt8) (most : Int) : List UInt8 × Int := unpFrom b [] most

theorem unpFrom_nil (out : List UInt8) (most : Int) : unpFrom [] out most = if most < 0 then ([], 6) else (out, 0) := rfl
theorem unpFrom_cons (c : UInt8) (r out : List UInt8) (most : Int) : unpFrom (c :: r) out most =
    if c.toNat < 128 then
      if r.length < c.toNat + 1 then ([], 4)
      else if most < ((out.length + (c.toNat + 1) : Nat) : Int) then ([], 6)
      else unpFrom (r.drop (c.toNat + 1)) (out ++ r.take (c.toNat + 1)) most
    else if r.length < 2 then ([], 4)
    else if (r.getD 0 0).toNat + 256 * (r.getD 1 0).toNat = 0 ∨ out.length < (r.getD 0 0).toNat + 256 * (r.getD 1 0).toNat then ([], 3)
    else if most < ((out.length + (c.toNat - 124) : Nat) : Int) then ([], 6)
    else unpFrom (r.drop 2) (copyN ((r.getD 0 0).toNat + 256 * (r.getD 1 0).toNat) (c.toNat - 124) out) most := by
  simp only [unpFrom, List.length_cons, unpGo]
  rw [unpGo_more r.length (r.drop (c.toNat + 1)).length _ _ _ (by simp) (Nat.le_refl _), unpGo_more r.length (r.drop 2).length _ _ _ (by simp) (Nat.le_refl _)]

end Go.Proofs.Ytnjcganknpnjcaa
