/- lz: what finder.put does to the finder: the place is listed, and where the same four bytes stood before it. -/
import Derived.Test.YtnjcganknpnjcaaLzA
import Derived.Maps.OwnSet
import Derived.Maps.AppendAt
import Derived.RangeFuncBox
namespace Go.Proofs.Ytnjcganknpnjcaa
open Go.RowKit Go.Maps Go.WideMaps

/-- What the map says. -/
def Tells (s : ByteArray) (k : Nat) (D : DataW Unit) : Prop :=
  ∀ x : List UInt8, (Maps.has D (.string x) = (lastOf s k x).isSome) ∧ ∀ p, lastOf s k x = some p → D.atKey (.string x) (.lit (.int .i64 0)) = .lit (.int .i64 (p : Int))

theorem law9 : Keyed Try.prog 9 := string_keyed Try.underlying9
theorem zero3 (w : World) : (zeroValue 3).run Try.prog w = .ok (.int .i64 0) w := by kernel_rfl
theorem info3 : (Try.prog.info? 3).map (fun i => (i.zero, i.size, i.bytes)) = some (some (.int .i64 0), 1, 8) := by kernel_rfl

/-- The finder in memory, k places being passed; n of them are listed. -/
structure FinderX (s : ByteArray) (B F M k : Nat) (v : Value) (n : Nat) (xs : List Int) (D : DataW Unit) (w : World) : Prop where
  bF : B ≤ F
  bM : B ≤ M
  blk : w.heap[F]? = some (.cells #[.string s, .map (some M), v] 79 (0, 0))
  map : w.ownsMap Try.prog 9 (plainElem Try.prog 3) M k D
  row : w.ownsRow B 3 1 v n (xs.map (Value.int .i64))

structure Finder (s : ByteArray) (B F M k : Nat) (v : Value) (D : DataW Unit) (w : World) : Prop extends FinderX s B F M k v k (prevs s k) D w where
  tells : Tells s k D

/-- Builders and bytes are as they were. -/
def KeptB (w w' : World) : Prop := ∀ (i : Nat) (c : Array Value) (t : TypeId) (fz : Nat × Nat), (t = 74 ∨ t = 5) → w.heap[i]? = some (.cells c t fz) → w'.heap[i]? = some (.cells c t fz)
theorem KeptB.refl (w : World) : KeptB w w := fun _ _ _ _ _ h => h
theorem KeptB.trans {a b c : World} (h : KeptB a b) (k : KeptB b c) : KeptB a c := fun i c t fz ht h0 => k i c t fz ht (h i c t fz ht h0)
theorem KeptB.drewN {a b : World} (h : KeptB a b) (n : Nat) : KeptB a (b.drewN n) := h
theorem lt_of_block {w : World} {i : Nat} {o : Obj} (h : w.heap[i]? = some o) : i < w.heap.size := (Array.getElem?_eq_some_iff.1 h).1
theorem KeptB.of_grown {w w' : World} {row : Option Nat} (h : w.grownBy w' row) (hr : ∀ g, row = some g → (∃ c t fz, w.heap[g]? = some (.cells c t fz) ∧ t ≠ 74 ∧ t ≠ 5) ∨ (∃ es cl, w.heap[g]? = some (.map es cl))) : KeptB w w' := by
  intro i c t fz ht h0
  rw [h.block i (lt_of_block h0) ?_]
  · exact h0
  · intro e
    rcases hr i e.symm with ⟨c', t', fz', h1, h2, h3⟩ | ⟨es, cl, h1⟩
    · rw [h1] at h0
      injection h0 with h0
      injection h0 with _ h0
      rcases ht with rfl | rfl
      · exact h2 h0
      · exact h3 h0
    · rw [h1] at h0
      injection h0 with h0
      cases h0
theorem KeptB.setCell {w : World} {a : Addr} {c : Array Value} {t : TypeId} {fz : Nat × Nat} (h : w.heap[a.block]? = some (.cells c t fz)) (h1 : t ≠ 74) (h2 : t ≠ 5) (u : Value) : KeptB w (w.setCell a u) := by
  intro i c' t' fz' ht h0
  rw [heap_setCell_other w a i u ?_]
  · exact h0
  · rintro rfl
    rw [h] at h0
    injection h0 with h0
    injection h0 with _ h0
    rcases ht with rfl | rfl
    · exact h1 h0
    · exact h2 h0

theorem row_block {w : World} {base : Nat} {e : TypeId} {size n : Nat} {v : Value} {xs : List Value} (h : w.ownsRow base e size v n xs) {g : Nat} (hg : v.ownBlock = some g) : ∃ c, w.heap[g]? = some (.cells c e (0, 0)) := by
  rcases h.2 with ⟨rfl, _⟩ | ⟨g', cap, cur, rfl, _, hh, _⟩
  · simp [Value.ownBlock] at hg
  · have : g' = g := by simpa [Value.ownBlock] using hg
    subst this
    exact ⟨_, hh⟩
theorem row_ne {w : World} {base : Nat} {e t : TypeId} {size n g : Nat} {v : Value} {xs : List Value} {c : Array Value} {fz : Nat × Nat} (h : w.ownsRow base e size v n xs) (hg : w.heap[g]? = some (.cells c t fz)) (hne : e ≠ t) : v.ownBlock ≠ some g := by
  intro he
  obtain ⟨c', hc⟩ := row_block h he
  rw [hc] at hg
  injection hg with hg
  injection hg with _ hg
  exact hne hg
theorem row_ne_map {w : World} {base : Nat} {e : TypeId} {size n g : Nat} {v : Value} {xs : List Value} {es : Array MapEntry} {cl : Nat} (h : w.ownsRow base e size v n xs) (hg : w.heap[g]? = some (.map es cl)) : v.ownBlock ≠ some g := by
  intro he
  obtain ⟨c', hc⟩ := row_block h he
  rw [hc] at hg
  injection hg with hg
  cases hg

/-- Behind 'f.prev = append(f.prev, -1)': the list is longer by one. -/
theorem put_mid {s : ByteArray} {B F M k : Nat} {v : Value} {D : DataW Unit} {w w1 : World} (h : Finder s B F M k v D w) {o : Obj} {g cap : Nat}
    (hown : w1.ownsRow B 3 1 (.slice (some ⟨g, 0, none⟩) (k + 1) cap) (k + 1) ((prevs s k).map (Value.int .i64) ++ [Value.int .i64 (-1)])) (hgrow : (w.alloc o).grownBy w1 v.ownBlock) (hB : B ≤ w.heap.size) :
    (w1.heap[F]? = some (.cells #[.string s, .map (some M), v] 79 (0, 0))) ∧ g ≠ F ∧
    FinderX s B F M k (.slice (some ⟨g, 0, none⟩) (k + 1) cap) (k + 1) (prevs s k ++ [-1]) D (w1.setCell ⟨F, 2, none⟩ (.slice (some ⟨g, 0, none⟩) (k + 1) cap)) ∧
    Below B w (w1.setCell ⟨F, 2, none⟩ (.slice (some ⟨g, 0, none⟩) (k + 1) cap)) ∧ KeptB w (w1.setCell ⟨F, 2, none⟩ (.slice (some ⟨g, 0, none⟩) (k + 1) cap)) := by
  have hFlt := lt_of_block h.blk
  have hF0 : (w.alloc o).heap[F]? = some (.cells #[.string s, .map (some M), v] 79 (0, 0)) := by rw [Below.heap_alloc w o F hFlt]; exact h.blk
  have hr0 := h.row.alloc o
  have hF1 : w1.heap[F]? = some (.cells #[.string s, .map (some M), v] 79 (0, 0)) := by
    rw [hgrow.block F (lt_of_block hF0) (fun e => row_ne hr0 hF0 (by decide) e.symm)]
    exact hF0
  have hgF : g ≠ F := fun e => row_ne hown hF1 (by decide) (by rw [e]; rfl)
  have hm0 := h.map.alloc o
  obtain ⟨es, cl, hes, _⟩ := hm0
  have hm1 := (h.map.alloc o).kept hgrow (fun e => row_ne_map hr0 hes e.symm)
  obtain ⟨es1, cl1, hes1, _⟩ := hm1
  have hMF : M ≠ F := by
    rintro rfl
    rw [hes1] at hF1
    injection hF1 with hF1
    cases hF1
  refine ⟨hF1, hgF, ⟨h.bF, h.bM, ?_, ?_, ?_⟩, ?_, ?_⟩
  · have := heap_setCell_same w1 F 2 _ 79 (.slice (some ⟨g, 0, none⟩) (k + 1) cap) hF1
    simpa using this
  · exact ((h.map.alloc o).kept hgrow (fun e => row_ne_map hr0 hes e.symm)).setCell hMF _
  · have hk : w1.grownBy (w1.setCell ⟨F, 2, none⟩ (.slice (some ⟨g, 0, none⟩) (k + 1) cap)) (some F) :=
      ⟨rfl, rfl, rfl, by simp [World.setCell], fun i _ hne => heap_setCell_other _ _ _ _ (fun e => hne (by rw [e]))⟩
    have := hown.kept hk (.inr (fun e => hgF (by simpa [Value.ownBlock] using e)))
    simpa using this
  · refine Below.trans (b := w1) ?_ ?_
    · refine ⟨hgrow.os, hgrow.tape, hgrow.output, Nat.le_trans (by simp) hgrow.size, fun i hi => ?_⟩
      have hi0 : i < w.heap.size := by omega
      rw [hgrow.block i (by simp; omega) (fun e => by have := (hr0.lt i e.symm).1; omega), Below.heap_alloc w o i hi0]
    · exact ⟨rfl, rfl, rfl, by simp [World.setCell], fun i hi => heap_setCell_other _ _ _ _ (by have := h.bF; show i ≠ F; omega)⟩
  · refine KeptB.trans (b := w.alloc o) ?_ (KeptB.trans (b := w1) ?_ ?_)
    · intro i c t fz _ h0
      rw [Below.heap_alloc w o i (lt_of_block h0)]
      exact h0
    · refine KeptB.of_grown hgrow (fun g' hg' => .inl ?_)
      obtain ⟨c, hc⟩ := row_block hr0 hg'
      exact ⟨c, 3, _, hc, by decide, by decide⟩
    · exact KeptB.setCell (a := ⟨F, 2, none⟩) hF1 (by decide) (by decide) _

theorem FinderX.turned {s : ByteArray} {B F M k n : Nat} {v : Value} {xs : List Int} {D D' : DataW Unit} {w w' : World} (h : FinderX s B F M k v n xs D w) (hm : w'.ownsMap Try.prog 9 (plainElem Try.prog 3) M (k + 1) D') (hg : w.grownBy w' (some M)) :
    FinderX s B F M (k + 1) v n xs D' w' ∧ Below B w w' ∧ KeptB w w' := by
  obtain ⟨es, cl, hes, _⟩ := h.map
  have hMF : F ≠ M := by
    rintro rfl
    have hb := h.blk
    rw [hes] at hb
    injection hb with hb
    cases hb
  refine ⟨⟨h.bF, h.bM, ?_, hm, h.row.kept hg (.inr (row_ne_map h.row hes))⟩, ?_, ?_⟩
  · rw [hg.block F (lt_of_block h.blk) (fun e => hMF (by injection e))]
    exact h.blk
  · refine ⟨hg.os, hg.tape, hg.output, hg.size, fun i hi => ?_⟩
    have hM := lt_of_block hes
    have hbM := h.bM
    exact hg.block i (by omega) (fun e => by injection e with e; omega)
  · exact KeptB.of_grown hg (fun g hg' => .inr ⟨es, cl, by injection hg' with hg'; rw [← hg']; exact hes⟩)

theorem FinderX.stored {s : ByteArray} {B F M k n g cap : Nat} {xs : List Int} {D : DataW Unit} {w : World} (h : FinderX s B F M k (.slice (some ⟨g, 0, none⟩) n cap) n xs D w) (j : Nat) (a : Int) :
    FinderX s B F M k (.slice (some ⟨g, 0, none⟩) n cap) n (xs.set j a) D (w.setCell ⟨g, j, none⟩ (.int .i64 a)) ∧ Below B w (w.setCell ⟨g, j, none⟩ (.int .i64 a)) ∧ KeptB w (w.setCell ⟨g, j, none⟩ (.int .i64 a)) := by
  obtain ⟨es, cl, hes, _⟩ := h.map
  obtain ⟨c, hc⟩ := row_block h.row (g := g) rfl
  have hgF : F ≠ g := fun e => row_ne h.row h.blk (by decide) (by rw [e]; rfl)
  have hgM : M ≠ g := fun e => row_ne_map h.row hes (by rw [e]; rfl)
  have hst := h.row.stored j (.int .i64 a)
  refine ⟨⟨h.bF, h.bM, ?_, h.map.setCell hgM _, ?_⟩, ?_, ?_⟩
  · rw [heap_setCell_other w ⟨g, j, none⟩ F _ hgF]
    exact h.blk
  · have := hst.1
    rwa [← List.map_set] at this
  · refine ⟨rfl, rfl, rfl, by simp [World.setCell], fun i hi => heap_setCell_other _ _ _ _ ?_⟩
    have := (h.row.lt g rfl).1
    show i ≠ g
    omega
  · exact KeptB.setCell (a := ⟨g, j, none⟩) hc (by decide) (by decide) _

/-- What 'put' leaves. -/
def PutPost (s : ByteArray) (B F M k : Nat) (w : World) (e : Ending) (w' : World) : Prop :=
  e = .returned (.tuple #[]) ∧ ∃ v D, Finder s B F M (k + 1) v D w' ∧ Below B w w' ∧ KeptB w w'

theorem tells_skip {s : ByteArray} {k : Nat} {D : DataW Unit} (h : Tells s k D) (h4 : ¬ k + 4 ≤ s.size) : Tells s (k + 1) D := by
  intro x
  have e : lastOf s (k + 1) x = lastOf s k x := by rw [lastOf, if_neg (fun hh => h4 hh.1)]
  rw [e]
  exact h x

set_option maxRecDepth 100000 in
set_option maxHeartbeats 1000000 in
theorem put_end (s : ByteArray) (B F M k : Nat) (v : Value) (D : DataW Unit) (w : World) (h : Finder s B F M k v D w) (hB : B ≤ w.heap.size) (hs : s.size ≤ 140737488351232) (hk : k < s.size) (h4 : s.size < k + 4) (hl : k ≤ 1000000) :
    Calls Try.prog 56 #[.pointer (some ⟨F, 0, none⟩), .int .i64 k] w (PutPost s B F M k w) := by
  obtain ⟨i0, hi, hz0, hz1, hz2⟩ := info_parts info3
  have c0 := cell_of_row w F 0 _ _ _ h.blk
  have c1 := cell_of_row w F 1 _ _ _ h.blk
  have c2 := cell_of_row w F 2 _ _ _ h.blk
  simp at c0 c1 c2
  have hrow := h.row
  go_enter Try.func56, Try.ntmps56
  go_wp2_with (first
    | (at_builtin; refine wpList_append_own _ rfl _ _ 77 rfl B 3 i0 (.int .i64 0) 1 8 Try.underlying77 hi hz0 hz1 hz2 rfl (by decide) _ _ _ rfl (hrow.alloc _) ⟨w.heap.size, 0, none⟩ 1 1 [.int .i64 (-1)] rfl rfl (cell_one_new _ _ _) ?c2 ?c3 ?c4 ?c5 ?_))
  case c2 => intro u hu; simp at hu; subst hu; rfl
  case c3 => unfold maxLen; omega
  case c4 => omega
  case c5 => simp; omega
  intro v1 w1 hown hgrow _
  obtain ⟨g, cap, rfl⟩ := ownsRow_succ hown
  obtain ⟨b1, hgF, hx, hbel, hkb⟩ := put_mid h hown hgrow hB
  have f2 := frozen_of_row w1 F 2 _ _ b1
  have d2 := cell_of_row w1 F 2 _ _ _ b1
  have d0 := cell_of_row w1 F 0 _ _ _ b1
  simp at d2 d0
  have ht : decide ((k : Int) + 4 ≤ s.size) = false := decide_eq_false (by omega)
  clear hown hgrow c0 c1 c2 hrow b1
  go_wp2
  go_end0
  refine ⟨rfl, _, D, ⟨⟨hx.bF, hx.bM, hx.blk, hx.map.mono (Nat.le_succ _), ?_⟩, tells_skip h.tells (by omega)⟩, hbel, hkb⟩
  rw [prevs_succ, show prevOf s k = -1 by unfold prevOf; rw [if_neg (by omega)]]
  exact hx.row

theorem fourL_wf (s : ByteArray) (k : Nat) (hs : s.size ≤ 140737488351232) : keyOf Try.prog 9 (.string (s.extract k (k + 4))) = some (.string (fourL s k)) :=
  keyOf_string_mk Try.underlying9 (by simp [ByteArray.size_extract]; unfold maxLen; omega)

theorem tells_put {s : ByteArray} {k : Nat} {D : DataW Unit} (h : Tells s k D) (hD : IsMap D) (h4 : k + 4 ≤ s.size) (hl : WideAt.IsKeyLit (.string (fourL s k))) : Tells s (k + 1) (D.put (.string (fourL s k)) (.lit (.int .i64 (k : Int)))) := by
  intro x
  by_cases hx : fourL s k = x
  · have e : lastOf s (k + 1) x = some k := by rw [lastOf, if_pos ⟨h4, hx⟩]
    rw [e]
    subst hx
    refine ⟨by rw [has_put_same hD hl]; rfl, fun p hp => ?_⟩
    rw [atKey_put_same hD hl]
    injection hp with hp
    rw [hp]
  · have e : lastOf s (k + 1) x = lastOf s k x := by rw [lastOf, if_neg (fun hh => hx hh.2)]
    rw [e]
    have hne : Lit.string x ≠ Lit.string (fourL s k) := fun hh => hx (by injection hh with hh; exact hh.symm)
    refine ⟨by rw [has_put_other hne]; exact (h x).1, fun p hp => ?_⟩
    rw [atKey_put_other hne]
    exact (h x).2 p hp

set_option maxRecDepth 100000 in
set_option maxHeartbeats 1000000 in
theorem put_new (s : ByteArray) (B F M k : Nat) (v : Value) (D : DataW Unit) (w : World) (h : Finder s B F M k v D w) (hB : B ≤ w.heap.size) (hs : s.size ≤ 140737488351232) (h4 : k + 4 ≤ s.size) (hl : k ≤ 1000000)
    (hno : lastOf s k (fourL s k) = none) :
    Calls Try.prog 56 #[.pointer (some ⟨F, 0, none⟩), .int .i64 k] w (PutPost s B F M k w) := by
  obtain ⟨i0, hi, hz0, hz1, hz2⟩ := info_parts info3
  have c0 := cell_of_row w F 0 _ _ _ h.blk
  have c1 := cell_of_row w F 1 _ _ _ h.blk
  have c2 := cell_of_row w F 2 _ _ _ h.blk
  simp at c0 c1 c2
  have hrow := h.row
  go_enter Try.func56, Try.ntmps56
  go_wp2_with (first
    | (at_builtin; refine wpList_append_own _ rfl _ _ 77 rfl B 3 i0 (.int .i64 0) 1 8 Try.underlying77 hi hz0 hz1 hz2 rfl (by decide) _ _ _ rfl (hrow.alloc _) ⟨w.heap.size, 0, none⟩ 1 1 [.int .i64 (-1)] rfl rfl (cell_one_new _ _ _) ?c2 ?c3 ?c4 ?c5 ?_))
  case c2 => intro u hu; simp at hu; subst hu; rfl
  case c3 => unfold maxLen; omega
  case c4 => omega
  case c5 => simp; omega
  intro v1 w1 hown hgrow _
  obtain ⟨g, cap, rfl⟩ := ownsRow_succ hown
  obtain ⟨b1, hgF, hx, hbel, hkb⟩ := put_mid h hown hgrow hB
  have f2 := frozen_of_row w1 F 2 _ _ b1
  have d2 := cell_of_row w1 F 2 _ _ _ b1
  have d0 := cell_of_row w1 F 0 _ _ _ b1
  have d1 := cell_of_row w1 F 1 _ _ _ b1
  simp at d2 d0 d1
  have ht : decide ((k : Int) + 4 ≤ s.size) = true := decide_eq_true (by omega)
  have hhas : Maps.has D (.string (fourL s k)) = false := by rw [(h.tells _).1, hno]; rfl
  have Hno := Lib.hid hno
  have hkey := fourL_wf s k hs
  have hmap := hx.map
  clear hown hgrow c0 c1 c2 hrow b1 hno
  go_wp2_with (first
    | (at_lookup; refine wpList_lookup_own_ok_int _ rfl _ _ 76 rfl 9 3 .i64 law9 Try.underlying76 Try.underlying3 (zero3 _) M k D rfl hmap _ _ rfl hkey ?_; intro c hat hwc)
    | (at_mapUpdate; refine wpList_mapUpdate_own _ rfl _ _ _ 76 rfl 9 3 law9 Try.underlying76 _ M k _ rfl hmap ?m1 _ _ _ rfl rfl hkey _ [] (plainElem_int Try.underlying3 ?m2) ?_))
  case m1 => unfold maxLen; omega
  case m2 => exact WalkArith.wf_i64 (by omega)
  intro w9 hm9 hg9
  go_wp2
  go_end0
  obtain ⟨hx9, hb9, hk9⟩ := hx.turned hm9 hg9
  refine ⟨rfl, _, _, ⟨⟨hx9.bF, hx9.bM, hx9.blk, hx9.map, ?_⟩, tells_put h.tells h.map.isMap h4 trivial⟩, hbel.trans hb9, hkb.trans hk9⟩
  rw [prevs_succ, show prevOf s k = -1 by unfold prevOf; rw [if_pos h4, Hno.out]]
  exact hx9.row

set_option maxRecDepth 100000 in
set_option maxHeartbeats 1000000 in
theorem put_old (s : ByteArray) (B F M k p : Nat) (v : Value) (D : DataW Unit) (w : World) (h : Finder s B F M k v D w) (hB : B ≤ w.heap.size) (hs : s.size ≤ 140737488351232) (h4 : k + 4 ≤ s.size) (hl : k ≤ 1000000)
    (hp : lastOf s k (fourL s k) = some p) :
    Calls Try.prog 56 #[.pointer (some ⟨F, 0, none⟩), .int .i64 k] w (PutPost s B F M k w) := by
  obtain ⟨i0, hi, hz0, hz1, hz2⟩ := info_parts info3
  have c0 := cell_of_row w F 0 _ _ _ h.blk
  have c1 := cell_of_row w F 1 _ _ _ h.blk
  have c2 := cell_of_row w F 2 _ _ _ h.blk
  simp at c0 c1 c2
  have hrow := h.row
  go_enter Try.func56, Try.ntmps56
  go_wp2_with (first
    | (at_builtin; refine wpList_append_own _ rfl _ _ 77 rfl B 3 i0 (.int .i64 0) 1 8 Try.underlying77 hi hz0 hz1 hz2 rfl (by decide) _ _ _ rfl (hrow.alloc _) ⟨w.heap.size, 0, none⟩ 1 1 [.int .i64 (-1)] rfl rfl (cell_one_new _ _ _) ?c2 ?c3 ?c4 ?c5 ?_))
  case c2 => intro u hu; simp at hu; subst hu; rfl
  case c3 => unfold maxLen; omega
  case c4 => omega
  case c5 => simp; omega
  intro v1 w1 hown hgrow _
  obtain ⟨g, cap, rfl⟩ := ownsRow_succ hown
  obtain ⟨b1, hgF, hx, hbel, hkb⟩ := put_mid h hown hgrow hB
  have f2 := frozen_of_row w1 F 2 _ _ b1
  have d2 := cell_of_row w1 F 2 _ _ _ b1
  have d0 := cell_of_row w1 F 0 _ _ _ b1
  have d1 := cell_of_row w1 F 1 _ _ _ b1
  simp at d2 d0 d1
  have r1 := hown.cellAt k (by omega)
  have rf := hown.frozenAt k
  have hlen := prevs_length s k
  rw [List.getElem?_append_right (by simp [hlen]), List.length_map, hlen, Nat.sub_self] at r1
  simp at r1
  have ht : decide ((k : Int) + 4 ≤ s.size) = true := decide_eq_true (by omega)
  have hhas : Maps.has D (.string (fourL s k)) = true := by rw [(h.tells _).1, hp]; rfl
  have hatp := (h.tells _).2 p hp
  have Hp := Lib.hid hp
  have hkey := fourL_wf s k hs
  have hmap := hx.map
  obtain ⟨hx2, hb2, hk2⟩ := hx.stored k (p : Int)
  have hmap2 := hx2.map
  clear hown hgrow c0 c1 c2 hrow b1 hp hlen
  go_wp2_with (first
    | (at_lookup; refine wpList_lookup_own_ok_int _ rfl _ _ 76 rfl 9 3 .i64 law9 Try.underlying76 Try.underlying3 (zero3 _) M k D rfl hmap _ _ rfl hkey ?_; intro c hat hwc; rw [hatp] at hat; obtain rfl : (p : Int) = c := by (injection hat with hat; injection hat))
    | (at_mapUpdate; refine wpList_mapUpdate_own _ rfl _ _ _ 76 rfl 9 3 law9 Try.underlying76 _ M k _ rfl hmap2 ?m1 _ _ _ rfl rfl hkey _ [] (plainElem_int Try.underlying3 ?m2) ?_))
  case m1 => unfold maxLen; omega
  case m2 => exact WalkArith.wf_i64 (by omega)
  intro w9 hm9 hg9
  go_wp2
  go_end0
  obtain ⟨hx9, hb9, hk9⟩ := hx2.turned hm9 hg9
  refine ⟨rfl, _, _, ⟨⟨hx9.bF, hx9.bM, hx9.blk, hx9.map, ?_⟩, tells_put h.tells h.map.isMap h4 trivial⟩, (hbel.trans hb2).trans hb9, (hkb.trans hk2).trans hk9⟩
  rw [prevs_succ, show prevOf s k = (p : Int) by unfold prevOf; rw [if_pos h4, Hp.out]]
  have hlen := prevs_length s k
  have e : (prevs s k ++ [-1]).set k (p : Int) = prevs s k ++ [(p : Int)] := by
    rw [List.set_append_right _ _ (by omega), hlen, Nat.sub_self]
    rfl
  rw [← e]
  exact hx9.row

theorem put_any (s : ByteArray) (B F M k : Nat) (v : Value) (D : DataW Unit) (w : World) (h : Finder s B F M k v D w) (hB : B ≤ w.heap.size) (hs : s.size ≤ 140737488351232) (hk : k < s.size) (hl : k ≤ 1000000) :
    Calls Try.prog 56 #[.pointer (some ⟨F, 0, none⟩), .int .i64 k] w (PutPost s B F M k w) := by
  by_cases h4 : k + 4 ≤ s.size
  · cases hp : lastOf s k (fourL s k) with
    | none => exact put_new s B F M k v D w h hB hs h4 hl hp
    | some p => exact put_old s B F M k p v D w h hB hs h4 hl hp
  · exact put_end s B F M k v D w h hB hs hk (by omega) hl

end Go.Proofs.Ytnjcganknpnjcaa
