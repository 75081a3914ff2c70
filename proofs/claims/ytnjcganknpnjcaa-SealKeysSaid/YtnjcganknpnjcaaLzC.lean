/- lz: what finder.best answers: the greatest number of bytes that stood ahead, four at least, and the least distance. -/
import Derived.Test.YtnjcganknpnjcaaLzB
import Derived.Test.YtnjcganknpnjcaaLzP
namespace Go.Proofs.Ytnjcganknpnjcaa
open Go.RowKit Go.Maps Go.WideMaps

set_option maxRecDepth 100000 in
set_option maxHeartbeats 1000000 in
theorem best_end (s : ByteArray) (B F M k : Nat) (v : Value) (D : DataW Unit) (w : World) (h : Finder s B F M k v D w) (hs : s.size ≤ 60000) (hk : k < s.size) (h4 : s.size < k + 4) :
    Calls Try.prog 55 #[.pointer (some ⟨F, 0, none⟩), .int .i64 k] w fun e w' => e = .returned (.tuple #[.int .i64 0, .int .i64 0]) ∧ Below w.heap.size w w' := by
  have c0 := cell_of_row w F 0 _ _ _ h.blk
  simp at c0
  have e1 : IntKind.i64.wrap ((k : Int) + 4) = (k : Int) + 4 := IntWalk.i64_in _ (by omega)
  have e2 : decide ((s.size : Int) < (k : Int) + 4) = true := decide_eq_true (by omega)
  go_enter Try.func55, Try.ntmps55
  go_wp2
  have d0 := cell_alloc (cell_alloc c0 (.cells #[.pointer (some ⟨F, 0, none⟩)] 75)) (.cells #[.int .i64 k] 3)
  go_quiet (fail)
  go_wp2
  go_ret2
  exact ⟨rfl, below_drewN (((Below.refl _ w).alloc (Nat.le_refl _) _).alloc (by simp) _) _⟩

set_option maxRecDepth 100000 in
theorem look_at {M n : Nat} {D : DataW Unit} {W : World} (h : W.ownsMap Try.prog 9 (plainElem Try.prog 3) M n D) {key : Value} {kl : Lit} (hkey : keyOf Try.prog 9 key = some kl) {c : Int} {b : Bool}
    (hb : Maps.has D kl = b) (hc : D.atKey kl (.lit (.int .i64 0)) = .lit (.int .i64 c)) :
    ∀ m, (Instr.lookup 76 (.map (some M)) key true).run Try.prog (W.drewN m) = .ok (.tuple #[.int .i64 c, .bool b]) (W.drewN m) := by
  intro m
  obtain ⟨v, ps, hl, hr⟩ := (show (W.drewN m).ownsMap Try.prog 9 (plainElem Try.prog 3) M n D from h).look_ok law9 Try.underlying76 (zero3 _) (plainElem_int Try.underlying3 (by decide)) hkey
  obtain ⟨a, rfl, e, _⟩ := plainElem_int_inv Try.underlying3 hr
  rw [hc] at e
  injection e with e _
  injection e with e
  injection e with _ e
  rw [hl, hb, e]

set_option maxRecDepth 100000 in
set_option maxHeartbeats 1000000 in
theorem best_none (s : ByteArray) (B F M k : Nat) (v : Value) (D : DataW Unit) (w : World) (h : Finder s B F M k v D w) (hs : s.size ≤ 60000) (h4 : k + 4 ≤ s.size) (hno : lastOf s k (fourL s k) = none) :
    Calls Try.prog 55 #[.pointer (some ⟨F, 0, none⟩), .int .i64 k] w fun e w' => e = .returned (.tuple #[.int .i64 0, .int .i64 0]) ∧ Below w.heap.size w w' := by
  have c0 := cell_of_row w F 0 _ _ _ h.blk
  have c1 := cell_of_row w F 1 _ _ _ h.blk
  simp at c0 c1
  have e1 : IntKind.i64.wrap ((k : Int) + 4) = (k : Int) + 4 := IntWalk.i64_in _ (by omega)
  have e2 : decide ((s.size : Int) < (k : Int) + 4) = false := decide_eq_false (by omega)
  have hhas : Maps.has D (.string (fourL s k)) = false := by rw [(h.tells _).1, hno]; rfl
  have hkey := fourL_wf s k (by omega)
  go_enter Try.func55, Try.ntmps55
  go_wp2
  obtain ⟨W, hW⟩ : ∃ W, (w.alloc (.cells #[.pointer (some ⟨F, 0, none⟩)] 75)).alloc (.cells #[.int .i64 k] 3) = W := ⟨_, rfl⟩
  rw [hW]
  have d0 : W.cell? ⟨F, 0, none⟩ = some (.string s) := by rw [← hW]; exact cell_alloc (cell_alloc c0 _) _
  have d1 : W.cell? ⟨F, 1, none⟩ = some (.map (some M)) := by rw [← hW]; exact cell_alloc (cell_alloc c1 _) _
  have d2 : W.cell? ⟨w.heap.size, 0, none⟩ = some (.pointer (some ⟨F, 0, none⟩)) := by rw [← hW]; exact cell_alloc (by rw [cell_of_row _ _ 0 _ _ _ (heap_new w _)]; rfl) _
  have d3 : W.cell? ⟨w.heap.size + 1, 0, none⟩ = some (.int .i64 k) := by
    rw [← hW]
    have := heap_new (w.alloc (.cells #[.pointer (some ⟨F, 0, none⟩)] 75)) (.cells #[.int .i64 k] 3)
    rw [World.size_alloc] at this
    rw [cell_of_row _ _ 0 _ _ _ this]; rfl
  have hb : Below w.heap.size w W := by rw [← hW]; exact ((Below.refl _ w).alloc (Nat.le_refl _) _).alloc (by simp) _
  have hm : W.ownsMap Try.prog 9 (plainElem Try.prog 3) M k D := by rw [← hW]; exact (h.map.alloc _).alloc _
  clear hW c0 c1
  go_quiet (fail)
  have hl := look_at hm hkey hhas (Maps.atKey_of_not_has hhas _)
  go_wp2
  go_quiet (fail)
  go_wp2
  refine wp_loop_once ?_
  go_wp2
  go_ret2
  exact ⟨rfl, below_drewN hb _⟩

set_option maxRecDepth 100000 in
set_option maxHeartbeats 2000000 in
theorem best_some (s : ByteArray) (B F M k p0 : Nat) (v : Value) (D : DataW Unit) (w : World) (h : Finder s B F M k v D w) (hs : s.size ≤ 60000) (h4 : k + 4 ≤ s.size) (hp : lastOf s k (fourL s k) = some p0) :
    Calls Try.prog 55 #[.pointer (some ⟨F, 0, none⟩), .int .i64 k] w fun e w' => e = .returned (.tuple #[.int .i64 (scan s k k).1, .int .i64 (scan s k k).2]) ∧ Below w.heap.size w w' := by
  obtain ⟨g, cap, rfl⟩ : ∃ g cap, v = .slice (some ⟨g, 0, none⟩) k cap := by
    have hk0 : 0 < k := by have := (lastOf_some hp).1; omega
    obtain ⟨j, rfl⟩ : ∃ j, k = j + 1 := ⟨k - 1, by omega⟩
    exact ownsRow_succ h.row
  have c0 := cell_of_row w F 0 _ _ _ h.blk
  have c1 := cell_of_row w F 1 _ _ _ h.blk
  have c2 := cell_of_row w F 2 _ _ _ h.blk
  simp at c0 c1 c2
  have e1 : IntKind.i64.wrap ((k : Int) + 4) = (k : Int) + 4 := IntWalk.i64_in _ (by omega)
  have e2 : decide ((s.size : Int) < (k : Int) + 4) = false := decide_eq_false (by omega)
  have hhas : Maps.has D (.string (fourL s k)) = true := by rw [(h.tells _).1, hp]; rfl
  have hkey := fourL_wf s k (by omega)
  go_enter Try.func55, Try.ntmps55
  go_wp2
  obtain ⟨W, hW⟩ : ∃ W, (w.alloc (.cells #[.pointer (some ⟨F, 0, none⟩)] 75)).alloc (.cells #[.int .i64 k] 3) = W := ⟨_, rfl⟩
  rw [hW]
  have d0 : W.cell? ⟨F, 0, none⟩ = some (.string s) := by rw [← hW]; exact cell_alloc (cell_alloc c0 _) _
  have d1 : W.cell? ⟨F, 1, none⟩ = some (.map (some M)) := by rw [← hW]; exact cell_alloc (cell_alloc c1 _) _
  have d2 : W.cell? ⟨w.heap.size, 0, none⟩ = some (.pointer (some ⟨F, 0, none⟩)) := by rw [← hW]; exact cell_alloc (by rw [cell_of_row _ _ 0 _ _ _ (heap_new w _)]; rfl) _
  have d3 : W.cell? ⟨w.heap.size + 1, 0, none⟩ = some (.int .i64 k) := by
    rw [← hW]
    have := heap_new (w.alloc (.cells #[.pointer (some ⟨F, 0, none⟩)] 75)) (.cells #[.int .i64 k] 3)
    rw [World.size_alloc] at this
    rw [cell_of_row _ _ 0 _ _ _ this]; rfl
  have d5 : W.cell? ⟨F, 2, none⟩ = some (.slice (some ⟨g, 0, none⟩) k cap) := by rw [← hW]; exact cell_alloc (cell_alloc c2 _) _
  have hb : Below w.heap.size w W := by rw [← hW]; exact ((Below.refl _ w).alloc (Nat.le_refl _) _).alloc (by simp) _
  have hm : W.ownsMap Try.prog 9 (plainElem Try.prog 3) M k D := by rw [← hW]; exact (h.map.alloc _).alloc _
  have hrow : W.ownsRow B 3 1 (.slice (some ⟨g, 0, none⟩) k cap) k ((prevs s k).map (Value.int .i64)) := by rw [← hW]; exact (h.row.alloc _).alloc _
  clear hW c0 c1 c2
  go_quiet (fail)
  have hl := look_at hm hkey hhas ((h.tells _).2 p0 hp)
  go_wp2
  go_quiet (fail)
  clear hl hm
  have Hp := Lib.hid hp
  clear hp hhas hkey
  go_wp2
  go_loopw [4, 5, 7] (fun n d c wr => ∃ j, j ≤ k ∧ c = .int .i64 (nextOf s j (fourL s k)) ∧ n = .int .i64 (scan s k (k - j)).1 ∧ d = .int .i64 (scan s k (k - j)).2 ∧ Drew W wr) (fun _ _ c _ => (intOf c + 1).toNat)
  case atStart =>
    refine ⟨k, by omega, ?_, ?_, ?_, ?_⟩
    · unfold nextOf; rw [Hp.out]
    · rw [Nat.sub_self, scan]; rfl
    · rw [Nat.sub_self, scan]; rfl
    · exact Drew.draws2 _ _ _
  case round =>
    obtain ⟨j, hj, rfl, rfl, rfl, hD⟩ := hrel
    obtain ⟨nn, rfl⟩ := hD
    cases hc : lastOf s j (fourL s k) with
    | none =>
      have hn : nextOf s j (fourL s k) = -1 := by unfold nextOf; rw [hc]
      rw [hn]
      have Hr := Lib.hid (scan_none h4 hj hc)
      clear hn hc
      go_wp2
      go_ret2
      exact ⟨ret_two (by rw [Hr.out]) (by rw [Hr.out]), below_drewN hb _⟩
    | some p =>
      have hn : nextOf s j (fourL s k) = (p : Int) := by unfold nextOf; rw [hc]
      rw [hn]
      obtain ⟨q1, q2, q3, q4⟩ := lastOf_some hc
      clear q4
      have Hs := Lib.hid (scan_some h4 hj hc)
      have Hq := Lib.hid q3
      have Hf := Lib.hid (fun hh => scan_full s k (k - j) hh j)
      clear hn hc q3
      obtain ⟨N, hN⟩ : ∃ N, (scan s k (k - j)).1 = N := ⟨_, rfl⟩
      obtain ⟨E, hE⟩ : ∃ E, (scan s k (k - j)).2 = E := ⟨_, rfl⟩
      rw [hN, hE]
      have HN := Lib.hid hN
      have HE := Lib.hid hE
      clear hN hE
      by_cases h131 : N < 131
      · have t1 : decide ((N : Int) < 131) = true := decide_eq_true (by omega)
        have hcell : ∀ i, i < k → (W.cell? ⟨g, i, none⟩) = some (.int .i64 (prevOf s i)) := by
          intro i hi
          rw [hrow.cellAt i (by omega)]
          simp [prevs, hi]
        have hcp := hcell p (by omega)
        have hpv : prevOf s p = nextOf s p (fourL s k) := by rw [prevOf_eq s p q2, Hq.out]
        rw [hpv] at hcp
        clear hcell hpv
        by_cases hlt : N < sameLen s k p
        · have t2 : decide ((N : Int) < (sameLen s k p : Int)) = true := decide_eq_true (by omega)
          go_wp2_with (go_at_call 89; refine (alike_any s p k (w.heap.size + 1) w.heap.size F (W.drewN nn) (by omega) (by omega) (by omega) d3 d2 d0).mono ?_; rintro e w' ⟨rfl, n2, rfl⟩)
          have e3 : IntKind.i64.wrap ((k : Int) - p) = (k : Int) - p := IntWalk.i64_in _ (by omega)
          go_quiet (fail)
          go_wp2
          go_roundw
          case rel =>
            have h1 := Hs.out
            rw [HN.out, if_pos hlt] at h1
            refine ⟨p, by omega, rfl, ?_, ?_, Drew.draws _ _⟩
            · rw [h1]
            · rw [h1]
              exact congrArg (Value.int .i64) (by omega)
          case measure =>
            have : nextOf s p (fourL s k) < p := by
              unfold nextOf
              cases hq : lastOf s p (fourL s k) with
              | none => show (-1 : Int) < p; omega
              | some q => show (q : Int) < p; have := (lastOf_some hq).1; omega
            simp [intOf]
            omega
        · have t2 : decide ((N : Int) < (sameLen s k p : Int)) = false := decide_eq_false (by omega)
          go_wp2_with (go_at_call 89; refine (alike_any s p k (w.heap.size + 1) w.heap.size F (W.drewN nn) (by omega) (by omega) (by omega) d3 d2 d0).mono ?_; rintro e w' ⟨rfl, n2, rfl⟩)
          go_roundw
          case rel =>
            have h1 := Hs.out
            rw [HN.out, if_neg hlt] at h1
            refine ⟨p, by omega, rfl, ?_, ?_, Drew.draws _ _⟩
            · rw [h1, HN.out]
            · rw [h1, HE.out]
          case measure =>
            have : nextOf s p (fourL s k) < p := by
              unfold nextOf
              cases hq : lastOf s p (fourL s k) with
              | none => show (-1 : Int) < p; omega
              | some q => show (q : Int) < p; have := (lastOf_some hq).1; omega
            simp [intOf]
            omega
      · have t1 : decide ((N : Int) < 131) = false := decide_eq_false (by omega)
        go_wp2
        go_ret2
        have h1 := Hf.out (by rw [HN.out]; omega)
        rw [show k - j + j = k by omega] at h1
        exact ⟨ret_two (by rw [h1, HN.out]) (by rw [h1, HE.out]), below_drewN hb _⟩

/-- **finder.best**, wherever the place is. -/
theorem best_any (s : ByteArray) (B F M k : Nat) (v : Value) (D : DataW Unit) (w : World) (h : Finder s B F M k v D w) (hs : s.size ≤ 60000) (hk : k < s.size) :
    Calls Try.prog 55 #[.pointer (some ⟨F, 0, none⟩), .int .i64 k] w fun e w' => e = .returned (.tuple #[.int .i64 (if k + 4 ≤ s.size then (scan s k k).1 else 0 : Nat), .int .i64 (if k + 4 ≤ s.size then (scan s k k).2 else 0 : Nat)]) ∧ Below w.heap.size w w' := by
  by_cases h4 : k + 4 ≤ s.size
  · simp only [if_pos h4]
    cases hp : lastOf s k (fourL s k) with
    | none =>
      have h1 := scan_none h4 (Nat.le_refl k) hp
      rw [Nat.sub_self] at h1
      rw [h1]
      exact best_none s B F M k v D w h hs h4 hp
    | some p => exact best_some s B F M k p v D w h hs h4 hp
  · simp only [if_neg h4]
    exact best_end s B F M k v D w h hs hk (by omega)

end Go.Proofs.Ytnjcganknpnjcaa
