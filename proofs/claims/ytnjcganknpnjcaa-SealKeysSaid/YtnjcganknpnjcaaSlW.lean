/- num: a builder takes a row of bytes; a length as bytes. -/
import Derived.Test.YtnjcganknpnjcaaSlP
import Derived.Test.YtnjcganknpnjcaaLzE
namespace Go.Proofs.Ytnjcganknpnjcaa
open Go.RowKit

def uCells (m : List UInt8) : List Value := m.map fun x => .int .u8 (x.toNat : Int)
set_option maxRecDepth 100000 in
set_option maxHeartbeats 2000000 in
theorem wr_any (B b g : Nat) (l m : List UInt8) (c : Nat) (w : World) (h : Bld B b l w) (hg : g ≠ b) (hm : ∀ (j : Nat) v, (uCells m)[j]? = some v → w.cell? ⟨g, j, none⟩ = some v)
    (hlen : l.length + m.length ≤ 140737488355328) (hB : B ≤ w.heap.size) :
    Calls Try.prog 81 #[.pointer (some ⟨b, 0, none⟩), .slice (some ⟨g, 0, none⟩) m.length c] w fun e w' => e = .returned (.tuple #[.int .i64 m.length, .nilIface]) ∧ (Bld B b (l ++ m) w' ∧ Below B w w' ∧ Lib.OthersKept 5 (some b) w w') := by
  obtain ⟨i0, hi, hz0, hz1, hz2⟩ := info_parts Try.BuilderB_Extra.infoByte
  have hcc : Calls Try.prog 90 #[.pointer (some ⟨b, 0, none⟩)] w fun e w1 => e = .returned (.tuple #[]) ∧ Lib.BuilderAtF 74 5 B b (.pointer (some ⟨b, 0, none⟩)) (Lib.byteCells l) w1 ∧ Below B w w1 ∧ Lib.OthersKept 5 (some b) w w1 ∧ (∀ (j : Nat) v, (uCells m)[j]? = some v → w1.cell? ⟨g, j, none⟩ = some v) := by
    rcases h with h | h
    · refine (Any.Builder_copyCheck_fresh Try.laysB240 Try.BuilderB_X72 b w h.cell0 h.shape h.frozen0).mono ?_
      rintro e w' ⟨rfl, rfl⟩
      exact ⟨rfl, h.used _, (Below.refl B w).setCell (p := ⟨b, 0, none⟩) h.1 _, (Lib.OthersKept.refl _ _ w).setCell ⟨b, 0, none⟩ rfl _, fun j v hj => cell_other (hm j v hj) hg⟩
    · refine (Any.Builder_copyCheck_used Try.laysB240 Try.BuilderB_X72 b w h.cell0).mono ?_
      rintro e w' ⟨rfl, rfl⟩
      exact ⟨rfl, h, Below.refl B _, Lib.OthersKept.refl _ _ _, hm⟩
  clear h hm
  go_enter Try.func81, Try.ntmps81
  go_wp2_with fail
  refine hcc.mono ?_
  rintro e w1 ⟨rfl, h1, hb1, hk1, hm⟩
  obtain ⟨hB, v, hbk, hown, hne⟩ := h1
  have c0 : w1.cell? ⟨b, 0, none⟩ = some (.pointer (some ⟨b, 0, none⟩)) := by rw [Lib.cell_of_heap hbk]; rfl
  have c1 : w1.cell? ⟨b, 1, none⟩ = some v := by rw [Lib.cell_of_heap hbk]; rfl
  go_wp2_with (at_builtin; refine wpList_append_ownF _ rfl _ _ 46 rfl B 5 i0 (.int .u8 0) 1 1 Try.underlying46 hi hz0 hz1 hz2 rfl (by decide) _ _ _ rfl hown ⟨g, 0, none⟩ m.length c (uCells m) rfl (by simp [uCells]) ?c1 ?c2 ?c3 ?c4 ?c5 ?_)
  case c1 =>
    intro j u hj
    have hadd : (⟨g, 0, none⟩ : Addr).add j = ⟨g, j, none⟩ := by unfold Addr.add; split <;> simp_all
    rw [hadd]
    exact hm j u hj
  case c2 =>
    intro u hu
    simp only [uCells, List.mem_map] at hu
    obtain ⟨x, _, rfl⟩ := hu
    rfl
  case c3 => rw [Lib.byteCells_length]; unfold maxLen; simp [uCells]; omega
  case c4 => rw [Lib.byteCells_length]; simp [uCells]; omega
  case c5 => have := hb1.size; omega
  intro v' w2 hown' hgrow _
  have hlt : b < w1.heap.size := (Array.getElem?_eq_some_iff.1 hbk).1
  have hb2 : w2.heap[b]? = some (.cells #[.pointer (some ⟨b, 0, none⟩), v] 74 (0, 0)) := by
    rw [hgrow.block b hlt (fun e => hne e.symm)]
    exact hbk
  have d0 : w2.cell? ⟨b, 0, none⟩ = some (.pointer (some ⟨b, 0, none⟩)) := by rw [Lib.cell_of_heap hb2]; rfl
  have d1 : w2.cell? ⟨b, 1, none⟩ = some v := by rw [Lib.cell_of_heap hb2]; rfl
  have f1 : w2.frozen? ⟨b, 1, none⟩ = false := Lib.frozen_of_heap hb2 1
  obtain ⟨ao, n', cap, rfl⟩ : ∃ ao n' cap, v' = .slice ao n' cap := by
    rcases hown'.2 with ⟨hv, _⟩ | ⟨g, cap, cur, fz, hv, _⟩
    · exact ⟨_, _, _, hv⟩
    · exact ⟨_, _, _, hv⟩
  go_wp2
  go_ret2
  refine ⟨rfl, .inr ?_, ?_, (hk1.grown hgrow (Lib.ownsRowF_kind hown)).setCell ⟨b, 1, none⟩ rfl _⟩
  · have := Lib.BuilderAtF.put (T := 74) (e := 5) hB hb2 (bs' := Lib.byteCells l ++ uCells m) (by simpa [uCells] using hown') Try.BuilderB_Extra.neB5
    rw [Lib.byteCells_append]
    exact this
  · exact (hb1.grown hgrow (by have := hb1.size; omega) (fun k hk => (hown.lt k hk).1)).setCell (p := ⟨b, 1, none⟩) hB _
end Go.Proofs.Ytnjcganknpnjcaa
