/- cipher: a word of four bytes; the words that a block begins with. -/
import Derived.Test.YtnjcganknpnjcaaHsE
namespace Go.Proofs.Ytnjcganknpnjcaa
open Go.RowKit

set_option maxRecDepth 100000 in
set_option maxHeartbeats 1000000 in
theorem cword_any (b o l c x0 x1 x2 x3 : Nat) (w : World) (h : 4 ≤ l) (l0 : x0 < 256) (l1 : x1 < 256) (l2 : x2 < 256) (l3 : x3 < 256)
    (c0 : w.cell? ⟨b, o, none⟩ = some (.int .u8 (x0 : Int))) (c1 : w.cell? ⟨b, o + 1, none⟩ = some (.int .u8 (x1 : Int))) (c2 : w.cell? ⟨b, o + 2, none⟩ = some (.int .u8 (x2 : Int))) (c3 : w.cell? ⟨b, o + 3, none⟩ = some (.int .u8 (x3 : Int))) :
    Calls Try.prog 122 #[.slice (some ⟨b, o, none⟩) l c] w fun e w' => e = .returned (.int .u32 (w4 x0 x1 x2 x3 : Int)) ∧ Drew w w' := by
  have hl : (4 : Int) ≤ (l : Int) := by omega
  have o1 : bits .or .u32 (x0 : Int) ((x1 : Int) * 256) = ((x0 + x1 * 256 : Nat) : Int) := by
    have := u32_or_nat x0 (x1 * 2 ^ 8) (by omega) (by omega)
    rw [or_add8 _ _ 8 (by omega)] at this
    rw [← this]; congr 1
  have o2 : bits .or .u32 ((x0 : Int) + (x1 : Int) * 256) ((x2 : Int) * 65536) = ((x0 + x1 * 256 + x2 * 65536 : Nat) : Int) := by
    have := u32_or_nat (x0 + x1 * 256) (x2 * 2 ^ 16) (by omega) (by omega)
    rw [or_add8 _ _ 16 (by omega)] at this
    rw [← this]; congr 1
  have o3 : bits .or .u32 ((x0 : Int) + (x1 : Int) * 256 + (x2 : Int) * 65536) ((x3 : Int) * 16777216) = ((x0 + x1 * 256 + x2 * 65536 + x3 * 16777216 : Nat) : Int) := by
    have := u32_or_nat (x0 + x1 * 256 + x2 * 65536) (x3 * 2 ^ 24) (by omega) (by omega)
    rw [or_add8 _ _ 24 (by omega)] at this
    rw [← this]; congr 1
  have g0 : (0 : Int) < (l : Int) := by omega
  have g1 : (1 : Int) < (l : Int) := by omega
  have g2 : (2 : Int) < (l : Int) := by omega
  have g3 : (3 : Int) < (l : Int) := by omega
  go_enter Try.func122, Try.ntmps122
  go_wp2
  go_quiet (fail)
  go_wp2
  go_ret
  exact ⟨ret_int (by simp [w4]), Drew.draws _ _⟩
end Go.Proofs.Ytnjcganknpnjcaa
