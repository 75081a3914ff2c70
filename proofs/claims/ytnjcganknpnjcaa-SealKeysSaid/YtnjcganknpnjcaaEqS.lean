/- Arrays that are one are equal. -/
import Derived.Test.YtnjcganknpnjcaaOpn
import Derived.DeepKeys
namespace Go.Proofs.Ytnjcganknpnjcaa
open Go.RowKit
theorem flat_ones {α β : Type} (f : α → β) : ∀ l : List α, (l.map fun i => [f i]).flatten = l.map f
  | [] => rfl
  | a :: l => by simp [flat_ones f l]
theorem keyLits_bytes {t n : Nat} (hu : Try.prog.underlying t = some (.array n 5)) (hc : Try.prog.cellsOf t = n) {v : Nat → Nat} (hv : Bytes v) (d : Nat) :
    Try.prog.keyLits (d + 2) t (arrA n (bytesV v)).toList = some ((List.range n).map fun i => Lit.int .u8 (v i : Int)) := by
  have h5 : Try.prog.cellsOf 5 = 1 := by kernel_rfl
  unfold Program.keyLits
  simp only [hu]
  have hlen : (arrA n (bytesV v)).toList.length = n := by simp [arrA]
  rw [if_pos (by rw [hlen, hc])]
  rw [mapM_some_mk (g := fun i => [Lit.int .u8 (v i : Int)]) (fun i hi => ?_)]
  · rw [Option.map_some, flat_ones]
  · have hi' : i < n := by simpa using hi
    have h2 : List.take (Try.prog.cellsOf 5) (List.drop (i * Try.prog.cellsOf 5) (arrA n (bytesV v)).toList) = [.int .u8 (v i : Int)] := by
      rw [h5, Nat.mul_one]
      refine List.ext_getElem? fun j => ?_
      cases j with
      | zero => simp [arrA, hi', bytesV]
      | succ j => simp; omega
    rw [h2]
    unfold Program.keyLits
    have hw : (Lit.int .u8 (v i : Int)).wf = true := by
      have := hv i
      simp [Lit.wf, IntKind.min, IntKind.max, IntKind.signed, IntKind.bits]
      omega
    simp [Try.underlying5, hw]
theorem eq_bytes {t n : Nat} (hu : Try.prog.underlying t = some (.array n 5)) (hc : Try.prog.cellsOf t = n) (hk : Try.prog.keyTypeAt 2 t = true) {v : Nat → Nat} (hv : Bytes v) (W : World) :
    (Op.equalIn 10000 t (.agg (arrA n (bytesV v))) (.agg (arrA n (bytesV v)))).run Try.prog W = .ok true W := by
  have hl := keyLits_bytes hu hc hv 0
  have hf : (Value.agg (arrA n (bytesV v))).formed Try.prog t = true := by
    simp [Value.formed, hu, arrA_size, hc]
  obtain ⟨r, hr, hiff⟩ := run_equalIn_deep (P := Try.prog) 9998 2 t hk W 2 2 _ _ _ _ hf hf hl hl
  rw [hiff.2 rfl] at hr
  exact hr
theorem eq49 {v : Nat → Nat} (hv : Bytes v) (W : World) : (Op.equalIn 10000 49 (.agg (arrA 12 (bytesV v))) (.agg (arrA 12 (bytesV v)))).run Try.prog W = .ok true W :=
  eq_bytes Try.underlying49 (by kernel_rfl) (by kernel_rfl) hv W
theorem eq34 {v : Nat → Nat} (hv : Bytes v) (W : World) : (Op.equalIn 10000 34 (.agg (arrA 32 (bytesV v))) (.agg (arrA 32 (bytesV v)))).run Try.prog W = .ok true W :=
  eq_bytes Try.underlying34 (by kernel_rfl) (by kernel_rfl) hv W
end Go.Proofs.Ytnjcganknpnjcaa
