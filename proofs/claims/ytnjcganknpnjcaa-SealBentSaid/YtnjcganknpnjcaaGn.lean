/- Arrays of numbers as arguments: opened and shut. -/
import Derived.Test.YtnjcganknpnjcaaGh
import Derived.OpenShut
import Derived.Lib.SmallJoins
import Derived.DeepKeys
set_option linter.unusedVariables false
set_option linter.unusedSimpArgs false
namespace Go.Proofs.Ytnjcganknpnjcaa
open Go.RowKit Go.WideShapes Go.ChangeShapes
section
variable {H : Type} {enc : TypeId × Value → H} {P : Program} {w : World} {base : Nat} {spare : Nat → Bool} {held : Bool}
def numAt (cs : Array Value) (i : Nat) : Int := match cs[i]? with | some (.int _ z) => z | _ => 0
theorem open_ints_row {t e : TypeId} {n fuel : Nat} {k : IntKind} {cs : List Value} {x : DataW H × List MemPlace} (hu : P.underlying t = some (.array n e)) (he : P.underlying e = some (.int k)) (hc : P.cellsOf e = 1) (hct : P.cellsOf t = n)
    (hf : DataW.trod enc P w base spare held fuel t cs = some x) :
    ∃ f : Nat → Int, cs = (arrA n fun i => .int k (f i)).toList ∧ (∀ i, i < n → (Lit.int k (f i)).wf = true) ∧ x = (.agg ((List.range n).map fun i => .lit (.int k (f i))), []) := by
  obtain ⟨xs, m, _, hx, hl, hn, hi⟩ := DataW.trod_array hu hf
  rw [hct] at hl
  have key : ∀ i, i < n → cs[i]? = some (.int k (numAt cs.toArray i)) ∧ xs[i]? = some (.lit (.int k (numAt cs.toArray i)), []) ∧ (Lit.int k (numAt cs.toArray i)).wf = true := by
    intro i h
    have h1 := hi i h
    rw [hc, Nat.mul_one] at h1
    obtain ⟨y, hy⟩ : ∃ y, xs[i]? = some y := ⟨_, List.getElem?_eq_getElem (by omega)⟩
    rw [hy] at h1
    obtain ⟨z, hz, hx2, hw⟩ := DataW.trod_int he h1
    have h2 : cs[i]? = some (.int k z) := by
      have := congrArg List.head? hz
      simpa [List.head?_take, List.head?_drop] using this
    have h3 : numAt cs.toArray i = z := by simp [numAt, h2]
    rw [h3]
    exact ⟨h2, by rw [hy, hx2], hw⟩
  refine ⟨numAt cs.toArray, ?_, fun i h => (key i h).2.2, ?_⟩
  · refine List.ext_getElem? fun i => ?_
    by_cases h : i < n
    · rw [(key i h).1]; simp [arrA, h]
    · rw [List.getElem?_eq_none (by omega), List.getElem?_eq_none (by simp [arrA]; omega)]
  · have hxs : xs = (List.range n).map fun i => (.lit (.int k (numAt cs.toArray i)), []) := by
      refine List.ext_getElem? fun i => ?_
      by_cases h : i < n
      · rw [(key i h).2.1]; simp [h]
      · rw [List.getElem?_eq_none (by omega), List.getElem?_eq_none (by simp; omega)]
    rw [hx, hxs]
    simp [Function.comp_def]
theorem open_ints {r : Reach} {b0 : Nat} {t e : TypeId} {n : Nat} {k : IntKind} {v : Value} {d : DataW H} {p : List MemPlace} (hu : P.underlying t = some (.array n e)) (he : P.underlying e = some (.int k)) (hc : P.cellsOf e = 1) (hct : P.cellsOf t = n)
    (hv : Value.okWide P w r b0 t v) (h : DataW.Trod enc P w base spare held t v d p) :
    ∃ f : Nat → Int, v = .agg (arrA n fun i => .int k (f i)) ∧ d = .agg ((List.range n).map fun i => .lit (.int k (f i))) ∧ p = [] ∧ (∀ i, i < n → (Lit.int k (f i)).wf = true) := by
  unfold Value.okWide at hv
  rw [hu] at hv
  obtain ⟨cs, rfl, hsz, _⟩ := hv
  obtain ⟨fuel, hf⟩ := h
  obtain ⟨f, hcs, hw, hx⟩ := open_ints_row hu he hc hct hf
  refine ⟨f, ?_, (Prod.mk.injEq _ _ _ _ ▸ hx).1, (Prod.mk.injEq _ _ _ _ ▸ hx).2, hw⟩
  have : cs.toList = (arrA n fun i => .int k (f i)).toList := hcs
  rw [Array.toList_inj.1 this]
theorem mapM_some_mk {α β : Type} {l : List α} {f : α → Option β} {g : α → β} (h : ∀ x ∈ l, f x = some (g x)) : l.mapM f = some (l.map g) := by
  induction l with
  | nil => rfl
  | cons a l ih => simp [h a (by simp), ih (fun x hx => h x (by simp [hx]))]
theorem shut_ints_row {t e : TypeId} {n : Nat} {k : IntKind} {f : Nat → Int} (hu : P.underlying t = some (.array n e)) (he : P.underlying e = some (.int k)) (hc : P.cellsOf e = 1) (hct : P.cellsOf t = n) (hw : ∀ i, i < n → (Lit.int k (f i)).wf = true) (m : Nat) :
    DataW.trod enc P w base spare held (m + 2) t (arrA n fun i => .int k (f i)).toList = some (.agg ((List.range n).map fun i => .lit (.int k (f i))), []) := by
  unfold DataW.trod
  simp only [hu]
  have hlen : (arrA n fun i => Value.int k (f i)).toList.length = n := by simp [arrA]
  rw [if_pos (by rw [hlen, hct])]
  rw [mapM_some_mk (g := fun i => ((.lit (.int k (f i)) : DataW H), ([] : List MemPlace))) (fun i hi => ?_)]
  · simp [Function.comp_def]
  · have hi' : i < n := by simpa using hi
    have h2 : List.take (P.cellsOf e) (List.drop (i * P.cellsOf e) (arrA n fun i => Value.int k (f i)).toList) = [.int k (f i)] := by
      rw [hc, Nat.mul_one]
      refine List.ext_getElem? fun j => ?_
      cases j with
      | zero => simp [arrA, hi']
      | succ j => simp; omega
    rw [h2]
    unfold DataW.trod
    simp [he, hw i hi']
theorem shut_ints {t e : TypeId} {n : Nat} {k : IntKind} {f : Nat → Int} (hu : P.underlying t = some (.array n e)) (he : P.underlying e = some (.int k)) (hc : P.cellsOf e = 1) (hct : P.cellsOf t = n) (hw : ∀ i, i < n → (Lit.int k (f i)).wf = true) :
    DataW.Trod enc P w base spare held t (.agg (arrA n fun i => .int k (f i))) (.agg ((List.range n).map fun i => .lit (.int k (f i)))) [] :=
  ⟨2, shut_ints_row hu he hc hct hw 0⟩
/-- The same of bytes. -/
theorem open_bytes {r : Reach} {b0 : Nat} {t e : TypeId} {n : Nat} {v : Value} {d : DataW H} {p : List MemPlace} (hu : P.underlying t = some (.array n e)) (he : P.underlying e = some (.int .u8)) (hc : P.cellsOf e = 1) (hct : P.cellsOf t = n)
    (hv : Value.okWide P w r b0 t v) (h : DataW.Trod enc P w base spare held t v d p) :
    ∃ f : Nat → Nat, v = .agg (arrA n (bytesV f)) ∧ d = .agg ((List.range n).map fun i => .lit (.int .u8 (f i : Int))) ∧ p = [] ∧ Bytes f := by
  obtain ⟨f, rfl, rfl, rfl, hw⟩ := open_ints hu he hc hct hv h
  have hb : ∀ i, i < n → 0 ≤ f i ∧ f i ≤ 255 := fun i hi => bounds_u8 (hw i hi)
  refine ⟨fun i => if i < n then (f i).toNat else 0, ?_, ?_, rfl, fun i => ?_⟩
  · rw [arrA_congr fun i hi => ?_]
    have := hb i hi
    show Value.int .u8 (f i) = .int .u8 ((if i < n then (f i).toNat else 0 : Nat) : Int)
    rw [if_pos hi, Int.toNat_of_nonneg this.1]
  · congr 1
    refine List.map_congr_left fun i hi => ?_
    have hi' : i < n := by simpa using hi
    have := hb i hi'
    simp only [if_pos hi', Int.toNat_of_nonneg this.1]
  · dsimp only
    split
    · rename_i h
      have := hb i h
      omega
    · omega
theorem shut_bytes {t e : TypeId} {n : Nat} {f : Nat → Nat} (hu : P.underlying t = some (.array n e)) (he : P.underlying e = some (.int .u8)) (hc : P.cellsOf e = 1) (hct : P.cellsOf t = n) (hw : Bytes f) :
    DataW.Trod enc P w base spare held t (.agg (arrA n (bytesV f))) (.agg ((List.range n).map fun i => .lit (.int .u8 (f i : Int)))) [] :=
  shut_ints (f := fun i => (f i : Int)) hu he hc hct (fun i _ => by
    have := hw i
    simp [Lit.wf, IntKind.min, IntKind.max, IntKind.signed, IntKind.bits]
    omega)
end
end Go.Proofs.Ytnjcganknpnjcaa
namespace Go.Proofs.Ytnjcganknpnjcaa
open Go.RowKit
theorem flat_ones {α β : Type} (f : α → β) : ∀ l : List α, (l.map fun i => [f i]).flatten = l.map f
  | [] => rfl
  | a :: l => by simp [flat_ones f l]
theorem keyLits_bytes {t n : Nat} (hu : Try.prog.underlying t = some (.array n 5)) (hc : Try.prog.cellsOf t = n) {v : Nat → Nat} (hv : Bytes v) (d : Nat) :
    Try.prog.keyLits (d + 2) t (arrA n (bytesV v)).toList = some ((List.range n).map fun i => Lit.int .u8 (v i : Int)) := by
  have h5 : Try.prog.cellsOf 5 = 1 := by kernel_rfl
  unfold Program.keyLits
  simp only [hu]
  have hlen : (arrA n (bytesV v)).toList.length = n := by simp [arrA]
  rw [if_pos (by rw [hlen, hc])]
  rw [mapM_some_mk (g := fun i => [Lit.int .u8 (v i : Int)]) (fun i hi => ?_)]
  · rw [Option.map_some, flat_ones]
  · have hi' : i < n := by simpa using hi
    have h2 : List.take (Try.prog.cellsOf 5) (List.drop (i * Try.prog.cellsOf 5) (arrA n (bytesV v)).toList) = [.int .u8 (v i : Int)] := by
      rw [h5, Nat.mul_one]
      refine List.ext_getElem? fun j => ?_
      cases j with
      | zero => simp [arrA, hi', bytesV]
      | succ j => simp; omega
    rw [h2]
    unfold Program.keyLits
    have hw : (Lit.int .u8 (v i : Int)).wf = true := by
      have := hv i
      simp [Lit.wf, IntKind.min, IntKind.max, IntKind.signed, IntKind.bits]
      omega
    simp [Try.underlying5, hw]
theorem eq_bytes {t n : Nat} (hu : Try.prog.underlying t = some (.array n 5)) (hc : Try.prog.cellsOf t = n) (hk : Try.prog.keyTypeAt 2 t = true) {v : Nat → Nat} (hv : Bytes v) (W : World) :
    (Op.equalIn 10000 t (.agg (arrA n (bytesV v))) (.agg (arrA n (bytesV v)))).run Try.prog W = .ok true W := by
  have hl := keyLits_bytes hu hc hv 0
  have hf : (Value.agg (arrA n (bytesV v))).formed Try.prog t = true := by
    simp [Value.formed, hu, arrA_size, hc]
  obtain ⟨r, hr, hiff⟩ := run_equalIn_deep (P := Try.prog) 9998 2 t hk W 2 2 _ _ _ _ hf hf hl hl
  rw [hiff.2 rfl] at hr
  exact hr
theorem eq49 {v : Nat → Nat} (hv : Bytes v) (W : World) : (Op.equalIn 10000 49 (.agg (arrA 12 (bytesV v))) (.agg (arrA 12 (bytesV v)))).run Try.prog W = .ok true W :=
  eq_bytes Try.underlying49 (by kernel_rfl) (by kernel_rfl) hv W
theorem eq34 {v : Nat → Nat} (hv : Bytes v) (W : World) : (Op.equalIn 10000 34 (.agg (arrA 32 (bytesV v))) (.agg (arrA 32 (bytesV v)))).run Try.prog W = .ok true W :=
  eq_bytes Try.underlying34 (by kernel_rfl) (by kernel_rfl) hv W
end Go.Proofs.Ytnjcganknpnjcaa
