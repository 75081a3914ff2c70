/- Arrays as blocks: an array's cells by their number; a whole array out of a block, and into it. -/
import Derived.Test.YtnjcganknpnjcaaBase
import Derived.Deep.OwnRows
import Derived.OwnWalk
import Derived.Laws.CopyOwn
namespace Go.Proofs.Ytnjcganknpnjcaa
open Go.RowKit

/-- An array's cells, by their number. -/
def arrA (n : Nat) (f : Nat → Value) : Array Value := ((List.range n).map f).toArray
theorem arrA_size (n : Nat) (f : Nat → Value) : (arrA n f).size = n := by simp [arrA]
theorem arrA_at (n : Nat) (f : Nat → Value) (i : Nat) (h : i < n) : (arrA n f)[i]? = some (f i) := by simp [arrA, h]
theorem row_of_heap {w : World} {b t n : Nat} {f : Nat → Value} (h : w.heap[b]? = some (.cells (arrA n f) t (0, 0))) : w.rowIs b t n f :=
  ⟨_, h, arrA_size _ _, fun i hi => arrA_at n f i hi⟩
theorem heap_of_row {w : World} {b t n : Nat} {f : Nat → Value} (h : w.rowIs b t n f) : w.heap[b]? = some (.cells (arrA n f) t (0, 0)) := by
  obtain ⟨c, hb, hn, hc⟩ := h
  rw [hb]
  refine congrArg (fun x => some (Obj.cells x t (0, 0))) (Array.ext_getElem? fun i => ?_)
  by_cases hi : i < n
  · rw [hc i hi, arrA_at n f i hi]
  · rw [Array.getElem?_eq_none (by omega), Array.getElem?_eq_none (by rw [arrA_size]; omega)]
theorem arrA_one (n : Nat) (f : Nat → Value) (h : ∀ i, (f i).oneCell' = true) : (arrA n f).all (·.oneCell') = true := by
  rw [Array.all_eq_true_iff_forall_mem]
  intro x hx
  simp [arrA] at hx
  obtain ⟨i, _, rfl⟩ := hx
  exact h i
theorem arrA_congr {n : Nat} {f g : Nat → Value} (h : ∀ i, i < n → f i = g i) : arrA n f = arrA n g := by
  unfold arrA
  refine congrArg List.toArray (List.map_congr_left fun i hi => h i (by simpa using hi))

theorem und129 : Try.prog.underlying 129 = some (.array 16 38) := by kernel_rfl
theorem siz129 : (Try.prog.info? 129).map (·.size) = some 16 := by kernel_rfl
theorem und97 : Try.prog.underlying 97 = some (.array 8 38) := by kernel_rfl
theorem siz97 : (Try.prog.info? 97).map (·.size) = some 8 := by kernel_rfl
theorem und34 : Try.prog.underlying 34 = some (.array 32 5) := by kernel_rfl
theorem siz34 : (Try.prog.info? 34).map (·.size) = some 32 := by kernel_rfl
theorem und57 : Try.prog.underlying 57 = some (.array 32 5) := by kernel_rfl
theorem siz57 : (Try.prog.info? 57).map (·.size) = some 32 := by kernel_rfl
theorem und119 : Try.prog.underlying 119 = some (.array 64 5) := by kernel_rfl
theorem siz119 : (Try.prog.info? 119).map (·.size) = some 64 := by kernel_rfl

theorem siz_arr {t n : Nat} {f : Nat → Value} (hi : (Try.prog.info? t).map (·.size) = some n) : (Try.prog.info? t).map (·.size) = some (arrA n f).size := by rw [hi, arrA_size]
theorem rowIs_setRow {w : World} {b t n : Nat} {f : Nat → Value} (h : w.rowIs b t n f) (g : Nat → Value) : (w.setRow b (arrA n g)).rowIs b t n g :=
  row_of_heap (setRow_heap w b _ _ t _ (heap_of_row h))
theorem rowIs_setOther {w : World} {b b' t n : Nat} {f : Nat → Value} (h : w.rowIs b t n f) (hne : b ≠ b') (c : Array Value) : (w.setRow b' c).rowIs b t n f :=
  h.of_block (setRow_other w b' b c hne)
theorem below_setRow {B b : Nat} {a w : World} (h : Below B a w) (hb : B ≤ b) (c : Array Value) : Below B a (w.setRow b c) :=
  ⟨h.os, h.tape, h.output, by rw [size_setRow]; exact h.size, fun k hk => (setRow_other w b k c (by omega)).trans (h.block k hk)⟩
theorem load_arr {ops : Array Oper} {rest : List Oper} {o : Oper} {a : Act} {w : World} {Q : Exit → Act → World → Prop} (hgd : o.guard = none) (ty : TypeId) (x : Operand) (ho : o.op = .load ty x)
    (n e T b : Nat) (f : Nat → Value) (hx : a.eval x = .pointer (some ⟨b, 0, none⟩)) (h : w.rowIs b T n f)
    (hu : Try.prog.underlying ty = some (.array n e)) (hi : (Try.prog.info? ty).map (·.size) = some n)
    (hk : wpList Try.prog ops Q rest (a.put o.dst (.agg (arrA n f))) w) : wpList Try.prog ops Q (o :: rest) a w :=
  wpList_load_row hgd ty x ho b hx T _ (0, 0) _ (heap_of_row h) hu rfl (siz_arr hi) hk
theorem store_arr {ops : Array Oper} {rest : List Oper} {o : Oper} {a : Act} {w : World} {Q : Exit → Act → World → Prop} (hgd : o.guard = none) (ty : TypeId) (x y : Operand) (ho : o.op = .store ty x y)
    (n T b : Nat) (f g : Nat → Value) (hx : a.eval x = .pointer (some ⟨b, 0, none⟩)) (hy : a.eval y = .agg (arrA n g)) (h : w.rowIs b T n f)
    (hi : (Try.prog.info? ty).map (·.size) = some n) (h1 : ∀ i, (g i).oneCell' = true)
    (hk : wpList Try.prog ops Q rest (a.put o.dst undef) (w.setRow b (arrA n g))) : wpList Try.prog ops Q (o :: rest) a w :=
  wpList_store_row hgd ty x y ho b _ hx hy T _ (heap_of_row h) (siz_arr hi) (by rw [arrA_size, arrA_size]) (arrA_one n g h1) hk
theorem result_arr {fn : Func} {p : Tmp} {ty : TypeId} (hf : fn.results = #[.cell p ty]) (tmps : Array Value) (w : World) (n e T b : Nat) (f : Nat → Value)
    (hp : tmps.getD p undef = .pointer (some ⟨b, 0, none⟩)) (h : w.rowIs b T n f)
    (hu : Try.prog.underlying ty = some (.array n e)) (hi : (Try.prog.info? ty).map (·.size) = some n) :
    (results fn tmps).run Try.prog w = .ok (.agg (arrA n f)) w :=
  results_cell_row hf tmps w b T _ (0, 0) _ hp (heap_of_row h) hu rfl (siz_arr hi)

/-- What copy leaves: k of f's cells from place off on. -/
def copyF (off k : Nat) (f cur : Nat → Value) : Nat → Value := fun j => if off ≤ j ∧ j < off + k then f (j - off) else cur j
theorem copy_list (n off k : Nat) (f cur : Nat → Value) (h : off + k ≤ n) :
    ((arrA n cur).toList.take off ++ (((List.range k).map f) ++ (arrA n cur).toList.drop (off + ((List.range k).map f).length))).toArray = arrA n (copyF off k f cur) := by
  unfold arrA
  refine congrArg List.toArray (List.ext_getElem? fun j => ?_)
  simp only [List.getElem?_append, List.getElem?_map, List.getElem?_take, List.getElem?_drop, List.length_map, List.length_range, List.length_take, List.getElem?_range]
  have hm : min off n = off := by omega
  rw [hm]
  by_cases h1 : j < off
  · have hv : copyF off k f cur j = cur j := if_neg (by omega)
    have h4 : j < n := by omega
    simp [h1, h4, hv]
  · by_cases h2 : j - off < k
    · have hv : copyF off k f cur j = f (j - off) := if_pos (by omega)
      have h4 : j < n := by omega
      simp [h1, h2, h4, hv]
    · have hv : copyF off k f cur j = cur j := if_neg (by omega)
      have h5 : off + k + (j - off - k) = j := by omega
      by_cases h4 : j < n
      · simp [h1, h2, h5, h4, hv]
      · simp [h1, h2, h5, h4]
theorem copy_arr {w : World} {ops : Array Oper} {rest : List Oper} {o : Oper} {a : Act} {Q : Exit → Act → World → Prop} (hgd : o.guard = none) (d s : Operand) (dT sT : TypeId)
    (ho : o.op = .call { callee := .builtin .copy, args := #[d, s], argTypes := #[dT, sT] }) (elem : TypeId) (hu : Try.prog.underlying dT = some (.slice elem)) (hsz : (Try.prog.info? elem).map (·.size) = some 1)
    (g off k n t S T ns dl dCap sl sCap : Nat) (f cur : Nat → Value) (hd : a.eval d = .slice (some ⟨g, off, none⟩) dl dCap) (hs : a.eval s = .slice (some ⟨S, 0, none⟩) sl sCap)
    (hk : k = Nat.min sl dl) (hg : w.rowIs g t n cur) (hS : w.rowIs S T ns f) (hkn : k ≤ ns) (hfit : off + k ≤ n) (h1 : ∀ i, (f i).oneCell' = true)
    (h : wpList Try.prog ops Q rest (a.put o.dst (goInt k)) (w.setRow g (arrA n (copyF off k f cur)))) : wpList Try.prog ops Q (o :: rest) a w := by
  have hl : ((List.range k).map f).length = k := by simp
  refine wpList_copy_own hgd d s dT sT ho elem hu hsz g off dl dCap ⟨S, 0, none⟩ sl sCap hd hs (arrA n cur) t (heap_of_row hg) ((List.range k).map f) (by rw [hl, hk]) ?_ (by rw [hl, arrA_size]; exact hfit) ?_ ?_
  · intro j v hv
    have hj : j < k := by
      have := (List.getElem?_eq_some_iff.1 hv).1
      simpa using this
    have hadd : (⟨S, 0, none⟩ : Addr).add j = ⟨S, j, none⟩ := by unfold Addr.add; split <;> simp_all
    rw [hadd, hS.cell (by omega)]
    simpa [hj, List.getElem?_range] using hv
  · intro v hv
    simp only [List.mem_map, List.mem_range] at hv
    obtain ⟨i, _, rfl⟩ := hv
    exact h1 i
  · rw [copy_list n off k f cur hfit, hl]
    exact h
end Go.Proofs.Ytnjcganknpnjcaa
