/- num: lengths and rows as bytes. -/
import Derived.Test.YtnjcganknpnjcaaSlW
import Derived.Test.YtnjcganknpnjcaaLzF
import Derived.Lib.SmallJoins
namespace Go.Proofs.Ytnjcganknpnjcaa
open Go.RowKit

theorem info5u : (Try.prog.info? 5).map (fun i => (i.zero, i.size, i.bytes)) = some (some (.int .u8 0), 1, 1) := by kernel_rfl
theorem uCells_append (a b : List UInt8) : uCells (a ++ b) = uCells a ++ uCells b := by simp [uCells]
theorem ofNat_cell (n : Nat) (h : n < 256) : uCells [UInt8.ofNat n] = [.int .u8 (n : Int)] := by
  have : (UInt8.ofNat n).toNat = n := by simp; omega
  simp [uCells]
  omega
theorem lenL_length_le (n : Nat) : (lenL n).length ≤ n + 1 := by have := lenL_length n; omega

set_option maxRecDepth 100000 in
set_option maxHeartbeats 2000000 in
theorem length_any (n : Nat) (w : World) (hn : n ≤ 1000000000000) :
    Calls Try.prog 82 #[.int .i64 (n : Int)] w fun e w' => ∃ v, e = .returned v ∧ w'.ownsRow w.heap.size 5 1 v (lenL n).length (uCells (lenL n)) ∧ Below w.heap.size w w' := by
  obtain ⟨i0, hi, hz0, hz1, hz2⟩ := info_parts info5u
  go_enter Try.func82, Try.ntmps82
  go_wp2_with fail
  go_loopw [0, 3] (fun a v wx => ∃ (m : Nat) (l : List UInt8), a = .int .i64 (m : Int) ∧ m ≤ n ∧ Hid (l.length + m ≤ n) ∧ Hid (lenL n = l ++ lenL m) ∧ wx.ownsRow w.heap.size 5 1 v l.length (uCells l) ∧ Below w.heap.size w wx) (fun a _ _ => (intOf a).toNat)
  case atStart => exact ⟨n, [], rfl, Nat.le_refl _, Lib.hid (by simp), Lib.hid rfl, World.ownsRow_nil _ _ _ _, Below.refl _ _⟩
  case round =>
    obtain ⟨m, l, rfl, hm, hl, Hlen, hown, hb⟩ := hrel
    have hll : l.length ≤ 1000000000000 := by have := hl.out; omega
    by_cases hlt : m < 128
    · have c0 : decide ((128 : Int) ≤ (m : Int)) = false := decide_eq_false (by omega)
      have c1 : (m : Int) % 256 = (m : Int) := by omega
      go_wp2_with (at_builtin; refine wpList_append_own _ rfl _ _ 46 rfl w.heap.size 5 i0 (.int .u8 0) 1 1 Try.underlying46 hi hz0 hz1 hz2 rfl (by decide) _ _ _ rfl (hown.alloc _) ⟨wr.heap.size, 0, none⟩ 1 1 [.int .u8 (m : Int)] rfl rfl ?c1 ?c2 ?c3 ?c4 ?c5 ?_)
      case c1 =>
        intro j u hj
        match j, hj with
        | 0, hj => simp at hj; subst hj; exact cell_new1 wr _ _
      case c2 => intro u hu; simp at hu; subst hu; rfl
      case c3 => unfold maxLen; omega
      case c4 => omega
      case c5 => have := hb.size; simp; omega
      intro v' w1 hown' hgrow _
      have hfin : uCells l ++ [.int .u8 (m : Int)] = uCells (lenL n) := by rw [Hlen.out, uCells_append, lenL_small m hlt, ofNat_cell m (by omega)]
      have hfl : l.length + 1 = (lenL n).length := by rw [Hlen.out, lenL_small m hlt]; simp
      rw [hfin, hfl] at hown'
      have hbf : Below w.heap.size w w1 := (hb.alloc hb.size _).grown hgrow (by have := hb.size; simp; omega) (fun k hk => (hown.lt k hk).1)
      clear hfin hfl c1
      go_wp2
      go_ret
      exact ⟨_, rfl, hown', hbf⟩
    · have c0 : decide ((128 : Int) ≤ (m : Int)) = true := decide_eq_true (by omega)
      obtain ⟨x, hx⟩ : ∃ x, m % 128 + 128 = x := ⟨_, rfl⟩
      have e1 : (m : Int) % 128 + 128 = (x : Int) := by omega
      have hcell := ofNat_cell x (by omega)
      obtain ⟨q, hq⟩ : ∃ q, m / 128 = q := ⟨_, rfl⟩
      have e2 : (m : Int) / 128 = (q : Int) := by omega
      have hlm := lenL_more m hlt
      rw [hx, hq] at hlm
      have Hlm := Lib.hid hlm
      have Hq : Hid (l.length + 1 + q ≤ n ∧ q ≤ n ∧ q < m) := Lib.hid (by have := hl.out; omega)
      clear hx hq hlm
      go_wp2_with (at_builtin; refine wpList_append_own _ rfl _ _ 46 rfl w.heap.size 5 i0 (.int .u8 0) 1 1 Try.underlying46 hi hz0 hz1 hz2 rfl (by decide) _ _ _ rfl (hown.alloc _) ⟨wr.heap.size, 0, none⟩ 1 1 [.int .u8 (x : Int)] rfl rfl ?c1 ?c2 ?c3 ?c4 ?c5 ?_)
      case c1 =>
        intro j u hj
        match j, hj with
        | 0, hj => simp at hj; subst hj; exact cell_new1 wr _ _
      case c2 => intro u hu; simp at hu; subst hu; rfl
      case c3 => unfold maxLen; omega
      case c4 => omega
      case c5 => have := hb.size; simp; omega
      intro v' w1 hown' hgrow _
      rw [← hcell, ← uCells_append] at hown'
      have hbf : Below w.heap.size w w1 := (hb.alloc hb.size _).grown hgrow (by have := hb.size; simp; omega) (fun k hk => (hown.lt k hk).1)
      clear hcell
      go_wp2
      go_roundw
      case rel =>
        obtain ⟨q1, q2, q3⟩ := Hq.out
        refine ⟨q, l ++ [UInt8.ofNat x], rfl, q2, Lib.hid (by simp; omega), Lib.hid (by rw [Hlen.out, Hlm.out]; simp), by simpa using hown', hbf⟩
      case measure =>
        obtain ⟨q1, q2, q3⟩ := Hq.out
        simp [intOf]; omega

theorem take_snoc (l : List ByteArray) (i : Nat) (s : ByteArray) (h : l[i]? = some s) : l.take (i + 1) = l.take i ++ [s] := by
  obtain ⟨hi, hs⟩ := List.getElem?_eq_some_iff.1 h
  rw [List.take_add_one, h]
  rfl
/-- How many bytes a row of texts has at most. -/
theorem rowL_le (l : List ByteArray) (M : Nat) (h : ∀ s ∈ l, s.size + s.size / 128 + 1 ≤ M) : (rowL l).length ≤ l.length * M := by
  induction l with
  | nil => simp [rowL]
  | cons s r ih =>
    have h1 := ih fun x hx => h x (by simp [hx])
    have h2 := lenL_length s.size
    have h3 := h s (by simp)
    have e : s.data.toList.length = s.size := by simp
    simp only [rowL, List.length_append, e, List.length_cons, Nat.succ_mul]
    omega

set_option maxRecDepth 100000 in
set_option maxHeartbeats 4000000 in
theorem nrow_any (b : Nat) (l : List ByteArray) (w : World) (hc : ∀ (j : Nat) s, l[j]? = some s → w.cell? ⟨b, j, none⟩ = some (.string s)) (hbl : b < w.heap.size) (hk : l.length ≤ 1000) (hs : ∀ s ∈ l, s.size ≤ 1000000) :
    Calls Try.prog 45 #[.slice (some ⟨b, 0, none⟩) l.length l.length] w fun e w' => e = .returned (.string (rowV l)) ∧ Below w.heap.size w w' := by
  obtain ⟨k, hkl⟩ : ∃ k, l.length = k := ⟨_, rfl⟩
  have hlen : ∀ i, (rowL (l.take i)).length ≤ 10000000000 := fun i => by
    have h1 := rowL_le (l.take i) 2000001 (fun s h => by have := hs s (List.mem_of_mem_take h); omega)
    have h2 : (l.take i).length ≤ 1000 := by rw [List.length_take]; omega
    have h3 := Nat.mul_le_mul_right 2000001 h2
    omega
  rw [hkl] at hk ⊢
  have Hkl := Lib.hid hkl
  clear hkl
  go_enter Try.func45, Try.ntmps45
  have b0 : Bld w.heap.size w.heap.size [] (w.alloc (.cells #[.pointer none, .slice none 0 0] 74)) := Lib.IsBuilderF.of (Lib.fresh_isBuilder 74 5 w)
  have b1 : Below w.heap.size w (w.alloc (.cells #[.pointer none, .slice none 0 0] 74)) := (Below.refl _ w).alloc (Nat.le_refl _) _
  go_wp2_with fail
  obtain ⟨W, hW⟩ : ∃ W, w.alloc (.cells #[.pointer none, .slice none 0 0] 74) = W := ⟨_, rfl⟩
  rw [hW] at b0 b1 ⊢
  clear hW
  go_loopw [8] (fun a wx => ∃ i : Nat, i ≤ k ∧ a = .int .i64 (i : Int) ∧ Bld w.heap.size w.heap.size (rowL (l.take i)) wx ∧ Below w.heap.size w wx ∧ w.heap.size < wx.heap.size) (fun a _ => k - (intOf a).toNat)
  case atStart => exact ⟨0, by omega, rfl, b0, b1, by rcases b0 with h | h <;> exact h.lt⟩
  case round =>
    clear b0 b1
    obtain ⟨i, hi, rfl, hbd, hbw, hlt0⟩ := hrel
    by_cases hlt : i < k
    · have c0 : decide ((i : Int) < (k : Int)) = true := decide_eq_true (by omega)
      have c2 : (i : Int) < (k : Int) := by omega
      obtain ⟨s, hsi⟩ : ∃ s, l[i]? = some s := ⟨_, List.getElem?_eq_getElem (by have := Hkl.out; omega)⟩
      have hcell : wr.cell? ⟨b, i, none⟩ = some (.string s) := (hbw.cell (p := ⟨b, i, none⟩) hbl).trans (hc i s hsi)
      have hss : s.size ≤ 1000000 := hs s (List.mem_of_getElem? hsi)
      have Hsi := Lib.hid hsi
      clear hsi
      go_wp2_with fail
      refine (length_any s.size wr (by omega)).mono ?_
      rintro e w1 ⟨v, rfl, hown, hb1⟩
      have hpos : 0 < (lenL s.size).length := by
        by_cases h : s.size < 128
        · rw [lenL_small _ h]; simp
        · rw [lenL_more _ h]; simp
      obtain ⟨g, cap, rfl⟩ := Go.Joins.ownsRow_form hown hpos
      have hg : wr.heap.size ≤ g := (hown.lt g rfl).1
      have hbd1 := hbd.below hb1
      have hbw1 := hbw.trans (hb1.mono hbw.size)
      have hlp := lenL_length s.size
      have hli := hlen i
      obtain ⟨ml, hml⟩ : ∃ ml, lenL s.size = ml := ⟨_, rfl⟩
      rw [hml] at hown hlp ⊢
      have hwr := wr_any w.heap.size w.heap.size g (rowL (l.take i)) ml cap w1 hbd1 (by omega) (fun j u hj => by
        have := hown.cells (g := g) rfl j u hj
        have hadd : (⟨g, 0, none⟩ : Addr).add j = ⟨g, j, none⟩ := by unfold Addr.add; split <;> simp_all
        rwa [hadd] at this) (by omega) hbw1.size
      have Hml := Lib.hid hml
      clear hml hpos
      go_wp2_with fail
      refine hwr.mono ?_
      rintro e w2 ⟨rfl, hbd2, hb2, _⟩
      have hbw2 := hbw1.trans hb2
      have hws := ws_any w.heap.size w.heap.size (rowL (l.take i) ++ ml) s w2 hbd2 (by simp; omega) hbw2.size
      go_wp2_with fail
      refine hws.mono ?_
      rintro e w3 ⟨rfl, hbd3, hb3, _⟩
      have hbw3 := hbw2.trans hb3
      have hst : rowL (l.take i) ++ ml ++ s.data.toList = rowL (l.take (i + 1)) := by rw [take_snoc l i s Hsi.out, rowL_snoc, Hml.out]
      rw [hst] at hbd3
      clear hst hwr hws
      go_wp2
      go_roundw
      case rel => exact ⟨i + 1, by omega, by go_num, hbd3, hbw3, by rcases hbd3 with h | h <;> exact h.lt⟩
      case measure => simp [intOf]; omega
    · have c0 : decide ((i : Int) < (k : Int)) = false := decide_eq_false (by omega)
      obtain rfl : i = k := by omega
      rw [← Hkl.out, List.take_length] at hbd
      go_wp2_with fail
      refine (Try.Builder_String_any_f _ _ _ wr hbd hbw.size).mono ?_
      rintro e w1 ⟨rfl, _, hb1⟩
      have hbw1 := hbw.trans hb1
      go_wp2
      go_ret
      exact ⟨rfl, hbw1⟩
end Go.Proofs.Ytnjcganknpnjcaa
