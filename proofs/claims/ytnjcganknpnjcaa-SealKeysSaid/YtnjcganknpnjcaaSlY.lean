/- num's reference: lengths and rows as bytes. -/
import Derived.Test.YtnjcganknpnjcaaSlX
import Derived.Test.YtnjcganknpnjcaaLzRC
namespace Go.Proofs.Ytnjcganknpnjcaa
open Go.RowKit

theorem conv_kept1 (g : Nat) (A wx : World) (c : UInt8) (h : A.heap[g]? = some (.cells #[.int .u8 (c.toNat : Int)] 5)) (hb : Below A.heap.size A wx) :
    (convert 46 9 (.slice (some ⟨g, 0, none⟩) 1 1)).run Try.prog wx = .ok (.string ⟨#[c]⟩) wx := by
  have hx := (hb.block _ (lt_of_block h)).trans h
  refine conv_row (base := 0) (l := [c]) ⟨by simp [Lib.byteCells], .inr ⟨_, _, _, rfl, Nat.zero_le _, hx, Nat.le_refl _, by unfold maxLen; simp, by simp, ?_⟩⟩
  simp [Lib.byteCells]
def lenB (n : Nat) : ByteArray := ⟨(lenL n).toArray⟩
theorem lenB_size (n : Nat) : (lenB n).size ≤ n / 128 + 1 := by
  show (lenL n).toArray.size ≤ _
  rw [List.size_toArray]
  exact lenL_length n

set_option maxRecDepth 100000 in
set_option maxHeartbeats 2000000 in
theorem rlength_any (n : Nat) : ∀ (w : World), n ≤ 1000000000000 → Calls Try.prog 85 #[.int .i64 (n : Int)] w fun e w' => e = .returned (.string (lenB n)) ∧ Below w.heap.size w w' := by
  induction n using Nat.strongRecOn with
  | _ n ih =>
    intro w hn
    by_cases hlt : n < 128
    · clear ih
      have c0 : decide ((n : Int) < 128) = true := decide_eq_true (by omega)
      have c1 : (n : Int) % 256 = (n : Int) := by omega
      obtain ⟨c, hc⟩ : ∃ c : UInt8, UInt8.ofNat n = c := ⟨_, rfl⟩
      have hcn : (n : Int) = (c.toNat : Int) := by rw [← hc]; simp; omega
      have hcv := conv_one0 w c
      rw [← hcn] at hcv
      have hfin : (⟨#[c]⟩ : ByteArray) = lenB n := by rw [lenB, lenL_small n hlt, hc]
      have Hfin := Lib.hid hfin
      clear hc hcn hfin
      go_enter Try.func85, Try.ntmps85
      go_wp2
      go_ret
      exact ⟨by first | rfl | (rw [Hfin.out]; rfl), (Below.refl _ w).alloc (Nat.le_refl _) _⟩
    · have c0 : decide ((n : Int) < 128) = false := decide_eq_false (by omega)
      obtain ⟨q, hq⟩ : ∃ q, n / 128 = q := ⟨_, rfl⟩
      have e2 : (n : Int) / 128 = (q : Int) := by omega
      obtain ⟨c, hc⟩ : ∃ c : UInt8, UInt8.ofNat (n % 128 + 128) = c := ⟨_, rfl⟩
      have hcn : (n : Int) % 128 + 128 = (c.toNat : Int) := by rw [← hc]; simp; omega
      have hcl : c.toNat < 256 := c.toNat_lt
      have e3 : IntKind.u8.wrap (c.toNat : Int) = (c.toNat : Int) := IntWalk.u8_in _ (by omega)
      obtain ⟨k, hk⟩ : ∃ k, n % 128 = k := ⟨_, rfl⟩
      have e4 : (n : Int).tmod 128 = (k : Int) := by rw [Int.tmod_eq_emod_of_nonneg (by omega)]; omega
      have e5 : IntKind.i64.wrap ((k : Int) + 128) = (c.toNat : Int) := by rw [IntWalk.i64_in _ (by omega)]; omega
      have e6 : (n : Int).tdiv 128 = (q : Int) := by rw [Int.tdiv_eq_ediv_of_nonneg (by omega)]; exact e2
      have e7 : IntKind.i64.wrap (q : Int) = (q : Int) := IntWalk.i64_in _ (by omega)
      have e8 : IntKind.i64.wrap (k : Int) = (k : Int) := IntWalk.i64_in _ (by omega)
      have ih' := fun W => ih q (by omega) W (by omega)
      have hqs := lenB_size q
      obtain ⟨r, hr⟩ : ∃ r, lenB q = r := ⟨_, rfl⟩
      rw [hr] at ih' hqs
      have hrs : r.size ≤ 10000000000 := by omega
      have hfin : (⟨#[c]⟩ : ByteArray) ++ r = lenB n := by
        rw [← hr, lenB, lenB, lenL_more n hlt, hc, hq]
        apply ByteArray.ext
        simp
      have Hfin := Lib.hid hfin
      clear ih hfin hr hc hq hqs
      have hcv := fun W => conv_one W c
      have hcv0 := fun W => conv_one0 W c
      go_enter Try.func85, Try.ntmps85
      go_wp2
      have hcw : (convert 46 9 (.slice (some ⟨w.heap.size, 0, none⟩) 1 1)).run Try.prog ((w.drew).alloc (.cells #[.int .u8 (c.toNat : Int)] 5)) = .ok (.string ⟨#[c]⟩) ((w.drew).alloc (.cells #[.int .u8 (c.toNat : Int)] 5)) := conv_one0 (w.drew) c
      go_region_with (go_at_call 85; refine (ih' _).mono ?_; rintro e wx ⟨rfl, hbx⟩; try (have hcx : (convert 46 9 (.slice (some ⟨w.heap.size, 0, none⟩) 1 1)).run Try.prog wx = .ok (.string ⟨#[c]⟩) wx := conv_kept1 _ _ wx c (by exact heap_new (w.drew) _) hbx))
      all_goals
        go_wp2
        go_ret
        refine ⟨by first | rfl | (rw [← Hfin.out]; rfl), ?_⟩
        first
        | exact Below.alloc (show Below w.heap.size w wx from ⟨hbx.os, hbx.tape, hbx.output, hbx.size, hbx.block⟩) hbx.size _
        | exact ((Below.refl _ w).drew.alloc (Nat.le_refl _) _).trans (hbx.mono ((Below.refl _ w).drew.alloc (Nat.le_refl _) _).size)

set_option maxRecDepth 100000 in
set_option maxHeartbeats 4000000 in
theorem rrow_any (b : Nat) (l : List ByteArray) (w : World) (hc : ∀ (j : Nat) s, l[j]? = some s → w.cell? ⟨b, j, none⟩ = some (.string s)) (hbl : b < w.heap.size) (hk : l.length ≤ 1000) (hs : ∀ s ∈ l, s.size ≤ 1000000) :
    Calls Try.prog 49 #[.slice (some ⟨b, 0, none⟩) l.length l.length] w fun e w' => e = .returned (.string (rowV l)) ∧ Below w.heap.size w w' := by
  obtain ⟨k, hkl⟩ : ∃ k, l.length = k := ⟨_, rfl⟩
  have hlen : ∀ i, (rowV (l.take i)).size ≤ 10000000000 := fun i => by
    have h1 := rowL_le (l.take i) 2000001 (fun s h => by have := hs s (List.mem_of_mem_take h); omega)
    have h2 : (l.take i).length ≤ 1000 := by rw [List.length_take]; omega
    have h3 := Nat.mul_le_mul_right 2000001 h2
    rw [rowV_size]
    omega
  rw [hkl] at hk ⊢
  have Hkl := Lib.hid hkl
  clear hkl
  go_enter Try.func49, Try.ntmps49
  go_wp2_with fail
  go_loopw [8, 3] (fun a x wx => ∃ i : Nat, i ≤ k ∧ a = .int .i64 (i : Int) ∧ x = .string (rowV (l.take i)) ∧ Below w.heap.size w wx) (fun a _ _ => k - (intOf a).toNat)
  case atStart => exact ⟨0, by omega, rfl, rfl, Below.refl _ _⟩
  case round =>
    obtain ⟨i, hi, rfl, rfl, hbw⟩ := hrel
    by_cases hlt : i < k
    · have c0 : decide ((i : Int) < (k : Int)) = true := decide_eq_true (by omega)
      have c2 : (i : Int) < (k : Int) := by omega
      obtain ⟨s, hsi⟩ : ∃ s, l[i]? = some s := ⟨_, List.getElem?_eq_getElem (by have := Hkl.out; omega)⟩
      have hcell : wr.cell? ⟨b, i, none⟩ = some (.string s) := (hbw.cell (p := ⟨b, i, none⟩) hbl).trans (hc i s hsi)
      have hss : s.size ≤ 1000000 := hs s (List.mem_of_getElem? hsi)
      have hst : rowV (l.take i) ++ (lenB s.size ++ s) = rowV (l.take (i + 1)) := by
        rw [take_snoc l i s hsi, rowV, rowV, rowL_snoc, lenB]
        apply ByteArray.ext
        simp
      have hli := hlen i
      obtain ⟨x, hx⟩ : ∃ x, rowV (l.take i) = x := ⟨_, rfl⟩
      rw [hx] at hst hli ⊢
      have hls := lenB_size s.size
      obtain ⟨y, hy⟩ : ∃ y, lenB s.size = y := ⟨_, rfl⟩
      have hlc := rlength_any s.size wr (by omega)
      rw [hy] at hst hls hlc
      have Hst := Lib.hid hst
      clear hst hx hsi hy
      have hyl : y.size ≤ 1000000 := by omega
      have hcat1 : ¬ 9223372036854775807 < y.size + s.size := by omega
      have hcat2 : ¬ 9223372036854775807 < x.size + (y ++ s).size := by rw [ByteArray.size_append]; omega
      clear hls
      go_wp2_with fail
      refine hlc.mono ?_
      rintro e w1 ⟨rfl, hb1⟩
      have hbw1 := hbw.trans (hb1.mono hbw.size)
      go_wp2
      go_roundw
      case rel => exact ⟨i + 1, by omega, by go_num, by rw [← Hst.out], hbw1⟩
      case measure => simp [intOf]; omega
    · have c0 : decide ((i : Int) < (k : Int)) = false := decide_eq_false (by omega)
      obtain rfl : i = k := by omega
      rw [← Hkl.out, List.take_length]
      go_wp2
      go_ret
      exact ⟨rfl, hbw⟩
end Go.Proofs.Ytnjcganknpnjcaa
