/- lz: the reference's Pack: the same tokens. -/
import Derived.Test.YtnjcganknpnjcaaLzRB
import Derived.Deep.RegionWith
namespace Go.Proofs.Ytnjcganknpnjcaa
open Go.RowKit

theorem conv_three (w : World) (a b c : UInt8) : (convert 46 9 (.slice (some ⟨w.heap.size, 0, none⟩) 3 3)).run Try.prog (w.alloc (.cells #[.int .u8 (a.toNat : Int), .int .u8 (b.toNat : Int), .int .u8 (c.toNat : Int)] 5)).drew = .ok (.string ⟨#[a, b, c]⟩) (w.alloc (.cells #[.int .u8 (a.toNat : Int), .int .u8 (b.toNat : Int), .int .u8 (c.toNat : Int)] 5)).drew :=
  conv_lit w [a, b, c] (by simp)
theorem conv_three0 (w : World) (a b c : UInt8) : (convert 46 9 (.slice (some ⟨w.heap.size, 0, none⟩) 3 3)).run Try.prog (w.alloc (.cells #[.int .u8 (a.toNat : Int), .int .u8 (b.toNat : Int), .int .u8 (c.toNat : Int)] 5)) = .ok (.string ⟨#[a, b, c]⟩) (w.alloc (.cells #[.int .u8 (a.toNat : Int), .int .u8 (b.toNat : Int), .int .u8 (c.toNat : Int)] 5)) :=
  conv_lit0 w [a, b, c] (by simp)

theorem conv_kept (w A wx : World) (a b c : UInt8) (h : A.heap[w.heap.size]? = some (.cells #[.int .u8 (a.toNat : Int), .int .u8 (b.toNat : Int), .int .u8 (c.toNat : Int)] 5)) (hb : Below A.heap.size A wx) :
    (convert 46 9 (.slice (some ⟨w.heap.size, 0, none⟩) 3 3)).run Try.prog wx = .ok (.string ⟨#[a, b, c]⟩) wx := by
  have hx := (hb.block _ (lt_of_block h)).trans h
  refine conv_row (base := 0) (l := [a, b, c]) ⟨by simp [Lib.byteCells], .inr ⟨_, _, _, rfl, Nat.zero_le _, hx, Nat.le_refl _, by unfold maxLen; simp, by simp, ?_⟩⟩
  simp [Lib.byteCells]

def RPackInv (s : ByteArray) (fr k : Nat) (y z : ByteArray) : Prop :=
  z.data.toList = seg s fr k ∧ y.size ≤ 2 * fr ∧ z.size = k - fr ∧ y.data.toList ++ packFrom s fr k = pack s

set_option maxRecDepth 100000 in
set_option maxHeartbeats 2000000 in
theorem rpack_any (s : ByteArray) (w : World) (hs : s.size ≤ 60000) :
    Calls Try.prog 27 #[.string s] w fun e w' => e = .returned (.string ⟨(pack s).toArray⟩) ∧ Below w.heap.size w w' := by
  go_enter Try.func27, Try.ntmps27
  go_wp2
  go_loopw [3, 4, 5] (fun a b c wr => ∃ (y z : ByteArray) (fr k : Nat), fr ≤ k ∧ k ≤ s.size ∧ a = .string y ∧ b = .string z ∧ c = .int .i64 (k : Int) ∧ Hid (RPackInv s fr k y z) ∧ Below w.heap.size w wr) (fun _ _ c _ => s.size - (intOf c).toNat)
  case atStart => exact ⟨⟨#[]⟩, ⟨#[]⟩, 0, 0, by omega, by omega, rfl, rfl, rfl, Lib.hid ⟨rfl, Nat.le_refl _, rfl, rfl⟩, Below.refl _ _⟩
  case round =>
    obtain ⟨y, z, fr, k, hfk, hks, rfl, rfl, rfl, H, hbel⟩ := hrel
    obtain ⟨hzd, hys, hzs, hpk⟩ := H.out
    clear H
    have Hpk := Lib.hid hpk
    have Hzd := Lib.hid hzd
    clear hpk hzd
    by_cases hlt : k < s.size
    · have t0 : decide ((k : Int) < (s.size : Int)) = true := decide_eq_true (by omega)
      have hrb := rscan_best s k
      have hrf := rscan_facts s k k
      go_wp2_with fail
      refine (rbest_any s k wr hs hlt).mono ?_
      rintro e w1 ⟨rfl, nd, rfl⟩
      obtain ⟨n, hn⟩ : ∃ n, (rscan s k k).1 = n := ⟨_, rfl⟩
      obtain ⟨d, hd⟩ : ∃ d, (rscan s k k).2 = d := ⟨_, rfl⟩
      rw [hn, hd] at hrf
      rw [hn] at hrb
      rw [hn, hd]
      have Hn := Lib.hid hn
      have Hd := Lib.hid hd
      clear hn hd
      by_cases h4 : n < 4
      · have t1 : decide ((n : Int) < 4) = true := decide_eq_true (by omega)
        have h5 : (bestN s k).1 < 4 := by
          rcases hrb with h | h
          · exact h.2
          · omega
        have Hp := Lib.hid (packFrom_one s fr k hlt h5)
        have hx : (s.extract k (k + 1)).size = 1 := by simp [ByteArray.size_extract]; omega
        have hsg : seg s fr (k + 1) = seg s fr k ++ (s.extract k (k + 1)).data.toList := by
          rw [Lib.extract_data]
          unfold seg
          rw [show k + 1 - fr = (k - fr) + (k + 1 - k) by omega, List.take_add, List.drop_drop, show fr + (k - fr) = k by omega]
        have Hsg := Lib.hid hsg
        obtain ⟨x, hx1⟩ : ∃ x, s.extract k (k + 1) = x := ⟨_, rfl⟩
        rw [hx1] at hx Hsg
        clear hrb hrf h5 hsg
        go_wp2
        obtain ⟨z2, hz2⟩ : ∃ z2, z ++ x = z2 := ⟨_, rfl⟩
        have hzs2 : z2.size = k + 1 - fr := by rw [← hz2, ByteArray.size_append, hx]; omega
        rw [hz2]
        go_roundw
        case rel =>
          refine ⟨y, z2, fr, k + 1, by omega, by omega, rfl, rfl, by go_num, Lib.hid ⟨?_, hys, hzs2, ?_⟩, below_drewN hbel _⟩
          · rw [← hz2, Hsg.out, ← Hzd.out]; simp
          · rw [← Hp.out]; exact Hpk.out
        case measure => simp [intOf]; omega
      · have t1 : decide ((n : Int) < 4) = false := decide_eq_false (by omega)
        have hb : bestN s k = (n, d) := by
          rcases hrb with h | h
          · omega
          · rw [h.2]; exact Prod.ext Hn.out Hd.out
        have Hc := Lib.hid (packFrom_copy s fr k hlt (by rw [hb]; exact h4))
        have hfac := bestN_facts s k
        rw [hb] at Hc hfac
        obtain ⟨g1, g2, g3, g5, g6⟩ : 4 ≤ n ∧ n ≤ 131 ∧ 1 ≤ d ∧ d ≤ k ∧ k + n ≤ s.size := by
          rcases hfac with ⟨h0, _⟩ | ⟨h1, h2, h3, h5, h6, _⟩
          · simp at h0; omega
          · exact ⟨h1, h2, h3, h5, h6⟩
        have hrl : (runB z.data.toList).length ≤ 2 * (k - fr) := by rw [Hzd.out]; exact runB_seg_le s fr k hks
        obtain ⟨r, hr⟩ : ∃ r : ByteArray, (⟨(runB z.data.toList).toArray⟩ : ByteArray) = r := ⟨_, rfl⟩
        have hrs : r.size ≤ 2 * (k - fr) := by rw [← hr]; show (runB z.data.toList).toArray.size ≤ _; rw [List.size_toArray]; exact hrl
        have Hr := Lib.hid hr
        obtain ⟨c1, hc1⟩ : ∃ c : UInt8, UInt8.ofNat (n + 124) = c := ⟨_, rfl⟩
        obtain ⟨c2, hc2⟩ : ∃ c : UInt8, UInt8.ofNat d = c := ⟨_, rfl⟩
        obtain ⟨c3, hc3⟩ : ∃ c : UInt8, UInt8.ofNat (d / 256) = c := ⟨_, rfl⟩
        have a1 : IntKind.u8.wrap ((n : Int) + 124) = (c1.toNat : Int) := by rw [IntWalk.u8_in _ (by omega), ← hc1]; simp; omega
        have a2 : IntKind.u8.wrap ((d : Int).tmod 256) = (c2.toNat : Int) := by rw [Int.tmod_eq_emod_of_nonneg (by omega), IntWalk.u8_in _ (by omega), ← hc2]; simp
        have a3 : IntKind.u8.wrap ((d : Int) / 256) = (c3.toNat : Int) := by rw [IntWalk.u8_in _ (by omega), ← hc3]; simp; omega
        have b1 : IntKind.i64.wrap ((n : Int) + 124) = (n : Int) + 124 := IntWalk.i64_in _ (by omega)
        have b2 : IntKind.i64.wrap ((d : Int) / 256) = (d : Int) / 256 := IntWalk.i64_in _ (by omega)
        have hzle : z.size ≤ 60000 := by omega
        simp only [hc1, hc2, hc3] at Hc
        have hcv := fun W => conv_three W c1 c2 c3
        have hcv0 := fun W => conv_three0 W c1 c2 c3
        clear hc1 hc2 hc3 hr hfac hrb hrf hb hrl
        have hcw : (convert 46 9 (.slice (some ⟨wr.heap.size, 0, none⟩) 3 3)).run Try.prog ((wr.drewN (nd + 1)).alloc (.cells #[.int .u8 (c1.toNat : Int), .int .u8 (c2.toNat : Int), .int .u8 (c3.toNat : Int)] 5)) = .ok (.string ⟨#[c1, c2, c3]⟩) ((wr.drewN (nd + 1)).alloc (.cells #[.int .u8 (c1.toNat : Int), .int .u8 (c2.toNat : Int), .int .u8 (c3.toNat : Int)] 5)) := conv_three0 (wr.drewN (nd + 1)) c1 c2 c3
        go_wp2
        go_region_with (go_at_call 61; refine (rrun_any z _ hzle).mono ?_; rintro e wx ⟨rfl, hbx⟩; rw [Hr.out]; try (have hcx : (convert 46 9 (.slice (some ⟨wr.heap.size, 0, none⟩) 3 3)).run Try.prog wx = .ok (.string ⟨#[c1, c2, c3]⟩) wx := conv_kept (wr.drewN (nd + 1)) _ wx c1 c2 c3 (by exact heap_new (wr.drewN (nd + 1)) _) hbx))
        all_goals
          go_wp2
          go_roundw
          case rel =>
            refine ⟨y ++ r ++ ⟨#[c1, c2, c3]⟩, ⟨#[]⟩, k + n, k + n, Nat.le_refl _, by omega, rfl, rfl, by go_num, Lib.hid ⟨?_, ?_, ?_, ?_⟩, ?_⟩
            · simp [seg]
            · have : ((⟨#[c1, c2, c3]⟩ : ByteArray)).size = 3 := rfl
              rw [ByteArray.size_append, ByteArray.size_append, this]
              omega
            · show 0 = _; omega
            · rw [← Hpk.out, Hc.out, ← Hr.out, ← Hzd.out]
              simp
            · first
              | exact ((below_drewN hbel (nd + 1)).trans (hbx.mono hbel.size)).alloc (Nat.le_trans hbel.size hbx.size) _
              | exact ((below_drewN hbel (nd + 1)).alloc hbel.size _).trans (hbx.mono ((below_drewN hbel (nd + 1)).alloc hbel.size _).size)
          case measure => simp [intOf]; omega
    · have t0 : decide ((k : Int) < (s.size : Int)) = false := decide_eq_false (by omega)
      have Hp := Lib.hid (packFrom_end s fr k (by omega))
      obtain rfl : k = s.size := by omega
      have hrl : (runB z.data.toList).length ≤ 2 * (s.size - fr) := by rw [Hzd.out]; exact runB_seg_le s fr _ (Nat.le_refl _)
      obtain ⟨r, hr⟩ : ∃ r : ByteArray, (⟨(runB z.data.toList).toArray⟩ : ByteArray) = r := ⟨_, rfl⟩
      have hrs : r.size ≤ 2 * (s.size - fr) := by rw [← hr]; show (runB z.data.toList).toArray.size ≤ _; rw [List.size_toArray]; exact hrl
      have Hr := Lib.hid hr
      clear hr hrl
      go_wp2_with fail
      refine (rrun_any z wr (by omega)).mono ?_
      rintro e w1 ⟨rfl, hb1⟩
      rw [Hr.out]
      go_wp2
      go_ret
      refine ⟨ret_val ?_, hbel.trans (hb1.mono hbel.size)⟩
      rw [← Hpk.out, Hp.out, ← Hzd.out]
      refine congrArg Value.string (ByteArray.ext (Array.ext' ?_))
      rw [← Hr.out]
      simp

end Go.Proofs.Ytnjcganknpnjcaa
