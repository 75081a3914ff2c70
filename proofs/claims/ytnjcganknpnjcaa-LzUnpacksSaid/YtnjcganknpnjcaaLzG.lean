/- lz: what Pack answers, for every text of at most 60000 bytes: the plain function 'pack'. -/
import Derived.Test.YtnjcganknpnjcaaLzF
namespace Go.Proofs.Ytnjcganknpnjcaa
open Go.RowKit Go.Maps Go.WideMaps

def PackInv (s : ByteArray) (w : World) (fr k : Nat) (wr : World) : Prop :=
  ∃ pre v D, Bld w.heap.size w.heap.size pre wr ∧ Finder s w.heap.size (w.heap.size + 2) (w.heap.size + 1) k v D wr ∧ pre.length ≤ 2 * fr ∧ pre ++ packFrom s fr k = pack s ∧ Below w.heap.size w wr

theorem pack_start (s : ByteArray) (w : World) : PackInv s w 0 0 (((w.alloc (.cells #[.pointer none, .slice none 0 0] 74)).alloc (.map #[] 0)).alloc (.cells #[.string s, .map (some (w.heap.size + 1)), .slice none 0 0] 79)) := by
  have e1 : (w.alloc (.cells #[.pointer none, .slice none 0 0] 74)).heap.size = w.heap.size + 1 := by simp
  have e2 : ((w.alloc (.cells #[.pointer none, .slice none 0 0] 74)).alloc (.map #[] 0)).heap.size = w.heap.size + 2 := by simp
  refine ⟨[], .slice none 0 0, .map [], ?_, ⟨⟨by omega, by omega, ?_, ?_, World.ownsRow_nil _ _ _ _⟩, ?_⟩, by simp, rfl, ?_⟩
  · exact (Lib.IsBuilderF.alloc (Lib.IsBuilderF.alloc (Lib.IsBuilderF.of (Lib.fresh_isBuilder 74 5 w)) _) _)
  · have := heap_new ((w.alloc (.cells #[.pointer none, .slice none 0 0] 74)).alloc (.map #[] 0)) (.cells #[.string s, .map (some (w.heap.size + 1)), .slice none 0 0] 79)
    rwa [e2] at this
  · have := World.ownsMap_made (H := Unit) (w.alloc (.cells #[.pointer none, .slice none 0 0] 74)) Try.prog 9 (plainElem Try.prog 3)
    rw [e1] at this
    exact this.alloc _
  · intro x
    exact ⟨rfl, fun p hp => by cases hp⟩
  · exact (((Below.refl _ w).alloc (Nat.le_refl _) _).alloc (by simp) _).alloc (by simp; omega) _

set_option maxRecDepth 100000 in
set_option maxHeartbeats 2000000 in
theorem pack_any (s : ByteArray) (w : World) (hs : s.size ≤ 60000) :
    Calls Try.prog 26 #[.string s] w fun e w' => e = .returned (.string ⟨(pack s).toArray⟩) ∧ Below w.heap.size w w' := by
  have hmm := @run_makeMap Try.prog
  have hst := Lib.hid (pack_start s w)
  go_enter Try.func26, Try.ntmps26
  go_wp2
  obtain ⟨W, hW⟩ : ∃ W, ((w.alloc (.cells #[.pointer none, .slice none 0 0] 74)).alloc (.map #[] 0)).alloc (.cells #[.string s, .map (some (w.heap.size + 1)), .slice none 0 0] 79) = W := ⟨_, rfl⟩
  rw [hW]
  have hst' : Hid (PackInv s w 0 0 W) := by rw [← hW]; exact hst
  clear hW hst hmm
  go_loopw [5, 6] (fun a b wr => ∃ fr k : Nat, fr ≤ k ∧ k ≤ s.size ∧ a = .int .i64 fr ∧ b = .int .i64 k ∧ Hid (PackInv s w fr k wr)) (fun _ b _ => s.size - (intOf b).toNat)
  case atStart => exact ⟨0, 0, by omega, by omega, rfl, rfl, hst'⟩
  case round =>
    clear hst'
    obtain ⟨fr, k, hfk, hks, rfl, rfl, H⟩ := hrel
    obtain ⟨pre, v, D, hb, hF, hpre, hpk, hbel⟩ := H.out
    clear H
    have Hpk := Lib.hid hpk
    clear hpk
    by_cases hlt : k < s.size
    · have t0 : decide ((k : Int) < (s.size : Int)) = true := decide_eq_true (by omega)
      go_wp2_with fail
      refine (best_call s _ _ _ k v D wr hF hs hlt).mono ?_
      rintro e w1 ⟨rfl, hb1⟩
      have hF1 := hF.keep hb1
      have hbd1 := hb.below hb1
      have hbl1 := hbel.trans (hb1.mono hbel.size)
      clear hF hb
      obtain ⟨n, hn⟩ : ∃ n, (bestN s k).1 = n := ⟨_, rfl⟩
      obtain ⟨d, hd⟩ : ∃ d, (bestN s k).2 = d := ⟨_, rfl⟩
      rw [hn, hd]
      have Hn := Lib.hid hn
      have Hd := Lib.hid hd
      clear hn hd
      by_cases h4 : n < 4
      · have t1 : decide ((n : Int) < 4) = true := decide_eq_true (by omega)
        go_wp2_with fail
        refine (put_any s _ _ _ k v D w1 hF1 (by have := hbl1.size; omega) (by omega) hlt (by omega)).mono ?_
        rintro e w2 ⟨rfl, v2, D2, hF2, hb2, hk2⟩
        go_wp2
        go_roundw
        case rel =>
          refine ⟨fr, k + 1, by omega, by omega, rfl, by go_num, Lib.hid ⟨pre, v2, D2, hbd1.kept hk2, hF2, hpre, ?_, hbl1.trans hb2⟩⟩
          rw [← Hpk.out, packFrom_one s fr k hlt (by rw [Hn.out]; exact h4)]
        case measure =>
          simp [intOf]
          omega
      · have t1 : decide ((n : Int) < 4) = false := decide_eq_false (by omega)
        have hfac := bestN_facts s k
        rw [Hn.out, Hd.out] at hfac
        obtain ⟨g1, g2, g3, g5, g6, g7⟩ : 4 ≤ n ∧ n ≤ 131 ∧ 1 ≤ d ∧ d ≤ k ∧ k + n ≤ s.size ∧ True := by
          rcases hfac with ⟨h0, _⟩ | ⟨h1, h2, h3, h5, h6, _⟩
          · omega
          · exact ⟨h1, h2, h3, h5, h6, trivial⟩
        clear hfac g7
        have Hc := Lib.hid (packFrom_copy s fr k hlt (by rw [Hn.out]; exact h4))
        have hsg : (s.extract fr k).data.toList = seg s fr k := Lib.extract_data _ _ _
        have Hsg := Lib.hid hsg
        have hz : (s.extract fr k).size = k - fr := by simp [ByteArray.size_extract]; omega
        have Hz := Lib.hid hz
        clear hsg hz
        obtain ⟨c1, hc1⟩ : ∃ c : UInt8, UInt8.ofNat (n + 124) = c := ⟨_, rfl⟩
        obtain ⟨c2, hc2⟩ : ∃ c : UInt8, UInt8.ofNat d = c := ⟨_, rfl⟩
        obtain ⟨c3, hc3⟩ : ∃ c : UInt8, UInt8.ofNat (d / 256) = c := ⟨_, rfl⟩
        have a1 : (n : Int) - 4 + 128 = (c1.toNat : Int) := by rw [← hc1]; simp; omega
        have a2 : (d : Int) % 256 = (c2.toNat : Int) := by rw [← hc2]; simp
        have a3 : (d : Int) / 256 = (c3.toNat : Int) := by rw [← hc3]; simp; omega
        rw [Hn.out, Hd.out, hc1, hc2, hc3] at Hc
        clear hc1 hc2 hc3
        go_wp2_with fail
        refine (runs_any _ _ pre (s.extract fr k) w1 hbd1 (by rw [Hz.out]; omega) (by have := hbl1.size; omega)).mono ?_
        rintro e w2 ⟨rfl, hbd2, hb2, ho2⟩
        have hF2 := hF1.others hbd1 ho2
        go_wp2_with fail
        have hl2 : (pre ++ runB (s.extract fr k).data.toList).length ≤ 2 * k := by
          rw [List.length_append, Hsg.out]
          have := runB_seg_le s fr k hks
          omega
        have Hl2 := Lib.hid hl2
        clear hl2
        refine (wb_any _ _ _ c1 w2 hbd2 (by have := Hl2.out; omega) (by have := hbl1.size; have := hb2.size; omega)).mono ?_
        rintro e w3 ⟨rfl, hbd3, hb3, ho3⟩
        have hF3 := hF2.others hbd2 ho3
        go_wp2_with fail
        refine (wb_any _ _ _ c2 w3 hbd3 (by have := Hl2.out; simp at this ⊢; omega) (by have := hbl1.size; have := hb2.size; have := hb3.size; omega)).mono ?_
        rintro e w4 ⟨rfl, hbd4, hb4, ho4⟩
        have hF4 := hF3.others hbd3 ho4
        go_wp2_with fail
        refine (wb_any _ _ _ c3 w4 hbd4 (by have := Hl2.out; simp at this ⊢; omega) (by have := hbl1.size; have := hb2.size; have := hb3.size; have := hb4.size; omega)).mono ?_
        rintro e w5 ⟨rfl, hbd5, hb5, ho5⟩
        have hF5 := hF4.others hbd4 ho5
        have hbl5 := (((hbl1.trans hb2).trans hb3).trans hb4).trans hb5
        clear hF1 hF2 hF3 hF4 hbd1 hbd2 hbd3 hbd4 ho2 ho3 ho4 ho5 hb1 hb2 hb3 hb4 hb5 a1 a2 a3 hbl1
        go_wp2
        obtain ⟨pre5, hp5⟩ : ∃ p5, pre ++ runB (s.extract fr k).data.toList ++ [c1] ++ [c2] ++ [c3] = p5 := ⟨_, rfl⟩
        rw [hp5] at hbd5
        have Hp5 := Lib.hid hp5
        clear hp5
        go_loopw [6, 48] (fun a b wi => ∃ i : Nat, i ≤ n ∧ a = .int .i64 ((k + i : Nat) : Int) ∧ b = .int .i64 i ∧ ∃ v D, Bld w.heap.size w.heap.size pre5 wi ∧ Finder s w.heap.size (w.heap.size + 2) (w.heap.size + 1) (k + i) v D wi ∧ Below w.heap.size w wi) (fun _ b _ => n - (intOf b).toNat)
        case atStart => exact ⟨0, by omega, rfl, rfl, v, D, hbd5, hF5, hbl5⟩
        case round =>
          clear hF5 hbd5 hbl5
          obtain ⟨i, hi, rfl, rfl, v6, D6, hbd6, hF6, hbl6⟩ := hrel
          by_cases hin : i < n
          · have t2 : decide ((i : Int) < (n : Int)) = true := decide_eq_true (by omega)
            go_wp2_with fail
            refine (put_any s _ _ _ (k + i) v6 D6 _ hF6 (by have := hbl6.size; omega) (by omega) (by omega) (by omega)).mono ?_
            rintro e w7 ⟨rfl, v7, D7, hF7, hb7, hk7⟩
            go_wp2
            go_roundw
            case rel => exact ⟨i + 1, by omega, by go_num, by go_num, v7, D7, hbd6.kept hk7, hF7, hbl6.trans hb7⟩
            case measure => simp [intOf]; omega
          · have t2 : decide ((i : Int) < (n : Int)) = false := decide_eq_false (by omega)
            obtain rfl : i = n := by omega
            go_wp2_with fail
            go_roundw
            case rel =>
              refine ⟨k + i, k + i, by omega, by omega, rfl, rfl, Lib.hid ⟨pre5, v6, D6, hbd6, hF6, ?_, ?_, hbl6⟩⟩
              · rw [← Hp5.out]
                have := Hl2.out
                simp only [List.length_append, List.length_cons, List.length_nil] at this ⊢
                omega
              · rw [← Hpk.out, Hc.out, ← Hp5.out, Hsg.out]
                simp
            case measure => simp [intOf]; omega
    · have t0 : decide ((k : Int) < (s.size : Int)) = false := decide_eq_false (by omega)
      go_wp2_with fail
      have hz : (s.extract fr s.size).size = s.size - fr := by simp [ByteArray.size_extract]
      have Hz := Lib.hid hz
      clear hz
      go_wp2_with fail
      refine (runs_any _ _ pre (s.extract fr s.size) wr hb (by rw [Hz.out]; omega) (by have := hbel.size; omega)).mono ?_
      rintro e w2 ⟨rfl, hbd2, hb2, ho2⟩
      go_wp2_with fail
      refine (Try.Builder_String_any_k _ _ _ w2 hbd2 (by have := hbel.size; have := hb2.size; omega)).mono ?_
      rintro e w3 ⟨rfl, _, hb3, _⟩
      go_wp2
      go_ret
      refine ⟨ret_val ?_, (hbel.trans hb2).trans hb3⟩
      rw [← Hpk.out, packFrom_end s fr k (by omega)]
      rfl

end Go.Proofs.Ytnjcganknpnjcaa
