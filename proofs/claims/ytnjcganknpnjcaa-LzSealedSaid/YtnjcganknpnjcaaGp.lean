/- lz: what Pack answers, for every text of at most 60000 bytes: the plain function 'pack'. -/
import Derived.Test.YtnjcganknpnjcaaGc
import Derived.Test.YtnjcganknpnjcaaGd
import Derived.OpenShut
set_option linter.unusedVariables false
set_option linter.unusedSimpArgs false
namespace Go.Proofs.Ytnjcganknpnjcaa
open Go.RowKit Go.Maps Go.WideMaps

def PackInv (s : ByteArray) (w : World) (fr k : Nat) (wr : World) : Prop :=
  ∃ pre v D, Bld w.heap.size w.heap.size pre wr ∧ Finder s w.heap.size (w.heap.size + 2) (w.heap.size + 1) k v D wr ∧ pre.length ≤ 2 * fr ∧ pre ++ packFrom s fr k = pack s ∧ Below w.heap.size w wr

theorem pack_start (s : ByteArray) (w : World) : PackInv s w 0 0 (((w.alloc (.cells #[.pointer none, .slice none 0 0] 74)).alloc (.map #[] 0)).alloc (.cells #[.string s, .map (some (w.heap.size + 1)), .slice none 0 0] 79)) := by
  have e1 : (w.alloc (.cells #[.pointer none, .slice none 0 0] 74)).heap.size = w.heap.size + 1 := by simp
  have e2 : ((w.alloc (.cells #[.pointer none, .slice none 0 0] 74)).alloc (.map #[] 0)).heap.size = w.heap.size + 2 := by simp
  refine ⟨[], .slice none 0 0, .map [], ?_, ⟨⟨by omega, by omega, ?_, ?_, World.ownsRow_nil _ _ _ _⟩, ?_⟩, by simp, rfl, ?_⟩
  · exact (Lib.IsBuilderF.alloc (Lib.IsBuilderF.alloc (Lib.IsBuilderF.of (Lib.fresh_isBuilder 74 5 w)) _) _)
  · have := heap_new ((w.alloc (.cells #[.pointer none, .slice none 0 0] 74)).alloc (.map #[] 0)) (.cells #[.string s, .map (some (w.heap.size + 1)), .slice none 0 0] 79)
    rwa [e2] at this
  · have := World.ownsMap_made (H := Unit) (w.alloc (.cells #[.pointer none, .slice none 0 0] 74)) Try.prog 9 (plainElem Try.prog 3)
    rw [e1] at this
    exact this.alloc _
  · intro x
    exact ⟨rfl, fun p hp => by cases hp⟩
  · exact (((Below.refl _ w).alloc (Nat.le_refl _) _).alloc (by simp) _).alloc (by simp; omega) _

set_option maxRecDepth 100000 in
set_option maxHeartbeats 2000000 in
theorem pack_any (s : ByteArray) (w : World) (hs : s.size ≤ 60000) :
    Calls Try.prog 26 #[.string s] w fun e w' => e = .returned (.string ⟨(pack s).toArray⟩) ∧ Below w.heap.size w w' := by
  have hmm := @run_makeMap Try.prog
  have hst := Lib.hid (pack_start s w)
  go_enter Try.func26, Try.ntmps26
  go_wp2
  obtain ⟨W, hW⟩ : ∃ W, ((w.alloc (.cells #[.pointer none, .slice none 0 0] 74)).alloc (.map #[] 0)).alloc (.cells #[.string s, .map (some (w.heap.size + 1)), .slice none 0 0] 79) = W := ⟨_, rfl⟩
  rw [hW]
  have hst' : Hid (PackInv s w 0 0 W) := by rw [← hW]; exact hst
  clear hW hst hmm
  go_loopw [5, 6] (fun a b wr => ∃ fr k : Nat, fr ≤ k ∧ k ≤ s.size ∧ a = .int .i64 fr ∧ b = .int .i64 k ∧ Hid (PackInv s w fr k wr)) (fun _ b _ => s.size - (intOf b).toNat)
  case atStart => exact ⟨0, 0, by omega, by omega, rfl, rfl, hst'⟩
  case round =>
    clear hst'
    obtain ⟨fr, k, hfk, hks, rfl, rfl, H⟩ := hrel
    obtain ⟨pre, v, D, hb, hF, hpre, hpk, hbel⟩ := H.out
    clear H
    have Hpk := Lib.hid hpk
    clear hpk
    by_cases hlt : k < s.size
    · have t0 : decide ((k : Int) < (s.size : Int)) = true := decide_eq_true (by omega)
      go_wp2_with fail
      refine (best_call s _ _ _ k v D wr hF hs hlt).mono ?_
      rintro e w1 ⟨rfl, hb1⟩
      have hF1 := hF.keep hb1
      have hbd1 := hb.below hb1
      have hbl1 := hbel.trans (hb1.mono hbel.size)
      clear hF hb
      obtain ⟨n, hn⟩ : ∃ n, (bestN s k).1 = n := ⟨_, rfl⟩
      obtain ⟨d, hd⟩ : ∃ d, (bestN s k).2 = d := ⟨_, rfl⟩
      rw [hn, hd]
      have Hn := Lib.hid hn
      have Hd := Lib.hid hd
      clear hn hd
      by_cases h4 : n < 4
      · have t1 : decide ((n : Int) < 4) = true := decide_eq_true (by omega)
        go_wp2_with fail
        refine (put_any s _ _ _ k v D w1 hF1 (by have := hbl1.size; omega) (by omega) hlt (by omega)).mono ?_
        rintro e w2 ⟨rfl, v2, D2, hF2, hb2, hk2⟩
        go_wp2
        go_roundw
        case rel =>
          refine ⟨fr, k + 1, by omega, by omega, rfl, by go_num, Lib.hid ⟨pre, v2, D2, hbd1.kept hk2, hF2, hpre, ?_, hbl1.trans hb2⟩⟩
          rw [← Hpk.out, packFrom_one s fr k hlt (by rw [Hn.out]; exact h4)]
        case measure =>
          simp [intOf]
          omega
      · have t1 : decide ((n : Int) < 4) = false := decide_eq_false (by omega)
        have hfac := bestN_facts s k
        rw [Hn.out, Hd.out] at hfac
        obtain ⟨g1, g2, g3, g5, g6, g7⟩ : 4 ≤ n ∧ n ≤ 131 ∧ 1 ≤ d ∧ d ≤ k ∧ k + n ≤ s.size ∧ True := by
          rcases hfac with ⟨h0, _⟩ | ⟨h1, h2, h3, h5, h6, _⟩
          · omega
          · exact ⟨h1, h2, h3, h5, h6, trivial⟩
        clear hfac g7
        have Hc := Lib.hid (packFrom_copy s fr k hlt (by rw [Hn.out]; exact h4))
        have hsg : (s.extract fr k).data.toList = seg s fr k := Lib.extract_data _ _ _
        have Hsg := Lib.hid hsg
        have hz : (s.extract fr k).size = k - fr := by simp [ByteArray.size_extract]; omega
        have Hz := Lib.hid hz
        clear hsg hz
        obtain ⟨c1, hc1⟩ : ∃ c : UInt8, UInt8.ofNat (n + 124) = c := ⟨_, rfl⟩
        obtain ⟨c2, hc2⟩ : ∃ c : UInt8, UInt8.ofNat d = c := ⟨_, rfl⟩
        obtain ⟨c3, hc3⟩ : ∃ c : UInt8, UInt8.ofNat (d / 256) = c := ⟨_, rfl⟩
        have a1 : (n : Int) - 4 + 128 = (c1.toNat : Int) := by rw [← hc1]; simp; omega
        have a2 : (d : Int) % 256 = (c2.toNat : Int) := by rw [← hc2]; simp
        have a3 : (d : Int) / 256 = (c3.toNat : Int) := by rw [← hc3]; simp; omega
        rw [Hn.out, Hd.out, hc1, hc2, hc3] at Hc
        clear hc1 hc2 hc3
        go_wp2_with fail
        refine (runs_any _ _ pre (s.extract fr k) w1 hbd1 (by rw [Hz.out]; omega) (by have := hbl1.size; omega)).mono ?_
        rintro e w2 ⟨rfl, hbd2, hb2, ho2⟩
        have hF2 := hF1.others hbd1 ho2
        go_wp2_with fail
        have hl2 : (pre ++ runB (s.extract fr k).data.toList).length ≤ 2 * k := by
          rw [List.length_append, Hsg.out]
          have := runB_seg_le s fr k hks
          omega
        have Hl2 := Lib.hid hl2
        clear hl2
        refine (wb_any _ _ _ c1 w2 hbd2 (by have := Hl2.out; omega) (by have := hbl1.size; have := hb2.size; omega)).mono ?_
        rintro e w3 ⟨rfl, hbd3, hb3, ho3⟩
        have hF3 := hF2.others hbd2 ho3
        go_wp2_with fail
        refine (wb_any _ _ _ c2 w3 hbd3 (by have := Hl2.out; simp at this ⊢; omega) (by have := hbl1.size; have := hb2.size; have := hb3.size; omega)).mono ?_
        rintro e w4 ⟨rfl, hbd4, hb4, ho4⟩
        have hF4 := hF3.others hbd3 ho4
        go_wp2_with fail
        refine (wb_any _ _ _ c3 w4 hbd4 (by have := Hl2.out; simp at this ⊢; omega) (by have := hbl1.size; have := hb2.size; have := hb3.size; have := hb4.size; omega)).mono ?_
        rintro e w5 ⟨rfl, hbd5, hb5, ho5⟩
        have hF5 := hF4.others hbd4 ho5
        have hbl5 := (((hbl1.trans hb2).trans hb3).trans hb4).trans hb5
        clear hF1 hF2 hF3 hF4 hbd1 hbd2 hbd3 hbd4 ho2 ho3 ho4 ho5 hb1 hb2 hb3 hb4 hb5 a1 a2 a3 hbl1
        go_wp2
        obtain ⟨pre5, hp5⟩ : ∃ p5, pre ++ runB (s.extract fr k).data.toList ++ [c1] ++ [c2] ++ [c3] = p5 := ⟨_, rfl⟩
        rw [hp5] at hbd5
        have Hp5 := Lib.hid hp5
        clear hp5
        go_loopw [6, 48] (fun a b wi => ∃ i : Nat, i ≤ n ∧ a = .int .i64 ((k + i : Nat) : Int) ∧ b = .int .i64 i ∧ ∃ v D, Bld w.heap.size w.heap.size pre5 wi ∧ Finder s w.heap.size (w.heap.size + 2) (w.heap.size + 1) (k + i) v D wi ∧ Below w.heap.size w wi) (fun _ b _ => n - (intOf b).toNat)
        case atStart => exact ⟨0, by omega, rfl, rfl, v, D, hbd5, hF5, hbl5⟩
        case round =>
          clear hF5 hbd5 hbl5
          obtain ⟨i, hi, rfl, rfl, v6, D6, hbd6, hF6, hbl6⟩ := hrel
          by_cases hin : i < n
          · have t2 : decide ((i : Int) < (n : Int)) = true := decide_eq_true (by omega)
            go_wp2_with fail
            refine (put_any s _ _ _ (k + i) v6 D6 _ hF6 (by have := hbl6.size; omega) (by omega) (by omega) (by omega)).mono ?_
            rintro e w7 ⟨rfl, v7, D7, hF7, hb7, hk7⟩
            go_wp2
            go_roundw
            case rel => exact ⟨i + 1, by omega, by go_num, by go_num, v7, D7, hbd6.kept hk7, hF7, hbl6.trans hb7⟩
            case measure => simp [intOf]; omega
          · have t2 : decide ((i : Int) < (n : Int)) = false := decide_eq_false (by omega)
            obtain rfl : i = n := by omega
            go_wp2_with fail
            go_roundw
            case rel =>
              refine ⟨k + i, k + i, by omega, by omega, rfl, rfl, Lib.hid ⟨pre5, v6, D6, hbd6, hF6, ?_, ?_, hbl6⟩⟩
              · rw [← Hp5.out]
                have := Hl2.out
                simp only [List.length_append, List.length_cons, List.length_nil] at this ⊢
                omega
              · rw [← Hpk.out, Hc.out, ← Hp5.out, Hsg.out]
                simp
            case measure => simp [intOf]; omega
    · have t0 : decide ((k : Int) < (s.size : Int)) = false := decide_eq_false (by omega)
      go_wp2_with fail
      have hz : (s.extract fr s.size).size = s.size - fr := by simp [ByteArray.size_extract]
      have Hz := Lib.hid hz
      clear hz
      go_wp2_with fail
      refine (runs_any _ _ pre (s.extract fr s.size) wr hb (by rw [Hz.out]; omega) (by have := hbel.size; omega)).mono ?_
      rintro e w2 ⟨rfl, hbd2, hb2, ho2⟩
      go_wp2_with fail
      refine (Try.Builder_String_any_k _ _ _ w2 hbd2 (by have := hbel.size; have := hb2.size; omega)).mono ?_
      rintro e w3 ⟨rfl, _, hb3, _⟩
      go_wp2
      go_ret
      refine ⟨ret_val ?_, (hbel.trans hb2).trans hb3⟩
      rw [← Hpk.out, packFrom_end s fr k (by omega)]
      rfl

end Go.Proofs.Ytnjcganknpnjcaa
namespace Go.Proofs.Ytnjcganknpnjcaa
open Go.RowKit

theorem pack_six : pack ⟨#[97, 97, 97, 97, 97, 97]⟩ = [0, 97, 129, 1, 0] := by decide +kernel
theorem unp_six : unp [0, 97, 129, 1, 0] 6 = ([97, 97, 97, 97, 97, 97], 0) := by decide +kernel

set_option maxRecDepth 100000 in
set_option maxHeartbeats 1000000 in
theorem awake_any (w : World) : Calls Try.prog 25 #[] w fun e w' => e = .returned (.bool true) ∧ Below w.heap.size w w' := by
  go_enter Try.func25, Try.ntmps25
  go_wp2_with fail
  refine (pack_any ⟨#[97, 97, 97, 97, 97, 97]⟩ w (by decide)).mono ?_
  rintro e w1 ⟨rfl, hb1⟩
  rw [pack_six]
  go_wp2_with fail
  refine (unpack_any ⟨#[0, 97, 129, 1, 0]⟩ 6 w1 (by decide) (by omega) (by omega)).mono ?_
  rintro e w2 ⟨rfl, hb2⟩
  rw [show (⟨#[0, 97, 129, 1, 0]⟩ : ByteArray).data.toList = [0, 97, 129, 1, 0] from rfl, unp_six]
  go_wp2
  go_ret
  exact ⟨rfl, hb1.trans (hb2.mono hb1.size)⟩

end Go.Proofs.Ytnjcganknpnjcaa
namespace Go.Proofs.Ytnjcganknpnjcaa

theorem ofNat_toNat (n : Nat) (h : n < 256) : (UInt8.ofNat n).toNat = n := by simp; omega

/-- One run's token. -/
theorem unp_token (n : Nat) (hn : 1 ≤ n) (hn2 : n ≤ 128) (l rest out : List UInt8) (hl : l.length = n) (most : Int) :
    unpFrom (UInt8.ofNat (n - 1) :: (l ++ rest)) out most = if most < ((out.length + n : Nat) : Int) then ([], 6) else unpFrom rest (out ++ l) most := by
  rw [unpFrom_cons, ofNat_toNat (n - 1) (by omega), if_pos (by omega), if_neg (by simp; omega), show n - 1 + 1 = n by omega]
  rw [List.drop_append_of_le_length (by omega), List.take_append_of_le_length (by omega), List.drop_of_length_le (by omega), List.take_of_length_le (by omega)]
  rfl

theorem unp_run (most : Int) : ∀ (k : Nat) (l rest out : List UInt8), l.length = k → ((out.length + l.length : Nat) : Int) ≤ most → unpFrom (runB l ++ rest) out most = unpFrom rest (out ++ l) most := by
  intro k
  induction k using Nat.strongRecOn with
  | _ k ih =>
    intro l rest out hl hm
    by_cases h : l = []
    · subst h
      rw [runB_nil, List.nil_append, List.append_nil]
    · have hp : 0 < l.length := List.length_pos_iff.2 h
      rw [runB_step l h, List.cons_append, List.append_assoc]
      rw [unp_token (min l.length 128) (by omega) (by omega) _ _ _ (by rw [List.length_take]; omega), if_neg (by omega)]
      rw [ih (l.drop 128).length (by simp; omega) (l.drop 128) rest (out ++ l.take 128) rfl (by simp; omega)]
      rw [List.append_assoc, List.take_append_drop]
theorem unp_run_over (most : Int) : ∀ (k : Nat) (l rest out : List UInt8), l.length = k → l ≠ [] → most < ((out.length + l.length : Nat) : Int) → unpFrom (runB l ++ rest) out most = ([], 6) := by
  intro k
  induction k using Nat.strongRecOn with
  | _ k ih =>
    intro l rest out hl h hm
    have hp : 0 < l.length := List.length_pos_iff.2 h
    rw [runB_step l h, List.cons_append, List.append_assoc]
    rw [unp_token (min l.length 128) (by omega) (by omega) _ _ _ (by rw [List.length_take]; omega)]
    by_cases hlt : most < ((out.length + min l.length 128 : Nat) : Int)
    · rw [if_pos hlt]
    · rw [if_neg hlt]
      exact ih (l.drop 128).length (by simp; omega) (l.drop 128) rest (out ++ l.take 128) rfl (by intro h0; have := congrArg List.length h0; simp at this; omega) (by simp; omega)

theorem unp_copy (n d : Nat) (hn : 4 ≤ n) (hn2 : n ≤ 131) (hd : 1 ≤ d) (hd2 : d < 65536) (rest out : List UInt8) (ho : d ≤ out.length) (most : Int) :
    unpFrom (UInt8.ofNat (n + 124) :: UInt8.ofNat d :: UInt8.ofNat (d / 256) :: rest) out most = if most < ((out.length + n : Nat) : Int) then ([], 6) else unpFrom rest (copyN d n out) most := by
  have e : (UInt8.ofNat d).toNat + 256 * (UInt8.ofNat (d / 256)).toNat = d := by simp; omega
  rw [unpFrom_cons, ofNat_toNat (n + 124) (by omega), if_neg (by omega), if_neg (by simp)]
  simp only [List.getD_cons_zero, List.getD_cons_succ, List.drop_succ_cons, List.drop_zero, e]
  rw [if_neg (by omega), show n + 124 - 124 = n by omega]

/-- A copy of what stands alike. -/
theorem copyN_alike (t pfx : List UInt8) (a d : Nat) (hd : 1 ≤ d) (hda : d ≤ a) : ∀ n, a + n ≤ t.length → (∀ i, i < n → t[a - d + i]? = t[a + i]?) → copyN d n (pfx ++ t.take a) = pfx ++ t.take (a + n)
  | 0, _, _ => rfl
  | n + 1, hn, h => by
    rw [copyN, copyN_alike t pfx a d hd hda n (by omega) (fun i hi => h i (by omega))]
    rw [List.append_assoc]
    congr 1
    have hl : (pfx ++ t.take (a + n)).length = pfx.length + (a + n) := by simp; omega
    rw [hl, List.getD_eq_getElem?_getD, List.getElem?_append_right (by omega), show pfx.length + (a + n) - d - pfx.length = a - d + n by omega, List.getElem?_take_of_lt (by omega), h n (by omega)]
    rw [show a + (n + 1) = (a + n) + 1 by omega, List.take_add_one]
    rw [List.getElem?_eq_getElem (by omega)]
    rfl

def bl (s : ByteArray) : List UInt8 := s.data.toList
theorem bl_length (s : ByteArray) : (bl s).length = s.size := by simp [bl]
theorem bl_get (s : ByteArray) (i : Nat) (h : i < s.size) : (bl s)[i]? = some (s[i]'h) := by
  have : i < (bl s).length := by rw [bl_length]; exact h
  rw [List.getElem?_eq_getElem this]
  rfl
theorem alike_get (s : ByteArray) (i j : Nat) (hi : i < s.size) (hj : j < s.size) (h : byt s i = byt s j) : (bl s)[i]? = (bl s)[j]? := by
  rw [bl_get s i hi, bl_get s j hj, (byt_ext s i j hi hj).1 h]
theorem seg_take (s : ByteArray) (a b : Nat) (h : a ≤ b) : (bl s).take a ++ seg s a b = (bl s).take b := by
  unfold seg bl
  rw [← List.take_add]
  congr 1
  omega

/-- **What was packed from a place on comes out from there on.** -/
theorem unp_pack (s : ByteArray) (hs : s.size < 65536) (pfx rest : List UInt8) (most : Int) (hm : ((pfx.length + s.size : Nat) : Int) ≤ most) :
    ∀ (k fr at_ : Nat), s.size - at_ = k → fr ≤ at_ → at_ ≤ s.size → unpFrom (packFrom s fr at_ ++ rest) (pfx ++ (bl s).take fr) most = unpFrom rest (pfx ++ bl s) most := by
  intro k
  induction k using Nat.strongRecOn with
  | _ k ih =>
    intro fr at_ hk hfa has
    by_cases hlt : at_ < s.size
    · by_cases h4 : (bestN s at_).1 < 4
      · rw [packFrom_one s fr at_ hlt h4]
        exact ih (s.size - (at_ + 1)) (by omega) fr (at_ + 1) rfl (by omega) (by omega)
      · obtain ⟨h1, h2, h3, h5, h6, h7⟩ : 4 ≤ (bestN s at_).1 ∧ (bestN s at_).1 ≤ 131 ∧ 1 ≤ (bestN s at_).2 ∧ (bestN s at_).2 ≤ at_ ∧ at_ + (bestN s at_).1 ≤ s.size ∧ ∀ i, i < (bestN s at_).1 → byt s (at_ - (bestN s at_).2 + i) = byt s (at_ + i) := by
          rcases bestN_facts s at_ with ⟨h0, _⟩ | h
          · omega
          · exact h
        rw [packFrom_copy s fr at_ hlt h4, List.append_assoc, List.append_assoc]
        rw [unp_run most _ (seg s fr at_) _ _ rfl (by rw [seg_length s fr at_ has]; simp [bl_length]; omega)]
        rw [List.append_assoc, seg_take s fr at_ hfa]
        simp only [List.cons_append, List.nil_append]
        rw [unp_copy _ _ h1 h2 h3 (by omega) _ _ (by simp [bl_length]; omega), if_neg (by simp [bl_length]; omega)]
        rw [copyN_alike (bl s) pfx at_ _ h3 h5 _ (by rw [bl_length]; exact h6) (fun i hi => alike_get s _ _ (by omega) (by omega) (h7 i hi))]
        exact ih (s.size - (at_ + (bestN s at_).1)) (by omega) _ _ rfl (Nat.le_refl _) h6
    · rw [packFrom_end s fr at_ (by omega)]
      rw [unp_run most _ (seg s fr s.size) _ _ rfl (by rw [seg_length s fr s.size (Nat.le_refl _)]; simp [bl_length]; omega)]
      rw [List.append_assoc, seg_take s fr s.size (by omega), List.take_of_length_le (by rw [bl_length]; exact Nat.le_refl _)]

theorem unp_pack_over (s : ByteArray) (hs : s.size < 65536) (rest : List UInt8) (most : Int) (hm : most < (s.size : Int)) :
    ∀ (k fr at_ : Nat), s.size - at_ = k → fr ≤ at_ → at_ ≤ s.size → fr < s.size → unpFrom (packFrom s fr at_ ++ rest) ((bl s).take fr) most = ([], 6) := by
  intro k
  induction k using Nat.strongRecOn with
  | _ k ih =>
    intro fr at_ hk hfa has hfs
    by_cases hlt : at_ < s.size
    · by_cases h4 : (bestN s at_).1 < 4
      · rw [packFrom_one s fr at_ hlt h4]
        exact ih (s.size - (at_ + 1)) (by omega) fr (at_ + 1) rfl (by omega) (by omega) hfs
      · obtain ⟨h1, h2, h3, h5, h6, h7⟩ : 4 ≤ (bestN s at_).1 ∧ (bestN s at_).1 ≤ 131 ∧ 1 ≤ (bestN s at_).2 ∧ (bestN s at_).2 ≤ at_ ∧ at_ + (bestN s at_).1 ≤ s.size ∧ ∀ i, i < (bestN s at_).1 → byt s (at_ - (bestN s at_).2 + i) = byt s (at_ + i) := by
          rcases bestN_facts s at_ with ⟨h0, _⟩ | h
          · omega
          · exact h
        rw [packFrom_copy s fr at_ hlt h4, List.append_assoc, List.append_assoc]
        by_cases hm1 : (at_ : Int) ≤ most
        · rw [unp_run most _ (seg s fr at_) _ _ rfl (by rw [seg_length s fr at_ has]; simp [bl_length]; omega)]
          rw [seg_take s fr at_ hfa]
          simp only [List.cons_append, List.nil_append]
          rw [unp_copy _ _ h1 h2 h3 (by omega) _ _ (by simp [bl_length]; omega)]
          by_cases hm2 : most < ((((bl s).take at_).length + (bestN s at_).1 : Nat) : Int)
          · rw [if_pos hm2]
          · rw [if_neg hm2]
            have := copyN_alike (bl s) [] at_ _ h3 h5 _ (by rw [bl_length]; exact h6) (fun i hi => alike_get s _ _ (by omega) (by omega) (h7 i hi))
            simp only [List.nil_append] at this
            rw [this]
            simp only [List.length_take, bl_length] at hm2
            exact ih (s.size - (at_ + (bestN s at_).1)) (by omega) _ _ rfl (Nat.le_refl _) h6 (by omega)
        · by_cases hfa2 : fr = at_
          · subst hfa2
            have : seg s fr fr = [] := by unfold seg; simp
            rw [this, runB_nil, List.nil_append]
            simp only [List.cons_append, List.nil_append]
            rw [unp_copy _ _ h1 h2 h3 (by omega) _ _ (by simp [bl_length]; omega), if_pos (by simp [bl_length]; omega)]
          · refine unp_run_over most _ (seg s fr at_) _ _ rfl ?_ (by rw [seg_length s fr at_ has]; simp [bl_length]; omega)
            intro h0
            have := congrArg List.length h0
            rw [seg_length s fr at_ has] at this
            simp at this
            omega
    · rw [packFrom_end s fr at_ (by omega)]
      refine unp_run_over most _ (seg s fr s.size) _ _ rfl ?_ (by rw [seg_length s fr s.size (Nat.le_refl _)]; simp [bl_length]; omega)
      intro h0
      have := congrArg List.length h0
      rw [seg_length s fr s.size (Nat.le_refl _)] at this
      simp at this
      omega

/-- LzBack, plain. -/
theorem back_plain (s : ByteArray) (hs : s.size < 65536) (most : Int) : unp (pack s) most = if most < (s.size : Int) then ([], 6) else (bl s, 0) := by
  by_cases hm : most < (s.size : Int)
  · rw [if_pos hm]
    by_cases h0 : s.size = 0
    · have : pack s = [] := by rw [pack, packFrom_end s 0 0 (by omega)]; unfold seg; rw [h0]; rfl
      rw [this, unp, unpFrom_nil, if_pos (by omega)]
    · have := unp_pack_over s hs [] most hm _ 0 0 rfl (Nat.le_refl _) (Nat.zero_le _) (by omega)
      simpa [unp, pack] using this
  · rw [if_neg hm]
    have := unp_pack s hs [] [] most (by simp; omega) _ 0 0 rfl (Nat.le_refl _) (Nat.zero_le _)
    simp only [List.append_nil, List.nil_append, List.take_zero] at this
    rw [unp, pack, this, unpFrom_nil, if_neg (by omega)]

/-- LzJoins, plain. -/
theorem joins_plain (a b : ByteArray) (ha : a.size < 65536) (hb : b.size < 65536) : unp (pack a ++ pack b) ((a.size + b.size : Nat) : Int) = (bl a ++ bl b, 0) := by
  have h1 := unp_pack a ha [] (pack b) ((a.size + b.size : Nat) : Int) (by simp; omega) _ 0 0 rfl (Nat.le_refl _) (Nat.zero_le _)
  have h2 := unp_pack b hb (bl a) [] ((a.size + b.size : Nat) : Int) (by simp [bl_length]) _ 0 0 rfl (Nat.le_refl _) (Nat.zero_le _)
  simp only [List.append_nil, List.nil_append, List.take_zero] at h1 h2
  rw [unp, pack, h1, pack, h2, unpFrom_nil, if_neg (by omega)]

end Go.Proofs.Ytnjcganknpnjcaa
namespace Go.Proofs.Ytnjcganknpnjcaa

/-- Told to be short, or the front of what all stand for. -/
def CutOK (t : List UInt8) (r : List UInt8 × Int) : Prop := r = ([], 4) ∨ ∃ m, m ≤ t.length ∧ r = (t.take m, 0)

theorem cut_nil (t : List UInt8) (m : Nat) (hm : m ≤ t.length) (most : Int) (h0 : 0 ≤ most) : CutOK t (unpFrom [] (t.take m) most) := by
  rw [unpFrom_nil, if_neg (by omega)]
  exact .inr ⟨m, hm, rfl⟩

theorem unp_short_run (c : UInt8) (r out : List UInt8) (most : Int) (hc : c.toNat < 128) (hr : r.length < c.toNat + 1) : unpFrom (c :: r) out most = ([], 4) := by
  rw [unpFrom_cons, if_pos hc, if_pos hr]
theorem unp_short_copy (c : UInt8) (r out : List UInt8) (most : Int) (hc : ¬ c.toNat < 128) (hr : r.length < 2) : unpFrom (c :: r) out most = ([], 4) := by
  rw [unpFrom_cons, if_neg hc, if_pos hr]

/-- A cut inside a run. -/
theorem cut_run (t : List UInt8) (most : Int) (h0 : 0 ≤ most) : ∀ (k : Nat) (l : List UInt8) (m j : Nat), l.length = k → m + l.length ≤ t.length → ((m + l.length : Nat) : Int) ≤ most → (t.drop m).take l.length = l → j < (runB l).length →
    CutOK t (unpFrom ((runB l).take j) (t.take m) most) := by
  intro k
  induction k using Nat.strongRecOn with
  | _ k ih =>
    intro l m j hl hmt hm hlt hj
    by_cases h : l = []
    · subst h
      simp [runB_nil] at hj
    · have hp : 0 < l.length := List.length_pos_iff.2 h
      rw [runB_step l h] at hj ⊢
      cases j with
      | zero => exact cut_nil t m (by omega) most h0
      | succ j =>
        rw [List.take_succ_cons]
        by_cases hjn : j < min l.length 128
        · refine .inl (unp_short_run _ _ _ _ ?_ ?_)
          · rw [ofNat_toNat _ (by omega)]; omega
          · rw [ofNat_toNat _ (by omega)]; simp; omega
        · have hlen : (l.take 128).length = min l.length 128 := by rw [List.length_take]; omega
          rw [List.take_append, List.take_of_length_le (l := l.take 128) (by omega)]
          rw [unp_token (min l.length 128) (by omega) (by omega) _ _ _ hlen, if_neg (by simp; omega)]
          have e : t.take m ++ l.take 128 = t.take (m + min l.length 128) := by
            rw [List.take_add]
            congr 1
            conv => lhs; rw [← hlt]
            rw [List.take_take]
            congr 1
            omega
          rw [e]
          refine ih (l.drop 128).length (by simp; omega) (l.drop 128) _ _ rfl (by simp; omega) (by simp; omega) ?_ ?_
          · conv => rhs; rw [← hlt]
            rw [List.drop_take, List.drop_drop, List.length_drop]
            by_cases h128 : l.length ≤ 128
            · rw [show l.length - 128 = 0 by omega]
              simp
            · rw [show min l.length 128 = 128 by omega]
          · simp only [List.length_cons, List.length_append, hlen] at hj
            omega

theorem cut_pack (s : ByteArray) (hs : s.size < 65536) : ∀ (k fr at_ j : Nat), s.size - at_ = k → fr ≤ at_ → at_ ≤ s.size → CutOK (bl s) (unpFrom ((packFrom s fr at_).take j) ((bl s).take fr) (s.size : Int)) := by
  intro k
  induction k using Nat.strongRecOn with
  | _ k ih =>
    intro fr at_ j hk hfa has
    have hseg : ∀ b, fr ≤ b → b ≤ s.size → ((bl s).drop fr).take (seg s fr b).length = seg s fr b := by
      intro b _ hb
      rw [seg_length s fr b hb]
      rfl
    by_cases hlt : at_ < s.size
    · by_cases h4 : (bestN s at_).1 < 4
      · rw [packFrom_one s fr at_ hlt h4]
        exact ih (s.size - (at_ + 1)) (by omega) fr (at_ + 1) j rfl (by omega) (by omega)
      · obtain ⟨h1, h2, h3, h5, h6, h7⟩ : 4 ≤ (bestN s at_).1 ∧ (bestN s at_).1 ≤ 131 ∧ 1 ≤ (bestN s at_).2 ∧ (bestN s at_).2 ≤ at_ ∧ at_ + (bestN s at_).1 ≤ s.size ∧ ∀ i, i < (bestN s at_).1 → byt s (at_ - (bestN s at_).2 + i) = byt s (at_ + i) := by
          rcases bestN_facts s at_ with ⟨h0, _⟩ | h
          · omega
          · exact h
        rw [packFrom_copy s fr at_ hlt h4, List.append_assoc]
        by_cases hj : j < (runB (seg s fr at_)).length
        · rw [List.take_append_of_le_length (by omega)]
          exact cut_run (bl s) _ (by omega) _ (seg s fr at_) fr j rfl (by rw [seg_length s fr at_ has, bl_length]; omega) (by rw [seg_length s fr at_ has]; omega) (hseg at_ hfa has) hj
        · rw [List.take_append, List.take_of_length_le (l := runB (seg s fr at_)) (by omega)]
          rw [unp_run _ _ (seg s fr at_) _ _ rfl (by rw [seg_length s fr at_ has]; simp [bl_length]; omega)]
          rw [seg_take s fr at_ hfa]
          simp only [List.cons_append, List.nil_append]
          generalize j - (runB (seg s fr at_)).length = i
          match i with
          | 0 => exact cut_nil _ at_ (by rw [bl_length]; exact has) _ (by omega)
          | 1 => exact .inl (unp_short_copy _ _ _ _ (by rw [ofNat_toNat _ (by omega)]; omega) (by simp))
          | 2 => exact .inl (unp_short_copy _ _ _ _ (by rw [ofNat_toNat _ (by omega)]; omega) (by simp))
          | i + 3 =>
            simp only [List.take_succ_cons]
            rw [unp_copy _ _ h1 h2 h3 (by omega) _ _ (by simp [bl_length]; omega), if_neg (by simp [bl_length]; omega)]
            have := copyN_alike (bl s) [] at_ _ h3 h5 _ (by rw [bl_length]; exact h6) (fun i hi => alike_get s _ _ (by omega) (by omega) (h7 i hi))
            simp only [List.nil_append] at this
            rw [this]
            exact ih (s.size - (at_ + (bestN s at_).1)) (by omega) _ _ i rfl (Nat.le_refl _) h6
    · rw [packFrom_end s fr at_ (by omega)]
      by_cases hj : j < (runB (seg s fr s.size)).length
      · exact cut_run (bl s) _ (by omega) _ (seg s fr s.size) fr j rfl (by rw [seg_length s fr s.size (Nat.le_refl _), bl_length]; omega) (by rw [seg_length s fr s.size (Nat.le_refl _)]; omega) (hseg s.size (by omega) (Nat.le_refl _)) hj
      · rw [List.take_of_length_le (by omega)]
        have := unp_run (s.size : Int) _ (seg s fr s.size) [] ((bl s).take fr) rfl (by rw [seg_length s fr s.size (Nat.le_refl _)]; simp [bl_length]; omega)
        rw [List.append_nil] at this
        rw [this, seg_take s fr s.size (by omega)]
        exact cut_nil _ s.size (by rw [bl_length]; exact Nat.le_refl _) _ (by omega)

/-- LzCuts, plain. -/
theorem cuts_plain (s : ByteArray) (hs : s.size < 65536) (n : Nat) : CutOK (bl s) (unp ((pack s).take n) (s.size : Int)) :=
  cut_pack s hs _ 0 0 n rfl (Nat.le_refl _) (Nat.zero_le _)

/-- LzPacks' bound. -/
theorem pack_bound (s : ByteArray) : ∀ (k fr at_ : Nat), s.size - at_ = k → fr ≤ at_ → at_ ≤ s.size → (packFrom s fr at_).length + fr + fr / 128 ≤ s.size + (s.size + 127) / 128 := by
  intro k
  induction k using Nat.strongRecOn with
  | _ k ih =>
    intro fr at_ hk hfa has
    by_cases hlt : at_ < s.size
    · by_cases h4 : (bestN s at_).1 < 4
      · rw [packFrom_one s fr at_ hlt h4]
        exact ih (s.size - (at_ + 1)) (by omega) fr (at_ + 1) rfl (by omega) (by omega)
      · obtain ⟨h1, h2, h3, h5, h6, h7⟩ : 4 ≤ (bestN s at_).1 ∧ (bestN s at_).1 ≤ 131 ∧ 1 ≤ (bestN s at_).2 ∧ (bestN s at_).2 ≤ at_ ∧ at_ + (bestN s at_).1 ≤ s.size ∧ ∀ i, i < (bestN s at_).1 → byt s (at_ - (bestN s at_).2 + i) = byt s (at_ + i) := by
          rcases bestN_facts s at_ with ⟨h0, _⟩ | h
          · omega
          · exact h
        rw [packFrom_copy s fr at_ hlt h4]
        have := ih (s.size - (at_ + (bestN s at_).1)) (by omega) _ _ rfl (Nat.le_refl _) h6
        simp only [List.length_append, List.length_cons, List.length_nil, runB_length _ _ (seg_length s fr at_ has)]
        omega
    · rw [packFrom_end s fr at_ (by omega), runB_length _ _ (seg_length s fr s.size (Nat.le_refl _))]
      omega
theorem packs_plain (s : ByteArray) : (pack s).length ≤ s.size + (s.size + 127) / 128 := by
  have := pack_bound s _ 0 0 rfl (Nat.le_refl _) (Nat.zero_le _)
  simpa [pack] using this

end Go.Proofs.Ytnjcganknpnjcaa
namespace Go.Proofs.Ytnjcganknpnjcaa
open Go.RowKit

theorem str_of_bl (s : ByteArray) : (⟨(bl s).toArray⟩ : ByteArray) = s := by simp [bl]
theorem beq_self_str (s : ByteArray) : (s.toList == s.toList) = true := by simp

set_option maxRecDepth 100000 in
set_option maxHeartbeats 1000000 in
theorem LzBack_walk (s : ByteArray) (most : Int) (hs : s.size ≤ maxLen) (hm : (Lit.int .i64 most).wf = true) (w : World) :
    Calls Try.prog 4 #[.string s, .int .i64 most] w fun e w' => e = .returned (.bool true) ∧ Below w.heap.size w w' := by
  unfold maxLen at hs
  obtain ⟨hm1, hm2⟩ := bounds_i64 hm
  clear hm
  by_cases h : s.size ≤ 2000
  · have t0 : decide ((2000 : Int) < (s.size : Int)) = false := decide_eq_false (by omega)
    have hp := back_plain s (by omega)
    have Hp := Lib.hid hp
    clear hp
    go_enter Try.func4, Try.ntmps4
    go_wp2_with fail
    refine (pack_any s w (by omega)).mono ?_
    rintro e w1 ⟨rfl, hb1⟩
    have hl : (pack s).length ≤ 100000 := by have := packs_plain s; omega
    go_wp2_with fail
    refine (unpack_any ⟨(pack s).toArray⟩ s.size w1 (by show (pack s).toArray.size ≤ 100000; simpa using hl) (by omega) (by omega)).mono ?_
    rintro e w2 ⟨rfl, hb2⟩
    rw [show (⟨(pack s).toArray⟩ : ByteArray).data.toList = pack s from rfl, Hp.out, if_neg (by omega), str_of_bl]
    go_wp2_with fail
    refine (unpack_any ⟨(pack s).toArray⟩ most w2 (by show (pack s).toArray.size ≤ 100000; simpa using hl) hm1 hm2).mono ?_
    rintro e w3 ⟨rfl, hb3⟩
    rw [show (⟨(pack s).toArray⟩ : ByteArray).data.toList = pack s from rfl, Hp.out]
    by_cases hlt : most < s.size
    · have t1 : decide (most < (s.size : Int)) = true := decide_eq_true hlt
      rw [if_pos hlt]
      go_wp2_with fail
      refine (awake_any w3).mono ?_
      rintro e w4 ⟨rfl, hb4⟩
      go_wp2
      go_ret
      exact ⟨rfl, ((hb1.trans (hb2.mono hb1.size)).trans (hb3.mono (Nat.le_trans hb1.size hb2.size))).trans (hb4.mono (Nat.le_trans (Nat.le_trans hb1.size hb2.size) hb3.size))⟩
    · have t1 : decide (most < (s.size : Int)) = false := decide_eq_false hlt
      rw [if_neg hlt, str_of_bl]
      go_wp2_with fail
      refine (awake_any w3).mono ?_
      rintro e w4 ⟨rfl, hb4⟩
      go_wp2
      go_ret
      exact ⟨rfl, ((hb1.trans (hb2.mono hb1.size)).trans (hb3.mono (Nat.le_trans hb1.size hb2.size))).trans (hb4.mono (Nat.le_trans (Nat.le_trans hb1.size hb2.size) hb3.size))⟩
  · have t0 : decide ((2000 : Int) < (s.size : Int)) = true := decide_eq_true (by omega)
    go_enter Try.func4, Try.ntmps4
    go_wp2_with fail
    refine (awake_any w).mono ?_
    rintro e w1 ⟨rfl, hb1⟩
    go_wp2
    go_ret
    exact ⟨rfl, hb1⟩

end Go.Proofs.Ytnjcganknpnjcaa
