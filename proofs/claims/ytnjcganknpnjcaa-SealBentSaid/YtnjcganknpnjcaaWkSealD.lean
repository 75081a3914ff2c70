/- The walk of SealBent. -/
import Derived.Test.YtnjcganknpnjcaaGq
import Derived.OpenShut
set_option linter.unusedVariables false
set_option linter.unusedSimpArgs false
namespace Go.Proofs.Ytnjcganknpnjcaa
open Go.RowKit
theorem openV_long (kb : Nat → Nat) (head box : ByteArray) (h : 44 ≤ box.size) : (openV kb head box).2 = 0 ∨ ((openV kb head box).2 = 5 ∧ (openV kb head box).1 = ⟨#[]⟩) := by
  unfold openV
  rw [if_neg (by omega)]
  split
  · exact .inl rfl
  · exact .inr ⟨rfl, rfl⟩
theorem conv_str2 (w : World) (s : ByteArray) : ∃ cap w', (convert 9 46 (.string s)).run Try.prog w = .ok (.slice (some ⟨w.heap.size, 0, none⟩) s.size cap) w' ∧ BRow w' w.heap.size s.size (fun i => (byt s i).toNat) ∧ Below w.heap.size w w' ∧ w'.heap.size = w.heap.size + 1 ∧ s.size ≤ cap := by
  refine ⟨_, _, run_bytes_of_string w 9 46 5 s Try.underlying9 Try.underlying46 Try.underlying5, ⟨bytesRow s (grownCap w s.size 0 5), heap_new w.drew _, ?_, ?_⟩, (Below.refl _ w).drew.alloc (Nat.le_refl _) _, ?_, grownCap_ge w s.size 0 5⟩
  · simp [bytesRow]
  · intro i hi
    have hi' : i < s.data.size := hi
    rw [bytesRow, Array.getElem?_append_left (by simpa using hi)]
    have hb := byt_range s i
    have hv : (((byt s i).toNat : Nat) : Int) = ((s[i]'hi).toNat : Int) := by
      rw [byt_at s i hi]
      omega
    rw [bytesV, hv]
    have e1 : s.data[i]? = some (s[i]'hi) := Array.getElem?_eq_getElem hi'
    rw [Array.getElem?_map, e1]
    rfl
  · show (w.heap.push _).size = _
    simp
theorem wrap64_small (n : Nat) (h : n ≤ 1000) : wrap64 (n : Int) = (n : Int) := by unfold wrap64; omega
theorem BRow.take {w : World} {b n m : Nat} {v : Nat → Nat} (h : BRow w b n v) (hm : m ≤ n) : BRow w b m v := by
  obtain ⟨c, hb, hn, hc⟩ := h
  exact ⟨c, hb, by omega, fun i hi => hc i (by omega)⟩

set_option maxRecDepth 100000 in
set_option maxHeartbeats 8000000 in
theorem SealBent_walk (kb : Nat → Nat) (hk : Bytes kb) (nb : Nat → Nat) (hn : Bytes nb) (head : ByteArray) (_ : head.size ≤ maxLen) (data : ByteArray) (_ : data.size ≤ maxLen) (at' : Int) (hat : (Lit.int .u16 at').wf = true) (by' : Int) (hby : (Lit.int .u8 by').wf = true) (other : ByteArray) (_ : other.size ≤ maxLen) (w : World) :
    Calls Try.prog 13 #[.agg (arrA 32 (bytesV kb)), .agg (arrA 12 (bytesV nb)), .string head, .string data, .int .u16 at', .int .u8 by', .string other] w fun e w' => e = .returned (.bool true) ∧ Below w.heap.size w w' := by
  obtain ⟨a1, a2⟩ := bounds_u16 hat
  obtain ⟨b1, b2⟩ := bounds_u8 hby
  clear hat hby
  by_cases h1 : head.size ≤ 300
  · have t0 : decide ((300 : Int) < (head.size : Int)) = false := decide_eq_false (by omega)
    by_cases h2 : data.size ≤ 300
    · have t1 : decide ((300 : Int) < (data.size : Int)) = false := decide_eq_false (by omega)
      by_cases h3 : other.size ≤ 300
      · have t2 : decide ((300 : Int) < (other.size : Int)) = false := decide_eq_false (by omega)
        by_cases h4 : by' = 0
        · subst h4
          go_enter Try.func13, Try.ntmps13
          have a2 : Below w.heap.size w ((w.alloc (Obj.cells (arrA 32 (bytesV kb)) 34)).alloc (Obj.cells (arrA 12 (bytesV nb)) 49)) := ((Below.refl _ w).alloc (Nat.le_refl _) _).alloc (by simp) _
          go_wp2_with fail
          refine (awakeS_any _).mono ?_
          rintro e w1 ⟨rfl, hb1⟩
          have c2 := a2.trans (hb1.mono a2.size)
          go_wp2
          go_ret
          exact ⟨rfl, c2⟩
        · have t3 : decide (by' = 0) = false := decide_eq_false h4
          have t3b : (by' == 0) = false := by simp [h4]
          have hbs := sealV_size kb nb head data
          have c1 := fun W => seal_any kb nb head data W hk hn (by omega) (by omega)
          have hos := open_seal kb nb head data hn
          obtain ⟨b, hb⟩ : ∃ b, sealV kb nb head data = b := ⟨_, rfl⟩
          rw [hb] at hbs c1 hos
          obtain ⟨L, hL⟩ : ∃ L, b.size = L := ⟨_, rfl⟩
          have hLp : 0 < L := by omega
          obtain ⟨n, hnn⟩ : ∃ n, at'.toNat % L = n := ⟨_, rfl⟩
          have hnl : n < L := by rw [← hnn]; exact Nat.mod_lt _ hLp
          have e1 : at' % (L : Int) = (n : Int) := by rw [← hnn, Int.natCast_emod, Int.toNat_of_nonneg a1]
          have e2 : at'.tmod (L : Int) = (n : Int) := by rw [Int.tmod_eq_emod_of_nonneg a1]; exact e1
          have He1 := Lib.hid e1
          have He2 := Lib.hid e2
          clear e1 e2 hnn
          have hn2 : n ≤ 1000 := by omega
          have e5 : (n : Int) < (L : Int) := by omega
          have e6 : (n : Int) ≤ (L : Int) := by omega
          have t9 : decide ((L : Int) = 0) = false := decide_eq_false (by omega)
          have t10 : ¬ (L : Int) = 0 := by omega
          have t11 : ¬ L = 0 := by omega
          obtain ⟨v, hv⟩ : ∃ v, (fun i => (byt b i).toNat) = v := ⟨_, rfl⟩
          have hvb : Bytes v := by rw [← hv]; exact fun i => byt_toNat_lt b i
          obtain ⟨y, hy⟩ : ∃ y, by'.toNat = y := ⟨_, rfl⟩
          have e7 : by' = (y : Int) := by omega
          have hyl : y < 256 := by omega
          have x1 := u8_xor_nat (v n) y (hvb n) hyl
          have hzl : v n ^^^ y < 256 := Nat.xor_lt_two_pow (n := 8) (hvb n) hyl
          obtain ⟨z, hz⟩ : ∃ z, v n ^^^ y = z := ⟨_, rfl⟩
          rw [hz] at x1 hzl
          have t6 : decide ((y : Int) = 0) = false := decide_eq_false (by omega)
          obtain ⟨cut, hcut⟩ : ∃ cut, txt n v = cut := ⟨_, rfl⟩
          have hcs : cut.size = n := by rw [← hcut, txt_size]
          obtain ⟨bent, hbent⟩ : ∃ bent, txt L (upd v n z) = bent := ⟨_, rfl⟩
          have hbs2 : bent.size = L := by rw [← hbent, txt_size]
          have o1 := fun W => open_any kb head bent W hk (by omega) (by omega)
          have r1 := fun W => ropen_any kb head bent W hk (by omega) (by omega)
          obtain ⟨s1, hs1⟩ : ∃ s, (openV kb head bent).1 = s := ⟨_, rfl⟩
          obtain ⟨n1, hn1⟩ : ∃ n, (openV kb head bent).2 = n := ⟨_, rfl⟩
          rw [hs1, hn1] at o1 r1
          have o2 := fun W => open_any kb head cut W hk (by omega) (by omega)
          have r2 := fun W => ropen_any kb head cut W hk (by omega) (by omega)
          obtain ⟨s2, hs2⟩ : ∃ s, (openV kb head cut).1 = s := ⟨_, rfl⟩
          obtain ⟨n2, hn2⟩ : ∃ n, (openV kb head cut).2 = n := ⟨_, rfl⟩
          rw [hs2, hn2] at o2 r2
          have o3 := fun W => open_any kb other b W hk (by omega) (by omega)
          have r3 := fun W => ropen_any kb other b W hk (by omega) (by omega)
          obtain ⟨s3, hs3⟩ : ∃ s, (openV kb other b).1 = s := ⟨_, rfl⟩
          obtain ⟨n3, hn3⟩ : ∃ n, (openV kb other b).2 = n := ⟨_, rfl⟩
          rw [hs3, hn3] at o3 r3
          have ho1 : n1 = 0 ∨ (n1 = 5 ∧ s1 = ⟨#[]⟩) := by rw [← hn1, ← hs1]; exact openV_long kb head bent (by omega)
          have ho2 : n2 = 0 ∨ (n2 ≠ 0 ∧ s2 = ⟨#[]⟩) := by rw [← hn2, ← hs2]; exact openV_or kb head cut
          have ho3 : n3 = 0 ∨ (n3 = 5 ∧ s3 = ⟨#[]⟩ ∧ ¬ other.toList = head.toList) := by
            rcases openV_long kb other b (by omega) with h | ⟨h, h'⟩
            · exact .inl (by rw [← hn3]; exact h)
            · refine .inr ⟨by rw [← hn3]; exact h, by rw [← hs3]; exact h', fun e => ?_⟩
              have e' : other = head := by
                rw [ByteArray.toList_eq, ByteArray.toList_eq] at e
                exact ByteArray.ext (Array.toList_inj.1 e)
              rw [e', hos] at h
              exact absurd h (by show ¬ ((0 : Nat) = 5); decide)
          have Ho1 := Lib.hid ho1
          have Ho2 := Lib.hid ho2
          have Ho3 := Lib.hid ho3
          clear ho1 ho2 ho3
          rw [← e7] at x1
          clear e7 t6
          have Hv := Lib.hid hv
          have Hcut := Lib.hid hcut
          have Hbent := Lib.hid hbent
          have HL := Lib.hid hL
          have hLb : L ≤ 1000 := by omega
          have e4b : IntKind.i64.wrap (n : Int) = (n : Int) := IntWalk.i64_in _ (by omega)
          have e4 : wrap64 (n : Int) = (n : Int) := wrap64_small n (by omega)
          clear hos hbs hb hv hcut hcs hbent hbs2 hs1 hn1 hs2 hn2 hs3 hn3 hz hy hvb hL
          go_enter Try.func13, Try.ntmps13
          have a0 : World.rowIs ((w.alloc (Obj.cells (arrA 32 (bytesV kb)) 34)).alloc (Obj.cells (arrA 12 (bytesV nb)) 49)) w.heap.size 34 32 (bytesV kb) := (row_of_heap (heap_new w _)).alloc _
          have a1 : World.rowIs ((w.alloc (Obj.cells (arrA 32 (bytesV kb)) 34)).alloc (Obj.cells (arrA 12 (bytesV nb)) 49)) (w.heap.size + 1) 49 12 (bytesV nb) := by
            have := heap_new (w.alloc (Obj.cells (arrA 32 (bytesV kb)) 34)) (Obj.cells (arrA 12 (bytesV nb)) 49)
            rw [World.size_alloc] at this
            exact row_of_heap this
          have a2 : Below w.heap.size w ((w.alloc (Obj.cells (arrA 32 (bytesV kb)) 34)).alloc (Obj.cells (arrA 12 (bytesV nb)) 49)) := ((Below.refl _ w).alloc (Nat.le_refl _) _).alloc (by simp) _
          go_upto_region 1 with fail
          obtain ⟨W0, hW0⟩ : ∃ W0, ((w.alloc (Obj.cells (arrA 32 (bytesV kb)) 34)).alloc (Obj.cells (arrA 12 (bytesV nb)) 49)) = W0 := ⟨_, rfl⟩
          rw [hW0] at a0 a1 a2 ⊢
          clear hW0
          have q0 : SQ w.heap.size kb nb w W0 := ⟨a0, a1, a2⟩
          clear a0 a1 a2
          go_upto_region 3 with fail
          go_wp2_with (first | (refine load_arr rfl 34 _ rfl 32 5 34 w.heap.size _ rfl q0.kr und34 siz34 ?_) | (refine load_arr rfl 49 _ rfl 12 5 49 (w.heap.size + 1) _ rfl q0.nr und49 siz49 ?_))
          refine (c1 _).mono ?_
          rintro e w1 ⟨rfl, hb1⟩
          have q1 := q0.past hb1
          obtain ⟨cap, w2, hcv, hob, hb2, hsz, hcap⟩ := conv_str2 w1 b
          rw [HL.out] at hcap
          have e9 : n ≤ cap := Nat.le_trans (Nat.le_of_lt hnl) hcap
          have e8 : (n : Int) ≤ (cap : Int) := Int.ofNat_le.2 e9
          rw [Hv.out, HL.out] at hob
          rw [HL.out] at hcv
          have q2 := q1.past hb2
          obtain ⟨O, hO⟩ : ∃ O, w1.heap.size = O := ⟨_, rfl⟩
          have hqO : w.heap.size + 1 < O := by rw [← hO]; exact q1.nr.lt
          rw [hO] at hcv hob
          have hcut := conv_brow (c := cap) (hob.take (Nat.le_of_lt hnl))
          rw [Hcut.out] at hcut
          have d1 := hob.cell hnl
          have d2 := hob.frozen hnl
          have hob2 := hob.put hnl z
          have hbt := conv_brow (c := cap) hob2
          rw [Hbent.out] at hbt
          have q3 : SQ w.heap.size kb nb w (w2.setCell ⟨O, n, none⟩ (.int .u8 (z : Int))) :=
            ⟨q2.kr.setOther (by dsimp only; omega) _, q2.nr.setOther (by dsimp only; omega) _, q2.below.setCell (by dsimp only; omega) _⟩
          go_upto_region 6 with fail
          have e1 := He1.out
          have e2 := He2.out
          go_upto_region 7 with fail
          clear e1 e2
          go_upto_region 10 with fail
          obtain ⟨X, hX⟩ : ∃ X, w2.setCell ⟨O, n, none⟩ (.int .u8 (z : Int)) = X := ⟨_, rfl⟩
          rw [hX] at q3 ⊢
          clear hX hbt hob2 d1 d2 hcut hob hcv q2 q1 q0 hb2 hb1
          go_wp2_with (first | (refine load_arr rfl 34 _ rfl 32 5 34 w.heap.size _ rfl q3.kr und34 siz34 ?_) | (refine load_arr rfl 49 _ rfl 12 5 49 (w.heap.size + 1) _ rfl q3.nr und49 siz49 ?_))
          refine (c1 _).mono ?_
          rintro e w4 ⟨rfl, hb4⟩
          have q4 := q3.past hb4
          rcases Ho1.out with rfl | ⟨rfl, rfl⟩
          · go_upto_region 11 with fail
            go_wp2_with (first | (refine load_arr rfl 34 _ rfl 32 5 34 w.heap.size _ rfl q4.kr und34 siz34 ?_) | (refine load_arr rfl 49 _ rfl 12 5 49 (w.heap.size + 1) _ rfl q4.nr und49 siz49 ?_))
            refine (r1 _).mono ?_
            rintro e w1 ⟨rfl, hbw1⟩
            have q1 := q4.past hbw1
            rcases Ho2.out with rfl | ⟨hn2, rfl⟩
            · go_upto_region 16 with fail
              go_wp2_with (first | (refine load_arr rfl 34 _ rfl 32 5 34 w.heap.size _ rfl q1.kr und34 siz34 ?_) | (refine load_arr rfl 49 _ rfl 12 5 49 (w.heap.size + 1) _ rfl q1.nr und49 siz49 ?_))
              refine (r2 _).mono ?_
              rintro e w3 ⟨rfl, hbw3⟩
              have q3 := q1.past hbw3
              rcases Ho3.out with rfl | ⟨rfl, rfl, hne⟩
              · go_upto_region 21 with fail
                go_wp2_with (first | (refine load_arr rfl 34 _ rfl 32 5 34 w.heap.size _ rfl q3.kr und34 siz34 ?_) | (refine load_arr rfl 49 _ rfl 12 5 49 (w.heap.size + 1) _ rfl q3.nr und49 siz49 ?_))
                refine (r3 _).mono ?_
                rintro e w5 ⟨rfl, hbw5⟩
                have q5 := q3.past hbw5
                go_wp2_with fail
                refine (awakeS_any _).mono ?_
                rintro e w6 ⟨rfl, hbw6⟩
                have q6 := q5.past hbw6
                go_wp2
                go_ret
                exact ⟨rfl, q6.below⟩
              · have hne2 : (other.toList == head.toList) = false := by rw [beq_eq_false_iff_ne]; exact hne
                go_upto_region 21 with fail
                go_wp2_with (first | (refine load_arr rfl 34 _ rfl 32 5 34 w.heap.size _ rfl q3.kr und34 siz34 ?_) | (refine load_arr rfl 49 _ rfl 12 5 49 (w.heap.size + 1) _ rfl q3.nr und49 siz49 ?_))
                refine (r3 _).mono ?_
                rintro e w5 ⟨rfl, hbw5⟩
                have q5 := q3.past hbw5
                go_upto_region 23 with fail
                go_wp2_with (first | (refine load_arr rfl 34 _ rfl 32 5 34 w.heap.size _ rfl q5.kr und34 siz34 ?_) | (refine load_arr rfl 49 _ rfl 12 5 49 (w.heap.size + 1) _ rfl q5.nr und49 siz49 ?_))
                refine (o3 _).mono ?_
                rintro e w6 ⟨rfl, hbw6⟩
                have q6 := q5.past hbw6
                go_wp2_with fail
                refine (awakeS_any _).mono ?_
                rintro e w7 ⟨rfl, hbw7⟩
                have q7 := q6.past hbw7
                go_wp2
                go_ret
                exact ⟨rfl, q7.below⟩
            · have t5 : decide ((n2 : Int) = 0) = false := decide_eq_false (by omega)
              go_upto_region 16 with fail
              go_wp2_with (first | (refine load_arr rfl 34 _ rfl 32 5 34 w.heap.size _ rfl q1.kr und34 siz34 ?_) | (refine load_arr rfl 49 _ rfl 12 5 49 (w.heap.size + 1) _ rfl q1.nr und49 siz49 ?_))
              refine (r2 _).mono ?_
              rintro e w3 ⟨rfl, hbw3⟩
              have q3 := q1.past hbw3
              go_upto_region 18 with fail
              go_wp2_with (first | (refine load_arr rfl 34 _ rfl 32 5 34 w.heap.size _ rfl q3.kr und34 siz34 ?_) | (refine load_arr rfl 49 _ rfl 12 5 49 (w.heap.size + 1) _ rfl q3.nr und49 siz49 ?_))
              refine (o2 _).mono ?_
              rintro e w4 ⟨rfl, hbw4⟩
              have q4 := q3.past hbw4
              rcases Ho3.out with rfl | ⟨rfl, rfl, hne⟩
              · go_upto_region 21 with fail
                go_wp2_with (first | (refine load_arr rfl 34 _ rfl 32 5 34 w.heap.size _ rfl q4.kr und34 siz34 ?_) | (refine load_arr rfl 49 _ rfl 12 5 49 (w.heap.size + 1) _ rfl q4.nr und49 siz49 ?_))
                refine (r3 _).mono ?_
                rintro e w8 ⟨rfl, hbw8⟩
                have q8 := q4.past hbw8
                go_wp2_with fail
                refine (awakeS_any _).mono ?_
                rintro e w9 ⟨rfl, hbw9⟩
                have q9 := q8.past hbw9
                go_wp2
                go_ret
                exact ⟨rfl, q9.below⟩
              · have hne2 : (other.toList == head.toList) = false := by rw [beq_eq_false_iff_ne]; exact hne
                go_upto_region 21 with fail
                go_wp2_with (first | (refine load_arr rfl 34 _ rfl 32 5 34 w.heap.size _ rfl q4.kr und34 siz34 ?_) | (refine load_arr rfl 49 _ rfl 12 5 49 (w.heap.size + 1) _ rfl q4.nr und49 siz49 ?_))
                refine (r3 _).mono ?_
                rintro e w8 ⟨rfl, hbw8⟩
                have q8 := q4.past hbw8
                go_upto_region 23 with fail
                go_wp2_with (first | (refine load_arr rfl 34 _ rfl 32 5 34 w.heap.size _ rfl q8.kr und34 siz34 ?_) | (refine load_arr rfl 49 _ rfl 12 5 49 (w.heap.size + 1) _ rfl q8.nr und49 siz49 ?_))
                refine (o3 _).mono ?_
                rintro e w9 ⟨rfl, hbw9⟩
                have q9 := q8.past hbw9
                go_wp2_with fail
                refine (awakeS_any _).mono ?_
                rintro e w10 ⟨rfl, hbw10⟩
                have q10 := q9.past hbw10
                go_wp2
                go_ret
                exact ⟨rfl, q10.below⟩
          · go_upto_region 11 with fail
            go_wp2_with (first | (refine load_arr rfl 34 _ rfl 32 5 34 w.heap.size _ rfl q4.kr und34 siz34 ?_) | (refine load_arr rfl 49 _ rfl 12 5 49 (w.heap.size + 1) _ rfl q4.nr und49 siz49 ?_))
            refine (r1 _).mono ?_
            rintro e w1 ⟨rfl, hbw1⟩
            have q1 := q4.past hbw1
            go_upto_region 13 with fail
            go_wp2_with (first | (refine load_arr rfl 34 _ rfl 32 5 34 w.heap.size _ rfl q1.kr und34 siz34 ?_) | (refine load_arr rfl 49 _ rfl 12 5 49 (w.heap.size + 1) _ rfl q1.nr und49 siz49 ?_))
            refine (o1 _).mono ?_
            rintro e w2 ⟨rfl, hbw2⟩
            have q2 := q1.past hbw2
            rcases Ho2.out with rfl | ⟨hn2, rfl⟩
            · go_upto_region 16 with fail
              go_wp2_with (first | (refine load_arr rfl 34 _ rfl 32 5 34 w.heap.size _ rfl q2.kr und34 siz34 ?_) | (refine load_arr rfl 49 _ rfl 12 5 49 (w.heap.size + 1) _ rfl q2.nr und49 siz49 ?_))
              refine (r2 _).mono ?_
              rintro e w11 ⟨rfl, hbw11⟩
              have q11 := q2.past hbw11
              rcases Ho3.out with rfl | ⟨rfl, rfl, hne⟩
              · go_upto_region 21 with fail
                go_wp2_with (first | (refine load_arr rfl 34 _ rfl 32 5 34 w.heap.size _ rfl q11.kr und34 siz34 ?_) | (refine load_arr rfl 49 _ rfl 12 5 49 (w.heap.size + 1) _ rfl q11.nr und49 siz49 ?_))
                refine (r3 _).mono ?_
                rintro e w13 ⟨rfl, hbw13⟩
                have q13 := q11.past hbw13
                go_wp2_with fail
                refine (awakeS_any _).mono ?_
                rintro e w14 ⟨rfl, hbw14⟩
                have q14 := q13.past hbw14
                go_wp2
                go_ret
                exact ⟨rfl, q14.below⟩
              · have hne2 : (other.toList == head.toList) = false := by rw [beq_eq_false_iff_ne]; exact hne
                go_upto_region 21 with fail
                go_wp2_with (first | (refine load_arr rfl 34 _ rfl 32 5 34 w.heap.size _ rfl q11.kr und34 siz34 ?_) | (refine load_arr rfl 49 _ rfl 12 5 49 (w.heap.size + 1) _ rfl q11.nr und49 siz49 ?_))
                refine (r3 _).mono ?_
                rintro e w13 ⟨rfl, hbw13⟩
                have q13 := q11.past hbw13
                go_upto_region 23 with fail
                go_wp2_with (first | (refine load_arr rfl 34 _ rfl 32 5 34 w.heap.size _ rfl q13.kr und34 siz34 ?_) | (refine load_arr rfl 49 _ rfl 12 5 49 (w.heap.size + 1) _ rfl q13.nr und49 siz49 ?_))
                refine (o3 _).mono ?_
                rintro e w14 ⟨rfl, hbw14⟩
                have q14 := q13.past hbw14
                go_wp2_with fail
                refine (awakeS_any _).mono ?_
                rintro e w15 ⟨rfl, hbw15⟩
                have q15 := q14.past hbw15
                go_wp2
                go_ret
                exact ⟨rfl, q15.below⟩
            · have t5 : decide ((n2 : Int) = 0) = false := decide_eq_false (by omega)
              go_upto_region 16 with fail
              go_wp2_with (first | (refine load_arr rfl 34 _ rfl 32 5 34 w.heap.size _ rfl q2.kr und34 siz34 ?_) | (refine load_arr rfl 49 _ rfl 12 5 49 (w.heap.size + 1) _ rfl q2.nr und49 siz49 ?_))
              refine (r2 _).mono ?_
              rintro e w11 ⟨rfl, hbw11⟩
              have q11 := q2.past hbw11
              go_upto_region 18 with fail
              go_wp2_with (first | (refine load_arr rfl 34 _ rfl 32 5 34 w.heap.size _ rfl q11.kr und34 siz34 ?_) | (refine load_arr rfl 49 _ rfl 12 5 49 (w.heap.size + 1) _ rfl q11.nr und49 siz49 ?_))
              refine (o2 _).mono ?_
              rintro e w12 ⟨rfl, hbw12⟩
              have q12 := q11.past hbw12
              rcases Ho3.out with rfl | ⟨rfl, rfl, hne⟩
              · go_upto_region 21 with fail
                go_wp2_with (first | (refine load_arr rfl 34 _ rfl 32 5 34 w.heap.size _ rfl q12.kr und34 siz34 ?_) | (refine load_arr rfl 49 _ rfl 12 5 49 (w.heap.size + 1) _ rfl q12.nr und49 siz49 ?_))
                refine (r3 _).mono ?_
                rintro e w16 ⟨rfl, hbw16⟩
                have q16 := q12.past hbw16
                go_wp2_with fail
                refine (awakeS_any _).mono ?_
                rintro e w17 ⟨rfl, hbw17⟩
                have q17 := q16.past hbw17
                go_wp2
                go_ret
                exact ⟨rfl, q17.below⟩
              · have hne2 : (other.toList == head.toList) = false := by rw [beq_eq_false_iff_ne]; exact hne
                go_upto_region 21 with fail
                go_wp2_with (first | (refine load_arr rfl 34 _ rfl 32 5 34 w.heap.size _ rfl q12.kr und34 siz34 ?_) | (refine load_arr rfl 49 _ rfl 12 5 49 (w.heap.size + 1) _ rfl q12.nr und49 siz49 ?_))
                refine (r3 _).mono ?_
                rintro e w16 ⟨rfl, hbw16⟩
                have q16 := q12.past hbw16
                go_upto_region 23 with fail
                go_wp2_with (first | (refine load_arr rfl 34 _ rfl 32 5 34 w.heap.size _ rfl q16.kr und34 siz34 ?_) | (refine load_arr rfl 49 _ rfl 12 5 49 (w.heap.size + 1) _ rfl q16.nr und49 siz49 ?_))
                refine (o3 _).mono ?_
                rintro e w17 ⟨rfl, hbw17⟩
                have q17 := q16.past hbw17
                go_wp2_with fail
                refine (awakeS_any _).mono ?_
                rintro e w18 ⟨rfl, hbw18⟩
                have q18 := q17.past hbw18
                go_wp2
                go_ret
                exact ⟨rfl, q18.below⟩
      · have t2 : decide ((300 : Int) < (other.size : Int)) = true := decide_eq_true (by omega)
        go_enter Try.func13, Try.ntmps13
        have a2 : Below w.heap.size w ((w.alloc (Obj.cells (arrA 32 (bytesV kb)) 34)).alloc (Obj.cells (arrA 12 (bytesV nb)) 49)) := ((Below.refl _ w).alloc (Nat.le_refl _) _).alloc (by simp) _
        go_wp2_with fail
        refine (awakeS_any _).mono ?_
        rintro e w1 ⟨rfl, hb1⟩
        have c2 := a2.trans (hb1.mono a2.size)
        go_wp2
        go_ret
        exact ⟨rfl, c2⟩
    · have t1 : decide ((300 : Int) < (data.size : Int)) = true := decide_eq_true (by omega)
      go_enter Try.func13, Try.ntmps13
      have a2 : Below w.heap.size w ((w.alloc (Obj.cells (arrA 32 (bytesV kb)) 34)).alloc (Obj.cells (arrA 12 (bytesV nb)) 49)) := ((Below.refl _ w).alloc (Nat.le_refl _) _).alloc (by simp) _
      go_wp2_with fail
      refine (awakeS_any _).mono ?_
      rintro e w1 ⟨rfl, hb1⟩
      have c2 := a2.trans (hb1.mono a2.size)
      go_wp2
      go_ret
      exact ⟨rfl, c2⟩
  · have t0 : decide ((300 : Int) < (head.size : Int)) = true := decide_eq_true (by omega)
    go_enter Try.func13, Try.ntmps13
    have a2 : Below w.heap.size w ((w.alloc (Obj.cells (arrA 32 (bytesV kb)) 34)).alloc (Obj.cells (arrA 12 (bytesV nb)) 49)) := ((Below.refl _ w).alloc (Nat.le_refl _) _).alloc (by simp) _
    go_wp2_with fail
    refine (awakeS_any _).mono ?_
    rintro e w1 ⟨rfl, hb1⟩
    have c2 := a2.trans (hb1.mono a2.size)
    go_wp2
    go_ret
    exact ⟨rfl, c2⟩
end Go.Proofs.Ytnjcganknpnjcaa
