/- lz: the reference's Unpack: the same bytes, the same number. -/
import Derived.Test.YtnjcganknpnjcaaLzRA
import Derived.Test.YtnjcganknpnjcaaLzV
namespace Go.Proofs.Ytnjcganknpnjcaa
open Go.RowKit

def RUnpPost (b : List UInt8) (most : Int) (w : World) (e : Ending) (w' : World) : Prop :=
  e = .returned (.tuple #[.string ⟨(unp b most).1.toArray⟩, .int .i64 (unp b most).2]) ∧ Drew w w'
theorem ret_unp_out {b : List UInt8} {most : Int} {o : ByteArray} {c : Int} (h : (o.data.toList, c) = unp b most) : Ending.returned (.tuple #[.string o, .int .i64 c]) = .returned (.tuple #[.string ⟨(unp b most).1.toArray⟩, .int .i64 (unp b most).2]) := by
  rw [← h]

set_option maxRecDepth 100000 in
set_option maxHeartbeats 2000000 in
theorem runpack_any (b : ByteArray) (most : Int) (w : World) (hb : b.size ≤ 100000) (hm1 : -9223372036854775808 ≤ most) (hm2 : most ≤ 9223372036854775807) :
    Calls Try.prog 29 #[.string b, .int .i64 most] w (RUnpPost b.data.toList most w) := by
  go_enter Try.func29, Try.ntmps29
  go_wp2
  go_loopw [0, 6] (fun a v wr => ∃ x o : ByteArray, a = .string x ∧ v = .string o ∧ Hid (unpFrom x.data.toList o.data.toList most = unp b.data.toList most) ∧ o.size + 131 * x.size ≤ 131 * b.size ∧ ∃ nd, wr = w.drewN nd) (fun a _ _ => szOfS a)
  case atStart => exact ⟨b, ⟨#[]⟩, rfl, rfl, Lib.hid rfl, by show 0 + _ ≤ _; omega, 0, rfl⟩
  case round =>
    obtain ⟨x, o, rfl, rfl, Hun, hlen, nd, rfl⟩ := hrel
    have hsz : x.data.toList.length = x.size := by simp
    have hso : o.data.toList.length = o.size := by simp
    cases hx : x.data.toList with
    | nil =>
      have hx0 : x.size = 0 := by rw [← hsz, hx]; rfl
      have hx1 : decide ((0 : Int) < (x.size : Int)) = false := decide_eq_false (by omega)
      rw [hx, unpFrom_nil] at Hun
      clear hx hsz hso
      by_cases hm : most < 0
      · have t0 : decide (most < 0) = true := decide_eq_true hm
        rw [if_pos hm] at Hun
        clear hlen
        go_wp2
        go_ret2
        exact ⟨ret_unp Hun.out, Drew.draws _ _⟩
      · have t0 : decide (most < 0) = false := decide_eq_false hm
        rw [if_neg hm] at Hun
        go_wp2
        go_ret2
        exact ⟨ret_unp_out Hun.out, Drew.draws _ _⟩
    | cons c r =>
      have hxs : x.size = r.length + 1 := by rw [← hsz, hx]; rfl
      have hx1 : decide ((0 : Int) < (x.size : Int)) = true := decide_eq_true (by omega)
      have h0 : ∀ h : 0 < x.size, ((x[0]'h).toNat : Int) = (c.toNat : Int) := by
        intro h
        have e : x[0]'h = (x.data.toList)[0]'(by omega) := rfl
        rw [e]
        simp [hx]
      have hg : ∀ i, i < r.length → byt x (i + 1) = ((r.getD i 0).toNat : Int) := by
        intro i hi
        have hy' : i + 1 < x.size := by omega
        rw [← byt_at x (i + 1) hy']
        have e : x[i + 1]'hy' = (x.data.toList)[i + 1]'(by simpa using hy') := rfl
        rw [e]
        simp [hx, hi]
      have hdr : ∀ p, (x.extract (p + 1) x.size).data.toList = r.drop p := by
        intro p
        rw [Lib.extract_data, hx]
        exact List.take_of_length_le (by simp; omega)
      have htk : ∀ p, p ≤ r.length → (x.extract 1 (p + 1)).data.toList = r.take p := by
        intro p hp
        rw [Lib.extract_data, hx]
        simp
      obtain ⟨m, hm⟩ : ∃ m, c.toNat = m := ⟨_, rfl⟩
      have hm256 : m < 256 := by rw [← hm]; exact c.toNat_lt
      rw [hm] at h0
      rw [hx, unpFrom_cons, hm, hso] at Hun
      have Hxs := Lib.hid hxs
      have hob : o.size ≤ 13100000 := by omega
      have hxp : 0 < x.size := by omega
      clear hx hsz hm hso
      by_cases h128 : m < 128
      · have t0 : decide ((m : Int) < 128) = true := decide_eq_true (by omega)
        rw [if_pos h128] at Hun
        clear hg
        by_cases hsh : r.length < m + 1
        · rw [if_pos hsh] at Hun
          have t1 : decide ((x.size : Int) < (m : Int) + 2) = true := decide_eq_true (by omega)
          clear htk hdr hxs
          go_wp2
          go_ret2
          exact ⟨ret_unp Hun.out, Drew.draws _ _⟩
        · rw [if_neg hsh] at Hun
          have t1 : decide ((x.size : Int) < (m : Int) + 2) = false := decide_eq_false (by omega)
          by_cases hmo : most < ((o.size + (m + 1) : Nat) : Int)
          · rw [if_pos hmo] at Hun
            have t2 : decide (most < (o.size : Int) + m + 1) = true := decide_eq_true (by omega)
            clear htk hdr hxs hmo
            go_wp2
            go_ret2
            exact ⟨ret_unp Hun.out, Drew.draws _ _⟩
          · rw [if_neg hmo] at Hun
            have t2 : decide (most < (o.size : Int) + m + 1) = false := decide_eq_false (by omega)
            have hz1 := htk (m + 1) (by omega)
            have hz2 := hdr (m + 1)
            obtain ⟨z, hz⟩ : ∃ z, x.extract 1 (m + 2) = z := ⟨_, rfl⟩
            obtain ⟨z2, hz2'⟩ : ∃ z, x.extract (m + 2) x.size = z := ⟨_, rfl⟩
            rw [show m + 1 + 1 = m + 2 by omega, hz] at hz1
            rw [show m + 1 + 1 = m + 2 by omega, hz2'] at hz2
            have hzl : z.size = m + 1 := by
              have : z.data.toList.length = z.size := by simp
              rw [← this, hz1, List.length_take]
              omega
            have hz2l : z2.size = r.length - (m + 1) := by
              have : z2.data.toList.length = z2.size := by simp
              rw [← this, hz2, List.length_drop]
            have Hz1 := Lib.hid hz1
            have Hz2 := Lib.hid hz2
            have q1 : ((m : Int) + 2).toNat = m + 2 := by omega
            have q2 : (m : Int) + 2 ≤ x.size := by omega
            have q3 : 0 ≤ (m : Int) + 2 := by omega
            have Hz2l := Lib.hid hz2l
            clear htk hdr hmo hz1 hz2 hxs hz2l
            go_wp2
            obtain ⟨o2, ho2⟩ : ∃ o2, o ++ z = o2 := ⟨_, rfl⟩
            have hol : o2.size = o.size + (m + 1) := by rw [← ho2, ByteArray.size_append, hzl]
            have hod : o2.data.toList = o.data.toList ++ r.take (m + 1) := by rw [← ho2, ← Hz1.out]; simp
            rw [ho2]
            go_roundw
            case rel =>
              refine ⟨z2, o2, rfl, rfl, Lib.hid ?_, ?_, _, rfl⟩
              · rw [Hz2.out, hod]; exact Hun.out
              · rw [hol, Hz2l.out]
                have := Hxs.out
                omega
            case measure =>
              show z2.size < x.size
              rw [Hz2l.out, Hxs.out]
              omega
      · have t0 : decide ((m : Int) < 128) = false := decide_eq_false (by omega)
        rw [if_neg h128] at Hun
        by_cases hsh : r.length < 2
        · rw [if_pos hsh] at Hun
          have t1 : decide ((x.size : Int) < 3) = true := decide_eq_true (by omega)
          clear htk hdr hxs hg
          go_wp2
          go_ret2
          exact ⟨ret_unp Hun.out, Drew.draws _ _⟩
        · rw [if_neg hsh] at Hun
          have t1 : decide ((x.size : Int) < 3) = false := decide_eq_false (by omega)
          have p0 := byt_at x 1
          have p1 := byt_at x 2
          rw [show byt x 1 = _ from hg 0 (by omega)] at p0
          rw [show byt x 2 = _ from hg 1 (by omega)] at p1
          clear hg htk
          obtain ⟨A, hA⟩ : ∃ A, (r.getD 0 0).toNat = A := ⟨_, rfl⟩
          obtain ⟨Bb, hBb⟩ : ∃ A, (r.getD 1 0).toNat = A := ⟨_, rfl⟩
          have hA2 : A < 256 := by rw [← hA]; exact (r.getD 0 0).toNat_lt
          have hB2 : Bb < 256 := by rw [← hBb]; exact (r.getD 1 0).toNat_lt
          rw [hA] at p0 Hun
          rw [hBb] at p1 Hun
          clear hA hBb
          have q0 : (1 : Int) < x.size := by omega
          have q1 : (2 : Int) < x.size := by omega
          obtain ⟨far, hfar⟩ : ∃ far, A + 256 * Bb = far := ⟨_, rfl⟩
          rw [hfar] at Hun
          have hfi : (A : Int) + 256 * (Bb : Int) = (far : Int) := by omega
          have w1' : IntKind.i64.wrap (256 * (Bb : Int)) = 256 * (Bb : Int) := IntWalk.i64_in _ (by omega)
          have w2' : IntKind.i64.wrap (A : Int) = A := IntWalk.i64_in _ (by omega)
          have w3' : IntKind.i64.wrap (Bb : Int) = Bb := IntWalk.i64_in _ (by omega)
          have w4' : IntKind.i64.wrap ((A : Int) + 256 * (Bb : Int)) = (far : Int) := by rw [hfi]; exact IntWalk.i64_in _ (by omega)
          have hfb : far < 65536 := by omega
          clear hfar hfi
          have hz2 := hdr 2
          obtain ⟨z2, hz2'⟩ : ∃ z, x.extract 3 x.size = z := ⟨_, rfl⟩
          rw [show 2 + 1 = 3 from rfl, hz2'] at hz2
          have hz2l : z2.size = r.length - 2 := by
            have : z2.data.toList.length = z2.size := by simp
            rw [← this, hz2, List.length_drop]
          have Hz2 := Lib.hid hz2
          have Hz2l := Lib.hid hz2l
          clear hdr hz2 hz2l hxs
          by_cases hf0 : far = 0
          · have t2 : ((far : Int) == 0) = true := by simpa using hf0
            rw [if_pos (.inl hf0)] at Hun
            go_wp2
            go_quiet (fail)
            go_wp2
            go_ret2
            exact ⟨ret_unp Hun.out, Drew.draws _ _⟩
          · have t2 : ((far : Int) == 0) = false := by simpa using hf0
            by_cases hfo : o.size < far
            · rw [if_pos (.inr hfo)] at Hun
              have t3 : decide ((o.size : Int) < (far : Int)) = true := decide_eq_true (by omega)
              go_wp2
              go_quiet (fail)
              go_wp2
              go_ret2
              exact ⟨ret_unp Hun.out, Drew.draws _ _⟩
            · rw [if_neg (by omega)] at Hun
              have t3 : decide ((o.size : Int) < (far : Int)) = false := decide_eq_false (by omega)
              by_cases hmo : most < ((o.size + (m - 124) : Nat) : Int)
              · rw [if_pos hmo] at Hun
                have t4 : decide (most < (o.size : Int) + m - 124) = true := decide_eq_true (by omega)
                clear hmo
                go_wp2
                go_quiet (fail)
                go_wp2
                go_ret2
                exact ⟨ret_unp Hun.out, Drew.draws _ _⟩
              · rw [if_neg hmo] at Hun
                have t4 : decide (most < (o.size : Int) + m - 124) = false := decide_eq_false (by omega)
                clear hmo
                go_wp2
                go_quiet (fail)
                go_wp2
                have hx3 : 3 ≤ (x.size : Int) := by omega
                clear p0 p1 q0 q1 w1' w2' w3' w4' h0 hx1 t0 t1 t3 t4
                go_loopw [6, 9] (fun v a wi => ∃ (i : Nat) (o2 : ByteArray), i ≤ m - 124 ∧ v = .string o2 ∧ a = .int .i64 i ∧ Hid (o2.data.toList = copyN far i o.data.toList) ∧ o2.size = o.size + i ∧ ∃ nd, wi = w.drewN nd) (fun _ a _ => 300 - (intOf a).toNat)
                case atStart => exact ⟨0, o, by omega, rfl, rfl, Lib.hid rfl, rfl, _, rfl⟩
                case round =>
                  obtain ⟨i, o2, hi2, rfl, rfl, Ho2, hos, nn, rfl⟩ := hrel
                  have hob2 : o2.size ≤ 13100300 := by omega
                  have Hos := Lib.hid hos
                  by_cases hin : i < m - 124
                  · have t4 : decide ((i : Int) < (m : Int) - 124) = true := decide_eq_true (by omega)
                    obtain ⟨p, hp⟩ : ∃ p, o2.size - far = p := ⟨_, rfl⟩
                    have hpi : (o2.size : Int) - (far : Int) = (p : Int) := by omega
                    have hlt : p < o2.size := by omega
                    have hlt' : (p : Int) + 1 ≤ (o2.size : Int) := by omega
                    have hx1 : (o2.extract p (p + 1)).data.toList = [(copyN far i o.data.toList).getD ((copyN far i o.data.toList).length - far) 0] := by
                      have hl2 : o2.data.toList.length = o2.size := by simp
                      rw [Lib.extract_data, ← Ho2.out, hl2, hp, show p + 1 - p = 1 by omega, List.take_one, List.head?_drop, List.getElem?_eq_getElem (by omega), List.getD_eq_getElem?_getD, List.getElem?_eq_getElem (by omega)]
                      rfl
                    obtain ⟨z, hz⟩ : ∃ z, o2.extract p (p + 1) = z := ⟨_, rfl⟩
                    rw [hz] at hx1
                    have hzl : z.size = 1 := by
                      have : z.data.toList.length = z.size := by simp
                      rw [← this, hx1]; rfl
                    have Hx1 := Lib.hid hx1
                    clear hx1 hp hos
                    go_wp2
                    obtain ⟨o3, ho3⟩ : ∃ o3, o2 ++ z = o3 := ⟨_, rfl⟩
                    rw [ho3]
                    go_roundw
                    case rel =>
                      refine ⟨i + 1, o3, by omega, rfl, by go_num, Lib.hid ?_, ?_, _, rfl⟩
                      · rw [← ho3, copyN, ← Hx1.out, ← Ho2.out]; simp
                      · rw [← ho3, ByteArray.size_append, hzl, Hos.out]; omega
                    case measure =>
                      simp [intOf]
                      omega
                  · have t4 : decide ((i : Int) < (m : Int) - 124) = false := decide_eq_false (by omega)
                    have him : i = m - 124 := by omega
                    have Him := Lib.hid him
                    clear hos him
                    go_wp2
                    go_roundw
                    case rel =>
                      refine ⟨z2, o2, rfl, rfl, Lib.hid ?_, ?_, _, rfl⟩
                      · rw [Hz2.out, Ho2.out, Him.out]; exact Hun.out
                      · rw [Hos.out, Hz2l.out]
                        have := Hxs.out
                        omega
                    case measure =>
                      show z2.size < x.size
                      rw [Hz2l.out, Hxs.out]
                      omega

end Go.Proofs.Ytnjcganknpnjcaa
