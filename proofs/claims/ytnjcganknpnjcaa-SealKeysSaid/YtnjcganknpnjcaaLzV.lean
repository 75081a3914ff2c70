/- lz: what Unpack answers: the plain function 'unp'. -/
import Derived.Test.YtnjcganknpnjcaaLzU
import Derived.Test.YtnjcganknpnjcaaBase
import Derived.Test.YtnjcganknpnjcaaShelf
import Derived.Lib.AppendStr
import Derived.Laws.BytesArg
import Derived.Deep.RegionLaw
import Derived.Deep.AppendLies
import Derived.Maps.AppendAt
import Derived.Outline
namespace Go.Proofs.Ytnjcganknpnjcaa
open Go.RowKit

theorem step_append_str {P : Program} {ops : Array Oper} {o : Oper} {a : Act} {w : World} {K : Act → World → Prop} {Q : Exit → Act → World → Prop} {E : Prop}
    (hg : o.guard = none) (s x : Operand) (t u : TypeId) (hop : o.op = Op.call { callee := Callee.builtin Builtin.append, args := #[s, x], argTypes := #[t, u] })
    (base : Nat) (e : TypeId) (i : TypeInfo) (ht : P.underlying t = some (.slice e)) (hu : P.underlying u = some .string) (hi : P.info? e = some i) (hz : i.zero = some (.int .u8 0)) (hsize : i.size = 1) (hby : i.bytes = 1)
    (v : Value) (n : Nat) (xs : List Value) (hs : a.eval s = v) (hown : w.ownsRow base e 1 v n xs) (z : ByteArray) (hx : a.eval x = .string z)
    (h63 : n + z.size ≤ maxLen) (hbytes : n + z.size ≤ 140737488355328) (hbase : base ≤ w.heap.size)
    (hK : ∀ v' w', w'.ownsRow base e 1 v' (n + z.size) (xs ++ Lib.strCells z) → w.grownBy w' v.ownBlock → K (a.put o.dst v') w') :
    if Region.wanted o (yielded ops a.tmps) = true then Oper.wp P o a w K Q else E := by
  have hw : Region.wanted o (yielded ops a.tmps) = true := by simp [Region.wanted, hg]
  rw [if_pos hw]
  obtain ⟨v', w', hrun, h2, h3, _⟩ := Lib.run_append_own_string (P := P) w base t u o.type e i ht hu hi hz hsize hby v n xs hown z h63 hbytes hbase
  unfold Oper.wp
  simp [execOp, hop, resolve, invoke, builtin, hs, hx, hrun, Result.andThen]
  exact hK v' w' h2 h3

theorem row_form {w : World} {base : Nat} {e : TypeId} {size n : Nat} {v : Value} {xs : List Value} (h : w.ownsRow base e size v n xs) : ∃ ao cap, v = .slice ao n cap := by
  rcases h.2 with ⟨rfl, rfl⟩ | ⟨g, cap, cur, rfl, _⟩
  · exact ⟨none, 0, rfl⟩
  · exact ⟨_, _, rfl⟩
theorem below_row {B : Nat} {e : TypeId} {size n : Nat} {v : Value} {xs : List Value} {w w' : World} (h : w.ownsRow B e size v n xs) (hg : w.grownBy w' v.ownBlock) (hB : B ≤ w.heap.size) : Below B w w' :=
  ⟨hg.os, hg.tape, hg.output, hg.size, fun k hk => hg.block k (by omega) (fun he => by have := (h.lt k he.symm).1; omega)⟩

theorem ofInt_i64 (a : Nat) (ha : a < 9223372036854775808) : (BitVec.ofInt 64 (a : Int)).toNat = a := by
  rw [BitVec.ofInt_natCast, BitVec.toNat_ofNat]; exact Nat.mod_eq_of_lt (by omega)
theorem i64_or_nat (a b : Nat) (ha : a < 9223372036854775808) (hb : b < 9223372036854775808) : bits .or .i64 (a : Int) (b : Int) = ((a ||| b : Nat) : Int) := by
  have hx : a ||| b < 2 ^ 63 := Nat.or_lt_two_pow (by omega) (by omega)
  show IntKind.i64.wrap ((BitVec.ofInt 64 (a : Int) ||| BitVec.ofInt 64 (b : Int)).toNat : Int) = _
  rw [BitVec.toNat_or, ofInt_i64 a ha, ofInt_i64 b hb, IntKind.wrap_i64]
  omega
theorem bits_far (A B : Nat) (hA : A < 256) (hB : B < 256) : bits .or .i64 (A : Int) ((B : Int) * 256) = ((A + 256 * B : Nat) : Int) := by
  have h := i64_or_nat A (B * 256) (by omega) (by omega)
  have e : A ||| B * 256 = A + 256 * B := by
    have h1 := Nat.shiftLeft_add_eq_or_of_lt (show A < 2 ^ 8 by omega) B
    rw [Nat.shiftLeft_eq, show 2 ^ 8 = 256 from rfl] at h1
    rw [Nat.or_comm]
    omega
  rw [e] at h
  rw [← h]
  congr 1

theorem info5 : (Try.prog.info? 5).map (fun i => (i.zero, i.size, i.bytes)) = some (some (.int .u8 0), 1, 1) := by kernel_rfl

/-- 'string(out)' of bytes that the call itself gathered. -/
theorem conv_row {w : World} {base : Nat} {v : Value} {l : List UInt8} (h : w.ownsRow base 5 1 v l.length (Lib.byteCells l)) : (convert 46 9 v).run Try.prog w = .ok (.string ⟨l.toArray⟩) w := by
  rcases h.2 with ⟨rfl, h0⟩ | ⟨g, cap, cur, rfl, _, hg, hn, _, hcs, htake⟩
  · have : l = [] := List.eq_nil_of_length_eq_zero h0
    subst this
    exact run_convert_bytes_nil w 46 5 Try.underlying46 Try.underlying5 0 0 9 Try.underlying9
  · have hc : ∀ i, i < l.length → w.cell? ⟨g, 0 + i, none⟩ = some (.int .u8 ((l.map fun b : UInt8 => (b.toNat : Int)).getD i 0)) := by
      intro i hi
      rw [Nat.zero_add]
      have h1 := h.cells (g := g) rfl i (.int .u8 ((l.map fun b : UInt8 => (b.toNat : Int)).getD i 0)) (by simp [Lib.byteCells, hi])
      rwa [show (⟨g, 0, none⟩ : Addr).add i = ⟨g, i, none⟩ by unfold Addr.add; split <;> simp_all] at h1
    rw [run_convert_bytes_arg w 46 5 Try.underlying46 Try.underlying5 g 0 l.length cap (l.map fun b : UInt8 => (b.toNat : Int)) (by simp) hc 9 Try.underlying9]
    have : strOfNums (l.map fun b : UInt8 => (b.toNat : Int)) = ⟨l.toArray⟩ := by
      unfold strOfNums
      congr 1
      simp [Function.comp_def]
    rw [this]

def UnpInv (b : List UInt8) (most : Int) (w : World) (x : ByteArray) (v : Value) (wr : World) : Prop :=
  ∃ out : List UInt8, wr.ownsRow w.heap.size 5 1 v out.length (Lib.byteCells out) ∧ unpFrom x.data.toList out most = unp b most ∧ Below w.heap.size w wr ∧ out.length + 131 * x.size ≤ 131 * b.length
def szOfS (v : Value) : Nat := match v with | .string x => x.size | _ => 0

def UnpPost (b : List UInt8) (most : Int) (w : World) (e : Ending) (w' : World) : Prop :=
  e = .returned (.tuple #[.string ⟨(unp b most).1.toArray⟩, .int .i64 (unp b most).2]) ∧ Below w.heap.size w w'

theorem ret_unp {b : List UInt8} {most : Int} {o : List UInt8} {c : Int} (h : (o, c) = unp b most) : Ending.returned (.tuple #[.string ⟨o.toArray⟩, .int .i64 c]) = .returned (.tuple #[.string ⟨(unp b most).1.toArray⟩, .int .i64 (unp b most).2]) := by
  rw [← h]

set_option maxRecDepth 100000 in
set_option maxHeartbeats 400000 in
theorem unpack_any (b : ByteArray) (most : Int) (w : World) (hb : b.size ≤ 100000) (hm1 : -9223372036854775808 ≤ most) (hm2 : most ≤ 9223372036854775807) :
    Calls Try.prog 28 #[.string b, .int .i64 most] w (UnpPost b.data.toList most w) := by
  obtain ⟨i0, hi, hz0, hz1, hz2⟩ := info_parts info5
  go_enter Try.func28, Try.ntmps28
  go_wp2
  go_loopw [0, 6] (fun a v wr => ∃ x : ByteArray, a = .string x ∧ UnpInv b.data.toList most w x v wr) (fun a _ _ => szOfS a)
  case atStart => exact ⟨b, rfl, [], World.ownsRow_nil _ _ _ _, rfl, Below.refl _ _, by simp⟩
  case round =>
    obtain ⟨x, rfl, out, hown, hun, hbel, hlen⟩ := hrel
    obtain ⟨ao, cap0, rfl⟩ := row_form hown
    have Hun := Lib.hid hun
    clear hun
    have hblen : b.data.toList.length = b.size := by simp
    have hsz : x.data.toList.length = x.size := by simp
    have htl : x.toList = x.data.toList := ByteArray.toList_eq ..
    cases hx : x.data.toList with
    | nil =>
      have hx1 : (!x.toList.isEmpty) = false := by rw [htl, hx]; rfl
      rw [hx, unpFrom_nil] at Hun
      clear hx htl hsz
      by_cases hm : most < 0
      · have t0 : decide (most < 0) = true := decide_eq_true hm
        rw [if_pos hm] at Hun
        clear hblen hlen
        go_wp2
        go_ret2
        exact ⟨ret_unp Hun.out, hbel⟩
      · have t0 : decide (most < 0) = false := decide_eq_false hm
        rw [if_neg hm] at Hun
        have hcv := conv_row hown
        go_wp2
        go_ret2
        exact ⟨ret_unp Hun.out, hbel⟩
    | cons c r =>
      have hx1 : (!x.toList.isEmpty) = true := by rw [htl, hx]; rfl
      have hxs : x.size = r.length + 1 := by rw [← hsz, hx]; rfl
      obtain ⟨y, hy⟩ : ∃ y, x.extract 1 x.size = y := ⟨_, rfl⟩
      have hyd : y.data.toList = r := by rw [← hy, Lib.extract_data, hx]; exact List.take_of_length_le (by simp; omega)
      have hyl : y.size = r.length := by rw [← hyd]; simp
      have h0 : ∀ h : 0 < x.size, ((x[0]'h).toNat : Int) = (c.toNat : Int) := by
        intro h
        have e : x[0]'h = (x.data.toList)[0]'(by omega) := rfl
        rw [e]
        simp [hx]
      obtain ⟨m, hm⟩ : ∃ m, c.toNat = m := ⟨_, rfl⟩
      have hm256 : m < 256 := by rw [← hm]; exact c.toNat_lt
      rw [hm] at h0
      rw [hx, unpFrom_cons, hm] at Hun
      rw [hxs] at hlen
      have hxp : 0 < x.size := by omega
      have hob : out.length ≤ 13100000 := by omega
      have Hyd := Lib.hid hyd
      have Hyl := Lib.hid hyl
      have Hxs := Lib.hid hxs
      clear hx hsz htl hyd hyl hxs hm hblen
      by_cases h128 : m < 128
      · have t0 : decide ((m : Int) < 128) = true := decide_eq_true (by omega)
        rw [if_pos h128] at Hun
        by_cases hsh : r.length < m + 1
        · rw [if_pos hsh] at Hun
          have t1 : decide ((y.size : Int) < (m : Int) + 1) = true := decide_eq_true (by rw [Hyl.out]; omega)
          go_wp2
          go_ret2
          exact ⟨ret_unp Hun.out, hbel⟩
        · rw [if_neg hsh] at Hun
          have t1 : decide ((y.size : Int) < (m : Int) + 1) = false := decide_eq_false (by rw [Hyl.out]; omega)
          obtain ⟨z, hz⟩ : ∃ z, y.extract 0 (m + 1) = z := ⟨_, rfl⟩
          obtain ⟨z2, hz2'⟩ : ∃ z, y.extract (m + 1) y.size = z := ⟨_, rfl⟩
          have hzd : z.data.toList = r.take (m + 1) := by rw [← hz, Lib.extract_data, Hyd.out]; simp
          have hzl : z.size = m + 1 := by
            have : z.data.toList.length = z.size := by simp
            rw [← this, hzd, List.length_take]
            omega
          have hz2d : z2.data.toList = r.drop (m + 1) := by rw [← hz2', Lib.extract_data, Hyd.out]; exact List.take_of_length_le (by rw [List.length_drop, Hyl.out]; exact Nat.le_refl _)
          have hz2l : z2.size = r.length - (m + 1) := by
            have : z2.data.toList.length = z2.size := by simp
            rw [← this, hz2d, List.length_drop]
          have Hzd := Lib.hid hzd
          have Hzl := Lib.hid hzl
          have Hz2d := Lib.hid hz2d
          have Hz2l := Lib.hid hz2l
          have q1 : ((m : Int) + 1).toNat = m + 1 := by omega
          have q2 : (m : Int) + 1 ≤ y.size := by rw [Hyl.out]; omega
          have q3 : 0 ≤ (m : Int) + 1 := by omega
          clear hzd hzl hz2d hz2l
          have hbs : w.heap.size ≤ wr.drew.heap.size := hbel.size
          have hown' : wr.drew.ownsRow w.heap.size 5 1 (.slice ao out.length cap0) out.length (Lib.byteCells out) := hown
          go_wp2
          go_region_law ((refine step_append_str rfl (.tmp 25) (.tmp 28) 46 9 rfl w.heap.size 5 i0 Try.underlying46 Try.underlying9 hi hz0 hz1 hz2 (.slice ao out.length cap0) out.length (Lib.byteCells out) (by simp [Act.eval, Act.put]) hown' z (by simp [Act.eval, Act.put]) (by rw [Hzl.out]; unfold maxLen; omega) (by rw [Hzl.out]; omega) hbs ?_; intro v1 w1 hown1 hgrow1; obtain ⟨g, cap, rfl, _⟩ := hown1.form (by rw [Hzl.out]; omega)))
          have hbel0 := below_row (w := wr.drew) hown' hgrow1 hbs
          have hbel1 : Below w.heap.size w w1 := hbel.trans ⟨hbel0.os, hbel0.tape, hbel0.output, hbel0.size, hbel0.block⟩
          clear hown' hgrow1 hbs hbel hown hy hz hz2' hbel0
          go_wp2
          · have hlt : most < (out.length : Int) + (z.size : Int) := by assumption
            go_ret2
            have h1 := Hun.out
            rw [if_pos (by rw [Hzl.out] at hlt; omega)] at h1
            exact ⟨ret_unp h1, hbel1⟩
          · have hge : (out.length : Int) + (z.size : Int) ≤ most := by assumption
            have h1 := Hun.out
            rw [if_neg (by rw [Hzl.out] at hge; omega)] at h1
            go_roundw
            case rel =>
              refine ⟨z2, rfl, out ++ r.take (m + 1), ?_, by rw [Hz2d.out]; exact h1, hbel1, ?_⟩
              · rw [List.length_append, ← Hzd.out, Lib.byteCells_append]
                have : z.data.toList.length = z.size := by simp
                rw [this]
                exact hown1
              · rw [Hz2l.out, List.length_append, List.length_take]
                omega
            case measure =>
              show z2.size < x.size
              rw [Hz2l.out, Hxs.out]
              omega
      · have t0 : decide ((m : Int) < 128) = false := decide_eq_false (by omega)
        rw [if_neg h128] at Hun
        by_cases hsh : r.length < 2
        · rw [if_pos hsh] at Hun
          have t1 : decide ((y.size : Int) < 2) = true := decide_eq_true (by rw [Hyl.out]; omega)
          go_wp2
          go_ret2
          exact ⟨ret_unp Hun.out, hbel⟩
        · rw [if_neg hsh] at Hun
          have t1 : decide ((y.size : Int) < 2) = false := decide_eq_false (by rw [Hyl.out]; omega)
          have hg : ∀ i, i < r.length → byt y i = ((r.getD i 0).toNat : Int) := by
            intro i hi
            have hy' : i < y.size := by rw [Hyl.out]; exact hi
            rw [← byt_at y i hy']
            have e : y[i]'hy' = (y.data.toList)[i]'(by simpa using hy') := rfl
            rw [e]
            simp [Hyd.out, hi]
          have p0 := byt_at y 0
          have p1 := byt_at y 1
          rw [hg 0 (by omega)] at p0
          rw [hg 1 (by omega)] at p1
          clear hg
          obtain ⟨A, hA⟩ : ∃ A, (r.getD 0 0).toNat = A := ⟨_, rfl⟩
          obtain ⟨Bb, hBb⟩ : ∃ A, (r.getD 1 0).toNat = A := ⟨_, rfl⟩
          have hA2 : A < 256 := by rw [← hA]; exact (r.getD 0 0).toNat_lt
          have hB2 : Bb < 256 := by rw [← hBb]; exact (r.getD 1 0).toNat_lt
          rw [hA] at p0 Hun
          rw [hBb] at p1 Hun
          clear hA hBb
          have hbt := bits_far A Bb hA2 hB2
          have q0 : (0 : Int) < y.size := by rw [Hyl.out]; omega
          have q1 : (1 : Int) < y.size := by rw [Hyl.out]; omega
          have w1' : IntKind.i64.wrap (Bb : Int) = Bb := IntWalk.i64_in _ (by omega)
          have w2' : IntKind.i64.wrap (A : Int) = A := IntWalk.i64_in _ (by omega)
          have w3' : IntKind.i64.wrap ((Bb : Int) * 256) = (Bb : Int) * 256 := IntWalk.i64_in _ (by omega)
          obtain ⟨far, hfar⟩ : ∃ far, A + 256 * Bb = far := ⟨_, rfl⟩
          rw [hfar] at hbt Hun
          clear hfar
          obtain ⟨z, hz⟩ : ∃ z, y.extract 2 y.size = z := ⟨_, rfl⟩
          have hzd : z.data.toList = r.drop 2 := by rw [← hz, Lib.extract_data, Hyd.out]; exact List.take_of_length_le (by rw [List.length_drop, Hyl.out]; exact Nat.le_refl _)
          have hzl : z.size = r.length - 2 := by
            have : z.data.toList.length = z.size := by simp
            rw [← this, hzd, List.length_drop]
          have Hzd := Lib.hid hzd
          have Hzl := Lib.hid hzl
          clear hzd hzl
          by_cases hf0 : far = 0
          · have t2 : ((far : Int) == 0) = true := by simpa using hf0
            rw [if_pos (.inl hf0)] at Hun
            go_wp2
            go_quiet (fail)
            go_wp2_with fail
            go_ret2
            exact ⟨ret_unp Hun.out, below_drewN hbel _⟩
          · have t2 : ((far : Int) == 0) = false := by simpa using hf0
            by_cases hfo : out.length < far
            · rw [if_pos (.inr hfo)] at Hun
              have t3 : decide ((out.length : Int) < (far : Int)) = true := decide_eq_true (by omega)
              go_wp2
              go_quiet (fail)
              go_wp2_with fail
              go_ret2
              exact ⟨ret_unp Hun.out, below_drewN hbel _⟩
            · rw [if_neg (by omega)] at Hun
              have t3 : decide ((out.length : Int) < (far : Int)) = false := decide_eq_false (by omega)
              obtain ⟨g, cap, hform, _⟩ := hown.form (by omega)
              have hao : ao = some ⟨g, 0, none⟩ := by injection hform
              subst hao
              clear hform
              go_wp2
              go_quiet (fail)
              go_wp2_with fail
              clear hbt p0 p1 q0 q1 w1' w2' w3' h0 hx1 hy hz
              go_loopw [6, 57] (fun v a wi => ∃ i : Nat, i ≤ m - 124 ∧ a = .int .i64 i ∧ ∃ g cap, v = .slice (some ⟨g, 0, none⟩) (out.length + i) cap ∧ wi.ownsRow w.heap.size 5 1 (.slice (some ⟨g, 0, none⟩) (out.length + i) cap) (out.length + i) (Lib.byteCells (copyN far i out)) ∧ Below w.heap.size w wi) (fun _ a _ => 300 - (intOf a).toNat)
              case atStart => exact ⟨0, by omega, rfl, g, _, rfl, hown, below_drewN hbel _⟩
              case round =>
                clear hown hbel
                obtain ⟨i, hi2, rfl, g2, cap2, rfl, hown2, hbel2⟩ := hrel
                by_cases hin : i < m - 124
                · have t4 : decide ((i : Int) < (m : Int) - 128 + 4) = true := decide_eq_true (by omega)
                  obtain ⟨bt, hbt⟩ : ∃ bt : UInt8, (copyN far i out).getD (out.length + i - far) 0 = bt := ⟨_, rfl⟩
                  have hlen2 := copyN_length far i out
                  have hcell : wr.cell? ⟨g2, out.length + i - far, none⟩ = some (.int .u8 (bt.toNat : Int)) := by
                    rw [hown2.cellAt (out.length + i - far) (by omega), ← hbt]
                    simp [Lib.byteCells, show out.length + i - far < (copyN far i out).length by omega]
                  have q4 : ((out.length : Int) + i - far).toNat = out.length + i - far := by omega
                  have q5 : 0 ≤ (out.length : Int) + i - far := by omega
                  have hstep : Hid (copyN far (i + 1) out = copyN far i out ++ [bt]) := Lib.hid (by rw [copyN, hlen2, hbt])
                  clear hbt hlen2
                  have hbs := hbel2.size
                  go_wp2_with (first
                    | (at_builtin; refine wpList_append_own _ rfl _ _ 46 rfl w.heap.size 5 i0 (.int .u8 0) 1 1 Try.underlying46 hi hz0 hz1 hz2 rfl (by decide) _ _ _ rfl (hown2.alloc _) ⟨wr.heap.size, 0, none⟩ 1 1 [.int .u8 (bt.toNat : Int)] rfl rfl (cell_one_new _ _ _) ?c2 ?c3 ?c4 ?c5 ?_))
                  case c2 => intro u hu; simp at hu; subst hu; rfl
                  case c3 => unfold maxLen; omega
                  case c4 => omega
                  case c5 => simp; omega
                  intro v3 w3 hown3 hgrow3 _
                  obtain ⟨g3, cap3, rfl, _⟩ := hown3.form (by omega)
                  have hbel3 : Below w.heap.size w w3 := by
                    refine Below.trans (b := wr.alloc (.cells #[.int .u8 (bt.toNat : Int)] 5)) (hbel2.alloc hbs _) ?_
                    exact below_row (hown2.alloc _) hgrow3 (by simp; omega)
                  clear hown2 hgrow3 hcell q4 q5 t4
                  go_wp2
                  go_roundw
                  case rel =>
                    refine ⟨i + 1, by omega, by go_num, g3, cap3, rfl, ?_, hbel3⟩
                    rw [hstep.out, Lib.byteCells_append]
                    exact hown3
                  case measure =>
                    simp [intOf]
                    omega
                · have t4 : decide ((i : Int) < (m : Int) - 128 + 4) = false := decide_eq_false (by omega)
                  obtain rfl : i = m - 124 := by omega
                  have hlen2 := copyN_length far (m - 124) out
                  have Hlen2 := Lib.hid hlen2
                  have hmn : (((m - 124 : Nat) : Int)) = (m : Int) - 124 := by omega
                  clear hlen2
                  go_wp2_with fail
                  · have h1 := Hun.out
                    have hlt : most < (out.length : Int) + ((m : Int) - 124) := by assumption
                    rw [if_pos (by omega)] at h1
                    go_ret2
                    exact ⟨ret_unp h1, hbel2⟩
                  · have h1 := Hun.out
                    have hge : (out.length : Int) + ((m : Int) - 124) ≤ most := by assumption
                    rw [if_neg (by omega)] at h1
                    go_roundw
                    case rel =>
                      refine ⟨z, rfl, copyN far (m - 124) out, ?_, by rw [Hzd.out]; exact h1, hbel2, ?_⟩
                      · rw [Hlen2.out]
                        exact hown2
                      · rw [Hlen2.out, Hzl.out]
                        omega
                    case measure =>
                      show z.size < x.size
                      rw [Hzl.out, Hxs.out]
                      omega

end Go.Proofs.Ytnjcganknpnjcaa
