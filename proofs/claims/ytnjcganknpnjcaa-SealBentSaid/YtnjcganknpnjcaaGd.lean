/- lz: what Unpack answers: the plain function 'unp'. -/
import Derived.Test.YtnjcganknpnjcaaGc
import Derived.Test.YtnjcganknpnjcaaGa
import Derived.Test.YtnjcganknpnjcaaGb
import Derived.Lib.AppendStr
import Derived.Laws.BytesArg
import Derived.Deep.RegionLaw
import Derived.Deep.AppendLies
import Derived.Maps.AppendAt
import Derived.Outline
import Derived.Deep.RegionWith
set_option linter.unusedVariables false
set_option linter.unusedSimpArgs false
namespace Go.Proofs.Ytnjcganknpnjcaa
open Go.RowKit

theorem step_append_str {P : Program} {ops : Array Oper} {o : Oper} {a : Act} {w : World} {K : Act → World → Prop} {Q : Exit → Act → World → Prop} {E : Prop}
    (hg : o.guard = none) (s x : Operand) (t u : TypeId) (hop : o.op = Op.call { callee := Callee.builtin Builtin.append, args := #[s, x], argTypes := #[t, u] })
    (base : Nat) (e : TypeId) (i : TypeInfo) (ht : P.underlying t = some (.slice e)) (hu : P.underlying u = some .string) (hi : P.info? e = some i) (hz : i.zero = some (.int .u8 0)) (hsize : i.size = 1) (hby : i.bytes = 1)
    (v : Value) (n : Nat) (xs : List Value) (hs : a.eval s = v) (hown : w.ownsRow base e 1 v n xs) (z : ByteArray) (hx : a.eval x = .string z)
    (h63 : n + z.size ≤ maxLen) (hbytes : n + z.size ≤ 140737488355328) (hbase : base ≤ w.heap.size)
    (hK : ∀ v' w', w'.ownsRow base e 1 v' (n + z.size) (xs ++ Lib.strCells z) → w.grownBy w' v.ownBlock → K (a.put o.dst v') w') :
    if Region.wanted o (yielded ops a.tmps) = true then Oper.wp P o a w K Q else E := by
  have hw : Region.wanted o (yielded ops a.tmps) = true := by simp [Region.wanted, hg]
  rw [if_pos hw]
  obtain ⟨v', w', hrun, h2, h3, _⟩ := Lib.run_append_own_string (P := P) w base t u o.type e i ht hu hi hz hsize hby v n xs hown z h63 hbytes hbase
  unfold Oper.wp
  simp [execOp, hop, resolve, invoke, builtin, hs, hx, hrun, Result.andThen]
  exact hK v' w' h2 h3

theorem row_form {w : World} {base : Nat} {e : TypeId} {size n : Nat} {v : Value} {xs : List Value} (h : w.ownsRow base e size v n xs) : ∃ ao cap, v = .slice ao n cap := by
  rcases h.2 with ⟨rfl, rfl⟩ | ⟨g, cap, cur, rfl, _⟩
  · exact ⟨none, 0, rfl⟩
  · exact ⟨_, _, rfl⟩
theorem below_row {B : Nat} {e : TypeId} {size n : Nat} {v : Value} {xs : List Value} {w w' : World} (h : w.ownsRow B e size v n xs) (hg : w.grownBy w' v.ownBlock) (hB : B ≤ w.heap.size) : Below B w w' :=
  ⟨hg.os, hg.tape, hg.output, hg.size, fun k hk => hg.block k (by omega) (fun he => by have := (h.lt k he.symm).1; omega)⟩

theorem ofInt_i64 (a : Nat) (ha : a < 9223372036854775808) : (BitVec.ofInt 64 (a : Int)).toNat = a := by
  rw [BitVec.ofInt_natCast, BitVec.toNat_ofNat]; exact Nat.mod_eq_of_lt (by omega)
theorem i64_or_nat (a b : Nat) (ha : a < 9223372036854775808) (hb : b < 9223372036854775808) : bits .or .i64 (a : Int) (b : Int) = ((a ||| b : Nat) : Int) := by
  have hx : a ||| b < 2 ^ 63 := Nat.or_lt_two_pow (by omega) (by omega)
  show IntKind.i64.wrap ((BitVec.ofInt 64 (a : Int) ||| BitVec.ofInt 64 (b : Int)).toNat : Int) = _
  rw [BitVec.toNat_or, ofInt_i64 a ha, ofInt_i64 b hb, IntKind.wrap_i64]
  omega
theorem bits_far (A B : Nat) (hA : A < 256) (hB : B < 256) : bits .or .i64 (A : Int) ((B : Int) * 256) = ((A + 256 * B : Nat) : Int) := by
  have h := i64_or_nat A (B * 256) (by omega) (by omega)
  have e : A ||| B * 256 = A + 256 * B := by
    have h1 := Nat.shiftLeft_add_eq_or_of_lt (show A < 2 ^ 8 by omega) B
    rw [Nat.shiftLeft_eq, show 2 ^ 8 = 256 from rfl] at h1
    rw [Nat.or_comm]
    omega
  rw [e] at h
  rw [← h]
  congr 1

theorem info5 : (Try.prog.info? 5).map (fun i => (i.zero, i.size, i.bytes)) = some (some (.int .u8 0), 1, 1) := by kernel_rfl

/-- 'string(out)' of bytes that the call itself gathered. -/
theorem conv_row {w : World} {base : Nat} {v : Value} {l : List UInt8} (h : w.ownsRow base 5 1 v l.length (Lib.byteCells l)) : (convert 46 9 v).run Try.prog w = .ok (.string ⟨l.toArray⟩) w := by
  rcases h.2 with ⟨rfl, h0⟩ | ⟨g, cap, cur, rfl, _, hg, hn, _, hcs, htake⟩
  · have : l = [] := List.eq_nil_of_length_eq_zero h0
    subst this
    exact run_convert_bytes_nil w 46 5 Try.underlying46 Try.underlying5 0 0 9 Try.underlying9
  · have hc : ∀ i, i < l.length → w.cell? ⟨g, 0 + i, none⟩ = some (.int .u8 ((l.map fun b : UInt8 => (b.toNat : Int)).getD i 0)) := by
      intro i hi
      rw [Nat.zero_add]
      have h1 := h.cells (g := g) rfl i (.int .u8 ((l.map fun b : UInt8 => (b.toNat : Int)).getD i 0)) (by simp [Lib.byteCells, hi])
      rwa [show (⟨g, 0, none⟩ : Addr).add i = ⟨g, i, none⟩ by unfold Addr.add; split <;> simp_all] at h1
    rw [run_convert_bytes_arg w 46 5 Try.underlying46 Try.underlying5 g 0 l.length cap (l.map fun b : UInt8 => (b.toNat : Int)) (by simp) hc 9 Try.underlying9]
    have : strOfNums (l.map fun b : UInt8 => (b.toNat : Int)) = ⟨l.toArray⟩ := by
      unfold strOfNums
      congr 1
      simp [Function.comp_def]
    rw [this]

def UnpInv (b : List UInt8) (most : Int) (w : World) (x : ByteArray) (v : Value) (wr : World) : Prop :=
  ∃ out : List UInt8, wr.ownsRow w.heap.size 5 1 v out.length (Lib.byteCells out) ∧ unpFrom x.data.toList out most = unp b most ∧ Below w.heap.size w wr ∧ out.length + 131 * x.size ≤ 131 * b.length
def szOfS (v : Value) : Nat := match v with | .string x => x.size | _ => 0

def UnpPost (b : List UInt8) (most : Int) (w : World) (e : Ending) (w' : World) : Prop :=
  e = .returned (.tuple #[.string ⟨(unp b most).1.toArray⟩, .int .i64 (unp b most).2]) ∧ Below w.heap.size w w'

theorem ret_unp {b : List UInt8} {most : Int} {o : List UInt8} {c : Int} (h : (o, c) = unp b most) : Ending.returned (.tuple #[.string ⟨o.toArray⟩, .int .i64 c]) = .returned (.tuple #[.string ⟨(unp b most).1.toArray⟩, .int .i64 (unp b most).2]) := by
  rw [← h]

set_option maxRecDepth 100000 in
set_option maxHeartbeats 400000 in
theorem unpack_any (b : ByteArray) (most : Int) (w : World) (hb : b.size ≤ 100000) (hm1 : -9223372036854775808 ≤ most) (hm2 : most ≤ 9223372036854775807) :
    Calls Try.prog 28 #[.string b, .int .i64 most] w (UnpPost b.data.toList most w) := by
  obtain ⟨i0, hi, hz0, hz1, hz2⟩ := info_parts info5
  go_enter Try.func28, Try.ntmps28
  go_wp2
  go_loopw [0, 6] (fun a v wr => ∃ x : ByteArray, a = .string x ∧ UnpInv b.data.toList most w x v wr) (fun a _ _ => szOfS a)
  case atStart => exact ⟨b, rfl, [], World.ownsRow_nil _ _ _ _, rfl, Below.refl _ _, by simp⟩
  case round =>
    obtain ⟨x, rfl, out, hown, hun, hbel, hlen⟩ := hrel
    obtain ⟨ao, cap0, rfl⟩ := row_form hown
    have Hun := Lib.hid hun
    clear hun
    have hblen : b.data.toList.length = b.size := by simp
    have hsz : x.data.toList.length = x.size := by simp
    have htl : x.toList = x.data.toList := ByteArray.toList_eq ..
    cases hx : x.data.toList with
    | nil =>
      have hx1 : (!x.toList.isEmpty) = false := by rw [htl, hx]; rfl
      rw [hx, unpFrom_nil] at Hun
      clear hx htl hsz
      by_cases hm : most < 0
      · have t0 : decide (most < 0) = true := decide_eq_true hm
        rw [if_pos hm] at Hun
        clear hblen hlen
        go_wp2
        go_ret2
        exact ⟨ret_unp Hun.out, hbel⟩
      · have t0 : decide (most < 0) = false := decide_eq_false hm
        rw [if_neg hm] at Hun
        have hcv := conv_row hown
        go_wp2
        go_ret2
        exact ⟨ret_unp Hun.out, hbel⟩
    | cons c r =>
      have hx1 : (!x.toList.isEmpty) = true := by rw [htl, hx]; rfl
      have hxs : x.size = r.length + 1 := by rw [← hsz, hx]; rfl
      obtain ⟨y, hy⟩ : ∃ y, x.extract 1 x.size = y := ⟨_, rfl⟩
      have hyd : y.data.toList = r := by rw [← hy, Lib.extract_data, hx]; exact List.take_of_length_le (by simp; omega)
      have hyl : y.size = r.length := by rw [← hyd]; simp
      have h0 : ∀ h : 0 < x.size, ((x[0]'h).toNat : Int) = (c.toNat : Int) := by
        intro h
        have e : x[0]'h = (x.data.toList)[0]'(by omega) := rfl
        rw [e]
        simp [hx]
      obtain ⟨m, hm⟩ : ∃ m, c.toNat = m := ⟨_, rfl⟩
      have hm256 : m < 256 := by rw [← hm]; exact c.toNat_lt
      rw [hm] at h0
      rw [hx, unpFrom_cons, hm] at Hun
      rw [hxs] at hlen
      have hxp : 0 < x.size := by omega
      have hob : out.length ≤ 13100000 := by omega
      have Hyd := Lib.hid hyd
      have Hyl := Lib.hid hyl
      have Hxs := Lib.hid hxs
      clear hx hsz htl hyd hyl hxs hm hblen
      by_cases h128 : m < 128
      · have t0 : decide ((m : Int) < 128) = true := decide_eq_true (by omega)
        rw [if_pos h128] at Hun
        by_cases hsh : r.length < m + 1
        · rw [if_pos hsh] at Hun
          have t1 : decide ((y.size : Int) < (m : Int) + 1) = true := decide_eq_true (by rw [Hyl.out]; omega)
          go_wp2
          go_ret2
          exact ⟨ret_unp Hun.out, hbel⟩
        · rw [if_neg hsh] at Hun
          have t1 : decide ((y.size : Int) < (m : Int) + 1) = false := decide_eq_false (by rw [Hyl.out]; omega)
          obtain ⟨z, hz⟩ : ∃ z, y.extract 0 (m + 1) = z := ⟨_, rfl⟩
          obtain ⟨z2, hz2'⟩ : ∃ z, y.extract (m + 1) y.size = z := ⟨_, rfl⟩
          have hzd : z.data.toList = r.take (m + 1) := by rw [← hz, Lib.extract_data, Hyd.out]; simp
          have hzl : z.size = m + 1 := by
            have : z.data.toList.length = z.size := by simp
            rw [← this, hzd, List.length_take]
            omega
          have hz2d : z2.data.toList = r.drop (m + 1) := by rw [← hz2', Lib.extract_data, Hyd.out]; exact List.take_of_length_le (by rw [List.length_drop, Hyl.out]; exact Nat.le_refl _)
          have hz2l : z2.size = r.length - (m + 1) := by
            have : z2.data.toList.length = z2.size := by simp
            rw [← this, hz2d, List.length_drop]
          have Hzd := Lib.hid hzd
          have Hzl := Lib.hid hzl
          have Hz2d := Lib.hid hz2d
          have Hz2l := Lib.hid hz2l
          have q1 : ((m : Int) + 1).toNat = m + 1 := by omega
          have q2 : (m : Int) + 1 ≤ y.size := by rw [Hyl.out]; omega
          have q3 : 0 ≤ (m : Int) + 1 := by omega
          clear hzd hzl hz2d hz2l
          have hbs : w.heap.size ≤ wr.drew.heap.size := hbel.size
          have hown' : wr.drew.ownsRow w.heap.size 5 1 (.slice ao out.length cap0) out.length (Lib.byteCells out) := hown
          go_wp2
          go_region_law ((refine step_append_str rfl (.tmp 25) (.tmp 28) 46 9 rfl w.heap.size 5 i0 Try.underlying46 Try.underlying9 hi hz0 hz1 hz2 (.slice ao out.length cap0) out.length (Lib.byteCells out) (by simp [Act.eval, Act.put]) hown' z (by simp [Act.eval, Act.put]) (by rw [Hzl.out]; unfold maxLen; omega) (by rw [Hzl.out]; omega) hbs ?_; intro v1 w1 hown1 hgrow1; obtain ⟨g, cap, rfl, _⟩ := hown1.form (by rw [Hzl.out]; omega)))
          have hbel0 := below_row (w := wr.drew) hown' hgrow1 hbs
          have hbel1 : Below w.heap.size w w1 := hbel.trans ⟨hbel0.os, hbel0.tape, hbel0.output, hbel0.size, hbel0.block⟩
          clear hown' hgrow1 hbs hbel hown hy hz hz2' hbel0
          go_wp2
          · have hlt : most < (out.length : Int) + (z.size : Int) := by assumption
            go_ret2
            have h1 := Hun.out
            rw [if_pos (by rw [Hzl.out] at hlt; omega)] at h1
            exact ⟨ret_unp h1, hbel1⟩
          · have hge : (out.length : Int) + (z.size : Int) ≤ most := by assumption
            have h1 := Hun.out
            rw [if_neg (by rw [Hzl.out] at hge; omega)] at h1
            go_roundw
            case rel =>
              refine ⟨z2, rfl, out ++ r.take (m + 1), ?_, by rw [Hz2d.out]; exact h1, hbel1, ?_⟩
              · rw [List.length_append, ← Hzd.out, Lib.byteCells_append]
                have : z.data.toList.length = z.size := by simp
                rw [this]
                exact hown1
              · rw [Hz2l.out, List.length_append, List.length_take]
                omega
            case measure =>
              show z2.size < x.size
              rw [Hz2l.out, Hxs.out]
              omega
      · have t0 : decide ((m : Int) < 128) = false := decide_eq_false (by omega)
        rw [if_neg h128] at Hun
        by_cases hsh : r.length < 2
        · rw [if_pos hsh] at Hun
          have t1 : decide ((y.size : Int) < 2) = true := decide_eq_true (by rw [Hyl.out]; omega)
          go_wp2
          go_ret2
          exact ⟨ret_unp Hun.out, hbel⟩
        · rw [if_neg hsh] at Hun
          have t1 : decide ((y.size : Int) < 2) = false := decide_eq_false (by rw [Hyl.out]; omega)
          have hg : ∀ i, i < r.length → byt y i = ((r.getD i 0).toNat : Int) := by
            intro i hi
            have hy' : i < y.size := by rw [Hyl.out]; exact hi
            rw [← byt_at y i hy']
            have e : y[i]'hy' = (y.data.toList)[i]'(by simpa using hy') := rfl
            rw [e]
            simp [Hyd.out, hi]
          have p0 := byt_at y 0
          have p1 := byt_at y 1
          rw [hg 0 (by omega)] at p0
          rw [hg 1 (by omega)] at p1
          clear hg
          obtain ⟨A, hA⟩ : ∃ A, (r.getD 0 0).toNat = A := ⟨_, rfl⟩
          obtain ⟨Bb, hBb⟩ : ∃ A, (r.getD 1 0).toNat = A := ⟨_, rfl⟩
          have hA2 : A < 256 := by rw [← hA]; exact (r.getD 0 0).toNat_lt
          have hB2 : Bb < 256 := by rw [← hBb]; exact (r.getD 1 0).toNat_lt
          rw [hA] at p0 Hun
          rw [hBb] at p1 Hun
          clear hA hBb
          have hbt := bits_far A Bb hA2 hB2
          have q0 : (0 : Int) < y.size := by rw [Hyl.out]; omega
          have q1 : (1 : Int) < y.size := by rw [Hyl.out]; omega
          have w1' : IntKind.i64.wrap (Bb : Int) = Bb := IntWalk.i64_in _ (by omega)
          have w2' : IntKind.i64.wrap (A : Int) = A := IntWalk.i64_in _ (by omega)
          have w3' : IntKind.i64.wrap ((Bb : Int) * 256) = (Bb : Int) * 256 := IntWalk.i64_in _ (by omega)
          obtain ⟨far, hfar⟩ : ∃ far, A + 256 * Bb = far := ⟨_, rfl⟩
          rw [hfar] at hbt Hun
          clear hfar
          obtain ⟨z, hz⟩ : ∃ z, y.extract 2 y.size = z := ⟨_, rfl⟩
          have hzd : z.data.toList = r.drop 2 := by rw [← hz, Lib.extract_data, Hyd.out]; exact List.take_of_length_le (by rw [List.length_drop, Hyl.out]; exact Nat.le_refl _)
          have hzl : z.size = r.length - 2 := by
            have : z.data.toList.length = z.size := by simp
            rw [← this, hzd, List.length_drop]
          have Hzd := Lib.hid hzd
          have Hzl := Lib.hid hzl
          clear hzd hzl
          by_cases hf0 : far = 0
          · have t2 : ((far : Int) == 0) = true := by simpa using hf0
            rw [if_pos (.inl hf0)] at Hun
            go_wp2
            go_quiet (fail)
            go_wp2_with fail
            go_ret2
            exact ⟨ret_unp Hun.out, below_drewN hbel _⟩
          · have t2 : ((far : Int) == 0) = false := by simpa using hf0
            by_cases hfo : out.length < far
            · rw [if_pos (.inr hfo)] at Hun
              have t3 : decide ((out.length : Int) < (far : Int)) = true := decide_eq_true (by omega)
              go_wp2
              go_quiet (fail)
              go_wp2_with fail
              go_ret2
              exact ⟨ret_unp Hun.out, below_drewN hbel _⟩
            · rw [if_neg (by omega)] at Hun
              have t3 : decide ((out.length : Int) < (far : Int)) = false := decide_eq_false (by omega)
              obtain ⟨g, cap, hform, _⟩ := hown.form (by omega)
              have hao : ao = some ⟨g, 0, none⟩ := by injection hform
              subst hao
              clear hform
              go_wp2
              go_quiet (fail)
              go_wp2_with fail
              clear hbt p0 p1 q0 q1 w1' w2' w3' h0 hx1 hy hz
              go_loopw [6, 57] (fun v a wi => ∃ i : Nat, i ≤ m - 124 ∧ a = .int .i64 i ∧ ∃ g cap, v = .slice (some ⟨g, 0, none⟩) (out.length + i) cap ∧ wi.ownsRow w.heap.size 5 1 (.slice (some ⟨g, 0, none⟩) (out.length + i) cap) (out.length + i) (Lib.byteCells (copyN far i out)) ∧ Below w.heap.size w wi) (fun _ a _ => 300 - (intOf a).toNat)
              case atStart => exact ⟨0, by omega, rfl, g, _, rfl, hown, below_drewN hbel _⟩
              case round =>
                clear hown hbel
                obtain ⟨i, hi2, rfl, g2, cap2, rfl, hown2, hbel2⟩ := hrel
                by_cases hin : i < m - 124
                · have t4 : decide ((i : Int) < (m : Int) - 128 + 4) = true := decide_eq_true (by omega)
                  obtain ⟨bt, hbt⟩ : ∃ bt : UInt8, (copyN far i out).getD (out.length + i - far) 0 = bt := ⟨_, rfl⟩
                  have hlen2 := copyN_length far i out
                  have hcell : wr.cell? ⟨g2, out.length + i - far, none⟩ = some (.int .u8 (bt.toNat : Int)) := by
                    rw [hown2.cellAt (out.length + i - far) (by omega), ← hbt]
                    simp [Lib.byteCells, show out.length + i - far < (copyN far i out).length by omega]
                  have q4 : ((out.length : Int) + i - far).toNat = out.length + i - far := by omega
                  have q5 : 0 ≤ (out.length : Int) + i - far := by omega
                  have hstep : Hid (copyN far (i + 1) out = copyN far i out ++ [bt]) := Lib.hid (by rw [copyN, hlen2, hbt])
                  clear hbt hlen2
                  have hbs := hbel2.size
                  go_wp2_with (first
                    | (at_builtin; refine wpList_append_own _ rfl _ _ 46 rfl w.heap.size 5 i0 (.int .u8 0) 1 1 Try.underlying46 hi hz0 hz1 hz2 rfl (by decide) _ _ _ rfl (hown2.alloc _) ⟨wr.heap.size, 0, none⟩ 1 1 [.int .u8 (bt.toNat : Int)] rfl rfl (cell_one_new _ _ _) ?c2 ?c3 ?c4 ?c5 ?_))
                  case c2 => intro u hu; simp at hu; subst hu; rfl
                  case c3 => unfold maxLen; omega
                  case c4 => omega
                  case c5 => simp; omega
                  intro v3 w3 hown3 hgrow3 _
                  obtain ⟨g3, cap3, rfl, _⟩ := hown3.form (by omega)
                  have hbel3 : Below w.heap.size w w3 := by
                    refine Below.trans (b := wr.alloc (.cells #[.int .u8 (bt.toNat : Int)] 5)) (hbel2.alloc hbs _) ?_
                    exact below_row (hown2.alloc _) hgrow3 (by simp; omega)
                  clear hown2 hgrow3 hcell q4 q5 t4
                  go_wp2
                  go_roundw
                  case rel =>
                    refine ⟨i + 1, by omega, by go_num, g3, cap3, rfl, ?_, hbel3⟩
                    rw [hstep.out, Lib.byteCells_append]
                    exact hown3
                  case measure =>
                    simp [intOf]
                    omega
                · have t4 : decide ((i : Int) < (m : Int) - 128 + 4) = false := decide_eq_false (by omega)
                  obtain rfl : i = m - 124 := by omega
                  have hlen2 := copyN_length far (m - 124) out
                  have Hlen2 := Lib.hid hlen2
                  have hmn : (((m - 124 : Nat) : Int)) = (m : Int) - 124 := by omega
                  clear hlen2
                  go_wp2_with fail
                  · have h1 := Hun.out
                    have hlt : most < (out.length : Int) + ((m : Int) - 124) := by assumption
                    rw [if_pos (by omega)] at h1
                    go_ret2
                    exact ⟨ret_unp h1, hbel2⟩
                  · have h1 := Hun.out
                    have hge : (out.length : Int) + ((m : Int) - 124) ≤ most := by assumption
                    rw [if_neg (by omega)] at h1
                    go_roundw
                    case rel =>
                      refine ⟨z, rfl, copyN far (m - 124) out, ?_, by rw [Hzd.out]; exact h1, hbel2, ?_⟩
                      · rw [Hlen2.out]
                        exact hown2
                      · rw [Hlen2.out, Hzl.out]
                        omega
                    case measure =>
                      show z.size < x.size
                      rw [Hzl.out, Hxs.out]
                      omega

end Go.Proofs.Ytnjcganknpnjcaa
namespace Go.Proofs.Ytnjcganknpnjcaa
open Go.RowKit

set_option maxRecDepth 100000 in
set_option maxHeartbeats 1000000 in
theorem rsame_any (s : ByteArray) (k d : Nat) (w : World) (hs : s.size ≤ 60000) (hk : k < s.size) (hd : d ≤ k) (hd0 : 1 ≤ d) :
    Calls Try.prog 91 #[.string s, .int .i64 k, .int .i64 d] w fun e w' => e = .returned (.int .i64 (sameLen s k (k - d))) ∧ Drew w w' := by
  go_enter Try.func91, Try.ntmps91
  go_wp2
  go_loopw [7] (fun v wr => ∃ m : Nat, m ≤ 131 ∧ v = .int .i64 m ∧ Hid (sameGo s k (k - d) (131 - m) m = sameLen s k (k - d)) ∧ ∃ n, wr = w.drewN n) (fun v _ => 131 - (intOf v).toNat)
  case atStart => exact ⟨0, by omega, rfl, Lib.hid rfl, 0, rfl⟩
  case round =>
    obtain ⟨m, hm, rfl, H, n, rfl⟩ := hrel
    have e1 : IntKind.i64.wrap ((k : Int) + m) = (k : Int) + m := IntWalk.i64_in _ (by omega)
    have e2 : IntKind.i64.wrap ((k : Int) + m - d) = (k : Int) + m - d := IntWalk.i64_in _ (by omega)
    have e3 : 0 ≤ (k : Int) + m := by omega
    have e4 : 0 ≤ (k : Int) + m - d := by omega
    have e5 : ((k : Int) + m).toNat = k + m := by omega
    have e6 : ((k : Int) + m - d).toNat = k - d + m := by omega
    by_cases h1 : m < 131
    · have h1b : decide ((m : Int) < 131) = true := decide_eq_true (by omega)
      by_cases h2 : k + m < s.size
      · have h2b : decide ((k : Int) + m < s.size) = true := decide_eq_true (by omega)
        have hx1 := byt_at s (k - d + m)
        have hx2 := byt_at s (k + m)
        have e7 : (k : Int) + m - d < s.size := by omega
        have e8 : k - d + m < s.size := by omega
        by_cases h3 : byt s (k - d + m) = byt s (k + m)
        · have h3b : (byt s (k + m) == byt s (k - d + m)) = true := by simpa using h3.symm
          have Hn : Hid (sameGo s k (k - d) (131 - (m + 1)) (m + 1) = sameLen s k (k - d)) := by
            rw [← H.out, show 131 - m = (131 - (m + 1)) + 1 by omega]
            exact Lib.hid (by rw [sameGo, if_pos ⟨h1, h2, h3⟩])
          clear h3 H
          go_wp2
          go_quiet (fail)
          go_wp2
          go_roundw
          case rel => exact ⟨m + 1, by omega, by go_num, Hn, _, rfl⟩
          case measure => simp [intOf]; omega
        · have h3b : (byt s (k + m) == byt s (k - d + m)) = false := by simpa using (fun h => h3 (Eq.symm h))
          have Hn : Hid (sameLen s k (k - d) = m) := by
            rw [← H.out, show 131 - m = (131 - (m + 1)) + 1 by omega]
            exact Lib.hid (by rw [sameGo, if_neg (fun h => h3 h.2.2)])
          clear h3 H
          go_wp2
          go_quiet (fail)
          go_wp2
          go_ret
          exact ⟨ret_int (by rw [Hn.out]), Drew.draws2 _ _ _⟩
      · have h2b : decide ((k : Int) + m < s.size) = false := decide_eq_false (by omega)
        have Hn : Hid (sameLen s k (k - d) = m) := by
          rw [← H.out, show 131 - m = (131 - (m + 1)) + 1 by omega]
          exact Lib.hid (by rw [sameGo, if_neg (fun h => h2 h.2.1)])
        clear H
        go_wp2
        go_quiet (fail)
        go_wp2
        go_ret
        exact ⟨ret_int (by rw [Hn.out]), Drew.draws2 _ _ _⟩
    · have h1b : decide ((m : Int) < 131) = false := decide_eq_false (by omega)
      have Hn : Hid (sameLen s k (k - d) = m) := by
        rw [← H.out, show 131 - m = 0 by omega]
        exact Lib.hid (by rw [sameGo])
      clear H
      by_cases h2 : k + m < s.size
      · have h2b : decide ((k : Int) + m < s.size) = true := decide_eq_true (by omega)
        go_wp2
        go_quiet (fail)
        go_wp2
        go_ret
        exact ⟨ret_int (by rw [Hn.out]), Drew.draws2 _ _ _⟩
      · have h2b : decide ((k : Int) + m < s.size) = false := decide_eq_false (by omega)
        go_wp2
        go_quiet (fail)
        go_wp2
        go_ret
        exact ⟨ret_int (by rw [Hn.out]), Drew.draws2 _ _ _⟩

/-- The reference's best: the first distance of the greatest number. -/
def rscan (s : ByteArray) (a : Nat) : Nat → Nat × Nat
  | 0 => (0, 0)
  | d + 1 => if (rscan s a d).1 < sameLen s a (a - (d + 1)) then (sameLen s a (a - (d + 1)), d + 1) else rscan s a d
theorem rscan_scan (s : ByteArray) (a : Nat) : ∀ d, (rscan s a d).1 < 4 ∧ scan s a d = (0, 0) ∨ 4 ≤ (rscan s a d).1 ∧ scan s a d = rscan s a d
  | 0 => .inl ⟨Nat.zero_lt_succ _, rfl⟩
  | d + 1 => by
    rw [scan, rscan]
    rcases rscan_scan s a d with ⟨h1, h2⟩ | ⟨h1, h2⟩
    · rw [h2]
      by_cases h4 : 4 ≤ sameLen s a (a - (d + 1))
      · have hA : (rscan s a d).1 < sameLen s a (a - (d + 1)) := by omega
        have hB : 4 ≤ sameLen s a (a - (d + 1)) ∧ (0, 0).1 < sameLen s a (a - (d + 1)) := ⟨h4, by show 0 < _; omega⟩
        simp only [if_pos hA, if_pos hB]
        exact .inr ⟨h4, trivial⟩
      · have hB : ¬ (4 ≤ sameLen s a (a - (d + 1)) ∧ (0, 0).1 < sameLen s a (a - (d + 1))) := fun h => h4 h.1
        simp only [if_neg hB]
        by_cases hA : (rscan s a d).1 < sameLen s a (a - (d + 1))
        · simp only [if_pos hA]
          exact .inl ⟨by show sameLen _ _ _ < 4; omega, trivial⟩
        · simp only [if_neg hA]
          exact .inl ⟨h1, trivial⟩
    · rw [h2]
      by_cases hlt : (rscan s a d).1 < sameLen s a (a - (d + 1))
      · rw [if_pos hlt, if_pos (by omega)]
        exact .inr ⟨by show 4 ≤ sameLen _ _ _; omega, rfl⟩
      · rw [if_neg hlt, if_neg (by omega)]
        exact .inr ⟨h1, rfl⟩
theorem rscan_facts (s : ByteArray) (a : Nat) : ∀ d, (rscan s a d).1 ≤ 131 ∧ (rscan s a d).2 ≤ d
  | 0 => ⟨Nat.zero_le _, Nat.zero_le _⟩
  | d + 1 => by
    rw [rscan]
    split
    · exact ⟨sameLen_le _ _ _, Nat.le_refl _⟩
    · have := rscan_facts s a d
      exact ⟨this.1, by omega⟩
theorem rscan_short (s : ByteArray) (a : Nat) (h : s.size < a + 4) : ∀ d, (rscan s a d).1 < 4
  | 0 => Nat.zero_lt_succ _
  | d + 1 => by
    rw [rscan]
    split
    · refine Nat.lt_of_not_le fun h4 => ?_
      have := (sameLen_alike s a (a - (d + 1)) 3 h4).2
      omega
    · exact rscan_short s a h d
theorem rscan_best (s : ByteArray) (a : Nat) : (rscan s a a).1 < 4 ∧ (bestN s a).1 < 4 ∨ 4 ≤ (rscan s a a).1 ∧ bestN s a = rscan s a a := by
  unfold bestN
  by_cases h4 : a + 4 ≤ s.size
  · rw [if_pos h4]
    rcases rscan_scan s a a with ⟨h1, h2⟩ | h
    · exact .inl ⟨h1, by rw [h2]; decide⟩
    · exact .inr h
  · rw [if_neg h4]
    exact .inl ⟨rscan_short s a (by omega) a, by decide⟩

set_option maxRecDepth 100000 in
set_option maxHeartbeats 1000000 in
theorem rbest_any (s : ByteArray) (k : Nat) (w : World) (hs : s.size ≤ 60000) (hk : k < s.size) :
    Calls Try.prog 60 #[.string s, .int .i64 k] w fun e w' => e = .returned (.tuple #[.int .i64 (rscan s k k).1, .int .i64 (rscan s k k).2]) ∧ Drew w w' := by
  go_enter Try.func60, Try.ntmps60
  go_wp2
  go_loopw [6, 7, 8] (fun a b c wr => ∃ d : Nat, 1 ≤ d ∧ d ≤ k + 1 ∧ a = .int .i64 (rscan s k (d - 1)).1 ∧ b = .int .i64 (rscan s k (d - 1)).2 ∧ c = .int .i64 (d : Int) ∧ Drew w wr) (fun _ _ c _ => k + 2 - (intOf c).toNat)
  case atStart => exact ⟨1, by omega, by omega, rfl, rfl, rfl, Drew.refl _⟩
  case round =>
    obtain ⟨d, hd1, hd, rfl, rfl, rfl, n, rfl⟩ := hrel
    obtain ⟨N, hN⟩ : ∃ N, (rscan s k (d - 1)).1 = N := ⟨_, rfl⟩
    obtain ⟨E, hE⟩ : ∃ E, (rscan s k (d - 1)).2 = E := ⟨_, rfl⟩
    rw [hN, hE]
    have HN := Lib.hid hN
    have HE := Lib.hid hE
    by_cases hlt : d ≤ k
    · have t0 : decide ((d : Int) ≤ (k : Int)) = true := decide_eq_true (by omega)
      have t1 : decide ((d : Int) ≤ 65535) = true := decide_eq_true (by omega)
      have Hs := Lib.hid (show rscan s k d = if (rscan s k (d - 1)).1 < sameLen s k (k - d) then (sameLen s k (k - d), d) else rscan s k (d - 1) by
        obtain ⟨d', rfl⟩ : ∃ d', d = d' + 1 := ⟨d - 1, by omega⟩
        rw [rscan]
        rfl)
      clear hN hE
      go_wp2_with fail
      refine (rsame_any s k d (w.drewN n) hs hk hlt hd1).mono ?_
      rintro e w' ⟨rfl, n2, rfl⟩
      by_cases hb : N < sameLen s k (k - d)
      · have t2 : decide ((N : Int) < (sameLen s k (k - d) : Int)) = true := decide_eq_true (by omega)
        go_wp2
        go_roundw
        case rel =>
          have h1 := Hs.out
          rw [HN.out, if_pos hb] at h1
          exact ⟨d + 1, by omega, by omega, by rw [Nat.add_sub_cancel, h1], by rw [Nat.add_sub_cancel, h1], by go_num, Drew.draws _ _⟩
        case measure => simp [intOf]; omega
      · have t2 : decide ((N : Int) < (sameLen s k (k - d) : Int)) = false := decide_eq_false (by omega)
        go_wp2
        go_roundw
        case rel =>
          have h1 := Hs.out
          rw [HN.out, if_neg hb] at h1
          exact ⟨d + 1, by omega, by omega, by rw [Nat.add_sub_cancel, h1, HN.out], by rw [Nat.add_sub_cancel, h1, HE.out], by go_num, Drew.draws _ _⟩
        case measure => simp [intOf]; omega
    · have hdk : d - 1 = k := by omega
      have t0 : decide ((d : Int) ≤ (k : Int)) = false := decide_eq_false (by omega)
      have Hd := Lib.hid hdk
      clear hN hE hdk
      go_wp2
      go_ret2
      exact ⟨ret_two (by rw [← HN.out, Hd.out]) (by rw [← HE.out, Hd.out]), Drew.draws _ _⟩

end Go.Proofs.Ytnjcganknpnjcaa
namespace Go.Proofs.Ytnjcganknpnjcaa
open Go.RowKit

/-- 'string([]byte{..})' of bytes that stand there. -/
theorem conv_lit (w : World) (l : List UInt8) (h : l.length ≤ 1000) :
    (convert 46 9 (.slice (some ⟨w.heap.size, 0, none⟩) l.length l.length)).run Try.prog (w.alloc (.cells (Lib.byteCells l).toArray 5)).drew = .ok (.string ⟨l.toArray⟩) (w.alloc (.cells (Lib.byteCells l).toArray 5)).drew := by
  refine conv_row (base := w.heap.size) ?_
  have := World.ownsRow_lit (base := w.heap.size) (e := 5) (size := 1) w (Lib.byteCells l).toArray l.length (Nat.le_refl _) (by unfold maxLen; omega) (by simp [Lib.byteCells])
  exact this
theorem conv_one (w : World) (c : UInt8) : (convert 46 9 (.slice (some ⟨w.heap.size, 0, none⟩) 1 1)).run Try.prog (w.alloc (.cells #[.int .u8 (c.toNat : Int)] 5)).drew = .ok (.string ⟨#[c]⟩) (w.alloc (.cells #[.int .u8 (c.toNat : Int)] 5)).drew :=
  conv_lit w [c] (by simp)
theorem conv_lit0 (w : World) (l : List UInt8) (h : l.length ≤ 1000) :
    (convert 46 9 (.slice (some ⟨w.heap.size, 0, none⟩) l.length l.length)).run Try.prog (w.alloc (.cells (Lib.byteCells l).toArray 5)) = .ok (.string ⟨l.toArray⟩) (w.alloc (.cells (Lib.byteCells l).toArray 5)) := by
  refine conv_row (base := w.heap.size) ?_
  have := World.ownsRow_lit (base := w.heap.size) (e := 5) (size := 1) w (Lib.byteCells l).toArray l.length (Nat.le_refl _) (by unfold maxLen; omega) (by simp [Lib.byteCells])
  exact this
theorem conv_one0 (w : World) (c : UInt8) : (convert 46 9 (.slice (some ⟨w.heap.size, 0, none⟩) 1 1)).run Try.prog (w.alloc (.cells #[.int .u8 (c.toNat : Int)] 5)) = .ok (.string ⟨#[c]⟩) (w.alloc (.cells #[.int .u8 (c.toNat : Int)] 5)) :=
  conv_lit0 w [c] (by simp)
theorem below_alloc {a w : World} (h : Below a.heap.size a w) (o : Obj) : Below a.heap.size a (w.alloc o).drew := ⟨(h.alloc h.size o).os, (h.alloc h.size o).tape, (h.alloc h.size o).output, (h.alloc h.size o).size, (h.alloc h.size o).block⟩
theorem runB_long (l : List UInt8) (h : 128 < l.length) : runB l = 127 :: (l.take 128 ++ runB (l.drop 128)) := by
  have hp : l ≠ [] := by intro e; rw [e] at h; simp at h
  rw [runB_step l hp, show min l.length 128 = 128 by omega]
  rfl
theorem runB_short (l : List UInt8) (h : l.length ≤ 128) (h0 : l ≠ []) : runB l = UInt8.ofNat (l.length - 1) :: l := by
  rw [runB_step l h0, show min l.length 128 = l.length by omega, List.take_of_length_le h, List.drop_eq_nil_of_le h, runB_nil, List.append_nil]

set_option maxRecDepth 100000 in
set_option maxHeartbeats 1000000 in
theorem rrun_any (s : ByteArray) (w : World) (hs : s.size ≤ 60000) :
    Calls Try.prog 61 #[.string s] w fun e w' => e = .returned (.string ⟨(runB s.data.toList).toArray⟩) ∧ Below w.heap.size w w' := by
  go_enter Try.func61, Try.ntmps61
  go_wp2
  go_loopw [0, 3] (fun a b wr => ∃ x y : ByteArray, a = .string x ∧ b = .string y ∧ x.size ≤ s.size ∧ y.size + 2 * x.size ≤ 2 * s.size ∧ Hid (y.data.toList ++ runB x.data.toList = runB s.data.toList) ∧ Below w.heap.size w wr) (fun a _ _ => szOf a)
  case atStart => exact ⟨s, ⟨#[]⟩, rfl, rfl, Nat.le_refl _, by show 0 + _ ≤ _; omega, Lib.hid rfl, Below.refl _ _⟩
  case round =>
    obtain ⟨x, y, rfl, rfl, hx, hy, H, hbel⟩ := hrel
    have hsz : x.data.toList.length = x.size := by simp
    by_cases h128 : 128 < x.size
    · have t0 : decide ((128 : Int) < (x.size : Int)) = true := decide_eq_true (by omega)
      have hcv : (convert 46 9 (.slice (some ⟨wr.heap.size, 0, none⟩) 1 1)).run Try.prog (wr.alloc (.cells #[.int .u8 127] 5)).drew = .ok (.string ⟨#[127]⟩) (wr.alloc (.cells #[.int .u8 127] 5)).drew := conv_one wr 127
      have Hr := Lib.hid (runB_long x.data.toList (by rw [hsz]; exact h128))
      have hd1 : (x.extract 0 128).data.toList = x.data.toList.take 128 := by rw [Lib.extract_data]; rfl
      have hd2 : (x.extract 128 x.size).data.toList = x.data.toList.drop 128 := by rw [Lib.extract_data]; exact List.take_of_length_le (by simp)
      have hz1 : (x.extract 0 128).size = 128 := by simp [ByteArray.size_extract]; omega
      have hz2 : (x.extract 128 x.size).size = x.size - 128 := by simp [ByteArray.size_extract]
      obtain ⟨x1, hx1⟩ : ∃ z, x.extract 0 128 = z := ⟨_, rfl⟩
      obtain ⟨x2, hx2⟩ : ∃ z, x.extract 128 x.size = z := ⟨_, rfl⟩
      rw [hx1] at hd1 hz1
      rw [hx2] at hd2 hz2
      have Hd1 := Lib.hid hd1
      have Hd2 := Lib.hid hd2
      clear hd1 hd2 hsz
      go_wp2
      go_region
      go_wp2
      obtain ⟨z, hz⟩ : ∃ z, y ++ { data := #[127] } ++ x1 = z := ⟨_, rfl⟩
      have hzd : z.data.toList = y.data.toList ++ [127] ++ x1.data.toList := by rw [← hz]; simp
      have hzs : z.size = y.size + 129 := by rw [← hz, ByteArray.size_append, ByteArray.size_append, hz1]; rfl
      rw [hz]
      go_roundw
      case rel =>
        refine ⟨x2, z, rfl, rfl, by omega, by omega, Lib.hid ?_, ?_⟩
        · rw [← H.out, Hr.out, hzd, Hd1.out, Hd2.out]
          simp
        · exact below_alloc hbel _
      case measure =>
        simp [szOf]
        omega
    · have t0 : decide ((128 : Int) < (x.size : Int)) = false := decide_eq_false (by omega)
      by_cases h0 : x.size = 0
      · have t1 : ((x.size : Int) == 0) = true := by simp [h0]
        have hl : x.data.toList = [] := List.eq_nil_of_length_eq_zero (by omega)
        rw [hl, runB_nil, List.append_nil] at H
        clear hl hsz
        go_wp2
        go_ret
        refine ⟨ret_val ?_, hbel⟩
        rw [← H.out]
        exact congrArg Value.string (ByteArray.ext (Array.ext' (by simp)))
      · have t1 : ((x.size : Int) == 0) = false := by simpa using h0
        have Hr := Lib.hid (runB_short x.data.toList (by omega) (by intro e; rw [e] at hsz; simp at hsz; omega))
        rw [hsz] at Hr
        obtain ⟨c, hc⟩ : ∃ c : UInt8, UInt8.ofNat (x.size - 1) = c := ⟨_, rfl⟩
        have hcv := conv_one0 wr c
        have hw : IntKind.u8.wrap ((x.size : Int) - 1) = (c.toNat : Int) := by
          rw [IntWalk.u8_in _ (by omega), ← hc]
          simp; omega
        rw [hc] at Hr
        clear hc hsz
        go_wp2
        go_ret
        refine ⟨ret_val ?_, hbel.alloc hbel.size _⟩
        rw [← H.out, Hr.out]
        exact congrArg Value.string (ByteArray.ext (Array.ext' (by simp)))

end Go.Proofs.Ytnjcganknpnjcaa
namespace Go.Proofs.Ytnjcganknpnjcaa
open Go.RowKit

theorem conv_three (w : World) (a b c : UInt8) : (convert 46 9 (.slice (some ⟨w.heap.size, 0, none⟩) 3 3)).run Try.prog (w.alloc (.cells #[.int .u8 (a.toNat : Int), .int .u8 (b.toNat : Int), .int .u8 (c.toNat : Int)] 5)).drew = .ok (.string ⟨#[a, b, c]⟩) (w.alloc (.cells #[.int .u8 (a.toNat : Int), .int .u8 (b.toNat : Int), .int .u8 (c.toNat : Int)] 5)).drew :=
  conv_lit w [a, b, c] (by simp)
theorem conv_three0 (w : World) (a b c : UInt8) : (convert 46 9 (.slice (some ⟨w.heap.size, 0, none⟩) 3 3)).run Try.prog (w.alloc (.cells #[.int .u8 (a.toNat : Int), .int .u8 (b.toNat : Int), .int .u8 (c.toNat : Int)] 5)) = .ok (.string ⟨#[a, b, c]⟩) (w.alloc (.cells #[.int .u8 (a.toNat : Int), .int .u8 (b.toNat : Int), .int .u8 (c.toNat : Int)] 5)) :=
  conv_lit0 w [a, b, c] (by simp)

theorem conv_kept (w A wx : World) (a b c : UInt8) (h : A.heap[w.heap.size]? = some (.cells #[.int .u8 (a.toNat : Int), .int .u8 (b.toNat : Int), .int .u8 (c.toNat : Int)] 5)) (hb : Below A.heap.size A wx) :
    (convert 46 9 (.slice (some ⟨w.heap.size, 0, none⟩) 3 3)).run Try.prog wx = .ok (.string ⟨#[a, b, c]⟩) wx := by
  have hx := (hb.block _ (lt_of_block h)).trans h
  refine conv_row (base := 0) (l := [a, b, c]) ⟨by simp [Lib.byteCells], .inr ⟨_, _, _, rfl, Nat.zero_le _, hx, Nat.le_refl _, by unfold maxLen; simp, by simp, ?_⟩⟩
  simp [Lib.byteCells]

def RPackInv (s : ByteArray) (fr k : Nat) (y z : ByteArray) : Prop :=
  z.data.toList = seg s fr k ∧ y.size ≤ 2 * fr ∧ z.size = k - fr ∧ y.data.toList ++ packFrom s fr k = pack s

set_option maxRecDepth 100000 in
set_option maxHeartbeats 2000000 in
theorem rpack_any (s : ByteArray) (w : World) (hs : s.size ≤ 60000) :
    Calls Try.prog 27 #[.string s] w fun e w' => e = .returned (.string ⟨(pack s).toArray⟩) ∧ Below w.heap.size w w' := by
  go_enter Try.func27, Try.ntmps27
  go_wp2
  go_loopw [3, 4, 5] (fun a b c wr => ∃ (y z : ByteArray) (fr k : Nat), fr ≤ k ∧ k ≤ s.size ∧ a = .string y ∧ b = .string z ∧ c = .int .i64 (k : Int) ∧ Hid (RPackInv s fr k y z) ∧ Below w.heap.size w wr) (fun _ _ c _ => s.size - (intOf c).toNat)
  case atStart => exact ⟨⟨#[]⟩, ⟨#[]⟩, 0, 0, by omega, by omega, rfl, rfl, rfl, Lib.hid ⟨rfl, Nat.le_refl _, rfl, rfl⟩, Below.refl _ _⟩
  case round =>
    obtain ⟨y, z, fr, k, hfk, hks, rfl, rfl, rfl, H, hbel⟩ := hrel
    obtain ⟨hzd, hys, hzs, hpk⟩ := H.out
    clear H
    have Hpk := Lib.hid hpk
    have Hzd := Lib.hid hzd
    clear hpk hzd
    by_cases hlt : k < s.size
    · have t0 : decide ((k : Int) < (s.size : Int)) = true := decide_eq_true (by omega)
      have hrb := rscan_best s k
      have hrf := rscan_facts s k k
      go_wp2_with fail
      refine (rbest_any s k wr hs hlt).mono ?_
      rintro e w1 ⟨rfl, nd, rfl⟩
      obtain ⟨n, hn⟩ : ∃ n, (rscan s k k).1 = n := ⟨_, rfl⟩
      obtain ⟨d, hd⟩ : ∃ d, (rscan s k k).2 = d := ⟨_, rfl⟩
      rw [hn, hd] at hrf
      rw [hn] at hrb
      rw [hn, hd]
      have Hn := Lib.hid hn
      have Hd := Lib.hid hd
      clear hn hd
      by_cases h4 : n < 4
      · have t1 : decide ((n : Int) < 4) = true := decide_eq_true (by omega)
        have h5 : (bestN s k).1 < 4 := by
          rcases hrb with h | h
          · exact h.2
          · omega
        have Hp := Lib.hid (packFrom_one s fr k hlt h5)
        have hx : (s.extract k (k + 1)).size = 1 := by simp [ByteArray.size_extract]; omega
        have hsg : seg s fr (k + 1) = seg s fr k ++ (s.extract k (k + 1)).data.toList := by
          rw [Lib.extract_data]
          unfold seg
          rw [show k + 1 - fr = (k - fr) + (k + 1 - k) by omega, List.take_add, List.drop_drop, show fr + (k - fr) = k by omega]
        have Hsg := Lib.hid hsg
        obtain ⟨x, hx1⟩ : ∃ x, s.extract k (k + 1) = x := ⟨_, rfl⟩
        rw [hx1] at hx Hsg
        clear hrb hrf h5 hsg
        go_wp2
        obtain ⟨z2, hz2⟩ : ∃ z2, z ++ x = z2 := ⟨_, rfl⟩
        have hzs2 : z2.size = k + 1 - fr := by rw [← hz2, ByteArray.size_append, hx]; omega
        rw [hz2]
        go_roundw
        case rel =>
          refine ⟨y, z2, fr, k + 1, by omega, by omega, rfl, rfl, by go_num, Lib.hid ⟨?_, hys, hzs2, ?_⟩, below_drewN hbel _⟩
          · rw [← hz2, Hsg.out, ← Hzd.out]; simp
          · rw [← Hp.out]; exact Hpk.out
        case measure => simp [intOf]; omega
      · have t1 : decide ((n : Int) < 4) = false := decide_eq_false (by omega)
        have hb : bestN s k = (n, d) := by
          rcases hrb with h | h
          · omega
          · rw [h.2]; exact Prod.ext Hn.out Hd.out
        have Hc := Lib.hid (packFrom_copy s fr k hlt (by rw [hb]; exact h4))
        have hfac := bestN_facts s k
        rw [hb] at Hc hfac
        obtain ⟨g1, g2, g3, g5, g6⟩ : 4 ≤ n ∧ n ≤ 131 ∧ 1 ≤ d ∧ d ≤ k ∧ k + n ≤ s.size := by
          rcases hfac with ⟨h0, _⟩ | ⟨h1, h2, h3, h5, h6, _⟩
          · simp at h0; omega
          · exact ⟨h1, h2, h3, h5, h6⟩
        have hrl : (runB z.data.toList).length ≤ 2 * (k - fr) := by rw [Hzd.out]; exact runB_seg_le s fr k hks
        obtain ⟨r, hr⟩ : ∃ r : ByteArray, (⟨(runB z.data.toList).toArray⟩ : ByteArray) = r := ⟨_, rfl⟩
        have hrs : r.size ≤ 2 * (k - fr) := by rw [← hr]; show (runB z.data.toList).toArray.size ≤ _; rw [List.size_toArray]; exact hrl
        have Hr := Lib.hid hr
        obtain ⟨c1, hc1⟩ : ∃ c : UInt8, UInt8.ofNat (n + 124) = c := ⟨_, rfl⟩
        obtain ⟨c2, hc2⟩ : ∃ c : UInt8, UInt8.ofNat d = c := ⟨_, rfl⟩
        obtain ⟨c3, hc3⟩ : ∃ c : UInt8, UInt8.ofNat (d / 256) = c := ⟨_, rfl⟩
        have a1 : IntKind.u8.wrap ((n : Int) + 124) = (c1.toNat : Int) := by rw [IntWalk.u8_in _ (by omega), ← hc1]; simp; omega
        have a2 : IntKind.u8.wrap ((d : Int).tmod 256) = (c2.toNat : Int) := by rw [Int.tmod_eq_emod_of_nonneg (by omega), IntWalk.u8_in _ (by omega), ← hc2]; simp
        have a3 : IntKind.u8.wrap ((d : Int) / 256) = (c3.toNat : Int) := by rw [IntWalk.u8_in _ (by omega), ← hc3]; simp; omega
        have b1 : IntKind.i64.wrap ((n : Int) + 124) = (n : Int) + 124 := IntWalk.i64_in _ (by omega)
        have b2 : IntKind.i64.wrap ((d : Int) / 256) = (d : Int) / 256 := IntWalk.i64_in _ (by omega)
        have hzle : z.size ≤ 60000 := by omega
        simp only [hc1, hc2, hc3] at Hc
        have hcv := fun W => conv_three W c1 c2 c3
        have hcv0 := fun W => conv_three0 W c1 c2 c3
        clear hc1 hc2 hc3 hr hfac hrb hrf hb hrl
        have hcw : (convert 46 9 (.slice (some ⟨wr.heap.size, 0, none⟩) 3 3)).run Try.prog ((wr.drewN (nd + 1)).alloc (.cells #[.int .u8 (c1.toNat : Int), .int .u8 (c2.toNat : Int), .int .u8 (c3.toNat : Int)] 5)) = .ok (.string ⟨#[c1, c2, c3]⟩) ((wr.drewN (nd + 1)).alloc (.cells #[.int .u8 (c1.toNat : Int), .int .u8 (c2.toNat : Int), .int .u8 (c3.toNat : Int)] 5)) := conv_three0 (wr.drewN (nd + 1)) c1 c2 c3
        go_wp2
        go_region_with (go_at_call 61; refine (rrun_any z _ hzle).mono ?_; rintro e wx ⟨rfl, hbx⟩; rw [Hr.out]; try (have hcx : (convert 46 9 (.slice (some ⟨wr.heap.size, 0, none⟩) 3 3)).run Try.prog wx = .ok (.string ⟨#[c1, c2, c3]⟩) wx := conv_kept (wr.drewN (nd + 1)) _ wx c1 c2 c3 (by exact heap_new (wr.drewN (nd + 1)) _) hbx))
        all_goals
          go_wp2
          go_roundw
          case rel =>
            refine ⟨y ++ r ++ ⟨#[c1, c2, c3]⟩, ⟨#[]⟩, k + n, k + n, Nat.le_refl _, by omega, rfl, rfl, by go_num, Lib.hid ⟨?_, ?_, ?_, ?_⟩, ?_⟩
            · simp [seg]
            · have : ((⟨#[c1, c2, c3]⟩ : ByteArray)).size = 3 := rfl
              rw [ByteArray.size_append, ByteArray.size_append, this]
              omega
            · show 0 = _; omega
            · rw [← Hpk.out, Hc.out, ← Hr.out, ← Hzd.out]
              simp
            · first
              | exact ((below_drewN hbel (nd + 1)).trans (hbx.mono hbel.size)).alloc (Nat.le_trans hbel.size hbx.size) _
              | exact ((below_drewN hbel (nd + 1)).alloc hbel.size _).trans (hbx.mono ((below_drewN hbel (nd + 1)).alloc hbel.size _).size)
          case measure => simp [intOf]; omega
    · have t0 : decide ((k : Int) < (s.size : Int)) = false := decide_eq_false (by omega)
      have Hp := Lib.hid (packFrom_end s fr k (by omega))
      obtain rfl : k = s.size := by omega
      have hrl : (runB z.data.toList).length ≤ 2 * (s.size - fr) := by rw [Hzd.out]; exact runB_seg_le s fr _ (Nat.le_refl _)
      obtain ⟨r, hr⟩ : ∃ r : ByteArray, (⟨(runB z.data.toList).toArray⟩ : ByteArray) = r := ⟨_, rfl⟩
      have hrs : r.size ≤ 2 * (s.size - fr) := by rw [← hr]; show (runB z.data.toList).toArray.size ≤ _; rw [List.size_toArray]; exact hrl
      have Hr := Lib.hid hr
      clear hr hrl
      go_wp2_with fail
      refine (rrun_any z wr (by omega)).mono ?_
      rintro e w1 ⟨rfl, hb1⟩
      rw [Hr.out]
      go_wp2
      go_ret
      refine ⟨ret_val ?_, hbel.trans (hb1.mono hbel.size)⟩
      rw [← Hpk.out, Hp.out, ← Hzd.out]
      refine congrArg Value.string (ByteArray.ext (Array.ext' ?_))
      rw [← Hr.out]
      simp

end Go.Proofs.Ytnjcganknpnjcaa
