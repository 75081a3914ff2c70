/- cipher's reference: Xor. -/
import Derived.Test.YtnjcganknpnjcaaGk
import Derived.Test.YtnjcganknpnjcaaGj
import Derived.Test.YtnjcganknpnjcaaGd
import Derived.Deep.RegionLaw
import Derived.Test.YtnjcganknpnjcaaGh
set_option linter.unusedVariables false
set_option linter.unusedSimpArgs false
namespace Go.Proofs.Ytnjcganknpnjcaa
open Go.RowKit

theorem step_append_own {P : Program} {ops : Array Oper} {o : Oper} {a : Act} {w : World} {K : Act → World → Prop} {Q : Exit → Act → World → Prop} {E : Prop}
    (hg : o.guard = none) (s x : Operand) (t : TypeId) (hop : o.op = Op.call { callee := Callee.builtin Builtin.append, args := #[s, x], argTypes := #[t, t] })
    (base : Nat) (e : TypeId) (i : TypeInfo) (z : Value) (size bytes : Nat) (h1 : P.underlying t = some (.slice e)) (h2 : P.info? e = some i) (h3 : i.zero = some z) (h4 : i.size = size) (h5 : i.bytes = bytes) (h6 : z.cells.size = size) (h7 : 0 < size)
    (v : Value) (n : Nat) (xs : List Value) (hs : a.eval s = v) (hown : w.ownsRow base e size v n xs)
    (ad : Addr) (m c : Nat) (news : List Value) (hx : a.eval x = .slice (some ad) m c) (hn : news.length = m * size) (hc : ∀ (j : Nat) u, news[j]? = some u → w.cell? (ad.add j) = some u) (h1c : ∀ u ∈ news, u.oneCell' = true)
    (b1 : n + m ≤ maxLen) (b2 : (n + m) * bytes ≤ 140737488355328) (hbase : base ≤ w.heap.size)
    (hK : ∀ v' w', w'.ownsRow base e size v' (n + m) (xs ++ news) → w.grownBy w' v.ownBlock → K (a.put o.dst v') w') :
    if Region.wanted o (yielded ops a.tmps) = true then Oper.wp P o a w K Q else E := by
  have hw : Region.wanted o (yielded ops a.tmps) = true := by simp [Region.wanted, hg]
  rw [if_pos hw]
  obtain ⟨v', w', hrun, r1, r2, _⟩ := run_append_own (P := P) w base t o.type e i z size bytes h1 h2 h3 h4 h5 h6 h7 v n xs hown ad m c news hn hc h1c b1 b2 hbase
  unfold Oper.wp
  simp [execOp, hop, resolve, invoke, builtin, hs, hx, hrun, Result.andThen]
  exact hK v' w' r1 r2

def xorL (kb nb : Nat → Nat) (n : Nat) (s : ByteArray) (i : Nat) : List UInt8 := (List.range i).map fun j => UInt8.ofNat (xorF kb nb n s j)
theorem xorL_length (kb nb : Nat → Nat) (n : Nat) (s : ByteArray) (i : Nat) : (xorL kb nb n s i).length = i := by simp [xorL]
theorem xorL_step (kb nb : Nat → Nat) (n : Nat) (s : ByteArray) (i : Nat) : Lib.byteCells (xorL kb nb n s (i + 1)) = Lib.byteCells (xorL kb nb n s i) ++ [.int .u8 (xorF kb nb n s i : Int)] := by
  have := xorF_bytes kb nb n s i
  simp [xorL, List.range_succ, Lib.byteCells]
  omega
/-- What the reference's Xor keeps. -/
structure XR (B O : Nat) (kb nb u : Nat → Nat) (n : Nat) (s : ByteArray) (i : Nat) (v : Value) (w wx : World) : Prop where
  kr : wx.rowIs B 34 32 (bytesV kb)
  nr : wx.rowIs (B + 1) 49 12 (bytesV nb)
  ob : wx.ownsRow (B + 2) 5 1 v i (Lib.byteCells (xorL kb nb n s i))
  bb : wx.rowIs O 119 64 (bytesV u)
  hO : B + 2 < O
  hB : w.heap.size = B
  below : Below B w wx
theorem XR.past {B O : Nat} {kb nb u : Nat → Nat} {n : Nat} {s : ByteArray} {i : Nat} {v : Value} {w wx wy : World} (t : XR B O kb nb u n s i v w wx) (hb : Below wx.heap.size wx wy) : XR B O kb nb u n s i v w wy :=
  ⟨t.kr.of_block (hb.block _ t.kr.lt), t.nr.of_block (hb.block _ t.nr.lt), t.ob.kept (row := none) ⟨hb.os, hb.tape, hb.output, hb.size, fun k hk _ => hb.block k hk⟩ (by cases v.ownBlock <;> simp), t.bb.of_block (hb.block _ t.bb.lt), t.hO, t.hB, t.below.trans (hb.mono (Nat.le_of_lt t.kr.lt))⟩
theorem XR.other {B O : Nat} {kb nb u : Nat → Nat} {n : Nat} {s : ByteArray} {i : Nat} {v : Value} {w wx : World} (t : XR B O kb nb u n s i v w wx) {g : Nat} (h : v.ownBlock = some g) : g ≠ O ∧ B + 2 ≤ g := by
  refine ⟨?_, (t.ob.lt g h).1⟩
  rintro rfl
  obtain ⟨c, hb, _⟩ := t.bb
  rcases t.ob.2 with ⟨rfl, _⟩ | ⟨g', cap, cur, rfl, _, hg, _⟩
  · simp [Value.ownBlock] at h
  · simp [Value.ownBlock] at h
    subst h
    rw [hb] at hg
    injection hg with e
    injection e with _ e
    exact absurd e (by decide)
theorem XR.setB {B O : Nat} {kb nb u : Nat → Nat} {n : Nat} {s : ByteArray} {i : Nat} {v : Value} {w wx : World} (t : XR B O kb nb u n s i v w wx) (u' : Nat → Nat) : XR B O kb nb u' n s i v w (wx.setRow O (arrA 64 (bytesV u'))) := by
  have h := t.hO
  refine ⟨rowIs_setOther t.kr (by omega) _, rowIs_setOther t.nr (by omega) _, t.ob.kept (row := some O) ?_ ?_, rowIs_setRow t.bb _, t.hO, t.hB, below_setRow t.below (by omega) _⟩
  · exact ⟨rfl, rfl, rfl, by rw [size_setRow]; exact Nat.le_refl _, fun k _ hk => setRow_other wx O k _ (fun e => hk (by rw [e]))⟩
  · cases hv : v.ownBlock with
    | none => exact .inl rfl
    | some g => exact .inr (fun e => (t.other hv).1 (by injection e))
theorem XR.appended {B O : Nat} {kb nb u : Nat → Nat} {n : Nat} {s : ByteArray} {i : Nat} {v v' : Value} {w wx w5 : World} (t : XR B O kb nb u n s i v w wx) {o : Obj} (hg : (wx.drew.alloc o).grownBy w5 v.ownBlock)
    (h : w5.ownsRow (B + 2) 5 1 v' (i + 1) (Lib.byteCells (xorL kb nb n s i) ++ [.int .u8 (xorF kb nb n s i : Int)])) : XR B O kb nb u n s (i + 1) v' w w5 := by
  have hO := t.hO
  have old : ∀ k, k < wx.heap.size → (∀ g, v.ownBlock = some g → k ≠ g) → w5.heap[k]? = wx.heap[k]? := fun k hk hne =>
    (hg.block k (by simp; omega) (fun e => hne k e.symm rfl)).trans (Below.heap_alloc wx.drew o k hk)
  refine ⟨t.kr.of_block (old _ t.kr.lt fun g hv => by have := (t.other hv).2; omega), t.nr.of_block (old _ t.nr.lt fun g hv => by have := (t.other hv).2; omega), ?_, t.bb.of_block (old _ t.bb.lt fun g hv => Ne.symm (t.other hv).1), t.hO, t.hB, ?_⟩
  · rw [xorL_step]; exact h
  · exact (Below.alloc (Below.drew t.below) (Nat.le_of_lt t.kr.lt) o).grown hg (Nat.le_trans (Nat.le_of_lt t.kr.lt) (by simp)) (fun k hk => by have := (t.other hk).2; omega)

set_option maxRecDepth 100000 in
set_option maxHeartbeats 4000000 in
theorem rxor_any (kb nb : Nat → Nat) (n : Nat) (s : ByteArray) (w : World) (hk : Bytes kb) (hn : Bytes nb) (hn32 : n < 4294967296) (hs : s.size ≤ 1000000) :
    Calls Try.prog 74 #[.agg (arrA 32 (bytesV kb)), .agg (arrA 12 (bytesV nb)), .int .u32 (n : Int), .string s] w fun e w' => e = .returned (.string (xorV kb nb n s)) ∧ Below w.heap.size w w' := by
  obtain ⟨i0, hi0, hz0, hz1, hz2⟩ := info_parts info5u
  go_enter Try.func74, Try.ntmps74
  have a0 : World.rowIs ((w.alloc (Obj.cells (arrA 32 (bytesV kb)) 34)).alloc (Obj.cells (arrA 12 (bytesV nb)) 49)) w.heap.size 34 32 (bytesV kb) := (row_of_heap (heap_new w _)).alloc _
  have a1 : World.rowIs ((w.alloc (Obj.cells (arrA 32 (bytesV kb)) 34)).alloc (Obj.cells (arrA 12 (bytesV nb)) 49)) (w.heap.size + 1) 49 12 (bytesV nb) := by
    have := heap_new (w.alloc (Obj.cells (arrA 32 (bytesV kb)) 34)) (Obj.cells (arrA 12 (bytesV nb)) 49)
    rw [World.size_alloc] at this
    exact row_of_heap this
  have a2 : Below w.heap.size w ((w.alloc (Obj.cells (arrA 32 (bytesV kb)) 34)).alloc (Obj.cells (arrA 12 (bytesV nb)) 49)) := ((Below.refl _ w).alloc (Nat.le_refl _) _).alloc (by simp) _
  have a3 : ((w.alloc (Obj.cells (arrA 32 (bytesV kb)) 34)).alloc (Obj.cells (arrA 12 (bytesV nb)) 49)).heap.size = w.heap.size + 2 := by simp
  go_upto_region 1 with fail
  obtain ⟨W0, hW0⟩ : ∃ W0, ((w.alloc (Obj.cells (arrA 32 (bytesV kb)) 34)).alloc (Obj.cells (arrA 12 (bytesV nb)) 49)) = W0 := ⟨_, rfl⟩
  rw [hW0] at a0 a1 a2 a3 ⊢
  clear hW0
  have z := zero64_row (W0.alloc (Obj.cells #[] 5))
  have zs : (W0.alloc (Obj.cells #[] 5)).heap.size = w.heap.size + 3 := by simp [a3]
  rw [zs] at z
  have hlit : (W0.alloc (Obj.cells #[] 5)).ownsRow (w.heap.size + 2) 5 1 (.slice (some ⟨w.heap.size + 2, 0, none⟩) 0 0) 0 [] := by
    have := World.ownsRow_lit (base := w.heap.size + 2) (e := 5) (size := 1) W0 #[] 0 (by omega) (by unfold maxLen; omega) rfl
    rw [a3] at this
    exact this
  have t0 : XR w.heap.size (w.heap.size + 3) kb nb (blkAt kb nb n 0) n s 0 (.slice (some ⟨w.heap.size + 2, 0, none⟩) 0 0) w (((W0.alloc (Obj.cells #[] 5)).alloc (Obj.cells #[Value.int IntKind.u8 0, Value.int IntKind.u8 0, Value.int IntKind.u8 0, Value.int IntKind.u8 0, Value.int IntKind.u8 0, Value.int IntKind.u8 0, Value.int IntKind.u8 0, Value.int IntKind.u8 0, Value.int IntKind.u8 0, Value.int IntKind.u8 0, Value.int IntKind.u8 0, Value.int IntKind.u8 0, Value.int IntKind.u8 0, Value.int IntKind.u8 0, Value.int IntKind.u8 0, Value.int IntKind.u8 0, Value.int IntKind.u8 0, Value.int IntKind.u8 0, Value.int IntKind.u8 0, Value.int IntKind.u8 0, Value.int IntKind.u8 0, Value.int IntKind.u8 0, Value.int IntKind.u8 0, Value.int IntKind.u8 0, Value.int IntKind.u8 0, Value.int IntKind.u8 0, Value.int IntKind.u8 0, Value.int IntKind.u8 0, Value.int IntKind.u8 0, Value.int IntKind.u8 0, Value.int IntKind.u8 0, Value.int IntKind.u8 0, Value.int IntKind.u8 0, Value.int IntKind.u8 0, Value.int IntKind.u8 0, Value.int IntKind.u8 0, Value.int IntKind.u8 0, Value.int IntKind.u8 0, Value.int IntKind.u8 0, Value.int IntKind.u8 0, Value.int IntKind.u8 0, Value.int IntKind.u8 0, Value.int IntKind.u8 0, Value.int IntKind.u8 0, Value.int IntKind.u8 0, Value.int IntKind.u8 0, Value.int IntKind.u8 0, Value.int IntKind.u8 0, Value.int IntKind.u8 0, Value.int IntKind.u8 0, Value.int IntKind.u8 0, Value.int IntKind.u8 0, Value.int IntKind.u8 0, Value.int IntKind.u8 0, Value.int IntKind.u8 0, Value.int IntKind.u8 0, Value.int IntKind.u8 0, Value.int IntKind.u8 0, Value.int IntKind.u8 0, Value.int IntKind.u8 0, Value.int IntKind.u8 0, Value.int IntKind.u8 0, Value.int IntKind.u8 0, Value.int IntKind.u8 0] 119)).setRow (w.heap.size + 3) (arrA 64 (bytesV (blkAt kb nb n 0)))) := by
    refine ⟨rowIs_setOther ((a0.alloc _).alloc _) (by omega) _, rowIs_setOther ((a1.alloc _).alloc _) (by omega) _, ?_, rowIs_setRow z _, by omega, rfl, below_setRow ((a2.alloc (by omega) _).alloc (by simp; omega) _) (by omega) _⟩
    refine (hlit.alloc _).kept (row := some (w.heap.size + 3)) ⟨rfl, rfl, rfl, by rw [size_setRow]; exact Nat.le_refl _, fun k _ hk => setRow_other _ _ k _ (fun e => hk (by rw [e]))⟩ (.inr ?_)
    simp [Value.ownBlock]
  go_upto_region 3 with (refine store_arr rfl 119 _ _ rfl 64 119 (w.heap.size + 3) _ (bytesV (blkAt kb nb n 0)) rfl rfl z siz119 (fun _ => rfl) ?_)
  try simp only [Act.put, List.setIfInBounds_toArray, List.set_cons_succ, List.set_cons_zero]
  try rw [a3]
  try rw [zs]
  obtain ⟨W1, hW1⟩ : ∃ W1, (((W0.alloc (Obj.cells #[] 5)).alloc (Obj.cells #[Value.int IntKind.u8 0, Value.int IntKind.u8 0, Value.int IntKind.u8 0, Value.int IntKind.u8 0, Value.int IntKind.u8 0, Value.int IntKind.u8 0, Value.int IntKind.u8 0, Value.int IntKind.u8 0, Value.int IntKind.u8 0, Value.int IntKind.u8 0, Value.int IntKind.u8 0, Value.int IntKind.u8 0, Value.int IntKind.u8 0, Value.int IntKind.u8 0, Value.int IntKind.u8 0, Value.int IntKind.u8 0, Value.int IntKind.u8 0, Value.int IntKind.u8 0, Value.int IntKind.u8 0, Value.int IntKind.u8 0, Value.int IntKind.u8 0, Value.int IntKind.u8 0, Value.int IntKind.u8 0, Value.int IntKind.u8 0, Value.int IntKind.u8 0, Value.int IntKind.u8 0, Value.int IntKind.u8 0, Value.int IntKind.u8 0, Value.int IntKind.u8 0, Value.int IntKind.u8 0, Value.int IntKind.u8 0, Value.int IntKind.u8 0, Value.int IntKind.u8 0, Value.int IntKind.u8 0, Value.int IntKind.u8 0, Value.int IntKind.u8 0, Value.int IntKind.u8 0, Value.int IntKind.u8 0, Value.int IntKind.u8 0, Value.int IntKind.u8 0, Value.int IntKind.u8 0, Value.int IntKind.u8 0, Value.int IntKind.u8 0, Value.int IntKind.u8 0, Value.int IntKind.u8 0, Value.int IntKind.u8 0, Value.int IntKind.u8 0, Value.int IntKind.u8 0, Value.int IntKind.u8 0, Value.int IntKind.u8 0, Value.int IntKind.u8 0, Value.int IntKind.u8 0, Value.int IntKind.u8 0, Value.int IntKind.u8 0, Value.int IntKind.u8 0, Value.int IntKind.u8 0, Value.int IntKind.u8 0, Value.int IntKind.u8 0, Value.int IntKind.u8 0, Value.int IntKind.u8 0, Value.int IntKind.u8 0, Value.int IntKind.u8 0, Value.int IntKind.u8 0, Value.int IntKind.u8 0] 119)).setRow (w.heap.size + 3) (arrA 64 (bytesV (blkAt kb nb n 0)))) = W1 := ⟨_, rfl⟩
  rw [hW1] at t0 ⊢
  obtain ⟨O, hO⟩ : ∃ O, w.heap.size + 3 = O := ⟨_, rfl⟩
  obtain ⟨v0, hv0⟩ : ∃ v0, Value.slice (some ⟨w.heap.size + 2, 0, none⟩) 0 0 = v0 := ⟨_, rfl⟩
  rw [hO] at t0 ⊢
  rw [hv0] at t0 ⊢
  clear hW1 hO hv0 hlit zs z a0 a1 a2 a3
  go_wp2_with fail
  go_loopw [11, 2, 9] (fun a c v wx => ∃ i : Nat, i ≤ s.size ∧ a = .int .i64 (i : Int) ∧ c = .int .u32 (blkN n i : Int) ∧ XR w.heap.size O kb nb (blkAt kb nb n i) n s i v w wx) (fun a c v _ => s.size - (intOf a).toNat)
  case atStart => exact ⟨0, by omega, rfl, by rw [blkN]; simp; omega, t0⟩
  case round =>
    clear t0
    obtain ⟨i, hi, rfl, rfl, t1⟩ := hrel
    by_cases hlt : i < s.size
    · have c0 : decide ((i : Int) < (s.size : Int)) = true := decide_eq_true (by omega)
      have c2 : (i : Int) < (s.size : Int) := by omega
      obtain ⟨k, hk64⟩ : ∃ k, i % 64 = k := ⟨_, rfl⟩
      have kl : k < 64 := by omega
      have hbx := byt_at s i
      obtain ⟨x, hx, lx⟩ := byt_nat s i
      rw [hx] at hbx
      have Hx := Lib.hid (show (byt s i).toNat = x by rw [hx]; simp)
      obtain ⟨y, hy⟩ : ∃ y, blkB kb nb ((n + i / 64) % 4294967296) k = y := ⟨_, rfl⟩
      have Hy := Lib.hid hy
      have yl : y < 256 := by rw [← hy]; exact blkB_bytes _ _ _ _
      have hqx := fun W => qxor_any x y W (by omega) (by omega)
      have hz : x ^^^ y = xorF kb nb n s i := by rw [xorF, strm, hk64, hy, Hx.out]
      have hzl : x ^^^ y < 256 := Nat.xor_lt_two_pow (n := 8) lx yl
      obtain ⟨z, hzz⟩ : ∃ z, x ^^^ y = z := ⟨_, rfl⟩
      rw [hzz] at hz hqx hzl
      have e5 : IntKind.u8.wrap (z : Int) = (z : Int) := IntWalk.u8_in _ (by omega)
      have e6 : IntKind.u64.wrap (x : Int) = (x : Int) := IntWalk.u64_in _ (by omega)
      have e7 : IntKind.u64.wrap (y : Int) = (y : Int) := IntWalk.u64_in _ (by omega)
      have Hz := Lib.hid hz
      have hu : blkB kb nb ((n + i / 64) % 4294967296) = blkAt kb nb n (i + 1) := by rw [blkAt, if_neg (by omega), show i + 1 - 1 = i by omega]
      have Hu := Lib.hid hu
      clear hx hy hz hu hzz
      by_cases hk0 : k = 0
      · have e3 : (i : Int) % 64 = 0 := by omega
        have e4 : (i : Int).tmod 64 = 0 := by rw [Int.tmod_eq_emod_of_nonneg (by omega)]; exact e3
        have hm : blkN n i = (n + i / 64) % 4294967296 := by rw [blkN, show (i + 63) / 64 = i / 64 by omega]
        obtain ⟨m, hmm⟩ : ∃ m, blkN n i = m := ⟨_, rfl⟩
        have hml : m < 4294967296 := by rw [← hmm, blkN]; exact Nat.mod_lt _ (by omega)
        have hm1 : ((m : Int) + 1) % 4294967296 = (blkN n (i + 1) : Int) := by
          rw [← hmm, blkN, blkN, show (i + 1 + 63) / 64 = (i + 63) / 64 + 1 by omega]
          omega
        obtain ⟨m1, hmm1⟩ : ∃ m1, blkN n (i + 1) = m1 := ⟨_, rfl⟩
        rw [hmm1] at hm1
        rw [hmm]
        rw [hm] at hmm
        have hbk := fun W => qblock_any kb nb m W hk hn hml
        rw [hmm] at Hu Hy
        obtain ⟨u, hu⟩ : ∃ u, blkB kb nb m = u := ⟨_, rfl⟩
        rw [hu] at hbk Hu Hy
        have Hm := Lib.hid hmm1
        clear hm hmm hmm1 hu hk64
        go_wp2_with (first | (refine load_arr rfl 34 _ rfl 32 5 34 w.heap.size _ rfl t1.kr und34 siz34 ?_) | (refine load_arr rfl 49 _ rfl 12 5 49 (w.heap.size + 1) _ rfl t1.nr und49 siz49 ?_))
        refine (hbk _).mono ?_
        rintro e w3 ⟨rfl, hb3⟩
        have t3 := t1.past hb3
        have t2 := t3.setB u
        obtain ⟨wy, hwy⟩ : ∃ wy, w3.setRow O (arrA 64 (bytesV u)) = wy := ⟨_, rfl⟩
        rw [hwy] at t2
        go_upto_region 9 with (refine store_arr rfl 119 _ _ rfl 64 119 O _ _ rfl rfl t3.bb siz119 (fun _ => rfl) ?_)
        try simp only [Act.put, List.setIfInBounds_toArray, List.set_cons_succ, List.set_cons_zero]
        try rw [hwy]
        try rw [hm1]
        clear hwy t3 t1 hb3 hbk
        obtain rfl : k = 0 := hk0
        rw [Hu.out] at t2 Hy
        have d2 : wy.cell? ⟨O, 0, none⟩ = some (.int .u8 (y : Int)) := by
          have := t2.bb.cell (i := 0) (by omega)
          rw [bytesV, Hy.out] at this
          exact this
        have hown : wy.drew.ownsRow (w.heap.size + 2) 5 1 u9 i (Lib.byteCells (xorL kb nb n s i)) := t2.ob
        have hvo := hown.lt
        have k1 : Hid (∀ (j : Nat) u, [Value.int .u8 (z : Int)][j]? = some u → (wy.drew.alloc (Obj.cells #[.int .u8 (z : Int)] 5)).cell? ((⟨wy.heap.size, 0, none⟩ : Addr).add j) = some u) := Lib.hid (by
          intro j u hj
          match j, hj with
          | 0, hj => simp at hj; subst hj; exact cell_new1 wy.drew _ _)
        have k2 : Hid (∀ u ∈ [Value.int .u8 (z : Int)], u.oneCell' = true) := Lib.hid (by intro u hu; simp at hu; subst hu; rfl)
        have k3 : Hid (i + 1 ≤ maxLen ∧ (i + 1) * 1 ≤ 140737488355328) := Lib.hid (by unfold maxLen; omega)
        have k4 : Hid (w.heap.size + 2 ≤ (wy.drew.alloc (Obj.cells #[.int .u8 (z : Int)] 5)).heap.size) := Lib.hid (by have := t2.hO; have := t2.bb.lt; simp; omega)
        have Hown := Lib.hid hown
        clear hown hvo
        go_wp2
        go_region_law (first
          | (refine step_append_own rfl (.tmp 29) (.tmp 41) 46 rfl (w.heap.size + 2) 5 i0 (.int .u8 0) 1 1 Try.underlying46 hi0 hz0 hz1 hz2 rfl (by decide) u9 i _ (by simp [Act.eval, Act.put]) (Hown.out.alloc _) ⟨wy.heap.size, 0, none⟩ 1 1 [.int .u8 (z : Int)] (by simp [Act.eval, Act.put]) rfl k1.out k2.out k3.out.1 k3.out.2 k4.out ?_; intro v' w5 hown' hgrow)
          | (go_simp; go_at_call 97; refine (hqx _).mono ?_; rintro e wq ⟨rfl, rfl⟩))
        all_goals
          have t5 : XR w.heap.size O kb nb (blkAt kb nb n (i + 1)) n s (i + 1) v' w w5 := by
            refine t2.appended hgrow ?_
            rw [← Hz.out]
            exact hown'
          go_wp2
          go_roundw
          case rel => exact ⟨i + 1, by omega, by go_num, by rw [Hm.out], t5⟩
          case measure => simp [intOf]; omega
      · have e3 : (i : Int) % 64 = (k : Int) := by omega
        have e4 : (i : Int).tmod 64 = (k : Int) := by rw [Int.tmod_eq_emod_of_nonneg (by omega)]; exact e3
        have c1 : decide ((k : Int) = 0) = false := decide_eq_false (by omega)
        have c3 : (k : Int) < 64 := by omega
        have hm1 : blkN n i = blkN n (i + 1) := by rw [blkN, blkN, show (i + 1 + 63) / 64 = (i + 63) / 64 by omega]
        obtain ⟨m1, hmm1⟩ : ∃ m1, blkN n i = m1 := ⟨_, rfl⟩
        rw [hmm1] at hm1 ⊢
        have Hm := Lib.hid hm1.symm
        have hua : blkAt kb nb n i = blkAt kb nb n (i + 1) := by rw [blkAt, blkAt, if_neg (by omega), if_neg (by omega), show (i - 1) / 64 = (i + 1 - 1) / 64 by omega]
        rw [hua] at t1
        have t2 := t1
        rw [Hu.out] at Hy
        obtain ⟨wy, rfl⟩ : ∃ wy, wy = wr := ⟨wr, rfl⟩
        clear hm1 hmm1 hua t1 Hu hk64
        go_upto_region 9 with fail
        have d2 : wy.cell? ⟨O, k, none⟩ = some (.int .u8 (y : Int)) := by
          have := t2.bb.cell (i := k) (by omega)
          rw [bytesV, Hy.out] at this
          exact this
        have hown : wy.drew.ownsRow (w.heap.size + 2) 5 1 u9 i (Lib.byteCells (xorL kb nb n s i)) := t2.ob
        have hvo := hown.lt
        have k1 : Hid (∀ (j : Nat) u, [Value.int .u8 (z : Int)][j]? = some u → (wy.drew.alloc (Obj.cells #[.int .u8 (z : Int)] 5)).cell? ((⟨wy.heap.size, 0, none⟩ : Addr).add j) = some u) := Lib.hid (by
          intro j u hj
          match j, hj with
          | 0, hj => simp at hj; subst hj; exact cell_new1 wy.drew _ _)
        have k2 : Hid (∀ u ∈ [Value.int .u8 (z : Int)], u.oneCell' = true) := Lib.hid (by intro u hu; simp at hu; subst hu; rfl)
        have k3 : Hid (i + 1 ≤ maxLen ∧ (i + 1) * 1 ≤ 140737488355328) := Lib.hid (by unfold maxLen; omega)
        have k4 : Hid (w.heap.size + 2 ≤ (wy.drew.alloc (Obj.cells #[.int .u8 (z : Int)] 5)).heap.size) := Lib.hid (by have := t2.hO; have := t2.bb.lt; simp; omega)
        have Hown := Lib.hid hown
        clear hown hvo
        go_wp2
        go_region_law (first
          | (refine step_append_own rfl (.tmp 29) (.tmp 41) 46 rfl (w.heap.size + 2) 5 i0 (.int .u8 0) 1 1 Try.underlying46 hi0 hz0 hz1 hz2 rfl (by decide) u9 i _ (by simp [Act.eval, Act.put]) (Hown.out.alloc _) ⟨wy.heap.size, 0, none⟩ 1 1 [.int .u8 (z : Int)] (by simp [Act.eval, Act.put]) rfl k1.out k2.out k3.out.1 k3.out.2 k4.out ?_; intro v' w5 hown' hgrow)
          | (go_simp; go_at_call 97; refine (hqx _).mono ?_; rintro e wq ⟨rfl, rfl⟩))
        all_goals
          have t5 : XR w.heap.size O kb nb (blkAt kb nb n (i + 1)) n s (i + 1) v' w w5 := by
            refine t2.appended hgrow ?_
            rw [← Hz.out]
            exact hown'
          go_wp2
          go_roundw
          case rel => exact ⟨i + 1, by omega, by go_num, by rw [Hm.out], t5⟩
          case measure => simp [intOf]; omega
    · have c0 : decide ((i : Int) < (s.size : Int)) = false := decide_eq_false (by omega)
      obtain rfl : i = s.size := by omega
      have hob := t1.ob
      have hll := xorL_length kb nb n s s.size
      obtain ⟨L, hL⟩ : ∃ L, xorL kb nb n s s.size = L := ⟨_, rfl⟩
      have hres : (⟨L.toArray⟩ : ByteArray) = xorV kb nb n s := by rw [← hL]; rfl
      rw [hL] at hob hll
      rw [← hll] at hob
      have hcv := conv_row hob
      rw [hres] at hcv
      clear hres hL
      go_wp2
      go_ret
      exact ⟨rfl, t1.below⟩
end Go.Proofs.Ytnjcganknpnjcaa
namespace Go.Proofs.Ytnjcganknpnjcaa
open Go.RowKit

set_option maxRecDepth 100000 in
set_option maxHeartbeats 4000000 in
theorem tag_any (kb : Nat → Nat) (head front : ByteArray) (w : World) (hh : head.size ≤ 100000) (hf : front.size ≤ 100000) :
    Calls Try.prog 73 #[.agg (arrA 32 (bytesV kb)), .string head, .string front] w fun e w' => e = .returned (.string (tagV kb head front)) ∧ Below w.heap.size w w' := by
  have hrs : (rowV [head, front]).size ≤ 900000 := by rw [rowV_size]; have := rowL_two head front; omega
  have hfin : tagV kb head front = txt 32 (keyedV (keyedV kb ⟨#[116, 97, 103]⟩) (rowV [head, front])) := rfl
  have hrow := fun (b : Nat) (W : World) (h : ∀ (j : Nat) s, [head, front][j]? = some s → W.cell? ⟨b, j, none⟩ = some (.string s)) (hb : b < W.heap.size) => nrow_any b [head, front] W h hb (by simp) (by intro s hs; simp at hs; rcases hs with rfl | rfl <;> omega)
  obtain ⟨r, hr⟩ : ∃ r, rowV [head, front] = r := ⟨_, rfl⟩
  have hown := fun W => own_any kb ⟨#[116, 97, 103]⟩ W (by decide)
  obtain ⟨k2, hk2⟩ : ∃ k2, keyedV kb ⟨#[116, 97, 103]⟩ = k2 := ⟨_, rfl⟩
  have hkey := fun (b : Nat) (W : World) (h : W.cell? ⟨b, 0, none⟩ = some (.string r)) => keyed_any k2 r b W h (by rw [← hr]; exact hrs)
  rw [hr, hk2] at hfin
  rw [hk2] at hown
  rw [hr] at hrow
  obtain ⟨d, hd⟩ : ∃ d, keyedV k2 r = d := ⟨_, rfl⟩
  rw [hd] at hfin hkey
  rw [hfin]
  clear hfin hd hr hk2 hrs
  go_enter Try.func73, Try.ntmps73
  have a0 : World.rowIs (w.alloc (Obj.cells (arrA 32 (bytesV kb)) 34)) w.heap.size 34 32 (bytesV kb) := row_of_heap (heap_new w _)
  have a2 : Below w.heap.size w (w.alloc (Obj.cells (arrA 32 (bytesV kb)) 34)) := (Below.refl _ w).alloc (Nat.le_refl _) _
  go_upto_region 1 with fail
  obtain ⟨W0, hW0⟩ : ∃ W0, w.alloc (Obj.cells (arrA 32 (bytesV kb)) 34) = W0 := ⟨_, rfl⟩
  rw [hW0] at a0 a2 ⊢
  clear hW0
  go_wp2_with (refine load_arr rfl 34 _ rfl 32 5 34 w.heap.size _ rfl a0 und34 siz34 ?_)
  refine (hown _).mono ?_
  rintro e w1 ⟨rfl, hb1⟩
  have c1 := a2.trans (hb1.mono a2.size)
  go_wp2_with fail
  have n1 := heap_new w1 (Obj.cells #[Value.string head, Value.string front] 9)
  have c2 := c1.alloc c1.size (Obj.cells #[Value.string head, Value.string front] 9)
  refine (hrow w1.heap.size _ (fun j s hj => by
    match j, hj with
    | 0, hj => simp at hj; subst hj; rw [cell_of_row _ _ 0 _ _ _ n1]; rfl
    | 1, hj => simp at hj; subst hj; rw [cell_of_row _ _ 1 _ _ _ n1]; rfl) (by simp)).mono ?_
  rintro e w2 ⟨rfl, hb2⟩
  have c3 := c2.trans (hb2.mono c2.size)
  go_wp2_with fail
  refine (hkey w2.heap.size _ (cell_new1 w2 _ _)).mono ?_
  rintro e w3 ⟨rfl, hb3⟩
  have c4 := (c3.alloc c3.size (Obj.cells #[Value.string r] 9)).trans (hb3.mono (c3.alloc c3.size _).size)
  have z : (w3.alloc (Obj.cells #[Value.int IntKind.u8 0, Value.int IntKind.u8 0, Value.int IntKind.u8 0, Value.int IntKind.u8 0, Value.int IntKind.u8 0, Value.int IntKind.u8 0, Value.int IntKind.u8 0, Value.int IntKind.u8 0, Value.int IntKind.u8 0, Value.int IntKind.u8 0, Value.int IntKind.u8 0, Value.int IntKind.u8 0, Value.int IntKind.u8 0, Value.int IntKind.u8 0, Value.int IntKind.u8 0, Value.int IntKind.u8 0, Value.int IntKind.u8 0, Value.int IntKind.u8 0, Value.int IntKind.u8 0, Value.int IntKind.u8 0, Value.int IntKind.u8 0, Value.int IntKind.u8 0, Value.int IntKind.u8 0, Value.int IntKind.u8 0, Value.int IntKind.u8 0, Value.int IntKind.u8 0, Value.int IntKind.u8 0, Value.int IntKind.u8 0, Value.int IntKind.u8 0, Value.int IntKind.u8 0, Value.int IntKind.u8 0, Value.int IntKind.u8 0] 57)).rowIs w3.heap.size 57 32 (fun _ => .int .u8 0) := row_of_heap (heap_new w3 _)
  have z2 := rowIs_setRow z (bytesV d)
  have c5 := below_setRow (c4.alloc c4.size (Obj.cells #[Value.int IntKind.u8 0, Value.int IntKind.u8 0, Value.int IntKind.u8 0, Value.int IntKind.u8 0, Value.int IntKind.u8 0, Value.int IntKind.u8 0, Value.int IntKind.u8 0, Value.int IntKind.u8 0, Value.int IntKind.u8 0, Value.int IntKind.u8 0, Value.int IntKind.u8 0, Value.int IntKind.u8 0, Value.int IntKind.u8 0, Value.int IntKind.u8 0, Value.int IntKind.u8 0, Value.int IntKind.u8 0, Value.int IntKind.u8 0, Value.int IntKind.u8 0, Value.int IntKind.u8 0, Value.int IntKind.u8 0, Value.int IntKind.u8 0, Value.int IntKind.u8 0, Value.int IntKind.u8 0, Value.int IntKind.u8 0, Value.int IntKind.u8 0, Value.int IntKind.u8 0, Value.int IntKind.u8 0, Value.int IntKind.u8 0, Value.int IntKind.u8 0, Value.int IntKind.u8 0, Value.int IntKind.u8 0, Value.int IntKind.u8 0] 57)) c4.size (arrA 32 (bytesV d))
  have hcv := conv_arr z2
  go_wp2_with (refine store_arr rfl 57 _ _ rfl 32 57 w3.heap.size _ (bytesV d) rfl rfl z siz57 (fun _ => rfl) ?_)
  go_ret
  exact ⟨rfl, c5⟩

set_option maxRecDepth 100000 in
set_option maxHeartbeats 4000000 in
theorem rtag_any (kb : Nat → Nat) (head front : ByteArray) (w : World) (hh : head.size ≤ 100000) (hf : front.size ≤ 100000) :
    Calls Try.prog 76 #[.agg (arrA 32 (bytesV kb)), .string head, .string front] w fun e w' => e = .returned (.string (tagV kb head front)) ∧ Below w.heap.size w w' := by
  have hrs : (rowV [head, front]).size ≤ 900000 := by rw [rowV_size]; have := rowL_two head front; omega
  have hfin : tagV kb head front = txt 32 (keyedV (keyedV kb ⟨#[116, 97, 103]⟩) (rowV [head, front])) := rfl
  have hrow := fun (b : Nat) (W : World) (h : ∀ (j : Nat) s, [head, front][j]? = some s → W.cell? ⟨b, j, none⟩ = some (.string s)) (hb : b < W.heap.size) => rrow_any b [head, front] W h hb (by simp) (by intro s hs; simp at hs; rcases hs with rfl | rfl <;> omega)
  obtain ⟨r, hr⟩ : ∃ r, rowV [head, front] = r := ⟨_, rfl⟩
  have hown := fun W => rof_any kb ⟨#[116, 97, 103]⟩ W (by decide)
  obtain ⟨k2, hk2⟩ : ∃ k2, keyedV kb ⟨#[116, 97, 103]⟩ = k2 := ⟨_, rfl⟩
  have hkey := fun (b : Nat) (W : World) (h : W.cell? ⟨b, 0, none⟩ = some (.string r)) => rkeyed_any k2 r b W h (by rw [← hr]; exact hrs)
  rw [hr, hk2] at hfin
  rw [hk2] at hown
  rw [hr] at hrow
  obtain ⟨d, hd⟩ : ∃ d, keyedV k2 r = d := ⟨_, rfl⟩
  rw [hd] at hfin hkey
  rw [hfin]
  clear hfin hd hr hk2 hrs
  go_enter Try.func76, Try.ntmps76
  have a0 : World.rowIs (w.alloc (Obj.cells (arrA 32 (bytesV kb)) 34)) w.heap.size 34 32 (bytesV kb) := row_of_heap (heap_new w _)
  have a2 : Below w.heap.size w (w.alloc (Obj.cells (arrA 32 (bytesV kb)) 34)) := (Below.refl _ w).alloc (Nat.le_refl _) _
  go_upto_region 1 with fail
  obtain ⟨W0, hW0⟩ : ∃ W0, w.alloc (Obj.cells (arrA 32 (bytesV kb)) 34) = W0 := ⟨_, rfl⟩
  rw [hW0] at a0 a2 ⊢
  clear hW0
  go_wp2_with (refine load_arr rfl 34 _ rfl 32 5 34 w.heap.size _ rfl a0 und34 siz34 ?_)
  refine (hown _).mono ?_
  rintro e w1 ⟨rfl, hb1⟩
  have c1 := a2.trans (hb1.mono a2.size)
  go_wp2_with fail
  have n1 := heap_new w1 (Obj.cells #[Value.string head, Value.string front] 9)
  have c2 := c1.alloc c1.size (Obj.cells #[Value.string head, Value.string front] 9)
  refine (hrow w1.heap.size _ (fun j s hj => by
    match j, hj with
    | 0, hj => simp at hj; subst hj; rw [cell_of_row _ _ 0 _ _ _ n1]; rfl
    | 1, hj => simp at hj; subst hj; rw [cell_of_row _ _ 1 _ _ _ n1]; rfl) (by simp)).mono ?_
  rintro e w2 ⟨rfl, hb2⟩
  have c3 := c2.trans (hb2.mono c2.size)
  go_wp2_with fail
  refine (hkey w2.heap.size _ (cell_new1 w2 _ _)).mono ?_
  rintro e w3 ⟨rfl, hb3⟩
  have c4 := (c3.alloc c3.size (Obj.cells #[Value.string r] 9)).trans (hb3.mono (c3.alloc c3.size _).size)
  have z : (w3.alloc (Obj.cells #[Value.int IntKind.u8 0, Value.int IntKind.u8 0, Value.int IntKind.u8 0, Value.int IntKind.u8 0, Value.int IntKind.u8 0, Value.int IntKind.u8 0, Value.int IntKind.u8 0, Value.int IntKind.u8 0, Value.int IntKind.u8 0, Value.int IntKind.u8 0, Value.int IntKind.u8 0, Value.int IntKind.u8 0, Value.int IntKind.u8 0, Value.int IntKind.u8 0, Value.int IntKind.u8 0, Value.int IntKind.u8 0, Value.int IntKind.u8 0, Value.int IntKind.u8 0, Value.int IntKind.u8 0, Value.int IntKind.u8 0, Value.int IntKind.u8 0, Value.int IntKind.u8 0, Value.int IntKind.u8 0, Value.int IntKind.u8 0, Value.int IntKind.u8 0, Value.int IntKind.u8 0, Value.int IntKind.u8 0, Value.int IntKind.u8 0, Value.int IntKind.u8 0, Value.int IntKind.u8 0, Value.int IntKind.u8 0, Value.int IntKind.u8 0] 57)).rowIs w3.heap.size 57 32 (fun _ => .int .u8 0) := row_of_heap (heap_new w3 _)
  have z2 := rowIs_setRow z (bytesV d)
  have c5 := below_setRow (c4.alloc c4.size (Obj.cells #[Value.int IntKind.u8 0, Value.int IntKind.u8 0, Value.int IntKind.u8 0, Value.int IntKind.u8 0, Value.int IntKind.u8 0, Value.int IntKind.u8 0, Value.int IntKind.u8 0, Value.int IntKind.u8 0, Value.int IntKind.u8 0, Value.int IntKind.u8 0, Value.int IntKind.u8 0, Value.int IntKind.u8 0, Value.int IntKind.u8 0, Value.int IntKind.u8 0, Value.int IntKind.u8 0, Value.int IntKind.u8 0, Value.int IntKind.u8 0, Value.int IntKind.u8 0, Value.int IntKind.u8 0, Value.int IntKind.u8 0, Value.int IntKind.u8 0, Value.int IntKind.u8 0, Value.int IntKind.u8 0, Value.int IntKind.u8 0, Value.int IntKind.u8 0, Value.int IntKind.u8 0, Value.int IntKind.u8 0, Value.int IntKind.u8 0, Value.int IntKind.u8 0, Value.int IntKind.u8 0, Value.int IntKind.u8 0, Value.int IntKind.u8 0] 57)) c4.size (arrA 32 (bytesV d))
  have hcv := conv_arr z2
  go_wp2_with (refine store_arr rfl 57 _ _ rfl 32 57 w3.heap.size _ (bytesV d) rfl rfl z siz57 (fun _ => rfl) ?_)
  go_ret
  exact ⟨rfl, c5⟩

end Go.Proofs.Ytnjcganknpnjcaa
namespace Go.Proofs.Ytnjcganknpnjcaa
open Go.RowKit
structure SQ (B : Nat) (kb nb : Nat → Nat) (w wx : World) : Prop where
  kr : wx.rowIs B 34 32 (bytesV kb)
  nr : wx.rowIs (B + 1) 49 12 (bytesV nb)
  below : Below B w wx
theorem SQ.past {B : Nat} {kb nb : Nat → Nat} {w wx wy : World} (t : SQ B kb nb w wx) (hb : Below wx.heap.size wx wy) : SQ B kb nb w wy :=
  ⟨t.kr.of_block (hb.block _ t.kr.lt), t.nr.of_block (hb.block _ t.nr.lt), t.below.trans (hb.mono (Nat.le_of_lt t.kr.lt))⟩
theorem range_row {w : World} {b T n : Nat} {f : Nat → Value} (h : w.rowIs b T n f) : w.rangeAt b 0 (List.map f (List.range n)) := by
  intro j v hj
  rw [Nat.zero_add]
  have hj' : j < n := by
    have := (List.getElem?_eq_some_iff.1 hj).1
    simpa using this
  rw [h.cell hj']
  simpa [hj'] using hj
theorem SQ.held {B : Nat} {kb nb : Nat → Nat} {w wx : World} (t : SQ B kb nb w wx) {tn : ByteArray} (e : Hid (txt 12 nb = tn)) :
    wx.rangeAt B 0 (List.map (bytesV kb) (List.range 32)) ∧ wx.rangeAt (B + 1) 0 (List.map (bytesV nb) (List.range 12)) ∧ (convert 46 9 (.slice (some ⟨B + 1, 0, none⟩) 12 12)).run Try.prog wx = .ok (.string tn) wx :=
  ⟨range_row t.kr, range_row t.nr, e.out ▸ conv_arr t.nr⟩

set_option maxRecDepth 100000 in
set_option maxHeartbeats 4000000 in
theorem seal_any (kb nb : Nat → Nat) (head data : ByteArray) (w : World) (hk : Bytes kb) (hn : Bytes nb) (hh : head.size ≤ 90000) (hd : data.size ≤ 90000) :
    Calls Try.prog 38 #[.agg (arrA 32 (bytesV kb)), .agg (arrA 12 (bytesV nb)), .string head, .string data] w fun e w' => e = .returned (.string (sealV kb nb head data)) ∧ Below w.heap.size w w' := by
  have hfin : sealV kb nb head data = (txt 12 nb ++ xorV (keyedV kb ⟨#[99, 105, 112, 104, 101, 114]⟩) nb 1 data) ++ tagV kb head (txt 12 nb ++ xorV (keyedV kb ⟨#[99, 105, 112, 104, 101, 114]⟩) nb 1 data) := rfl
  have hown := fun W => own_any kb ⟨#[99, 105, 112, 104, 101, 114]⟩ W (by decide)
  have hk2b := keyedV_bytes kb ⟨#[99, 105, 112, 104, 101, 114]⟩
  obtain ⟨k2, hk2⟩ : ∃ k2, keyedV kb ⟨#[99, 105, 112, 104, 101, 114]⟩ = k2 := ⟨_, rfl⟩
  rw [hk2] at hown hfin hk2b
  have hxor := fun W => xor_any k2 nb 1 data W hk2b hn (by omega) (by omega)
  have hxs := xorV_size k2 nb 1 data
  obtain ⟨x, hx⟩ : ∃ x, xorV k2 nb 1 data = x := ⟨_, rfl⟩
  rw [hx] at hxor hfin hxs
  have hns := txt_size 12 nb
  obtain ⟨tn, htn⟩ : ∃ tn, txt 12 nb = tn := ⟨_, rfl⟩
  rw [htn] at hfin hns
  have hfs : (tn ++ x).size ≤ 100000 := by rw [ByteArray.size_append]; omega
  have htag := fun W => tag_any kb head (tn ++ x) W (by omega) hfs
  have hts := tagV_size kb head (tn ++ x)
  have hcat1 : ¬ 9223372036854775807 < tn.size + x.size := by omega
  obtain ⟨f, hf⟩ : ∃ f, tn ++ x = f := ⟨_, rfl⟩
  rw [hf] at hfin hfs htag hts
  obtain ⟨t, ht⟩ : ∃ t, tagV kb head f = t := ⟨_, rfl⟩
  rw [ht] at hfin htag hts
  have hcat2 : ¬ 9223372036854775807 < f.size + t.size := by omega
  rw [hfin]
  have Htn := Lib.hid htn
  have hs1 : (Try.prog.info? 34).map (·.size) = some (List.map (bytesV kb) (List.range 32)).length := by rw [siz34]; simp
  have hs2 : (Try.prog.info? 49).map (·.size) = some (List.map (bytesV nb) (List.range 12)).length := by rw [siz49]; simp
  clear hfin ht htn hx hk2 hxs hns hts hfs
  go_enter Try.func38, Try.ntmps38
  have a0 : World.rowIs ((w.alloc (Obj.cells (arrA 32 (bytesV kb)) 34)).alloc (Obj.cells (arrA 12 (bytesV nb)) 49)) w.heap.size 34 32 (bytesV kb) := (row_of_heap (heap_new w _)).alloc _
  have a1 : World.rowIs ((w.alloc (Obj.cells (arrA 32 (bytesV kb)) 34)).alloc (Obj.cells (arrA 12 (bytesV nb)) 49)) (w.heap.size + 1) 49 12 (bytesV nb) := by
    have := heap_new (w.alloc (Obj.cells (arrA 32 (bytesV kb)) 34)) (Obj.cells (arrA 12 (bytesV nb)) 49)
    rw [World.size_alloc] at this
    exact row_of_heap this
  have a2 : Below w.heap.size w ((w.alloc (Obj.cells (arrA 32 (bytesV kb)) 34)).alloc (Obj.cells (arrA 12 (bytesV nb)) 49)) := ((Below.refl _ w).alloc (Nat.le_refl _) _).alloc (by simp) _
  go_upto_region 1 with fail
  obtain ⟨W0, hW0⟩ : ∃ W0, ((w.alloc (Obj.cells (arrA 32 (bytesV kb)) 34)).alloc (Obj.cells (arrA 12 (bytesV nb)) 49)) = W0 := ⟨_, rfl⟩
  rw [hW0] at a0 a1 a2 ⊢
  clear hW0
  obtain ⟨B, hB⟩ : ∃ B, w.heap.size = B := ⟨_, rfl⟩
  rw [hB] at a0 a1 a2 ⊢
  go_cut [9] (fun v wx => v = .string f ∧ SQ B kb nb w wx)
  case first =>
    have t1 : SQ B kb nb w W0.drew := ⟨a0, a1, a2.drew⟩
    clear a0 a1 a2
    refine wp_region_held_drew (S := fun w' => SQ B kb nb w w') (by kernel_rfl) t1 (fun hH => ?_)
    clear t1
    refine wpAnyH_take (i := 0) (v := .slice (some ⟨B + 1, 0, none⟩) 12 12) rfl (by kernel_rfl) (by kernel_rfl) (by kernel_rfl) (fun _ _ _ h => h) (Or.inl ⟨by rfl, fun w' hw' => by go_simp⟩) hH ?_
    try simp only [Act.put, List.setIfInBounds_toArray, List.set_cons_zero, List.set_cons_succ, List.getElem_toArray, List.getElem_cons_zero, List.getElem_cons_succ]
    refine wpAnyH_take (i := 1) (v := .string tn) rfl (by kernel_rfl) (by kernel_rfl) (by kernel_rfl) (fun _ _ _ h => h) (Or.inl ⟨by rfl, fun w' hw' => by have hcv := (hw'.held Htn).2.2; go_simp⟩) hH ?_
    try simp only [Act.put, List.setIfInBounds_toArray, List.set_cons_zero, List.set_cons_succ, List.getElem_toArray, List.getElem_cons_zero, List.getElem_cons_succ]
    refine wpAnyH_take (i := 2) rfl (by kernel_rfl) (by kernel_rfl) (by kernel_rfl) (fun _ _ _ h => h) (yieldsIf_load_mid (by rfl) 34 (.tmp 4) rfl B 0 rfl (List.map (bytesV kb) (List.range 32)) _ (fun w' hw' => (hw'.held Htn).1) und34 rfl hs1) hH ?_
    try simp only [Act.put, List.setIfInBounds_toArray, List.set_cons_zero, List.set_cons_succ, List.getElem_toArray, List.getElem_cons_zero, List.getElem_cons_succ]
    refine wpAnyH_take (i := 4) rfl (by kernel_rfl) (by kernel_rfl) (by kernel_rfl) (fun _ _ _ h => h) (yieldsIf_load_mid (by rfl) 49 (.tmp 5) rfl (B + 1) 0 rfl (List.map (bytesV nb) (List.range 12)) _ (fun w' hw' => (hw'.held Htn).2.1) und49 rfl hs2) hH ?_
    try simp only [Act.put, List.setIfInBounds_toArray, List.set_cons_zero, List.set_cons_succ, List.getElem_toArray, List.getElem_cons_zero, List.getElem_cons_succ]
    refine wpAnyH_take (i := 5) (v := .string data) rfl (by kernel_rfl) (by kernel_rfl) (by kernel_rfl) (fun _ _ _ h => h) (Or.inl ⟨by rfl, fun w' hw' => by go_simp⟩) hH ?_
    try simp only [Act.put, List.setIfInBounds_toArray, List.set_cons_zero, List.set_cons_succ, List.getElem_toArray, List.getElem_cons_zero, List.getElem_cons_succ]
    refine wpAnyH_ready (rs := [3]) (by kernel_rfl) (by simp) ?_
    refine AllReadyH.cons rfl (fun K hK => ?_) AllReadyH.nil
    go_simp
    go_at_call 72
    refine (hown _).mono ?_
    rintro e wy ⟨rfl, hbwy⟩
    refine hK.out _ _ (hH.past hbwy) (fun hy => ?_)
    clear hK K
    try simp only [Act.put, List.setIfInBounds_toArray, List.set_cons_zero, List.set_cons_succ, List.getElem_toArray, List.getElem_cons_zero, List.getElem_cons_succ]
    refine wpAnyH_ready (rs := [6]) (by kernel_rfl) (by simp) ?_
    refine AllReadyH.cons rfl (fun K hK => ?_) AllReadyH.nil
    go_simp
    go_at_call 71
    refine (hxor _).mono ?_
    rintro e wz ⟨rfl, hbwz⟩
    refine hK.out _ _ (hy.past hbwz) (fun hz => ?_)
    clear hK K
    try simp only [Act.put, List.setIfInBounds_toArray, List.set_cons_zero, List.set_cons_succ, List.getElem_toArray, List.getElem_cons_zero, List.getElem_cons_succ]
    refine wpAnyH_take (i := 7) (v := .string f) rfl (by kernel_rfl) (by kernel_rfl) (by kernel_rfl) (fun _ _ _ h => h) (Or.inl ⟨by rfl, fun w' hw' => by go_simp⟩) hz ?_
    try simp only [Act.put, List.setIfInBounds_toArray, List.set_cons_zero, List.set_cons_succ, List.getElem_toArray, List.getElem_cons_zero, List.getElem_cons_succ]
    refine wpAnyH_take (i := 8) (v := .string f) rfl (by kernel_rfl) (by kernel_rfl) (by kernel_rfl) (fun _ _ _ h => h) (Or.inl ⟨by rfl, fun w' hw' => by go_simp⟩) hz ?_
    try simp only [Act.put, List.setIfInBounds_toArray, List.set_cons_zero, List.set_cons_succ, List.getElem_toArray, List.getElem_cons_zero, List.getElem_cons_succ]
    refine wpAnyH_done (by kernel_rfl) ?_ _
    go_wp2
    go_meet
    exact ⟨rfl, hz⟩
  case rest =>
    obtain ⟨rfl, t2⟩ := hcut
    clear a0 a1 a2
    go_wp2_with (refine load_arr rfl 34 _ rfl 32 5 34 B _ rfl t2.kr und34 siz34 ?_)
    refine (htag _).mono ?_
    rintro e w3 ⟨rfl, hb3⟩
    have t3 := t2.past hb3
    go_wp2
    go_ret
    exact ⟨rfl, hB ▸ t3.below⟩

set_option maxRecDepth 100000 in
set_option maxHeartbeats 4000000 in
theorem rseal_any (kb nb : Nat → Nat) (head data : ByteArray) (w : World) (hk : Bytes kb) (hn : Bytes nb) (hh : head.size ≤ 90000) (hd : data.size ≤ 90000) :
    Calls Try.prog 40 #[.agg (arrA 32 (bytesV kb)), .agg (arrA 12 (bytesV nb)), .string head, .string data] w fun e w' => e = .returned (.string (sealV kb nb head data)) ∧ Below w.heap.size w w' := by
  have hfin : sealV kb nb head data = (txt 12 nb ++ xorV (keyedV kb ⟨#[99, 105, 112, 104, 101, 114]⟩) nb 1 data) ++ tagV kb head (txt 12 nb ++ xorV (keyedV kb ⟨#[99, 105, 112, 104, 101, 114]⟩) nb 1 data) := rfl
  have hown := fun W => rof_any kb ⟨#[99, 105, 112, 104, 101, 114]⟩ W (by decide)
  have hk2b := keyedV_bytes kb ⟨#[99, 105, 112, 104, 101, 114]⟩
  obtain ⟨k2, hk2⟩ : ∃ k2, keyedV kb ⟨#[99, 105, 112, 104, 101, 114]⟩ = k2 := ⟨_, rfl⟩
  rw [hk2] at hown hfin hk2b
  have hxor := fun W => rxor_any k2 nb 1 data W hk2b hn (by omega) (by omega)
  have hxs := xorV_size k2 nb 1 data
  obtain ⟨x, hx⟩ : ∃ x, xorV k2 nb 1 data = x := ⟨_, rfl⟩
  rw [hx] at hxor hfin hxs
  have hns := txt_size 12 nb
  obtain ⟨tn, htn⟩ : ∃ tn, txt 12 nb = tn := ⟨_, rfl⟩
  rw [htn] at hfin hns
  have hfs : (tn ++ x).size ≤ 100000 := by rw [ByteArray.size_append]; omega
  have htag := fun W => rtag_any kb head (tn ++ x) W (by omega) hfs
  have hts := tagV_size kb head (tn ++ x)
  have hcat1 : ¬ 9223372036854775807 < tn.size + x.size := by omega
  obtain ⟨f, hf⟩ : ∃ f, tn ++ x = f := ⟨_, rfl⟩
  rw [hf] at hfin hfs htag hts
  obtain ⟨t, ht⟩ : ∃ t, tagV kb head f = t := ⟨_, rfl⟩
  rw [ht] at hfin htag hts
  have hcat2 : ¬ 9223372036854775807 < f.size + t.size := by omega
  rw [hfin]
  have Htn := Lib.hid htn
  have hs1 : (Try.prog.info? 34).map (·.size) = some (List.map (bytesV kb) (List.range 32)).length := by rw [siz34]; simp
  have hs2 : (Try.prog.info? 49).map (·.size) = some (List.map (bytesV nb) (List.range 12)).length := by rw [siz49]; simp
  clear hfin ht htn hx hk2 hxs hns hts hfs
  go_enter Try.func40, Try.ntmps40
  have a0 : World.rowIs ((w.alloc (Obj.cells (arrA 32 (bytesV kb)) 34)).alloc (Obj.cells (arrA 12 (bytesV nb)) 49)) w.heap.size 34 32 (bytesV kb) := (row_of_heap (heap_new w _)).alloc _
  have a1 : World.rowIs ((w.alloc (Obj.cells (arrA 32 (bytesV kb)) 34)).alloc (Obj.cells (arrA 12 (bytesV nb)) 49)) (w.heap.size + 1) 49 12 (bytesV nb) := by
    have := heap_new (w.alloc (Obj.cells (arrA 32 (bytesV kb)) 34)) (Obj.cells (arrA 12 (bytesV nb)) 49)
    rw [World.size_alloc] at this
    exact row_of_heap this
  have a2 : Below w.heap.size w ((w.alloc (Obj.cells (arrA 32 (bytesV kb)) 34)).alloc (Obj.cells (arrA 12 (bytesV nb)) 49)) := ((Below.refl _ w).alloc (Nat.le_refl _) _).alloc (by simp) _
  go_upto_region 1 with fail
  obtain ⟨W0, hW0⟩ : ∃ W0, ((w.alloc (Obj.cells (arrA 32 (bytesV kb)) 34)).alloc (Obj.cells (arrA 12 (bytesV nb)) 49)) = W0 := ⟨_, rfl⟩
  rw [hW0] at a0 a1 a2 ⊢
  clear hW0
  obtain ⟨B, hB⟩ : ∃ B, w.heap.size = B := ⟨_, rfl⟩
  rw [hB] at a0 a1 a2 ⊢
  go_cut [9] (fun v wx => v = .string f ∧ SQ B kb nb w wx)
  case first =>
    have t1 : SQ B kb nb w W0.drew := ⟨a0, a1, a2.drew⟩
    clear a0 a1 a2
    refine wp_region_held_drew (S := fun w' => SQ B kb nb w w') (by kernel_rfl) t1 (fun hH => ?_)
    clear t1
    refine wpAnyH_take (i := 0) (v := .slice (some ⟨B + 1, 0, none⟩) 12 12) rfl (by kernel_rfl) (by kernel_rfl) (by kernel_rfl) (fun _ _ _ h => h) (Or.inl ⟨by rfl, fun w' hw' => by go_simp⟩) hH ?_
    try simp only [Act.put, List.setIfInBounds_toArray, List.set_cons_zero, List.set_cons_succ, List.getElem_toArray, List.getElem_cons_zero, List.getElem_cons_succ]
    refine wpAnyH_take (i := 1) (v := .string tn) rfl (by kernel_rfl) (by kernel_rfl) (by kernel_rfl) (fun _ _ _ h => h) (Or.inl ⟨by rfl, fun w' hw' => by have hcv := (hw'.held Htn).2.2; go_simp⟩) hH ?_
    try simp only [Act.put, List.setIfInBounds_toArray, List.set_cons_zero, List.set_cons_succ, List.getElem_toArray, List.getElem_cons_zero, List.getElem_cons_succ]
    refine wpAnyH_take (i := 2) rfl (by kernel_rfl) (by kernel_rfl) (by kernel_rfl) (fun _ _ _ h => h) (yieldsIf_load_mid (by rfl) 34 (.tmp 4) rfl B 0 rfl (List.map (bytesV kb) (List.range 32)) _ (fun w' hw' => (hw'.held Htn).1) und34 rfl hs1) hH ?_
    try simp only [Act.put, List.setIfInBounds_toArray, List.set_cons_zero, List.set_cons_succ, List.getElem_toArray, List.getElem_cons_zero, List.getElem_cons_succ]
    refine wpAnyH_take (i := 4) rfl (by kernel_rfl) (by kernel_rfl) (by kernel_rfl) (fun _ _ _ h => h) (yieldsIf_load_mid (by rfl) 49 (.tmp 5) rfl (B + 1) 0 rfl (List.map (bytesV nb) (List.range 12)) _ (fun w' hw' => (hw'.held Htn).2.1) und49 rfl hs2) hH ?_
    try simp only [Act.put, List.setIfInBounds_toArray, List.set_cons_zero, List.set_cons_succ, List.getElem_toArray, List.getElem_cons_zero, List.getElem_cons_succ]
    refine wpAnyH_take (i := 5) (v := .string data) rfl (by kernel_rfl) (by kernel_rfl) (by kernel_rfl) (fun _ _ _ h => h) (Or.inl ⟨by rfl, fun w' hw' => by go_simp⟩) hH ?_
    try simp only [Act.put, List.setIfInBounds_toArray, List.set_cons_zero, List.set_cons_succ, List.getElem_toArray, List.getElem_cons_zero, List.getElem_cons_succ]
    refine wpAnyH_ready (rs := [3]) (by kernel_rfl) (by simp) ?_
    refine AllReadyH.cons rfl (fun K hK => ?_) AllReadyH.nil
    go_simp
    go_at_call 75
    refine (hown _).mono ?_
    rintro e wy ⟨rfl, hbwy⟩
    refine hK.out _ _ (hH.past hbwy) (fun hy => ?_)
    clear hK K
    try simp only [Act.put, List.setIfInBounds_toArray, List.set_cons_zero, List.set_cons_succ, List.getElem_toArray, List.getElem_cons_zero, List.getElem_cons_succ]
    refine wpAnyH_ready (rs := [6]) (by kernel_rfl) (by simp) ?_
    refine AllReadyH.cons rfl (fun K hK => ?_) AllReadyH.nil
    go_simp
    go_at_call 74
    refine (hxor _).mono ?_
    rintro e wz ⟨rfl, hbwz⟩
    refine hK.out _ _ (hy.past hbwz) (fun hz => ?_)
    clear hK K
    try simp only [Act.put, List.setIfInBounds_toArray, List.set_cons_zero, List.set_cons_succ, List.getElem_toArray, List.getElem_cons_zero, List.getElem_cons_succ]
    refine wpAnyH_take (i := 7) (v := .string f) rfl (by kernel_rfl) (by kernel_rfl) (by kernel_rfl) (fun _ _ _ h => h) (Or.inl ⟨by rfl, fun w' hw' => by go_simp⟩) hz ?_
    try simp only [Act.put, List.setIfInBounds_toArray, List.set_cons_zero, List.set_cons_succ, List.getElem_toArray, List.getElem_cons_zero, List.getElem_cons_succ]
    refine wpAnyH_take (i := 8) (v := .string f) rfl (by kernel_rfl) (by kernel_rfl) (by kernel_rfl) (fun _ _ _ h => h) (Or.inl ⟨by rfl, fun w' hw' => by go_simp⟩) hz ?_
    try simp only [Act.put, List.setIfInBounds_toArray, List.set_cons_zero, List.set_cons_succ, List.getElem_toArray, List.getElem_cons_zero, List.getElem_cons_succ]
    refine wpAnyH_done (by kernel_rfl) ?_ _
    go_wp2
    go_meet
    exact ⟨rfl, hz⟩
  case rest =>
    obtain ⟨rfl, t2⟩ := hcut
    clear a0 a1 a2
    go_wp2_with (refine load_arr rfl 34 _ rfl 32 5 34 B _ rfl t2.kr und34 siz34 ?_)
    refine (htag _).mono ?_
    rintro e w3 ⟨rfl, hb3⟩
    have t3 := t2.past hb3
    go_wp2
    go_ret
    exact ⟨rfl, hB ▸ t3.below⟩

end Go.Proofs.Ytnjcganknpnjcaa
