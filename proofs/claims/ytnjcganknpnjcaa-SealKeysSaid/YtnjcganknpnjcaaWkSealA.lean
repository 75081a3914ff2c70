/- The walks of SealBoxes and SealOpens; the document's example. -/
import Derived.Test.YtnjcganknpnjcaaSlV
namespace Go.Proofs.Ytnjcganknpnjcaa
open Go.RowKit

def k1B : Nat → Nat := fun i => if i = 0 then 1 else 0
theorem k1B_bytes : Bytes k1B := fun i => by unfold k1B; split <;> omega
theorem k1B_arr : arrA 32 (bytesV k1B) = #[Value.int IntKind.u8 1, Value.int IntKind.u8 0, Value.int IntKind.u8 0, Value.int IntKind.u8 0, Value.int IntKind.u8 0, Value.int IntKind.u8 0, Value.int IntKind.u8 0, Value.int IntKind.u8 0, Value.int IntKind.u8 0, Value.int IntKind.u8 0, Value.int IntKind.u8 0, Value.int IntKind.u8 0, Value.int IntKind.u8 0, Value.int IntKind.u8 0, Value.int IntKind.u8 0, Value.int IntKind.u8 0, Value.int IntKind.u8 0, Value.int IntKind.u8 0, Value.int IntKind.u8 0, Value.int IntKind.u8 0, Value.int IntKind.u8 0, Value.int IntKind.u8 0, Value.int IntKind.u8 0, Value.int IntKind.u8 0, Value.int IntKind.u8 0, Value.int IntKind.u8 0, Value.int IntKind.u8 0, Value.int IntKind.u8 0, Value.int IntKind.u8 0, Value.int IntKind.u8 0, Value.int IntKind.u8 0, Value.int IntKind.u8 0] := rfl
theorem z12_arr : arrA 12 (bytesV (fun _ => 0)) = #[Value.int IntKind.u8 0, Value.int IntKind.u8 0, Value.int IntKind.u8 0, Value.int IntKind.u8 0, Value.int IntKind.u8 0, Value.int IntKind.u8 0, Value.int IntKind.u8 0, Value.int IntKind.u8 0, Value.int IntKind.u8 0, Value.int IntKind.u8 0, Value.int IntKind.u8 0, Value.int IntKind.u8 0] := rfl

set_option maxRecDepth 100000 in
set_option maxHeartbeats 2000000 in
theorem awakeS_any (w : World) : Calls Try.prog 37 #[] w fun e w' => e = .returned (.bool true) ∧ Below w.heap.size w w' := by
  have hos := open_seal k1B (fun _ => 0) ⟨#[104]⟩ ⟨#[]⟩ (fun _ => by show 0 < 256; omega)
  have hbs := sealV_size k1B (fun _ => 0) ⟨#[104]⟩ ⟨#[]⟩
  have c1 := fun W => seal_any k1B (fun _ => 0) ⟨#[104]⟩ ⟨#[]⟩ W k1B_bytes (fun _ => by show 0 < 256; omega) (by decide) (by decide)
  obtain ⟨b, hb⟩ : ∃ b, sealV k1B (fun _ => 0) ⟨#[104]⟩ ⟨#[]⟩ = b := ⟨_, rfl⟩
  have hz : (⟨#[]⟩ : ByteArray).size = 0 := rfl
  rw [hb] at hos hbs c1
  rw [hz] at hbs
  have c2 := fun W => open_any k1B ⟨#[104]⟩ b W k1B_bytes (by decide) (by omega)
  rw [hos] at c2
  rw [k1B_arr, z12_arr] at c1
  rw [k1B_arr] at c2
  have e1 : (b.size : Int) = 44 := by omega
  clear hos hb hz
  go_enter Try.func37, Try.ntmps37
  go_wp2_with fail
  refine (c1 _).mono ?_
  rintro e w1 ⟨rfl, hb1⟩
  go_wp2_with fail
  refine (c2 _).mono ?_
  rintro e w2 ⟨rfl, hb2⟩
  have hb3 := hb1.trans (hb2.mono hb1.size)
  go_wp2
  go_ret
  exact ⟨rfl, hb3⟩

set_option maxRecDepth 100000 in
set_option maxHeartbeats 4000000 in
theorem SealBoxes_walk (kb : Nat → Nat) (hk : Bytes kb) (nb : Nat → Nat) (hn : Bytes nb) (head : ByteArray) (_ : head.size ≤ maxLen) (data : ByteArray) (_ : data.size ≤ maxLen) (w : World) :
    Calls Try.prog 11 #[.agg (arrA 32 (bytesV kb)), .agg (arrA 12 (bytesV nb)), .string head, .string data] w fun e w' => e = .returned (.bool true) ∧ Below w.heap.size w w' := by
  by_cases h1 : head.size ≤ 300
  · have t0 : decide ((300 : Int) < (head.size : Int)) = false := decide_eq_false (by omega)
    by_cases h2 : data.size ≤ 300
    · have t1 : decide ((300 : Int) < (data.size : Int)) = false := decide_eq_false (by omega)
      have hos := open_seal kb nb head data hn
      have hbs := sealV_size kb nb head data
      have c1 := fun W => seal_any kb nb head data W hk hn (by omega) (by omega)
      have c3 := fun W => rseal_any kb nb head data W hk hn (by omega) (by omega)
      obtain ⟨b, hb⟩ : ∃ b, sealV kb nb head data = b := ⟨_, rfl⟩
      have c2 := fun W => open_any kb head b W hk (by omega) (by rw [← hb, hbs]; omega)
      rw [hb] at hos hbs c1 c3
      rw [hos] at c2
      have e1 : (b.size : Int) = (data.size : Int) + 44 := by omega
      have e2 : wrap64 ((data.size : Int) + 44) = (data.size : Int) + 44 := by unfold wrap64; omega
      have hbl : b.size ≤ 1000 := by omega
      clear hos hbs hb
      go_enter Try.func11, Try.ntmps11
      have a0 : World.rowIs ((w.alloc (Obj.cells (arrA 32 (bytesV kb)) 34)).alloc (Obj.cells (arrA 12 (bytesV nb)) 49)) w.heap.size 34 32 (bytesV kb) := (row_of_heap (heap_new w _)).alloc _
      have a1 : World.rowIs ((w.alloc (Obj.cells (arrA 32 (bytesV kb)) 34)).alloc (Obj.cells (arrA 12 (bytesV nb)) 49)) (w.heap.size + 1) 49 12 (bytesV nb) := by
        have := heap_new (w.alloc (Obj.cells (arrA 32 (bytesV kb)) 34)) (Obj.cells (arrA 12 (bytesV nb)) 49)
        rw [World.size_alloc] at this
        exact row_of_heap this
      have a2 : Below w.heap.size w ((w.alloc (Obj.cells (arrA 32 (bytesV kb)) 34)).alloc (Obj.cells (arrA 12 (bytesV nb)) 49)) := ((Below.refl _ w).alloc (Nat.le_refl _) _).alloc (by simp) _
      go_upto_region 1 with fail
      obtain ⟨W0, hW0⟩ : ∃ W0, ((w.alloc (Obj.cells (arrA 32 (bytesV kb)) 34)).alloc (Obj.cells (arrA 12 (bytesV nb)) 49)) = W0 := ⟨_, rfl⟩
      rw [hW0] at a0 a1 a2 ⊢
      clear hW0
      have q0 : SQ w.heap.size kb nb w W0 := ⟨a0, a1, a2⟩
      clear a0 a1 a2
      go_wp2_with (first | (refine load_arr rfl 34 _ rfl 32 5 34 w.heap.size _ rfl q0.kr und34 siz34 ?_) | (refine load_arr rfl 49 _ rfl 12 5 49 (w.heap.size + 1) _ rfl q0.nr und49 siz49 ?_))
      refine (c1 _).mono ?_
      rintro e w1 ⟨rfl, hb1⟩
      have q1 := q0.past hb1
      go_wp2_with (first | (refine load_arr rfl 34 _ rfl 32 5 34 w.heap.size _ rfl q1.kr und34 siz34 ?_) | (refine load_arr rfl 49 _ rfl 12 5 49 (w.heap.size + 1) _ rfl q1.nr und49 siz49 ?_))
      refine (c2 _).mono ?_
      rintro e w2 ⟨rfl, hb2⟩
      have q2 := q1.past hb2
      go_wp2_with (first | (refine load_arr rfl 34 _ rfl 32 5 34 w.heap.size _ rfl q2.kr und34 siz34 ?_) | (refine load_arr rfl 49 _ rfl 12 5 49 (w.heap.size + 1) _ rfl q2.nr und49 siz49 ?_))
      refine (c3 _).mono ?_
      rintro e w3 ⟨rfl, hb3⟩
      have q3 := q2.past hb3
      go_wp2_with fail
      refine (awakeS_any _).mono ?_
      rintro e w4 ⟨rfl, hb4⟩
      have q4 := q3.past hb4
      go_wp2
      go_ret
      exact ⟨rfl, q4.below⟩
    · have t1 : decide ((300 : Int) < (data.size : Int)) = true := decide_eq_true (by omega)
      go_enter Try.func11, Try.ntmps11
      have a2 : Below w.heap.size w ((w.alloc (Obj.cells (arrA 32 (bytesV kb)) 34)).alloc (Obj.cells (arrA 12 (bytesV nb)) 49)) := ((Below.refl _ w).alloc (Nat.le_refl _) _).alloc (by simp) _
      go_wp2_with fail
      refine (awakeS_any _).mono ?_
      rintro e w1 ⟨rfl, hb1⟩
      have c2 := a2.trans (hb1.mono a2.size)
      go_wp2
      go_ret
      exact ⟨rfl, c2⟩
  · have t0 : decide ((300 : Int) < (head.size : Int)) = true := decide_eq_true (by omega)
    go_enter Try.func11, Try.ntmps11
    have a2 : Below w.heap.size w ((w.alloc (Obj.cells (arrA 32 (bytesV kb)) 34)).alloc (Obj.cells (arrA 12 (bytesV nb)) 49)) := ((Below.refl _ w).alloc (Nat.le_refl _) _).alloc (by simp) _
    go_wp2_with fail
    refine (awakeS_any _).mono ?_
    rintro e w1 ⟨rfl, hb1⟩
    have c2 := a2.trans (hb1.mono a2.size)
    go_wp2
    go_ret
    exact ⟨rfl, c2⟩

set_option maxRecDepth 100000 in
set_option maxHeartbeats 4000000 in
theorem SealOpens_walk (kb : Nat → Nat) (hk : Bytes kb) (head : ByteArray) (_ : head.size ≤ maxLen) (box : ByteArray) (_ : box.size ≤ maxLen) (w : World) :
    Calls Try.prog 12 #[.agg (arrA 32 (bytesV kb)), .string head, .string box] w fun e w' => e = .returned (.bool true) ∧ Below w.heap.size w w' := by
  by_cases h1 : head.size ≤ 400
  · have t0 : decide ((400 : Int) < (head.size : Int)) = false := decide_eq_false (by omega)
    by_cases h2 : box.size ≤ 400
    · have t1 : decide ((400 : Int) < (box.size : Int)) = false := decide_eq_false (by omega)
      have c1 := fun W => open_any kb head box W hk (by omega) (by omega)
      have c2 := fun W => ropen_any kb head box W hk (by omega) (by omega)
      obtain ⟨s, hs⟩ : ∃ s, (openV kb head box).1 = s := ⟨_, rfl⟩
      obtain ⟨n, hn⟩ : ∃ n, (openV kb head box).2 = n := ⟨_, rfl⟩
      rw [hs, hn] at c1 c2
      clear hs hn
      go_enter Try.func12, Try.ntmps12
      have a0 : World.rowIs (w.alloc (Obj.cells (arrA 32 (bytesV kb)) 34)) w.heap.size 34 32 (bytesV kb) := row_of_heap (heap_new w _)
      have a2 : Below w.heap.size w (w.alloc (Obj.cells (arrA 32 (bytesV kb)) 34)) := (Below.refl _ w).alloc (Nat.le_refl _) _
      go_upto_region 1 with fail
      obtain ⟨W0, hW0⟩ : ∃ W0, (w.alloc (Obj.cells (arrA 32 (bytesV kb)) 34)) = W0 := ⟨_, rfl⟩
      rw [hW0] at a0 a2 ⊢
      clear hW0
      have q0 : SP w.heap.size kb w W0 := ⟨a0, a2⟩
      clear a0 a2
      go_wp2_with ((refine load_arr rfl 34 _ rfl 32 5 34 w.heap.size _ rfl q0.kr und34 siz34 ?_))
      refine (c1 _).mono ?_
      rintro e w1 ⟨rfl, hb1⟩
      have q1 := q0.past hb1
      go_wp2_with ((refine load_arr rfl 34 _ rfl 32 5 34 w.heap.size _ rfl q1.kr und34 siz34 ?_))
      refine (c2 _).mono ?_
      rintro e w2 ⟨rfl, hb2⟩
      have q2 := q1.past hb2
      go_wp2_with fail
      refine (awakeS_any _).mono ?_
      rintro e w4 ⟨rfl, hb4⟩
      have q4 := q2.past hb4
      go_wp2
      go_ret
      exact ⟨rfl, q4.below⟩
    · have t1 : decide ((400 : Int) < (box.size : Int)) = true := decide_eq_true (by omega)
      go_enter Try.func12, Try.ntmps12
      have a2 : Below w.heap.size w (w.alloc (Obj.cells (arrA 32 (bytesV kb)) 34)) := (Below.refl _ w).alloc (Nat.le_refl _) _
      go_wp2_with fail
      refine (awakeS_any _).mono ?_
      rintro e w1 ⟨rfl, hb1⟩
      have c2 := a2.trans (hb1.mono a2.size)
      go_wp2
      go_ret
      exact ⟨rfl, c2⟩
  · have t0 : decide ((400 : Int) < (head.size : Int)) = true := decide_eq_true (by omega)
    go_enter Try.func12, Try.ntmps12
    have a2 : Below w.heap.size w (w.alloc (Obj.cells (arrA 32 (bytesV kb)) 34)) := (Below.refl _ w).alloc (Nat.le_refl _) _
    go_wp2_with fail
    refine (awakeS_any _).mono ?_
    rintro e w1 ⟨rfl, hb1⟩
    have c2 := a2.trans (hb1.mono a2.size)
    go_wp2
    go_ret
    exact ⟨rfl, c2⟩
end Go.Proofs.Ytnjcganknpnjcaa
