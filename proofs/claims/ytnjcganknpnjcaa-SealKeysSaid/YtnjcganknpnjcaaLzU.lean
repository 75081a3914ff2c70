/- lz, plain: what comes out of packed bytes, token by token. No program. -/
namespace Go.Proofs.Ytnjcganknpnjcaa

/-- n bytes more, each the one that stands d ahead. -/
def copyN (d : Nat) : Nat → List UInt8 → List UInt8
  | 0, out => out
  | n + 1, out => copyN d n out ++ [(copyN d n out).getD ((copyN d n out).length - d) 0]
theorem copyN_length (d : Nat) : ∀ (n : Nat) (out : List UInt8), (copyN d n out).length = out.length + n
  | 0, _ => rfl
  | n + 1, out => by rw [copyN, List.length_append, copyN_length d n out]; rfl

def unpGo : Nat → List UInt8 → List UInt8 → Int → List UInt8 × Int
  | 0, _, out, most => if most < 0 then ([], 6) else (out, 0)
  | f + 1, b, out, most =>
    match b with
    | [] => if most < 0 then ([], 6) else (out, 0)
    | c :: r =>
      if c.toNat < 128 then
        if r.length < c.toNat + 1 then ([], 4)
        else if most < ((out.length + (c.toNat + 1) : Nat) : Int) then ([], 6)
        else unpGo f (r.drop (c.toNat + 1)) (out ++ r.take (c.toNat + 1)) most
      else if r.length < 2 then ([], 4)
      else if (r.getD 0 0).toNat + 256 * (r.getD 1 0).toNat = 0 ∨ out.length < (r.getD 0 0).toNat + 256 * (r.getD 1 0).toNat then ([], 3)
      else if most < ((out.length + (c.toNat - 124) : Nat) : Int) then ([], 6)
      else unpGo f (r.drop 2) (copyN ((r.getD 0 0).toNat + 256 * (r.getD 1 0).toNat) (c.toNat - 124) out) most

theorem unpGo_more : ∀ (f g : Nat) (b out : List UInt8) (most : Int), b.length ≤ f → b.length ≤ g → unpGo f b out most = unpGo g b out most
  | 0, 0, _, _, _, _, _ => rfl
  | 0, g + 1, b, out, most, h, _ => by
    have : b = [] := List.eq_nil_of_length_eq_zero (by omega)
    subst this
    rfl
  | f + 1, 0, b, out, most, _, h => by
    have : b = [] := List.eq_nil_of_length_eq_zero (by omega)
    subst this
    rfl
  | f + 1, g + 1, b, out, most, h1, h2 => by
    cases b with
    | nil => rfl
    | cons c r =>
      simp only [List.length_cons] at h1 h2
      simp only [unpGo]
      split
      · split
        · rfl
        · split
          · rfl
          · exact unpGo_more f g _ _ _ (by simp; omega) (by simp; omega)
      · split
        · rfl
        · split
          · rfl
          · split
            · rfl
            · exact unpGo_more f g _ _ _ (by simp; omega) (by simp; omega)

/-- What is left is read, so much being out. -/
def unpFrom (b out : List UInt8) (most : Int) : List UInt8 × Int := unpGo b.length b out most
def unp (b : List UInt8) (most : Int) : List UInt8 × Int := unpFrom b [] most

theorem unpFrom_nil (out : List UInt8) (most : Int) : unpFrom [] out most = if most < 0 then ([], 6) else (out, 0) := rfl
theorem unpFrom_cons (c : UInt8) (r out : List UInt8) (most : Int) : unpFrom (c :: r) out most =
    if c.toNat < 128 then
      if r.length < c.toNat + 1 then ([], 4)
      else if most < ((out.length + (c.toNat + 1) : Nat) : Int) then ([], 6)
      else unpFrom (r.drop (c.toNat + 1)) (out ++ r.take (c.toNat + 1)) most
    else if r.length < 2 then ([], 4)
    else if (r.getD 0 0).toNat + 256 * (r.getD 1 0).toNat = 0 ∨ out.length < (r.getD 0 0).toNat + 256 * (r.getD 1 0).toNat then ([], 3)
    else if most < ((out.length + (c.toNat - 124) : Nat) : Int) then ([], 6)
    else unpFrom (r.drop 2) (copyN ((r.getD 0 0).toNat + 256 * (r.getD 1 0).toNat) (c.toNat - 124) out) most := by
  simp only [unpFrom, List.length_cons, unpGo]
  rw [unpGo_more r.length (r.drop (c.toNat + 1)).length _ _ _ (by simp) (Nat.le_refl _), unpGo_more r.length (r.drop 2).length _ _ _ (by simp) (Nat.le_refl _)]

end Go.Proofs.Ytnjcganknpnjcaa
