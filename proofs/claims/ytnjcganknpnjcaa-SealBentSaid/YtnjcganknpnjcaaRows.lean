/-
  No cell of these rows narrows 'for every input' (looked for: loops, veiled, ifaces, maps, wideKeys, modest, calm, conditions, laid).
  DERIVED. THE GIVEN ROWS OF THIS SEAT. 22 by the template 'for every input the law returns true; each argument reads behind the call as it read before'; 0 by the template 'total and deterministic' (their statements: YtnjcganknpnjcaaTotals.lean).
  GIVEN WITH THE SEED: the statements are not yours to turn. If you find one false, say at which input.
  Laid BY PROGRAM, IN A SANDBOX (cutbox-rows.mjs): the forced cells as the released guide's own fill.sh prints them over the translation b032f89493166e60… (all of the seat's roots in one cut). By AI agents, Wed Nov 11 2026. No macro, syntax, notation, axiom, sorry.
-/
import Derived.Test.YtnjcganknpnjcaaChecked
import GoSem.Claim
import GoSem.ClaimJoined
import GoSem.ClaimMapViews
import Derived.JoinedTies
import Derived.KernelRfl
namespace Go.Proofs.Ytnjcganknpnjcaa
/- THE CELL 'sum', in the pinned program and in every row, IS THE sha256 OF THE DUMP (.gsa) THAT YtnjcganknpnjcaaProg.lean LOADS. Nothing in Lean hashes anything: it is a label: what it is worth is what the hold of that sum in a sandbox is worth. -/
noncomputable def Try.pinned : Pinned := { name := "ytnjcganknpnjcaa", sum := "b032f89493166e60a368c99e067c0e8b5976f6f19b8402f7622537937c27c6c4", checked := Try.checked }
namespace Rows
def none {H : Type} : Left H := { results := [], args := [] }

/-- 'hibernaclelaw08.LzPacks': WHATEVER THE INPUT: true; the input reads as it did. -/
def lzPacksSpec : ChangeSpec := { name := "lzPacks", fn := fun _ => fun
  | [d] => { results := [.lit (.bool true)], args := [d] }
  | _ => none }
def lzPacksRow : OpenClaim := { program := "ytnjcganknpnjcaa", sum := "b032f89493166e60a368c99e067c0e8b5976f6f19b8402f7622537937c27c6c4", func := "hibernacle/hibernaclelaw08.LzPacks", spec := "lzPacks", inPlace := ["internal/abi.NoEscape"], unfollowed := true, recurses := true, apart := false }
def LzPacksSaid : Prop := lzPacksRow.holds Try.pinned (OpenSpec.ofChange lzPacksSpec)

/-- ITS FALSE NEIGHBOUR: 'it returns false'. Refute it at one input. -/
def lzPacksWrong : ChangeSpec := { name := "lzPacks", fn := fun _ => fun
  | [d] => { results := [.lit (.bool false)], args := [d] }
  | _ => none }
def LzPacksWrongFalsely : Prop := lzPacksRow.holds Try.pinned (OpenSpec.ofChange lzPacksWrong)

/-- 'hibernaclelaw08.LzBack': WHATEVER THE INPUT: true; the input reads as it did. -/
def lzBackSpec : ChangeSpec := { name := "lzBack", fn := fun _ => fun
  | [d1, d2] => { results := [.lit (.bool true)], args := [d1, d2] }
  | _ => none }
def lzBackRow : OpenClaim := { program := "ytnjcganknpnjcaa", sum := "b032f89493166e60a368c99e067c0e8b5976f6f19b8402f7622537937c27c6c4", func := "hibernacle/hibernaclelaw08.LzBack", spec := "lzBack", inPlace := ["internal/abi.NoEscape"], unfollowed := true, recurses := true, apart := false }
def LzBackSaid : Prop := lzBackRow.holds Try.pinned (OpenSpec.ofChange lzBackSpec)

/-- ITS FALSE NEIGHBOUR: 'it returns false'. Refute it at one input. -/
def lzBackWrong : ChangeSpec := { name := "lzBack", fn := fun _ => fun
  | [d1, d2] => { results := [.lit (.bool false)], args := [d1, d2] }
  | _ => none }
def LzBackWrongFalsely : Prop := lzBackRow.holds Try.pinned (OpenSpec.ofChange lzBackWrong)

/-- 'hibernaclelaw08.LzUnpacks': WHATEVER THE INPUT: true; the input reads as it did. -/
def lzUnpacksSpec : ChangeSpec := { name := "lzUnpacks", fn := fun _ => fun
  | [d1, d2] => { results := [.lit (.bool true)], args := [d1, d2] }
  | _ => none }
def lzUnpacksRow : OpenClaim := { program := "ytnjcganknpnjcaa", sum := "b032f89493166e60a368c99e067c0e8b5976f6f19b8402f7622537937c27c6c4", func := "hibernacle/hibernaclelaw08.LzUnpacks", spec := "lzUnpacks", inPlace := ["internal/abi.NoEscape"], unfollowed := true, recurses := true, apart := false }
def LzUnpacksSaid : Prop := lzUnpacksRow.holds Try.pinned (OpenSpec.ofChange lzUnpacksSpec)

/-- ITS FALSE NEIGHBOUR: 'it returns false'. Refute it at one input. -/
def lzUnpacksWrong : ChangeSpec := { name := "lzUnpacks", fn := fun _ => fun
  | [d1, d2] => { results := [.lit (.bool false)], args := [d1, d2] }
  | _ => none }
def LzUnpacksWrongFalsely : Prop := lzUnpacksRow.holds Try.pinned (OpenSpec.ofChange lzUnpacksWrong)

/-- 'hibernaclelaw08.LzJoins': WHATEVER THE INPUT: true; the input reads as it did. -/
def lzJoinsSpec : ChangeSpec := { name := "lzJoins", fn := fun _ => fun
  | [d1, d2] => { results := [.lit (.bool true)], args := [d1, d2] }
  | _ => none }
def lzJoinsRow : OpenClaim := { program := "ytnjcganknpnjcaa", sum := "b032f89493166e60a368c99e067c0e8b5976f6f19b8402f7622537937c27c6c4", func := "hibernacle/hibernaclelaw08.LzJoins", spec := "lzJoins", inPlace := ["internal/abi.NoEscape"], unfollowed := true, recurses := true, apart := false }
def LzJoinsSaid : Prop := lzJoinsRow.holds Try.pinned (OpenSpec.ofChange lzJoinsSpec)

/-- ITS FALSE NEIGHBOUR: 'it returns false'. Refute it at one input. -/
def lzJoinsWrong : ChangeSpec := { name := "lzJoins", fn := fun _ => fun
  | [d1, d2] => { results := [.lit (.bool false)], args := [d1, d2] }
  | _ => none }
def LzJoinsWrongFalsely : Prop := lzJoinsRow.holds Try.pinned (OpenSpec.ofChange lzJoinsWrong)

/-- 'hibernaclelaw08.LzCuts': WHATEVER THE INPUT: true; the input reads as it did. -/
def lzCutsSpec : ChangeSpec := { name := "lzCuts", fn := fun _ => fun
  | [d1, d2] => { results := [.lit (.bool true)], args := [d1, d2] }
  | _ => none }
def lzCutsRow : OpenClaim := { program := "ytnjcganknpnjcaa", sum := "b032f89493166e60a368c99e067c0e8b5976f6f19b8402f7622537937c27c6c4", func := "hibernacle/hibernaclelaw08.LzCuts", spec := "lzCuts", inPlace := ["internal/abi.NoEscape"], unfollowed := true, recurses := true, apart := false }
def LzCutsSaid : Prop := lzCutsRow.holds Try.pinned (OpenSpec.ofChange lzCutsSpec)

/-- ITS FALSE NEIGHBOUR: 'it returns false'. Refute it at one input. -/
def lzCutsWrong : ChangeSpec := { name := "lzCuts", fn := fun _ => fun
  | [d1, d2] => { results := [.lit (.bool false)], args := [d1, d2] }
  | _ => none }
def LzCutsWrongFalsely : Prop := lzCutsRow.holds Try.pinned (OpenSpec.ofChange lzCutsWrong)

/-- 'hibernaclelaw43.SessionGoes': WHATEVER THE INPUT: true; the input reads as it did. -/
def sessionGoesSpec : ChangeSpec := { name := "sessionGoes", fn := fun _ => fun
  | [d1, d2, d3] => { results := [.lit (.bool true)], args := [d1, d2, d3] }
  | _ => none }
def sessionGoesRow : OpenClaim := { program := "ytnjcganknpnjcaa", sum := "b032f89493166e60a368c99e067c0e8b5976f6f19b8402f7622537937c27c6c4", func := "hibernacle/hibernaclelaw43.SessionGoes", spec := "sessionGoes", inPlace := ["internal/abi.NoEscape", "internal/bytealg.MakeNoZero", "internal/bytealg.IndexByteString"], unfollowed := true, recurses := true, apart := false }
def SessionGoesSaid : Prop := sessionGoesRow.holds Try.pinned (OpenSpec.ofChange sessionGoesSpec)

/-- ITS FALSE NEIGHBOUR: 'it returns false'. Refute it at one input. -/
def sessionGoesWrong : ChangeSpec := { name := "sessionGoes", fn := fun _ => fun
  | [d1, d2, d3] => { results := [.lit (.bool false)], args := [d1, d2, d3] }
  | _ => none }
def SessionGoesWrongFalsely : Prop := sessionGoesRow.holds Try.pinned (OpenSpec.ofChange sessionGoesWrong)

/-- 'hibernaclelaw08.LzRepeats': WHATEVER THE INPUT: true; the input reads as it did. -/
def lzRepeatsSpec : ChangeSpec := { name := "lzRepeats", fn := fun _ => fun
  | [d1, d2] => { results := [.lit (.bool true)], args := [d1, d2] }
  | _ => none }
def lzRepeatsRow : OpenClaim := { program := "ytnjcganknpnjcaa", sum := "b032f89493166e60a368c99e067c0e8b5976f6f19b8402f7622537937c27c6c4", func := "hibernacle/hibernaclelaw08.LzRepeats", spec := "lzRepeats", inPlace := ["internal/abi.NoEscape"], unfollowed := true, recurses := true, apart := false }
def LzRepeatsSaid : Prop := lzRepeatsRow.holds Try.pinned (OpenSpec.ofChange lzRepeatsSpec)

/-- ITS FALSE NEIGHBOUR: 'it returns false'. Refute it at one input. -/
def lzRepeatsWrong : ChangeSpec := { name := "lzRepeats", fn := fun _ => fun
  | [d1, d2] => { results := [.lit (.bool false)], args := [d1, d2] }
  | _ => none }
def LzRepeatsWrongFalsely : Prop := lzRepeatsRow.holds Try.pinned (OpenSpec.ofChange lzRepeatsWrong)

/-- 'hibernaclelaw43.SessionAnswers': WHATEVER THE INPUT: true; the input reads as it did. -/
def sessionAnswersSpec : ChangeSpec := { name := "sessionAnswers", fn := fun _ => fun
  | [d1, d2, d3] => { results := [.lit (.bool true)], args := [d1, d2, d3] }
  | _ => none }
def sessionAnswersRow : OpenClaim := { program := "ytnjcganknpnjcaa", sum := "b032f89493166e60a368c99e067c0e8b5976f6f19b8402f7622537937c27c6c4", func := "hibernacle/hibernaclelaw43.SessionAnswers", spec := "sessionAnswers", inPlace := ["internal/abi.NoEscape", "internal/bytealg.MakeNoZero", "internal/bytealg.IndexByteString"], unfollowed := true, recurses := true, apart := false }
def SessionAnswersSaid : Prop := sessionAnswersRow.holds Try.pinned (OpenSpec.ofChange sessionAnswersSpec)

/-- ITS FALSE NEIGHBOUR: 'it returns false'. Refute it at one input. -/
def sessionAnswersWrong : ChangeSpec := { name := "sessionAnswers", fn := fun _ => fun
  | [d1, d2, d3] => { results := [.lit (.bool false)], args := [d1, d2, d3] }
  | _ => none }
def SessionAnswersWrongFalsely : Prop := sessionAnswersRow.holds Try.pinned (OpenSpec.ofChange sessionAnswersWrong)

/-- 'hibernaclelaw04.SealBoxes': WHATEVER THE INPUT: true; the input reads as it did. -/
def sealBoxesSpec : ChangeSpec := { name := "sealBoxes", fn := fun _ => fun
  | [d1, d2, d3, d4] => { results := [.lit (.bool true)], args := [d1, d2, d3, d4] }
  | _ => none }
def sealBoxesRow : OpenClaim := { program := "ytnjcganknpnjcaa", sum := "b032f89493166e60a368c99e067c0e8b5976f6f19b8402f7622537937c27c6c4", func := "hibernacle/hibernaclelaw04.SealBoxes", spec := "sealBoxes", inPlace := ["internal/abi.NoEscape", "internal/bytealg.MakeNoZero", "internal/bytealg.IndexByteString"], unfollowed := true, recurses := true, apart := false }
def SealBoxesSaid : Prop := sealBoxesRow.holds Try.pinned (OpenSpec.ofChange sealBoxesSpec)

/-- ITS FALSE NEIGHBOUR: 'it returns false'. Refute it at one input. -/
def sealBoxesWrong : ChangeSpec := { name := "sealBoxes", fn := fun _ => fun
  | [d1, d2, d3, d4] => { results := [.lit (.bool false)], args := [d1, d2, d3, d4] }
  | _ => none }
def SealBoxesWrongFalsely : Prop := sealBoxesRow.holds Try.pinned (OpenSpec.ofChange sealBoxesWrong)

/-- 'hibernaclelaw04.SealOpens': WHATEVER THE INPUT: true; the input reads as it did. -/
def sealOpensSpec : ChangeSpec := { name := "sealOpens", fn := fun _ => fun
  | [d1, d2, d3] => { results := [.lit (.bool true)], args := [d1, d2, d3] }
  | _ => none }
def sealOpensRow : OpenClaim := { program := "ytnjcganknpnjcaa", sum := "b032f89493166e60a368c99e067c0e8b5976f6f19b8402f7622537937c27c6c4", func := "hibernacle/hibernaclelaw04.SealOpens", spec := "sealOpens", inPlace := ["internal/abi.NoEscape", "internal/bytealg.MakeNoZero", "internal/bytealg.IndexByteString"], unfollowed := true, recurses := true, apart := false }
def SealOpensSaid : Prop := sealOpensRow.holds Try.pinned (OpenSpec.ofChange sealOpensSpec)

/-- ITS FALSE NEIGHBOUR: 'it returns false'. Refute it at one input. -/
def sealOpensWrong : ChangeSpec := { name := "sealOpens", fn := fun _ => fun
  | [d1, d2, d3] => { results := [.lit (.bool false)], args := [d1, d2, d3] }
  | _ => none }
def SealOpensWrongFalsely : Prop := sealOpensRow.holds Try.pinned (OpenSpec.ofChange sealOpensWrong)

/-- 'hibernaclelaw04.SealBent': WHATEVER THE INPUT: true; the input reads as it did. -/
def sealBentSpec : ChangeSpec := { name := "sealBent", fn := fun _ => fun
  | [d1, d2, d3, d4, d5, d6, d7] => { results := [.lit (.bool true)], args := [d1, d2, d3, d4, d5, d6, d7] }
  | _ => none }
def sealBentRow : OpenClaim := { program := "ytnjcganknpnjcaa", sum := "b032f89493166e60a368c99e067c0e8b5976f6f19b8402f7622537937c27c6c4", func := "hibernacle/hibernaclelaw04.SealBent", spec := "sealBent", inPlace := ["internal/abi.NoEscape", "internal/bytealg.MakeNoZero", "internal/bytealg.IndexByteString"], unfollowed := true, recurses := true, apart := false }
def SealBentSaid : Prop := sealBentRow.holds Try.pinned (OpenSpec.ofChange sealBentSpec)

/-- ITS FALSE NEIGHBOUR: 'it returns false'. Refute it at one input. -/
def sealBentWrong : ChangeSpec := { name := "sealBent", fn := fun _ => fun
  | [d1, d2, d3, d4, d5, d6, d7] => { results := [.lit (.bool false)], args := [d1, d2, d3, d4, d5, d6, d7] }
  | _ => none }
def SealBentWrongFalsely : Prop := sealBentRow.holds Try.pinned (OpenSpec.ofChange sealBentWrong)

/-- 'hibernaclelaw04.SealKeys': WHATEVER THE INPUT: true; the input reads as it did. -/
def sealKeysSpec : ChangeSpec := { name := "sealKeys", fn := fun _ => fun
  | [d1, d2, d3, d4] => { results := [.lit (.bool true)], args := [d1, d2, d3, d4] }
  | _ => none }
def sealKeysRow : OpenClaim := { program := "ytnjcganknpnjcaa", sum := "b032f89493166e60a368c99e067c0e8b5976f6f19b8402f7622537937c27c6c4", func := "hibernacle/hibernaclelaw04.SealKeys", spec := "sealKeys", inPlace := ["internal/abi.NoEscape", "internal/bytealg.MakeNoZero", "internal/bytealg.IndexByteString"], unfollowed := true, recurses := true, apart := false }
def SealKeysSaid : Prop := sealKeysRow.holds Try.pinned (OpenSpec.ofChange sealKeysSpec)

/-- ITS FALSE NEIGHBOUR: 'it returns false'. Refute it at one input. -/
def sealKeysWrong : ChangeSpec := { name := "sealKeys", fn := fun _ => fun
  | [d1, d2, d3, d4] => { results := [.lit (.bool false)], args := [d1, d2, d3, d4] }
  | _ => none }
def SealKeysWrongFalsely : Prop := sealKeysRow.holds Try.pinned (OpenSpec.ofChange sealKeysWrong)

/-- 'hibernaclelaw04.SealNonces': WHATEVER THE INPUT: true; the input reads as it did. -/
def sealNoncesSpec : ChangeSpec := { name := "sealNonces", fn := fun _ => fun
  | [d1, d2, d3] => { results := [.lit (.bool true)], args := [d1, d2, d3] }
  | _ => none }
def sealNoncesRow : OpenClaim := { program := "ytnjcganknpnjcaa", sum := "b032f89493166e60a368c99e067c0e8b5976f6f19b8402f7622537937c27c6c4", func := "hibernacle/hibernaclelaw04.SealNonces", spec := "sealNonces", inPlace := ["internal/abi.NoEscape", "internal/bytealg.MakeNoZero", "internal/bytealg.IndexByteString"], unfollowed := true, recurses := true, apart := false }
def SealNoncesSaid : Prop := sealNoncesRow.holds Try.pinned (OpenSpec.ofChange sealNoncesSpec)

/-- ITS FALSE NEIGHBOUR: 'it returns false'. Refute it at one input. -/
def sealNoncesWrong : ChangeSpec := { name := "sealNonces", fn := fun _ => fun
  | [d1, d2, d3] => { results := [.lit (.bool false)], args := [d1, d2, d3] }
  | _ => none }
def SealNoncesWrongFalsely : Prop := sealNoncesRow.holds Try.pinned (OpenSpec.ofChange sealNoncesWrong)

/-- 'hibernaclelaw04.SealTags': WHATEVER THE INPUT: true; the input reads as it did. -/
def sealTagsSpec : ChangeSpec := { name := "sealTags", fn := fun _ => fun
  | [d1, d2, d3, d4] => { results := [.lit (.bool true)], args := [d1, d2, d3, d4] }
  | _ => none }
def sealTagsRow : OpenClaim := { program := "ytnjcganknpnjcaa", sum := "b032f89493166e60a368c99e067c0e8b5976f6f19b8402f7622537937c27c6c4", func := "hibernacle/hibernaclelaw04.SealTags", spec := "sealTags", inPlace := ["internal/abi.NoEscape", "internal/bytealg.MakeNoZero", "internal/bytealg.IndexByteString"], unfollowed := true, recurses := true, apart := false }
def SealTagsSaid : Prop := sealTagsRow.holds Try.pinned (OpenSpec.ofChange sealTagsSpec)

/-- ITS FALSE NEIGHBOUR: 'it returns false'. Refute it at one input. -/
def sealTagsWrong : ChangeSpec := { name := "sealTags", fn := fun _ => fun
  | [d1, d2, d3, d4] => { results := [.lit (.bool false)], args := [d1, d2, d3, d4] }
  | _ => none }
def SealTagsWrongFalsely : Prop := sealTagsRow.holds Try.pinned (OpenSpec.ofChange sealTagsWrong)

/-- 'hibernaclelaw04.SealStreams': WHATEVER THE INPUT: true; the input reads as it did. -/
def sealStreamsSpec : ChangeSpec := { name := "sealStreams", fn := fun _ => fun
  | [d1, d2, d3, d4] => { results := [.lit (.bool true)], args := [d1, d2, d3, d4] }
  | _ => none }
def sealStreamsRow : OpenClaim := { program := "ytnjcganknpnjcaa", sum := "b032f89493166e60a368c99e067c0e8b5976f6f19b8402f7622537937c27c6c4", func := "hibernacle/hibernaclelaw04.SealStreams", spec := "sealStreams", inPlace := ["internal/abi.NoEscape", "internal/bytealg.MakeNoZero", "internal/bytealg.IndexByteString"], unfollowed := true, recurses := true, apart := false }
def SealStreamsSaid : Prop := sealStreamsRow.holds Try.pinned (OpenSpec.ofChange sealStreamsSpec)

/-- ITS FALSE NEIGHBOUR: 'it returns false'. Refute it at one input. -/
def sealStreamsWrong : ChangeSpec := { name := "sealStreams", fn := fun _ => fun
  | [d1, d2, d3, d4] => { results := [.lit (.bool false)], args := [d1, d2, d3, d4] }
  | _ => none }
def SealStreamsWrongFalsely : Prop := sealStreamsRow.holds Try.pinned (OpenSpec.ofChange sealStreamsWrong)

/-- 'hibernaclelaw08.LzSealed': WHATEVER THE INPUT: true; the input reads as it did. -/
def lzSealedSpec : ChangeSpec := { name := "lzSealed", fn := fun _ => fun
  | [d1, d2] => { results := [.lit (.bool true)], args := [d1, d2] }
  | _ => none }
def lzSealedRow : OpenClaim := { program := "ytnjcganknpnjcaa", sum := "b032f89493166e60a368c99e067c0e8b5976f6f19b8402f7622537937c27c6c4", func := "hibernacle/hibernaclelaw08.LzSealed", spec := "lzSealed", inPlace := ["internal/abi.NoEscape", "internal/bytealg.MakeNoZero", "internal/bytealg.IndexByteString"], unfollowed := true, recurses := true, apart := false }
def LzSealedSaid : Prop := lzSealedRow.holds Try.pinned (OpenSpec.ofChange lzSealedSpec)

/-- ITS FALSE NEIGHBOUR: 'it returns false'. Refute it at one input. -/
def lzSealedWrong : ChangeSpec := { name := "lzSealed", fn := fun _ => fun
  | [d1, d2] => { results := [.lit (.bool false)], args := [d1, d2] }
  | _ => none }
def LzSealedWrongFalsely : Prop := lzSealedRow.holds Try.pinned (OpenSpec.ofChange lzSealedWrong)

/-- 'hibernaclelaw43.SessionOnce': WHATEVER THE INPUT: true; the input reads as it did. -/
def sessionOnceSpec : ChangeSpec := { name := "sessionOnce", fn := fun _ => fun
  | [d1, d2, d3] => { results := [.lit (.bool true)], args := [d1, d2, d3] }
  | _ => none }
def sessionOnceRow : OpenClaim := { program := "ytnjcganknpnjcaa", sum := "b032f89493166e60a368c99e067c0e8b5976f6f19b8402f7622537937c27c6c4", func := "hibernacle/hibernaclelaw43.SessionOnce", spec := "sessionOnce", inPlace := ["internal/abi.NoEscape", "internal/bytealg.MakeNoZero", "internal/bytealg.IndexByteString"], unfollowed := true, recurses := true, apart := false }
def SessionOnceSaid : Prop := sessionOnceRow.holds Try.pinned (OpenSpec.ofChange sessionOnceSpec)

/-- ITS FALSE NEIGHBOUR: 'it returns false'. Refute it at one input. -/
def sessionOnceWrong : ChangeSpec := { name := "sessionOnce", fn := fun _ => fun
  | [d1, d2, d3] => { results := [.lit (.bool false)], args := [d1, d2, d3] }
  | _ => none }
def SessionOnceWrongFalsely : Prop := sessionOnceRow.holds Try.pinned (OpenSpec.ofChange sessionOnceWrong)

/-- 'hibernaclelaw43.SessionBent': WHATEVER THE INPUT: true; the input reads as it did. -/
def sessionBentSpec : ChangeSpec := { name := "sessionBent", fn := fun _ => fun
  | [d1, d2, d3] => { results := [.lit (.bool true)], args := [d1, d2, d3] }
  | _ => none }
def sessionBentRow : OpenClaim := { program := "ytnjcganknpnjcaa", sum := "b032f89493166e60a368c99e067c0e8b5976f6f19b8402f7622537937c27c6c4", func := "hibernacle/hibernaclelaw43.SessionBent", spec := "sessionBent", inPlace := ["internal/abi.NoEscape", "internal/bytealg.MakeNoZero", "internal/bytealg.IndexByteString"], unfollowed := true, recurses := true, apart := false }
def SessionBentSaid : Prop := sessionBentRow.holds Try.pinned (OpenSpec.ofChange sessionBentSpec)

/-- ITS FALSE NEIGHBOUR: 'it returns false'. Refute it at one input. -/
def sessionBentWrong : ChangeSpec := { name := "sessionBent", fn := fun _ => fun
  | [d1, d2, d3] => { results := [.lit (.bool false)], args := [d1, d2, d3] }
  | _ => none }
def SessionBentWrongFalsely : Prop := sessionBentRow.holds Try.pinned (OpenSpec.ofChange sessionBentWrong)

/-- 'hibernaclelaw43.SessionFar': WHATEVER THE INPUT: true; the input reads as it did. -/
def sessionFarSpec : ChangeSpec := { name := "sessionFar", fn := fun _ => fun
  | [d1, d2] => { results := [.lit (.bool true)], args := [d1, d2] }
  | _ => none }
def sessionFarRow : OpenClaim := { program := "ytnjcganknpnjcaa", sum := "b032f89493166e60a368c99e067c0e8b5976f6f19b8402f7622537937c27c6c4", func := "hibernacle/hibernaclelaw43.SessionFar", spec := "sessionFar", inPlace := ["internal/abi.NoEscape", "internal/bytealg.MakeNoZero", "internal/bytealg.IndexByteString"], unfollowed := true, recurses := true, apart := false }
def SessionFarSaid : Prop := sessionFarRow.holds Try.pinned (OpenSpec.ofChange sessionFarSpec)

/-- ITS FALSE NEIGHBOUR: 'it returns false'. Refute it at one input. -/
def sessionFarWrong : ChangeSpec := { name := "sessionFar", fn := fun _ => fun
  | [d1, d2] => { results := [.lit (.bool false)], args := [d1, d2] }
  | _ => none }
def SessionFarWrongFalsely : Prop := sessionFarRow.holds Try.pinned (OpenSpec.ofChange sessionFarWrong)

/-- 'hibernaclelaw43.SessionOther': WHATEVER THE INPUT: true; the input reads as it did. -/
def sessionOtherSpec : ChangeSpec := { name := "sessionOther", fn := fun _ => fun
  | [d1, d2, d3] => { results := [.lit (.bool true)], args := [d1, d2, d3] }
  | _ => none }
def sessionOtherRow : OpenClaim := { program := "ytnjcganknpnjcaa", sum := "b032f89493166e60a368c99e067c0e8b5976f6f19b8402f7622537937c27c6c4", func := "hibernacle/hibernaclelaw43.SessionOther", spec := "sessionOther", inPlace := ["internal/abi.NoEscape", "internal/bytealg.MakeNoZero", "internal/bytealg.IndexByteString"], unfollowed := true, recurses := true, apart := false }
def SessionOtherSaid : Prop := sessionOtherRow.holds Try.pinned (OpenSpec.ofChange sessionOtherSpec)

/-- ITS FALSE NEIGHBOUR: 'it returns false'. Refute it at one input. -/
def sessionOtherWrong : ChangeSpec := { name := "sessionOther", fn := fun _ => fun
  | [d1, d2, d3] => { results := [.lit (.bool false)], args := [d1, d2, d3] }
  | _ => none }
def SessionOtherWrongFalsely : Prop := sessionOtherRow.holds Try.pinned (OpenSpec.ofChange sessionOtherWrong)

/-- 'hibernaclelaw43.SessionSends': WHATEVER THE INPUT: true; the input reads as it did. -/
def sessionSendsSpec : ChangeSpec := { name := "sessionSends", fn := fun _ => fun
  | [d1, d2] => { results := [.lit (.bool true)], args := [d1, d2] }
  | _ => none }
def sessionSendsRow : OpenClaim := { program := "ytnjcganknpnjcaa", sum := "b032f89493166e60a368c99e067c0e8b5976f6f19b8402f7622537937c27c6c4", func := "hibernacle/hibernaclelaw43.SessionSends", spec := "sessionSends", inPlace := ["internal/abi.NoEscape", "internal/bytealg.MakeNoZero", "internal/bytealg.IndexByteString"], unfollowed := true, recurses := true, apart := false }
def SessionSendsSaid : Prop := sessionSendsRow.holds Try.pinned (OpenSpec.ofChange sessionSendsSpec)

/-- ITS FALSE NEIGHBOUR: 'it returns false'. Refute it at one input. -/
def sessionSendsWrong : ChangeSpec := { name := "sessionSends", fn := fun _ => fun
  | [d1, d2] => { results := [.lit (.bool false)], args := [d1, d2] }
  | _ => none }
def SessionSendsWrongFalsely : Prop := sessionSendsRow.holds Try.pinned (OpenSpec.ofChange sessionSendsWrong)

/-- 'hibernaclelaw43.SessionTakes': WHATEVER THE INPUT: true; the input reads as it did. -/
def sessionTakesSpec : ChangeSpec := { name := "sessionTakes", fn := fun _ => fun
  | [d1, d2] => { results := [.lit (.bool true)], args := [d1, d2] }
  | _ => none }
def sessionTakesRow : OpenClaim := { program := "ytnjcganknpnjcaa", sum := "b032f89493166e60a368c99e067c0e8b5976f6f19b8402f7622537937c27c6c4", func := "hibernacle/hibernaclelaw43.SessionTakes", spec := "sessionTakes", inPlace := ["internal/abi.NoEscape", "internal/bytealg.MakeNoZero", "internal/bytealg.IndexByteString"], unfollowed := true, recurses := true, apart := false }
def SessionTakesSaid : Prop := sessionTakesRow.holds Try.pinned (OpenSpec.ofChange sessionTakesSpec)

/-- ITS FALSE NEIGHBOUR: 'it returns false'. Refute it at one input. -/
def sessionTakesWrong : ChangeSpec := { name := "sessionTakes", fn := fun _ => fun
  | [d1, d2] => { results := [.lit (.bool false)], args := [d1, d2] }
  | _ => none }
def SessionTakesWrongFalsely : Prop := sessionTakesRow.holds Try.pinned (OpenSpec.ofChange sessionTakesWrong)

/- THE SECOND FORM. 'bulk': how many values and letters a reading holds, each counted each time it is reached (what is shared counts as often as it is met; a slice's spare places count too). A statement '..UptoSaid' is the law's where the arguments, and the package variables that the reading takes, are together of bulk at most 1048576: NARROWER than '..Said'. Prove '..Said' where nothing that the law and all that it calls make is longer than what came in: it says more and counts as full. Else prove '..UptoSaid'. A law counts once. -/
mutual
def uptoBulk {H : Type} : DataW H → Nat
  | .lit (.string bytes) => bytes.length + 1
  | .lit _ => 1
  | .nil => 1
  | .ptr d => uptoBulk d + 1
  | .slice elems spare => uptoBulkAll elems + uptoBulkAll spare + 1
  | .agg parts => uptoBulkAll parts + 1
  | .iface _ d => uptoBulk d + 1
  | .map entries => uptoBulkEntries entries + 1
  | .held _ => 1
def uptoBulkAll {H : Type} : List (DataW H) → Nat
  | [] => 0
  | d :: r => uptoBulk d + uptoBulkAll r
def uptoBulkEntries {H : Type} : List (Lit × DataW H) → Nat
  | [] => 0
  | x :: r => uptoBulkEntry x + uptoBulkEntries r
def uptoBulkEntry {H : Type} : Lit × DataW H → Nat
  | (.string bytes, d) => bytes.length + uptoBulk d + 1
  | (_, d) => uptoBulk d + 1
 end
def uptoSmall : (H : Type) → List (DataW H) → Bool := fun _ ds => decide (uptoBulkAll ds ≤ 1048576)
def OpenSpec.upto (s : _root_.Go.ChangeSpec) : _root_.Go.OpenSpec := { _root_.Go.OpenSpec.ofChange s with cond := some uptoSmall }

/-- 'hibernaclelaw08.LzPacks', WHERE WHAT IT READS IS OF BULK AT MOST 1048576: true; the input reads as it did. -/
def lzPacksUptoRow : OpenClaim := { program := "ytnjcganknpnjcaa", sum := "b032f89493166e60a368c99e067c0e8b5976f6f19b8402f7622537937c27c6c4", func := "hibernacle/hibernaclelaw08.LzPacks", spec := "lzPacks", inPlace := ["internal/abi.NoEscape"], unfollowed := true, recurses := true, apart := false, narrowed := true }
def LzPacksUptoSaid : Prop := lzPacksUptoRow.holds Try.pinned (OpenSpec.upto lzPacksSpec)

/-- 'hibernaclelaw08.LzBack', WHERE WHAT IT READS IS OF BULK AT MOST 1048576: true; the input reads as it did. -/
def lzBackUptoRow : OpenClaim := { program := "ytnjcganknpnjcaa", sum := "b032f89493166e60a368c99e067c0e8b5976f6f19b8402f7622537937c27c6c4", func := "hibernacle/hibernaclelaw08.LzBack", spec := "lzBack", inPlace := ["internal/abi.NoEscape"], unfollowed := true, recurses := true, apart := false, narrowed := true }
def LzBackUptoSaid : Prop := lzBackUptoRow.holds Try.pinned (OpenSpec.upto lzBackSpec)

/-- 'hibernaclelaw08.LzUnpacks', WHERE WHAT IT READS IS OF BULK AT MOST 1048576: true; the input reads as it did. -/
def lzUnpacksUptoRow : OpenClaim := { program := "ytnjcganknpnjcaa", sum := "b032f89493166e60a368c99e067c0e8b5976f6f19b8402f7622537937c27c6c4", func := "hibernacle/hibernaclelaw08.LzUnpacks", spec := "lzUnpacks", inPlace := ["internal/abi.NoEscape"], unfollowed := true, recurses := true, apart := false, narrowed := true }
def LzUnpacksUptoSaid : Prop := lzUnpacksUptoRow.holds Try.pinned (OpenSpec.upto lzUnpacksSpec)

/-- 'hibernaclelaw08.LzJoins', WHERE WHAT IT READS IS OF BULK AT MOST 1048576: true; the input reads as it did. -/
def lzJoinsUptoRow : OpenClaim := { program := "ytnjcganknpnjcaa", sum := "b032f89493166e60a368c99e067c0e8b5976f6f19b8402f7622537937c27c6c4", func := "hibernacle/hibernaclelaw08.LzJoins", spec := "lzJoins", inPlace := ["internal/abi.NoEscape"], unfollowed := true, recurses := true, apart := false, narrowed := true }
def LzJoinsUptoSaid : Prop := lzJoinsUptoRow.holds Try.pinned (OpenSpec.upto lzJoinsSpec)

/-- 'hibernaclelaw08.LzCuts', WHERE WHAT IT READS IS OF BULK AT MOST 1048576: true; the input reads as it did. -/
def lzCutsUptoRow : OpenClaim := { program := "ytnjcganknpnjcaa", sum := "b032f89493166e60a368c99e067c0e8b5976f6f19b8402f7622537937c27c6c4", func := "hibernacle/hibernaclelaw08.LzCuts", spec := "lzCuts", inPlace := ["internal/abi.NoEscape"], unfollowed := true, recurses := true, apart := false, narrowed := true }
def LzCutsUptoSaid : Prop := lzCutsUptoRow.holds Try.pinned (OpenSpec.upto lzCutsSpec)

/-- 'hibernaclelaw43.SessionGoes', WHERE WHAT IT READS IS OF BULK AT MOST 1048576: true; the input reads as it did. -/
def sessionGoesUptoRow : OpenClaim := { program := "ytnjcganknpnjcaa", sum := "b032f89493166e60a368c99e067c0e8b5976f6f19b8402f7622537937c27c6c4", func := "hibernacle/hibernaclelaw43.SessionGoes", spec := "sessionGoes", inPlace := ["internal/abi.NoEscape", "internal/bytealg.MakeNoZero", "internal/bytealg.IndexByteString"], unfollowed := true, recurses := true, apart := false, narrowed := true }
def SessionGoesUptoSaid : Prop := sessionGoesUptoRow.holds Try.pinned (OpenSpec.upto sessionGoesSpec)

/-- 'hibernaclelaw08.LzRepeats', WHERE WHAT IT READS IS OF BULK AT MOST 1048576: true; the input reads as it did. -/
def lzRepeatsUptoRow : OpenClaim := { program := "ytnjcganknpnjcaa", sum := "b032f89493166e60a368c99e067c0e8b5976f6f19b8402f7622537937c27c6c4", func := "hibernacle/hibernaclelaw08.LzRepeats", spec := "lzRepeats", inPlace := ["internal/abi.NoEscape"], unfollowed := true, recurses := true, apart := false, narrowed := true }
def LzRepeatsUptoSaid : Prop := lzRepeatsUptoRow.holds Try.pinned (OpenSpec.upto lzRepeatsSpec)

/-- 'hibernaclelaw43.SessionAnswers', WHERE WHAT IT READS IS OF BULK AT MOST 1048576: true; the input reads as it did. -/
def sessionAnswersUptoRow : OpenClaim := { program := "ytnjcganknpnjcaa", sum := "b032f89493166e60a368c99e067c0e8b5976f6f19b8402f7622537937c27c6c4", func := "hibernacle/hibernaclelaw43.SessionAnswers", spec := "sessionAnswers", inPlace := ["internal/abi.NoEscape", "internal/bytealg.MakeNoZero", "internal/bytealg.IndexByteString"], unfollowed := true, recurses := true, apart := false, narrowed := true }
def SessionAnswersUptoSaid : Prop := sessionAnswersUptoRow.holds Try.pinned (OpenSpec.upto sessionAnswersSpec)

/-- 'hibernaclelaw04.SealBoxes', WHERE WHAT IT READS IS OF BULK AT MOST 1048576: true; the input reads as it did. -/
def sealBoxesUptoRow : OpenClaim := { program := "ytnjcganknpnjcaa", sum := "b032f89493166e60a368c99e067c0e8b5976f6f19b8402f7622537937c27c6c4", func := "hibernacle/hibernaclelaw04.SealBoxes", spec := "sealBoxes", inPlace := ["internal/abi.NoEscape", "internal/bytealg.MakeNoZero", "internal/bytealg.IndexByteString"], unfollowed := true, recurses := true, apart := false, narrowed := true }
def SealBoxesUptoSaid : Prop := sealBoxesUptoRow.holds Try.pinned (OpenSpec.upto sealBoxesSpec)

/-- 'hibernaclelaw04.SealOpens', WHERE WHAT IT READS IS OF BULK AT MOST 1048576: true; the input reads as it did. -/
def sealOpensUptoRow : OpenClaim := { program := "ytnjcganknpnjcaa", sum := "b032f89493166e60a368c99e067c0e8b5976f6f19b8402f7622537937c27c6c4", func := "hibernacle/hibernaclelaw04.SealOpens", spec := "sealOpens", inPlace := ["internal/abi.NoEscape", "internal/bytealg.MakeNoZero", "internal/bytealg.IndexByteString"], unfollowed := true, recurses := true, apart := false, narrowed := true }
def SealOpensUptoSaid : Prop := sealOpensUptoRow.holds Try.pinned (OpenSpec.upto sealOpensSpec)

/-- 'hibernaclelaw04.SealBent', WHERE WHAT IT READS IS OF BULK AT MOST 1048576: true; the input reads as it did. -/
def sealBentUptoRow : OpenClaim := { program := "ytnjcganknpnjcaa", sum := "b032f89493166e60a368c99e067c0e8b5976f6f19b8402f7622537937c27c6c4", func := "hibernacle/hibernaclelaw04.SealBent", spec := "sealBent", inPlace := ["internal/abi.NoEscape", "internal/bytealg.MakeNoZero", "internal/bytealg.IndexByteString"], unfollowed := true, recurses := true, apart := false, narrowed := true }
def SealBentUptoSaid : Prop := sealBentUptoRow.holds Try.pinned (OpenSpec.upto sealBentSpec)

/-- 'hibernaclelaw04.SealKeys', WHERE WHAT IT READS IS OF BULK AT MOST 1048576: true; the input reads as it did. -/
def sealKeysUptoRow : OpenClaim := { program := "ytnjcganknpnjcaa", sum := "b032f89493166e60a368c99e067c0e8b5976f6f19b8402f7622537937c27c6c4", func := "hibernacle/hibernaclelaw04.SealKeys", spec := "sealKeys", inPlace := ["internal/abi.NoEscape", "internal/bytealg.MakeNoZero", "internal/bytealg.IndexByteString"], unfollowed := true, recurses := true, apart := false, narrowed := true }
def SealKeysUptoSaid : Prop := sealKeysUptoRow.holds Try.pinned (OpenSpec.upto sealKeysSpec)

/-- 'hibernaclelaw04.SealNonces', WHERE WHAT IT READS IS OF BULK AT MOST 1048576: true; the input reads as it did. -/
def sealNoncesUptoRow : OpenClaim := { program := "ytnjcganknpnjcaa", sum := "b032f89493166e60a368c99e067c0e8b5976f6f19b8402f7622537937c27c6c4", func := "hibernacle/hibernaclelaw04.SealNonces", spec := "sealNonces", inPlace := ["internal/abi.NoEscape", "internal/bytealg.MakeNoZero", "internal/bytealg.IndexByteString"], unfollowed := true, recurses := true, apart := false, narrowed := true }
def SealNoncesUptoSaid : Prop := sealNoncesUptoRow.holds Try.pinned (OpenSpec.upto sealNoncesSpec)

/-- 'hibernaclelaw04.SealTags', WHERE WHAT IT READS IS OF BULK AT MOST 1048576: true; the input reads as it did. -/
def sealTagsUptoRow : OpenClaim := { program := "ytnjcganknpnjcaa", sum := "b032f89493166e60a368c99e067c0e8b5976f6f19b8402f7622537937c27c6c4", func := "hibernacle/hibernaclelaw04.SealTags", spec := "sealTags", inPlace := ["internal/abi.NoEscape", "internal/bytealg.MakeNoZero", "internal/bytealg.IndexByteString"], unfollowed := true, recurses := true, apart := false, narrowed := true }
def SealTagsUptoSaid : Prop := sealTagsUptoRow.holds Try.pinned (OpenSpec.upto sealTagsSpec)

/-- 'hibernaclelaw04.SealStreams', WHERE WHAT IT READS IS OF BULK AT MOST 1048576: true; the input reads as it did. -/
def sealStreamsUptoRow : OpenClaim := { program := "ytnjcganknpnjcaa", sum := "b032f89493166e60a368c99e067c0e8b5976f6f19b8402f7622537937c27c6c4", func := "hibernacle/hibernaclelaw04.SealStreams", spec := "sealStreams", inPlace := ["internal/abi.NoEscape", "internal/bytealg.MakeNoZero", "internal/bytealg.IndexByteString"], unfollowed := true, recurses := true, apart := false, narrowed := true }
def SealStreamsUptoSaid : Prop := sealStreamsUptoRow.holds Try.pinned (OpenSpec.upto sealStreamsSpec)

/-- 'hibernaclelaw08.LzSealed', WHERE WHAT IT READS IS OF BULK AT MOST 1048576: true; the input reads as it did. -/
def lzSealedUptoRow : OpenClaim := { program := "ytnjcganknpnjcaa", sum := "b032f89493166e60a368c99e067c0e8b5976f6f19b8402f7622537937c27c6c4", func := "hibernacle/hibernaclelaw08.LzSealed", spec := "lzSealed", inPlace := ["internal/abi.NoEscape", "internal/bytealg.MakeNoZero", "internal/bytealg.IndexByteString"], unfollowed := true, recurses := true, apart := false, narrowed := true }
def LzSealedUptoSaid : Prop := lzSealedUptoRow.holds Try.pinned (OpenSpec.upto lzSealedSpec)

/-- 'hibernaclelaw43.SessionOnce', WHERE WHAT IT READS IS OF BULK AT MOST 1048576: true; the input reads as it did. -/
def sessionOnceUptoRow : OpenClaim := { program := "ytnjcganknpnjcaa", sum := "b032f89493166e60a368c99e067c0e8b5976f6f19b8402f7622537937c27c6c4", func := "hibernacle/hibernaclelaw43.SessionOnce", spec := "sessionOnce", inPlace := ["internal/abi.NoEscape", "internal/bytealg.MakeNoZero", "internal/bytealg.IndexByteString"], unfollowed := true, recurses := true, apart := false, narrowed := true }
def SessionOnceUptoSaid : Prop := sessionOnceUptoRow.holds Try.pinned (OpenSpec.upto sessionOnceSpec)

/-- 'hibernaclelaw43.SessionBent', WHERE WHAT IT READS IS OF BULK AT MOST 1048576: true; the input reads as it did. -/
def sessionBentUptoRow : OpenClaim := { program := "ytnjcganknpnjcaa", sum := "b032f89493166e60a368c99e067c0e8b5976f6f19b8402f7622537937c27c6c4", func := "hibernacle/hibernaclelaw43.SessionBent", spec := "sessionBent", inPlace := ["internal/abi.NoEscape", "internal/bytealg.MakeNoZero", "internal/bytealg.IndexByteString"], unfollowed := true, recurses := true, apart := false, narrowed := true }
def SessionBentUptoSaid : Prop := sessionBentUptoRow.holds Try.pinned (OpenSpec.upto sessionBentSpec)

/-- 'hibernaclelaw43.SessionFar', WHERE WHAT IT READS IS OF BULK AT MOST 1048576: true; the input reads as it did. -/
def sessionFarUptoRow : OpenClaim := { program := "ytnjcganknpnjcaa", sum := "b032f89493166e60a368c99e067c0e8b5976f6f19b8402f7622537937c27c6c4", func := "hibernacle/hibernaclelaw43.SessionFar", spec := "sessionFar", inPlace := ["internal/abi.NoEscape", "internal/bytealg.MakeNoZero", "internal/bytealg.IndexByteString"], unfollowed := true, recurses := true, apart := false, narrowed := true }
def SessionFarUptoSaid : Prop := sessionFarUptoRow.holds Try.pinned (OpenSpec.upto sessionFarSpec)

/-- 'hibernaclelaw43.SessionOther', WHERE WHAT IT READS IS OF BULK AT MOST 1048576: true; the input reads as it did. -/
def sessionOtherUptoRow : OpenClaim := { program := "ytnjcganknpnjcaa", sum := "b032f89493166e60a368c99e067c0e8b5976f6f19b8402f7622537937c27c6c4", func := "hibernacle/hibernaclelaw43.SessionOther", spec := "sessionOther", inPlace := ["internal/abi.NoEscape", "internal/bytealg.MakeNoZero", "internal/bytealg.IndexByteString"], unfollowed := true, recurses := true, apart := false, narrowed := true }
def SessionOtherUptoSaid : Prop := sessionOtherUptoRow.holds Try.pinned (OpenSpec.upto sessionOtherSpec)

/-- 'hibernaclelaw43.SessionSends', WHERE WHAT IT READS IS OF BULK AT MOST 1048576: true; the input reads as it did. -/
def sessionSendsUptoRow : OpenClaim := { program := "ytnjcganknpnjcaa", sum := "b032f89493166e60a368c99e067c0e8b5976f6f19b8402f7622537937c27c6c4", func := "hibernacle/hibernaclelaw43.SessionSends", spec := "sessionSends", inPlace := ["internal/abi.NoEscape", "internal/bytealg.MakeNoZero", "internal/bytealg.IndexByteString"], unfollowed := true, recurses := true, apart := false, narrowed := true }
def SessionSendsUptoSaid : Prop := sessionSendsUptoRow.holds Try.pinned (OpenSpec.upto sessionSendsSpec)

/-- 'hibernaclelaw43.SessionTakes', WHERE WHAT IT READS IS OF BULK AT MOST 1048576: true; the input reads as it did. -/
def sessionTakesUptoRow : OpenClaim := { program := "ytnjcganknpnjcaa", sum := "b032f89493166e60a368c99e067c0e8b5976f6f19b8402f7622537937c27c6c4", func := "hibernacle/hibernaclelaw43.SessionTakes", spec := "sessionTakes", inPlace := ["internal/abi.NoEscape", "internal/bytealg.MakeNoZero", "internal/bytealg.IndexByteString"], unfollowed := true, recurses := true, apart := false, narrowed := true }
def SessionTakesUptoSaid : Prop := sessionTakesUptoRow.holds Try.pinned (OpenSpec.upto sessionTakesSpec)

end Rows
end Go.Proofs.Ytnjcganknpnjcaa
