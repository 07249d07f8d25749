/-
  No cell of these rows narrows 'for every input' (looked for: loops, veiled, ifaces, maps, wideKeys, modest, calm, conditions, laid).
  DERIVED. THE GIVEN ROWS OF THIS SEAT. 21 by the template 'for every input the law returns true; each argument reads behind the call as it read before'; 0 by the template 'total and deterministic' (their statements: YtgiaocfogdkepaaGreatTotals.lean).
  GIVEN WITH THE SEED: the statements are not yours to turn. If you find one false, say at which input.
  Laid BY PROGRAM, IN A SANDBOX (cutbox-rows.mjs): the forced cells as the released guide's own fill.sh prints them over the translation 458848ea0906ad24… (all of the seat's roots in one cut). By AI agents, Wed Nov 11 2026. No macro, syntax, notation, axiom, sorry.
-/
import Derived.Test.YtgiaocfogdkepaaGreatChecked
import GoSem.Claim
import GoSem.ClaimJoined
import GoSem.ClaimMapViews
import Derived.JoinedTies
import Derived.KernelRfl
namespace Go.Proofs.YtgiaocfogdkepaaGreat
/- THE CELL 'sum', in the pinned program and in every row, IS THE sha256 OF THE DUMP (.gsa) THAT YtgiaocfogdkepaaGreatProg.lean LOADS. Nothing in Lean hashes anything: it is a label: what it is worth is what the hold of that sum in a sandbox is worth. -/
noncomputable def Tryz.pinned : Pinned := { name := "ytgiaocfogdkepaagreat", sum := "458848ea0906ad2416938e9f110dafdb11095ba107628259f4f6ab9c847063b1", checked := Tryz.checked }
namespace Rows
def none {H : Type} : Left H := { results := [], args := [] }

/-- 'bootjacktop.TopHeld': WHATEVER THE INPUT: true; the input reads as it did. -/
def topHeldSpec : ChangeSpec := { name := "topHeld", fn := fun _ => fun
  | [d1, d2] => { results := [.lit (.bool true)], args := [d1, d2] }
  | _ => none }
def topHeldRow : OpenClaim := { program := "ytgiaocfogdkepaagreat", sum := "458848ea0906ad2416938e9f110dafdb11095ba107628259f4f6ab9c847063b1", func := "bootjack/bootjacktop.TopHeld", spec := "topHeld", inPlace := ["math/bits.Add64", "math/bits.Sub64"], unfollowed := true, recurses := true, apart := false }
def TopHeldSaid : Prop := topHeldRow.holds Tryz.pinned (OpenSpec.ofChange topHeldSpec)

/-- ITS FALSE NEIGHBOUR: 'it returns false'. Refute it at one input. -/
def topHeldWrong : ChangeSpec := { name := "topHeld", fn := fun _ => fun
  | [d1, d2] => { results := [.lit (.bool false)], args := [d1, d2] }
  | _ => none }
def TopHeldWrongFalsely : Prop := topHeldRow.holds Tryz.pinned (OpenSpec.ofChange topHeldWrong)

/-- 'bootjacktop.TopErases': WHATEVER THE INPUT: true; the input reads as it did. -/
def topErasesSpec : ChangeSpec := { name := "topErases", fn := fun _ => fun
  | [d1, d2, d3, d4, d5, d6] => { results := [.lit (.bool true)], args := [d1, d2, d3, d4, d5, d6] }
  | _ => none }
def topErasesRow : OpenClaim := { program := "ytgiaocfogdkepaagreat", sum := "458848ea0906ad2416938e9f110dafdb11095ba107628259f4f6ab9c847063b1", func := "bootjack/bootjacktop.TopErases", spec := "topErases", inPlace := ["math/bits.Add64", "math/bits.Sub64"], unfollowed := true, recurses := true, apart := false }
def TopErasesSaid : Prop := topErasesRow.holds Tryz.pinned (OpenSpec.ofChange topErasesSpec)

/-- ITS FALSE NEIGHBOUR: 'it returns false'. Refute it at one input. -/
def topErasesWrong : ChangeSpec := { name := "topErases", fn := fun _ => fun
  | [d1, d2, d3, d4, d5, d6] => { results := [.lit (.bool false)], args := [d1, d2, d3, d4, d5, d6] }
  | _ => none }
def TopErasesWrongFalsely : Prop := topErasesRow.holds Tryz.pinned (OpenSpec.ofChange topErasesWrong)

/-- 'bootjacktop.TopParts': WHATEVER THE INPUT: true; the input reads as it did. -/
def topPartsSpec : ChangeSpec := { name := "topParts", fn := fun _ => fun
  | [d1, d2, d3, d4, d5, d6] => { results := [.lit (.bool true)], args := [d1, d2, d3, d4, d5, d6] }
  | _ => none }
def topPartsRow : OpenClaim := { program := "ytgiaocfogdkepaagreat", sum := "458848ea0906ad2416938e9f110dafdb11095ba107628259f4f6ab9c847063b1", func := "bootjack/bootjacktop.TopParts", spec := "topParts", inPlace := ["math/bits.Add64", "math/bits.Sub64"], unfollowed := true, recurses := true, apart := false }
def TopPartsSaid : Prop := topPartsRow.holds Tryz.pinned (OpenSpec.ofChange topPartsSpec)

/-- ITS FALSE NEIGHBOUR: 'it returns false'. Refute it at one input. -/
def topPartsWrong : ChangeSpec := { name := "topParts", fn := fun _ => fun
  | [d1, d2, d3, d4, d5, d6] => { results := [.lit (.bool false)], args := [d1, d2, d3, d4, d5, d6] }
  | _ => none }
def TopPartsWrongFalsely : Prop := topPartsRow.holds Tryz.pinned (OpenSpec.ofChange topPartsWrong)

/-- 'bootjacklaw29.BootChecks': WHATEVER THE INPUT: true; the input reads as it did. -/
def bootChecksSpec : ChangeSpec := { name := "bootChecks", fn := fun _ => fun
  | [d1, d2, d3, d4, d5, d6, d7] => { results := [.lit (.bool true)], args := [d1, d2, d3, d4, d5, d6, d7] }
  | _ => none }
def bootChecksRow : OpenClaim := { program := "ytgiaocfogdkepaagreat", sum := "458848ea0906ad2416938e9f110dafdb11095ba107628259f4f6ab9c847063b1", func := "bootjack/bootjacklaw29.BootChecks", spec := "bootChecks", inPlace := ["math/bits.Add64", "math/bits.Sub64"], unfollowed := true, recurses := true, apart := false }
def BootChecksSaid : Prop := bootChecksRow.holds Tryz.pinned (OpenSpec.ofChange bootChecksSpec)

/-- ITS FALSE NEIGHBOUR: 'it returns false'. Refute it at one input. -/
def bootChecksWrong : ChangeSpec := { name := "bootChecks", fn := fun _ => fun
  | [d1, d2, d3, d4, d5, d6, d7] => { results := [.lit (.bool false)], args := [d1, d2, d3, d4, d5, d6, d7] }
  | _ => none }
def BootChecksWrongFalsely : Prop := bootChecksRow.holds Tryz.pinned (OpenSpec.ofChange bootChecksWrong)

/-- 'bootjacklaw31.DevicePlays': WHATEVER THE INPUT: true; the input reads as it did. -/
def devicePlaysSpec : ChangeSpec := { name := "devicePlays", fn := fun _ => fun
  | [d1, d2] => { results := [.lit (.bool true)], args := [d1, d2] }
  | _ => none }
def devicePlaysRow : OpenClaim := { program := "ytgiaocfogdkepaagreat", sum := "458848ea0906ad2416938e9f110dafdb11095ba107628259f4f6ab9c847063b1", func := "bootjack/bootjacklaw31.DevicePlays", spec := "devicePlays", inPlace := ["math/bits.Add64", "math/bits.Sub64"], unfollowed := true, recurses := true, apart := false }
def DevicePlaysSaid : Prop := devicePlaysRow.holds Tryz.pinned (OpenSpec.ofChange devicePlaysSpec)

/-- ITS FALSE NEIGHBOUR: 'it returns false'. Refute it at one input. -/
def devicePlaysWrong : ChangeSpec := { name := "devicePlays", fn := fun _ => fun
  | [d1, d2] => { results := [.lit (.bool false)], args := [d1, d2] }
  | _ => none }
def DevicePlaysWrongFalsely : Prop := devicePlaysRow.holds Tryz.pinned (OpenSpec.ofChange devicePlaysWrong)

/-- 'bootjacklaw31.DeviceNone': WHATEVER THE INPUT: true; the input reads as it did. -/
def deviceNoneSpec : ChangeSpec := { name := "deviceNone", fn := fun _ => fun
  | [d1, d2] => { results := [.lit (.bool true)], args := [d1, d2] }
  | _ => none }
def deviceNoneRow : OpenClaim := { program := "ytgiaocfogdkepaagreat", sum := "458848ea0906ad2416938e9f110dafdb11095ba107628259f4f6ab9c847063b1", func := "bootjack/bootjacklaw31.DeviceNone", spec := "deviceNone", inPlace := ["math/bits.Add64", "math/bits.Sub64"], unfollowed := true, recurses := true, apart := false }
def DeviceNoneSaid : Prop := deviceNoneRow.holds Tryz.pinned (OpenSpec.ofChange deviceNoneSpec)

/-- ITS FALSE NEIGHBOUR: 'it returns false'. Refute it at one input. -/
def deviceNoneWrong : ChangeSpec := { name := "deviceNone", fn := fun _ => fun
  | [d1, d2] => { results := [.lit (.bool false)], args := [d1, d2] }
  | _ => none }
def DeviceNoneWrongFalsely : Prop := deviceNoneRow.holds Tryz.pinned (OpenSpec.ofChange deviceNoneWrong)

/-- 'bootjacklaw31.DeviceRuns': WHATEVER THE INPUT: true; the input reads as it did. -/
def deviceRunsSpec : ChangeSpec := { name := "deviceRuns", fn := fun _ => fun
  | [d1, d2, d3] => { results := [.lit (.bool true)], args := [d1, d2, d3] }
  | _ => none }
def deviceRunsRow : OpenClaim := { program := "ytgiaocfogdkepaagreat", sum := "458848ea0906ad2416938e9f110dafdb11095ba107628259f4f6ab9c847063b1", func := "bootjack/bootjacklaw31.DeviceRuns", spec := "deviceRuns", inPlace := ["math/bits.Add64", "math/bits.Sub64"], unfollowed := true, recurses := true, apart := false }
def DeviceRunsSaid : Prop := deviceRunsRow.holds Tryz.pinned (OpenSpec.ofChange deviceRunsSpec)

/-- ITS FALSE NEIGHBOUR: 'it returns false'. Refute it at one input. -/
def deviceRunsWrong : ChangeSpec := { name := "deviceRuns", fn := fun _ => fun
  | [d1, d2, d3] => { results := [.lit (.bool false)], args := [d1, d2, d3] }
  | _ => none }
def DeviceRunsWrongFalsely : Prop := deviceRunsRow.holds Tryz.pinned (OpenSpec.ofChange deviceRunsWrong)

/-- 'bootjacklaw28.LoaderErases': WHATEVER THE INPUT: true; the input reads as it did. -/
def loaderErasesSpec : ChangeSpec := { name := "loaderErases", fn := fun _ => fun
  | [d1, d2, d3, d4, d5] => { results := [.lit (.bool true)], args := [d1, d2, d3, d4, d5] }
  | _ => none }
def loaderErasesRow : OpenClaim := { program := "ytgiaocfogdkepaagreat", sum := "458848ea0906ad2416938e9f110dafdb11095ba107628259f4f6ab9c847063b1", func := "bootjack/bootjacklaw28.LoaderErases", spec := "loaderErases", inPlace := ["math/bits.Add64", "math/bits.Sub64"], unfollowed := true, recurses := true, apart := false }
def LoaderErasesSaid : Prop := loaderErasesRow.holds Tryz.pinned (OpenSpec.ofChange loaderErasesSpec)

/-- ITS FALSE NEIGHBOUR: 'it returns false'. Refute it at one input. -/
def loaderErasesWrong : ChangeSpec := { name := "loaderErases", fn := fun _ => fun
  | [d1, d2, d3, d4, d5] => { results := [.lit (.bool false)], args := [d1, d2, d3, d4, d5] }
  | _ => none }
def LoaderErasesWrongFalsely : Prop := loaderErasesRow.holds Tryz.pinned (OpenSpec.ofChange loaderErasesWrong)

/-- 'bootjacklaw29.BootTakes': WHATEVER THE INPUT: true; the input reads as it did. -/
def bootTakesSpec : ChangeSpec := { name := "bootTakes", fn := fun _ => fun
  | [d1, d2, d3, d4, d5] => { results := [.lit (.bool true)], args := [d1, d2, d3, d4, d5] }
  | _ => none }
def bootTakesRow : OpenClaim := { program := "ytgiaocfogdkepaagreat", sum := "458848ea0906ad2416938e9f110dafdb11095ba107628259f4f6ab9c847063b1", func := "bootjack/bootjacklaw29.BootTakes", spec := "bootTakes", inPlace := ["math/bits.Add64", "math/bits.Sub64"], unfollowed := true, recurses := true, apart := false }
def BootTakesSaid : Prop := bootTakesRow.holds Tryz.pinned (OpenSpec.ofChange bootTakesSpec)

/-- ITS FALSE NEIGHBOUR: 'it returns false'. Refute it at one input. -/
def bootTakesWrong : ChangeSpec := { name := "bootTakes", fn := fun _ => fun
  | [d1, d2, d3, d4, d5] => { results := [.lit (.bool false)], args := [d1, d2, d3, d4, d5] }
  | _ => none }
def BootTakesWrongFalsely : Prop := bootTakesRow.holds Tryz.pinned (OpenSpec.ofChange bootTakesWrong)

/-- 'bootjacklaw29.BootFloor': WHATEVER THE INPUT: true; the input reads as it did. -/
def bootFloorSpec : ChangeSpec := { name := "bootFloor", fn := fun _ => fun
  | [d1, d2, d3, d4, d5] => { results := [.lit (.bool true)], args := [d1, d2, d3, d4, d5] }
  | _ => none }
def bootFloorRow : OpenClaim := { program := "ytgiaocfogdkepaagreat", sum := "458848ea0906ad2416938e9f110dafdb11095ba107628259f4f6ab9c847063b1", func := "bootjack/bootjacklaw29.BootFloor", spec := "bootFloor", inPlace := ["math/bits.Add64", "math/bits.Sub64"], unfollowed := true, recurses := true, apart := false }
def BootFloorSaid : Prop := bootFloorRow.holds Tryz.pinned (OpenSpec.ofChange bootFloorSpec)

/-- ITS FALSE NEIGHBOUR: 'it returns false'. Refute it at one input. -/
def bootFloorWrong : ChangeSpec := { name := "bootFloor", fn := fun _ => fun
  | [d1, d2, d3, d4, d5] => { results := [.lit (.bool false)], args := [d1, d2, d3, d4, d5] }
  | _ => none }
def BootFloorWrongFalsely : Prop := bootFloorRow.holds Tryz.pinned (OpenSpec.ofChange bootFloorWrong)

/-- 'bootjacklaw28.LoaderHeld': WHATEVER THE INPUT: true; the input reads as it did. -/
def loaderHeldSpec : ChangeSpec := { name := "loaderHeld", fn := fun _ => fun
  | [d1, d2, d3] => { results := [.lit (.bool true)], args := [d1, d2, d3] }
  | _ => none }
def loaderHeldRow : OpenClaim := { program := "ytgiaocfogdkepaagreat", sum := "458848ea0906ad2416938e9f110dafdb11095ba107628259f4f6ab9c847063b1", func := "bootjack/bootjacklaw28.LoaderHeld", spec := "loaderHeld", inPlace := ["math/bits.Add64", "math/bits.Sub64"], unfollowed := true, recurses := true, apart := false }
def LoaderHeldSaid : Prop := loaderHeldRow.holds Tryz.pinned (OpenSpec.ofChange loaderHeldSpec)

/-- ITS FALSE NEIGHBOUR: 'it returns false'. Refute it at one input. -/
def loaderHeldWrong : ChangeSpec := { name := "loaderHeld", fn := fun _ => fun
  | [d1, d2, d3] => { results := [.lit (.bool false)], args := [d1, d2, d3] }
  | _ => none }
def LoaderHeldWrongFalsely : Prop := loaderHeldRow.holds Tryz.pinned (OpenSpec.ofChange loaderHeldWrong)

/-- 'bootjacklaw28.LoaderOver': WHATEVER THE INPUT: true; the input reads as it did. -/
def loaderOverSpec : ChangeSpec := { name := "loaderOver", fn := fun _ => fun
  | [d1, d2, d3] => { results := [.lit (.bool true)], args := [d1, d2, d3] }
  | _ => none }
def loaderOverRow : OpenClaim := { program := "ytgiaocfogdkepaagreat", sum := "458848ea0906ad2416938e9f110dafdb11095ba107628259f4f6ab9c847063b1", func := "bootjack/bootjacklaw28.LoaderOver", spec := "loaderOver", inPlace := ["math/bits.Add64", "math/bits.Sub64"], unfollowed := true, recurses := true, apart := false }
def LoaderOverSaid : Prop := loaderOverRow.holds Tryz.pinned (OpenSpec.ofChange loaderOverSpec)

/-- ITS FALSE NEIGHBOUR: 'it returns false'. Refute it at one input. -/
def loaderOverWrong : ChangeSpec := { name := "loaderOver", fn := fun _ => fun
  | [d1, d2, d3] => { results := [.lit (.bool false)], args := [d1, d2, d3] }
  | _ => none }
def LoaderOverWrongFalsely : Prop := loaderOverRow.holds Tryz.pinned (OpenSpec.ofChange loaderOverWrong)

/-- 'bootjacklaw29.BootSpoiled': WHATEVER THE INPUT: true; the input reads as it did. -/
def bootSpoiledSpec : ChangeSpec := { name := "bootSpoiled", fn := fun _ => fun
  | [d1, d2, d3, d4, d5, d6] => { results := [.lit (.bool true)], args := [d1, d2, d3, d4, d5, d6] }
  | _ => none }
def bootSpoiledRow : OpenClaim := { program := "ytgiaocfogdkepaagreat", sum := "458848ea0906ad2416938e9f110dafdb11095ba107628259f4f6ab9c847063b1", func := "bootjack/bootjacklaw29.BootSpoiled", spec := "bootSpoiled", inPlace := ["math/bits.Add64", "math/bits.Sub64"], unfollowed := true, recurses := true, apart := false }
def BootSpoiledSaid : Prop := bootSpoiledRow.holds Tryz.pinned (OpenSpec.ofChange bootSpoiledSpec)

/-- ITS FALSE NEIGHBOUR: 'it returns false'. Refute it at one input. -/
def bootSpoiledWrong : ChangeSpec := { name := "bootSpoiled", fn := fun _ => fun
  | [d1, d2, d3, d4, d5, d6] => { results := [.lit (.bool false)], args := [d1, d2, d3, d4, d5, d6] }
  | _ => none }
def BootSpoiledWrongFalsely : Prop := bootSpoiledRow.holds Tryz.pinned (OpenSpec.ofChange bootSpoiledWrong)

/-- 'bootjacklaw29.BootDark': WHATEVER THE INPUT: true; the input reads as it did. -/
def bootDarkSpec : ChangeSpec := { name := "bootDark", fn := fun _ => fun
  | [d1, d2, d3, d4, d5] => { results := [.lit (.bool true)], args := [d1, d2, d3, d4, d5] }
  | _ => none }
def bootDarkRow : OpenClaim := { program := "ytgiaocfogdkepaagreat", sum := "458848ea0906ad2416938e9f110dafdb11095ba107628259f4f6ab9c847063b1", func := "bootjack/bootjacklaw29.BootDark", spec := "bootDark", inPlace := ["math/bits.Add64", "math/bits.Sub64"], unfollowed := true, recurses := true, apart := false }
def BootDarkSaid : Prop := bootDarkRow.holds Tryz.pinned (OpenSpec.ofChange bootDarkSpec)

/-- ITS FALSE NEIGHBOUR: 'it returns false'. Refute it at one input. -/
def bootDarkWrong : ChangeSpec := { name := "bootDark", fn := fun _ => fun
  | [d1, d2, d3, d4, d5] => { results := [.lit (.bool false)], args := [d1, d2, d3, d4, d5] }
  | _ => none }
def BootDarkWrongFalsely : Prop := bootDarkRow.holds Tryz.pinned (OpenSpec.ofChange bootDarkWrong)

/-- 'bootjacklaw28.LoaderPlays': WHATEVER THE INPUT: true; the input reads as it did. -/
def loaderPlaysSpec : ChangeSpec := { name := "loaderPlays", fn := fun _ => fun
  | [d1, d2, d3] => { results := [.lit (.bool true)], args := [d1, d2, d3] }
  | _ => none }
def loaderPlaysRow : OpenClaim := { program := "ytgiaocfogdkepaagreat", sum := "458848ea0906ad2416938e9f110dafdb11095ba107628259f4f6ab9c847063b1", func := "bootjack/bootjacklaw28.LoaderPlays", spec := "loaderPlays", inPlace := ["math/bits.Add64", "math/bits.Sub64"], unfollowed := true, recurses := true, apart := false }
def LoaderPlaysSaid : Prop := loaderPlaysRow.holds Tryz.pinned (OpenSpec.ofChange loaderPlaysSpec)

/-- ITS FALSE NEIGHBOUR: 'it returns false'. Refute it at one input. -/
def loaderPlaysWrong : ChangeSpec := { name := "loaderPlays", fn := fun _ => fun
  | [d1, d2, d3] => { results := [.lit (.bool false)], args := [d1, d2, d3] }
  | _ => none }
def LoaderPlaysWrongFalsely : Prop := loaderPlaysRow.holds Tryz.pinned (OpenSpec.ofChange loaderPlaysWrong)

/-- 'bootjacklaw28.LoaderJudges': WHATEVER THE INPUT: true; the input reads as it did. -/
def loaderJudgesSpec : ChangeSpec := { name := "loaderJudges", fn := fun _ => fun
  | [d1, d2, d3, d4] => { results := [.lit (.bool true)], args := [d1, d2, d3, d4] }
  | _ => none }
def loaderJudgesRow : OpenClaim := { program := "ytgiaocfogdkepaagreat", sum := "458848ea0906ad2416938e9f110dafdb11095ba107628259f4f6ab9c847063b1", func := "bootjack/bootjacklaw28.LoaderJudges", spec := "loaderJudges", inPlace := ["math/bits.Add64", "math/bits.Sub64"], unfollowed := true, recurses := true, apart := false }
def LoaderJudgesSaid : Prop := loaderJudgesRow.holds Tryz.pinned (OpenSpec.ofChange loaderJudgesSpec)

/-- ITS FALSE NEIGHBOUR: 'it returns false'. Refute it at one input. -/
def loaderJudgesWrong : ChangeSpec := { name := "loaderJudges", fn := fun _ => fun
  | [d1, d2, d3, d4] => { results := [.lit (.bool false)], args := [d1, d2, d3, d4] }
  | _ => none }
def LoaderJudgesWrongFalsely : Prop := loaderJudgesRow.holds Tryz.pinned (OpenSpec.ofChange loaderJudgesWrong)

/-- 'bootjacklaw28.LoaderKeeps': WHATEVER THE INPUT: true; the input reads as it did. -/
def loaderKeepsSpec : ChangeSpec := { name := "loaderKeeps", fn := fun _ => fun
  | [d1, d2, d3, d4] => { results := [.lit (.bool true)], args := [d1, d2, d3, d4] }
  | _ => none }
def loaderKeepsRow : OpenClaim := { program := "ytgiaocfogdkepaagreat", sum := "458848ea0906ad2416938e9f110dafdb11095ba107628259f4f6ab9c847063b1", func := "bootjack/bootjacklaw28.LoaderKeeps", spec := "loaderKeeps", inPlace := ["math/bits.Add64", "math/bits.Sub64"], unfollowed := true, recurses := true, apart := false }
def LoaderKeepsSaid : Prop := loaderKeepsRow.holds Tryz.pinned (OpenSpec.ofChange loaderKeepsSpec)

/-- ITS FALSE NEIGHBOUR: 'it returns false'. Refute it at one input. -/
def loaderKeepsWrong : ChangeSpec := { name := "loaderKeeps", fn := fun _ => fun
  | [d1, d2, d3, d4] => { results := [.lit (.bool false)], args := [d1, d2, d3, d4] }
  | _ => none }
def LoaderKeepsWrongFalsely : Prop := loaderKeepsRow.holds Tryz.pinned (OpenSpec.ofChange loaderKeepsWrong)

/-- 'bootjacklaw28.LoaderResumes': WHATEVER THE INPUT: true; the input reads as it did. -/
def loaderResumesSpec : ChangeSpec := { name := "loaderResumes", fn := fun _ => fun
  | [d1, d2, d3, d4] => { results := [.lit (.bool true)], args := [d1, d2, d3, d4] }
  | _ => none }
def loaderResumesRow : OpenClaim := { program := "ytgiaocfogdkepaagreat", sum := "458848ea0906ad2416938e9f110dafdb11095ba107628259f4f6ab9c847063b1", func := "bootjack/bootjacklaw28.LoaderResumes", spec := "loaderResumes", inPlace := ["math/bits.Add64", "math/bits.Sub64"], unfollowed := true, recurses := true, apart := false }
def LoaderResumesSaid : Prop := loaderResumesRow.holds Tryz.pinned (OpenSpec.ofChange loaderResumesSpec)

/-- ITS FALSE NEIGHBOUR: 'it returns false'. Refute it at one input. -/
def loaderResumesWrong : ChangeSpec := { name := "loaderResumes", fn := fun _ => fun
  | [d1, d2, d3, d4] => { results := [.lit (.bool false)], args := [d1, d2, d3, d4] }
  | _ => none }
def LoaderResumesWrongFalsely : Prop := loaderResumesRow.holds Tryz.pinned (OpenSpec.ofChange loaderResumesWrong)

/-- 'bootjacklaw31.DeviceOff': WHATEVER THE INPUT: true; the input reads as it did. -/
def deviceOffSpec : ChangeSpec := { name := "deviceOff", fn := fun _ => fun
  | [d1, d2, d3] => { results := [.lit (.bool true)], args := [d1, d2, d3] }
  | _ => none }
def deviceOffRow : OpenClaim := { program := "ytgiaocfogdkepaagreat", sum := "458848ea0906ad2416938e9f110dafdb11095ba107628259f4f6ab9c847063b1", func := "bootjack/bootjacklaw31.DeviceOff", spec := "deviceOff", inPlace := ["math/bits.Add64", "math/bits.Sub64"], unfollowed := true, recurses := true, apart := false }
def DeviceOffSaid : Prop := deviceOffRow.holds Tryz.pinned (OpenSpec.ofChange deviceOffSpec)

/-- ITS FALSE NEIGHBOUR: 'it returns false'. Refute it at one input. -/
def deviceOffWrong : ChangeSpec := { name := "deviceOff", fn := fun _ => fun
  | [d1, d2, d3] => { results := [.lit (.bool false)], args := [d1, d2, d3] }
  | _ => none }
def DeviceOffWrongFalsely : Prop := deviceOffRow.holds Tryz.pinned (OpenSpec.ofChange deviceOffWrong)

/-- 'bootjacktop.TopSpec': WHATEVER THE INPUT: true; the input reads as it did. -/
def topSpecSpec : ChangeSpec := { name := "topSpec", fn := fun _ => fun
  | [d1, d2, d3, d4, d5, d6] => { results := [.lit (.bool true)], args := [d1, d2, d3, d4, d5, d6] }
  | _ => none }
def topSpecRow : OpenClaim := { program := "ytgiaocfogdkepaagreat", sum := "458848ea0906ad2416938e9f110dafdb11095ba107628259f4f6ab9c847063b1", func := "bootjack/bootjacktop.TopSpec", spec := "topSpec", inPlace := ["math/bits.Add64", "math/bits.Sub64"], unfollowed := true, recurses := true, apart := false }
def TopSpecSaid : Prop := topSpecRow.holds Tryz.pinned (OpenSpec.ofChange topSpecSpec)

/-- ITS FALSE NEIGHBOUR: 'it returns false'. Refute it at one input. -/
def topSpecWrong : ChangeSpec := { name := "topSpec", fn := fun _ => fun
  | [d1, d2, d3, d4, d5, d6] => { results := [.lit (.bool false)], args := [d1, d2, d3, d4, d5, d6] }
  | _ => none }
def TopSpecWrongFalsely : Prop := topSpecRow.holds Tryz.pinned (OpenSpec.ofChange topSpecWrong)

/-- 'bootjacktop.TopAgain': WHATEVER THE INPUT: true; the input reads as it did. -/
def topAgainSpec : ChangeSpec := { name := "topAgain", fn := fun _ => fun
  | [d1, d2, d3, d4, d5, d6] => { results := [.lit (.bool true)], args := [d1, d2, d3, d4, d5, d6] }
  | _ => none }
def topAgainRow : OpenClaim := { program := "ytgiaocfogdkepaagreat", sum := "458848ea0906ad2416938e9f110dafdb11095ba107628259f4f6ab9c847063b1", func := "bootjack/bootjacktop.TopAgain", spec := "topAgain", inPlace := ["math/bits.Add64", "math/bits.Sub64"], unfollowed := true, recurses := true, apart := false }
def TopAgainSaid : Prop := topAgainRow.holds Tryz.pinned (OpenSpec.ofChange topAgainSpec)

/-- ITS FALSE NEIGHBOUR: 'it returns false'. Refute it at one input. -/
def topAgainWrong : ChangeSpec := { name := "topAgain", fn := fun _ => fun
  | [d1, d2, d3, d4, d5, d6] => { results := [.lit (.bool false)], args := [d1, d2, d3, d4, d5, d6] }
  | _ => none }
def TopAgainWrongFalsely : Prop := topAgainRow.holds Tryz.pinned (OpenSpec.ofChange topAgainWrong)

/- THE SECOND FORM. 'bulk': how many values and letters a reading holds, each counted each time it is reached (what is shared counts as often as it is met; a slice's spare places count too). A statement '..UptoSaid' is the law's where the arguments, and the package variables that the reading takes, are together of bulk at most 1048576: NARROWER than '..Said'. Prove '..Said' where nothing that the law and all that it calls make is longer than what came in: it says more and counts as full. Else prove '..UptoSaid'. A law counts once. -/
mutual
def uptoBulk {H : Type} : DataW H → Nat
  | .lit (.string bytes) => bytes.length + 1
  | .lit _ => 1
  | .nil => 1
  | .ptr d => uptoBulk d + 1
  | .slice elems spare => uptoBulkAll elems + uptoBulkAll spare + 1
  | .agg parts => uptoBulkAll parts + 1
  | .iface _ d => uptoBulk d + 1
  | .map entries => uptoBulkEntries entries + 1
  | .held _ => 1
def uptoBulkAll {H : Type} : List (DataW H) → Nat
  | [] => 0
  | d :: r => uptoBulk d + uptoBulkAll r
def uptoBulkEntries {H : Type} : List (Lit × DataW H) → Nat
  | [] => 0
  | x :: r => uptoBulkEntry x + uptoBulkEntries r
def uptoBulkEntry {H : Type} : Lit × DataW H → Nat
  | (.string bytes, d) => bytes.length + uptoBulk d + 1
  | (_, d) => uptoBulk d + 1
 end
def uptoSmall : (H : Type) → List (DataW H) → Bool := fun _ ds => decide (uptoBulkAll ds ≤ 1048576)
def OpenSpec.upto (s : _root_.Go.ChangeSpec) : _root_.Go.OpenSpec := { _root_.Go.OpenSpec.ofChange s with cond := some uptoSmall }

/-- 'bootjacktop.TopHeld', WHERE WHAT IT READS IS OF BULK AT MOST 1048576: true; the input reads as it did. -/
def topHeldUptoRow : OpenClaim := { program := "ytgiaocfogdkepaagreat", sum := "458848ea0906ad2416938e9f110dafdb11095ba107628259f4f6ab9c847063b1", func := "bootjack/bootjacktop.TopHeld", spec := "topHeld", inPlace := ["math/bits.Add64", "math/bits.Sub64"], unfollowed := true, recurses := true, apart := false, narrowed := true }
def TopHeldUptoSaid : Prop := topHeldUptoRow.holds Tryz.pinned (OpenSpec.upto topHeldSpec)

/-- 'bootjacktop.TopErases', WHERE WHAT IT READS IS OF BULK AT MOST 1048576: true; the input reads as it did. -/
def topErasesUptoRow : OpenClaim := { program := "ytgiaocfogdkepaagreat", sum := "458848ea0906ad2416938e9f110dafdb11095ba107628259f4f6ab9c847063b1", func := "bootjack/bootjacktop.TopErases", spec := "topErases", inPlace := ["math/bits.Add64", "math/bits.Sub64"], unfollowed := true, recurses := true, apart := false, narrowed := true }
def TopErasesUptoSaid : Prop := topErasesUptoRow.holds Tryz.pinned (OpenSpec.upto topErasesSpec)

/-- 'bootjacktop.TopParts', WHERE WHAT IT READS IS OF BULK AT MOST 1048576: true; the input reads as it did. -/
def topPartsUptoRow : OpenClaim := { program := "ytgiaocfogdkepaagreat", sum := "458848ea0906ad2416938e9f110dafdb11095ba107628259f4f6ab9c847063b1", func := "bootjack/bootjacktop.TopParts", spec := "topParts", inPlace := ["math/bits.Add64", "math/bits.Sub64"], unfollowed := true, recurses := true, apart := false, narrowed := true }
def TopPartsUptoSaid : Prop := topPartsUptoRow.holds Tryz.pinned (OpenSpec.upto topPartsSpec)

/-- 'bootjacklaw29.BootChecks', WHERE WHAT IT READS IS OF BULK AT MOST 1048576: true; the input reads as it did. -/
def bootChecksUptoRow : OpenClaim := { program := "ytgiaocfogdkepaagreat", sum := "458848ea0906ad2416938e9f110dafdb11095ba107628259f4f6ab9c847063b1", func := "bootjack/bootjacklaw29.BootChecks", spec := "bootChecks", inPlace := ["math/bits.Add64", "math/bits.Sub64"], unfollowed := true, recurses := true, apart := false, narrowed := true }
def BootChecksUptoSaid : Prop := bootChecksUptoRow.holds Tryz.pinned (OpenSpec.upto bootChecksSpec)

/-- 'bootjacklaw31.DevicePlays', WHERE WHAT IT READS IS OF BULK AT MOST 1048576: true; the input reads as it did. -/
def devicePlaysUptoRow : OpenClaim := { program := "ytgiaocfogdkepaagreat", sum := "458848ea0906ad2416938e9f110dafdb11095ba107628259f4f6ab9c847063b1", func := "bootjack/bootjacklaw31.DevicePlays", spec := "devicePlays", inPlace := ["math/bits.Add64", "math/bits.Sub64"], unfollowed := true, recurses := true, apart := false, narrowed := true }
def DevicePlaysUptoSaid : Prop := devicePlaysUptoRow.holds Tryz.pinned (OpenSpec.upto devicePlaysSpec)

/-- 'bootjacklaw31.DeviceNone', WHERE WHAT IT READS IS OF BULK AT MOST 1048576: true; the input reads as it did. -/
def deviceNoneUptoRow : OpenClaim := { program := "ytgiaocfogdkepaagreat", sum := "458848ea0906ad2416938e9f110dafdb11095ba107628259f4f6ab9c847063b1", func := "bootjack/bootjacklaw31.DeviceNone", spec := "deviceNone", inPlace := ["math/bits.Add64", "math/bits.Sub64"], unfollowed := true, recurses := true, apart := false, narrowed := true }
def DeviceNoneUptoSaid : Prop := deviceNoneUptoRow.holds Tryz.pinned (OpenSpec.upto deviceNoneSpec)

/-- 'bootjacklaw31.DeviceRuns', WHERE WHAT IT READS IS OF BULK AT MOST 1048576: true; the input reads as it did. -/
def deviceRunsUptoRow : OpenClaim := { program := "ytgiaocfogdkepaagreat", sum := "458848ea0906ad2416938e9f110dafdb11095ba107628259f4f6ab9c847063b1", func := "bootjack/bootjacklaw31.DeviceRuns", spec := "deviceRuns", inPlace := ["math/bits.Add64", "math/bits.Sub64"], unfollowed := true, recurses := true, apart := false, narrowed := true }
def DeviceRunsUptoSaid : Prop := deviceRunsUptoRow.holds Tryz.pinned (OpenSpec.upto deviceRunsSpec)

/-- 'bootjacklaw28.LoaderErases', WHERE WHAT IT READS IS OF BULK AT MOST 1048576: true; the input reads as it did. -/
def loaderErasesUptoRow : OpenClaim := { program := "ytgiaocfogdkepaagreat", sum := "458848ea0906ad2416938e9f110dafdb11095ba107628259f4f6ab9c847063b1", func := "bootjack/bootjacklaw28.LoaderErases", spec := "loaderErases", inPlace := ["math/bits.Add64", "math/bits.Sub64"], unfollowed := true, recurses := true, apart := false, narrowed := true }
def LoaderErasesUptoSaid : Prop := loaderErasesUptoRow.holds Tryz.pinned (OpenSpec.upto loaderErasesSpec)

/-- 'bootjacklaw29.BootTakes', WHERE WHAT IT READS IS OF BULK AT MOST 1048576: true; the input reads as it did. -/
def bootTakesUptoRow : OpenClaim := { program := "ytgiaocfogdkepaagreat", sum := "458848ea0906ad2416938e9f110dafdb11095ba107628259f4f6ab9c847063b1", func := "bootjack/bootjacklaw29.BootTakes", spec := "bootTakes", inPlace := ["math/bits.Add64", "math/bits.Sub64"], unfollowed := true, recurses := true, apart := false, narrowed := true }
def BootTakesUptoSaid : Prop := bootTakesUptoRow.holds Tryz.pinned (OpenSpec.upto bootTakesSpec)

/-- 'bootjacklaw29.BootFloor', WHERE WHAT IT READS IS OF BULK AT MOST 1048576: true; the input reads as it did. -/
def bootFloorUptoRow : OpenClaim := { program := "ytgiaocfogdkepaagreat", sum := "458848ea0906ad2416938e9f110dafdb11095ba107628259f4f6ab9c847063b1", func := "bootjack/bootjacklaw29.BootFloor", spec := "bootFloor", inPlace := ["math/bits.Add64", "math/bits.Sub64"], unfollowed := true, recurses := true, apart := false, narrowed := true }
def BootFloorUptoSaid : Prop := bootFloorUptoRow.holds Tryz.pinned (OpenSpec.upto bootFloorSpec)

/-- 'bootjacklaw28.LoaderHeld', WHERE WHAT IT READS IS OF BULK AT MOST 1048576: true; the input reads as it did. -/
def loaderHeldUptoRow : OpenClaim := { program := "ytgiaocfogdkepaagreat", sum := "458848ea0906ad2416938e9f110dafdb11095ba107628259f4f6ab9c847063b1", func := "bootjack/bootjacklaw28.LoaderHeld", spec := "loaderHeld", inPlace := ["math/bits.Add64", "math/bits.Sub64"], unfollowed := true, recurses := true, apart := false, narrowed := true }
def LoaderHeldUptoSaid : Prop := loaderHeldUptoRow.holds Tryz.pinned (OpenSpec.upto loaderHeldSpec)

/-- 'bootjacklaw28.LoaderOver', WHERE WHAT IT READS IS OF BULK AT MOST 1048576: true; the input reads as it did. -/
def loaderOverUptoRow : OpenClaim := { program := "ytgiaocfogdkepaagreat", sum := "458848ea0906ad2416938e9f110dafdb11095ba107628259f4f6ab9c847063b1", func := "bootjack/bootjacklaw28.LoaderOver", spec := "loaderOver", inPlace := ["math/bits.Add64", "math/bits.Sub64"], unfollowed := true, recurses := true, apart := false, narrowed := true }
def LoaderOverUptoSaid : Prop := loaderOverUptoRow.holds Tryz.pinned (OpenSpec.upto loaderOverSpec)

/-- 'bootjacklaw29.BootSpoiled', WHERE WHAT IT READS IS OF BULK AT MOST 1048576: true; the input reads as it did. -/
def bootSpoiledUptoRow : OpenClaim := { program := "ytgiaocfogdkepaagreat", sum := "458848ea0906ad2416938e9f110dafdb11095ba107628259f4f6ab9c847063b1", func := "bootjack/bootjacklaw29.BootSpoiled", spec := "bootSpoiled", inPlace := ["math/bits.Add64", "math/bits.Sub64"], unfollowed := true, recurses := true, apart := false, narrowed := true }
def BootSpoiledUptoSaid : Prop := bootSpoiledUptoRow.holds Tryz.pinned (OpenSpec.upto bootSpoiledSpec)

/-- 'bootjacklaw29.BootDark', WHERE WHAT IT READS IS OF BULK AT MOST 1048576: true; the input reads as it did. -/
def bootDarkUptoRow : OpenClaim := { program := "ytgiaocfogdkepaagreat", sum := "458848ea0906ad2416938e9f110dafdb11095ba107628259f4f6ab9c847063b1", func := "bootjack/bootjacklaw29.BootDark", spec := "bootDark", inPlace := ["math/bits.Add64", "math/bits.Sub64"], unfollowed := true, recurses := true, apart := false, narrowed := true }
def BootDarkUptoSaid : Prop := bootDarkUptoRow.holds Tryz.pinned (OpenSpec.upto bootDarkSpec)

/-- 'bootjacklaw28.LoaderPlays', WHERE WHAT IT READS IS OF BULK AT MOST 1048576: true; the input reads as it did. -/
def loaderPlaysUptoRow : OpenClaim := { program := "ytgiaocfogdkepaagreat", sum := "458848ea0906ad2416938e9f110dafdb11095ba107628259f4f6ab9c847063b1", func := "bootjack/bootjacklaw28.LoaderPlays", spec := "loaderPlays", inPlace := ["math/bits.Add64", "math/bits.Sub64"], unfollowed := true, recurses := true, apart := false, narrowed := true }
def LoaderPlaysUptoSaid : Prop := loaderPlaysUptoRow.holds Tryz.pinned (OpenSpec.upto loaderPlaysSpec)

/-- 'bootjacklaw28.LoaderJudges', WHERE WHAT IT READS IS OF BULK AT MOST 1048576: true; the input reads as it did. -/
def loaderJudgesUptoRow : OpenClaim := { program := "ytgiaocfogdkepaagreat", sum := "458848ea0906ad2416938e9f110dafdb11095ba107628259f4f6ab9c847063b1", func := "bootjack/bootjacklaw28.LoaderJudges", spec := "loaderJudges", inPlace := ["math/bits.Add64", "math/bits.Sub64"], unfollowed := true, recurses := true, apart := false, narrowed := true }
def LoaderJudgesUptoSaid : Prop := loaderJudgesUptoRow.holds Tryz.pinned (OpenSpec.upto loaderJudgesSpec)

/-- 'bootjacklaw28.LoaderKeeps', WHERE WHAT IT READS IS OF BULK AT MOST 1048576: true; the input reads as it did. -/
def loaderKeepsUptoRow : OpenClaim := { program := "ytgiaocfogdkepaagreat", sum := "458848ea0906ad2416938e9f110dafdb11095ba107628259f4f6ab9c847063b1", func := "bootjack/bootjacklaw28.LoaderKeeps", spec := "loaderKeeps", inPlace := ["math/bits.Add64", "math/bits.Sub64"], unfollowed := true, recurses := true, apart := false, narrowed := true }
def LoaderKeepsUptoSaid : Prop := loaderKeepsUptoRow.holds Tryz.pinned (OpenSpec.upto loaderKeepsSpec)

/-- 'bootjacklaw28.LoaderResumes', WHERE WHAT IT READS IS OF BULK AT MOST 1048576: true; the input reads as it did. -/
def loaderResumesUptoRow : OpenClaim := { program := "ytgiaocfogdkepaagreat", sum := "458848ea0906ad2416938e9f110dafdb11095ba107628259f4f6ab9c847063b1", func := "bootjack/bootjacklaw28.LoaderResumes", spec := "loaderResumes", inPlace := ["math/bits.Add64", "math/bits.Sub64"], unfollowed := true, recurses := true, apart := false, narrowed := true }
def LoaderResumesUptoSaid : Prop := loaderResumesUptoRow.holds Tryz.pinned (OpenSpec.upto loaderResumesSpec)

/-- 'bootjacklaw31.DeviceOff', WHERE WHAT IT READS IS OF BULK AT MOST 1048576: true; the input reads as it did. -/
def deviceOffUptoRow : OpenClaim := { program := "ytgiaocfogdkepaagreat", sum := "458848ea0906ad2416938e9f110dafdb11095ba107628259f4f6ab9c847063b1", func := "bootjack/bootjacklaw31.DeviceOff", spec := "deviceOff", inPlace := ["math/bits.Add64", "math/bits.Sub64"], unfollowed := true, recurses := true, apart := false, narrowed := true }
def DeviceOffUptoSaid : Prop := deviceOffUptoRow.holds Tryz.pinned (OpenSpec.upto deviceOffSpec)

/-- 'bootjacktop.TopSpec', WHERE WHAT IT READS IS OF BULK AT MOST 1048576: true; the input reads as it did. -/
def topSpecUptoRow : OpenClaim := { program := "ytgiaocfogdkepaagreat", sum := "458848ea0906ad2416938e9f110dafdb11095ba107628259f4f6ab9c847063b1", func := "bootjack/bootjacktop.TopSpec", spec := "topSpec", inPlace := ["math/bits.Add64", "math/bits.Sub64"], unfollowed := true, recurses := true, apart := false, narrowed := true }
def TopSpecUptoSaid : Prop := topSpecUptoRow.holds Tryz.pinned (OpenSpec.upto topSpecSpec)

/-- 'bootjacktop.TopAgain', WHERE WHAT IT READS IS OF BULK AT MOST 1048576: true; the input reads as it did. -/
def topAgainUptoRow : OpenClaim := { program := "ytgiaocfogdkepaagreat", sum := "458848ea0906ad2416938e9f110dafdb11095ba107628259f4f6ab9c847063b1", func := "bootjack/bootjacktop.TopAgain", spec := "topAgain", inPlace := ["math/bits.Add64", "math/bits.Sub64"], unfollowed := true, recurses := true, apart := false, narrowed := true }
def TopAgainUptoSaid : Prop := topAgainUptoRow.holds Tryz.pinned (OpenSpec.upto topAgainSpec)

end Rows
end Go.Proofs.YtgiaocfogdkepaaGreat
