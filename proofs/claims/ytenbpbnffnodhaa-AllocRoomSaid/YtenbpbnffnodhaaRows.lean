/-
  No cell of these rows narrows 'for every input' (looked for: loops, veiled, ifaces, maps, wideKeys, modest, calm, conditions, laid).
  DERIVED. THE GIVEN ROWS OF THIS SEAT. 23 by the template 'for every input the law returns true; each argument reads behind the call as it read before'; 0 by the template 'total and deterministic' (their statements: YtenbpbnffnodhaaTotals.lean).
  GIVEN WITH THE SEED: the statements are not yours to turn. If you find one false, say at which input.
  Laid BY PROGRAM, IN A SANDBOX (cutbox-rows.mjs): the forced cells as the released guide's own fill.sh prints them over the translation 0e9c308451c08f08… (all of the seat's roots in one cut). By AI agents, Wed Nov 11 2026. No macro, syntax, notation, axiom, sorry.
-/
import Derived.Test.YtenbpbnffnodhaaChecked
import GoSem.Claim
import GoSem.ClaimJoined
import GoSem.ClaimMapViews
import Derived.JoinedTies
import Derived.KernelRfl
namespace Go.Proofs.Ytenbpbnffnodhaa
/- THE CELL 'sum', in the pinned program and in every row, IS THE sha256 OF THE DUMP (.gsa) THAT YtenbpbnffnodhaaProg.lean LOADS. Nothing in Lean hashes anything: it is a label: what it is worth is what the hold of that sum in a sandbox is worth. -/
noncomputable def Try.pinned : Pinned := { name := "ytenbpbnffnodhaa", sum := "0e9c308451c08f08643d9d3a503074e8dc66013f8414c3d7961d3d8782feed39", checked := Try.checked }
namespace Rows
def none {H : Type} : Left H := { results := [], args := [] }

/-- 'cantlelaw04.DiskStands': WHATEVER THE INPUT: true; the input reads as it did. -/
def diskStandsSpec : ChangeSpec := { name := "diskStands", fn := fun _ => fun
  | [d1, d2, d3] => { results := [.lit (.bool true)], args := [d1, d2, d3] }
  | _ => none }
def diskStandsRow : OpenClaim := { program := "ytenbpbnffnodhaa", sum := "0e9c308451c08f08643d9d3a503074e8dc66013f8414c3d7961d3d8782feed39", func := "cantle/cantlelaw04.DiskStands", spec := "diskStands", unfollowed := true, recurses := true, plainKeys := false, apart := false }
def DiskStandsSaid : Prop := diskStandsRow.holds Try.pinned (OpenSpec.ofChange diskStandsSpec)

/-- ITS FALSE NEIGHBOUR: 'it returns false'. Refute it at one input. -/
def diskStandsWrong : ChangeSpec := { name := "diskStands", fn := fun _ => fun
  | [d1, d2, d3] => { results := [.lit (.bool false)], args := [d1, d2, d3] }
  | _ => none }
def DiskStandsWrongFalsely : Prop := diskStandsRow.holds Try.pinned (OpenSpec.ofChange diskStandsWrong)

/-- 'cantlelaw04.DiskPlays': WHATEVER THE INPUT: true; the input reads as it did. -/
def diskPlaysSpec : ChangeSpec := { name := "diskPlays", fn := fun _ => fun
  | [d1, d2, d3] => { results := [.lit (.bool true)], args := [d1, d2, d3] }
  | _ => none }
def diskPlaysRow : OpenClaim := { program := "ytenbpbnffnodhaa", sum := "0e9c308451c08f08643d9d3a503074e8dc66013f8414c3d7961d3d8782feed39", func := "cantle/cantlelaw04.DiskPlays", spec := "diskPlays", unfollowed := true, recurses := true, plainKeys := false, apart := false }
def DiskPlaysSaid : Prop := diskPlaysRow.holds Try.pinned (OpenSpec.ofChange diskPlaysSpec)

/-- ITS FALSE NEIGHBOUR: 'it returns false'. Refute it at one input. -/
def diskPlaysWrong : ChangeSpec := { name := "diskPlays", fn := fun _ => fun
  | [d1, d2, d3] => { results := [.lit (.bool false)], args := [d1, d2, d3] }
  | _ => none }
def DiskPlaysWrongFalsely : Prop := diskPlaysRow.holds Try.pinned (OpenSpec.ofChange diskPlaysWrong)

/-- 'cantlelaw03.ArenaPlays': WHATEVER THE INPUT: true; the input reads as it did. -/
def arenaPlaysSpec : ChangeSpec := { name := "arenaPlays", fn := fun _ => fun
  | [d1, d2, d3] => { results := [.lit (.bool true)], args := [d1, d2, d3] }
  | _ => none }
def arenaPlaysRow : OpenClaim := { program := "ytenbpbnffnodhaa", sum := "0e9c308451c08f08643d9d3a503074e8dc66013f8414c3d7961d3d8782feed39", func := "cantle/cantlelaw03.ArenaPlays", spec := "arenaPlays", plainKeys := false, apart := false }
def ArenaPlaysSaid : Prop := arenaPlaysRow.holds Try.pinned (OpenSpec.ofChange arenaPlaysSpec)

/-- ITS FALSE NEIGHBOUR: 'it returns false'. Refute it at one input. -/
def arenaPlaysWrong : ChangeSpec := { name := "arenaPlays", fn := fun _ => fun
  | [d1, d2, d3] => { results := [.lit (.bool false)], args := [d1, d2, d3] }
  | _ => none }
def ArenaPlaysWrongFalsely : Prop := arenaPlaysRow.holds Try.pinned (OpenSpec.ofChange arenaPlaysWrong)

/-- 'cantlelaw05.ExtentTells': WHATEVER THE INPUT: true; the input reads as it did. -/
def extentTellsSpec : ChangeSpec := { name := "extentTells", fn := fun _ => fun
  | [d1, d2, d3, d4, d5, d6, d7] => { results := [.lit (.bool true)], args := [d1, d2, d3, d4, d5, d6, d7] }
  | _ => none }
def extentTellsRow : OpenClaim := { program := "ytenbpbnffnodhaa", sum := "0e9c308451c08f08643d9d3a503074e8dc66013f8414c3d7961d3d8782feed39", func := "cantle/cantlelaw05.ExtentTells", spec := "extentTells", unfollowed := true, recurses := true, plainKeys := false, apart := false }
def ExtentTellsSaid : Prop := extentTellsRow.holds Try.pinned (OpenSpec.ofChange extentTellsSpec)

/-- ITS FALSE NEIGHBOUR: 'it returns false'. Refute it at one input. -/
def extentTellsWrong : ChangeSpec := { name := "extentTells", fn := fun _ => fun
  | [d1, d2, d3, d4, d5, d6, d7] => { results := [.lit (.bool false)], args := [d1, d2, d3, d4, d5, d6, d7] }
  | _ => none }
def ExtentTellsWrongFalsely : Prop := extentTellsRow.holds Try.pinned (OpenSpec.ofChange extentTellsWrong)

/-- 'cantlelaw05.ExtentBack': WHATEVER THE INPUT: true; the input reads as it did. -/
def extentBackSpec : ChangeSpec := { name := "extentBack", fn := fun _ => fun
  | [d1, d2, d3, d4] => { results := [.lit (.bool true)], args := [d1, d2, d3, d4] }
  | _ => none }
def extentBackRow : OpenClaim := { program := "ytenbpbnffnodhaa", sum := "0e9c308451c08f08643d9d3a503074e8dc66013f8414c3d7961d3d8782feed39", func := "cantle/cantlelaw05.ExtentBack", spec := "extentBack", unfollowed := true, recurses := true, plainKeys := false, apart := false }
def ExtentBackSaid : Prop := extentBackRow.holds Try.pinned (OpenSpec.ofChange extentBackSpec)

/-- ITS FALSE NEIGHBOUR: 'it returns false'. Refute it at one input. -/
def extentBackWrong : ChangeSpec := { name := "extentBack", fn := fun _ => fun
  | [d1, d2, d3, d4] => { results := [.lit (.bool false)], args := [d1, d2, d3, d4] }
  | _ => none }
def ExtentBackWrongFalsely : Prop := extentBackRow.holds Try.pinned (OpenSpec.ofChange extentBackWrong)

/-- 'cantlelaw07.BlockBack': WHATEVER THE INPUT: true; the input reads as it did. -/
def blockBackSpec : ChangeSpec := { name := "blockBack", fn := fun _ => fun
  | [d1, d2, d3, d4] => { results := [.lit (.bool true)], args := [d1, d2, d3, d4] }
  | _ => none }
def blockBackRow : OpenClaim := { program := "ytenbpbnffnodhaa", sum := "0e9c308451c08f08643d9d3a503074e8dc66013f8414c3d7961d3d8782feed39", func := "cantle/cantlelaw07.BlockBack", spec := "blockBack", plainKeys := false, apart := false }
def BlockBackSaid : Prop := blockBackRow.holds Try.pinned (OpenSpec.ofChange blockBackSpec)

/-- ITS FALSE NEIGHBOUR: 'it returns false'. Refute it at one input. -/
def blockBackWrong : ChangeSpec := { name := "blockBack", fn := fun _ => fun
  | [d1, d2, d3, d4] => { results := [.lit (.bool false)], args := [d1, d2, d3, d4] }
  | _ => none }
def BlockBackWrongFalsely : Prop := blockBackRow.holds Try.pinned (OpenSpec.ofChange blockBackWrong)

/-- 'cantlelaw07.BlockTells': WHATEVER THE INPUT: true; the input reads as it did. -/
def blockTellsSpec : ChangeSpec := { name := "blockTells", fn := fun _ => fun
  | [d1, d2, d3, d4] => { results := [.lit (.bool true)], args := [d1, d2, d3, d4] }
  | _ => none }
def blockTellsRow : OpenClaim := { program := "ytenbpbnffnodhaa", sum := "0e9c308451c08f08643d9d3a503074e8dc66013f8414c3d7961d3d8782feed39", func := "cantle/cantlelaw07.BlockTells", spec := "blockTells", plainKeys := false, apart := false }
def BlockTellsSaid : Prop := blockTellsRow.holds Try.pinned (OpenSpec.ofChange blockTellsSpec)

/-- ITS FALSE NEIGHBOUR: 'it returns false'. Refute it at one input. -/
def blockTellsWrong : ChangeSpec := { name := "blockTells", fn := fun _ => fun
  | [d1, d2, d3, d4] => { results := [.lit (.bool false)], args := [d1, d2, d3, d4] }
  | _ => none }
def BlockTellsWrongFalsely : Prop := blockTellsRow.holds Try.pinned (OpenSpec.ofChange blockTellsWrong)

/-- 'cantlelaw15.ImagePuts': WHATEVER THE INPUT: true; the input reads as it did. -/
def imagePutsSpec : ChangeSpec := { name := "imagePuts", fn := fun _ => fun
  | [d1, d2, d3] => { results := [.lit (.bool true)], args := [d1, d2, d3] }
  | _ => none }
def imagePutsRow : OpenClaim := { program := "ytenbpbnffnodhaa", sum := "0e9c308451c08f08643d9d3a503074e8dc66013f8414c3d7961d3d8782feed39", func := "cantle/cantlelaw15.ImagePuts", spec := "imagePuts", inPlace := ["internal/bytealg.MakeNoZero"], plainKeys := false, apart := false }
def ImagePutsSaid : Prop := imagePutsRow.holds Try.pinned (OpenSpec.ofChange imagePutsSpec)

/-- ITS FALSE NEIGHBOUR: 'it returns false'. Refute it at one input. -/
def imagePutsWrong : ChangeSpec := { name := "imagePuts", fn := fun _ => fun
  | [d1, d2, d3] => { results := [.lit (.bool false)], args := [d1, d2, d3] }
  | _ => none }
def ImagePutsWrongFalsely : Prop := imagePutsRow.holds Try.pinned (OpenSpec.ofChange imagePutsWrong)

/-- 'cantlelaw15.ImageGets': WHATEVER THE INPUT: true; the input reads as it did. -/
def imageGetsSpec : ChangeSpec := { name := "imageGets", fn := fun _ => fun
  | [d] => { results := [.lit (.bool true)], args := [d] }
  | _ => none }
def imageGetsRow : OpenClaim := { program := "ytenbpbnffnodhaa", sum := "0e9c308451c08f08643d9d3a503074e8dc66013f8414c3d7961d3d8782feed39", func := "cantle/cantlelaw15.ImageGets", spec := "imageGets", inPlace := ["internal/bytealg.MakeNoZero"], plainKeys := false, apart := false }
def ImageGetsSaid : Prop := imageGetsRow.holds Try.pinned (OpenSpec.ofChange imageGetsSpec)

/-- ITS FALSE NEIGHBOUR: 'it returns false'. Refute it at one input. -/
def imageGetsWrong : ChangeSpec := { name := "imageGets", fn := fun _ => fun
  | [d] => { results := [.lit (.bool false)], args := [d] }
  | _ => none }
def ImageGetsWrongFalsely : Prop := imageGetsRow.holds Try.pinned (OpenSpec.ofChange imageGetsWrong)

/-- 'cantlelaw15.ImageBack': WHATEVER THE INPUT: true; the input reads as it did. -/
def imageBackSpec : ChangeSpec := { name := "imageBack", fn := fun _ => fun
  | [d1, d2, d3, d4, d5, d6, d7] => { results := [.lit (.bool true)], args := [d1, d2, d3, d4, d5, d6, d7] }
  | _ => none }
def imageBackRow : OpenClaim := { program := "ytenbpbnffnodhaa", sum := "0e9c308451c08f08643d9d3a503074e8dc66013f8414c3d7961d3d8782feed39", func := "cantle/cantlelaw15.ImageBack", spec := "imageBack", inPlace := ["internal/bytealg.MakeNoZero"], plainKeys := false, apart := false }
def ImageBackSaid : Prop := imageBackRow.holds Try.pinned (OpenSpec.ofChange imageBackSpec)

/-- ITS FALSE NEIGHBOUR: 'it returns false'. Refute it at one input. -/
def imageBackWrong : ChangeSpec := { name := "imageBack", fn := fun _ => fun
  | [d1, d2, d3, d4, d5, d6, d7] => { results := [.lit (.bool false)], args := [d1, d2, d3, d4, d5, d6, d7] }
  | _ => none }
def ImageBackWrongFalsely : Prop := imageBackRow.holds Try.pinned (OpenSpec.ofChange imageBackWrong)

/-- 'cantlelaw11.CheckTells': WHATEVER THE INPUT: true; the input reads as it did. -/
def checkTellsSpec : ChangeSpec := { name := "checkTells", fn := fun _ => fun
  | [d1, d2, d3] => { results := [.lit (.bool true)], args := [d1, d2, d3] }
  | _ => none }
def checkTellsRow : OpenClaim := { program := "ytenbpbnffnodhaa", sum := "0e9c308451c08f08643d9d3a503074e8dc66013f8414c3d7961d3d8782feed39", func := "cantle/cantlelaw11.CheckTells", spec := "checkTells", plainKeys := false, apart := false }
def CheckTellsSaid : Prop := checkTellsRow.holds Try.pinned (OpenSpec.ofChange checkTellsSpec)

/-- ITS FALSE NEIGHBOUR: 'it returns false'. Refute it at one input. -/
def checkTellsWrong : ChangeSpec := { name := "checkTells", fn := fun _ => fun
  | [d1, d2, d3] => { results := [.lit (.bool false)], args := [d1, d2, d3] }
  | _ => none }
def CheckTellsWrongFalsely : Prop := checkTellsRow.holds Try.pinned (OpenSpec.ofChange checkTellsWrong)

/-- 'cantlelaw09.ListFirst': WHATEVER THE INPUT: true; the input reads as it did. -/
def listFirstSpec : ChangeSpec := { name := "listFirst", fn := fun _ => fun
  | [d1, d2, d3] => { results := [.lit (.bool true)], args := [d1, d2, d3] }
  | _ => none }
def listFirstRow : OpenClaim := { program := "ytenbpbnffnodhaa", sum := "0e9c308451c08f08643d9d3a503074e8dc66013f8414c3d7961d3d8782feed39", func := "cantle/cantlelaw09.ListFirst", spec := "listFirst", plainKeys := false, apart := false }
def ListFirstSaid : Prop := listFirstRow.holds Try.pinned (OpenSpec.ofChange listFirstSpec)

/-- ITS FALSE NEIGHBOUR: 'it returns false'. Refute it at one input. -/
def listFirstWrong : ChangeSpec := { name := "listFirst", fn := fun _ => fun
  | [d1, d2, d3] => { results := [.lit (.bool false)], args := [d1, d2, d3] }
  | _ => none }
def ListFirstWrongFalsely : Prop := listFirstRow.holds Try.pinned (OpenSpec.ofChange listFirstWrong)

/-- 'cantlelaw10.FitAll': WHATEVER THE INPUT: true; the input reads as it did. -/
def fitAllSpec : ChangeSpec := { name := "fitAll", fn := fun _ => fun
  | [d1, d2, d3] => { results := [.lit (.bool true)], args := [d1, d2, d3] }
  | _ => none }
def fitAllRow : OpenClaim := { program := "ytenbpbnffnodhaa", sum := "0e9c308451c08f08643d9d3a503074e8dc66013f8414c3d7961d3d8782feed39", func := "cantle/cantlelaw10.FitAll", spec := "fitAll", plainKeys := false, apart := false }
def FitAllSaid : Prop := fitAllRow.holds Try.pinned (OpenSpec.ofChange fitAllSpec)

/-- ITS FALSE NEIGHBOUR: 'it returns false'. Refute it at one input. -/
def fitAllWrong : ChangeSpec := { name := "fitAll", fn := fun _ => fun
  | [d1, d2, d3] => { results := [.lit (.bool false)], args := [d1, d2, d3] }
  | _ => none }
def FitAllWrongFalsely : Prop := fitAllRow.holds Try.pinned (OpenSpec.ofChange fitAllWrong)

/-- 'cantlelaw10.FitTells': WHATEVER THE INPUT: true; the input reads as it did. -/
def fitTellsSpec : ChangeSpec := { name := "fitTells", fn := fun _ => fun
  | [d1, d2, d3] => { results := [.lit (.bool true)], args := [d1, d2, d3] }
  | _ => none }
def fitTellsRow : OpenClaim := { program := "ytenbpbnffnodhaa", sum := "0e9c308451c08f08643d9d3a503074e8dc66013f8414c3d7961d3d8782feed39", func := "cantle/cantlelaw10.FitTells", spec := "fitTells", plainKeys := false, apart := false }
def FitTellsSaid : Prop := fitTellsRow.holds Try.pinned (OpenSpec.ofChange fitTellsSpec)

/-- ITS FALSE NEIGHBOUR: 'it returns false'. Refute it at one input. -/
def fitTellsWrong : ChangeSpec := { name := "fitTells", fn := fun _ => fun
  | [d1, d2, d3] => { results := [.lit (.bool false)], args := [d1, d2, d3] }
  | _ => none }
def FitTellsWrongFalsely : Prop := fitTellsRow.holds Try.pinned (OpenSpec.ofChange fitTellsWrong)

/-- 'cantlelaw11.CheckBuilt': WHATEVER THE INPUT: true; the input reads as it did. -/
def checkBuiltSpec : ChangeSpec := { name := "checkBuilt", fn := fun _ => fun
  | [d1, d2, d3, d4] => { results := [.lit (.bool true)], args := [d1, d2, d3, d4] }
  | _ => none }
def checkBuiltRow : OpenClaim := { program := "ytenbpbnffnodhaa", sum := "0e9c308451c08f08643d9d3a503074e8dc66013f8414c3d7961d3d8782feed39", func := "cantle/cantlelaw11.CheckBuilt", spec := "checkBuilt", plainKeys := false, apart := false }
def CheckBuiltSaid : Prop := checkBuiltRow.holds Try.pinned (OpenSpec.ofChange checkBuiltSpec)

/-- ITS FALSE NEIGHBOUR: 'it returns false'. Refute it at one input. -/
def checkBuiltWrong : ChangeSpec := { name := "checkBuilt", fn := fun _ => fun
  | [d1, d2, d3, d4] => { results := [.lit (.bool false)], args := [d1, d2, d3, d4] }
  | _ => none }
def CheckBuiltWrongFalsely : Prop := checkBuiltRow.holds Try.pinned (OpenSpec.ofChange checkBuiltWrong)

/-- 'cantlelaw16.RestoreTells': WHATEVER THE INPUT: true; the input reads as it did. -/
def restoreTellsSpec : ChangeSpec := { name := "restoreTells", fn := fun _ => fun
  | [d1, d2, d3, d4, d5] => { results := [.lit (.bool true)], args := [d1, d2, d3, d4, d5] }
  | _ => none }
def restoreTellsRow : OpenClaim := { program := "ytenbpbnffnodhaa", sum := "0e9c308451c08f08643d9d3a503074e8dc66013f8414c3d7961d3d8782feed39", func := "cantle/cantlelaw16.RestoreTells", spec := "restoreTells", plainKeys := false, apart := false }
def RestoreTellsSaid : Prop := restoreTellsRow.holds Try.pinned (OpenSpec.ofChange restoreTellsSpec)

/-- ITS FALSE NEIGHBOUR: 'it returns false'. Refute it at one input. -/
def restoreTellsWrong : ChangeSpec := { name := "restoreTells", fn := fun _ => fun
  | [d1, d2, d3, d4, d5] => { results := [.lit (.bool false)], args := [d1, d2, d3, d4, d5] }
  | _ => none }
def RestoreTellsWrongFalsely : Prop := restoreTellsRow.holds Try.pinned (OpenSpec.ofChange restoreTellsWrong)

/-- 'cantlelaw16.RestoreBack': WHATEVER THE INPUT: true; the input reads as it did. -/
def restoreBackSpec : ChangeSpec := { name := "restoreBack", fn := fun _ => fun
  | [d1, d2, d3, d4, d5] => { results := [.lit (.bool true)], args := [d1, d2, d3, d4, d5] }
  | _ => none }
def restoreBackRow : OpenClaim := { program := "ytenbpbnffnodhaa", sum := "0e9c308451c08f08643d9d3a503074e8dc66013f8414c3d7961d3d8782feed39", func := "cantle/cantlelaw16.RestoreBack", spec := "restoreBack", plainKeys := false, apart := false }
def RestoreBackSaid : Prop := restoreBackRow.holds Try.pinned (OpenSpec.ofChange restoreBackSpec)

/-- ITS FALSE NEIGHBOUR: 'it returns false'. Refute it at one input. -/
def restoreBackWrong : ChangeSpec := { name := "restoreBack", fn := fun _ => fun
  | [d1, d2, d3, d4, d5] => { results := [.lit (.bool false)], args := [d1, d2, d3, d4, d5] }
  | _ => none }
def RestoreBackWrongFalsely : Prop := restoreBackRow.holds Try.pinned (OpenSpec.ofChange restoreBackWrong)

/-- 'cantlelaw12.AllocPlays': WHATEVER THE INPUT: true; the input reads as it did. -/
def allocPlaysSpec : ChangeSpec := { name := "allocPlays", fn := fun _ => fun
  | [d1, d2, d3] => { results := [.lit (.bool true)], args := [d1, d2, d3] }
  | _ => none }
def allocPlaysRow : OpenClaim := { program := "ytenbpbnffnodhaa", sum := "0e9c308451c08f08643d9d3a503074e8dc66013f8414c3d7961d3d8782feed39", func := "cantle/cantlelaw12.AllocPlays", spec := "allocPlays", plainKeys := false, apart := false }
def AllocPlaysSaid : Prop := allocPlaysRow.holds Try.pinned (OpenSpec.ofChange allocPlaysSpec)

/-- ITS FALSE NEIGHBOUR: 'it returns false'. Refute it at one input. -/
def allocPlaysWrong : ChangeSpec := { name := "allocPlays", fn := fun _ => fun
  | [d1, d2, d3] => { results := [.lit (.bool false)], args := [d1, d2, d3] }
  | _ => none }
def AllocPlaysWrongFalsely : Prop := allocPlaysRow.holds Try.pinned (OpenSpec.ofChange allocPlaysWrong)

/-- 'cantlelaw12.AllocRoom': WHATEVER THE INPUT: true; the input reads as it did. -/
def allocRoomSpec : ChangeSpec := { name := "allocRoom", fn := fun _ => fun
  | [d1, d2, d3] => { results := [.lit (.bool true)], args := [d1, d2, d3] }
  | _ => none }
def allocRoomRow : OpenClaim := { program := "ytenbpbnffnodhaa", sum := "0e9c308451c08f08643d9d3a503074e8dc66013f8414c3d7961d3d8782feed39", func := "cantle/cantlelaw12.AllocRoom", spec := "allocRoom", plainKeys := false, apart := false }
def AllocRoomSaid : Prop := allocRoomRow.holds Try.pinned (OpenSpec.ofChange allocRoomSpec)

/-- ITS FALSE NEIGHBOUR: 'it returns false'. Refute it at one input. -/
def allocRoomWrong : ChangeSpec := { name := "allocRoom", fn := fun _ => fun
  | [d1, d2, d3] => { results := [.lit (.bool false)], args := [d1, d2, d3] }
  | _ => none }
def AllocRoomWrongFalsely : Prop := allocRoomRow.holds Try.pinned (OpenSpec.ofChange allocRoomWrong)

/-- 'cantlelaw13.ResizePlays': WHATEVER THE INPUT: true; the input reads as it did. -/
def resizePlaysSpec : ChangeSpec := { name := "resizePlays", fn := fun _ => fun
  | [d1, d2, d3] => { results := [.lit (.bool true)], args := [d1, d2, d3] }
  | _ => none }
def resizePlaysRow : OpenClaim := { program := "ytenbpbnffnodhaa", sum := "0e9c308451c08f08643d9d3a503074e8dc66013f8414c3d7961d3d8782feed39", func := "cantle/cantlelaw13.ResizePlays", spec := "resizePlays", plainKeys := false, apart := false }
def ResizePlaysSaid : Prop := resizePlaysRow.holds Try.pinned (OpenSpec.ofChange resizePlaysSpec)

/-- ITS FALSE NEIGHBOUR: 'it returns false'. Refute it at one input. -/
def resizePlaysWrong : ChangeSpec := { name := "resizePlays", fn := fun _ => fun
  | [d1, d2, d3] => { results := [.lit (.bool false)], args := [d1, d2, d3] }
  | _ => none }
def ResizePlaysWrongFalsely : Prop := resizePlaysRow.holds Try.pinned (OpenSpec.ofChange resizePlaysWrong)

/-- 'cantlelaw13.ResizeKeeps': WHATEVER THE INPUT: true; the input reads as it did. -/
def resizeKeepsSpec : ChangeSpec := { name := "resizeKeeps", fn := fun _ => fun
  | [d1, d2, d3, d4] => { results := [.lit (.bool true)], args := [d1, d2, d3, d4] }
  | _ => none }
def resizeKeepsRow : OpenClaim := { program := "ytenbpbnffnodhaa", sum := "0e9c308451c08f08643d9d3a503074e8dc66013f8414c3d7961d3d8782feed39", func := "cantle/cantlelaw13.ResizeKeeps", spec := "resizeKeeps", plainKeys := false, apart := false }
def ResizeKeepsSaid : Prop := resizeKeepsRow.holds Try.pinned (OpenSpec.ofChange resizeKeepsSpec)

/-- ITS FALSE NEIGHBOUR: 'it returns false'. Refute it at one input. -/
def resizeKeepsWrong : ChangeSpec := { name := "resizeKeeps", fn := fun _ => fun
  | [d1, d2, d3, d4] => { results := [.lit (.bool false)], args := [d1, d2, d3, d4] }
  | _ => none }
def ResizeKeepsWrongFalsely : Prop := resizeKeepsRow.holds Try.pinned (OpenSpec.ofChange resizeKeepsWrong)

/-- 'cantlelaw14.HeapOf': WHATEVER THE INPUT: true; the input reads as it did. -/
def heapOfSpec : ChangeSpec := { name := "heapOf", fn := fun _ => fun
  | [d1, d2] => { results := [.lit (.bool true)], args := [d1, d2] }
  | _ => none }
def heapOfRow : OpenClaim := { program := "ytenbpbnffnodhaa", sum := "0e9c308451c08f08643d9d3a503074e8dc66013f8414c3d7961d3d8782feed39", func := "cantle/cantlelaw14.HeapOf", spec := "heapOf", plainKeys := false, apart := false }
def HeapOfSaid : Prop := heapOfRow.holds Try.pinned (OpenSpec.ofChange heapOfSpec)

/-- ITS FALSE NEIGHBOUR: 'it returns false'. Refute it at one input. -/
def heapOfWrong : ChangeSpec := { name := "heapOf", fn := fun _ => fun
  | [d1, d2] => { results := [.lit (.bool false)], args := [d1, d2] }
  | _ => none }
def HeapOfWrongFalsely : Prop := heapOfRow.holds Try.pinned (OpenSpec.ofChange heapOfWrong)

/-- 'cantlelaw14.HeapCalls': WHATEVER THE INPUT: true; the input reads as it did. -/
def heapCallsSpec : ChangeSpec := { name := "heapCalls", fn := fun _ => fun
  | [d1, d2] => { results := [.lit (.bool true)], args := [d1, d2] }
  | _ => none }
def heapCallsRow : OpenClaim := { program := "ytenbpbnffnodhaa", sum := "0e9c308451c08f08643d9d3a503074e8dc66013f8414c3d7961d3d8782feed39", func := "cantle/cantlelaw14.HeapCalls", spec := "heapCalls", plainKeys := false, apart := false }
def HeapCallsSaid : Prop := heapCallsRow.holds Try.pinned (OpenSpec.ofChange heapCallsSpec)

/-- ITS FALSE NEIGHBOUR: 'it returns false'. Refute it at one input. -/
def heapCallsWrong : ChangeSpec := { name := "heapCalls", fn := fun _ => fun
  | [d1, d2] => { results := [.lit (.bool false)], args := [d1, d2] }
  | _ => none }
def HeapCallsWrongFalsely : Prop := heapCallsRow.holds Try.pinned (OpenSpec.ofChange heapCallsWrong)

/- THE SECOND FORM. 'bulk': how many values and letters a reading holds, each counted each time it is reached (what is shared counts as often as it is met; a slice's spare places count too). A statement '..UptoSaid' is the law's where the arguments, and the package variables that the reading takes, are together of bulk at most 1048576: NARROWER than '..Said'. Prove '..Said' where nothing that the law and all that it calls make is longer than what came in: it says more and counts as full. Else prove '..UptoSaid'. A law counts once. -/
mutual
def uptoBulk {H : Type} : DataW H → Nat
  | .lit (.string bytes) => bytes.length + 1
  | .lit _ => 1
  | .nil => 1
  | .ptr d => uptoBulk d + 1
  | .slice elems spare => uptoBulkAll elems + uptoBulkAll spare + 1
  | .agg parts => uptoBulkAll parts + 1
  | .iface _ d => uptoBulk d + 1
  | .map entries => uptoBulkEntries entries + 1
  | .held _ => 1
def uptoBulkAll {H : Type} : List (DataW H) → Nat
  | [] => 0
  | d :: r => uptoBulk d + uptoBulkAll r
def uptoBulkEntries {H : Type} : List (Lit × DataW H) → Nat
  | [] => 0
  | x :: r => uptoBulkEntry x + uptoBulkEntries r
def uptoBulkEntry {H : Type} : Lit × DataW H → Nat
  | (.string bytes, d) => bytes.length + uptoBulk d + 1
  | (_, d) => uptoBulk d + 1
 end
def uptoSmall : (H : Type) → List (DataW H) → Bool := fun _ ds => decide (uptoBulkAll ds ≤ 1048576)
def OpenSpec.upto (s : _root_.Go.ChangeSpec) : _root_.Go.OpenSpec := { _root_.Go.OpenSpec.ofChange s with cond := some uptoSmall }

/-- 'cantlelaw04.DiskStands', WHERE WHAT IT READS IS OF BULK AT MOST 1048576: true; the input reads as it did. -/
def diskStandsUptoRow : OpenClaim := { program := "ytenbpbnffnodhaa", sum := "0e9c308451c08f08643d9d3a503074e8dc66013f8414c3d7961d3d8782feed39", func := "cantle/cantlelaw04.DiskStands", spec := "diskStands", unfollowed := true, recurses := true, plainKeys := false, apart := false, narrowed := true }
def DiskStandsUptoSaid : Prop := diskStandsUptoRow.holds Try.pinned (OpenSpec.upto diskStandsSpec)

/-- 'cantlelaw04.DiskPlays', WHERE WHAT IT READS IS OF BULK AT MOST 1048576: true; the input reads as it did. -/
def diskPlaysUptoRow : OpenClaim := { program := "ytenbpbnffnodhaa", sum := "0e9c308451c08f08643d9d3a503074e8dc66013f8414c3d7961d3d8782feed39", func := "cantle/cantlelaw04.DiskPlays", spec := "diskPlays", unfollowed := true, recurses := true, plainKeys := false, apart := false, narrowed := true }
def DiskPlaysUptoSaid : Prop := diskPlaysUptoRow.holds Try.pinned (OpenSpec.upto diskPlaysSpec)

/-- 'cantlelaw03.ArenaPlays', WHERE WHAT IT READS IS OF BULK AT MOST 1048576: true; the input reads as it did. -/
def arenaPlaysUptoRow : OpenClaim := { program := "ytenbpbnffnodhaa", sum := "0e9c308451c08f08643d9d3a503074e8dc66013f8414c3d7961d3d8782feed39", func := "cantle/cantlelaw03.ArenaPlays", spec := "arenaPlays", plainKeys := false, apart := false, narrowed := true }
def ArenaPlaysUptoSaid : Prop := arenaPlaysUptoRow.holds Try.pinned (OpenSpec.upto arenaPlaysSpec)

/-- 'cantlelaw05.ExtentTells', WHERE WHAT IT READS IS OF BULK AT MOST 1048576: true; the input reads as it did. -/
def extentTellsUptoRow : OpenClaim := { program := "ytenbpbnffnodhaa", sum := "0e9c308451c08f08643d9d3a503074e8dc66013f8414c3d7961d3d8782feed39", func := "cantle/cantlelaw05.ExtentTells", spec := "extentTells", unfollowed := true, recurses := true, plainKeys := false, apart := false, narrowed := true }
def ExtentTellsUptoSaid : Prop := extentTellsUptoRow.holds Try.pinned (OpenSpec.upto extentTellsSpec)

/-- 'cantlelaw05.ExtentBack', WHERE WHAT IT READS IS OF BULK AT MOST 1048576: true; the input reads as it did. -/
def extentBackUptoRow : OpenClaim := { program := "ytenbpbnffnodhaa", sum := "0e9c308451c08f08643d9d3a503074e8dc66013f8414c3d7961d3d8782feed39", func := "cantle/cantlelaw05.ExtentBack", spec := "extentBack", unfollowed := true, recurses := true, plainKeys := false, apart := false, narrowed := true }
def ExtentBackUptoSaid : Prop := extentBackUptoRow.holds Try.pinned (OpenSpec.upto extentBackSpec)

/-- 'cantlelaw07.BlockBack', WHERE WHAT IT READS IS OF BULK AT MOST 1048576: true; the input reads as it did. -/
def blockBackUptoRow : OpenClaim := { program := "ytenbpbnffnodhaa", sum := "0e9c308451c08f08643d9d3a503074e8dc66013f8414c3d7961d3d8782feed39", func := "cantle/cantlelaw07.BlockBack", spec := "blockBack", plainKeys := false, apart := false, narrowed := true }
def BlockBackUptoSaid : Prop := blockBackUptoRow.holds Try.pinned (OpenSpec.upto blockBackSpec)

/-- 'cantlelaw07.BlockTells', WHERE WHAT IT READS IS OF BULK AT MOST 1048576: true; the input reads as it did. -/
def blockTellsUptoRow : OpenClaim := { program := "ytenbpbnffnodhaa", sum := "0e9c308451c08f08643d9d3a503074e8dc66013f8414c3d7961d3d8782feed39", func := "cantle/cantlelaw07.BlockTells", spec := "blockTells", plainKeys := false, apart := false, narrowed := true }
def BlockTellsUptoSaid : Prop := blockTellsUptoRow.holds Try.pinned (OpenSpec.upto blockTellsSpec)

/-- 'cantlelaw15.ImagePuts', WHERE WHAT IT READS IS OF BULK AT MOST 1048576: true; the input reads as it did. -/
def imagePutsUptoRow : OpenClaim := { program := "ytenbpbnffnodhaa", sum := "0e9c308451c08f08643d9d3a503074e8dc66013f8414c3d7961d3d8782feed39", func := "cantle/cantlelaw15.ImagePuts", spec := "imagePuts", inPlace := ["internal/bytealg.MakeNoZero"], plainKeys := false, apart := false, narrowed := true }
def ImagePutsUptoSaid : Prop := imagePutsUptoRow.holds Try.pinned (OpenSpec.upto imagePutsSpec)

/-- 'cantlelaw15.ImageGets', WHERE WHAT IT READS IS OF BULK AT MOST 1048576: true; the input reads as it did. -/
def imageGetsUptoRow : OpenClaim := { program := "ytenbpbnffnodhaa", sum := "0e9c308451c08f08643d9d3a503074e8dc66013f8414c3d7961d3d8782feed39", func := "cantle/cantlelaw15.ImageGets", spec := "imageGets", inPlace := ["internal/bytealg.MakeNoZero"], plainKeys := false, apart := false, narrowed := true }
def ImageGetsUptoSaid : Prop := imageGetsUptoRow.holds Try.pinned (OpenSpec.upto imageGetsSpec)

/-- 'cantlelaw15.ImageBack', WHERE WHAT IT READS IS OF BULK AT MOST 1048576: true; the input reads as it did. -/
def imageBackUptoRow : OpenClaim := { program := "ytenbpbnffnodhaa", sum := "0e9c308451c08f08643d9d3a503074e8dc66013f8414c3d7961d3d8782feed39", func := "cantle/cantlelaw15.ImageBack", spec := "imageBack", inPlace := ["internal/bytealg.MakeNoZero"], plainKeys := false, apart := false, narrowed := true }
def ImageBackUptoSaid : Prop := imageBackUptoRow.holds Try.pinned (OpenSpec.upto imageBackSpec)

/-- 'cantlelaw11.CheckTells', WHERE WHAT IT READS IS OF BULK AT MOST 1048576: true; the input reads as it did. -/
def checkTellsUptoRow : OpenClaim := { program := "ytenbpbnffnodhaa", sum := "0e9c308451c08f08643d9d3a503074e8dc66013f8414c3d7961d3d8782feed39", func := "cantle/cantlelaw11.CheckTells", spec := "checkTells", plainKeys := false, apart := false, narrowed := true }
def CheckTellsUptoSaid : Prop := checkTellsUptoRow.holds Try.pinned (OpenSpec.upto checkTellsSpec)

/-- 'cantlelaw09.ListFirst', WHERE WHAT IT READS IS OF BULK AT MOST 1048576: true; the input reads as it did. -/
def listFirstUptoRow : OpenClaim := { program := "ytenbpbnffnodhaa", sum := "0e9c308451c08f08643d9d3a503074e8dc66013f8414c3d7961d3d8782feed39", func := "cantle/cantlelaw09.ListFirst", spec := "listFirst", plainKeys := false, apart := false, narrowed := true }
def ListFirstUptoSaid : Prop := listFirstUptoRow.holds Try.pinned (OpenSpec.upto listFirstSpec)

/-- 'cantlelaw10.FitAll', WHERE WHAT IT READS IS OF BULK AT MOST 1048576: true; the input reads as it did. -/
def fitAllUptoRow : OpenClaim := { program := "ytenbpbnffnodhaa", sum := "0e9c308451c08f08643d9d3a503074e8dc66013f8414c3d7961d3d8782feed39", func := "cantle/cantlelaw10.FitAll", spec := "fitAll", plainKeys := false, apart := false, narrowed := true }
def FitAllUptoSaid : Prop := fitAllUptoRow.holds Try.pinned (OpenSpec.upto fitAllSpec)

/-- 'cantlelaw10.FitTells', WHERE WHAT IT READS IS OF BULK AT MOST 1048576: true; the input reads as it did. -/
def fitTellsUptoRow : OpenClaim := { program := "ytenbpbnffnodhaa", sum := "0e9c308451c08f08643d9d3a503074e8dc66013f8414c3d7961d3d8782feed39", func := "cantle/cantlelaw10.FitTells", spec := "fitTells", plainKeys := false, apart := false, narrowed := true }
def FitTellsUptoSaid : Prop := fitTellsUptoRow.holds Try.pinned (OpenSpec.upto fitTellsSpec)

/-- 'cantlelaw11.CheckBuilt', WHERE WHAT IT READS IS OF BULK AT MOST 1048576: true; the input reads as it did. -/
def checkBuiltUptoRow : OpenClaim := { program := "ytenbpbnffnodhaa", sum := "0e9c308451c08f08643d9d3a503074e8dc66013f8414c3d7961d3d8782feed39", func := "cantle/cantlelaw11.CheckBuilt", spec := "checkBuilt", plainKeys := false, apart := false, narrowed := true }
def CheckBuiltUptoSaid : Prop := checkBuiltUptoRow.holds Try.pinned (OpenSpec.upto checkBuiltSpec)

/-- 'cantlelaw16.RestoreTells', WHERE WHAT IT READS IS OF BULK AT MOST 1048576: true; the input reads as it did. -/
def restoreTellsUptoRow : OpenClaim := { program := "ytenbpbnffnodhaa", sum := "0e9c308451c08f08643d9d3a503074e8dc66013f8414c3d7961d3d8782feed39", func := "cantle/cantlelaw16.RestoreTells", spec := "restoreTells", plainKeys := false, apart := false, narrowed := true }
def RestoreTellsUptoSaid : Prop := restoreTellsUptoRow.holds Try.pinned (OpenSpec.upto restoreTellsSpec)

/-- 'cantlelaw16.RestoreBack', WHERE WHAT IT READS IS OF BULK AT MOST 1048576: true; the input reads as it did. -/
def restoreBackUptoRow : OpenClaim := { program := "ytenbpbnffnodhaa", sum := "0e9c308451c08f08643d9d3a503074e8dc66013f8414c3d7961d3d8782feed39", func := "cantle/cantlelaw16.RestoreBack", spec := "restoreBack", plainKeys := false, apart := false, narrowed := true }
def RestoreBackUptoSaid : Prop := restoreBackUptoRow.holds Try.pinned (OpenSpec.upto restoreBackSpec)

/-- 'cantlelaw12.AllocPlays', WHERE WHAT IT READS IS OF BULK AT MOST 1048576: true; the input reads as it did. -/
def allocPlaysUptoRow : OpenClaim := { program := "ytenbpbnffnodhaa", sum := "0e9c308451c08f08643d9d3a503074e8dc66013f8414c3d7961d3d8782feed39", func := "cantle/cantlelaw12.AllocPlays", spec := "allocPlays", plainKeys := false, apart := false, narrowed := true }
def AllocPlaysUptoSaid : Prop := allocPlaysUptoRow.holds Try.pinned (OpenSpec.upto allocPlaysSpec)

/-- 'cantlelaw12.AllocRoom', WHERE WHAT IT READS IS OF BULK AT MOST 1048576: true; the input reads as it did. -/
def allocRoomUptoRow : OpenClaim := { program := "ytenbpbnffnodhaa", sum := "0e9c308451c08f08643d9d3a503074e8dc66013f8414c3d7961d3d8782feed39", func := "cantle/cantlelaw12.AllocRoom", spec := "allocRoom", plainKeys := false, apart := false, narrowed := true }
def AllocRoomUptoSaid : Prop := allocRoomUptoRow.holds Try.pinned (OpenSpec.upto allocRoomSpec)

/-- 'cantlelaw13.ResizePlays', WHERE WHAT IT READS IS OF BULK AT MOST 1048576: true; the input reads as it did. -/
def resizePlaysUptoRow : OpenClaim := { program := "ytenbpbnffnodhaa", sum := "0e9c308451c08f08643d9d3a503074e8dc66013f8414c3d7961d3d8782feed39", func := "cantle/cantlelaw13.ResizePlays", spec := "resizePlays", plainKeys := false, apart := false, narrowed := true }
def ResizePlaysUptoSaid : Prop := resizePlaysUptoRow.holds Try.pinned (OpenSpec.upto resizePlaysSpec)

/-- 'cantlelaw13.ResizeKeeps', WHERE WHAT IT READS IS OF BULK AT MOST 1048576: true; the input reads as it did. -/
def resizeKeepsUptoRow : OpenClaim := { program := "ytenbpbnffnodhaa", sum := "0e9c308451c08f08643d9d3a503074e8dc66013f8414c3d7961d3d8782feed39", func := "cantle/cantlelaw13.ResizeKeeps", spec := "resizeKeeps", plainKeys := false, apart := false, narrowed := true }
def ResizeKeepsUptoSaid : Prop := resizeKeepsUptoRow.holds Try.pinned (OpenSpec.upto resizeKeepsSpec)

/-- 'cantlelaw14.HeapOf', WHERE WHAT IT READS IS OF BULK AT MOST 1048576: true; the input reads as it did. -/
def heapOfUptoRow : OpenClaim := { program := "ytenbpbnffnodhaa", sum := "0e9c308451c08f08643d9d3a503074e8dc66013f8414c3d7961d3d8782feed39", func := "cantle/cantlelaw14.HeapOf", spec := "heapOf", plainKeys := false, apart := false, narrowed := true }
def HeapOfUptoSaid : Prop := heapOfUptoRow.holds Try.pinned (OpenSpec.upto heapOfSpec)

/-- 'cantlelaw14.HeapCalls', WHERE WHAT IT READS IS OF BULK AT MOST 1048576: true; the input reads as it did. -/
def heapCallsUptoRow : OpenClaim := { program := "ytenbpbnffnodhaa", sum := "0e9c308451c08f08643d9d3a503074e8dc66013f8414c3d7961d3d8782feed39", func := "cantle/cantlelaw14.HeapCalls", spec := "heapCalls", plainKeys := false, apart := false, narrowed := true }
def HeapCallsUptoSaid : Prop := heapCallsUptoRow.holds Try.pinned (OpenSpec.upto heapCallsSpec)

end Rows
end Go.Proofs.Ytenbpbnffnodhaa
