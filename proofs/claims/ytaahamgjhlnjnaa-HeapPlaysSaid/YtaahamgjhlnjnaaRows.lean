/-
  No cell of these rows narrows 'for every input' (looked for: loops, veiled, ifaces, maps, wideKeys, modest, calm, conditions, laid).
  DERIVED. THE GIVEN ROWS OF THIS SEAT. 22 by the template 'for every input the law returns true; each argument reads behind the call as it read before'; 0 by the template 'total and deterministic' (their statements: YtaahamgjhlnjnaaTotals.lean).
  GIVEN WITH THE SEED: the statements are not yours to turn. If you find one false, say at which input.
  Laid BY PROGRAM, IN A SANDBOX (cutbox-rows.mjs): the forced cells as the released guide's own fill.sh prints them over the translation a753f0e9f9e09a2e… (all of the seat's roots in one cut). By AI agents, Wed Nov 11 2026. No macro, syntax, notation, axiom, sorry.
-/
import Derived.Test.YtaahamgjhlnjnaaChecked
import GoSem.Claim
import GoSem.ClaimJoined
import GoSem.ClaimMapViews
import Derived.JoinedTies
import Derived.KernelRfl
namespace Go.Proofs.Ytaahamgjhlnjnaa
/- THE CELL 'sum', in the pinned program and in every row, IS THE sha256 OF THE DUMP (.gsa) THAT YtaahamgjhlnjnaaProg.lean LOADS. Nothing in Lean hashes anything: it is a label: what it is worth is what the hold of that sum in a sandbox is worth. -/
noncomputable def Try.pinned : Pinned := { name := "ytaahamgjhlnjnaa", sum := "a753f0e9f9e09a2e792d5656ff44d0c86a3503a79f26882cfacc605e93ffc878", checked := Try.checked }
namespace Rows
def none {H : Type} : Left H := { results := [], args := [] }

/-- 'elenchuslaw4.CellOrder': WHATEVER THE INPUT: true; the input reads as it did. -/
def cellOrderSpec : ChangeSpec := { name := "cellOrder", fn := fun _ => fun
  | [d1, d2, d3] => { results := [.lit (.bool true)], args := [d1, d2, d3] }
  | _ => none }
def cellOrderRow : OpenClaim := { program := "ytaahamgjhlnjnaa", sum := "a753f0e9f9e09a2e792d5656ff44d0c86a3503a79f26882cfacc605e93ffc878", func := "elenchus/elenchuslaw4.CellOrder", spec := "cellOrder", apart := false }
def CellOrderSaid : Prop := cellOrderRow.holds Try.pinned (OpenSpec.ofChange cellOrderSpec)

/-- ITS FALSE NEIGHBOUR: 'it returns false'. Refute it at one input. -/
def cellOrderWrong : ChangeSpec := { name := "cellOrder", fn := fun _ => fun
  | [d1, d2, d3] => { results := [.lit (.bool false)], args := [d1, d2, d3] }
  | _ => none }
def CellOrderWrongFalsely : Prop := cellOrderRow.holds Try.pinned (OpenSpec.ofChange cellOrderWrong)

/-- 'elenchuslaw4.CellMakes': WHATEVER THE INPUT: true; the input reads as it did. -/
def cellMakesSpec : ChangeSpec := { name := "cellMakes", fn := fun _ => fun
  | [d1, d2, d3] => { results := [.lit (.bool true)], args := [d1, d2, d3] }
  | _ => none }
def cellMakesRow : OpenClaim := { program := "ytaahamgjhlnjnaa", sum := "a753f0e9f9e09a2e792d5656ff44d0c86a3503a79f26882cfacc605e93ffc878", func := "elenchus/elenchuslaw4.CellMakes", spec := "cellMakes", apart := false }
def CellMakesSaid : Prop := cellMakesRow.holds Try.pinned (OpenSpec.ofChange cellMakesSpec)

/-- ITS FALSE NEIGHBOUR: 'it returns false'. Refute it at one input. -/
def cellMakesWrong : ChangeSpec := { name := "cellMakes", fn := fun _ => fun
  | [d1, d2, d3] => { results := [.lit (.bool false)], args := [d1, d2, d3] }
  | _ => none }
def CellMakesWrongFalsely : Prop := cellMakesRow.holds Try.pinned (OpenSpec.ofChange cellMakesWrong)

/-- 'elenchuslaw4.CellApart': WHATEVER THE INPUT: true; the input reads as it did. -/
def cellApartSpec : ChangeSpec := { name := "cellApart", fn := fun _ => fun
  | [d1, d2] => { results := [.lit (.bool true)], args := [d1, d2] }
  | _ => none }
def cellApartRow : OpenClaim := { program := "ytaahamgjhlnjnaa", sum := "a753f0e9f9e09a2e792d5656ff44d0c86a3503a79f26882cfacc605e93ffc878", func := "elenchus/elenchuslaw4.CellApart", spec := "cellApart", apart := false }
def CellApartSaid : Prop := cellApartRow.holds Try.pinned (OpenSpec.ofChange cellApartSpec)

/-- ITS FALSE NEIGHBOUR: 'it returns false'. Refute it at one input. -/
def cellApartWrong : ChangeSpec := { name := "cellApart", fn := fun _ => fun
  | [d1, d2] => { results := [.lit (.bool false)], args := [d1, d2] }
  | _ => none }
def CellApartWrongFalsely : Prop := cellApartRow.holds Try.pinned (OpenSpec.ofChange cellApartWrong)

/-- 'elenchuslaw2.AtomsMany': WHATEVER THE INPUT: true; the input reads as it did. -/
def atomsManySpec : ChangeSpec := { name := "atomsMany", fn := fun _ => fun
  | [d1, d2] => { results := [.lit (.bool true)], args := [d1, d2] }
  | _ => none }
def atomsManyRow : OpenClaim := { program := "ytaahamgjhlnjnaa", sum := "a753f0e9f9e09a2e792d5656ff44d0c86a3503a79f26882cfacc605e93ffc878", func := "elenchus/elenchuslaw2.AtomsMany", spec := "atomsMany", apart := false }
def AtomsManySaid : Prop := atomsManyRow.holds Try.pinned (OpenSpec.ofChange atomsManySpec)

/-- ITS FALSE NEIGHBOUR: 'it returns false'. Refute it at one input. -/
def atomsManyWrong : ChangeSpec := { name := "atomsMany", fn := fun _ => fun
  | [d1, d2] => { results := [.lit (.bool false)], args := [d1, d2] }
  | _ => none }
def AtomsManyWrongFalsely : Prop := atomsManyRow.holds Try.pinned (OpenSpec.ofChange atomsManyWrong)

/-- 'elenchuslaw4.CellNumbers': WHATEVER THE INPUT: true; the input reads as it did. -/
def cellNumbersSpec : ChangeSpec := { name := "cellNumbers", fn := fun _ => fun
  | [d1, d2, d3] => { results := [.lit (.bool true)], args := [d1, d2, d3] }
  | _ => none }
def cellNumbersRow : OpenClaim := { program := "ytaahamgjhlnjnaa", sum := "a753f0e9f9e09a2e792d5656ff44d0c86a3503a79f26882cfacc605e93ffc878", func := "elenchus/elenchuslaw4.CellNumbers", spec := "cellNumbers", apart := false }
def CellNumbersSaid : Prop := cellNumbersRow.holds Try.pinned (OpenSpec.ofChange cellNumbersSpec)

/-- ITS FALSE NEIGHBOUR: 'it returns false'. Refute it at one input. -/
def cellNumbersWrong : ChangeSpec := { name := "cellNumbers", fn := fun _ => fun
  | [d1, d2, d3] => { results := [.lit (.bool false)], args := [d1, d2, d3] }
  | _ => none }
def CellNumbersWrongFalsely : Prop := cellNumbersRow.holds Try.pinned (OpenSpec.ofChange cellNumbersWrong)

/-- 'elenchuslaw4.CellBack': WHATEVER THE INPUT: true; the input reads as it did. -/
def cellBackSpec : ChangeSpec := { name := "cellBack", fn := fun _ => fun
  | [d1, d2, d3, d4, d5] => { results := [.lit (.bool true)], args := [d1, d2, d3, d4, d5] }
  | _ => none }
def cellBackRow : OpenClaim := { program := "ytaahamgjhlnjnaa", sum := "a753f0e9f9e09a2e792d5656ff44d0c86a3503a79f26882cfacc605e93ffc878", func := "elenchus/elenchuslaw4.CellBack", spec := "cellBack", apart := false }
def CellBackSaid : Prop := cellBackRow.holds Try.pinned (OpenSpec.ofChange cellBackSpec)

/-- ITS FALSE NEIGHBOUR: 'it returns false'. Refute it at one input. -/
def cellBackWrong : ChangeSpec := { name := "cellBack", fn := fun _ => fun
  | [d1, d2, d3, d4, d5] => { results := [.lit (.bool false)], args := [d1, d2, d3, d4, d5] }
  | _ => none }
def CellBackWrongFalsely : Prop := cellBackRow.holds Try.pinned (OpenSpec.ofChange cellBackWrong)

/-- 'elenchuslaw2.AtomsApart': WHATEVER THE INPUT: true; the input reads as it did. -/
def atomsApartSpec : ChangeSpec := { name := "atomsApart", fn := fun _ => fun
  | [d1, d2] => { results := [.lit (.bool true)], args := [d1, d2] }
  | _ => none }
def atomsApartRow : OpenClaim := { program := "ytaahamgjhlnjnaa", sum := "a753f0e9f9e09a2e792d5656ff44d0c86a3503a79f26882cfacc605e93ffc878", func := "elenchus/elenchuslaw2.AtomsApart", spec := "atomsApart", apart := false }
def AtomsApartSaid : Prop := atomsApartRow.holds Try.pinned (OpenSpec.ofChange atomsApartSpec)

/-- ITS FALSE NEIGHBOUR: 'it returns false'. Refute it at one input. -/
def atomsApartWrong : ChangeSpec := { name := "atomsApart", fn := fun _ => fun
  | [d1, d2] => { results := [.lit (.bool false)], args := [d1, d2] }
  | _ => none }
def AtomsApartWrongFalsely : Prop := atomsApartRow.holds Try.pinned (OpenSpec.ofChange atomsApartWrong)

/-- 'elenchuslaw2.AtomsRise': WHATEVER THE INPUT: true; the input reads as it did. -/
def atomsRiseSpec : ChangeSpec := { name := "atomsRise", fn := fun _ => fun
  | [d] => { results := [.lit (.bool true)], args := [d] }
  | _ => none }
def atomsRiseRow : OpenClaim := { program := "ytaahamgjhlnjnaa", sum := "a753f0e9f9e09a2e792d5656ff44d0c86a3503a79f26882cfacc605e93ffc878", func := "elenchus/elenchuslaw2.AtomsRise", spec := "atomsRise", apart := false }
def AtomsRiseSaid : Prop := atomsRiseRow.holds Try.pinned (OpenSpec.ofChange atomsRiseSpec)

/-- ITS FALSE NEIGHBOUR: 'it returns false'. Refute it at one input. -/
def atomsRiseWrong : ChangeSpec := { name := "atomsRise", fn := fun _ => fun
  | [d] => { results := [.lit (.bool false)], args := [d] }
  | _ => none }
def AtomsRiseWrongFalsely : Prop := atomsRiseRow.holds Try.pinned (OpenSpec.ofChange atomsRiseWrong)

/-- 'elenchuslaw2.AtomsPlay': WHATEVER THE INPUT: true; the input reads as it did. -/
def atomsPlaySpec : ChangeSpec := { name := "atomsPlay", fn := fun _ => fun
  | [d1, d2, d3] => { results := [.lit (.bool true)], args := [d1, d2, d3] }
  | _ => none }
def atomsPlayRow : OpenClaim := { program := "ytaahamgjhlnjnaa", sum := "a753f0e9f9e09a2e792d5656ff44d0c86a3503a79f26882cfacc605e93ffc878", func := "elenchus/elenchuslaw2.AtomsPlay", spec := "atomsPlay", apart := false }
def AtomsPlaySaid : Prop := atomsPlayRow.holds Try.pinned (OpenSpec.ofChange atomsPlaySpec)

/-- ITS FALSE NEIGHBOUR: 'it returns false'. Refute it at one input. -/
def atomsPlayWrong : ChangeSpec := { name := "atomsPlay", fn := fun _ => fun
  | [d1, d2, d3] => { results := [.lit (.bool false)], args := [d1, d2, d3] }
  | _ => none }
def AtomsPlayWrongFalsely : Prop := atomsPlayRow.holds Try.pinned (OpenSpec.ofChange atomsPlayWrong)

/-- 'elenchuslaw2.AtomsNil': WHATEVER THE INPUT: true; the input reads as it did. -/
def atomsNilSpec : ChangeSpec := { name := "atomsNil", fn := fun _ => fun
  | [d1, d2] => { results := [.lit (.bool true)], args := [d1, d2] }
  | _ => none }
def atomsNilRow : OpenClaim := { program := "ytaahamgjhlnjnaa", sum := "a753f0e9f9e09a2e792d5656ff44d0c86a3503a79f26882cfacc605e93ffc878", func := "elenchus/elenchuslaw2.AtomsNil", spec := "atomsNil", apart := false }
def AtomsNilSaid : Prop := atomsNilRow.holds Try.pinned (OpenSpec.ofChange atomsNilSpec)

/-- ITS FALSE NEIGHBOUR: 'it returns false'. Refute it at one input. -/
def atomsNilWrong : ChangeSpec := { name := "atomsNil", fn := fun _ => fun
  | [d1, d2] => { results := [.lit (.bool false)], args := [d1, d2] }
  | _ => none }
def AtomsNilWrongFalsely : Prop := atomsNilRow.holds Try.pinned (OpenSpec.ofChange atomsNilWrong)

/-- 'elenchuslaw2.AtomsOnce': WHATEVER THE INPUT: true; the input reads as it did. -/
def atomsOnceSpec : ChangeSpec := { name := "atomsOnce", fn := fun _ => fun
  | [d] => { results := [.lit (.bool true)], args := [d] }
  | _ => none }
def atomsOnceRow : OpenClaim := { program := "ytaahamgjhlnjnaa", sum := "a753f0e9f9e09a2e792d5656ff44d0c86a3503a79f26882cfacc605e93ffc878", func := "elenchus/elenchuslaw2.AtomsOnce", spec := "atomsOnce", apart := false }
def AtomsOnceSaid : Prop := atomsOnceRow.holds Try.pinned (OpenSpec.ofChange atomsOnceSpec)

/-- ITS FALSE NEIGHBOUR: 'it returns false'. Refute it at one input. -/
def atomsOnceWrong : ChangeSpec := { name := "atomsOnce", fn := fun _ => fun
  | [d] => { results := [.lit (.bool false)], args := [d] }
  | _ => none }
def AtomsOnceWrongFalsely : Prop := atomsOnceRow.holds Try.pinned (OpenSpec.ofChange atomsOnceWrong)

/-- 'elenchuslaw5.HeapRoom': WHATEVER THE INPUT: true; the input reads as it did. -/
def heapRoomSpec : ChangeSpec := { name := "heapRoom", fn := fun _ => fun
  | [d] => { results := [.lit (.bool true)], args := [d] }
  | _ => none }
def heapRoomRow : OpenClaim := { program := "ytaahamgjhlnjnaa", sum := "a753f0e9f9e09a2e792d5656ff44d0c86a3503a79f26882cfacc605e93ffc878", func := "elenchus/elenchuslaw5.HeapRoom", spec := "heapRoom", apart := false }
def HeapRoomSaid : Prop := heapRoomRow.holds Try.pinned (OpenSpec.ofChange heapRoomSpec)

/-- ITS FALSE NEIGHBOUR: 'it returns false'. Refute it at one input. -/
def heapRoomWrong : ChangeSpec := { name := "heapRoom", fn := fun _ => fun
  | [d] => { results := [.lit (.bool false)], args := [d] }
  | _ => none }
def HeapRoomWrongFalsely : Prop := heapRoomRow.holds Try.pinned (OpenSpec.ofChange heapRoomWrong)

/-- 'elenchuslaw5.HeapSets': WHATEVER THE INPUT: true; the input reads as it did. -/
def heapSetsSpec : ChangeSpec := { name := "heapSets", fn := fun _ => fun
  | [d1, d2, d3] => { results := [.lit (.bool true)], args := [d1, d2, d3] }
  | _ => none }
def heapSetsRow : OpenClaim := { program := "ytaahamgjhlnjnaa", sum := "a753f0e9f9e09a2e792d5656ff44d0c86a3503a79f26882cfacc605e93ffc878", func := "elenchus/elenchuslaw5.HeapSets", spec := "heapSets", apart := false }
def HeapSetsSaid : Prop := heapSetsRow.holds Try.pinned (OpenSpec.ofChange heapSetsSpec)

/-- ITS FALSE NEIGHBOUR: 'it returns false'. Refute it at one input. -/
def heapSetsWrong : ChangeSpec := { name := "heapSets", fn := fun _ => fun
  | [d1, d2, d3] => { results := [.lit (.bool false)], args := [d1, d2, d3] }
  | _ => none }
def HeapSetsWrongFalsely : Prop := heapSetsRow.holds Try.pinned (OpenSpec.ofChange heapSetsWrong)

/-- 'elenchuslaw6.TrailNil': WHATEVER THE INPUT: true; the input reads as it did. -/
def trailNilSpec : ChangeSpec := { name := "trailNil", fn := fun _ => fun
  | [d1, d2] => { results := [.lit (.bool true)], args := [d1, d2] }
  | _ => none }
def trailNilRow : OpenClaim := { program := "ytaahamgjhlnjnaa", sum := "a753f0e9f9e09a2e792d5656ff44d0c86a3503a79f26882cfacc605e93ffc878", func := "elenchus/elenchuslaw6.TrailNil", spec := "trailNil", apart := false }
def TrailNilSaid : Prop := trailNilRow.holds Try.pinned (OpenSpec.ofChange trailNilSpec)

/-- ITS FALSE NEIGHBOUR: 'it returns false'. Refute it at one input. -/
def trailNilWrong : ChangeSpec := { name := "trailNil", fn := fun _ => fun
  | [d1, d2] => { results := [.lit (.bool false)], args := [d1, d2] }
  | _ => none }
def TrailNilWrongFalsely : Prop := trailNilRow.holds Try.pinned (OpenSpec.ofChange trailNilWrong)

/-- 'elenchuslaw6.TrailUndoes': WHATEVER THE INPUT: true; the input reads as it did. -/
def trailUndoesSpec : ChangeSpec := { name := "trailUndoes", fn := fun _ => fun
  | [d1, d2] => { results := [.lit (.bool true)], args := [d1, d2] }
  | _ => none }
def trailUndoesRow : OpenClaim := { program := "ytaahamgjhlnjnaa", sum := "a753f0e9f9e09a2e792d5656ff44d0c86a3503a79f26882cfacc605e93ffc878", func := "elenchus/elenchuslaw6.TrailUndoes", spec := "trailUndoes", unfollowed := true, recurses := true, apart := false }
def TrailUndoesSaid : Prop := trailUndoesRow.holds Try.pinned (OpenSpec.ofChange trailUndoesSpec)

/-- ITS FALSE NEIGHBOUR: 'it returns false'. Refute it at one input. -/
def trailUndoesWrong : ChangeSpec := { name := "trailUndoes", fn := fun _ => fun
  | [d1, d2] => { results := [.lit (.bool false)], args := [d1, d2] }
  | _ => none }
def TrailUndoesWrongFalsely : Prop := trailUndoesRow.holds Try.pinned (OpenSpec.ofChange trailUndoesWrong)

/-- 'elenchuslaw6.TrailDrops': WHATEVER THE INPUT: true; the input reads as it did. -/
def trailDropsSpec : ChangeSpec := { name := "trailDrops", fn := fun _ => fun
  | [d1, d2, d3] => { results := [.lit (.bool true)], args := [d1, d2, d3] }
  | _ => none }
def trailDropsRow : OpenClaim := { program := "ytaahamgjhlnjnaa", sum := "a753f0e9f9e09a2e792d5656ff44d0c86a3503a79f26882cfacc605e93ffc878", func := "elenchus/elenchuslaw6.TrailDrops", spec := "trailDrops", unfollowed := true, recurses := true, apart := false }
def TrailDropsSaid : Prop := trailDropsRow.holds Try.pinned (OpenSpec.ofChange trailDropsSpec)

/-- ITS FALSE NEIGHBOUR: 'it returns false'. Refute it at one input. -/
def trailDropsWrong : ChangeSpec := { name := "trailDrops", fn := fun _ => fun
  | [d1, d2, d3] => { results := [.lit (.bool false)], args := [d1, d2, d3] }
  | _ => none }
def TrailDropsWrongFalsely : Prop := trailDropsRow.holds Try.pinned (OpenSpec.ofChange trailDropsWrong)

/-- 'elenchuslaw6.TrailOnce': WHATEVER THE INPUT: true; the input reads as it did. -/
def trailOnceSpec : ChangeSpec := { name := "trailOnce", fn := fun _ => fun
  | [d1, d2, d3] => { results := [.lit (.bool true)], args := [d1, d2, d3] }
  | _ => none }
def trailOnceRow : OpenClaim := { program := "ytaahamgjhlnjnaa", sum := "a753f0e9f9e09a2e792d5656ff44d0c86a3503a79f26882cfacc605e93ffc878", func := "elenchus/elenchuslaw6.TrailOnce", spec := "trailOnce", apart := false }
def TrailOnceSaid : Prop := trailOnceRow.holds Try.pinned (OpenSpec.ofChange trailOnceSpec)

/-- ITS FALSE NEIGHBOUR: 'it returns false'. Refute it at one input. -/
def trailOnceWrong : ChangeSpec := { name := "trailOnce", fn := fun _ => fun
  | [d1, d2, d3] => { results := [.lit (.bool false)], args := [d1, d2, d3] }
  | _ => none }
def TrailOnceWrongFalsely : Prop := trailOnceRow.holds Try.pinned (OpenSpec.ofChange trailOnceWrong)

/-- 'elenchuslaw5.HeapStands': WHATEVER THE INPUT: true; the input reads as it did. -/
def heapStandsSpec : ChangeSpec := { name := "heapStands", fn := fun _ => fun
  | [d1, d2, d3] => { results := [.lit (.bool true)], args := [d1, d2, d3] }
  | _ => none }
def heapStandsRow : OpenClaim := { program := "ytaahamgjhlnjnaa", sum := "a753f0e9f9e09a2e792d5656ff44d0c86a3503a79f26882cfacc605e93ffc878", func := "elenchus/elenchuslaw5.HeapStands", spec := "heapStands", apart := false }
def HeapStandsSaid : Prop := heapStandsRow.holds Try.pinned (OpenSpec.ofChange heapStandsSpec)

/-- ITS FALSE NEIGHBOUR: 'it returns false'. Refute it at one input. -/
def heapStandsWrong : ChangeSpec := { name := "heapStands", fn := fun _ => fun
  | [d1, d2, d3] => { results := [.lit (.bool false)], args := [d1, d2, d3] }
  | _ => none }
def HeapStandsWrongFalsely : Prop := heapStandsRow.holds Try.pinned (OpenSpec.ofChange heapStandsWrong)

/-- 'elenchuslaw5.HeapApart': WHATEVER THE INPUT: true; the input reads as it did. -/
def heapApartSpec : ChangeSpec := { name := "heapApart", fn := fun _ => fun
  | [d1, d2] => { results := [.lit (.bool true)], args := [d1, d2] }
  | _ => none }
def heapApartRow : OpenClaim := { program := "ytaahamgjhlnjnaa", sum := "a753f0e9f9e09a2e792d5656ff44d0c86a3503a79f26882cfacc605e93ffc878", func := "elenchus/elenchuslaw5.HeapApart", spec := "heapApart", unfollowed := true, recurses := true, apart := false }
def HeapApartSaid : Prop := heapApartRow.holds Try.pinned (OpenSpec.ofChange heapApartSpec)

/-- ITS FALSE NEIGHBOUR: 'it returns false'. Refute it at one input. -/
def heapApartWrong : ChangeSpec := { name := "heapApart", fn := fun _ => fun
  | [d1, d2] => { results := [.lit (.bool false)], args := [d1, d2] }
  | _ => none }
def HeapApartWrongFalsely : Prop := heapApartRow.holds Try.pinned (OpenSpec.ofChange heapApartWrong)

/-- 'elenchuslaw6.TrailPlays': WHATEVER THE INPUT: true; the input reads as it did. -/
def trailPlaysSpec : ChangeSpec := { name := "trailPlays", fn := fun _ => fun
  | [d] => { results := [.lit (.bool true)], args := [d] }
  | _ => none }
def trailPlaysRow : OpenClaim := { program := "ytaahamgjhlnjnaa", sum := "a753f0e9f9e09a2e792d5656ff44d0c86a3503a79f26882cfacc605e93ffc878", func := "elenchus/elenchuslaw6.TrailPlays", spec := "trailPlays", apart := false }
def TrailPlaysSaid : Prop := trailPlaysRow.holds Try.pinned (OpenSpec.ofChange trailPlaysSpec)

/-- ITS FALSE NEIGHBOUR: 'it returns false'. Refute it at one input. -/
def trailPlaysWrong : ChangeSpec := { name := "trailPlays", fn := fun _ => fun
  | [d] => { results := [.lit (.bool false)], args := [d] }
  | _ => none }
def TrailPlaysWrongFalsely : Prop := trailPlaysRow.holds Try.pinned (OpenSpec.ofChange trailPlaysWrong)

/-- 'elenchuslaw5.HeapPlays': WHATEVER THE INPUT: true; the input reads as it did. -/
def heapPlaysSpec : ChangeSpec := { name := "heapPlays", fn := fun _ => fun
  | [d1, d2, d3] => { results := [.lit (.bool true)], args := [d1, d2, d3] }
  | _ => none }
def heapPlaysRow : OpenClaim := { program := "ytaahamgjhlnjnaa", sum := "a753f0e9f9e09a2e792d5656ff44d0c86a3503a79f26882cfacc605e93ffc878", func := "elenchus/elenchuslaw5.HeapPlays", spec := "heapPlays", apart := false }
def HeapPlaysSaid : Prop := heapPlaysRow.holds Try.pinned (OpenSpec.ofChange heapPlaysSpec)

/-- ITS FALSE NEIGHBOUR: 'it returns false'. Refute it at one input. -/
def heapPlaysWrong : ChangeSpec := { name := "heapPlays", fn := fun _ => fun
  | [d1, d2, d3] => { results := [.lit (.bool false)], args := [d1, d2, d3] }
  | _ => none }
def HeapPlaysWrongFalsely : Prop := heapPlaysRow.holds Try.pinned (OpenSpec.ofChange heapPlaysWrong)

/-- 'elenchuslaw5.HeapNil': WHATEVER THE INPUT: true; the input reads as it did. -/
def heapNilSpec : ChangeSpec := { name := "heapNil", fn := fun _ => fun
  | [d1, d2] => { results := [.lit (.bool true)], args := [d1, d2] }
  | _ => none }
def heapNilRow : OpenClaim := { program := "ytaahamgjhlnjnaa", sum := "a753f0e9f9e09a2e792d5656ff44d0c86a3503a79f26882cfacc605e93ffc878", func := "elenchus/elenchuslaw5.HeapNil", spec := "heapNil", apart := false }
def HeapNilSaid : Prop := heapNilRow.holds Try.pinned (OpenSpec.ofChange heapNilSpec)

/-- ITS FALSE NEIGHBOUR: 'it returns false'. Refute it at one input. -/
def heapNilWrong : ChangeSpec := { name := "heapNil", fn := fun _ => fun
  | [d1, d2] => { results := [.lit (.bool false)], args := [d1, d2] }
  | _ => none }
def HeapNilWrongFalsely : Prop := heapNilRow.holds Try.pinned (OpenSpec.ofChange heapNilWrong)

/- THE SECOND FORM. 'bulk': how many values and letters a reading holds, each counted each time it is reached (what is shared counts as often as it is met; a slice's spare places count too). A statement '..UptoSaid' is the law's where the arguments, and the package variables that the reading takes, are together of bulk at most 1048576: NARROWER than '..Said'. Prove '..Said' where nothing that the law and all that it calls make is longer than what came in: it says more and counts as full. Else prove '..UptoSaid'. A law counts once. -/
mutual
def uptoBulk {H : Type} : DataW H → Nat
  | .lit (.string bytes) => bytes.length + 1
  | .lit _ => 1
  | .nil => 1
  | .ptr d => uptoBulk d + 1
  | .slice elems spare => uptoBulkAll elems + uptoBulkAll spare + 1
  | .agg parts => uptoBulkAll parts + 1
  | .iface _ d => uptoBulk d + 1
  | .map entries => uptoBulkEntries entries + 1
  | .held _ => 1
def uptoBulkAll {H : Type} : List (DataW H) → Nat
  | [] => 0
  | d :: r => uptoBulk d + uptoBulkAll r
def uptoBulkEntries {H : Type} : List (Lit × DataW H) → Nat
  | [] => 0
  | x :: r => uptoBulkEntry x + uptoBulkEntries r
def uptoBulkEntry {H : Type} : Lit × DataW H → Nat
  | (.string bytes, d) => bytes.length + uptoBulk d + 1
  | (_, d) => uptoBulk d + 1
 end
def uptoSmall : (H : Type) → List (DataW H) → Bool := fun _ ds => decide (uptoBulkAll ds ≤ 1048576)
def OpenSpec.upto (s : _root_.Go.ChangeSpec) : _root_.Go.OpenSpec := { _root_.Go.OpenSpec.ofChange s with cond := some uptoSmall }

/-- 'elenchuslaw4.CellOrder', WHERE WHAT IT READS IS OF BULK AT MOST 1048576: true; the input reads as it did. -/
def cellOrderUptoRow : OpenClaim := { program := "ytaahamgjhlnjnaa", sum := "a753f0e9f9e09a2e792d5656ff44d0c86a3503a79f26882cfacc605e93ffc878", func := "elenchus/elenchuslaw4.CellOrder", spec := "cellOrder", apart := false, narrowed := true }
def CellOrderUptoSaid : Prop := cellOrderUptoRow.holds Try.pinned (OpenSpec.upto cellOrderSpec)

/-- 'elenchuslaw4.CellMakes', WHERE WHAT IT READS IS OF BULK AT MOST 1048576: true; the input reads as it did. -/
def cellMakesUptoRow : OpenClaim := { program := "ytaahamgjhlnjnaa", sum := "a753f0e9f9e09a2e792d5656ff44d0c86a3503a79f26882cfacc605e93ffc878", func := "elenchus/elenchuslaw4.CellMakes", spec := "cellMakes", apart := false, narrowed := true }
def CellMakesUptoSaid : Prop := cellMakesUptoRow.holds Try.pinned (OpenSpec.upto cellMakesSpec)

/-- 'elenchuslaw4.CellApart', WHERE WHAT IT READS IS OF BULK AT MOST 1048576: true; the input reads as it did. -/
def cellApartUptoRow : OpenClaim := { program := "ytaahamgjhlnjnaa", sum := "a753f0e9f9e09a2e792d5656ff44d0c86a3503a79f26882cfacc605e93ffc878", func := "elenchus/elenchuslaw4.CellApart", spec := "cellApart", apart := false, narrowed := true }
def CellApartUptoSaid : Prop := cellApartUptoRow.holds Try.pinned (OpenSpec.upto cellApartSpec)

/-- 'elenchuslaw2.AtomsMany', WHERE WHAT IT READS IS OF BULK AT MOST 1048576: true; the input reads as it did. -/
def atomsManyUptoRow : OpenClaim := { program := "ytaahamgjhlnjnaa", sum := "a753f0e9f9e09a2e792d5656ff44d0c86a3503a79f26882cfacc605e93ffc878", func := "elenchus/elenchuslaw2.AtomsMany", spec := "atomsMany", apart := false, narrowed := true }
def AtomsManyUptoSaid : Prop := atomsManyUptoRow.holds Try.pinned (OpenSpec.upto atomsManySpec)

/-- 'elenchuslaw4.CellNumbers', WHERE WHAT IT READS IS OF BULK AT MOST 1048576: true; the input reads as it did. -/
def cellNumbersUptoRow : OpenClaim := { program := "ytaahamgjhlnjnaa", sum := "a753f0e9f9e09a2e792d5656ff44d0c86a3503a79f26882cfacc605e93ffc878", func := "elenchus/elenchuslaw4.CellNumbers", spec := "cellNumbers", apart := false, narrowed := true }
def CellNumbersUptoSaid : Prop := cellNumbersUptoRow.holds Try.pinned (OpenSpec.upto cellNumbersSpec)

/-- 'elenchuslaw4.CellBack', WHERE WHAT IT READS IS OF BULK AT MOST 1048576: true; the input reads as it did. -/
def cellBackUptoRow : OpenClaim := { program := "ytaahamgjhlnjnaa", sum := "a753f0e9f9e09a2e792d5656ff44d0c86a3503a79f26882cfacc605e93ffc878", func := "elenchus/elenchuslaw4.CellBack", spec := "cellBack", apart := false, narrowed := true }
def CellBackUptoSaid : Prop := cellBackUptoRow.holds Try.pinned (OpenSpec.upto cellBackSpec)

/-- 'elenchuslaw2.AtomsApart', WHERE WHAT IT READS IS OF BULK AT MOST 1048576: true; the input reads as it did. -/
def atomsApartUptoRow : OpenClaim := { program := "ytaahamgjhlnjnaa", sum := "a753f0e9f9e09a2e792d5656ff44d0c86a3503a79f26882cfacc605e93ffc878", func := "elenchus/elenchuslaw2.AtomsApart", spec := "atomsApart", apart := false, narrowed := true }
def AtomsApartUptoSaid : Prop := atomsApartUptoRow.holds Try.pinned (OpenSpec.upto atomsApartSpec)

/-- 'elenchuslaw2.AtomsRise', WHERE WHAT IT READS IS OF BULK AT MOST 1048576: true; the input reads as it did. -/
def atomsRiseUptoRow : OpenClaim := { program := "ytaahamgjhlnjnaa", sum := "a753f0e9f9e09a2e792d5656ff44d0c86a3503a79f26882cfacc605e93ffc878", func := "elenchus/elenchuslaw2.AtomsRise", spec := "atomsRise", apart := false, narrowed := true }
def AtomsRiseUptoSaid : Prop := atomsRiseUptoRow.holds Try.pinned (OpenSpec.upto atomsRiseSpec)

/-- 'elenchuslaw2.AtomsPlay', WHERE WHAT IT READS IS OF BULK AT MOST 1048576: true; the input reads as it did. -/
def atomsPlayUptoRow : OpenClaim := { program := "ytaahamgjhlnjnaa", sum := "a753f0e9f9e09a2e792d5656ff44d0c86a3503a79f26882cfacc605e93ffc878", func := "elenchus/elenchuslaw2.AtomsPlay", spec := "atomsPlay", apart := false, narrowed := true }
def AtomsPlayUptoSaid : Prop := atomsPlayUptoRow.holds Try.pinned (OpenSpec.upto atomsPlaySpec)

/-- 'elenchuslaw2.AtomsNil', WHERE WHAT IT READS IS OF BULK AT MOST 1048576: true; the input reads as it did. -/
def atomsNilUptoRow : OpenClaim := { program := "ytaahamgjhlnjnaa", sum := "a753f0e9f9e09a2e792d5656ff44d0c86a3503a79f26882cfacc605e93ffc878", func := "elenchus/elenchuslaw2.AtomsNil", spec := "atomsNil", apart := false, narrowed := true }
def AtomsNilUptoSaid : Prop := atomsNilUptoRow.holds Try.pinned (OpenSpec.upto atomsNilSpec)

/-- 'elenchuslaw2.AtomsOnce', WHERE WHAT IT READS IS OF BULK AT MOST 1048576: true; the input reads as it did. -/
def atomsOnceUptoRow : OpenClaim := { program := "ytaahamgjhlnjnaa", sum := "a753f0e9f9e09a2e792d5656ff44d0c86a3503a79f26882cfacc605e93ffc878", func := "elenchus/elenchuslaw2.AtomsOnce", spec := "atomsOnce", apart := false, narrowed := true }
def AtomsOnceUptoSaid : Prop := atomsOnceUptoRow.holds Try.pinned (OpenSpec.upto atomsOnceSpec)

/-- 'elenchuslaw5.HeapRoom', WHERE WHAT IT READS IS OF BULK AT MOST 1048576: true; the input reads as it did. -/
def heapRoomUptoRow : OpenClaim := { program := "ytaahamgjhlnjnaa", sum := "a753f0e9f9e09a2e792d5656ff44d0c86a3503a79f26882cfacc605e93ffc878", func := "elenchus/elenchuslaw5.HeapRoom", spec := "heapRoom", apart := false, narrowed := true }
def HeapRoomUptoSaid : Prop := heapRoomUptoRow.holds Try.pinned (OpenSpec.upto heapRoomSpec)

/-- 'elenchuslaw5.HeapSets', WHERE WHAT IT READS IS OF BULK AT MOST 1048576: true; the input reads as it did. -/
def heapSetsUptoRow : OpenClaim := { program := "ytaahamgjhlnjnaa", sum := "a753f0e9f9e09a2e792d5656ff44d0c86a3503a79f26882cfacc605e93ffc878", func := "elenchus/elenchuslaw5.HeapSets", spec := "heapSets", apart := false, narrowed := true }
def HeapSetsUptoSaid : Prop := heapSetsUptoRow.holds Try.pinned (OpenSpec.upto heapSetsSpec)

/-- 'elenchuslaw6.TrailNil', WHERE WHAT IT READS IS OF BULK AT MOST 1048576: true; the input reads as it did. -/
def trailNilUptoRow : OpenClaim := { program := "ytaahamgjhlnjnaa", sum := "a753f0e9f9e09a2e792d5656ff44d0c86a3503a79f26882cfacc605e93ffc878", func := "elenchus/elenchuslaw6.TrailNil", spec := "trailNil", apart := false, narrowed := true }
def TrailNilUptoSaid : Prop := trailNilUptoRow.holds Try.pinned (OpenSpec.upto trailNilSpec)

/-- 'elenchuslaw6.TrailUndoes', WHERE WHAT IT READS IS OF BULK AT MOST 1048576: true; the input reads as it did. -/
def trailUndoesUptoRow : OpenClaim := { program := "ytaahamgjhlnjnaa", sum := "a753f0e9f9e09a2e792d5656ff44d0c86a3503a79f26882cfacc605e93ffc878", func := "elenchus/elenchuslaw6.TrailUndoes", spec := "trailUndoes", unfollowed := true, recurses := true, apart := false, narrowed := true }
def TrailUndoesUptoSaid : Prop := trailUndoesUptoRow.holds Try.pinned (OpenSpec.upto trailUndoesSpec)

/-- 'elenchuslaw6.TrailDrops', WHERE WHAT IT READS IS OF BULK AT MOST 1048576: true; the input reads as it did. -/
def trailDropsUptoRow : OpenClaim := { program := "ytaahamgjhlnjnaa", sum := "a753f0e9f9e09a2e792d5656ff44d0c86a3503a79f26882cfacc605e93ffc878", func := "elenchus/elenchuslaw6.TrailDrops", spec := "trailDrops", unfollowed := true, recurses := true, apart := false, narrowed := true }
def TrailDropsUptoSaid : Prop := trailDropsUptoRow.holds Try.pinned (OpenSpec.upto trailDropsSpec)

/-- 'elenchuslaw6.TrailOnce', WHERE WHAT IT READS IS OF BULK AT MOST 1048576: true; the input reads as it did. -/
def trailOnceUptoRow : OpenClaim := { program := "ytaahamgjhlnjnaa", sum := "a753f0e9f9e09a2e792d5656ff44d0c86a3503a79f26882cfacc605e93ffc878", func := "elenchus/elenchuslaw6.TrailOnce", spec := "trailOnce", apart := false, narrowed := true }
def TrailOnceUptoSaid : Prop := trailOnceUptoRow.holds Try.pinned (OpenSpec.upto trailOnceSpec)

/-- 'elenchuslaw5.HeapStands', WHERE WHAT IT READS IS OF BULK AT MOST 1048576: true; the input reads as it did. -/
def heapStandsUptoRow : OpenClaim := { program := "ytaahamgjhlnjnaa", sum := "a753f0e9f9e09a2e792d5656ff44d0c86a3503a79f26882cfacc605e93ffc878", func := "elenchus/elenchuslaw5.HeapStands", spec := "heapStands", apart := false, narrowed := true }
def HeapStandsUptoSaid : Prop := heapStandsUptoRow.holds Try.pinned (OpenSpec.upto heapStandsSpec)

/-- 'elenchuslaw5.HeapApart', WHERE WHAT IT READS IS OF BULK AT MOST 1048576: true; the input reads as it did. -/
def heapApartUptoRow : OpenClaim := { program := "ytaahamgjhlnjnaa", sum := "a753f0e9f9e09a2e792d5656ff44d0c86a3503a79f26882cfacc605e93ffc878", func := "elenchus/elenchuslaw5.HeapApart", spec := "heapApart", unfollowed := true, recurses := true, apart := false, narrowed := true }
def HeapApartUptoSaid : Prop := heapApartUptoRow.holds Try.pinned (OpenSpec.upto heapApartSpec)

/-- 'elenchuslaw6.TrailPlays', WHERE WHAT IT READS IS OF BULK AT MOST 1048576: true; the input reads as it did. -/
def trailPlaysUptoRow : OpenClaim := { program := "ytaahamgjhlnjnaa", sum := "a753f0e9f9e09a2e792d5656ff44d0c86a3503a79f26882cfacc605e93ffc878", func := "elenchus/elenchuslaw6.TrailPlays", spec := "trailPlays", apart := false, narrowed := true }
def TrailPlaysUptoSaid : Prop := trailPlaysUptoRow.holds Try.pinned (OpenSpec.upto trailPlaysSpec)

/-- 'elenchuslaw5.HeapPlays', WHERE WHAT IT READS IS OF BULK AT MOST 1048576: true; the input reads as it did. -/
def heapPlaysUptoRow : OpenClaim := { program := "ytaahamgjhlnjnaa", sum := "a753f0e9f9e09a2e792d5656ff44d0c86a3503a79f26882cfacc605e93ffc878", func := "elenchus/elenchuslaw5.HeapPlays", spec := "heapPlays", apart := false, narrowed := true }
def HeapPlaysUptoSaid : Prop := heapPlaysUptoRow.holds Try.pinned (OpenSpec.upto heapPlaysSpec)

/-- 'elenchuslaw5.HeapNil', WHERE WHAT IT READS IS OF BULK AT MOST 1048576: true; the input reads as it did. -/
def heapNilUptoRow : OpenClaim := { program := "ytaahamgjhlnjnaa", sum := "a753f0e9f9e09a2e792d5656ff44d0c86a3503a79f26882cfacc605e93ffc878", func := "elenchus/elenchuslaw5.HeapNil", spec := "heapNil", apart := false, narrowed := true }
def HeapNilUptoSaid : Prop := heapNilUptoRow.holds Try.pinned (OpenSpec.upto heapNilSpec)

end Rows
end Go.Proofs.Ytaahamgjhlnjnaa
