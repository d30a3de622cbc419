/-
  NARROWER THAN 'FOR EVERY INPUT', by the rows' own cells (each row's printed sentence says how): StoreSmall: loops · StoreAlike: loops · StorePuts: loops · StoreTwo: loops · StoreNil: loops · StoreBack: loops · CopyTwice: loops · CopyShares: loops · UnifyTerms: loops · UnifyOne: loops · UnifyGeneral: loops · UnifyTwice: loops · UnifyKinds: loops · UnifyOccurs: loops · CopyApart: loops.
  DERIVED. THE GIVEN ROWS OF THIS SEAT. 20 by the template 'for every input the law returns true; each argument reads behind the call as it read before'; 0 by the template 'total and deterministic' (their statements: YtlmcfclonncgbaaTotals.lean).
  GIVEN WITH THE SEED: the statements are not yours to turn. If you find one false, say at which input.
  Laid BY PROGRAM, IN A SANDBOX (cutbox-rows.mjs): the forced cells as the released guide's own fill.sh prints them over the translation 21da1cf9bf10e15b… (all of the seat's roots in one cut). By AI agents, Wed Nov 11 2026. No macro, syntax, notation, axiom, sorry.
-/
import Derived.Test.YtlmcfclonncgbaaChecked
import GoSem.Claim
import GoSem.ClaimJoined
import GoSem.ClaimMapViews
import Derived.JoinedTies
import Derived.KernelRfl
namespace Go.Proofs.Ytlmcfclonncgbaa
/- THE CELL 'sum', in the pinned program and in every row, IS THE sha256 OF THE DUMP (.gsa) THAT YtlmcfclonncgbaaProg.lean LOADS. Nothing in Lean hashes anything: it is a label: what it is worth is what the hold of that sum in a sandbox is worth. -/
noncomputable def Try.pinned : Pinned := { name := "ytlmcfclonncgbaa", sum := "21da1cf9bf10e15bafc81b6d0259d93ab3924c0346dc8a943506c979f1789eff", checked := Try.checked }
namespace Rows
def none {H : Type} : Left H := { results := [], args := [] }

/-- 'elenchuslaw7.StoreSmall': WHATEVER THE INPUT: true; the input reads as it did. -/
def storeSmallSpec : ChangeSpec := { name := "storeSmall", fn := fun _ => fun
  | [d] => { results := [.lit (.bool true)], args := [d] }
  | _ => none }
def storeSmallRow : OpenClaim := { program := "ytlmcfclonncgbaa", sum := "21da1cf9bf10e15bafc81b6d0259d93ab3924c0346dc8a943506c979f1789eff", func := "elenchus/elenchuslaw7.StoreSmall", spec := "storeSmall", unfollowed := true, recurses := true, loops := true, apart := false }
def StoreSmallSaid : Prop := storeSmallRow.holds Try.pinned (OpenSpec.ofChange storeSmallSpec)

/-- ITS FALSE NEIGHBOUR: 'it returns false'. Refute it at one input. -/
def storeSmallWrong : ChangeSpec := { name := "storeSmall", fn := fun _ => fun
  | [d] => { results := [.lit (.bool false)], args := [d] }
  | _ => none }
def StoreSmallWrongFalsely : Prop := storeSmallRow.holds Try.pinned (OpenSpec.ofChange storeSmallWrong)

/-- 'elenchuslaw7.StoreAlike': WHATEVER THE INPUT: true; the input reads as it did. -/
def storeAlikeSpec : ChangeSpec := { name := "storeAlike", fn := fun _ => fun
  | [d1, d2] => { results := [.lit (.bool true)], args := [d1, d2] }
  | _ => none }
def storeAlikeRow : OpenClaim := { program := "ytlmcfclonncgbaa", sum := "21da1cf9bf10e15bafc81b6d0259d93ab3924c0346dc8a943506c979f1789eff", func := "elenchus/elenchuslaw7.StoreAlike", spec := "storeAlike", unfollowed := true, recurses := true, loops := true, apart := false }
def StoreAlikeSaid : Prop := storeAlikeRow.holds Try.pinned (OpenSpec.ofChange storeAlikeSpec)

/-- ITS FALSE NEIGHBOUR: 'it returns false'. Refute it at one input. -/
def storeAlikeWrong : ChangeSpec := { name := "storeAlike", fn := fun _ => fun
  | [d1, d2] => { results := [.lit (.bool false)], args := [d1, d2] }
  | _ => none }
def StoreAlikeWrongFalsely : Prop := storeAlikeRow.holds Try.pinned (OpenSpec.ofChange storeAlikeWrong)

/-- 'elenchuslaw7.StorePuts': WHATEVER THE INPUT: true; the input reads as it did. -/
def storePutsSpec : ChangeSpec := { name := "storePuts", fn := fun _ => fun
  | [d1, d2] => { results := [.lit (.bool true)], args := [d1, d2] }
  | _ => none }
def storePutsRow : OpenClaim := { program := "ytlmcfclonncgbaa", sum := "21da1cf9bf10e15bafc81b6d0259d93ab3924c0346dc8a943506c979f1789eff", func := "elenchus/elenchuslaw7.StorePuts", spec := "storePuts", unfollowed := true, recurses := true, loops := true, apart := false }
def StorePutsSaid : Prop := storePutsRow.holds Try.pinned (OpenSpec.ofChange storePutsSpec)

/-- ITS FALSE NEIGHBOUR: 'it returns false'. Refute it at one input. -/
def storePutsWrong : ChangeSpec := { name := "storePuts", fn := fun _ => fun
  | [d1, d2] => { results := [.lit (.bool false)], args := [d1, d2] }
  | _ => none }
def StorePutsWrongFalsely : Prop := storePutsRow.holds Try.pinned (OpenSpec.ofChange storePutsWrong)

/-- 'elenchuslaw7.StoreTwo': WHATEVER THE INPUT: true; the input reads as it did. -/
def storeTwoSpec : ChangeSpec := { name := "storeTwo", fn := fun _ => fun
  | [d1, d2] => { results := [.lit (.bool true)], args := [d1, d2] }
  | _ => none }
def storeTwoRow : OpenClaim := { program := "ytlmcfclonncgbaa", sum := "21da1cf9bf10e15bafc81b6d0259d93ab3924c0346dc8a943506c979f1789eff", func := "elenchus/elenchuslaw7.StoreTwo", spec := "storeTwo", unfollowed := true, recurses := true, loops := true, apart := false }
def StoreTwoSaid : Prop := storeTwoRow.holds Try.pinned (OpenSpec.ofChange storeTwoSpec)

/-- ITS FALSE NEIGHBOUR: 'it returns false'. Refute it at one input. -/
def storeTwoWrong : ChangeSpec := { name := "storeTwo", fn := fun _ => fun
  | [d1, d2] => { results := [.lit (.bool false)], args := [d1, d2] }
  | _ => none }
def StoreTwoWrongFalsely : Prop := storeTwoRow.holds Try.pinned (OpenSpec.ofChange storeTwoWrong)

/-- 'elenchuslaw7.StoreGets': WHATEVER THE INPUT: true; the input reads as it did. -/
def storeGetsSpec : ChangeSpec := { name := "storeGets", fn := fun _ => fun
  | [d1, d2, d3] => { results := [.lit (.bool true)], args := [d1, d2, d3] }
  | _ => none }
def storeGetsRow : OpenClaim := { program := "ytlmcfclonncgbaa", sum := "21da1cf9bf10e15bafc81b6d0259d93ab3924c0346dc8a943506c979f1789eff", func := "elenchus/elenchuslaw7.StoreGets", spec := "storeGets", unfollowed := true, recurses := true, apart := false }
def StoreGetsSaid : Prop := storeGetsRow.holds Try.pinned (OpenSpec.ofChange storeGetsSpec)

/-- ITS FALSE NEIGHBOUR: 'it returns false'. Refute it at one input. -/
def storeGetsWrong : ChangeSpec := { name := "storeGets", fn := fun _ => fun
  | [d1, d2, d3] => { results := [.lit (.bool false)], args := [d1, d2, d3] }
  | _ => none }
def StoreGetsWrongFalsely : Prop := storeGetsRow.holds Try.pinned (OpenSpec.ofChange storeGetsWrong)

/-- 'elenchuslaw7.StoreNil': WHATEVER THE INPUT: true; the input reads as it did. -/
def storeNilSpec : ChangeSpec := { name := "storeNil", fn := fun _ => fun
  | [d1, d2] => { results := [.lit (.bool true)], args := [d1, d2] }
  | _ => none }
def storeNilRow : OpenClaim := { program := "ytlmcfclonncgbaa", sum := "21da1cf9bf10e15bafc81b6d0259d93ab3924c0346dc8a943506c979f1789eff", func := "elenchus/elenchuslaw7.StoreNil", spec := "storeNil", unfollowed := true, recurses := true, loops := true, apart := false }
def StoreNilSaid : Prop := storeNilRow.holds Try.pinned (OpenSpec.ofChange storeNilSpec)

/-- ITS FALSE NEIGHBOUR: 'it returns false'. Refute it at one input. -/
def storeNilWrong : ChangeSpec := { name := "storeNil", fn := fun _ => fun
  | [d1, d2] => { results := [.lit (.bool false)], args := [d1, d2] }
  | _ => none }
def StoreNilWrongFalsely : Prop := storeNilRow.holds Try.pinned (OpenSpec.ofChange storeNilWrong)

/-- 'elenchuslaw7.StoreBack': WHATEVER THE INPUT: true; the input reads as it did. -/
def storeBackSpec : ChangeSpec := { name := "storeBack", fn := fun _ => fun
  | [d] => { results := [.lit (.bool true)], args := [d] }
  | _ => none }
def storeBackRow : OpenClaim := { program := "ytlmcfclonncgbaa", sum := "21da1cf9bf10e15bafc81b6d0259d93ab3924c0346dc8a943506c979f1789eff", func := "elenchus/elenchuslaw7.StoreBack", spec := "storeBack", unfollowed := true, recurses := true, loops := true, apart := false }
def StoreBackSaid : Prop := storeBackRow.holds Try.pinned (OpenSpec.ofChange storeBackSpec)

/-- ITS FALSE NEIGHBOUR: 'it returns false'. Refute it at one input. -/
def storeBackWrong : ChangeSpec := { name := "storeBack", fn := fun _ => fun
  | [d] => { results := [.lit (.bool false)], args := [d] }
  | _ => none }
def StoreBackWrongFalsely : Prop := storeBackRow.holds Try.pinned (OpenSpec.ofChange storeBackWrong)

/-- 'elenchuslaw10.CopyTwice': WHATEVER THE INPUT: true; the input reads as it did. -/
def copyTwiceSpec : ChangeSpec := { name := "copyTwice", fn := fun _ => fun
  | [d] => { results := [.lit (.bool true)], args := [d] }
  | _ => none }
def copyTwiceRow : OpenClaim := { program := "ytlmcfclonncgbaa", sum := "21da1cf9bf10e15bafc81b6d0259d93ab3924c0346dc8a943506c979f1789eff", func := "elenchus/elenchuslaw10.CopyTwice", spec := "copyTwice", unfollowed := true, recurses := true, loops := true, apart := false }
def CopyTwiceSaid : Prop := copyTwiceRow.holds Try.pinned (OpenSpec.ofChange copyTwiceSpec)

/-- ITS FALSE NEIGHBOUR: 'it returns false'. Refute it at one input. -/
def copyTwiceWrong : ChangeSpec := { name := "copyTwice", fn := fun _ => fun
  | [d] => { results := [.lit (.bool false)], args := [d] }
  | _ => none }
def CopyTwiceWrongFalsely : Prop := copyTwiceRow.holds Try.pinned (OpenSpec.ofChange copyTwiceWrong)

/-- 'elenchuslaw10.CopyShares': WHATEVER THE INPUT: true; the input reads as it did. -/
def copySharesSpec : ChangeSpec := { name := "copyShares", fn := fun _ => fun
  | [d] => { results := [.lit (.bool true)], args := [d] }
  | _ => none }
def copySharesRow : OpenClaim := { program := "ytlmcfclonncgbaa", sum := "21da1cf9bf10e15bafc81b6d0259d93ab3924c0346dc8a943506c979f1789eff", func := "elenchus/elenchuslaw10.CopyShares", spec := "copyShares", unfollowed := true, recurses := true, loops := true, apart := false }
def CopySharesSaid : Prop := copySharesRow.holds Try.pinned (OpenSpec.ofChange copySharesSpec)

/-- ITS FALSE NEIGHBOUR: 'it returns false'. Refute it at one input. -/
def copySharesWrong : ChangeSpec := { name := "copyShares", fn := fun _ => fun
  | [d] => { results := [.lit (.bool false)], args := [d] }
  | _ => none }
def CopySharesWrongFalsely : Prop := copySharesRow.holds Try.pinned (OpenSpec.ofChange copySharesWrong)

/-- 'elenchuslaw10.CopyCollects': WHATEVER THE INPUT: true; the input reads as it did. -/
def copyCollectsSpec : ChangeSpec := { name := "copyCollects", fn := fun _ => fun
  | [d1, d2, d3] => { results := [.lit (.bool true)], args := [d1, d2, d3] }
  | _ => none }
def copyCollectsRow : OpenClaim := { program := "ytlmcfclonncgbaa", sum := "21da1cf9bf10e15bafc81b6d0259d93ab3924c0346dc8a943506c979f1789eff", func := "elenchus/elenchuslaw10.CopyCollects", spec := "copyCollects", unfollowed := true, recurses := true, apart := false }
def CopyCollectsSaid : Prop := copyCollectsRow.holds Try.pinned (OpenSpec.ofChange copyCollectsSpec)

/-- ITS FALSE NEIGHBOUR: 'it returns false'. Refute it at one input. -/
def copyCollectsWrong : ChangeSpec := { name := "copyCollects", fn := fun _ => fun
  | [d1, d2, d3] => { results := [.lit (.bool false)], args := [d1, d2, d3] }
  | _ => none }
def CopyCollectsWrongFalsely : Prop := copyCollectsRow.holds Try.pinned (OpenSpec.ofChange copyCollectsWrong)

/-- 'elenchuslaw10.CopyNil': WHATEVER THE INPUT: true; the input reads as it did. -/
def copyNilSpec : ChangeSpec := { name := "copyNil", fn := fun _ => fun
  | [d] => { results := [.lit (.bool true)], args := [d] }
  | _ => none }
def copyNilRow : OpenClaim := { program := "ytlmcfclonncgbaa", sum := "21da1cf9bf10e15bafc81b6d0259d93ab3924c0346dc8a943506c979f1789eff", func := "elenchus/elenchuslaw10.CopyNil", spec := "copyNil", unfollowed := true, recurses := true, apart := false }
def CopyNilSaid : Prop := copyNilRow.holds Try.pinned (OpenSpec.ofChange copyNilSpec)

/-- ITS FALSE NEIGHBOUR: 'it returns false'. Refute it at one input. -/
def copyNilWrong : ChangeSpec := { name := "copyNil", fn := fun _ => fun
  | [d] => { results := [.lit (.bool false)], args := [d] }
  | _ => none }
def CopyNilWrongFalsely : Prop := copyNilRow.holds Try.pinned (OpenSpec.ofChange copyNilWrong)

/-- 'elenchuslaw8.UnifyTerms': WHATEVER THE INPUT: true; the input reads as it did. -/
def unifyTermsSpec : ChangeSpec := { name := "unifyTerms", fn := fun _ => fun
  | [d1, d2] => { results := [.lit (.bool true)], args := [d1, d2] }
  | _ => none }
def unifyTermsRow : OpenClaim := { program := "ytlmcfclonncgbaa", sum := "21da1cf9bf10e15bafc81b6d0259d93ab3924c0346dc8a943506c979f1789eff", func := "elenchus/elenchuslaw8.UnifyTerms", spec := "unifyTerms", unfollowed := true, recurses := true, loops := true, apart := false }
def UnifyTermsSaid : Prop := unifyTermsRow.holds Try.pinned (OpenSpec.ofChange unifyTermsSpec)

/-- ITS FALSE NEIGHBOUR: 'it returns false'. Refute it at one input. -/
def unifyTermsWrong : ChangeSpec := { name := "unifyTerms", fn := fun _ => fun
  | [d1, d2] => { results := [.lit (.bool false)], args := [d1, d2] }
  | _ => none }
def UnifyTermsWrongFalsely : Prop := unifyTermsRow.holds Try.pinned (OpenSpec.ofChange unifyTermsWrong)

/-- 'elenchuslaw8.UnifyOne': WHATEVER THE INPUT: true; the input reads as it did. -/
def unifyOneSpec : ChangeSpec := { name := "unifyOne", fn := fun _ => fun
  | [d1, d2] => { results := [.lit (.bool true)], args := [d1, d2] }
  | _ => none }
def unifyOneRow : OpenClaim := { program := "ytlmcfclonncgbaa", sum := "21da1cf9bf10e15bafc81b6d0259d93ab3924c0346dc8a943506c979f1789eff", func := "elenchus/elenchuslaw8.UnifyOne", spec := "unifyOne", unfollowed := true, recurses := true, loops := true, apart := false }
def UnifyOneSaid : Prop := unifyOneRow.holds Try.pinned (OpenSpec.ofChange unifyOneSpec)

/-- ITS FALSE NEIGHBOUR: 'it returns false'. Refute it at one input. -/
def unifyOneWrong : ChangeSpec := { name := "unifyOne", fn := fun _ => fun
  | [d1, d2] => { results := [.lit (.bool false)], args := [d1, d2] }
  | _ => none }
def UnifyOneWrongFalsely : Prop := unifyOneRow.holds Try.pinned (OpenSpec.ofChange unifyOneWrong)

/-- 'elenchuslaw8.UnifyGeneral': WHATEVER THE INPUT: true; the input reads as it did. -/
def unifyGeneralSpec : ChangeSpec := { name := "unifyGeneral", fn := fun _ => fun
  | [d1, d2] => { results := [.lit (.bool true)], args := [d1, d2] }
  | _ => none }
def unifyGeneralRow : OpenClaim := { program := "ytlmcfclonncgbaa", sum := "21da1cf9bf10e15bafc81b6d0259d93ab3924c0346dc8a943506c979f1789eff", func := "elenchus/elenchuslaw8.UnifyGeneral", spec := "unifyGeneral", unfollowed := true, recurses := true, loops := true, apart := false }
def UnifyGeneralSaid : Prop := unifyGeneralRow.holds Try.pinned (OpenSpec.ofChange unifyGeneralSpec)

/-- ITS FALSE NEIGHBOUR: 'it returns false'. Refute it at one input. -/
def unifyGeneralWrong : ChangeSpec := { name := "unifyGeneral", fn := fun _ => fun
  | [d1, d2] => { results := [.lit (.bool false)], args := [d1, d2] }
  | _ => none }
def UnifyGeneralWrongFalsely : Prop := unifyGeneralRow.holds Try.pinned (OpenSpec.ofChange unifyGeneralWrong)

/-- 'elenchuslaw8.UnifyTwice': WHATEVER THE INPUT: true; the input reads as it did. -/
def unifyTwiceSpec : ChangeSpec := { name := "unifyTwice", fn := fun _ => fun
  | [d1, d2] => { results := [.lit (.bool true)], args := [d1, d2] }
  | _ => none }
def unifyTwiceRow : OpenClaim := { program := "ytlmcfclonncgbaa", sum := "21da1cf9bf10e15bafc81b6d0259d93ab3924c0346dc8a943506c979f1789eff", func := "elenchus/elenchuslaw8.UnifyTwice", spec := "unifyTwice", unfollowed := true, recurses := true, loops := true, apart := false }
def UnifyTwiceSaid : Prop := unifyTwiceRow.holds Try.pinned (OpenSpec.ofChange unifyTwiceSpec)

/-- ITS FALSE NEIGHBOUR: 'it returns false'. Refute it at one input. -/
def unifyTwiceWrong : ChangeSpec := { name := "unifyTwice", fn := fun _ => fun
  | [d1, d2] => { results := [.lit (.bool false)], args := [d1, d2] }
  | _ => none }
def UnifyTwiceWrongFalsely : Prop := unifyTwiceRow.holds Try.pinned (OpenSpec.ofChange unifyTwiceWrong)

/-- 'elenchuslaw8.UnifyKinds': WHATEVER THE INPUT: true; the input reads as it did. -/
def unifyKindsSpec : ChangeSpec := { name := "unifyKinds", fn := fun _ => fun
  | [d1, d2] => { results := [.lit (.bool true)], args := [d1, d2] }
  | _ => none }
def unifyKindsRow : OpenClaim := { program := "ytlmcfclonncgbaa", sum := "21da1cf9bf10e15bafc81b6d0259d93ab3924c0346dc8a943506c979f1789eff", func := "elenchus/elenchuslaw8.UnifyKinds", spec := "unifyKinds", unfollowed := true, recurses := true, loops := true, apart := false }
def UnifyKindsSaid : Prop := unifyKindsRow.holds Try.pinned (OpenSpec.ofChange unifyKindsSpec)

/-- ITS FALSE NEIGHBOUR: 'it returns false'. Refute it at one input. -/
def unifyKindsWrong : ChangeSpec := { name := "unifyKinds", fn := fun _ => fun
  | [d1, d2] => { results := [.lit (.bool false)], args := [d1, d2] }
  | _ => none }
def UnifyKindsWrongFalsely : Prop := unifyKindsRow.holds Try.pinned (OpenSpec.ofChange unifyKindsWrong)

/-- 'elenchuslaw8.UnifyCells': WHATEVER THE INPUT: true; the input reads as it did. -/
def unifyCellsSpec : ChangeSpec := { name := "unifyCells", fn := fun _ => fun
  | [d1, d2, d3, d4] => { results := [.lit (.bool true)], args := [d1, d2, d3, d4] }
  | _ => none }
def unifyCellsRow : OpenClaim := { program := "ytlmcfclonncgbaa", sum := "21da1cf9bf10e15bafc81b6d0259d93ab3924c0346dc8a943506c979f1789eff", func := "elenchus/elenchuslaw8.UnifyCells", spec := "unifyCells", unfollowed := true, recurses := true, apart := false }
def UnifyCellsSaid : Prop := unifyCellsRow.holds Try.pinned (OpenSpec.ofChange unifyCellsSpec)

/-- ITS FALSE NEIGHBOUR: 'it returns false'. Refute it at one input. -/
def unifyCellsWrong : ChangeSpec := { name := "unifyCells", fn := fun _ => fun
  | [d1, d2, d3, d4] => { results := [.lit (.bool false)], args := [d1, d2, d3, d4] }
  | _ => none }
def UnifyCellsWrongFalsely : Prop := unifyCellsRow.holds Try.pinned (OpenSpec.ofChange unifyCellsWrong)

/-- 'elenchuslaw8.UnifyNil': WHATEVER THE INPUT: true; the input reads as it did. -/
def unifyNilSpec : ChangeSpec := { name := "unifyNil", fn := fun _ => fun
  | [d1, d2] => { results := [.lit (.bool true)], args := [d1, d2] }
  | _ => none }
def unifyNilRow : OpenClaim := { program := "ytlmcfclonncgbaa", sum := "21da1cf9bf10e15bafc81b6d0259d93ab3924c0346dc8a943506c979f1789eff", func := "elenchus/elenchuslaw8.UnifyNil", spec := "unifyNil", unfollowed := true, recurses := true, apart := false }
def UnifyNilSaid : Prop := unifyNilRow.holds Try.pinned (OpenSpec.ofChange unifyNilSpec)

/-- ITS FALSE NEIGHBOUR: 'it returns false'. Refute it at one input. -/
def unifyNilWrong : ChangeSpec := { name := "unifyNil", fn := fun _ => fun
  | [d1, d2] => { results := [.lit (.bool false)], args := [d1, d2] }
  | _ => none }
def UnifyNilWrongFalsely : Prop := unifyNilRow.holds Try.pinned (OpenSpec.ofChange unifyNilWrong)

/-- 'elenchuslaw8.UnifyOccurs': WHATEVER THE INPUT: true; the input reads as it did. -/
def unifyOccursSpec : ChangeSpec := { name := "unifyOccurs", fn := fun _ => fun
  | [d1, d2] => { results := [.lit (.bool true)], args := [d1, d2] }
  | _ => none }
def unifyOccursRow : OpenClaim := { program := "ytlmcfclonncgbaa", sum := "21da1cf9bf10e15bafc81b6d0259d93ab3924c0346dc8a943506c979f1789eff", func := "elenchus/elenchuslaw8.UnifyOccurs", spec := "unifyOccurs", unfollowed := true, recurses := true, loops := true, apart := false }
def UnifyOccursSaid : Prop := unifyOccursRow.holds Try.pinned (OpenSpec.ofChange unifyOccursSpec)

/-- ITS FALSE NEIGHBOUR: 'it returns false'. Refute it at one input. -/
def unifyOccursWrong : ChangeSpec := { name := "unifyOccurs", fn := fun _ => fun
  | [d1, d2] => { results := [.lit (.bool false)], args := [d1, d2] }
  | _ => none }
def UnifyOccursWrongFalsely : Prop := unifyOccursRow.holds Try.pinned (OpenSpec.ofChange unifyOccursWrong)

/-- 'elenchuslaw10.CopyApart': WHATEVER THE INPUT: true; the input reads as it did. -/
def copyApartSpec : ChangeSpec := { name := "copyApart", fn := fun _ => fun
  | [d1, d2] => { results := [.lit (.bool true)], args := [d1, d2] }
  | _ => none }
def copyApartRow : OpenClaim := { program := "ytlmcfclonncgbaa", sum := "21da1cf9bf10e15bafc81b6d0259d93ab3924c0346dc8a943506c979f1789eff", func := "elenchus/elenchuslaw10.CopyApart", spec := "copyApart", unfollowed := true, recurses := true, loops := true, apart := false }
def CopyApartSaid : Prop := copyApartRow.holds Try.pinned (OpenSpec.ofChange copyApartSpec)

/-- ITS FALSE NEIGHBOUR: 'it returns false'. Refute it at one input. -/
def copyApartWrong : ChangeSpec := { name := "copyApart", fn := fun _ => fun
  | [d1, d2] => { results := [.lit (.bool false)], args := [d1, d2] }
  | _ => none }
def CopyApartWrongFalsely : Prop := copyApartRow.holds Try.pinned (OpenSpec.ofChange copyApartWrong)

/- THE SECOND FORM. 'bulk': how many values and letters a reading holds, each counted each time it is reached (what is shared counts as often as it is met; a slice's spare places count too). A statement '..UptoSaid' is the law's where the arguments, and the package variables that the reading takes, are together of bulk at most 1048576: NARROWER than '..Said'. Prove '..Said' where nothing that the law and all that it calls make is longer than what came in: it says more and counts as full. Else prove '..UptoSaid'. A law counts once. -/
mutual
def uptoBulk {H : Type} : DataW H → Nat
  | .lit (.string bytes) => bytes.length + 1
  | .lit _ => 1
  | .nil => 1
  | .ptr d => uptoBulk d + 1
  | .slice elems spare => uptoBulkAll elems + uptoBulkAll spare + 1
  | .agg parts => uptoBulkAll parts + 1
  | .iface _ d => uptoBulk d + 1
  | .map entries => uptoBulkEntries entries + 1
  | .held _ => 1
def uptoBulkAll {H : Type} : List (DataW H) → Nat
  | [] => 0
  | d :: r => uptoBulk d + uptoBulkAll r
def uptoBulkEntries {H : Type} : List (Lit × DataW H) → Nat
  | [] => 0
  | x :: r => uptoBulkEntry x + uptoBulkEntries r
def uptoBulkEntry {H : Type} : Lit × DataW H → Nat
  | (.string bytes, d) => bytes.length + uptoBulk d + 1
  | (_, d) => uptoBulk d + 1
 end
def uptoSmall : (H : Type) → List (DataW H) → Bool := fun _ ds => decide (uptoBulkAll ds ≤ 1048576)
def OpenSpec.upto (s : _root_.Go.ChangeSpec) : _root_.Go.OpenSpec := { _root_.Go.OpenSpec.ofChange s with cond := some uptoSmall }

/-- 'elenchuslaw7.StoreSmall', WHERE WHAT IT READS IS OF BULK AT MOST 1048576: true; the input reads as it did. -/
def storeSmallUptoRow : OpenClaim := { program := "ytlmcfclonncgbaa", sum := "21da1cf9bf10e15bafc81b6d0259d93ab3924c0346dc8a943506c979f1789eff", func := "elenchus/elenchuslaw7.StoreSmall", spec := "storeSmall", unfollowed := true, recurses := true, loops := true, apart := false, narrowed := true }
def StoreSmallUptoSaid : Prop := storeSmallUptoRow.holds Try.pinned (OpenSpec.upto storeSmallSpec)

/-- 'elenchuslaw7.StoreAlike', WHERE WHAT IT READS IS OF BULK AT MOST 1048576: true; the input reads as it did. -/
def storeAlikeUptoRow : OpenClaim := { program := "ytlmcfclonncgbaa", sum := "21da1cf9bf10e15bafc81b6d0259d93ab3924c0346dc8a943506c979f1789eff", func := "elenchus/elenchuslaw7.StoreAlike", spec := "storeAlike", unfollowed := true, recurses := true, loops := true, apart := false, narrowed := true }
def StoreAlikeUptoSaid : Prop := storeAlikeUptoRow.holds Try.pinned (OpenSpec.upto storeAlikeSpec)

/-- 'elenchuslaw7.StorePuts', WHERE WHAT IT READS IS OF BULK AT MOST 1048576: true; the input reads as it did. -/
def storePutsUptoRow : OpenClaim := { program := "ytlmcfclonncgbaa", sum := "21da1cf9bf10e15bafc81b6d0259d93ab3924c0346dc8a943506c979f1789eff", func := "elenchus/elenchuslaw7.StorePuts", spec := "storePuts", unfollowed := true, recurses := true, loops := true, apart := false, narrowed := true }
def StorePutsUptoSaid : Prop := storePutsUptoRow.holds Try.pinned (OpenSpec.upto storePutsSpec)

/-- 'elenchuslaw7.StoreTwo', WHERE WHAT IT READS IS OF BULK AT MOST 1048576: true; the input reads as it did. -/
def storeTwoUptoRow : OpenClaim := { program := "ytlmcfclonncgbaa", sum := "21da1cf9bf10e15bafc81b6d0259d93ab3924c0346dc8a943506c979f1789eff", func := "elenchus/elenchuslaw7.StoreTwo", spec := "storeTwo", unfollowed := true, recurses := true, loops := true, apart := false, narrowed := true }
def StoreTwoUptoSaid : Prop := storeTwoUptoRow.holds Try.pinned (OpenSpec.upto storeTwoSpec)

/-- 'elenchuslaw7.StoreGets', WHERE WHAT IT READS IS OF BULK AT MOST 1048576: true; the input reads as it did. -/
def storeGetsUptoRow : OpenClaim := { program := "ytlmcfclonncgbaa", sum := "21da1cf9bf10e15bafc81b6d0259d93ab3924c0346dc8a943506c979f1789eff", func := "elenchus/elenchuslaw7.StoreGets", spec := "storeGets", unfollowed := true, recurses := true, apart := false, narrowed := true }
def StoreGetsUptoSaid : Prop := storeGetsUptoRow.holds Try.pinned (OpenSpec.upto storeGetsSpec)

/-- 'elenchuslaw7.StoreNil', WHERE WHAT IT READS IS OF BULK AT MOST 1048576: true; the input reads as it did. -/
def storeNilUptoRow : OpenClaim := { program := "ytlmcfclonncgbaa", sum := "21da1cf9bf10e15bafc81b6d0259d93ab3924c0346dc8a943506c979f1789eff", func := "elenchus/elenchuslaw7.StoreNil", spec := "storeNil", unfollowed := true, recurses := true, loops := true, apart := false, narrowed := true }
def StoreNilUptoSaid : Prop := storeNilUptoRow.holds Try.pinned (OpenSpec.upto storeNilSpec)

/-- 'elenchuslaw7.StoreBack', WHERE WHAT IT READS IS OF BULK AT MOST 1048576: true; the input reads as it did. -/
def storeBackUptoRow : OpenClaim := { program := "ytlmcfclonncgbaa", sum := "21da1cf9bf10e15bafc81b6d0259d93ab3924c0346dc8a943506c979f1789eff", func := "elenchus/elenchuslaw7.StoreBack", spec := "storeBack", unfollowed := true, recurses := true, loops := true, apart := false, narrowed := true }
def StoreBackUptoSaid : Prop := storeBackUptoRow.holds Try.pinned (OpenSpec.upto storeBackSpec)

/-- 'elenchuslaw10.CopyTwice', WHERE WHAT IT READS IS OF BULK AT MOST 1048576: true; the input reads as it did. -/
def copyTwiceUptoRow : OpenClaim := { program := "ytlmcfclonncgbaa", sum := "21da1cf9bf10e15bafc81b6d0259d93ab3924c0346dc8a943506c979f1789eff", func := "elenchus/elenchuslaw10.CopyTwice", spec := "copyTwice", unfollowed := true, recurses := true, loops := true, apart := false, narrowed := true }
def CopyTwiceUptoSaid : Prop := copyTwiceUptoRow.holds Try.pinned (OpenSpec.upto copyTwiceSpec)

/-- 'elenchuslaw10.CopyShares', WHERE WHAT IT READS IS OF BULK AT MOST 1048576: true; the input reads as it did. -/
def copySharesUptoRow : OpenClaim := { program := "ytlmcfclonncgbaa", sum := "21da1cf9bf10e15bafc81b6d0259d93ab3924c0346dc8a943506c979f1789eff", func := "elenchus/elenchuslaw10.CopyShares", spec := "copyShares", unfollowed := true, recurses := true, loops := true, apart := false, narrowed := true }
def CopySharesUptoSaid : Prop := copySharesUptoRow.holds Try.pinned (OpenSpec.upto copySharesSpec)

/-- 'elenchuslaw10.CopyCollects', WHERE WHAT IT READS IS OF BULK AT MOST 1048576: true; the input reads as it did. -/
def copyCollectsUptoRow : OpenClaim := { program := "ytlmcfclonncgbaa", sum := "21da1cf9bf10e15bafc81b6d0259d93ab3924c0346dc8a943506c979f1789eff", func := "elenchus/elenchuslaw10.CopyCollects", spec := "copyCollects", unfollowed := true, recurses := true, apart := false, narrowed := true }
def CopyCollectsUptoSaid : Prop := copyCollectsUptoRow.holds Try.pinned (OpenSpec.upto copyCollectsSpec)

/-- 'elenchuslaw10.CopyNil', WHERE WHAT IT READS IS OF BULK AT MOST 1048576: true; the input reads as it did. -/
def copyNilUptoRow : OpenClaim := { program := "ytlmcfclonncgbaa", sum := "21da1cf9bf10e15bafc81b6d0259d93ab3924c0346dc8a943506c979f1789eff", func := "elenchus/elenchuslaw10.CopyNil", spec := "copyNil", unfollowed := true, recurses := true, apart := false, narrowed := true }
def CopyNilUptoSaid : Prop := copyNilUptoRow.holds Try.pinned (OpenSpec.upto copyNilSpec)

/-- 'elenchuslaw8.UnifyTerms', WHERE WHAT IT READS IS OF BULK AT MOST 1048576: true; the input reads as it did. -/
def unifyTermsUptoRow : OpenClaim := { program := "ytlmcfclonncgbaa", sum := "21da1cf9bf10e15bafc81b6d0259d93ab3924c0346dc8a943506c979f1789eff", func := "elenchus/elenchuslaw8.UnifyTerms", spec := "unifyTerms", unfollowed := true, recurses := true, loops := true, apart := false, narrowed := true }
def UnifyTermsUptoSaid : Prop := unifyTermsUptoRow.holds Try.pinned (OpenSpec.upto unifyTermsSpec)

/-- 'elenchuslaw8.UnifyOne', WHERE WHAT IT READS IS OF BULK AT MOST 1048576: true; the input reads as it did. -/
def unifyOneUptoRow : OpenClaim := { program := "ytlmcfclonncgbaa", sum := "21da1cf9bf10e15bafc81b6d0259d93ab3924c0346dc8a943506c979f1789eff", func := "elenchus/elenchuslaw8.UnifyOne", spec := "unifyOne", unfollowed := true, recurses := true, loops := true, apart := false, narrowed := true }
def UnifyOneUptoSaid : Prop := unifyOneUptoRow.holds Try.pinned (OpenSpec.upto unifyOneSpec)

/-- 'elenchuslaw8.UnifyGeneral', WHERE WHAT IT READS IS OF BULK AT MOST 1048576: true; the input reads as it did. -/
def unifyGeneralUptoRow : OpenClaim := { program := "ytlmcfclonncgbaa", sum := "21da1cf9bf10e15bafc81b6d0259d93ab3924c0346dc8a943506c979f1789eff", func := "elenchus/elenchuslaw8.UnifyGeneral", spec := "unifyGeneral", unfollowed := true, recurses := true, loops := true, apart := false, narrowed := true }
def UnifyGeneralUptoSaid : Prop := unifyGeneralUptoRow.holds Try.pinned (OpenSpec.upto unifyGeneralSpec)

/-- 'elenchuslaw8.UnifyTwice', WHERE WHAT IT READS IS OF BULK AT MOST 1048576: true; the input reads as it did. -/
def unifyTwiceUptoRow : OpenClaim := { program := "ytlmcfclonncgbaa", sum := "21da1cf9bf10e15bafc81b6d0259d93ab3924c0346dc8a943506c979f1789eff", func := "elenchus/elenchuslaw8.UnifyTwice", spec := "unifyTwice", unfollowed := true, recurses := true, loops := true, apart := false, narrowed := true }
def UnifyTwiceUptoSaid : Prop := unifyTwiceUptoRow.holds Try.pinned (OpenSpec.upto unifyTwiceSpec)

/-- 'elenchuslaw8.UnifyKinds', WHERE WHAT IT READS IS OF BULK AT MOST 1048576: true; the input reads as it did. -/
def unifyKindsUptoRow : OpenClaim := { program := "ytlmcfclonncgbaa", sum := "21da1cf9bf10e15bafc81b6d0259d93ab3924c0346dc8a943506c979f1789eff", func := "elenchus/elenchuslaw8.UnifyKinds", spec := "unifyKinds", unfollowed := true, recurses := true, loops := true, apart := false, narrowed := true }
def UnifyKindsUptoSaid : Prop := unifyKindsUptoRow.holds Try.pinned (OpenSpec.upto unifyKindsSpec)

/-- 'elenchuslaw8.UnifyCells', WHERE WHAT IT READS IS OF BULK AT MOST 1048576: true; the input reads as it did. -/
def unifyCellsUptoRow : OpenClaim := { program := "ytlmcfclonncgbaa", sum := "21da1cf9bf10e15bafc81b6d0259d93ab3924c0346dc8a943506c979f1789eff", func := "elenchus/elenchuslaw8.UnifyCells", spec := "unifyCells", unfollowed := true, recurses := true, apart := false, narrowed := true }
def UnifyCellsUptoSaid : Prop := unifyCellsUptoRow.holds Try.pinned (OpenSpec.upto unifyCellsSpec)

/-- 'elenchuslaw8.UnifyNil', WHERE WHAT IT READS IS OF BULK AT MOST 1048576: true; the input reads as it did. -/
def unifyNilUptoRow : OpenClaim := { program := "ytlmcfclonncgbaa", sum := "21da1cf9bf10e15bafc81b6d0259d93ab3924c0346dc8a943506c979f1789eff", func := "elenchus/elenchuslaw8.UnifyNil", spec := "unifyNil", unfollowed := true, recurses := true, apart := false, narrowed := true }
def UnifyNilUptoSaid : Prop := unifyNilUptoRow.holds Try.pinned (OpenSpec.upto unifyNilSpec)

/-- 'elenchuslaw8.UnifyOccurs', WHERE WHAT IT READS IS OF BULK AT MOST 1048576: true; the input reads as it did. -/
def unifyOccursUptoRow : OpenClaim := { program := "ytlmcfclonncgbaa", sum := "21da1cf9bf10e15bafc81b6d0259d93ab3924c0346dc8a943506c979f1789eff", func := "elenchus/elenchuslaw8.UnifyOccurs", spec := "unifyOccurs", unfollowed := true, recurses := true, loops := true, apart := false, narrowed := true }
def UnifyOccursUptoSaid : Prop := unifyOccursUptoRow.holds Try.pinned (OpenSpec.upto unifyOccursSpec)

/-- 'elenchuslaw10.CopyApart', WHERE WHAT IT READS IS OF BULK AT MOST 1048576: true; the input reads as it did. -/
def copyApartUptoRow : OpenClaim := { program := "ytlmcfclonncgbaa", sum := "21da1cf9bf10e15bafc81b6d0259d93ab3924c0346dc8a943506c979f1789eff", func := "elenchus/elenchuslaw10.CopyApart", spec := "copyApart", unfollowed := true, recurses := true, loops := true, apart := false, narrowed := true }
def CopyApartUptoSaid : Prop := copyApartUptoRow.holds Try.pinned (OpenSpec.upto copyApartSpec)

end Rows
end Go.Proofs.Ytlmcfclonncgbaa
