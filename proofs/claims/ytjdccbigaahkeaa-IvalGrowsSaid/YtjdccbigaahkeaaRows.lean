/-
  No cell of these rows narrows 'for every input' (looked for: loops, veiled, ifaces, maps, wideKeys, modest, calm, conditions, laid).
  DERIVED. THE GIVEN ROWS OF THIS SEAT. 17 by the template 'for every input the law returns true; each argument reads behind the call as it read before'; 0 by the template 'total and deterministic' (their statements: YtjdccbigaahkeaaTotals.lean).
  GIVEN WITH THE SEED: the statements are not yours to turn. If you find one false, say at which input.
  Laid BY PROGRAM, IN A SANDBOX (cutbox-rows.mjs): the forced cells as the released guide's own fill.sh prints them over the translation 319e214b972259ca… (all of the seat's roots in one cut). By AI agents, Wed Nov 11 2026. No macro, syntax, notation, axiom, sorry.
-/
import Derived.Test.YtjdccbigaahkeaaChecked
import GoSem.Claim
import GoSem.ClaimJoined
import GoSem.ClaimMapViews
import Derived.JoinedTies
import Derived.KernelRfl
namespace Go.Proofs.Ytjdccbigaahkeaa
/- THE CELL 'sum', in the pinned program and in every row, IS THE sha256 OF THE DUMP (.gsa) THAT YtjdccbigaahkeaaProg.lean LOADS. Nothing in Lean hashes anything: it is a label: what it is worth is what the hold of that sum in a sandbox is worth. -/
noncomputable def Try.pinned : Pinned := { name := "ytjdccbigaahkeaa", sum := "319e214b972259cad31dcdc35b732b08a93471b38198bcfee4d0af0b476b86fe", checked := Try.checked }
namespace Rows
def none {H : Type} : Left H := { results := [], args := [] }

/-- 'orrerylaw02.IvalShapes': WHATEVER THE INPUT: true; the input reads as it did. -/
def ivalShapesSpec : ChangeSpec := { name := "ivalShapes", fn := fun _ => fun
  | [d1, d2, d3] => { results := [.lit (.bool true)], args := [d1, d2, d3] }
  | _ => none }
def ivalShapesRow : OpenClaim := { program := "ytjdccbigaahkeaa", sum := "319e214b972259cad31dcdc35b732b08a93471b38198bcfee4d0af0b476b86fe", func := "orrery/orrerylaw02.IvalShapes", spec := "ivalShapes", inPlace := ["math.Float64frombits", "math.Float64bits"], apart := false }
def IvalShapesSaid : Prop := ivalShapesRow.holds Try.pinned (OpenSpec.ofChange ivalShapesSpec)

/-- ITS FALSE NEIGHBOUR: 'it returns false'. Refute it at one input. -/
def ivalShapesWrong : ChangeSpec := { name := "ivalShapes", fn := fun _ => fun
  | [d1, d2, d3] => { results := [.lit (.bool false)], args := [d1, d2, d3] }
  | _ => none }
def IvalShapesWrongFalsely : Prop := ivalShapesRow.holds Try.pinned (OpenSpec.ofChange ivalShapesWrong)

/-- 'orrerylaw01.UlpNeighbours': WHATEVER THE INPUT: true; the input reads as it did. -/
def ulpNeighboursSpec : ChangeSpec := { name := "ulpNeighbours", fn := fun _ => fun
  | [d] => { results := [.lit (.bool true)], args := [d] }
  | _ => none }
def ulpNeighboursRow : OpenClaim := { program := "ytjdccbigaahkeaa", sum := "319e214b972259cad31dcdc35b732b08a93471b38198bcfee4d0af0b476b86fe", func := "orrery/orrerylaw01.UlpNeighbours", spec := "ulpNeighbours", inPlace := ["math.Float64frombits", "math.Float64bits"], apart := false }
def UlpNeighboursSaid : Prop := ulpNeighboursRow.holds Try.pinned (OpenSpec.ofChange ulpNeighboursSpec)

/-- ITS FALSE NEIGHBOUR: 'it returns false'. Refute it at one input. -/
def ulpNeighboursWrong : ChangeSpec := { name := "ulpNeighbours", fn := fun _ => fun
  | [d] => { results := [.lit (.bool false)], args := [d] }
  | _ => none }
def UlpNeighboursWrongFalsely : Prop := ulpNeighboursRow.holds Try.pinned (OpenSpec.ofChange ulpNeighboursWrong)

/-- 'orrerylaw02.IvalAsks': WHATEVER THE INPUT: true; the input reads as it did. -/
def ivalAsksSpec : ChangeSpec := { name := "ivalAsks", fn := fun _ => fun
  | [d1, d2, d3] => { results := [.lit (.bool true)], args := [d1, d2, d3] }
  | _ => none }
def ivalAsksRow : OpenClaim := { program := "ytjdccbigaahkeaa", sum := "319e214b972259cad31dcdc35b732b08a93471b38198bcfee4d0af0b476b86fe", func := "orrery/orrerylaw02.IvalAsks", spec := "ivalAsks", inPlace := ["math.Float64frombits", "math.Float64bits"], apart := false }
def IvalAsksSaid : Prop := ivalAsksRow.holds Try.pinned (OpenSpec.ofChange ivalAsksSpec)

/-- ITS FALSE NEIGHBOUR: 'it returns false'. Refute it at one input. -/
def ivalAsksWrong : ChangeSpec := { name := "ivalAsks", fn := fun _ => fun
  | [d1, d2, d3] => { results := [.lit (.bool false)], args := [d1, d2, d3] }
  | _ => none }
def IvalAsksWrongFalsely : Prop := ivalAsksRow.holds Try.pinned (OpenSpec.ofChange ivalAsksWrong)

/-- 'orrerylaw01.UlpSplits': WHATEVER THE INPUT: true; the input reads as it did. -/
def ulpSplitsSpec : ChangeSpec := { name := "ulpSplits", fn := fun _ => fun
  | [d1, d2, d3] => { results := [.lit (.bool true)], args := [d1, d2, d3] }
  | _ => none }
def ulpSplitsRow : OpenClaim := { program := "ytjdccbigaahkeaa", sum := "319e214b972259cad31dcdc35b732b08a93471b38198bcfee4d0af0b476b86fe", func := "orrery/orrerylaw01.UlpSplits", spec := "ulpSplits", inPlace := ["math.Float64bits", "math.Float64frombits"], apart := false }
def UlpSplitsSaid : Prop := ulpSplitsRow.holds Try.pinned (OpenSpec.ofChange ulpSplitsSpec)

/-- ITS FALSE NEIGHBOUR: 'it returns false'. Refute it at one input. -/
def ulpSplitsWrong : ChangeSpec := { name := "ulpSplits", fn := fun _ => fun
  | [d1, d2, d3] => { results := [.lit (.bool false)], args := [d1, d2, d3] }
  | _ => none }
def UlpSplitsWrongFalsely : Prop := ulpSplitsRow.holds Try.pinned (OpenSpec.ofChange ulpSplitsWrong)

/-- 'orrerylaw01.UlpProducts': WHATEVER THE INPUT: true; the input reads as it did. -/
def ulpProductsSpec : ChangeSpec := { name := "ulpProducts", fn := fun _ => fun
  | [d1, d2, d3] => { results := [.lit (.bool true)], args := [d1, d2, d3] }
  | _ => none }
def ulpProductsRow : OpenClaim := { program := "ytjdccbigaahkeaa", sum := "319e214b972259cad31dcdc35b732b08a93471b38198bcfee4d0af0b476b86fe", func := "orrery/orrerylaw01.UlpProducts", spec := "ulpProducts", inPlace := ["math.Float64bits", "math.Float64frombits"], apart := false }
def UlpProductsSaid : Prop := ulpProductsRow.holds Try.pinned (OpenSpec.ofChange ulpProductsSpec)

/-- ITS FALSE NEIGHBOUR: 'it returns false'. Refute it at one input. -/
def ulpProductsWrong : ChangeSpec := { name := "ulpProducts", fn := fun _ => fun
  | [d1, d2, d3] => { results := [.lit (.bool false)], args := [d1, d2, d3] }
  | _ => none }
def UlpProductsWrongFalsely : Prop := ulpProductsRow.holds Try.pinned (OpenSpec.ofChange ulpProductsWrong)

/-- 'orrerylaw01.UlpSums': WHATEVER THE INPUT: true; the input reads as it did. -/
def ulpSumsSpec : ChangeSpec := { name := "ulpSums", fn := fun _ => fun
  | [d1, d2, d3] => { results := [.lit (.bool true)], args := [d1, d2, d3] }
  | _ => none }
def ulpSumsRow : OpenClaim := { program := "ytjdccbigaahkeaa", sum := "319e214b972259cad31dcdc35b732b08a93471b38198bcfee4d0af0b476b86fe", func := "orrery/orrerylaw01.UlpSums", spec := "ulpSums", inPlace := ["math.Float64bits", "math.Float64frombits", "math/bits.Add64", "math/bits.Sub64"], apart := false }
def UlpSumsSaid : Prop := ulpSumsRow.holds Try.pinned (OpenSpec.ofChange ulpSumsSpec)

/-- ITS FALSE NEIGHBOUR: 'it returns false'. Refute it at one input. -/
def ulpSumsWrong : ChangeSpec := { name := "ulpSums", fn := fun _ => fun
  | [d1, d2, d3] => { results := [.lit (.bool false)], args := [d1, d2, d3] }
  | _ => none }
def UlpSumsWrongFalsely : Prop := ulpSumsRow.holds Try.pinned (OpenSpec.ofChange ulpSumsWrong)

/-- 'orrerylaw01.UlpQuotients': WHATEVER THE INPUT: true; the input reads as it did. -/
def ulpQuotientsSpec : ChangeSpec := { name := "ulpQuotients", fn := fun _ => fun
  | [d1, d2, d3] => { results := [.lit (.bool true)], args := [d1, d2, d3] }
  | _ => none }
def ulpQuotientsRow : OpenClaim := { program := "ytjdccbigaahkeaa", sum := "319e214b972259cad31dcdc35b732b08a93471b38198bcfee4d0af0b476b86fe", func := "orrery/orrerylaw01.UlpQuotients", spec := "ulpQuotients", inPlace := ["math.Float64bits", "math.Float64frombits"], named := ["math/bits.divideError", "math/bits.overflowError"], apart := false }
def UlpQuotientsSaid : Prop := ulpQuotientsRow.holds Try.pinned (OpenSpec.ofChange ulpQuotientsSpec)

/-- ITS FALSE NEIGHBOUR: 'it returns false'. Refute it at one input. -/
def ulpQuotientsWrong : ChangeSpec := { name := "ulpQuotients", fn := fun _ => fun
  | [d1, d2, d3] => { results := [.lit (.bool false)], args := [d1, d2, d3] }
  | _ => none }
def UlpQuotientsWrongFalsely : Prop := ulpQuotientsRow.holds Try.pinned (OpenSpec.ofChange ulpQuotientsWrong)

/-- 'orrerylaw01.UlpRoots': WHATEVER THE INPUT: true; the input reads as it did. -/
def ulpRootsSpec : ChangeSpec := { name := "ulpRoots", fn := fun _ => fun
  | [d1, d2] => { results := [.lit (.bool true)], args := [d1, d2] }
  | _ => none }
def ulpRootsRow : OpenClaim := { program := "ytjdccbigaahkeaa", sum := "319e214b972259cad31dcdc35b732b08a93471b38198bcfee4d0af0b476b86fe", func := "orrery/orrerylaw01.UlpRoots", spec := "ulpRoots", inPlace := ["math.Float64bits", "math.Float64frombits", "math.sqrt"], apart := false }
def UlpRootsSaid : Prop := ulpRootsRow.holds Try.pinned (OpenSpec.ofChange ulpRootsSpec)

/-- ITS FALSE NEIGHBOUR: 'it returns false'. Refute it at one input. -/
def ulpRootsWrong : ChangeSpec := { name := "ulpRoots", fn := fun _ => fun
  | [d1, d2] => { results := [.lit (.bool false)], args := [d1, d2] }
  | _ => none }
def UlpRootsWrongFalsely : Prop := ulpRootsRow.holds Try.pinned (OpenSpec.ofChange ulpRootsWrong)

/-- 'orrerylaw02.IvalSizes': WHATEVER THE INPUT: true; the input reads as it did. -/
def ivalSizesSpec : ChangeSpec := { name := "ivalSizes", fn := fun _ => fun
  | [d] => { results := [.lit (.bool true)], args := [d] }
  | _ => none }
def ivalSizesRow : OpenClaim := { program := "ytjdccbigaahkeaa", sum := "319e214b972259cad31dcdc35b732b08a93471b38198bcfee4d0af0b476b86fe", func := "orrery/orrerylaw02.IvalSizes", spec := "ivalSizes", inPlace := ["math.Float64frombits", "math.Float64bits", "math/bits.Add64", "math/bits.Sub64"], apart := false }
def IvalSizesSaid : Prop := ivalSizesRow.holds Try.pinned (OpenSpec.ofChange ivalSizesSpec)

/-- ITS FALSE NEIGHBOUR: 'it returns false'. Refute it at one input. -/
def ivalSizesWrong : ChangeSpec := { name := "ivalSizes", fn := fun _ => fun
  | [d] => { results := [.lit (.bool false)], args := [d] }
  | _ => none }
def IvalSizesWrongFalsely : Prop := ivalSizesRow.holds Try.pinned (OpenSpec.ofChange ivalSizesWrong)

/-- 'orrerylaw02.IvalSums': WHATEVER THE INPUT: true; the input reads as it did. -/
def ivalSumsSpec : ChangeSpec := { name := "ivalSums", fn := fun _ => fun
  | [d1, d2] => { results := [.lit (.bool true)], args := [d1, d2] }
  | _ => none }
def ivalSumsRow : OpenClaim := { program := "ytjdccbigaahkeaa", sum := "319e214b972259cad31dcdc35b732b08a93471b38198bcfee4d0af0b476b86fe", func := "orrery/orrerylaw02.IvalSums", spec := "ivalSums", inPlace := ["math.Float64frombits", "math.Float64bits", "math/bits.Add64", "math/bits.Sub64"], apart := false }
def IvalSumsSaid : Prop := ivalSumsRow.holds Try.pinned (OpenSpec.ofChange ivalSumsSpec)

/-- ITS FALSE NEIGHBOUR: 'it returns false'. Refute it at one input. -/
def ivalSumsWrong : ChangeSpec := { name := "ivalSums", fn := fun _ => fun
  | [d1, d2] => { results := [.lit (.bool false)], args := [d1, d2] }
  | _ => none }
def IvalSumsWrongFalsely : Prop := ivalSumsRow.holds Try.pinned (OpenSpec.ofChange ivalSumsWrong)

/-- 'orrerylaw02.IvalQuotients': WHATEVER THE INPUT: true; the input reads as it did. -/
def ivalQuotientsSpec : ChangeSpec := { name := "ivalQuotients", fn := fun _ => fun
  | [d1, d2] => { results := [.lit (.bool true)], args := [d1, d2] }
  | _ => none }
def ivalQuotientsRow : OpenClaim := { program := "ytjdccbigaahkeaa", sum := "319e214b972259cad31dcdc35b732b08a93471b38198bcfee4d0af0b476b86fe", func := "orrery/orrerylaw02.IvalQuotients", spec := "ivalQuotients", inPlace := ["math.Float64frombits", "math.Float64bits"], unfollowed := true, recurses := true, named := ["math/bits.divideError", "math/bits.overflowError"], apart := false }
def IvalQuotientsSaid : Prop := ivalQuotientsRow.holds Try.pinned (OpenSpec.ofChange ivalQuotientsSpec)

/-- ITS FALSE NEIGHBOUR: 'it returns false'. Refute it at one input. -/
def ivalQuotientsWrong : ChangeSpec := { name := "ivalQuotients", fn := fun _ => fun
  | [d1, d2] => { results := [.lit (.bool false)], args := [d1, d2] }
  | _ => none }
def IvalQuotientsWrongFalsely : Prop := ivalQuotientsRow.holds Try.pinned (OpenSpec.ofChange ivalQuotientsWrong)

/-- 'orrerylaw02.IvalProducts': WHATEVER THE INPUT: true; the input reads as it did. -/
def ivalProductsSpec : ChangeSpec := { name := "ivalProducts", fn := fun _ => fun
  | [d1, d2] => { results := [.lit (.bool true)], args := [d1, d2] }
  | _ => none }
def ivalProductsRow : OpenClaim := { program := "ytjdccbigaahkeaa", sum := "319e214b972259cad31dcdc35b732b08a93471b38198bcfee4d0af0b476b86fe", func := "orrery/orrerylaw02.IvalProducts", spec := "ivalProducts", inPlace := ["math.Float64frombits", "math.Float64bits"], unfollowed := true, recurses := true, named := ["math/bits.divideError", "math/bits.overflowError"], apart := false }
def IvalProductsSaid : Prop := ivalProductsRow.holds Try.pinned (OpenSpec.ofChange ivalProductsSpec)

/-- ITS FALSE NEIGHBOUR: 'it returns false'. Refute it at one input. -/
def ivalProductsWrong : ChangeSpec := { name := "ivalProducts", fn := fun _ => fun
  | [d1, d2] => { results := [.lit (.bool false)], args := [d1, d2] }
  | _ => none }
def IvalProductsWrongFalsely : Prop := ivalProductsRow.holds Try.pinned (OpenSpec.ofChange ivalProductsWrong)

/-- 'orrerylaw01.UlpWhole': WHATEVER THE INPUT: true; the input reads as it did. -/
def ulpWholeSpec : ChangeSpec := { name := "ulpWhole", fn := fun _ => fun
  | [d1, d2, d3] => { results := [.lit (.bool true)], args := [d1, d2, d3] }
  | _ => none }
def ulpWholeRow : OpenClaim := { program := "ytjdccbigaahkeaa", sum := "319e214b972259cad31dcdc35b732b08a93471b38198bcfee4d0af0b476b86fe", func := "orrery/orrerylaw01.UlpWhole", spec := "ulpWhole", inPlace := ["math.Float64bits", "math.Float64frombits", "math/bits.Add64", "math/bits.Sub64", "math.sqrt"], named := ["math/bits.divideError", "math/bits.overflowError"], apart := false }
def UlpWholeSaid : Prop := ulpWholeRow.holds Try.pinned (OpenSpec.ofChange ulpWholeSpec)

/-- ITS FALSE NEIGHBOUR: 'it returns false'. Refute it at one input. -/
def ulpWholeWrong : ChangeSpec := { name := "ulpWhole", fn := fun _ => fun
  | [d1, d2, d3] => { results := [.lit (.bool false)], args := [d1, d2, d3] }
  | _ => none }
def UlpWholeWrongFalsely : Prop := ulpWholeRow.holds Try.pinned (OpenSpec.ofChange ulpWholeWrong)

/-- 'orrerylaw01.UlpSides': WHATEVER THE INPUT: true; the input reads as it did. -/
def ulpSidesSpec : ChangeSpec := { name := "ulpSides", fn := fun _ => fun
  | [d1, d2] => { results := [.lit (.bool true)], args := [d1, d2] }
  | _ => none }
def ulpSidesRow : OpenClaim := { program := "ytjdccbigaahkeaa", sum := "319e214b972259cad31dcdc35b732b08a93471b38198bcfee4d0af0b476b86fe", func := "orrery/orrerylaw01.UlpSides", spec := "ulpSides", inPlace := ["math.Float64frombits", "math.Float64bits", "math/bits.Add64", "math/bits.Sub64", "math.sqrt"], named := ["math/bits.divideError", "math/bits.overflowError"], apart := false }
def UlpSidesSaid : Prop := ulpSidesRow.holds Try.pinned (OpenSpec.ofChange ulpSidesSpec)

/-- ITS FALSE NEIGHBOUR: 'it returns false'. Refute it at one input. -/
def ulpSidesWrong : ChangeSpec := { name := "ulpSides", fn := fun _ => fun
  | [d1, d2] => { results := [.lit (.bool false)], args := [d1, d2] }
  | _ => none }
def UlpSidesWrongFalsely : Prop := ulpSidesRow.holds Try.pinned (OpenSpec.ofChange ulpSidesWrong)

/-- 'orrerylaw02.IvalLattice': WHATEVER THE INPUT: true; the input reads as it did. -/
def ivalLatticeSpec : ChangeSpec := { name := "ivalLattice", fn := fun _ => fun
  | [d1, d2, d3] => { results := [.lit (.bool true)], args := [d1, d2, d3] }
  | _ => none }
def ivalLatticeRow : OpenClaim := { program := "ytjdccbigaahkeaa", sum := "319e214b972259cad31dcdc35b732b08a93471b38198bcfee4d0af0b476b86fe", func := "orrery/orrerylaw02.IvalLattice", spec := "ivalLattice", inPlace := ["math.Float64frombits", "math.Float64bits", "math/bits.Add64", "math/bits.Sub64"], unfollowed := true, recurses := true, named := ["math/bits.divideError", "math/bits.overflowError"], apart := false }
def IvalLatticeSaid : Prop := ivalLatticeRow.holds Try.pinned (OpenSpec.ofChange ivalLatticeSpec)

/-- ITS FALSE NEIGHBOUR: 'it returns false'. Refute it at one input. -/
def ivalLatticeWrong : ChangeSpec := { name := "ivalLattice", fn := fun _ => fun
  | [d1, d2, d3] => { results := [.lit (.bool false)], args := [d1, d2, d3] }
  | _ => none }
def IvalLatticeWrongFalsely : Prop := ivalLatticeRow.holds Try.pinned (OpenSpec.ofChange ivalLatticeWrong)

/-- 'orrerylaw02.IvalHolds': WHATEVER THE INPUT: true; the input reads as it did. -/
def ivalHoldsSpec : ChangeSpec := { name := "ivalHolds", fn := fun _ => fun
  | [d1, d2, d3, d4] => { results := [.lit (.bool true)], args := [d1, d2, d3, d4] }
  | _ => none }
def ivalHoldsRow : OpenClaim := { program := "ytjdccbigaahkeaa", sum := "319e214b972259cad31dcdc35b732b08a93471b38198bcfee4d0af0b476b86fe", func := "orrery/orrerylaw02.IvalHolds", spec := "ivalHolds", inPlace := ["math.Float64frombits", "math.Float64bits", "math/bits.Add64", "math/bits.Sub64", "math.sqrt"], unfollowed := true, recurses := true, named := ["math/bits.divideError", "math/bits.overflowError"], apart := false }
def IvalHoldsSaid : Prop := ivalHoldsRow.holds Try.pinned (OpenSpec.ofChange ivalHoldsSpec)

/-- ITS FALSE NEIGHBOUR: 'it returns false'. Refute it at one input. -/
def ivalHoldsWrong : ChangeSpec := { name := "ivalHolds", fn := fun _ => fun
  | [d1, d2, d3, d4] => { results := [.lit (.bool false)], args := [d1, d2, d3, d4] }
  | _ => none }
def IvalHoldsWrongFalsely : Prop := ivalHoldsRow.holds Try.pinned (OpenSpec.ofChange ivalHoldsWrong)

/-- 'orrerylaw02.IvalGrows': WHATEVER THE INPUT: true; the input reads as it did. -/
def ivalGrowsSpec : ChangeSpec := { name := "ivalGrows", fn := fun _ => fun
  | [d1, d2, d3, d4] => { results := [.lit (.bool true)], args := [d1, d2, d3, d4] }
  | _ => none }
def ivalGrowsRow : OpenClaim := { program := "ytjdccbigaahkeaa", sum := "319e214b972259cad31dcdc35b732b08a93471b38198bcfee4d0af0b476b86fe", func := "orrery/orrerylaw02.IvalGrows", spec := "ivalGrows", inPlace := ["math.Float64frombits", "math.Float64bits", "math/bits.Add64", "math/bits.Sub64", "math.sqrt"], unfollowed := true, recurses := true, named := ["math/bits.divideError", "math/bits.overflowError"], apart := false }
def IvalGrowsSaid : Prop := ivalGrowsRow.holds Try.pinned (OpenSpec.ofChange ivalGrowsSpec)

/-- ITS FALSE NEIGHBOUR: 'it returns false'. Refute it at one input. -/
def ivalGrowsWrong : ChangeSpec := { name := "ivalGrows", fn := fun _ => fun
  | [d1, d2, d3, d4] => { results := [.lit (.bool false)], args := [d1, d2, d3, d4] }
  | _ => none }
def IvalGrowsWrongFalsely : Prop := ivalGrowsRow.holds Try.pinned (OpenSpec.ofChange ivalGrowsWrong)

/- THE SECOND FORM. 'bulk': how many values and letters a reading holds, each counted each time it is reached (what is shared counts as often as it is met; a slice's spare places count too). A statement '..UptoSaid' is the law's where the arguments, and the package variables that the reading takes, are together of bulk at most 1048576: NARROWER than '..Said'. Prove '..Said' where nothing that the law and all that it calls make is longer than what came in: it says more and counts as full. Else prove '..UptoSaid'. A law counts once. -/
mutual
def uptoBulk {H : Type} : DataW H → Nat
  | .lit (.string bytes) => bytes.length + 1
  | .lit _ => 1
  | .nil => 1
  | .ptr d => uptoBulk d + 1
  | .slice elems spare => uptoBulkAll elems + uptoBulkAll spare + 1
  | .agg parts => uptoBulkAll parts + 1
  | .iface _ d => uptoBulk d + 1
  | .map entries => uptoBulkEntries entries + 1
  | .held _ => 1
def uptoBulkAll {H : Type} : List (DataW H) → Nat
  | [] => 0
  | d :: r => uptoBulk d + uptoBulkAll r
def uptoBulkEntries {H : Type} : List (Lit × DataW H) → Nat
  | [] => 0
  | x :: r => uptoBulkEntry x + uptoBulkEntries r
def uptoBulkEntry {H : Type} : Lit × DataW H → Nat
  | (.string bytes, d) => bytes.length + uptoBulk d + 1
  | (_, d) => uptoBulk d + 1
 end
def uptoSmall : (H : Type) → List (DataW H) → Bool := fun _ ds => decide (uptoBulkAll ds ≤ 1048576)
def OpenSpec.upto (s : _root_.Go.ChangeSpec) : _root_.Go.OpenSpec := { _root_.Go.OpenSpec.ofChange s with cond := some uptoSmall }

/-- 'orrerylaw02.IvalShapes', WHERE WHAT IT READS IS OF BULK AT MOST 1048576: true; the input reads as it did. -/
def ivalShapesUptoRow : OpenClaim := { program := "ytjdccbigaahkeaa", sum := "319e214b972259cad31dcdc35b732b08a93471b38198bcfee4d0af0b476b86fe", func := "orrery/orrerylaw02.IvalShapes", spec := "ivalShapes", inPlace := ["math.Float64frombits", "math.Float64bits"], apart := false, narrowed := true }
def IvalShapesUptoSaid : Prop := ivalShapesUptoRow.holds Try.pinned (OpenSpec.upto ivalShapesSpec)

/-- 'orrerylaw01.UlpNeighbours', WHERE WHAT IT READS IS OF BULK AT MOST 1048576: true; the input reads as it did. -/
def ulpNeighboursUptoRow : OpenClaim := { program := "ytjdccbigaahkeaa", sum := "319e214b972259cad31dcdc35b732b08a93471b38198bcfee4d0af0b476b86fe", func := "orrery/orrerylaw01.UlpNeighbours", spec := "ulpNeighbours", inPlace := ["math.Float64frombits", "math.Float64bits"], apart := false, narrowed := true }
def UlpNeighboursUptoSaid : Prop := ulpNeighboursUptoRow.holds Try.pinned (OpenSpec.upto ulpNeighboursSpec)

/-- 'orrerylaw02.IvalAsks', WHERE WHAT IT READS IS OF BULK AT MOST 1048576: true; the input reads as it did. -/
def ivalAsksUptoRow : OpenClaim := { program := "ytjdccbigaahkeaa", sum := "319e214b972259cad31dcdc35b732b08a93471b38198bcfee4d0af0b476b86fe", func := "orrery/orrerylaw02.IvalAsks", spec := "ivalAsks", inPlace := ["math.Float64frombits", "math.Float64bits"], apart := false, narrowed := true }
def IvalAsksUptoSaid : Prop := ivalAsksUptoRow.holds Try.pinned (OpenSpec.upto ivalAsksSpec)

/-- 'orrerylaw01.UlpSplits', WHERE WHAT IT READS IS OF BULK AT MOST 1048576: true; the input reads as it did. -/
def ulpSplitsUptoRow : OpenClaim := { program := "ytjdccbigaahkeaa", sum := "319e214b972259cad31dcdc35b732b08a93471b38198bcfee4d0af0b476b86fe", func := "orrery/orrerylaw01.UlpSplits", spec := "ulpSplits", inPlace := ["math.Float64bits", "math.Float64frombits"], apart := false, narrowed := true }
def UlpSplitsUptoSaid : Prop := ulpSplitsUptoRow.holds Try.pinned (OpenSpec.upto ulpSplitsSpec)

/-- 'orrerylaw01.UlpProducts', WHERE WHAT IT READS IS OF BULK AT MOST 1048576: true; the input reads as it did. -/
def ulpProductsUptoRow : OpenClaim := { program := "ytjdccbigaahkeaa", sum := "319e214b972259cad31dcdc35b732b08a93471b38198bcfee4d0af0b476b86fe", func := "orrery/orrerylaw01.UlpProducts", spec := "ulpProducts", inPlace := ["math.Float64bits", "math.Float64frombits"], apart := false, narrowed := true }
def UlpProductsUptoSaid : Prop := ulpProductsUptoRow.holds Try.pinned (OpenSpec.upto ulpProductsSpec)

/-- 'orrerylaw01.UlpSums', WHERE WHAT IT READS IS OF BULK AT MOST 1048576: true; the input reads as it did. -/
def ulpSumsUptoRow : OpenClaim := { program := "ytjdccbigaahkeaa", sum := "319e214b972259cad31dcdc35b732b08a93471b38198bcfee4d0af0b476b86fe", func := "orrery/orrerylaw01.UlpSums", spec := "ulpSums", inPlace := ["math.Float64bits", "math.Float64frombits", "math/bits.Add64", "math/bits.Sub64"], apart := false, narrowed := true }
def UlpSumsUptoSaid : Prop := ulpSumsUptoRow.holds Try.pinned (OpenSpec.upto ulpSumsSpec)

/-- 'orrerylaw01.UlpQuotients', WHERE WHAT IT READS IS OF BULK AT MOST 1048576: true; the input reads as it did. -/
def ulpQuotientsUptoRow : OpenClaim := { program := "ytjdccbigaahkeaa", sum := "319e214b972259cad31dcdc35b732b08a93471b38198bcfee4d0af0b476b86fe", func := "orrery/orrerylaw01.UlpQuotients", spec := "ulpQuotients", inPlace := ["math.Float64bits", "math.Float64frombits"], named := ["math/bits.divideError", "math/bits.overflowError"], apart := false, narrowed := true }
def UlpQuotientsUptoSaid : Prop := ulpQuotientsUptoRow.holds Try.pinned (OpenSpec.upto ulpQuotientsSpec)

/-- 'orrerylaw01.UlpRoots', WHERE WHAT IT READS IS OF BULK AT MOST 1048576: true; the input reads as it did. -/
def ulpRootsUptoRow : OpenClaim := { program := "ytjdccbigaahkeaa", sum := "319e214b972259cad31dcdc35b732b08a93471b38198bcfee4d0af0b476b86fe", func := "orrery/orrerylaw01.UlpRoots", spec := "ulpRoots", inPlace := ["math.Float64bits", "math.Float64frombits", "math.sqrt"], apart := false, narrowed := true }
def UlpRootsUptoSaid : Prop := ulpRootsUptoRow.holds Try.pinned (OpenSpec.upto ulpRootsSpec)

/-- 'orrerylaw02.IvalSizes', WHERE WHAT IT READS IS OF BULK AT MOST 1048576: true; the input reads as it did. -/
def ivalSizesUptoRow : OpenClaim := { program := "ytjdccbigaahkeaa", sum := "319e214b972259cad31dcdc35b732b08a93471b38198bcfee4d0af0b476b86fe", func := "orrery/orrerylaw02.IvalSizes", spec := "ivalSizes", inPlace := ["math.Float64frombits", "math.Float64bits", "math/bits.Add64", "math/bits.Sub64"], apart := false, narrowed := true }
def IvalSizesUptoSaid : Prop := ivalSizesUptoRow.holds Try.pinned (OpenSpec.upto ivalSizesSpec)

/-- 'orrerylaw02.IvalSums', WHERE WHAT IT READS IS OF BULK AT MOST 1048576: true; the input reads as it did. -/
def ivalSumsUptoRow : OpenClaim := { program := "ytjdccbigaahkeaa", sum := "319e214b972259cad31dcdc35b732b08a93471b38198bcfee4d0af0b476b86fe", func := "orrery/orrerylaw02.IvalSums", spec := "ivalSums", inPlace := ["math.Float64frombits", "math.Float64bits", "math/bits.Add64", "math/bits.Sub64"], apart := false, narrowed := true }
def IvalSumsUptoSaid : Prop := ivalSumsUptoRow.holds Try.pinned (OpenSpec.upto ivalSumsSpec)

/-- 'orrerylaw02.IvalQuotients', WHERE WHAT IT READS IS OF BULK AT MOST 1048576: true; the input reads as it did. -/
def ivalQuotientsUptoRow : OpenClaim := { program := "ytjdccbigaahkeaa", sum := "319e214b972259cad31dcdc35b732b08a93471b38198bcfee4d0af0b476b86fe", func := "orrery/orrerylaw02.IvalQuotients", spec := "ivalQuotients", inPlace := ["math.Float64frombits", "math.Float64bits"], unfollowed := true, recurses := true, named := ["math/bits.divideError", "math/bits.overflowError"], apart := false, narrowed := true }
def IvalQuotientsUptoSaid : Prop := ivalQuotientsUptoRow.holds Try.pinned (OpenSpec.upto ivalQuotientsSpec)

/-- 'orrerylaw02.IvalProducts', WHERE WHAT IT READS IS OF BULK AT MOST 1048576: true; the input reads as it did. -/
def ivalProductsUptoRow : OpenClaim := { program := "ytjdccbigaahkeaa", sum := "319e214b972259cad31dcdc35b732b08a93471b38198bcfee4d0af0b476b86fe", func := "orrery/orrerylaw02.IvalProducts", spec := "ivalProducts", inPlace := ["math.Float64frombits", "math.Float64bits"], unfollowed := true, recurses := true, named := ["math/bits.divideError", "math/bits.overflowError"], apart := false, narrowed := true }
def IvalProductsUptoSaid : Prop := ivalProductsUptoRow.holds Try.pinned (OpenSpec.upto ivalProductsSpec)

/-- 'orrerylaw01.UlpWhole', WHERE WHAT IT READS IS OF BULK AT MOST 1048576: true; the input reads as it did. -/
def ulpWholeUptoRow : OpenClaim := { program := "ytjdccbigaahkeaa", sum := "319e214b972259cad31dcdc35b732b08a93471b38198bcfee4d0af0b476b86fe", func := "orrery/orrerylaw01.UlpWhole", spec := "ulpWhole", inPlace := ["math.Float64bits", "math.Float64frombits", "math/bits.Add64", "math/bits.Sub64", "math.sqrt"], named := ["math/bits.divideError", "math/bits.overflowError"], apart := false, narrowed := true }
def UlpWholeUptoSaid : Prop := ulpWholeUptoRow.holds Try.pinned (OpenSpec.upto ulpWholeSpec)

/-- 'orrerylaw01.UlpSides', WHERE WHAT IT READS IS OF BULK AT MOST 1048576: true; the input reads as it did. -/
def ulpSidesUptoRow : OpenClaim := { program := "ytjdccbigaahkeaa", sum := "319e214b972259cad31dcdc35b732b08a93471b38198bcfee4d0af0b476b86fe", func := "orrery/orrerylaw01.UlpSides", spec := "ulpSides", inPlace := ["math.Float64frombits", "math.Float64bits", "math/bits.Add64", "math/bits.Sub64", "math.sqrt"], named := ["math/bits.divideError", "math/bits.overflowError"], apart := false, narrowed := true }
def UlpSidesUptoSaid : Prop := ulpSidesUptoRow.holds Try.pinned (OpenSpec.upto ulpSidesSpec)

/-- 'orrerylaw02.IvalLattice', WHERE WHAT IT READS IS OF BULK AT MOST 1048576: true; the input reads as it did. -/
def ivalLatticeUptoRow : OpenClaim := { program := "ytjdccbigaahkeaa", sum := "319e214b972259cad31dcdc35b732b08a93471b38198bcfee4d0af0b476b86fe", func := "orrery/orrerylaw02.IvalLattice", spec := "ivalLattice", inPlace := ["math.Float64frombits", "math.Float64bits", "math/bits.Add64", "math/bits.Sub64"], unfollowed := true, recurses := true, named := ["math/bits.divideError", "math/bits.overflowError"], apart := false, narrowed := true }
def IvalLatticeUptoSaid : Prop := ivalLatticeUptoRow.holds Try.pinned (OpenSpec.upto ivalLatticeSpec)

/-- 'orrerylaw02.IvalHolds', WHERE WHAT IT READS IS OF BULK AT MOST 1048576: true; the input reads as it did. -/
def ivalHoldsUptoRow : OpenClaim := { program := "ytjdccbigaahkeaa", sum := "319e214b972259cad31dcdc35b732b08a93471b38198bcfee4d0af0b476b86fe", func := "orrery/orrerylaw02.IvalHolds", spec := "ivalHolds", inPlace := ["math.Float64frombits", "math.Float64bits", "math/bits.Add64", "math/bits.Sub64", "math.sqrt"], unfollowed := true, recurses := true, named := ["math/bits.divideError", "math/bits.overflowError"], apart := false, narrowed := true }
def IvalHoldsUptoSaid : Prop := ivalHoldsUptoRow.holds Try.pinned (OpenSpec.upto ivalHoldsSpec)

/-- 'orrerylaw02.IvalGrows', WHERE WHAT IT READS IS OF BULK AT MOST 1048576: true; the input reads as it did. -/
def ivalGrowsUptoRow : OpenClaim := { program := "ytjdccbigaahkeaa", sum := "319e214b972259cad31dcdc35b732b08a93471b38198bcfee4d0af0b476b86fe", func := "orrery/orrerylaw02.IvalGrows", spec := "ivalGrows", inPlace := ["math.Float64frombits", "math.Float64bits", "math/bits.Add64", "math/bits.Sub64", "math.sqrt"], unfollowed := true, recurses := true, named := ["math/bits.divideError", "math/bits.overflowError"], apart := false, narrowed := true }
def IvalGrowsUptoSaid : Prop := ivalGrowsUptoRow.holds Try.pinned (OpenSpec.upto ivalGrowsSpec)

end Rows
end Go.Proofs.Ytjdccbigaahkeaa
