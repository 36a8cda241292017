/-
  No cell of these rows narrows 'for every input' (looked for: loops, veiled, ifaces, maps, wideKeys, modest, calm, conditions, laid).
  DERIVED. THE GIVEN ROWS OF THIS SEAT. 8 by the template 'for every input the law returns true; each argument reads behind the call as it read before'; 0 by the template 'total and deterministic' (their statements: YtpkgpkabmechkaaGreatTotals.lean).
  GIVEN WITH THE SEED: the statements are not yours to turn. If you find one false, say at which input.
  Laid BY PROGRAM, IN A SANDBOX (cutbox-rows.mjs): the forced cells as the released guide's own fill.sh prints them over the translation 787b3b877b8c4b52… (all of the seat's roots in one cut). By AI agents, Wed Nov 11 2026. No macro, syntax, notation, axiom, sorry.
-/
import Derived.Test.YtpkgpkabmechkaaGreatChecked
import GoSem.Claim
import GoSem.ClaimJoined
import GoSem.ClaimMapViews
import Derived.JoinedTies
import Derived.KernelRfl
namespace Go.Proofs.YtpkgpkabmechkaaGreat
/- THE CELL 'sum', in the pinned program and in every row, IS THE sha256 OF THE DUMP (.gsa) THAT YtpkgpkabmechkaaGreatProg.lean LOADS. Nothing in Lean hashes anything: it is a label: what it is worth is what the hold of that sum in a sandbox is worth. -/
noncomputable def Tryz.pinned : Pinned := { name := "ytpkgpkabmechkaagreat", sum := "787b3b877b8c4b52deebeaee761af48e15d4fd5f7c9147320643f57c09545395", checked := Tryz.checked }
namespace Rows
def none {H : Type} : Left H := { results := [], args := [] }

/-- 'orrerylaw03.ElemMade': WHATEVER THE INPUT: true; the input reads as it did. -/
def elemMadeSpec : ChangeSpec := { name := "elemMade", fn := fun _ => fun
  | [d] => { results := [.lit (.bool true)], args := [d] }
  | _ => none }
def elemMadeRow : OpenClaim := { program := "ytpkgpkabmechkaagreat", sum := "787b3b877b8c4b52deebeaee761af48e15d4fd5f7c9147320643f57c09545395", func := "orrery/orrerylaw03.ElemMade", spec := "elemMade", inPlace := ["math.Float64bits", "math.Float64frombits", "math.archFloor", "math.archTrunc", "math/bits.Add64", "math/bits.Sub64"], unfollowed := true, recurses := true, named := ["math/bits.divideError", "math/bits.overflowError"], plainKeys := false, apart := false }
def ElemMadeSaid : Prop := elemMadeRow.holds Tryz.pinned (OpenSpec.ofChange elemMadeSpec)

/-- ITS FALSE NEIGHBOUR: 'it returns false'. Refute it at one input. -/
def elemMadeWrong : ChangeSpec := { name := "elemMade", fn := fun _ => fun
  | [d] => { results := [.lit (.bool false)], args := [d] }
  | _ => none }
def ElemMadeWrongFalsely : Prop := elemMadeRow.holds Tryz.pinned (OpenSpec.ofChange elemMadeWrong)

/-- 'orrerylaw05.TapeEvals': WHATEVER THE INPUT: true; the input reads as it did. -/
def tapeEvalsSpec : ChangeSpec := { name := "tapeEvals", fn := fun _ => fun
  | [d1, d2] => { results := [.lit (.bool true)], args := [d1, d2] }
  | _ => none }
def tapeEvalsRow : OpenClaim := { program := "ytpkgpkabmechkaagreat", sum := "787b3b877b8c4b52deebeaee761af48e15d4fd5f7c9147320643f57c09545395", func := "orrery/orrerylaw05.TapeEvals", spec := "tapeEvals", inPlace := ["math.Float64frombits", "math.Float64bits", "math/bits.Add64", "math/bits.Sub64", "math.sqrt", "math.archFloor", "math.archTrunc"], unfollowed := true, recurses := true, named := ["math/bits.divideError", "math/bits.overflowError"], plainKeys := false, apart := false }
def TapeEvalsSaid : Prop := tapeEvalsRow.holds Tryz.pinned (OpenSpec.ofChange tapeEvalsSpec)

/-- ITS FALSE NEIGHBOUR: 'it returns false'. Refute it at one input. -/
def tapeEvalsWrong : ChangeSpec := { name := "tapeEvals", fn := fun _ => fun
  | [d1, d2] => { results := [.lit (.bool false)], args := [d1, d2] }
  | _ => none }
def TapeEvalsWrongFalsely : Prop := tapeEvalsRow.holds Tryz.pinned (OpenSpec.ofChange tapeEvalsWrong)

/-- 'orrerylaw05.TapeGrads': WHATEVER THE INPUT: true; the input reads as it did. -/
def tapeGradsSpec : ChangeSpec := { name := "tapeGrads", fn := fun _ => fun
  | [d1, d2] => { results := [.lit (.bool true)], args := [d1, d2] }
  | _ => none }
def tapeGradsRow : OpenClaim := { program := "ytpkgpkabmechkaagreat", sum := "787b3b877b8c4b52deebeaee761af48e15d4fd5f7c9147320643f57c09545395", func := "orrery/orrerylaw05.TapeGrads", spec := "tapeGrads", inPlace := ["math.Float64frombits", "math.Float64bits", "math/bits.Add64", "math/bits.Sub64", "math.sqrt", "math.archFloor", "math.archTrunc"], unfollowed := true, recurses := true, named := ["math/bits.divideError", "math/bits.overflowError"], plainKeys := false, apart := false }
def TapeGradsSaid : Prop := tapeGradsRow.holds Tryz.pinned (OpenSpec.ofChange tapeGradsSpec)

/-- ITS FALSE NEIGHBOUR: 'it returns false'. Refute it at one input. -/
def tapeGradsWrong : ChangeSpec := { name := "tapeGrads", fn := fun _ => fun
  | [d1, d2] => { results := [.lit (.bool false)], args := [d1, d2] }
  | _ => none }
def TapeGradsWrongFalsely : Prop := tapeGradsRow.holds Tryz.pinned (OpenSpec.ofChange tapeGradsWrong)

/-- 'orrerylaw08.PicardBounds': WHATEVER THE INPUT: true; the input reads as it did. -/
def picardBoundsSpec : ChangeSpec := { name := "picardBounds", fn := fun _ => fun
  | [d1, d2, d3] => { results := [.lit (.bool true)], args := [d1, d2, d3] }
  | _ => none }
def picardBoundsRow : OpenClaim := { program := "ytpkgpkabmechkaagreat", sum := "787b3b877b8c4b52deebeaee761af48e15d4fd5f7c9147320643f57c09545395", func := "orrery/orrerylaw08.PicardBounds", spec := "picardBounds", inPlace := ["math.Float64frombits", "math.Float64bits", "math/bits.Add64", "math/bits.Sub64", "math.sqrt", "math.archFloor", "math.archTrunc"], unfollowed := true, recurses := true, named := ["math/bits.divideError", "math/bits.overflowError"], plainKeys := false, apart := false }
def PicardBoundsSaid : Prop := picardBoundsRow.holds Tryz.pinned (OpenSpec.ofChange picardBoundsSpec)

/-- ITS FALSE NEIGHBOUR: 'it returns false'. Refute it at one input. -/
def picardBoundsWrong : ChangeSpec := { name := "picardBounds", fn := fun _ => fun
  | [d1, d2, d3] => { results := [.lit (.bool false)], args := [d1, d2, d3] }
  | _ => none }
def PicardBoundsWrongFalsely : Prop := picardBoundsRow.holds Tryz.pinned (OpenSpec.ofChange picardBoundsWrong)

/-- 'orrerylaw08.PicardFinds': WHATEVER THE INPUT: true; the input reads as it did. -/
def picardFindsSpec : ChangeSpec := { name := "picardFinds", fn := fun _ => fun
  | [d1, d2, d3] => { results := [.lit (.bool true)], args := [d1, d2, d3] }
  | _ => none }
def picardFindsRow : OpenClaim := { program := "ytpkgpkabmechkaagreat", sum := "787b3b877b8c4b52deebeaee761af48e15d4fd5f7c9147320643f57c09545395", func := "orrery/orrerylaw08.PicardFinds", spec := "picardFinds", inPlace := ["math.Float64frombits", "math.Float64bits", "math/bits.Add64", "math/bits.Sub64", "math.sqrt", "math.archFloor", "math.archTrunc"], unfollowed := true, recurses := true, named := ["math/bits.divideError", "math/bits.overflowError"], plainKeys := false, apart := false }
def PicardFindsSaid : Prop := picardFindsRow.holds Tryz.pinned (OpenSpec.ofChange picardFindsSpec)

/-- ITS FALSE NEIGHBOUR: 'it returns false'. Refute it at one input. -/
def picardFindsWrong : ChangeSpec := { name := "picardFinds", fn := fun _ => fun
  | [d1, d2, d3] => { results := [.lit (.bool false)], args := [d1, d2, d3] }
  | _ => none }
def PicardFindsWrongFalsely : Prop := picardFindsRow.holds Tryz.pinned (OpenSpec.ofChange picardFindsWrong)

/-- 'orrerylaw08.PicardShorter': WHATEVER THE INPUT: true; the input reads as it did. -/
def picardShorterSpec : ChangeSpec := { name := "picardShorter", fn := fun _ => fun
  | [d1, d2, d3, d4] => { results := [.lit (.bool true)], args := [d1, d2, d3, d4] }
  | _ => none }
def picardShorterRow : OpenClaim := { program := "ytpkgpkabmechkaagreat", sum := "787b3b877b8c4b52deebeaee761af48e15d4fd5f7c9147320643f57c09545395", func := "orrery/orrerylaw08.PicardShorter", spec := "picardShorter", inPlace := ["math.Float64frombits", "math.Float64bits", "math/bits.Add64", "math/bits.Sub64", "math.sqrt", "math.archFloor", "math.archTrunc"], unfollowed := true, recurses := true, named := ["math/bits.divideError", "math/bits.overflowError"], plainKeys := false, apart := false }
def PicardShorterSaid : Prop := picardShorterRow.holds Tryz.pinned (OpenSpec.ofChange picardShorterSpec)

/-- ITS FALSE NEIGHBOUR: 'it returns false'. Refute it at one input. -/
def picardShorterWrong : ChangeSpec := { name := "picardShorter", fn := fun _ => fun
  | [d1, d2, d3, d4] => { results := [.lit (.bool false)], args := [d1, d2, d3, d4] }
  | _ => none }
def PicardShorterWrongFalsely : Prop := picardShorterRow.holds Tryz.pinned (OpenSpec.ofChange picardShorterWrong)

/-- 'orrerylaw08.PicardLines': WHATEVER THE INPUT: true; the input reads as it did. -/
def picardLinesSpec : ChangeSpec := { name := "picardLines", fn := fun _ => fun
  | [d1, d2, d3] => { results := [.lit (.bool true)], args := [d1, d2, d3] }
  | _ => none }
def picardLinesRow : OpenClaim := { program := "ytpkgpkabmechkaagreat", sum := "787b3b877b8c4b52deebeaee761af48e15d4fd5f7c9147320643f57c09545395", func := "orrery/orrerylaw08.PicardLines", spec := "picardLines", inPlace := ["math.Float64frombits", "math.Float64bits", "math/bits.Add64", "math/bits.Sub64", "math.sqrt", "math.archFloor", "math.archTrunc"], unfollowed := true, recurses := true, named := ["math/bits.divideError", "math/bits.overflowError"], plainKeys := false, apart := false }
def PicardLinesSaid : Prop := picardLinesRow.holds Tryz.pinned (OpenSpec.ofChange picardLinesSpec)

/-- ITS FALSE NEIGHBOUR: 'it returns false'. Refute it at one input. -/
def picardLinesWrong : ChangeSpec := { name := "picardLines", fn := fun _ => fun
  | [d1, d2, d3] => { results := [.lit (.bool false)], args := [d1, d2, d3] }
  | _ => none }
def PicardLinesWrongFalsely : Prop := picardLinesRow.holds Tryz.pinned (OpenSpec.ofChange picardLinesWrong)

/-- 'orrerylaw05.TapeTrimmed': WHATEVER THE INPUT: true; the input reads as it did. -/
def tapeTrimmedSpec : ChangeSpec := { name := "tapeTrimmed", fn := fun _ => fun
  | [d1, d2] => { results := [.lit (.bool true)], args := [d1, d2] }
  | _ => none }
def tapeTrimmedRow : OpenClaim := { program := "ytpkgpkabmechkaagreat", sum := "787b3b877b8c4b52deebeaee761af48e15d4fd5f7c9147320643f57c09545395", func := "orrery/orrerylaw05.TapeTrimmed", spec := "tapeTrimmed", inPlace := ["math.Float64frombits", "math.Float64bits", "math/bits.Add64", "math/bits.Sub64", "math.sqrt", "math.archFloor", "math.archTrunc"], unfollowed := true, recurses := true, named := ["math/bits.divideError", "math/bits.overflowError"], plainKeys := false, apart := false }
def TapeTrimmedSaid : Prop := tapeTrimmedRow.holds Tryz.pinned (OpenSpec.ofChange tapeTrimmedSpec)

/-- ITS FALSE NEIGHBOUR: 'it returns false'. Refute it at one input. -/
def tapeTrimmedWrong : ChangeSpec := { name := "tapeTrimmed", fn := fun _ => fun
  | [d1, d2] => { results := [.lit (.bool false)], args := [d1, d2] }
  | _ => none }
def TapeTrimmedWrongFalsely : Prop := tapeTrimmedRow.holds Tryz.pinned (OpenSpec.ofChange tapeTrimmedWrong)

/- THE SECOND FORM. 'bulk': how many values and letters a reading holds, each counted each time it is reached (what is shared counts as often as it is met; a slice's spare places count too). A statement '..UptoSaid' is the law's where the arguments, and the package variables that the reading takes, are together of bulk at most 1048576: NARROWER than '..Said'. Prove '..Said' where nothing that the law and all that it calls make is longer than what came in: it says more and counts as full. Else prove '..UptoSaid'. A law counts once. -/
mutual
def uptoBulk {H : Type} : DataW H → Nat
  | .lit (.string bytes) => bytes.length + 1
  | .lit _ => 1
  | .nil => 1
  | .ptr d => uptoBulk d + 1
  | .slice elems spare => uptoBulkAll elems + uptoBulkAll spare + 1
  | .agg parts => uptoBulkAll parts + 1
  | .iface _ d => uptoBulk d + 1
  | .map entries => uptoBulkEntries entries + 1
  | .held _ => 1
def uptoBulkAll {H : Type} : List (DataW H) → Nat
  | [] => 0
  | d :: r => uptoBulk d + uptoBulkAll r
def uptoBulkEntries {H : Type} : List (Lit × DataW H) → Nat
  | [] => 0
  | x :: r => uptoBulkEntry x + uptoBulkEntries r
def uptoBulkEntry {H : Type} : Lit × DataW H → Nat
  | (.string bytes, d) => bytes.length + uptoBulk d + 1
  | (_, d) => uptoBulk d + 1
 end
def uptoSmall : (H : Type) → List (DataW H) → Bool := fun _ ds => decide (uptoBulkAll ds ≤ 1048576)
def OpenSpec.upto (s : _root_.Go.ChangeSpec) : _root_.Go.OpenSpec := { _root_.Go.OpenSpec.ofChange s with cond := some uptoSmall }

/-- 'orrerylaw03.ElemMade', WHERE WHAT IT READS IS OF BULK AT MOST 1048576: true; the input reads as it did. -/
def elemMadeUptoRow : OpenClaim := { program := "ytpkgpkabmechkaagreat", sum := "787b3b877b8c4b52deebeaee761af48e15d4fd5f7c9147320643f57c09545395", func := "orrery/orrerylaw03.ElemMade", spec := "elemMade", inPlace := ["math.Float64bits", "math.Float64frombits", "math.archFloor", "math.archTrunc", "math/bits.Add64", "math/bits.Sub64"], unfollowed := true, recurses := true, named := ["math/bits.divideError", "math/bits.overflowError"], plainKeys := false, apart := false, narrowed := true }
def ElemMadeUptoSaid : Prop := elemMadeUptoRow.holds Tryz.pinned (OpenSpec.upto elemMadeSpec)

/-- 'orrerylaw05.TapeEvals', WHERE WHAT IT READS IS OF BULK AT MOST 1048576: true; the input reads as it did. -/
def tapeEvalsUptoRow : OpenClaim := { program := "ytpkgpkabmechkaagreat", sum := "787b3b877b8c4b52deebeaee761af48e15d4fd5f7c9147320643f57c09545395", func := "orrery/orrerylaw05.TapeEvals", spec := "tapeEvals", inPlace := ["math.Float64frombits", "math.Float64bits", "math/bits.Add64", "math/bits.Sub64", "math.sqrt", "math.archFloor", "math.archTrunc"], unfollowed := true, recurses := true, named := ["math/bits.divideError", "math/bits.overflowError"], plainKeys := false, apart := false, narrowed := true }
def TapeEvalsUptoSaid : Prop := tapeEvalsUptoRow.holds Tryz.pinned (OpenSpec.upto tapeEvalsSpec)

/-- 'orrerylaw05.TapeGrads', WHERE WHAT IT READS IS OF BULK AT MOST 1048576: true; the input reads as it did. -/
def tapeGradsUptoRow : OpenClaim := { program := "ytpkgpkabmechkaagreat", sum := "787b3b877b8c4b52deebeaee761af48e15d4fd5f7c9147320643f57c09545395", func := "orrery/orrerylaw05.TapeGrads", spec := "tapeGrads", inPlace := ["math.Float64frombits", "math.Float64bits", "math/bits.Add64", "math/bits.Sub64", "math.sqrt", "math.archFloor", "math.archTrunc"], unfollowed := true, recurses := true, named := ["math/bits.divideError", "math/bits.overflowError"], plainKeys := false, apart := false, narrowed := true }
def TapeGradsUptoSaid : Prop := tapeGradsUptoRow.holds Tryz.pinned (OpenSpec.upto tapeGradsSpec)

/-- 'orrerylaw08.PicardBounds', WHERE WHAT IT READS IS OF BULK AT MOST 1048576: true; the input reads as it did. -/
def picardBoundsUptoRow : OpenClaim := { program := "ytpkgpkabmechkaagreat", sum := "787b3b877b8c4b52deebeaee761af48e15d4fd5f7c9147320643f57c09545395", func := "orrery/orrerylaw08.PicardBounds", spec := "picardBounds", inPlace := ["math.Float64frombits", "math.Float64bits", "math/bits.Add64", "math/bits.Sub64", "math.sqrt", "math.archFloor", "math.archTrunc"], unfollowed := true, recurses := true, named := ["math/bits.divideError", "math/bits.overflowError"], plainKeys := false, apart := false, narrowed := true }
def PicardBoundsUptoSaid : Prop := picardBoundsUptoRow.holds Tryz.pinned (OpenSpec.upto picardBoundsSpec)

/-- 'orrerylaw08.PicardFinds', WHERE WHAT IT READS IS OF BULK AT MOST 1048576: true; the input reads as it did. -/
def picardFindsUptoRow : OpenClaim := { program := "ytpkgpkabmechkaagreat", sum := "787b3b877b8c4b52deebeaee761af48e15d4fd5f7c9147320643f57c09545395", func := "orrery/orrerylaw08.PicardFinds", spec := "picardFinds", inPlace := ["math.Float64frombits", "math.Float64bits", "math/bits.Add64", "math/bits.Sub64", "math.sqrt", "math.archFloor", "math.archTrunc"], unfollowed := true, recurses := true, named := ["math/bits.divideError", "math/bits.overflowError"], plainKeys := false, apart := false, narrowed := true }
def PicardFindsUptoSaid : Prop := picardFindsUptoRow.holds Tryz.pinned (OpenSpec.upto picardFindsSpec)

/-- 'orrerylaw08.PicardShorter', WHERE WHAT IT READS IS OF BULK AT MOST 1048576: true; the input reads as it did. -/
def picardShorterUptoRow : OpenClaim := { program := "ytpkgpkabmechkaagreat", sum := "787b3b877b8c4b52deebeaee761af48e15d4fd5f7c9147320643f57c09545395", func := "orrery/orrerylaw08.PicardShorter", spec := "picardShorter", inPlace := ["math.Float64frombits", "math.Float64bits", "math/bits.Add64", "math/bits.Sub64", "math.sqrt", "math.archFloor", "math.archTrunc"], unfollowed := true, recurses := true, named := ["math/bits.divideError", "math/bits.overflowError"], plainKeys := false, apart := false, narrowed := true }
def PicardShorterUptoSaid : Prop := picardShorterUptoRow.holds Tryz.pinned (OpenSpec.upto picardShorterSpec)

/-- 'orrerylaw08.PicardLines', WHERE WHAT IT READS IS OF BULK AT MOST 1048576: true; the input reads as it did. -/
def picardLinesUptoRow : OpenClaim := { program := "ytpkgpkabmechkaagreat", sum := "787b3b877b8c4b52deebeaee761af48e15d4fd5f7c9147320643f57c09545395", func := "orrery/orrerylaw08.PicardLines", spec := "picardLines", inPlace := ["math.Float64frombits", "math.Float64bits", "math/bits.Add64", "math/bits.Sub64", "math.sqrt", "math.archFloor", "math.archTrunc"], unfollowed := true, recurses := true, named := ["math/bits.divideError", "math/bits.overflowError"], plainKeys := false, apart := false, narrowed := true }
def PicardLinesUptoSaid : Prop := picardLinesUptoRow.holds Tryz.pinned (OpenSpec.upto picardLinesSpec)

/-- 'orrerylaw05.TapeTrimmed', WHERE WHAT IT READS IS OF BULK AT MOST 1048576: true; the input reads as it did. -/
def tapeTrimmedUptoRow : OpenClaim := { program := "ytpkgpkabmechkaagreat", sum := "787b3b877b8c4b52deebeaee761af48e15d4fd5f7c9147320643f57c09545395", func := "orrery/orrerylaw05.TapeTrimmed", spec := "tapeTrimmed", inPlace := ["math.Float64frombits", "math.Float64bits", "math/bits.Add64", "math/bits.Sub64", "math.sqrt", "math.archFloor", "math.archTrunc"], unfollowed := true, recurses := true, named := ["math/bits.divideError", "math/bits.overflowError"], plainKeys := false, apart := false, narrowed := true }
def TapeTrimmedUptoSaid : Prop := tapeTrimmedUptoRow.holds Tryz.pinned (OpenSpec.upto tapeTrimmedSpec)

end Rows
end Go.Proofs.YtpkgpkabmechkaaGreat
