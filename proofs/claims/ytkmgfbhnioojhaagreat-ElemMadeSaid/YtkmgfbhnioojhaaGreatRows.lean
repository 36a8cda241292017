/-
  No cell of these rows narrows 'for every input' (looked for: loops, veiled, ifaces, maps, wideKeys, modest, calm, conditions, laid).
  DERIVED. THE GIVEN ROWS OF THIS SEAT. 11 by the template 'for every input the law returns true; each argument reads behind the call as it read before'; 0 by the template 'total and deterministic' (their statements: YtkmgfbhnioojhaaGreatTotals.lean).
  GIVEN WITH THE SEED: the statements are not yours to turn. If you find one false, say at which input.
  Laid BY PROGRAM, IN A SANDBOX (cutbox-rows.mjs): the forced cells as the released guide's own fill.sh prints them over the translation dffb5b5520f3da4d… (all of the seat's roots in one cut). By AI agents, Wed Nov 11 2026. No macro, syntax, notation, axiom, sorry.
-/
import Derived.Test.YtkmgfbhnioojhaaGreatChecked
import GoSem.Claim
import GoSem.ClaimJoined
import GoSem.ClaimMapViews
import Derived.JoinedTies
import Derived.KernelRfl
namespace Go.Proofs.YtkmgfbhnioojhaaGreat
/- THE CELL 'sum', in the pinned program and in every row, IS THE sha256 OF THE DUMP (.gsa) THAT YtkmgfbhnioojhaaGreatProg.lean LOADS. Nothing in Lean hashes anything: it is a label: what it is worth is what the hold of that sum in a sandbox is worth. -/
noncomputable def Tryz.pinned : Pinned := { name := "ytkmgfbhnioojhaagreat", sum := "dffb5b5520f3da4d401de87225e9482ee4d381dbdfbf653003ce4af1f848e8de", checked := Tryz.checked }
namespace Rows
def none {H : Type} : Left H := { results := [], args := [] }

/-- 'orrerylaw03.ElemExponents': WHATEVER THE INPUT: true; the input reads as it did. -/
def elemExponentsSpec : ChangeSpec := { name := "elemExponents", fn := fun _ => fun
  | [d] => { results := [.lit (.bool true)], args := [d] }
  | _ => none }
def elemExponentsRow : OpenClaim := { program := "ytkmgfbhnioojhaagreat", sum := "dffb5b5520f3da4d401de87225e9482ee4d381dbdfbf653003ce4af1f848e8de", func := "orrery/orrerylaw03.ElemExponents", spec := "elemExponents", inPlace := ["math.Float64frombits", "math.Float64bits", "math.archFloor", "math.archTrunc", "math/bits.Add64", "math/bits.Sub64"], unfollowed := true, recurses := true, named := ["math/bits.divideError", "math/bits.overflowError"], apart := false }
def ElemExponentsSaid : Prop := elemExponentsRow.holds Tryz.pinned (OpenSpec.ofChange elemExponentsSpec)

/-- ITS FALSE NEIGHBOUR: 'it returns false'. Refute it at one input. -/
def elemExponentsWrong : ChangeSpec := { name := "elemExponents", fn := fun _ => fun
  | [d] => { results := [.lit (.bool false)], args := [d] }
  | _ => none }
def ElemExponentsWrongFalsely : Prop := elemExponentsRow.holds Tryz.pinned (OpenSpec.ofChange elemExponentsWrong)

/-- 'orrerylaw03.ElemLogarithms': WHATEVER THE INPUT: true; the input reads as it did. -/
def elemLogarithmsSpec : ChangeSpec := { name := "elemLogarithms", fn := fun _ => fun
  | [d] => { results := [.lit (.bool true)], args := [d] }
  | _ => none }
def elemLogarithmsRow : OpenClaim := { program := "ytkmgfbhnioojhaagreat", sum := "dffb5b5520f3da4d401de87225e9482ee4d381dbdfbf653003ce4af1f848e8de", func := "orrery/orrerylaw03.ElemLogarithms", spec := "elemLogarithms", inPlace := ["math.Float64frombits", "math.Float64bits", "math/bits.Add64", "math/bits.Sub64"], unfollowed := true, recurses := true, named := ["math/bits.divideError", "math/bits.overflowError"], apart := false }
def ElemLogarithmsSaid : Prop := elemLogarithmsRow.holds Tryz.pinned (OpenSpec.ofChange elemLogarithmsSpec)

/-- ITS FALSE NEIGHBOUR: 'it returns false'. Refute it at one input. -/
def elemLogarithmsWrong : ChangeSpec := { name := "elemLogarithms", fn := fun _ => fun
  | [d] => { results := [.lit (.bool false)], args := [d] }
  | _ => none }
def ElemLogarithmsWrongFalsely : Prop := elemLogarithmsRow.holds Tryz.pinned (OpenSpec.ofChange elemLogarithmsWrong)

/-- 'orrerylaw03.ElemArcs': WHATEVER THE INPUT: true; the input reads as it did. -/
def elemArcsSpec : ChangeSpec := { name := "elemArcs", fn := fun _ => fun
  | [d] => { results := [.lit (.bool true)], args := [d] }
  | _ => none }
def elemArcsRow : OpenClaim := { program := "ytkmgfbhnioojhaagreat", sum := "dffb5b5520f3da4d401de87225e9482ee4d381dbdfbf653003ce4af1f848e8de", func := "orrery/orrerylaw03.ElemArcs", spec := "elemArcs", inPlace := ["math.Float64frombits", "math.Float64bits", "math/bits.Add64", "math/bits.Sub64", "math.sqrt"], unfollowed := true, recurses := true, named := ["math/bits.divideError", "math/bits.overflowError"], apart := false }
def ElemArcsSaid : Prop := elemArcsRow.holds Tryz.pinned (OpenSpec.ofChange elemArcsSpec)

/-- ITS FALSE NEIGHBOUR: 'it returns false'. Refute it at one input. -/
def elemArcsWrong : ChangeSpec := { name := "elemArcs", fn := fun _ => fun
  | [d] => { results := [.lit (.bool false)], args := [d] }
  | _ => none }
def ElemArcsWrongFalsely : Prop := elemArcsRow.holds Tryz.pinned (OpenSpec.ofChange elemArcsWrong)

/-- 'orrerylaw03.ElemTurns': WHATEVER THE INPUT: true; the input reads as it did. -/
def elemTurnsSpec : ChangeSpec := { name := "elemTurns", fn := fun _ => fun
  | [d] => { results := [.lit (.bool true)], args := [d] }
  | _ => none }
def elemTurnsRow : OpenClaim := { program := "ytkmgfbhnioojhaagreat", sum := "dffb5b5520f3da4d401de87225e9482ee4d381dbdfbf653003ce4af1f848e8de", func := "orrery/orrerylaw03.ElemTurns", spec := "elemTurns", inPlace := ["math.Float64frombits", "math.Float64bits", "math.archFloor", "math.archTrunc", "math/bits.Add64", "math/bits.Sub64"], unfollowed := true, recurses := true, named := ["math/bits.divideError", "math/bits.overflowError"], apart := false }
def ElemTurnsSaid : Prop := elemTurnsRow.holds Tryz.pinned (OpenSpec.ofChange elemTurnsSpec)

/-- ITS FALSE NEIGHBOUR: 'it returns false'. Refute it at one input. -/
def elemTurnsWrong : ChangeSpec := { name := "elemTurns", fn := fun _ => fun
  | [d] => { results := [.lit (.bool false)], args := [d] }
  | _ => none }
def ElemTurnsWrongFalsely : Prop := elemTurnsRow.holds Tryz.pinned (OpenSpec.ofChange elemTurnsWrong)

/-- 'orrerylaw03.ElemMade': WHATEVER THE INPUT: true; the input reads as it did. -/
def elemMadeSpec : ChangeSpec := { name := "elemMade", fn := fun _ => fun
  | [d] => { results := [.lit (.bool true)], args := [d] }
  | _ => none }
def elemMadeRow : OpenClaim := { program := "ytkmgfbhnioojhaagreat", sum := "dffb5b5520f3da4d401de87225e9482ee4d381dbdfbf653003ce4af1f848e8de", func := "orrery/orrerylaw03.ElemMade", spec := "elemMade", inPlace := ["math.Float64bits", "math.Float64frombits", "math.archFloor", "math.archTrunc", "math/bits.Add64", "math/bits.Sub64"], unfollowed := true, recurses := true, named := ["math/bits.divideError", "math/bits.overflowError"], apart := false }
def ElemMadeSaid : Prop := elemMadeRow.holds Tryz.pinned (OpenSpec.ofChange elemMadeSpec)

/-- ITS FALSE NEIGHBOUR: 'it returns false'. Refute it at one input. -/
def elemMadeWrong : ChangeSpec := { name := "elemMade", fn := fun _ => fun
  | [d] => { results := [.lit (.bool false)], args := [d] }
  | _ => none }
def ElemMadeWrongFalsely : Prop := elemMadeRow.holds Tryz.pinned (OpenSpec.ofChange elemMadeWrong)

/-- 'orrerylaw03.ElemPoints': WHATEVER THE INPUT: true; the input reads as it did. -/
def elemPointsSpec : ChangeSpec := { name := "elemPoints", fn := fun _ => fun
  | [d1, d2] => { results := [.lit (.bool true)], args := [d1, d2] }
  | _ => none }
def elemPointsRow : OpenClaim := { program := "ytkmgfbhnioojhaagreat", sum := "dffb5b5520f3da4d401de87225e9482ee4d381dbdfbf653003ce4af1f848e8de", func := "orrery/orrerylaw03.ElemPoints", spec := "elemPoints", inPlace := ["math.Float64frombits", "math.Float64bits", "math.archFloor", "math.archTrunc", "math/bits.Add64", "math/bits.Sub64", "math.sqrt"], unfollowed := true, recurses := true, named := ["math/bits.divideError", "math/bits.overflowError"], apart := false }
def ElemPointsSaid : Prop := elemPointsRow.holds Tryz.pinned (OpenSpec.ofChange elemPointsSpec)

/-- ITS FALSE NEIGHBOUR: 'it returns false'. Refute it at one input. -/
def elemPointsWrong : ChangeSpec := { name := "elemPoints", fn := fun _ => fun
  | [d1, d2] => { results := [.lit (.bool false)], args := [d1, d2] }
  | _ => none }
def ElemPointsWrongFalsely : Prop := elemPointsRow.holds Tryz.pinned (OpenSpec.ofChange elemPointsWrong)

/-- 'orrerylaw06.TaylorHolds': WHATEVER THE INPUT: true; the input reads as it did. -/
def taylorHoldsSpec : ChangeSpec := { name := "taylorHolds", fn := fun _ => fun
  | [d1, d2, d3, d4] => { results := [.lit (.bool true)], args := [d1, d2, d3, d4] }
  | _ => none }
def taylorHoldsRow : OpenClaim := { program := "ytkmgfbhnioojhaagreat", sum := "dffb5b5520f3da4d401de87225e9482ee4d381dbdfbf653003ce4af1f848e8de", func := "orrery/orrerylaw06.TaylorHolds", spec := "taylorHolds", inPlace := ["math.Float64frombits", "math.Float64bits", "math/bits.Add64", "math/bits.Sub64", "math.sqrt", "math.archFloor", "math.archTrunc"], unfollowed := true, recurses := true, named := ["math/bits.divideError", "math/bits.overflowError"], apart := false }
def TaylorHoldsSaid : Prop := taylorHoldsRow.holds Tryz.pinned (OpenSpec.ofChange taylorHoldsSpec)

/-- ITS FALSE NEIGHBOUR: 'it returns false'. Refute it at one input. -/
def taylorHoldsWrong : ChangeSpec := { name := "taylorHolds", fn := fun _ => fun
  | [d1, d2, d3, d4] => { results := [.lit (.bool false)], args := [d1, d2, d3, d4] }
  | _ => none }
def TaylorHoldsWrongFalsely : Prop := taylorHoldsRow.holds Tryz.pinned (OpenSpec.ofChange taylorHoldsWrong)

/-- 'orrerylaw06.TaylorSquares': WHATEVER THE INPUT: true; the input reads as it did. -/
def taylorSquaresSpec : ChangeSpec := { name := "taylorSquares", fn := fun _ => fun
  | [d1, d2] => { results := [.lit (.bool true)], args := [d1, d2] }
  | _ => none }
def taylorSquaresRow : OpenClaim := { program := "ytkmgfbhnioojhaagreat", sum := "dffb5b5520f3da4d401de87225e9482ee4d381dbdfbf653003ce4af1f848e8de", func := "orrery/orrerylaw06.TaylorSquares", spec := "taylorSquares", inPlace := ["math.Float64frombits", "math.Float64bits", "math/bits.Add64", "math/bits.Sub64", "math.sqrt", "math.archFloor", "math.archTrunc"], unfollowed := true, recurses := true, named := ["math/bits.divideError", "math/bits.overflowError"], apart := false }
def TaylorSquaresSaid : Prop := taylorSquaresRow.holds Tryz.pinned (OpenSpec.ofChange taylorSquaresSpec)

/-- ITS FALSE NEIGHBOUR: 'it returns false'. Refute it at one input. -/
def taylorSquaresWrong : ChangeSpec := { name := "taylorSquares", fn := fun _ => fun
  | [d1, d2] => { results := [.lit (.bool false)], args := [d1, d2] }
  | _ => none }
def TaylorSquaresWrongFalsely : Prop := taylorSquaresRow.holds Tryz.pinned (OpenSpec.ofChange taylorSquaresWrong)

/-- 'orrerylaw07.KrawRefuses': WHATEVER THE INPUT: true; the input reads as it did. -/
def krawRefusesSpec : ChangeSpec := { name := "krawRefuses", fn := fun _ => fun
  | [d1, d2, d3] => { results := [.lit (.bool true)], args := [d1, d2, d3] }
  | _ => none }
def krawRefusesRow : OpenClaim := { program := "ytkmgfbhnioojhaagreat", sum := "dffb5b5520f3da4d401de87225e9482ee4d381dbdfbf653003ce4af1f848e8de", func := "orrery/orrerylaw07.KrawRefuses", spec := "krawRefuses", inPlace := ["math.Float64frombits", "math.Float64bits", "math/bits.Add64", "math/bits.Sub64", "math.sqrt", "math.archFloor", "math.archTrunc"], unfollowed := true, recurses := true, named := ["math/bits.divideError", "math/bits.overflowError"], apart := false }
def KrawRefusesSaid : Prop := krawRefusesRow.holds Tryz.pinned (OpenSpec.ofChange krawRefusesSpec)

/-- ITS FALSE NEIGHBOUR: 'it returns false'. Refute it at one input. -/
def krawRefusesWrong : ChangeSpec := { name := "krawRefuses", fn := fun _ => fun
  | [d1, d2, d3] => { results := [.lit (.bool false)], args := [d1, d2, d3] }
  | _ => none }
def KrawRefusesWrongFalsely : Prop := krawRefusesRow.holds Tryz.pinned (OpenSpec.ofChange krawRefusesWrong)

/-- 'orrerylaw07.KrawParameters': WHATEVER THE INPUT: true; the input reads as it did. -/
def krawParametersSpec : ChangeSpec := { name := "krawParameters", fn := fun _ => fun
  | [d1, d2] => { results := [.lit (.bool true)], args := [d1, d2] }
  | _ => none }
def krawParametersRow : OpenClaim := { program := "ytkmgfbhnioojhaagreat", sum := "dffb5b5520f3da4d401de87225e9482ee4d381dbdfbf653003ce4af1f848e8de", func := "orrery/orrerylaw07.KrawParameters", spec := "krawParameters", inPlace := ["math.Float64frombits", "math.Float64bits", "math/bits.Add64", "math/bits.Sub64", "math.sqrt", "math.archFloor", "math.archTrunc"], unfollowed := true, recurses := true, named := ["math/bits.divideError", "math/bits.overflowError"], apart := false }
def KrawParametersSaid : Prop := krawParametersRow.holds Tryz.pinned (OpenSpec.ofChange krawParametersSpec)

/-- ITS FALSE NEIGHBOUR: 'it returns false'. Refute it at one input. -/
def krawParametersWrong : ChangeSpec := { name := "krawParameters", fn := fun _ => fun
  | [d1, d2] => { results := [.lit (.bool false)], args := [d1, d2] }
  | _ => none }
def KrawParametersWrongFalsely : Prop := krawParametersRow.holds Tryz.pinned (OpenSpec.ofChange krawParametersWrong)

/-- 'orrerylaw09.LohnerSquares': WHATEVER THE INPUT: true; the input reads as it did. -/
def lohnerSquaresSpec : ChangeSpec := { name := "lohnerSquares", fn := fun _ => fun
  | [d1, d2, d3] => { results := [.lit (.bool true)], args := [d1, d2, d3] }
  | _ => none }
def lohnerSquaresRow : OpenClaim := { program := "ytkmgfbhnioojhaagreat", sum := "dffb5b5520f3da4d401de87225e9482ee4d381dbdfbf653003ce4af1f848e8de", func := "orrery/orrerylaw09.LohnerSquares", spec := "lohnerSquares", inPlace := ["math.Float64frombits", "math.Float64bits", "math/bits.Add64", "math/bits.Sub64", "math.sqrt", "math.archFloor", "math.archTrunc", "math.archHypot"], unfollowed := true, recurses := true, named := ["math/bits.divideError", "math/bits.overflowError"], apart := false }
def LohnerSquaresSaid : Prop := lohnerSquaresRow.holds Tryz.pinned (OpenSpec.ofChange lohnerSquaresSpec)

/-- ITS FALSE NEIGHBOUR: 'it returns false'. Refute it at one input. -/
def lohnerSquaresWrong : ChangeSpec := { name := "lohnerSquares", fn := fun _ => fun
  | [d1, d2, d3] => { results := [.lit (.bool false)], args := [d1, d2, d3] }
  | _ => none }
def LohnerSquaresWrongFalsely : Prop := lohnerSquaresRow.holds Tryz.pinned (OpenSpec.ofChange lohnerSquaresWrong)

/- THE SECOND FORM. 'bulk': how many values and letters a reading holds, each counted each time it is reached (what is shared counts as often as it is met; a slice's spare places count too). A statement '..UptoSaid' is the law's where the arguments, and the package variables that the reading takes, are together of bulk at most 1048576: NARROWER than '..Said'. Prove '..Said' where nothing that the law and all that it calls make is longer than what came in: it says more and counts as full. Else prove '..UptoSaid'. A law counts once. -/
mutual
def uptoBulk {H : Type} : DataW H → Nat
  | .lit (.string bytes) => bytes.length + 1
  | .lit _ => 1
  | .nil => 1
  | .ptr d => uptoBulk d + 1
  | .slice elems spare => uptoBulkAll elems + uptoBulkAll spare + 1
  | .agg parts => uptoBulkAll parts + 1
  | .iface _ d => uptoBulk d + 1
  | .map entries => uptoBulkEntries entries + 1
  | .held _ => 1
def uptoBulkAll {H : Type} : List (DataW H) → Nat
  | [] => 0
  | d :: r => uptoBulk d + uptoBulkAll r
def uptoBulkEntries {H : Type} : List (Lit × DataW H) → Nat
  | [] => 0
  | x :: r => uptoBulkEntry x + uptoBulkEntries r
def uptoBulkEntry {H : Type} : Lit × DataW H → Nat
  | (.string bytes, d) => bytes.length + uptoBulk d + 1
  | (_, d) => uptoBulk d + 1
 end
def uptoSmall : (H : Type) → List (DataW H) → Bool := fun _ ds => decide (uptoBulkAll ds ≤ 1048576)
def OpenSpec.upto (s : _root_.Go.ChangeSpec) : _root_.Go.OpenSpec := { _root_.Go.OpenSpec.ofChange s with cond := some uptoSmall }

/-- 'orrerylaw03.ElemExponents', WHERE WHAT IT READS IS OF BULK AT MOST 1048576: true; the input reads as it did. -/
def elemExponentsUptoRow : OpenClaim := { program := "ytkmgfbhnioojhaagreat", sum := "dffb5b5520f3da4d401de87225e9482ee4d381dbdfbf653003ce4af1f848e8de", func := "orrery/orrerylaw03.ElemExponents", spec := "elemExponents", inPlace := ["math.Float64frombits", "math.Float64bits", "math.archFloor", "math.archTrunc", "math/bits.Add64", "math/bits.Sub64"], unfollowed := true, recurses := true, named := ["math/bits.divideError", "math/bits.overflowError"], apart := false, narrowed := true }
def ElemExponentsUptoSaid : Prop := elemExponentsUptoRow.holds Tryz.pinned (OpenSpec.upto elemExponentsSpec)

/-- 'orrerylaw03.ElemLogarithms', WHERE WHAT IT READS IS OF BULK AT MOST 1048576: true; the input reads as it did. -/
def elemLogarithmsUptoRow : OpenClaim := { program := "ytkmgfbhnioojhaagreat", sum := "dffb5b5520f3da4d401de87225e9482ee4d381dbdfbf653003ce4af1f848e8de", func := "orrery/orrerylaw03.ElemLogarithms", spec := "elemLogarithms", inPlace := ["math.Float64frombits", "math.Float64bits", "math/bits.Add64", "math/bits.Sub64"], unfollowed := true, recurses := true, named := ["math/bits.divideError", "math/bits.overflowError"], apart := false, narrowed := true }
def ElemLogarithmsUptoSaid : Prop := elemLogarithmsUptoRow.holds Tryz.pinned (OpenSpec.upto elemLogarithmsSpec)

/-- 'orrerylaw03.ElemArcs', WHERE WHAT IT READS IS OF BULK AT MOST 1048576: true; the input reads as it did. -/
def elemArcsUptoRow : OpenClaim := { program := "ytkmgfbhnioojhaagreat", sum := "dffb5b5520f3da4d401de87225e9482ee4d381dbdfbf653003ce4af1f848e8de", func := "orrery/orrerylaw03.ElemArcs", spec := "elemArcs", inPlace := ["math.Float64frombits", "math.Float64bits", "math/bits.Add64", "math/bits.Sub64", "math.sqrt"], unfollowed := true, recurses := true, named := ["math/bits.divideError", "math/bits.overflowError"], apart := false, narrowed := true }
def ElemArcsUptoSaid : Prop := elemArcsUptoRow.holds Tryz.pinned (OpenSpec.upto elemArcsSpec)

/-- 'orrerylaw03.ElemTurns', WHERE WHAT IT READS IS OF BULK AT MOST 1048576: true; the input reads as it did. -/
def elemTurnsUptoRow : OpenClaim := { program := "ytkmgfbhnioojhaagreat", sum := "dffb5b5520f3da4d401de87225e9482ee4d381dbdfbf653003ce4af1f848e8de", func := "orrery/orrerylaw03.ElemTurns", spec := "elemTurns", inPlace := ["math.Float64frombits", "math.Float64bits", "math.archFloor", "math.archTrunc", "math/bits.Add64", "math/bits.Sub64"], unfollowed := true, recurses := true, named := ["math/bits.divideError", "math/bits.overflowError"], apart := false, narrowed := true }
def ElemTurnsUptoSaid : Prop := elemTurnsUptoRow.holds Tryz.pinned (OpenSpec.upto elemTurnsSpec)

/-- 'orrerylaw03.ElemMade', WHERE WHAT IT READS IS OF BULK AT MOST 1048576: true; the input reads as it did. -/
def elemMadeUptoRow : OpenClaim := { program := "ytkmgfbhnioojhaagreat", sum := "dffb5b5520f3da4d401de87225e9482ee4d381dbdfbf653003ce4af1f848e8de", func := "orrery/orrerylaw03.ElemMade", spec := "elemMade", inPlace := ["math.Float64bits", "math.Float64frombits", "math.archFloor", "math.archTrunc", "math/bits.Add64", "math/bits.Sub64"], unfollowed := true, recurses := true, named := ["math/bits.divideError", "math/bits.overflowError"], apart := false, narrowed := true }
def ElemMadeUptoSaid : Prop := elemMadeUptoRow.holds Tryz.pinned (OpenSpec.upto elemMadeSpec)

/-- 'orrerylaw03.ElemPoints', WHERE WHAT IT READS IS OF BULK AT MOST 1048576: true; the input reads as it did. -/
def elemPointsUptoRow : OpenClaim := { program := "ytkmgfbhnioojhaagreat", sum := "dffb5b5520f3da4d401de87225e9482ee4d381dbdfbf653003ce4af1f848e8de", func := "orrery/orrerylaw03.ElemPoints", spec := "elemPoints", inPlace := ["math.Float64frombits", "math.Float64bits", "math.archFloor", "math.archTrunc", "math/bits.Add64", "math/bits.Sub64", "math.sqrt"], unfollowed := true, recurses := true, named := ["math/bits.divideError", "math/bits.overflowError"], apart := false, narrowed := true }
def ElemPointsUptoSaid : Prop := elemPointsUptoRow.holds Tryz.pinned (OpenSpec.upto elemPointsSpec)

/-- 'orrerylaw06.TaylorHolds', WHERE WHAT IT READS IS OF BULK AT MOST 1048576: true; the input reads as it did. -/
def taylorHoldsUptoRow : OpenClaim := { program := "ytkmgfbhnioojhaagreat", sum := "dffb5b5520f3da4d401de87225e9482ee4d381dbdfbf653003ce4af1f848e8de", func := "orrery/orrerylaw06.TaylorHolds", spec := "taylorHolds", inPlace := ["math.Float64frombits", "math.Float64bits", "math/bits.Add64", "math/bits.Sub64", "math.sqrt", "math.archFloor", "math.archTrunc"], unfollowed := true, recurses := true, named := ["math/bits.divideError", "math/bits.overflowError"], apart := false, narrowed := true }
def TaylorHoldsUptoSaid : Prop := taylorHoldsUptoRow.holds Tryz.pinned (OpenSpec.upto taylorHoldsSpec)

/-- 'orrerylaw06.TaylorSquares', WHERE WHAT IT READS IS OF BULK AT MOST 1048576: true; the input reads as it did. -/
def taylorSquaresUptoRow : OpenClaim := { program := "ytkmgfbhnioojhaagreat", sum := "dffb5b5520f3da4d401de87225e9482ee4d381dbdfbf653003ce4af1f848e8de", func := "orrery/orrerylaw06.TaylorSquares", spec := "taylorSquares", inPlace := ["math.Float64frombits", "math.Float64bits", "math/bits.Add64", "math/bits.Sub64", "math.sqrt", "math.archFloor", "math.archTrunc"], unfollowed := true, recurses := true, named := ["math/bits.divideError", "math/bits.overflowError"], apart := false, narrowed := true }
def TaylorSquaresUptoSaid : Prop := taylorSquaresUptoRow.holds Tryz.pinned (OpenSpec.upto taylorSquaresSpec)

/-- 'orrerylaw07.KrawRefuses', WHERE WHAT IT READS IS OF BULK AT MOST 1048576: true; the input reads as it did. -/
def krawRefusesUptoRow : OpenClaim := { program := "ytkmgfbhnioojhaagreat", sum := "dffb5b5520f3da4d401de87225e9482ee4d381dbdfbf653003ce4af1f848e8de", func := "orrery/orrerylaw07.KrawRefuses", spec := "krawRefuses", inPlace := ["math.Float64frombits", "math.Float64bits", "math/bits.Add64", "math/bits.Sub64", "math.sqrt", "math.archFloor", "math.archTrunc"], unfollowed := true, recurses := true, named := ["math/bits.divideError", "math/bits.overflowError"], apart := false, narrowed := true }
def KrawRefusesUptoSaid : Prop := krawRefusesUptoRow.holds Tryz.pinned (OpenSpec.upto krawRefusesSpec)

/-- 'orrerylaw07.KrawParameters', WHERE WHAT IT READS IS OF BULK AT MOST 1048576: true; the input reads as it did. -/
def krawParametersUptoRow : OpenClaim := { program := "ytkmgfbhnioojhaagreat", sum := "dffb5b5520f3da4d401de87225e9482ee4d381dbdfbf653003ce4af1f848e8de", func := "orrery/orrerylaw07.KrawParameters", spec := "krawParameters", inPlace := ["math.Float64frombits", "math.Float64bits", "math/bits.Add64", "math/bits.Sub64", "math.sqrt", "math.archFloor", "math.archTrunc"], unfollowed := true, recurses := true, named := ["math/bits.divideError", "math/bits.overflowError"], apart := false, narrowed := true }
def KrawParametersUptoSaid : Prop := krawParametersUptoRow.holds Tryz.pinned (OpenSpec.upto krawParametersSpec)

/-- 'orrerylaw09.LohnerSquares', WHERE WHAT IT READS IS OF BULK AT MOST 1048576: true; the input reads as it did. -/
def lohnerSquaresUptoRow : OpenClaim := { program := "ytkmgfbhnioojhaagreat", sum := "dffb5b5520f3da4d401de87225e9482ee4d381dbdfbf653003ce4af1f848e8de", func := "orrery/orrerylaw09.LohnerSquares", spec := "lohnerSquares", inPlace := ["math.Float64frombits", "math.Float64bits", "math/bits.Add64", "math/bits.Sub64", "math.sqrt", "math.archFloor", "math.archTrunc", "math.archHypot"], unfollowed := true, recurses := true, named := ["math/bits.divideError", "math/bits.overflowError"], apart := false, narrowed := true }
def LohnerSquaresUptoSaid : Prop := lohnerSquaresUptoRow.holds Tryz.pinned (OpenSpec.upto lohnerSquaresSpec)

end Rows
end Go.Proofs.YtkmgfbhnioojhaaGreat
