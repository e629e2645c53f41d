/-
  No cell of these rows narrows 'for every input' (looked for: loops, veiled, ifaces, maps, wideKeys, modest, calm, conditions, laid).
  DERIVED. THE GIVEN ROWS OF THIS SEAT. 12 by the template 'for every input the law returns true; each argument reads behind the call as it read before'; 0 by the template 'total and deterministic' (their statements: YtigkjmfkpmehlaaTotals.lean).
  GIVEN WITH THE SEED: the statements are not yours to turn. If you find one false, say at which input.
  Laid BY PROGRAM, IN A SANDBOX (cutbox-rows.mjs): the forced cells as the released guide's own fill.sh prints them over the translation c377677ac4e53f72… (all of the seat's roots in one cut). By AI agents, Wed Nov 11 2026. No macro, syntax, notation, axiom, sorry.
-/
import Derived.Test.YtigkjmfkpmehlaaChecked
import GoSem.Claim
import GoSem.ClaimJoined
import GoSem.ClaimMapViews
import Derived.JoinedTies
import Derived.KernelRfl
namespace Go.Proofs.Ytigkjmfkpmehlaa
/- THE CELL 'sum', in the pinned program and in every row, IS THE sha256 OF THE DUMP (.gsa) THAT YtigkjmfkpmehlaaProg.lean LOADS. Nothing in Lean hashes anything: it is a label: what it is worth is what the hold of that sum in a sandbox is worth. -/
noncomputable def Try.pinned : Pinned := { name := "ytigkjmfkpmehlaa", sum := "c377677ac4e53f72007d380c9b369190ac5415450a69aaf84cf7329fc8027c30", checked := Try.checked }
namespace Rows
def none {H : Type} : Left H := { results := [], args := [] }

/-- 'kinfolklaw03.ShareTurns': WHATEVER THE INPUT: true; the input reads as it did. -/
def shareTurnsSpec : ChangeSpec := { name := "shareTurns", fn := fun _ => fun
  | [d1, d2, d3] => { results := [.lit (.bool true)], args := [d1, d2, d3] }
  | _ => none }
def shareTurnsRow : OpenClaim := { program := "ytigkjmfkpmehlaa", sum := "c377677ac4e53f72007d380c9b369190ac5415450a69aaf84cf7329fc8027c30", func := "kinfolk/kinfolklaw03.ShareTurns", spec := "shareTurns", recurses := true, apart := false }
def ShareTurnsSaid : Prop := shareTurnsRow.holds Try.pinned (OpenSpec.ofChange shareTurnsSpec)

/-- ITS FALSE NEIGHBOUR: 'it returns false'. Refute it at one input. -/
def shareTurnsWrong : ChangeSpec := { name := "shareTurns", fn := fun _ => fun
  | [d1, d2, d3] => { results := [.lit (.bool false)], args := [d1, d2, d3] }
  | _ => none }
def ShareTurnsWrongFalsely : Prop := shareTurnsRow.holds Try.pinned (OpenSpec.ofChange shareTurnsWrong)

/-- 'kinfolklaw01.IdShares': WHATEVER THE INPUT: true; the input reads as it did. -/
def idSharesSpec : ChangeSpec := { name := "idShares", fn := fun _ => fun
  | [d] => { results := [.lit (.bool true)], args := [d] }
  | _ => none }
def idSharesRow : OpenClaim := { program := "ytigkjmfkpmehlaa", sum := "c377677ac4e53f72007d380c9b369190ac5415450a69aaf84cf7329fc8027c30", func := "kinfolk/kinfolklaw01.IdShares", spec := "idShares", recurses := true, apart := false }
def IdSharesSaid : Prop := idSharesRow.holds Try.pinned (OpenSpec.ofChange idSharesSpec)

/-- ITS FALSE NEIGHBOUR: 'it returns false'. Refute it at one input. -/
def idSharesWrong : ChangeSpec := { name := "idShares", fn := fun _ => fun
  | [d] => { results := [.lit (.bool false)], args := [d] }
  | _ => none }
def IdSharesWrongFalsely : Prop := idSharesRow.holds Try.pinned (OpenSpec.ofChange idSharesWrong)

/-- 'kinfolklaw01.IdDeep': WHATEVER THE INPUT: true; the input reads as it did. -/
def idDeepSpec : ChangeSpec := { name := "idDeep", fn := fun _ => fun
  | [d1, d2] => { results := [.lit (.bool true)], args := [d1, d2] }
  | _ => none }
def idDeepRow : OpenClaim := { program := "ytigkjmfkpmehlaa", sum := "c377677ac4e53f72007d380c9b369190ac5415450a69aaf84cf7329fc8027c30", func := "kinfolk/kinfolklaw01.IdDeep", spec := "idDeep", recurses := true, apart := false }
def IdDeepSaid : Prop := idDeepRow.holds Try.pinned (OpenSpec.ofChange idDeepSpec)

/-- ITS FALSE NEIGHBOUR: 'it returns false'. Refute it at one input. -/
def idDeepWrong : ChangeSpec := { name := "idDeep", fn := fun _ => fun
  | [d1, d2] => { results := [.lit (.bool false)], args := [d1, d2] }
  | _ => none }
def IdDeepWrongFalsely : Prop := idDeepRow.holds Try.pinned (OpenSpec.ofChange idDeepWrong)

/-- 'kinfolklaw01.IdTexts': WHATEVER THE INPUT: true; the input reads as it did. -/
def idTextsSpec : ChangeSpec := { name := "idTexts", fn := fun _ => fun
  | [d] => { results := [.lit (.bool true)], args := [d] }
  | _ => none }
def idTextsRow : OpenClaim := { program := "ytigkjmfkpmehlaa", sum := "c377677ac4e53f72007d380c9b369190ac5415450a69aaf84cf7329fc8027c30", func := "kinfolk/kinfolklaw01.IdTexts", spec := "idTexts", recurses := true, apart := false }
def IdTextsSaid : Prop := idTextsRow.holds Try.pinned (OpenSpec.ofChange idTextsSpec)

/-- ITS FALSE NEIGHBOUR: 'it returns false'. Refute it at one input. -/
def idTextsWrong : ChangeSpec := { name := "idTexts", fn := fun _ => fun
  | [d] => { results := [.lit (.bool false)], args := [d] }
  | _ => none }
def IdTextsWrongFalsely : Prop := idTextsRow.holds Try.pinned (OpenSpec.ofChange idTextsWrong)

/-- 'kinfolklaw01.IdHalves': WHATEVER THE INPUT: true; the input reads as it did. -/
def idHalvesSpec : ChangeSpec := { name := "idHalves", fn := fun _ => fun
  | [d1, d2] => { results := [.lit (.bool true)], args := [d1, d2] }
  | _ => none }
def idHalvesRow : OpenClaim := { program := "ytigkjmfkpmehlaa", sum := "c377677ac4e53f72007d380c9b369190ac5415450a69aaf84cf7329fc8027c30", func := "kinfolk/kinfolklaw01.IdHalves", spec := "idHalves", recurses := true, apart := false }
def IdHalvesSaid : Prop := idHalvesRow.holds Try.pinned (OpenSpec.ofChange idHalvesSpec)

/-- ITS FALSE NEIGHBOUR: 'it returns false'. Refute it at one input. -/
def idHalvesWrong : ChangeSpec := { name := "idHalves", fn := fun _ => fun
  | [d1, d2] => { results := [.lit (.bool false)], args := [d1, d2] }
  | _ => none }
def IdHalvesWrongFalsely : Prop := idHalvesRow.holds Try.pinned (OpenSpec.ofChange idHalvesWrong)

/-- 'kinfolklaw01.IdPairs': WHATEVER THE INPUT: true; the input reads as it did. -/
def idPairsSpec : ChangeSpec := { name := "idPairs", fn := fun _ => fun
  | [d] => { results := [.lit (.bool true)], args := [d] }
  | _ => none }
def idPairsRow : OpenClaim := { program := "ytigkjmfkpmehlaa", sum := "c377677ac4e53f72007d380c9b369190ac5415450a69aaf84cf7329fc8027c30", func := "kinfolk/kinfolklaw01.IdPairs", spec := "idPairs", recurses := true, apart := false }
def IdPairsSaid : Prop := idPairsRow.holds Try.pinned (OpenSpec.ofChange idPairsSpec)

/-- ITS FALSE NEIGHBOUR: 'it returns false'. Refute it at one input. -/
def idPairsWrong : ChangeSpec := { name := "idPairs", fn := fun _ => fun
  | [d] => { results := [.lit (.bool false)], args := [d] }
  | _ => none }
def IdPairsWrongFalsely : Prop := idPairsRow.holds Try.pinned (OpenSpec.ofChange idPairsWrong)

/-- 'kinfolklaw01.IdSplits': WHATEVER THE INPUT: true; the input reads as it did. -/
def idSplitsSpec : ChangeSpec := { name := "idSplits", fn := fun _ => fun
  | [d] => { results := [.lit (.bool true)], args := [d] }
  | _ => none }
def idSplitsRow : OpenClaim := { program := "ytigkjmfkpmehlaa", sum := "c377677ac4e53f72007d380c9b369190ac5415450a69aaf84cf7329fc8027c30", func := "kinfolk/kinfolklaw01.IdSplits", spec := "idSplits", recurses := true, apart := false }
def IdSplitsSaid : Prop := idSplitsRow.holds Try.pinned (OpenSpec.ofChange idSplitsSpec)

/-- ITS FALSE NEIGHBOUR: 'it returns false'. Refute it at one input. -/
def idSplitsWrong : ChangeSpec := { name := "idSplits", fn := fun _ => fun
  | [d] => { results := [.lit (.bool false)], args := [d] }
  | _ => none }
def IdSplitsWrongFalsely : Prop := idSplitsRow.holds Try.pinned (OpenSpec.ofChange idSplitsWrong)

/-- 'kinfolklaw01.IdSums': WHATEVER THE INPUT: true; the input reads as it did. -/
def idSumsSpec : ChangeSpec := { name := "idSums", fn := fun _ => fun
  | [d1, d2] => { results := [.lit (.bool true)], args := [d1, d2] }
  | _ => none }
def idSumsRow : OpenClaim := { program := "ytigkjmfkpmehlaa", sum := "c377677ac4e53f72007d380c9b369190ac5415450a69aaf84cf7329fc8027c30", func := "kinfolk/kinfolklaw01.IdSums", spec := "idSums", recurses := true, apart := false }
def IdSumsSaid : Prop := idSumsRow.holds Try.pinned (OpenSpec.ofChange idSumsSpec)

/-- ITS FALSE NEIGHBOUR: 'it returns false'. Refute it at one input. -/
def idSumsWrong : ChangeSpec := { name := "idSums", fn := fun _ => fun
  | [d1, d2] => { results := [.lit (.bool false)], args := [d1, d2] }
  | _ => none }
def IdSumsWrongFalsely : Prop := idSumsRow.holds Try.pinned (OpenSpec.ofChange idSumsWrong)

/-- 'kinfolklaw03.ShareMeasures': WHATEVER THE INPUT: true; the input reads as it did. -/
def shareMeasuresSpec : ChangeSpec := { name := "shareMeasures", fn := fun _ => fun
  | [d1, d2] => { results := [.lit (.bool true)], args := [d1, d2] }
  | _ => none }
def shareMeasuresRow : OpenClaim := { program := "ytigkjmfkpmehlaa", sum := "c377677ac4e53f72007d380c9b369190ac5415450a69aaf84cf7329fc8027c30", func := "kinfolk/kinfolklaw03.ShareMeasures", spec := "shareMeasures", inPlace := ["math.Float64bits"], recurses := true, apart := false }
def ShareMeasuresSaid : Prop := shareMeasuresRow.holds Try.pinned (OpenSpec.ofChange shareMeasuresSpec)

/-- ITS FALSE NEIGHBOUR: 'it returns false'. Refute it at one input. -/
def shareMeasuresWrong : ChangeSpec := { name := "shareMeasures", fn := fun _ => fun
  | [d1, d2] => { results := [.lit (.bool false)], args := [d1, d2] }
  | _ => none }
def ShareMeasuresWrongFalsely : Prop := shareMeasuresRow.holds Try.pinned (OpenSpec.ofChange shareMeasuresWrong)

/-- 'kinfolklaw03.ShareSums': WHATEVER THE INPUT: true; the input reads as it did. -/
def shareSumsSpec : ChangeSpec := { name := "shareSums", fn := fun _ => fun
  | [d1, d2] => { results := [.lit (.bool true)], args := [d1, d2] }
  | _ => none }
def shareSumsRow : OpenClaim := { program := "ytigkjmfkpmehlaa", sum := "c377677ac4e53f72007d380c9b369190ac5415450a69aaf84cf7329fc8027c30", func := "kinfolk/kinfolklaw03.ShareSums", spec := "shareSums", inPlace := ["math.Float64bits"], recurses := true, apart := false }
def ShareSumsSaid : Prop := shareSumsRow.holds Try.pinned (OpenSpec.ofChange shareSumsSpec)

/-- ITS FALSE NEIGHBOUR: 'it returns false'. Refute it at one input. -/
def shareSumsWrong : ChangeSpec := { name := "shareSums", fn := fun _ => fun
  | [d1, d2] => { results := [.lit (.bool false)], args := [d1, d2] }
  | _ => none }
def ShareSumsWrongFalsely : Prop := shareSumsRow.holds Try.pinned (OpenSpec.ofChange shareSumsWrong)

/-- 'kinfolklaw03.ShareSpans': WHATEVER THE INPUT: true; the input reads as it did. -/
def shareSpansSpec : ChangeSpec := { name := "shareSpans", fn := fun _ => fun
  | [d] => { results := [.lit (.bool true)], args := [d] }
  | _ => none }
def shareSpansRow : OpenClaim := { program := "ytigkjmfkpmehlaa", sum := "c377677ac4e53f72007d380c9b369190ac5415450a69aaf84cf7329fc8027c30", func := "kinfolk/kinfolklaw03.ShareSpans", spec := "shareSpans", inPlace := ["math.Float64bits"], unfollowed := true, recurses := true, apart := false }
def ShareSpansSaid : Prop := shareSpansRow.holds Try.pinned (OpenSpec.ofChange shareSpansSpec)

/-- ITS FALSE NEIGHBOUR: 'it returns false'. Refute it at one input. -/
def shareSpansWrong : ChangeSpec := { name := "shareSpans", fn := fun _ => fun
  | [d] => { results := [.lit (.bool false)], args := [d] }
  | _ => none }
def ShareSpansWrongFalsely : Prop := shareSpansRow.holds Try.pinned (OpenSpec.ofChange shareSpansWrong)

/-- 'kinfolklaw03.ShareWeights': WHATEVER THE INPUT: true; the input reads as it did. -/
def shareWeightsSpec : ChangeSpec := { name := "shareWeights", fn := fun _ => fun
  | [d1, d2] => { results := [.lit (.bool true)], args := [d1, d2] }
  | _ => none }
def shareWeightsRow : OpenClaim := { program := "ytigkjmfkpmehlaa", sum := "c377677ac4e53f72007d380c9b369190ac5415450a69aaf84cf7329fc8027c30", func := "kinfolk/kinfolklaw03.ShareWeights", spec := "shareWeights", inPlace := ["math.Float64bits"], recurses := true, apart := false }
def ShareWeightsSaid : Prop := shareWeightsRow.holds Try.pinned (OpenSpec.ofChange shareWeightsSpec)

/-- ITS FALSE NEIGHBOUR: 'it returns false'. Refute it at one input. -/
def shareWeightsWrong : ChangeSpec := { name := "shareWeights", fn := fun _ => fun
  | [d1, d2] => { results := [.lit (.bool false)], args := [d1, d2] }
  | _ => none }
def ShareWeightsWrongFalsely : Prop := shareWeightsRow.holds Try.pinned (OpenSpec.ofChange shareWeightsWrong)

/- THE SECOND FORM. 'bulk': how many values and letters a reading holds, each counted each time it is reached (what is shared counts as often as it is met; a slice's spare places count too). A statement '..UptoSaid' is the law's where the arguments, and the package variables that the reading takes, are together of bulk at most 1048576: NARROWER than '..Said'. Prove '..Said' where nothing that the law and all that it calls make is longer than what came in: it says more and counts as full. Else prove '..UptoSaid'. A law counts once. -/
mutual
def uptoBulk {H : Type} : DataW H → Nat
  | .lit (.string bytes) => bytes.length + 1
  | .lit _ => 1
  | .nil => 1
  | .ptr d => uptoBulk d + 1
  | .slice elems spare => uptoBulkAll elems + uptoBulkAll spare + 1
  | .agg parts => uptoBulkAll parts + 1
  | .iface _ d => uptoBulk d + 1
  | .map entries => uptoBulkEntries entries + 1
  | .held _ => 1
def uptoBulkAll {H : Type} : List (DataW H) → Nat
  | [] => 0
  | d :: r => uptoBulk d + uptoBulkAll r
def uptoBulkEntries {H : Type} : List (Lit × DataW H) → Nat
  | [] => 0
  | x :: r => uptoBulkEntry x + uptoBulkEntries r
def uptoBulkEntry {H : Type} : Lit × DataW H → Nat
  | (.string bytes, d) => bytes.length + uptoBulk d + 1
  | (_, d) => uptoBulk d + 1
 end
def uptoSmall : (H : Type) → List (DataW H) → Bool := fun _ ds => decide (uptoBulkAll ds ≤ 1048576)
def OpenSpec.upto (s : _root_.Go.ChangeSpec) : _root_.Go.OpenSpec := { _root_.Go.OpenSpec.ofChange s with cond := some uptoSmall }

/-- 'kinfolklaw03.ShareTurns', WHERE WHAT IT READS IS OF BULK AT MOST 1048576: true; the input reads as it did. -/
def shareTurnsUptoRow : OpenClaim := { program := "ytigkjmfkpmehlaa", sum := "c377677ac4e53f72007d380c9b369190ac5415450a69aaf84cf7329fc8027c30", func := "kinfolk/kinfolklaw03.ShareTurns", spec := "shareTurns", recurses := true, apart := false, narrowed := true }
def ShareTurnsUptoSaid : Prop := shareTurnsUptoRow.holds Try.pinned (OpenSpec.upto shareTurnsSpec)

/-- 'kinfolklaw01.IdShares', WHERE WHAT IT READS IS OF BULK AT MOST 1048576: true; the input reads as it did. -/
def idSharesUptoRow : OpenClaim := { program := "ytigkjmfkpmehlaa", sum := "c377677ac4e53f72007d380c9b369190ac5415450a69aaf84cf7329fc8027c30", func := "kinfolk/kinfolklaw01.IdShares", spec := "idShares", recurses := true, apart := false, narrowed := true }
def IdSharesUptoSaid : Prop := idSharesUptoRow.holds Try.pinned (OpenSpec.upto idSharesSpec)

/-- 'kinfolklaw01.IdDeep', WHERE WHAT IT READS IS OF BULK AT MOST 1048576: true; the input reads as it did. -/
def idDeepUptoRow : OpenClaim := { program := "ytigkjmfkpmehlaa", sum := "c377677ac4e53f72007d380c9b369190ac5415450a69aaf84cf7329fc8027c30", func := "kinfolk/kinfolklaw01.IdDeep", spec := "idDeep", recurses := true, apart := false, narrowed := true }
def IdDeepUptoSaid : Prop := idDeepUptoRow.holds Try.pinned (OpenSpec.upto idDeepSpec)

/-- 'kinfolklaw01.IdTexts', WHERE WHAT IT READS IS OF BULK AT MOST 1048576: true; the input reads as it did. -/
def idTextsUptoRow : OpenClaim := { program := "ytigkjmfkpmehlaa", sum := "c377677ac4e53f72007d380c9b369190ac5415450a69aaf84cf7329fc8027c30", func := "kinfolk/kinfolklaw01.IdTexts", spec := "idTexts", recurses := true, apart := false, narrowed := true }
def IdTextsUptoSaid : Prop := idTextsUptoRow.holds Try.pinned (OpenSpec.upto idTextsSpec)

/-- 'kinfolklaw01.IdHalves', WHERE WHAT IT READS IS OF BULK AT MOST 1048576: true; the input reads as it did. -/
def idHalvesUptoRow : OpenClaim := { program := "ytigkjmfkpmehlaa", sum := "c377677ac4e53f72007d380c9b369190ac5415450a69aaf84cf7329fc8027c30", func := "kinfolk/kinfolklaw01.IdHalves", spec := "idHalves", recurses := true, apart := false, narrowed := true }
def IdHalvesUptoSaid : Prop := idHalvesUptoRow.holds Try.pinned (OpenSpec.upto idHalvesSpec)

/-- 'kinfolklaw01.IdPairs', WHERE WHAT IT READS IS OF BULK AT MOST 1048576: true; the input reads as it did. -/
def idPairsUptoRow : OpenClaim := { program := "ytigkjmfkpmehlaa", sum := "c377677ac4e53f72007d380c9b369190ac5415450a69aaf84cf7329fc8027c30", func := "kinfolk/kinfolklaw01.IdPairs", spec := "idPairs", recurses := true, apart := false, narrowed := true }
def IdPairsUptoSaid : Prop := idPairsUptoRow.holds Try.pinned (OpenSpec.upto idPairsSpec)

/-- 'kinfolklaw01.IdSplits', WHERE WHAT IT READS IS OF BULK AT MOST 1048576: true; the input reads as it did. -/
def idSplitsUptoRow : OpenClaim := { program := "ytigkjmfkpmehlaa", sum := "c377677ac4e53f72007d380c9b369190ac5415450a69aaf84cf7329fc8027c30", func := "kinfolk/kinfolklaw01.IdSplits", spec := "idSplits", recurses := true, apart := false, narrowed := true }
def IdSplitsUptoSaid : Prop := idSplitsUptoRow.holds Try.pinned (OpenSpec.upto idSplitsSpec)

/-- 'kinfolklaw01.IdSums', WHERE WHAT IT READS IS OF BULK AT MOST 1048576: true; the input reads as it did. -/
def idSumsUptoRow : OpenClaim := { program := "ytigkjmfkpmehlaa", sum := "c377677ac4e53f72007d380c9b369190ac5415450a69aaf84cf7329fc8027c30", func := "kinfolk/kinfolklaw01.IdSums", spec := "idSums", recurses := true, apart := false, narrowed := true }
def IdSumsUptoSaid : Prop := idSumsUptoRow.holds Try.pinned (OpenSpec.upto idSumsSpec)

/-- 'kinfolklaw03.ShareMeasures', WHERE WHAT IT READS IS OF BULK AT MOST 1048576: true; the input reads as it did. -/
def shareMeasuresUptoRow : OpenClaim := { program := "ytigkjmfkpmehlaa", sum := "c377677ac4e53f72007d380c9b369190ac5415450a69aaf84cf7329fc8027c30", func := "kinfolk/kinfolklaw03.ShareMeasures", spec := "shareMeasures", inPlace := ["math.Float64bits"], recurses := true, apart := false, narrowed := true }
def ShareMeasuresUptoSaid : Prop := shareMeasuresUptoRow.holds Try.pinned (OpenSpec.upto shareMeasuresSpec)

/-- 'kinfolklaw03.ShareSums', WHERE WHAT IT READS IS OF BULK AT MOST 1048576: true; the input reads as it did. -/
def shareSumsUptoRow : OpenClaim := { program := "ytigkjmfkpmehlaa", sum := "c377677ac4e53f72007d380c9b369190ac5415450a69aaf84cf7329fc8027c30", func := "kinfolk/kinfolklaw03.ShareSums", spec := "shareSums", inPlace := ["math.Float64bits"], recurses := true, apart := false, narrowed := true }
def ShareSumsUptoSaid : Prop := shareSumsUptoRow.holds Try.pinned (OpenSpec.upto shareSumsSpec)

/-- 'kinfolklaw03.ShareSpans', WHERE WHAT IT READS IS OF BULK AT MOST 1048576: true; the input reads as it did. -/
def shareSpansUptoRow : OpenClaim := { program := "ytigkjmfkpmehlaa", sum := "c377677ac4e53f72007d380c9b369190ac5415450a69aaf84cf7329fc8027c30", func := "kinfolk/kinfolklaw03.ShareSpans", spec := "shareSpans", inPlace := ["math.Float64bits"], unfollowed := true, recurses := true, apart := false, narrowed := true }
def ShareSpansUptoSaid : Prop := shareSpansUptoRow.holds Try.pinned (OpenSpec.upto shareSpansSpec)

/-- 'kinfolklaw03.ShareWeights', WHERE WHAT IT READS IS OF BULK AT MOST 1048576: true; the input reads as it did. -/
def shareWeightsUptoRow : OpenClaim := { program := "ytigkjmfkpmehlaa", sum := "c377677ac4e53f72007d380c9b369190ac5415450a69aaf84cf7329fc8027c30", func := "kinfolk/kinfolklaw03.ShareWeights", spec := "shareWeights", inPlace := ["math.Float64bits"], recurses := true, apart := false, narrowed := true }
def ShareWeightsUptoSaid : Prop := shareWeightsUptoRow.holds Try.pinned (OpenSpec.upto shareWeightsSpec)

end Rows
end Go.Proofs.Ytigkjmfkpmehlaa
