/-
  No cell of these rows narrows 'for every input' (looked for: loops, veiled, ifaces, maps, wideKeys, modest, calm, conditions, laid).
  DERIVED. THE GIVEN ROWS OF THIS SEAT. 8 by the template 'for every input the law returns true; each argument reads behind the call as it read before'; 0 by the template 'total and deterministic' (their statements: YtopmmbopankpgaaTotals.lean).
  GIVEN WITH THE SEED: the statements are not yours to turn. If you find one false, say at which input.
  Laid BY PROGRAM, IN A SANDBOX (cutbox-rows.mjs): the forced cells as the released guide's own fill.sh prints them over the translation 47f87189d8ea671a… (all of the seat's roots in one cut). By AI agents, Wed Nov 11 2026. No macro, syntax, notation, axiom, sorry.
-/
import Derived.Test.YtopmmbopankpgaaChecked
import GoSem.Claim
import GoSem.ClaimJoined
import GoSem.ClaimMapViews
import Derived.JoinedTies
import Derived.KernelRfl
namespace Go.Proofs.Ytopmmbopankpgaa
/- THE CELL 'sum', in the pinned program and in every row, IS THE sha256 OF THE DUMP (.gsa) THAT YtopmmbopankpgaaProg.lean LOADS. Nothing in Lean hashes anything: it is a label: what it is worth is what the hold of that sum in a sandbox is worth. -/
noncomputable def Try.pinned : Pinned := { name := "ytopmmbopankpgaa", sum := "47f87189d8ea671a61c48341e6fd8ab1b66b2a272f01d4846d9a659210201419", checked := Try.checked }
namespace Rows
def none {H : Type} : Left H := { results := [], args := [] }

/-- 'newellaw10.ConfigFewer': WHATEVER THE INPUT: true; the input reads as it did. -/
def configFewerSpec : ChangeSpec := { name := "configFewer", fn := fun _ => fun
  | [d1, d2] => { results := [.lit (.bool true)], args := [d1, d2] }
  | _ => none }
def configFewerRow : OpenClaim := { program := "ytopmmbopankpgaa", sum := "47f87189d8ea671a61c48341e6fd8ab1b66b2a272f01d4846d9a659210201419", func := "newel/newellaw10.ConfigFewer", spec := "configFewer", unfollowed := true, recurses := true, apart := false }
def ConfigFewerSaid : Prop := configFewerRow.holds Try.pinned (OpenSpec.ofChange configFewerSpec)

/-- ITS FALSE NEIGHBOUR: 'it returns false'. Refute it at one input. -/
def configFewerWrong : ChangeSpec := { name := "configFewer", fn := fun _ => fun
  | [d1, d2] => { results := [.lit (.bool false)], args := [d1, d2] }
  | _ => none }
def ConfigFewerWrongFalsely : Prop := configFewerRow.holds Try.pinned (OpenSpec.ofChange configFewerWrong)

/-- 'newellaw22.CycleRound': WHATEVER THE INPUT: true; the input reads as it did. -/
def cycleRoundSpec : ChangeSpec := { name := "cycleRound", fn := fun _ => fun
  | [d1, d2] => { results := [.lit (.bool true)], args := [d1, d2] }
  | _ => none }
def cycleRoundRow : OpenClaim := { program := "ytopmmbopankpgaa", sum := "47f87189d8ea671a61c48341e6fd8ab1b66b2a272f01d4846d9a659210201419", func := "newel/newellaw22.CycleRound", spec := "cycleRound", unfollowed := true, recurses := true, apart := false }
def CycleRoundSaid : Prop := cycleRoundRow.holds Try.pinned (OpenSpec.ofChange cycleRoundSpec)

/-- ITS FALSE NEIGHBOUR: 'it returns false'. Refute it at one input. -/
def cycleRoundWrong : ChangeSpec := { name := "cycleRound", fn := fun _ => fun
  | [d1, d2] => { results := [.lit (.bool false)], args := [d1, d2] }
  | _ => none }
def CycleRoundWrongFalsely : Prop := cycleRoundRow.holds Try.pinned (OpenSpec.ofChange cycleRoundWrong)

/-- 'newellaw13.SpanResolves': WHATEVER THE INPUT: true; the input reads as it did. -/
def spanResolvesSpec : ChangeSpec := { name := "spanResolves", fn := fun _ => fun
  | [d] => { results := [.lit (.bool true)], args := [d] }
  | _ => none }
def spanResolvesRow : OpenClaim := { program := "ytopmmbopankpgaa", sum := "47f87189d8ea671a61c48341e6fd8ab1b66b2a272f01d4846d9a659210201419", func := "newel/newellaw13.SpanResolves", spec := "spanResolves", unfollowed := true, recurses := true, apart := false }
def SpanResolvesSaid : Prop := spanResolvesRow.holds Try.pinned (OpenSpec.ofChange spanResolvesSpec)

/-- ITS FALSE NEIGHBOUR: 'it returns false'. Refute it at one input. -/
def spanResolvesWrong : ChangeSpec := { name := "spanResolves", fn := fun _ => fun
  | [d] => { results := [.lit (.bool false)], args := [d] }
  | _ => none }
def SpanResolvesWrongFalsely : Prop := spanResolvesRow.holds Try.pinned (OpenSpec.ofChange spanResolvesWrong)

/-- 'newellaw13.SpanTells': WHATEVER THE INPUT: true; the input reads as it did. -/
def spanTellsSpec : ChangeSpec := { name := "spanTells", fn := fun _ => fun
  | [d1, d2, d3] => { results := [.lit (.bool true)], args := [d1, d2, d3] }
  | _ => none }
def spanTellsRow : OpenClaim := { program := "ytopmmbopankpgaa", sum := "47f87189d8ea671a61c48341e6fd8ab1b66b2a272f01d4846d9a659210201419", func := "newel/newellaw13.SpanTells", spec := "spanTells", unfollowed := true, recurses := true, apart := false }
def SpanTellsSaid : Prop := spanTellsRow.holds Try.pinned (OpenSpec.ofChange spanTellsSpec)

/-- ITS FALSE NEIGHBOUR: 'it returns false'. Refute it at one input. -/
def spanTellsWrong : ChangeSpec := { name := "spanTells", fn := fun _ => fun
  | [d1, d2, d3] => { results := [.lit (.bool false)], args := [d1, d2, d3] }
  | _ => none }
def SpanTellsWrongFalsely : Prop := spanTellsRow.holds Try.pinned (OpenSpec.ofChange spanTellsWrong)

/-- 'newellaw13.SpanEach': WHATEVER THE INPUT: true; the input reads as it did. -/
def spanEachSpec : ChangeSpec := { name := "spanEach", fn := fun _ => fun
  | [d1, d2] => { results := [.lit (.bool true)], args := [d1, d2] }
  | _ => none }
def spanEachRow : OpenClaim := { program := "ytopmmbopankpgaa", sum := "47f87189d8ea671a61c48341e6fd8ab1b66b2a272f01d4846d9a659210201419", func := "newel/newellaw13.SpanEach", spec := "spanEach", unfollowed := true, recurses := true, apart := false }
def SpanEachSaid : Prop := spanEachRow.holds Try.pinned (OpenSpec.ofChange spanEachSpec)

/-- ITS FALSE NEIGHBOUR: 'it returns false'. Refute it at one input. -/
def spanEachWrong : ChangeSpec := { name := "spanEach", fn := fun _ => fun
  | [d1, d2] => { results := [.lit (.bool false)], args := [d1, d2] }
  | _ => none }
def SpanEachWrongFalsely : Prop := spanEachRow.holds Try.pinned (OpenSpec.ofChange spanEachWrong)

/-- 'newellaw13.SpanRow': WHATEVER THE INPUT: true; the input reads as it did. -/
def spanRowSpec : ChangeSpec := { name := "spanRow", fn := fun _ => fun
  | [d] => { results := [.lit (.bool true)], args := [d] }
  | _ => none }
def spanRowRow : OpenClaim := { program := "ytopmmbopankpgaa", sum := "47f87189d8ea671a61c48341e6fd8ab1b66b2a272f01d4846d9a659210201419", func := "newel/newellaw13.SpanRow", spec := "spanRow", unfollowed := true, recurses := true, apart := false }
def SpanRowSaid : Prop := spanRowRow.holds Try.pinned (OpenSpec.ofChange spanRowSpec)

/-- ITS FALSE NEIGHBOUR: 'it returns false'. Refute it at one input. -/
def spanRowWrong : ChangeSpec := { name := "spanRow", fn := fun _ => fun
  | [d] => { results := [.lit (.bool false)], args := [d] }
  | _ => none }
def SpanRowWrongFalsely : Prop := spanRowRow.holds Try.pinned (OpenSpec.ofChange spanRowWrong)

/-- 'newellaw13.SpanCuts': WHATEVER THE INPUT: true; the input reads as it did. -/
def spanCutsSpec : ChangeSpec := { name := "spanCuts", fn := fun _ => fun
  | [d] => { results := [.lit (.bool true)], args := [d] }
  | _ => none }
def spanCutsRow : OpenClaim := { program := "ytopmmbopankpgaa", sum := "47f87189d8ea671a61c48341e6fd8ab1b66b2a272f01d4846d9a659210201419", func := "newel/newellaw13.SpanCuts", spec := "spanCuts", unfollowed := true, recurses := true, apart := false }
def SpanCutsSaid : Prop := spanCutsRow.holds Try.pinned (OpenSpec.ofChange spanCutsSpec)

/-- ITS FALSE NEIGHBOUR: 'it returns false'. Refute it at one input. -/
def spanCutsWrong : ChangeSpec := { name := "spanCuts", fn := fun _ => fun
  | [d] => { results := [.lit (.bool false)], args := [d] }
  | _ => none }
def SpanCutsWrongFalsely : Prop := spanCutsRow.holds Try.pinned (OpenSpec.ofChange spanCutsWrong)

/-- 'newellaw13.SpanTurned': WHATEVER THE INPUT: true; the input reads as it did. -/
def spanTurnedSpec : ChangeSpec := { name := "spanTurned", fn := fun _ => fun
  | [d1, d2] => { results := [.lit (.bool true)], args := [d1, d2] }
  | _ => none }
def spanTurnedRow : OpenClaim := { program := "ytopmmbopankpgaa", sum := "47f87189d8ea671a61c48341e6fd8ab1b66b2a272f01d4846d9a659210201419", func := "newel/newellaw13.SpanTurned", spec := "spanTurned", unfollowed := true, recurses := true, apart := false }
def SpanTurnedSaid : Prop := spanTurnedRow.holds Try.pinned (OpenSpec.ofChange spanTurnedSpec)

/-- ITS FALSE NEIGHBOUR: 'it returns false'. Refute it at one input. -/
def spanTurnedWrong : ChangeSpec := { name := "spanTurned", fn := fun _ => fun
  | [d1, d2] => { results := [.lit (.bool false)], args := [d1, d2] }
  | _ => none }
def SpanTurnedWrongFalsely : Prop := spanTurnedRow.holds Try.pinned (OpenSpec.ofChange spanTurnedWrong)

/- THE SECOND FORM. 'bulk': how many values and letters a reading holds, each counted each time it is reached (what is shared counts as often as it is met; a slice's spare places count too). A statement '..UptoSaid' is the law's where the arguments, and the package variables that the reading takes, are together of bulk at most 1048576: NARROWER than '..Said'. Prove '..Said' where nothing that the law and all that it calls make is longer than what came in: it says more and counts as full. Else prove '..UptoSaid'. A law counts once. -/
mutual
def uptoBulk {H : Type} : DataW H → Nat
  | .lit (.string bytes) => bytes.length + 1
  | .lit _ => 1
  | .nil => 1
  | .ptr d => uptoBulk d + 1
  | .slice elems spare => uptoBulkAll elems + uptoBulkAll spare + 1
  | .agg parts => uptoBulkAll parts + 1
  | .iface _ d => uptoBulk d + 1
  | .map entries => uptoBulkEntries entries + 1
  | .held _ => 1
def uptoBulkAll {H : Type} : List (DataW H) → Nat
  | [] => 0
  | d :: r => uptoBulk d + uptoBulkAll r
def uptoBulkEntries {H : Type} : List (Lit × DataW H) → Nat
  | [] => 0
  | x :: r => uptoBulkEntry x + uptoBulkEntries r
def uptoBulkEntry {H : Type} : Lit × DataW H → Nat
  | (.string bytes, d) => bytes.length + uptoBulk d + 1
  | (_, d) => uptoBulk d + 1
 end
def uptoSmall : (H : Type) → List (DataW H) → Bool := fun _ ds => decide (uptoBulkAll ds ≤ 1048576)
def OpenSpec.upto (s : _root_.Go.ChangeSpec) : _root_.Go.OpenSpec := { _root_.Go.OpenSpec.ofChange s with cond := some uptoSmall }

/-- 'newellaw10.ConfigFewer', WHERE WHAT IT READS IS OF BULK AT MOST 1048576: true; the input reads as it did. -/
def configFewerUptoRow : OpenClaim := { program := "ytopmmbopankpgaa", sum := "47f87189d8ea671a61c48341e6fd8ab1b66b2a272f01d4846d9a659210201419", func := "newel/newellaw10.ConfigFewer", spec := "configFewer", unfollowed := true, recurses := true, apart := false, narrowed := true }
def ConfigFewerUptoSaid : Prop := configFewerUptoRow.holds Try.pinned (OpenSpec.upto configFewerSpec)

/-- 'newellaw22.CycleRound', WHERE WHAT IT READS IS OF BULK AT MOST 1048576: true; the input reads as it did. -/
def cycleRoundUptoRow : OpenClaim := { program := "ytopmmbopankpgaa", sum := "47f87189d8ea671a61c48341e6fd8ab1b66b2a272f01d4846d9a659210201419", func := "newel/newellaw22.CycleRound", spec := "cycleRound", unfollowed := true, recurses := true, apart := false, narrowed := true }
def CycleRoundUptoSaid : Prop := cycleRoundUptoRow.holds Try.pinned (OpenSpec.upto cycleRoundSpec)

/-- 'newellaw13.SpanResolves', WHERE WHAT IT READS IS OF BULK AT MOST 1048576: true; the input reads as it did. -/
def spanResolvesUptoRow : OpenClaim := { program := "ytopmmbopankpgaa", sum := "47f87189d8ea671a61c48341e6fd8ab1b66b2a272f01d4846d9a659210201419", func := "newel/newellaw13.SpanResolves", spec := "spanResolves", unfollowed := true, recurses := true, apart := false, narrowed := true }
def SpanResolvesUptoSaid : Prop := spanResolvesUptoRow.holds Try.pinned (OpenSpec.upto spanResolvesSpec)

/-- 'newellaw13.SpanTells', WHERE WHAT IT READS IS OF BULK AT MOST 1048576: true; the input reads as it did. -/
def spanTellsUptoRow : OpenClaim := { program := "ytopmmbopankpgaa", sum := "47f87189d8ea671a61c48341e6fd8ab1b66b2a272f01d4846d9a659210201419", func := "newel/newellaw13.SpanTells", spec := "spanTells", unfollowed := true, recurses := true, apart := false, narrowed := true }
def SpanTellsUptoSaid : Prop := spanTellsUptoRow.holds Try.pinned (OpenSpec.upto spanTellsSpec)

/-- 'newellaw13.SpanEach', WHERE WHAT IT READS IS OF BULK AT MOST 1048576: true; the input reads as it did. -/
def spanEachUptoRow : OpenClaim := { program := "ytopmmbopankpgaa", sum := "47f87189d8ea671a61c48341e6fd8ab1b66b2a272f01d4846d9a659210201419", func := "newel/newellaw13.SpanEach", spec := "spanEach", unfollowed := true, recurses := true, apart := false, narrowed := true }
def SpanEachUptoSaid : Prop := spanEachUptoRow.holds Try.pinned (OpenSpec.upto spanEachSpec)

/-- 'newellaw13.SpanRow', WHERE WHAT IT READS IS OF BULK AT MOST 1048576: true; the input reads as it did. -/
def spanRowUptoRow : OpenClaim := { program := "ytopmmbopankpgaa", sum := "47f87189d8ea671a61c48341e6fd8ab1b66b2a272f01d4846d9a659210201419", func := "newel/newellaw13.SpanRow", spec := "spanRow", unfollowed := true, recurses := true, apart := false, narrowed := true }
def SpanRowUptoSaid : Prop := spanRowUptoRow.holds Try.pinned (OpenSpec.upto spanRowSpec)

/-- 'newellaw13.SpanCuts', WHERE WHAT IT READS IS OF BULK AT MOST 1048576: true; the input reads as it did. -/
def spanCutsUptoRow : OpenClaim := { program := "ytopmmbopankpgaa", sum := "47f87189d8ea671a61c48341e6fd8ab1b66b2a272f01d4846d9a659210201419", func := "newel/newellaw13.SpanCuts", spec := "spanCuts", unfollowed := true, recurses := true, apart := false, narrowed := true }
def SpanCutsUptoSaid : Prop := spanCutsUptoRow.holds Try.pinned (OpenSpec.upto spanCutsSpec)

/-- 'newellaw13.SpanTurned', WHERE WHAT IT READS IS OF BULK AT MOST 1048576: true; the input reads as it did. -/
def spanTurnedUptoRow : OpenClaim := { program := "ytopmmbopankpgaa", sum := "47f87189d8ea671a61c48341e6fd8ab1b66b2a272f01d4846d9a659210201419", func := "newel/newellaw13.SpanTurned", spec := "spanTurned", unfollowed := true, recurses := true, apart := false, narrowed := true }
def SpanTurnedUptoSaid : Prop := spanTurnedUptoRow.holds Try.pinned (OpenSpec.upto spanTurnedSpec)

end Rows
end Go.Proofs.Ytopmmbopankpgaa
