/-
  No cell of these rows narrows 'for every input' (looked for: loops, veiled, ifaces, maps, wideKeys, modest, calm, conditions, laid).
  DERIVED. THE GIVEN ROWS OF THIS SEAT. 8 by the template 'for every input the law returns true; each argument reads behind the call as it read before'; 0 by the template 'total and deterministic' (their statements: YtmpbhgofllbejaaTotals.lean).
  GIVEN WITH THE SEED: the statements are not yours to turn. If you find one false, say at which input.
  Laid BY PROGRAM, IN A SANDBOX (cutbox-rows.mjs): the forced cells as the released guide's own fill.sh prints them over the translation 4108f39b5f2249e7… (all of the seat's roots in one cut). By AI agents, Wed Nov 11 2026. No macro, syntax, notation, axiom, sorry.
-/
import Derived.Test.YtmpbhgofllbejaaChecked
import GoSem.Claim
import GoSem.ClaimJoined
import GoSem.ClaimMapViews
import Derived.JoinedTies
import Derived.KernelRfl
namespace Go.Proofs.Ytmpbhgofllbejaa
/- THE CELL 'sum', in the pinned program and in every row, IS THE sha256 OF THE DUMP (.gsa) THAT YtmpbhgofllbejaaProg.lean LOADS. Nothing in Lean hashes anything: it is a label: what it is worth is what the hold of that sum in a sandbox is worth. -/
noncomputable def Try.pinned : Pinned := { name := "ytmpbhgofllbejaa", sum := "4108f39b5f2249e73b577e32c9a66ab4ec05d3e056d30d13198c519f26a69500", checked := Try.checked }
namespace Rows
def none {H : Type} : Left H := { results := [], args := [] }

/-- 'novationlaw15.MarkFlows': WHATEVER THE INPUT: true; the input reads as it did. -/
def markFlowsSpec : ChangeSpec := { name := "markFlows", fn := fun _ => fun
  | [d1, d2, d3, d4] => { results := [.lit (.bool true)], args := [d1, d2, d3, d4] }
  | _ => none }
def markFlowsRow : OpenClaim := { program := "ytmpbhgofllbejaa", sum := "4108f39b5f2249e73b577e32c9a66ab4ec05d3e056d30d13198c519f26a69500", func := "novation/novationlaw15.MarkFlows", spec := "markFlows", inPlace := ["math/bits.Sub64", "math/bits.Add64"], apart := false }
def MarkFlowsSaid : Prop := markFlowsRow.holds Try.pinned (OpenSpec.ofChange markFlowsSpec)

/-- ITS FALSE NEIGHBOUR: 'it returns false'. Refute it at one input. -/
def markFlowsWrong : ChangeSpec := { name := "markFlows", fn := fun _ => fun
  | [d1, d2, d3, d4] => { results := [.lit (.bool false)], args := [d1, d2, d3, d4] }
  | _ => none }
def MarkFlowsWrongFalsely : Prop := markFlowsRow.holds Try.pinned (OpenSpec.ofChange markFlowsWrong)

/-- 'novationlaw15.MarkGains': WHATEVER THE INPUT: true; the input reads as it did. -/
def markGainsSpec : ChangeSpec := { name := "markGains", fn := fun _ => fun
  | [d1, d2] => { results := [.lit (.bool true)], args := [d1, d2] }
  | _ => none }
def markGainsRow : OpenClaim := { program := "ytmpbhgofllbejaa", sum := "4108f39b5f2249e73b577e32c9a66ab4ec05d3e056d30d13198c519f26a69500", func := "novation/novationlaw15.MarkGains", spec := "markGains", inPlace := ["math/bits.Sub64", "math/bits.Add64"], apart := false }
def MarkGainsSaid : Prop := markGainsRow.holds Try.pinned (OpenSpec.ofChange markGainsSpec)

/-- ITS FALSE NEIGHBOUR: 'it returns false'. Refute it at one input. -/
def markGainsWrong : ChangeSpec := { name := "markGains", fn := fun _ => fun
  | [d1, d2] => { results := [.lit (.bool false)], args := [d1, d2] }
  | _ => none }
def MarkGainsWrongFalsely : Prop := markGainsRow.holds Try.pinned (OpenSpec.ofChange markGainsWrong)

/-- 'novationlaw15.MarkTrades': WHATEVER THE INPUT: true; the input reads as it did. -/
def markTradesSpec : ChangeSpec := { name := "markTrades", fn := fun _ => fun
  | [d1, d2, d3] => { results := [.lit (.bool true)], args := [d1, d2, d3] }
  | _ => none }
def markTradesRow : OpenClaim := { program := "ytmpbhgofllbejaa", sum := "4108f39b5f2249e73b577e32c9a66ab4ec05d3e056d30d13198c519f26a69500", func := "novation/novationlaw15.MarkTrades", spec := "markTrades", inPlace := ["math/bits.Sub64", "math/bits.Add64"], apart := false }
def MarkTradesSaid : Prop := markTradesRow.holds Try.pinned (OpenSpec.ofChange markTradesSpec)

/-- ITS FALSE NEIGHBOUR: 'it returns false'. Refute it at one input. -/
def markTradesWrong : ChangeSpec := { name := "markTrades", fn := fun _ => fun
  | [d1, d2, d3] => { results := [.lit (.bool false)], args := [d1, d2, d3] }
  | _ => none }
def MarkTradesWrongFalsely : Prop := markTradesRow.holds Try.pinned (OpenSpec.ofChange markTradesWrong)

/-- 'novationlaw14.NeedAll': WHATEVER THE INPUT: true; the input reads as it did. -/
def needAllSpec : ChangeSpec := { name := "needAll", fn := fun _ => fun
  | [d1, d2, d3, d4, d5, d6] => { results := [.lit (.bool true)], args := [d1, d2, d3, d4, d5, d6] }
  | _ => none }
def needAllRow : OpenClaim := { program := "ytmpbhgofllbejaa", sum := "4108f39b5f2249e73b577e32c9a66ab4ec05d3e056d30d13198c519f26a69500", func := "novation/novationlaw14.NeedAll", spec := "needAll", inPlace := ["math/bits.Sub64", "math/bits.Add64"], unfollowed := true, recurses := true, apart := false }
def NeedAllSaid : Prop := needAllRow.holds Try.pinned (OpenSpec.ofChange needAllSpec)

/-- ITS FALSE NEIGHBOUR: 'it returns false'. Refute it at one input. -/
def needAllWrong : ChangeSpec := { name := "needAll", fn := fun _ => fun
  | [d1, d2, d3, d4, d5, d6] => { results := [.lit (.bool false)], args := [d1, d2, d3, d4, d5, d6] }
  | _ => none }
def NeedAllWrongFalsely : Prop := needAllRow.holds Try.pinned (OpenSpec.ofChange needAllWrong)

/-- 'novationlaw12.LedgerAll': WHATEVER THE INPUT: true; the input reads as it did. -/
def ledgerAllSpec : ChangeSpec := { name := "ledgerAll", fn := fun _ => fun
  | [d1, d2, d3] => { results := [.lit (.bool true)], args := [d1, d2, d3] }
  | _ => none }
def ledgerAllRow : OpenClaim := { program := "ytmpbhgofllbejaa", sum := "4108f39b5f2249e73b577e32c9a66ab4ec05d3e056d30d13198c519f26a69500", func := "novation/novationlaw12.LedgerAll", spec := "ledgerAll", inPlace := ["math/bits.Sub64", "math/bits.Add64", "slices.overlaps[novation/api.Row]"], apart := false }
def LedgerAllSaid : Prop := ledgerAllRow.holds Try.pinned (OpenSpec.ofChange ledgerAllSpec)

/-- ITS FALSE NEIGHBOUR: 'it returns false'. Refute it at one input. -/
def ledgerAllWrong : ChangeSpec := { name := "ledgerAll", fn := fun _ => fun
  | [d1, d2, d3] => { results := [.lit (.bool false)], args := [d1, d2, d3] }
  | _ => none }
def LedgerAllWrongFalsely : Prop := ledgerAllRow.holds Try.pinned (OpenSpec.ofChange ledgerAllWrong)

/-- 'novationlaw12.LedgerPosts': WHATEVER THE INPUT: true; the input reads as it did. -/
def ledgerPostsSpec : ChangeSpec := { name := "ledgerPosts", fn := fun _ => fun
  | [d1, d2, d3, d4, d5] => { results := [.lit (.bool true)], args := [d1, d2, d3, d4, d5] }
  | _ => none }
def ledgerPostsRow : OpenClaim := { program := "ytmpbhgofllbejaa", sum := "4108f39b5f2249e73b577e32c9a66ab4ec05d3e056d30d13198c519f26a69500", func := "novation/novationlaw12.LedgerPosts", spec := "ledgerPosts", inPlace := ["math/bits.Sub64", "math/bits.Add64", "slices.overlaps[novation/api.Row]"], apart := false }
def LedgerPostsSaid : Prop := ledgerPostsRow.holds Try.pinned (OpenSpec.ofChange ledgerPostsSpec)

/-- ITS FALSE NEIGHBOUR: 'it returns false'. Refute it at one input. -/
def ledgerPostsWrong : ChangeSpec := { name := "ledgerPosts", fn := fun _ => fun
  | [d1, d2, d3, d4, d5] => { results := [.lit (.bool false)], args := [d1, d2, d3, d4, d5] }
  | _ => none }
def LedgerPostsWrongFalsely : Prop := ledgerPostsRow.holds Try.pinned (OpenSpec.ofChange ledgerPostsWrong)

/-- 'novationlaw13.StockAll': WHATEVER THE INPUT: true; the input reads as it did. -/
def stockAllSpec : ChangeSpec := { name := "stockAll", fn := fun _ => fun
  | [d1, d2, d3, d4] => { results := [.lit (.bool true)], args := [d1, d2, d3, d4] }
  | _ => none }
def stockAllRow : OpenClaim := { program := "ytmpbhgofllbejaa", sum := "4108f39b5f2249e73b577e32c9a66ab4ec05d3e056d30d13198c519f26a69500", func := "novation/novationlaw13.StockAll", spec := "stockAll", inPlace := ["math/bits.Add64", "slices.overlaps[novation/api.Pos]"], apart := false }
def StockAllSaid : Prop := stockAllRow.holds Try.pinned (OpenSpec.ofChange stockAllSpec)

/-- ITS FALSE NEIGHBOUR: 'it returns false'. Refute it at one input. -/
def stockAllWrong : ChangeSpec := { name := "stockAll", fn := fun _ => fun
  | [d1, d2, d3, d4] => { results := [.lit (.bool false)], args := [d1, d2, d3, d4] }
  | _ => none }
def StockAllWrongFalsely : Prop := stockAllRow.holds Try.pinned (OpenSpec.ofChange stockAllWrong)

/-- 'novationlaw13.StockPosts': WHATEVER THE INPUT: true; the input reads as it did. -/
def stockPostsSpec : ChangeSpec := { name := "stockPosts", fn := fun _ => fun
  | [d1, d2] => { results := [.lit (.bool true)], args := [d1, d2] }
  | _ => none }
def stockPostsRow : OpenClaim := { program := "ytmpbhgofllbejaa", sum := "4108f39b5f2249e73b577e32c9a66ab4ec05d3e056d30d13198c519f26a69500", func := "novation/novationlaw13.StockPosts", spec := "stockPosts", inPlace := ["math/bits.Add64", "slices.overlaps[novation/api.Pos]"], apart := false }
def StockPostsSaid : Prop := stockPostsRow.holds Try.pinned (OpenSpec.ofChange stockPostsSpec)

/-- ITS FALSE NEIGHBOUR: 'it returns false'. Refute it at one input. -/
def stockPostsWrong : ChangeSpec := { name := "stockPosts", fn := fun _ => fun
  | [d1, d2] => { results := [.lit (.bool false)], args := [d1, d2] }
  | _ => none }
def StockPostsWrongFalsely : Prop := stockPostsRow.holds Try.pinned (OpenSpec.ofChange stockPostsWrong)

/- THE SECOND FORM. 'bulk': how many values and letters a reading holds, each counted each time it is reached (what is shared counts as often as it is met; a slice's spare places count too). A statement '..UptoSaid' is the law's where the arguments, and the package variables that the reading takes, are together of bulk at most 1048576: NARROWER than '..Said'. Prove '..Said' where nothing that the law and all that it calls make is longer than what came in: it says more and counts as full. Else prove '..UptoSaid'. A law counts once. -/
mutual
def uptoBulk {H : Type} : DataW H → Nat
  | .lit (.string bytes) => bytes.length + 1
  | .lit _ => 1
  | .nil => 1
  | .ptr d => uptoBulk d + 1
  | .slice elems spare => uptoBulkAll elems + uptoBulkAll spare + 1
  | .agg parts => uptoBulkAll parts + 1
  | .iface _ d => uptoBulk d + 1
  | .map entries => uptoBulkEntries entries + 1
  | .held _ => 1
def uptoBulkAll {H : Type} : List (DataW H) → Nat
  | [] => 0
  | d :: r => uptoBulk d + uptoBulkAll r
def uptoBulkEntries {H : Type} : List (Lit × DataW H) → Nat
  | [] => 0
  | x :: r => uptoBulkEntry x + uptoBulkEntries r
def uptoBulkEntry {H : Type} : Lit × DataW H → Nat
  | (.string bytes, d) => bytes.length + uptoBulk d + 1
  | (_, d) => uptoBulk d + 1
 end
def uptoSmall : (H : Type) → List (DataW H) → Bool := fun _ ds => decide (uptoBulkAll ds ≤ 1048576)
def OpenSpec.upto (s : _root_.Go.ChangeSpec) : _root_.Go.OpenSpec := { _root_.Go.OpenSpec.ofChange s with cond := some uptoSmall }

/-- 'novationlaw15.MarkFlows', WHERE WHAT IT READS IS OF BULK AT MOST 1048576: true; the input reads as it did. -/
def markFlowsUptoRow : OpenClaim := { program := "ytmpbhgofllbejaa", sum := "4108f39b5f2249e73b577e32c9a66ab4ec05d3e056d30d13198c519f26a69500", func := "novation/novationlaw15.MarkFlows", spec := "markFlows", inPlace := ["math/bits.Sub64", "math/bits.Add64"], apart := false, narrowed := true }
def MarkFlowsUptoSaid : Prop := markFlowsUptoRow.holds Try.pinned (OpenSpec.upto markFlowsSpec)

/-- 'novationlaw15.MarkGains', WHERE WHAT IT READS IS OF BULK AT MOST 1048576: true; the input reads as it did. -/
def markGainsUptoRow : OpenClaim := { program := "ytmpbhgofllbejaa", sum := "4108f39b5f2249e73b577e32c9a66ab4ec05d3e056d30d13198c519f26a69500", func := "novation/novationlaw15.MarkGains", spec := "markGains", inPlace := ["math/bits.Sub64", "math/bits.Add64"], apart := false, narrowed := true }
def MarkGainsUptoSaid : Prop := markGainsUptoRow.holds Try.pinned (OpenSpec.upto markGainsSpec)

/-- 'novationlaw15.MarkTrades', WHERE WHAT IT READS IS OF BULK AT MOST 1048576: true; the input reads as it did. -/
def markTradesUptoRow : OpenClaim := { program := "ytmpbhgofllbejaa", sum := "4108f39b5f2249e73b577e32c9a66ab4ec05d3e056d30d13198c519f26a69500", func := "novation/novationlaw15.MarkTrades", spec := "markTrades", inPlace := ["math/bits.Sub64", "math/bits.Add64"], apart := false, narrowed := true }
def MarkTradesUptoSaid : Prop := markTradesUptoRow.holds Try.pinned (OpenSpec.upto markTradesSpec)

/-- 'novationlaw14.NeedAll', WHERE WHAT IT READS IS OF BULK AT MOST 1048576: true; the input reads as it did. -/
def needAllUptoRow : OpenClaim := { program := "ytmpbhgofllbejaa", sum := "4108f39b5f2249e73b577e32c9a66ab4ec05d3e056d30d13198c519f26a69500", func := "novation/novationlaw14.NeedAll", spec := "needAll", inPlace := ["math/bits.Sub64", "math/bits.Add64"], unfollowed := true, recurses := true, apart := false, narrowed := true }
def NeedAllUptoSaid : Prop := needAllUptoRow.holds Try.pinned (OpenSpec.upto needAllSpec)

/-- 'novationlaw12.LedgerAll', WHERE WHAT IT READS IS OF BULK AT MOST 1048576: true; the input reads as it did. -/
def ledgerAllUptoRow : OpenClaim := { program := "ytmpbhgofllbejaa", sum := "4108f39b5f2249e73b577e32c9a66ab4ec05d3e056d30d13198c519f26a69500", func := "novation/novationlaw12.LedgerAll", spec := "ledgerAll", inPlace := ["math/bits.Sub64", "math/bits.Add64", "slices.overlaps[novation/api.Row]"], apart := false, narrowed := true }
def LedgerAllUptoSaid : Prop := ledgerAllUptoRow.holds Try.pinned (OpenSpec.upto ledgerAllSpec)

/-- 'novationlaw12.LedgerPosts', WHERE WHAT IT READS IS OF BULK AT MOST 1048576: true; the input reads as it did. -/
def ledgerPostsUptoRow : OpenClaim := { program := "ytmpbhgofllbejaa", sum := "4108f39b5f2249e73b577e32c9a66ab4ec05d3e056d30d13198c519f26a69500", func := "novation/novationlaw12.LedgerPosts", spec := "ledgerPosts", inPlace := ["math/bits.Sub64", "math/bits.Add64", "slices.overlaps[novation/api.Row]"], apart := false, narrowed := true }
def LedgerPostsUptoSaid : Prop := ledgerPostsUptoRow.holds Try.pinned (OpenSpec.upto ledgerPostsSpec)

/-- 'novationlaw13.StockAll', WHERE WHAT IT READS IS OF BULK AT MOST 1048576: true; the input reads as it did. -/
def stockAllUptoRow : OpenClaim := { program := "ytmpbhgofllbejaa", sum := "4108f39b5f2249e73b577e32c9a66ab4ec05d3e056d30d13198c519f26a69500", func := "novation/novationlaw13.StockAll", spec := "stockAll", inPlace := ["math/bits.Add64", "slices.overlaps[novation/api.Pos]"], apart := false, narrowed := true }
def StockAllUptoSaid : Prop := stockAllUptoRow.holds Try.pinned (OpenSpec.upto stockAllSpec)

/-- 'novationlaw13.StockPosts', WHERE WHAT IT READS IS OF BULK AT MOST 1048576: true; the input reads as it did. -/
def stockPostsUptoRow : OpenClaim := { program := "ytmpbhgofllbejaa", sum := "4108f39b5f2249e73b577e32c9a66ab4ec05d3e056d30d13198c519f26a69500", func := "novation/novationlaw13.StockPosts", spec := "stockPosts", inPlace := ["math/bits.Add64", "slices.overlaps[novation/api.Pos]"], apart := false, narrowed := true }
def StockPostsUptoSaid : Prop := stockPostsUptoRow.holds Try.pinned (OpenSpec.upto stockPostsSpec)

end Rows
end Go.Proofs.Ytmpbhgofllbejaa
