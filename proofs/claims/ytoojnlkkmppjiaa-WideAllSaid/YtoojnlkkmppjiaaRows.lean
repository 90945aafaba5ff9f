/-
  No cell of these rows narrows 'for every input' (looked for: loops, veiled, ifaces, maps, wideKeys, modest, calm, conditions, laid).
  DERIVED. THE GIVEN ROWS OF THIS SEAT. 10 by the template 'for every input the law returns true; each argument reads behind the call as it read before'; 0 by the template 'total and deterministic' (their statements: YtoojnlkkmppjiaaTotals.lean).
  GIVEN WITH THE SEED: the statements are not yours to turn. If you find one false, say at which input.
  Laid BY PROGRAM, IN A SANDBOX (cutbox-rows.mjs): the forced cells as the released guide's own fill.sh prints them over the translation 1384ab99f8b69044… (all of the seat's roots in one cut). By AI agents, Wed Nov 11 2026. No macro, syntax, notation, axiom, sorry.
-/
import Derived.Test.YtoojnlkkmppjiaaChecked
import GoSem.Claim
import GoSem.ClaimJoined
import GoSem.ClaimMapViews
import Derived.JoinedTies
import Derived.KernelRfl
namespace Go.Proofs.Ytoojnlkkmppjiaa
/- THE CELL 'sum', in the pinned program and in every row, IS THE sha256 OF THE DUMP (.gsa) THAT YtoojnlkkmppjiaaProg.lean LOADS. Nothing in Lean hashes anything: it is a label: what it is worth is what the hold of that sum in a sandbox is worth. -/
noncomputable def Try.pinned : Pinned := { name := "ytoojnlkkmppjiaa", sum := "1384ab99f8b690444a14ae07a416f216ae97084cf035bf20b01c2ce49879f52b", checked := Try.checked }
namespace Rows
def none {H : Type} : Left H := { results := [], args := [] }

/-- 'novationlaw1.AmountAll': WHATEVER THE INPUT: true; the input reads as it did. -/
def amountAllSpec : ChangeSpec := { name := "amountAll", fn := fun _ => fun
  | [d1, d2] => { results := [.lit (.bool true)], args := [d1, d2] }
  | _ => none }
def amountAllRow : OpenClaim := { program := "ytoojnlkkmppjiaa", sum := "1384ab99f8b690444a14ae07a416f216ae97084cf035bf20b01c2ce49879f52b", func := "novation/novationlaw1.AmountAll", spec := "amountAll", inPlace := ["math/bits.Add64"], apart := false }
def AmountAllSaid : Prop := amountAllRow.holds Try.pinned (OpenSpec.ofChange amountAllSpec)

/-- ITS FALSE NEIGHBOUR: 'it returns false'. Refute it at one input. -/
def amountAllWrong : ChangeSpec := { name := "amountAll", fn := fun _ => fun
  | [d1, d2] => { results := [.lit (.bool false)], args := [d1, d2] }
  | _ => none }
def AmountAllWrongFalsely : Prop := amountAllRow.holds Try.pinned (OpenSpec.ofChange amountAllWrong)

/-- 'novationlaw1.AmountSums': WHATEVER THE INPUT: true; the input reads as it did. -/
def amountSumsSpec : ChangeSpec := { name := "amountSums", fn := fun _ => fun
  | [d] => { results := [.lit (.bool true)], args := [d] }
  | _ => none }
def amountSumsRow : OpenClaim := { program := "ytoojnlkkmppjiaa", sum := "1384ab99f8b690444a14ae07a416f216ae97084cf035bf20b01c2ce49879f52b", func := "novation/novationlaw1.AmountSums", spec := "amountSums", inPlace := ["math/bits.Add64"], apart := false }
def AmountSumsSaid : Prop := amountSumsRow.holds Try.pinned (OpenSpec.ofChange amountSumsSpec)

/-- ITS FALSE NEIGHBOUR: 'it returns false'. Refute it at one input. -/
def amountSumsWrong : ChangeSpec := { name := "amountSums", fn := fun _ => fun
  | [d] => { results := [.lit (.bool false)], args := [d] }
  | _ => none }
def AmountSumsWrongFalsely : Prop := amountSumsRow.holds Try.pinned (OpenSpec.ofChange amountSumsWrong)

/-- 'novationlaw1.AmountBack': WHATEVER THE INPUT: true; the input reads as it did. -/
def amountBackSpec : ChangeSpec := { name := "amountBack", fn := fun _ => fun
  | [d1, d2] => { results := [.lit (.bool true)], args := [d1, d2] }
  | _ => none }
def amountBackRow : OpenClaim := { program := "ytoojnlkkmppjiaa", sum := "1384ab99f8b690444a14ae07a416f216ae97084cf035bf20b01c2ce49879f52b", func := "novation/novationlaw1.AmountBack", spec := "amountBack", inPlace := ["math/bits.Add64"], apart := false }
def AmountBackSaid : Prop := amountBackRow.holds Try.pinned (OpenSpec.ofChange amountBackSpec)

/-- ITS FALSE NEIGHBOUR: 'it returns false'. Refute it at one input. -/
def amountBackWrong : ChangeSpec := { name := "amountBack", fn := fun _ => fun
  | [d1, d2] => { results := [.lit (.bool false)], args := [d1, d2] }
  | _ => none }
def AmountBackWrongFalsely : Prop := amountBackRow.holds Try.pinned (OpenSpec.ofChange amountBackWrong)

/-- 'novationlaw1.AmountOrder': WHATEVER THE INPUT: true; the input reads as it did. -/
def amountOrderSpec : ChangeSpec := { name := "amountOrder", fn := fun _ => fun
  | [d1, d2, d3] => { results := [.lit (.bool true)], args := [d1, d2, d3] }
  | _ => none }
def amountOrderRow : OpenClaim := { program := "ytoojnlkkmppjiaa", sum := "1384ab99f8b690444a14ae07a416f216ae97084cf035bf20b01c2ce49879f52b", func := "novation/novationlaw1.AmountOrder", spec := "amountOrder", inPlace := ["math/bits.Add64"], apart := false }
def AmountOrderSaid : Prop := amountOrderRow.holds Try.pinned (OpenSpec.ofChange amountOrderSpec)

/-- ITS FALSE NEIGHBOUR: 'it returns false'. Refute it at one input. -/
def amountOrderWrong : ChangeSpec := { name := "amountOrder", fn := fun _ => fun
  | [d1, d2, d3] => { results := [.lit (.bool false)], args := [d1, d2, d3] }
  | _ => none }
def AmountOrderWrongFalsely : Prop := amountOrderRow.holds Try.pinned (OpenSpec.ofChange amountOrderWrong)

/-- 'novationlaw2.WideAll': WHATEVER THE INPUT: true; the input reads as it did. -/
def wideAllSpec : ChangeSpec := { name := "wideAll", fn := fun _ => fun
  | [d1, d2, d3, d4] => { results := [.lit (.bool true)], args := [d1, d2, d3, d4] }
  | _ => none }
def wideAllRow : OpenClaim := { program := "ytoojnlkkmppjiaa", sum := "1384ab99f8b690444a14ae07a416f216ae97084cf035bf20b01c2ce49879f52b", func := "novation/novationlaw2.WideAll", spec := "wideAll", inPlace := ["math/bits.Sub64", "math/bits.Add64"], named := ["math/bits.divideError", "math/bits.overflowError"], apart := false }
def WideAllSaid : Prop := wideAllRow.holds Try.pinned (OpenSpec.ofChange wideAllSpec)

/-- ITS FALSE NEIGHBOUR: 'it returns false'. Refute it at one input. -/
def wideAllWrong : ChangeSpec := { name := "wideAll", fn := fun _ => fun
  | [d1, d2, d3, d4] => { results := [.lit (.bool false)], args := [d1, d2, d3, d4] }
  | _ => none }
def WideAllWrongFalsely : Prop := wideAllRow.holds Try.pinned (OpenSpec.ofChange wideAllWrong)

/-- 'novationlaw2.WideSums': WHATEVER THE INPUT: true; the input reads as it did. -/
def wideSumsSpec : ChangeSpec := { name := "wideSums", fn := fun _ => fun
  | [d] => { results := [.lit (.bool true)], args := [d] }
  | _ => none }
def wideSumsRow : OpenClaim := { program := "ytoojnlkkmppjiaa", sum := "1384ab99f8b690444a14ae07a416f216ae97084cf035bf20b01c2ce49879f52b", func := "novation/novationlaw2.WideSums", spec := "wideSums", inPlace := ["math/bits.Sub64", "math/bits.Add64"], named := ["math/bits.divideError", "math/bits.overflowError"], apart := false }
def WideSumsSaid : Prop := wideSumsRow.holds Try.pinned (OpenSpec.ofChange wideSumsSpec)

/-- ITS FALSE NEIGHBOUR: 'it returns false'. Refute it at one input. -/
def wideSumsWrong : ChangeSpec := { name := "wideSums", fn := fun _ => fun
  | [d] => { results := [.lit (.bool false)], args := [d] }
  | _ => none }
def WideSumsWrongFalsely : Prop := wideSumsRow.holds Try.pinned (OpenSpec.ofChange wideSumsWrong)

/-- 'novationlaw2.WideDivides': WHATEVER THE INPUT: true; the input reads as it did. -/
def wideDividesSpec : ChangeSpec := { name := "wideDivides", fn := fun _ => fun
  | [d1, d2] => { results := [.lit (.bool true)], args := [d1, d2] }
  | _ => none }
def wideDividesRow : OpenClaim := { program := "ytoojnlkkmppjiaa", sum := "1384ab99f8b690444a14ae07a416f216ae97084cf035bf20b01c2ce49879f52b", func := "novation/novationlaw2.WideDivides", spec := "wideDivides", inPlace := ["math/bits.Sub64", "math/bits.Add64"], named := ["math/bits.divideError", "math/bits.overflowError"], apart := false }
def WideDividesSaid : Prop := wideDividesRow.holds Try.pinned (OpenSpec.ofChange wideDividesSpec)

/-- ITS FALSE NEIGHBOUR: 'it returns false'. Refute it at one input. -/
def wideDividesWrong : ChangeSpec := { name := "wideDivides", fn := fun _ => fun
  | [d1, d2] => { results := [.lit (.bool false)], args := [d1, d2] }
  | _ => none }
def WideDividesWrongFalsely : Prop := wideDividesRow.holds Try.pinned (OpenSpec.ofChange wideDividesWrong)

/-- 'novationlaw2.WideBack': WHATEVER THE INPUT: true; the input reads as it did. -/
def wideBackSpec : ChangeSpec := { name := "wideBack", fn := fun _ => fun
  | [d1, d2] => { results := [.lit (.bool true)], args := [d1, d2] }
  | _ => none }
def wideBackRow : OpenClaim := { program := "ytoojnlkkmppjiaa", sum := "1384ab99f8b690444a14ae07a416f216ae97084cf035bf20b01c2ce49879f52b", func := "novation/novationlaw2.WideBack", spec := "wideBack", inPlace := ["math/bits.Sub64", "math/bits.Add64"], named := ["math/bits.divideError", "math/bits.overflowError"], apart := false }
def WideBackSaid : Prop := wideBackRow.holds Try.pinned (OpenSpec.ofChange wideBackSpec)

/-- ITS FALSE NEIGHBOUR: 'it returns false'. Refute it at one input. -/
def wideBackWrong : ChangeSpec := { name := "wideBack", fn := fun _ => fun
  | [d1, d2] => { results := [.lit (.bool false)], args := [d1, d2] }
  | _ => none }
def WideBackWrongFalsely : Prop := wideBackRow.holds Try.pinned (OpenSpec.ofChange wideBackWrong)

/-- 'novationlaw2.WideOrders': WHATEVER THE INPUT: true; the input reads as it did. -/
def wideOrdersSpec : ChangeSpec := { name := "wideOrders", fn := fun _ => fun
  | [d1, d2, d3] => { results := [.lit (.bool true)], args := [d1, d2, d3] }
  | _ => none }
def wideOrdersRow : OpenClaim := { program := "ytoojnlkkmppjiaa", sum := "1384ab99f8b690444a14ae07a416f216ae97084cf035bf20b01c2ce49879f52b", func := "novation/novationlaw2.WideOrders", spec := "wideOrders", inPlace := ["math/bits.Sub64", "math/bits.Add64"], named := ["math/bits.divideError", "math/bits.overflowError"], apart := false }
def WideOrdersSaid : Prop := wideOrdersRow.holds Try.pinned (OpenSpec.ofChange wideOrdersSpec)

/-- ITS FALSE NEIGHBOUR: 'it returns false'. Refute it at one input. -/
def wideOrdersWrong : ChangeSpec := { name := "wideOrders", fn := fun _ => fun
  | [d1, d2, d3] => { results := [.lit (.bool false)], args := [d1, d2, d3] }
  | _ => none }
def WideOrdersWrongFalsely : Prop := wideOrdersRow.holds Try.pinned (OpenSpec.ofChange wideOrdersWrong)

/-- 'novationlaw2.WideRings': WHATEVER THE INPUT: true; the input reads as it did. -/
def wideRingsSpec : ChangeSpec := { name := "wideRings", fn := fun _ => fun
  | [d1, d2, d3] => { results := [.lit (.bool true)], args := [d1, d2, d3] }
  | _ => none }
def wideRingsRow : OpenClaim := { program := "ytoojnlkkmppjiaa", sum := "1384ab99f8b690444a14ae07a416f216ae97084cf035bf20b01c2ce49879f52b", func := "novation/novationlaw2.WideRings", spec := "wideRings", inPlace := ["math/bits.Sub64", "math/bits.Add64"], named := ["math/bits.divideError", "math/bits.overflowError"], apart := false }
def WideRingsSaid : Prop := wideRingsRow.holds Try.pinned (OpenSpec.ofChange wideRingsSpec)

/-- ITS FALSE NEIGHBOUR: 'it returns false'. Refute it at one input. -/
def wideRingsWrong : ChangeSpec := { name := "wideRings", fn := fun _ => fun
  | [d1, d2, d3] => { results := [.lit (.bool false)], args := [d1, d2, d3] }
  | _ => none }
def WideRingsWrongFalsely : Prop := wideRingsRow.holds Try.pinned (OpenSpec.ofChange wideRingsWrong)

/- THE SECOND FORM. 'bulk': how many values and letters a reading holds, each counted each time it is reached (what is shared counts as often as it is met; a slice's spare places count too). A statement '..UptoSaid' is the law's where the arguments, and the package variables that the reading takes, are together of bulk at most 1048576: NARROWER than '..Said'. Prove '..Said' where nothing that the law and all that it calls make is longer than what came in: it says more and counts as full. Else prove '..UptoSaid'. A law counts once. -/
mutual
def uptoBulk {H : Type} : DataW H → Nat
  | .lit (.string bytes) => bytes.length + 1
  | .lit _ => 1
  | .nil => 1
  | .ptr d => uptoBulk d + 1
  | .slice elems spare => uptoBulkAll elems + uptoBulkAll spare + 1
  | .agg parts => uptoBulkAll parts + 1
  | .iface _ d => uptoBulk d + 1
  | .map entries => uptoBulkEntries entries + 1
  | .held _ => 1
def uptoBulkAll {H : Type} : List (DataW H) → Nat
  | [] => 0
  | d :: r => uptoBulk d + uptoBulkAll r
def uptoBulkEntries {H : Type} : List (Lit × DataW H) → Nat
  | [] => 0
  | x :: r => uptoBulkEntry x + uptoBulkEntries r
def uptoBulkEntry {H : Type} : Lit × DataW H → Nat
  | (.string bytes, d) => bytes.length + uptoBulk d + 1
  | (_, d) => uptoBulk d + 1
 end
def uptoSmall : (H : Type) → List (DataW H) → Bool := fun _ ds => decide (uptoBulkAll ds ≤ 1048576)
def OpenSpec.upto (s : _root_.Go.ChangeSpec) : _root_.Go.OpenSpec := { _root_.Go.OpenSpec.ofChange s with cond := some uptoSmall }

/-- 'novationlaw1.AmountAll', WHERE WHAT IT READS IS OF BULK AT MOST 1048576: true; the input reads as it did. -/
def amountAllUptoRow : OpenClaim := { program := "ytoojnlkkmppjiaa", sum := "1384ab99f8b690444a14ae07a416f216ae97084cf035bf20b01c2ce49879f52b", func := "novation/novationlaw1.AmountAll", spec := "amountAll", inPlace := ["math/bits.Add64"], apart := false, narrowed := true }
def AmountAllUptoSaid : Prop := amountAllUptoRow.holds Try.pinned (OpenSpec.upto amountAllSpec)

/-- 'novationlaw1.AmountSums', WHERE WHAT IT READS IS OF BULK AT MOST 1048576: true; the input reads as it did. -/
def amountSumsUptoRow : OpenClaim := { program := "ytoojnlkkmppjiaa", sum := "1384ab99f8b690444a14ae07a416f216ae97084cf035bf20b01c2ce49879f52b", func := "novation/novationlaw1.AmountSums", spec := "amountSums", inPlace := ["math/bits.Add64"], apart := false, narrowed := true }
def AmountSumsUptoSaid : Prop := amountSumsUptoRow.holds Try.pinned (OpenSpec.upto amountSumsSpec)

/-- 'novationlaw1.AmountBack', WHERE WHAT IT READS IS OF BULK AT MOST 1048576: true; the input reads as it did. -/
def amountBackUptoRow : OpenClaim := { program := "ytoojnlkkmppjiaa", sum := "1384ab99f8b690444a14ae07a416f216ae97084cf035bf20b01c2ce49879f52b", func := "novation/novationlaw1.AmountBack", spec := "amountBack", inPlace := ["math/bits.Add64"], apart := false, narrowed := true }
def AmountBackUptoSaid : Prop := amountBackUptoRow.holds Try.pinned (OpenSpec.upto amountBackSpec)

/-- 'novationlaw1.AmountOrder', WHERE WHAT IT READS IS OF BULK AT MOST 1048576: true; the input reads as it did. -/
def amountOrderUptoRow : OpenClaim := { program := "ytoojnlkkmppjiaa", sum := "1384ab99f8b690444a14ae07a416f216ae97084cf035bf20b01c2ce49879f52b", func := "novation/novationlaw1.AmountOrder", spec := "amountOrder", inPlace := ["math/bits.Add64"], apart := false, narrowed := true }
def AmountOrderUptoSaid : Prop := amountOrderUptoRow.holds Try.pinned (OpenSpec.upto amountOrderSpec)

/-- 'novationlaw2.WideAll', WHERE WHAT IT READS IS OF BULK AT MOST 1048576: true; the input reads as it did. -/
def wideAllUptoRow : OpenClaim := { program := "ytoojnlkkmppjiaa", sum := "1384ab99f8b690444a14ae07a416f216ae97084cf035bf20b01c2ce49879f52b", func := "novation/novationlaw2.WideAll", spec := "wideAll", inPlace := ["math/bits.Sub64", "math/bits.Add64"], named := ["math/bits.divideError", "math/bits.overflowError"], apart := false, narrowed := true }
def WideAllUptoSaid : Prop := wideAllUptoRow.holds Try.pinned (OpenSpec.upto wideAllSpec)

/-- 'novationlaw2.WideSums', WHERE WHAT IT READS IS OF BULK AT MOST 1048576: true; the input reads as it did. -/
def wideSumsUptoRow : OpenClaim := { program := "ytoojnlkkmppjiaa", sum := "1384ab99f8b690444a14ae07a416f216ae97084cf035bf20b01c2ce49879f52b", func := "novation/novationlaw2.WideSums", spec := "wideSums", inPlace := ["math/bits.Sub64", "math/bits.Add64"], named := ["math/bits.divideError", "math/bits.overflowError"], apart := false, narrowed := true }
def WideSumsUptoSaid : Prop := wideSumsUptoRow.holds Try.pinned (OpenSpec.upto wideSumsSpec)

/-- 'novationlaw2.WideDivides', WHERE WHAT IT READS IS OF BULK AT MOST 1048576: true; the input reads as it did. -/
def wideDividesUptoRow : OpenClaim := { program := "ytoojnlkkmppjiaa", sum := "1384ab99f8b690444a14ae07a416f216ae97084cf035bf20b01c2ce49879f52b", func := "novation/novationlaw2.WideDivides", spec := "wideDivides", inPlace := ["math/bits.Sub64", "math/bits.Add64"], named := ["math/bits.divideError", "math/bits.overflowError"], apart := false, narrowed := true }
def WideDividesUptoSaid : Prop := wideDividesUptoRow.holds Try.pinned (OpenSpec.upto wideDividesSpec)

/-- 'novationlaw2.WideBack', WHERE WHAT IT READS IS OF BULK AT MOST 1048576: true; the input reads as it did. -/
def wideBackUptoRow : OpenClaim := { program := "ytoojnlkkmppjiaa", sum := "1384ab99f8b690444a14ae07a416f216ae97084cf035bf20b01c2ce49879f52b", func := "novation/novationlaw2.WideBack", spec := "wideBack", inPlace := ["math/bits.Sub64", "math/bits.Add64"], named := ["math/bits.divideError", "math/bits.overflowError"], apart := false, narrowed := true }
def WideBackUptoSaid : Prop := wideBackUptoRow.holds Try.pinned (OpenSpec.upto wideBackSpec)

/-- 'novationlaw2.WideOrders', WHERE WHAT IT READS IS OF BULK AT MOST 1048576: true; the input reads as it did. -/
def wideOrdersUptoRow : OpenClaim := { program := "ytoojnlkkmppjiaa", sum := "1384ab99f8b690444a14ae07a416f216ae97084cf035bf20b01c2ce49879f52b", func := "novation/novationlaw2.WideOrders", spec := "wideOrders", inPlace := ["math/bits.Sub64", "math/bits.Add64"], named := ["math/bits.divideError", "math/bits.overflowError"], apart := false, narrowed := true }
def WideOrdersUptoSaid : Prop := wideOrdersUptoRow.holds Try.pinned (OpenSpec.upto wideOrdersSpec)

/-- 'novationlaw2.WideRings', WHERE WHAT IT READS IS OF BULK AT MOST 1048576: true; the input reads as it did. -/
def wideRingsUptoRow : OpenClaim := { program := "ytoojnlkkmppjiaa", sum := "1384ab99f8b690444a14ae07a416f216ae97084cf035bf20b01c2ce49879f52b", func := "novation/novationlaw2.WideRings", spec := "wideRings", inPlace := ["math/bits.Sub64", "math/bits.Add64"], named := ["math/bits.divideError", "math/bits.overflowError"], apart := false, narrowed := true }
def WideRingsUptoSaid : Prop := wideRingsUptoRow.holds Try.pinned (OpenSpec.upto wideRingsSpec)

end Rows
end Go.Proofs.Ytoojnlkkmppjiaa
