/-
  No cell of these rows narrows 'for every input' (looked for: loops, veiled, ifaces, maps, wideKeys, modest, calm, conditions, laid).
  DERIVED. THE GIVEN ROWS OF THIS SEAT. 3 by the template 'for every input the law returns true; each argument reads behind the call as it read before'; 0 by the template 'total and deterministic' (their statements: YtjmoeebaehjmnaaGreatTotals.lean).
  GIVEN WITH THE SEED: the statements are not yours to turn. If you find one false, say at which input.
  Laid BY PROGRAM, IN A SANDBOX (cutbox-rows.mjs): the forced cells as the released guide's own fill.sh prints them over the translation bb5cc87abf494140… (all of the seat's roots in one cut). By AI agents, Wed Nov 11 2026. No macro, syntax, notation, axiom, sorry.
-/
import Derived.Test.YtjmoeebaehjmnaaGreatChecked
import GoSem.Claim
import GoSem.ClaimJoined
import GoSem.ClaimMapViews
import Derived.JoinedTies
import Derived.KernelRfl
namespace Go.Proofs.YtjmoeebaehjmnaaGreat
/- THE CELL 'sum', in the pinned program and in every row, IS THE sha256 OF THE DUMP (.gsa) THAT YtjmoeebaehjmnaaGreatProg.lean LOADS. Nothing in Lean hashes anything: it is a label: what it is worth is what the hold of that sum in a sandbox is worth. -/
noncomputable def Tryz.pinned : Pinned := { name := "ytjmoeebaehjmnaagreat", sum := "bb5cc87abf4941409579f077684af0e53f5d3f9cc1af55bf298f285ee5e57d2e", checked := Tryz.checked }
namespace Rows
def none {H : Type} : Left H := { results := [], args := [] }

/-- 'novationlaw20.PortAll': WHATEVER THE INPUT: true; the input reads as it did. -/
def portAllSpec : ChangeSpec := { name := "portAll", fn := fun _ => fun
  | [d1, d2, d3, d4, d5] => { results := [.lit (.bool true)], args := [d1, d2, d3, d4, d5] }
  | _ => none }
def portAllRow : OpenClaim := { program := "ytjmoeebaehjmnaagreat", sum := "bb5cc87abf4941409579f077684af0e53f5d3f9cc1af55bf298f285ee5e57d2e", func := "novation/novationlaw20.PortAll", spec := "portAll", inPlace := ["math/bits.Add64", "math/bits.Sub64"], unfollowed := true, recurses := true, apart := false }
def PortAllSaid : Prop := portAllRow.holds Tryz.pinned (OpenSpec.ofChange portAllSpec)

/-- ITS FALSE NEIGHBOUR: 'it returns false'. Refute it at one input. -/
def portAllWrong : ChangeSpec := { name := "portAll", fn := fun _ => fun
  | [d1, d2, d3, d4, d5] => { results := [.lit (.bool false)], args := [d1, d2, d3, d4, d5] }
  | _ => none }
def PortAllWrongFalsely : Prop := portAllRow.holds Tryz.pinned (OpenSpec.ofChange portAllWrong)

/-- 'novationlaw32.AuditAll': WHATEVER THE INPUT: true; the input reads as it did. -/
def auditAllSpec : ChangeSpec := { name := "auditAll", fn := fun _ => fun
  | [d1, d2] => { results := [.lit (.bool true)], args := [d1, d2] }
  | _ => none }
def auditAllRow : OpenClaim := { program := "ytjmoeebaehjmnaagreat", sum := "bb5cc87abf4941409579f077684af0e53f5d3f9cc1af55bf298f285ee5e57d2e", func := "novation/novationlaw32.AuditAll", spec := "auditAll", inPlace := ["math/bits.Add64"], unfollowed := true, recurses := true, apart := false }
def AuditAllSaid : Prop := auditAllRow.holds Tryz.pinned (OpenSpec.ofChange auditAllSpec)

/-- ITS FALSE NEIGHBOUR: 'it returns false'. Refute it at one input. -/
def auditAllWrong : ChangeSpec := { name := "auditAll", fn := fun _ => fun
  | [d1, d2] => { results := [.lit (.bool false)], args := [d1, d2] }
  | _ => none }
def AuditAllWrongFalsely : Prop := auditAllRow.holds Tryz.pinned (OpenSpec.ofChange auditAllWrong)

/-- 'novationlaw24.BidAll': WHATEVER THE INPUT: true; the input reads as it did. -/
def bidAllSpec : ChangeSpec := { name := "bidAll", fn := fun _ => fun
  | [d1, d2, d3, d4, d5, d6] => { results := [.lit (.bool true)], args := [d1, d2, d3, d4, d5, d6] }
  | _ => none }
def bidAllRow : OpenClaim := { program := "ytjmoeebaehjmnaagreat", sum := "bb5cc87abf4941409579f077684af0e53f5d3f9cc1af55bf298f285ee5e57d2e", func := "novation/novationlaw24.BidAll", spec := "bidAll", inPlace := ["math/bits.Add64", "math/bits.Sub64"], unfollowed := true, recurses := true, apart := false }
def BidAllSaid : Prop := bidAllRow.holds Tryz.pinned (OpenSpec.ofChange bidAllSpec)

/-- ITS FALSE NEIGHBOUR: 'it returns false'. Refute it at one input. -/
def bidAllWrong : ChangeSpec := { name := "bidAll", fn := fun _ => fun
  | [d1, d2, d3, d4, d5, d6] => { results := [.lit (.bool false)], args := [d1, d2, d3, d4, d5, d6] }
  | _ => none }
def BidAllWrongFalsely : Prop := bidAllRow.holds Tryz.pinned (OpenSpec.ofChange bidAllWrong)

/- THE SECOND FORM. 'bulk': how many values and letters a reading holds, each counted each time it is reached (what is shared counts as often as it is met; a slice's spare places count too). A statement '..UptoSaid' is the law's where the arguments, and the package variables that the reading takes, are together of bulk at most 1048576: NARROWER than '..Said'. Prove '..Said' where nothing that the law and all that it calls make is longer than what came in: it says more and counts as full. Else prove '..UptoSaid'. A law counts once. -/
mutual
def uptoBulk {H : Type} : DataW H → Nat
  | .lit (.string bytes) => bytes.length + 1
  | .lit _ => 1
  | .nil => 1
  | .ptr d => uptoBulk d + 1
  | .slice elems spare => uptoBulkAll elems + uptoBulkAll spare + 1
  | .agg parts => uptoBulkAll parts + 1
  | .iface _ d => uptoBulk d + 1
  | .map entries => uptoBulkEntries entries + 1
  | .held _ => 1
def uptoBulkAll {H : Type} : List (DataW H) → Nat
  | [] => 0
  | d :: r => uptoBulk d + uptoBulkAll r
def uptoBulkEntries {H : Type} : List (Lit × DataW H) → Nat
  | [] => 0
  | x :: r => uptoBulkEntry x + uptoBulkEntries r
def uptoBulkEntry {H : Type} : Lit × DataW H → Nat
  | (.string bytes, d) => bytes.length + uptoBulk d + 1
  | (_, d) => uptoBulk d + 1
 end
def uptoSmall : (H : Type) → List (DataW H) → Bool := fun _ ds => decide (uptoBulkAll ds ≤ 1048576)
def OpenSpec.upto (s : _root_.Go.ChangeSpec) : _root_.Go.OpenSpec := { _root_.Go.OpenSpec.ofChange s with cond := some uptoSmall }

/-- 'novationlaw20.PortAll', WHERE WHAT IT READS IS OF BULK AT MOST 1048576: true; the input reads as it did. -/
def portAllUptoRow : OpenClaim := { program := "ytjmoeebaehjmnaagreat", sum := "bb5cc87abf4941409579f077684af0e53f5d3f9cc1af55bf298f285ee5e57d2e", func := "novation/novationlaw20.PortAll", spec := "portAll", inPlace := ["math/bits.Add64", "math/bits.Sub64"], unfollowed := true, recurses := true, apart := false, narrowed := true }
def PortAllUptoSaid : Prop := portAllUptoRow.holds Tryz.pinned (OpenSpec.upto portAllSpec)

/-- 'novationlaw32.AuditAll', WHERE WHAT IT READS IS OF BULK AT MOST 1048576: true; the input reads as it did. -/
def auditAllUptoRow : OpenClaim := { program := "ytjmoeebaehjmnaagreat", sum := "bb5cc87abf4941409579f077684af0e53f5d3f9cc1af55bf298f285ee5e57d2e", func := "novation/novationlaw32.AuditAll", spec := "auditAll", inPlace := ["math/bits.Add64"], unfollowed := true, recurses := true, apart := false, narrowed := true }
def AuditAllUptoSaid : Prop := auditAllUptoRow.holds Tryz.pinned (OpenSpec.upto auditAllSpec)

/-- 'novationlaw24.BidAll', WHERE WHAT IT READS IS OF BULK AT MOST 1048576: true; the input reads as it did. -/
def bidAllUptoRow : OpenClaim := { program := "ytjmoeebaehjmnaagreat", sum := "bb5cc87abf4941409579f077684af0e53f5d3f9cc1af55bf298f285ee5e57d2e", func := "novation/novationlaw24.BidAll", spec := "bidAll", inPlace := ["math/bits.Add64", "math/bits.Sub64"], unfollowed := true, recurses := true, apart := false, narrowed := true }
def BidAllUptoSaid : Prop := bidAllUptoRow.holds Tryz.pinned (OpenSpec.upto bidAllSpec)

end Rows
end Go.Proofs.YtjmoeebaehjmnaaGreat
