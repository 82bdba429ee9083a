/-
  NARROWER THAN 'FOR EVERY INPUT', by the rows' own cells (each row's printed sentence says how): HydrostaticFinds: laid · HydrostaticEnds: laid · HydrostaticWider: laid · HydrostaticShifted: laid.
  DERIVED. THE GIVEN ROWS OF THIS SEAT. 4 by the template 'for every input the law returns true; each argument reads behind the call as it read before'; 0 by the template 'total and deterministic' (their statements: YtboknhifjhjkdaaDoorTotals.lean).
  GIVEN WITH THE SEED: the statements are not yours to turn. If you find one false, say at which input.
  Laid BY PROGRAM, IN A SANDBOX (cutbox-rows.mjs): the forced cells as the released guide's own fill.sh prints them over the translation c92f0b669437c428… (all of the seat's roots in one cut). By AI agents, Wed Nov 11 2026. No macro, syntax, notation, axiom, sorry.
-/
import Derived.Test.YtboknhifjhjkdaaDoorChecked
import GoSem.Claim
import GoSem.ClaimJoined
import GoSem.ClaimMapViews
import Derived.JoinedTies
import Derived.KernelRfl
namespace Go.Proofs.YtboknhifjhjkdaaDoor
/- THE CELL 'sum', in the pinned program and in every row, IS THE sha256 OF THE DUMP (.gsa) THAT YtboknhifjhjkdaaDoorProg.lean LOADS. Nothing in Lean hashes anything: it is a label: what it is worth is what the hold of that sum in a sandbox is worth. -/
noncomputable def Tryd.pinned : Pinned := { name := "ytboknhifjhjkdaadoor", sum := "c92f0b669437c428e4bdda670dfd49707006bd6bf95d3e159883023b572b2abd", checked := Tryd.checked }
namespace Rows
def none {H : Type} : Left H := { results := [], args := [] }

/- WHAT THE LISTED PACKAGE-LEVEL VARIABLES READ AS WHEN THE CALL BEGINS. Each datum BY PROGRAM (the guide's laid-datum.mjs) off the statement by which the dump's own 'gosem.cut.vars' lays the variable. In a bare row this is a premise. The card (YtboknhifjhjkdaaDoorCards.lean) ties it to the program's text. -/
def laid_synoptic_element_bounds {H : Type} : DataW H := .agg [.agg [.lit (.int .i64 8000), .lit (.int .i64 11000)], .agg [.lit (.int .i64 1800), .lit (.int .i64 3300)], .agg [.lit (.int .i64 1800), .lit (.int .i64 3300)], .agg [.lit (.int .i64 (-1000)), .lit (.int .i64 1000)], .agg [.lit (.int .i64 (-1000)), .lit (.int .i64 1000)], .agg [.lit (.int .i64 900), .lit (.int .i64 1700)], .agg [.lit (.int .i64 2000), .lit (.int .i64 3200)], .agg [.lit (.int .i64 2400), .lit (.int .i64 3400)], .agg [.lit (.int .i64 2000), .lit (.int .i64 3000)], .agg [.lit (.int .i64 4400), .lit (.int .i64 6200)], .agg [.lit (.int .i64 2000), .lit (.int .i64 2900)]]

/-- 'synopticlaw17.HydrostaticFinds': WHATEVER THE INPUT: true; the input reads as it did. -/
def hydrostaticFindsSpec : ChangeSpec := { name := "hydrostaticFinds", fn := fun _ => fun
  | [d1, d2, d3] => { results := [.lit (.bool true)], args := [d1, d2, d3] }
  | _ => none }
def hydrostaticFindsRow : OpenClaim := { program := "ytboknhifjhjkdaadoor", sum := "c92f0b669437c428e4bdda670dfd49707006bd6bf95d3e159883023b572b2abd", func := "synoptic/synopticlaw17.HydrostaticFinds", spec := "hydrostaticFinds", unfollowed := true, recurses := true, named := ["synoptic/element.bounds"], apart := false, laid := [("synoptic/element.bounds", laid_synoptic_element_bounds)] }
def HydrostaticFindsSaid : Prop := hydrostaticFindsRow.holds Tryd.pinned (OpenSpec.ofChange hydrostaticFindsSpec)

/-- ITS FALSE NEIGHBOUR: 'it returns false'. Refute it at one input. -/
def hydrostaticFindsWrong : ChangeSpec := { name := "hydrostaticFinds", fn := fun _ => fun
  | [d1, d2, d3] => { results := [.lit (.bool false)], args := [d1, d2, d3] }
  | _ => none }
def HydrostaticFindsWrongFalsely : Prop := hydrostaticFindsRow.holds Tryd.pinned (OpenSpec.ofChange hydrostaticFindsWrong)

/-- 'synopticlaw17.HydrostaticEnds': WHATEVER THE INPUT: true; the input reads as it did. -/
def hydrostaticEndsSpec : ChangeSpec := { name := "hydrostaticEnds", fn := fun _ => fun
  | [d1, d2, d3] => { results := [.lit (.bool true)], args := [d1, d2, d3] }
  | _ => none }
def hydrostaticEndsRow : OpenClaim := { program := "ytboknhifjhjkdaadoor", sum := "c92f0b669437c428e4bdda670dfd49707006bd6bf95d3e159883023b572b2abd", func := "synoptic/synopticlaw17.HydrostaticEnds", spec := "hydrostaticEnds", unfollowed := true, recurses := true, named := ["synoptic/element.bounds"], apart := false, laid := [("synoptic/element.bounds", laid_synoptic_element_bounds)] }
def HydrostaticEndsSaid : Prop := hydrostaticEndsRow.holds Tryd.pinned (OpenSpec.ofChange hydrostaticEndsSpec)

/-- ITS FALSE NEIGHBOUR: 'it returns false'. Refute it at one input. -/
def hydrostaticEndsWrong : ChangeSpec := { name := "hydrostaticEnds", fn := fun _ => fun
  | [d1, d2, d3] => { results := [.lit (.bool false)], args := [d1, d2, d3] }
  | _ => none }
def HydrostaticEndsWrongFalsely : Prop := hydrostaticEndsRow.holds Tryd.pinned (OpenSpec.ofChange hydrostaticEndsWrong)

/-- 'synopticlaw17.HydrostaticWider': WHATEVER THE INPUT: true; the input reads as it did. -/
def hydrostaticWiderSpec : ChangeSpec := { name := "hydrostaticWider", fn := fun _ => fun
  | [d] => { results := [.lit (.bool true)], args := [d] }
  | _ => none }
def hydrostaticWiderRow : OpenClaim := { program := "ytboknhifjhjkdaadoor", sum := "c92f0b669437c428e4bdda670dfd49707006bd6bf95d3e159883023b572b2abd", func := "synoptic/synopticlaw17.HydrostaticWider", spec := "hydrostaticWider", unfollowed := true, recurses := true, named := ["synoptic/element.bounds"], apart := false, laid := [("synoptic/element.bounds", laid_synoptic_element_bounds)] }
def HydrostaticWiderSaid : Prop := hydrostaticWiderRow.holds Tryd.pinned (OpenSpec.ofChange hydrostaticWiderSpec)

/-- ITS FALSE NEIGHBOUR: 'it returns false'. Refute it at one input. -/
def hydrostaticWiderWrong : ChangeSpec := { name := "hydrostaticWider", fn := fun _ => fun
  | [d] => { results := [.lit (.bool false)], args := [d] }
  | _ => none }
def HydrostaticWiderWrongFalsely : Prop := hydrostaticWiderRow.holds Tryd.pinned (OpenSpec.ofChange hydrostaticWiderWrong)

/-- 'synopticlaw17.HydrostaticShifted': WHATEVER THE INPUT: true; the input reads as it did. -/
def hydrostaticShiftedSpec : ChangeSpec := { name := "hydrostaticShifted", fn := fun _ => fun
  | [d1, d2] => { results := [.lit (.bool true)], args := [d1, d2] }
  | _ => none }
def hydrostaticShiftedRow : OpenClaim := { program := "ytboknhifjhjkdaadoor", sum := "c92f0b669437c428e4bdda670dfd49707006bd6bf95d3e159883023b572b2abd", func := "synoptic/synopticlaw17.HydrostaticShifted", spec := "hydrostaticShifted", unfollowed := true, recurses := true, named := ["synoptic/element.bounds"], apart := false, laid := [("synoptic/element.bounds", laid_synoptic_element_bounds)] }
def HydrostaticShiftedSaid : Prop := hydrostaticShiftedRow.holds Tryd.pinned (OpenSpec.ofChange hydrostaticShiftedSpec)

/-- ITS FALSE NEIGHBOUR: 'it returns false'. Refute it at one input. -/
def hydrostaticShiftedWrong : ChangeSpec := { name := "hydrostaticShifted", fn := fun _ => fun
  | [d1, d2] => { results := [.lit (.bool false)], args := [d1, d2] }
  | _ => none }
def HydrostaticShiftedWrongFalsely : Prop := hydrostaticShiftedRow.holds Tryd.pinned (OpenSpec.ofChange hydrostaticShiftedWrong)

/- THE SECOND FORM. 'bulk': how many values and letters a reading holds, each counted each time it is reached (what is shared counts as often as it is met; a slice's spare places count too). A statement '..UptoSaid' is the law's where the arguments, and the package variables that the reading takes, are together of bulk at most 1048576: NARROWER than '..Said'. Prove '..Said' where nothing that the law and all that it calls make is longer than what came in: it says more and counts as full. Else prove '..UptoSaid'. A law counts once. -/
mutual
def uptoBulk {H : Type} : DataW H → Nat
  | .lit (.string bytes) => bytes.length + 1
  | .lit _ => 1
  | .nil => 1
  | .ptr d => uptoBulk d + 1
  | .slice elems spare => uptoBulkAll elems + uptoBulkAll spare + 1
  | .agg parts => uptoBulkAll parts + 1
  | .iface _ d => uptoBulk d + 1
  | .map entries => uptoBulkEntries entries + 1
  | .held _ => 1
def uptoBulkAll {H : Type} : List (DataW H) → Nat
  | [] => 0
  | d :: r => uptoBulk d + uptoBulkAll r
def uptoBulkEntries {H : Type} : List (Lit × DataW H) → Nat
  | [] => 0
  | x :: r => uptoBulkEntry x + uptoBulkEntries r
def uptoBulkEntry {H : Type} : Lit × DataW H → Nat
  | (.string bytes, d) => bytes.length + uptoBulk d + 1
  | (_, d) => uptoBulk d + 1
 end
def uptoSmall : (H : Type) → List (DataW H) → Bool := fun _ ds => decide (uptoBulkAll ds ≤ 1048576)
def OpenSpec.upto (s : _root_.Go.ChangeSpec) : _root_.Go.OpenSpec := { _root_.Go.OpenSpec.ofChange s with cond := some uptoSmall }

/-- 'synopticlaw17.HydrostaticFinds', WHERE WHAT IT READS IS OF BULK AT MOST 1048576: true; the input reads as it did. -/
def hydrostaticFindsUptoRow : OpenClaim := { program := "ytboknhifjhjkdaadoor", sum := "c92f0b669437c428e4bdda670dfd49707006bd6bf95d3e159883023b572b2abd", func := "synoptic/synopticlaw17.HydrostaticFinds", spec := "hydrostaticFinds", unfollowed := true, recurses := true, named := ["synoptic/element.bounds"], apart := false, laid := [("synoptic/element.bounds", laid_synoptic_element_bounds)], narrowed := true }
def HydrostaticFindsUptoSaid : Prop := hydrostaticFindsUptoRow.holds Tryd.pinned (OpenSpec.upto hydrostaticFindsSpec)

/-- 'synopticlaw17.HydrostaticEnds', WHERE WHAT IT READS IS OF BULK AT MOST 1048576: true; the input reads as it did. -/
def hydrostaticEndsUptoRow : OpenClaim := { program := "ytboknhifjhjkdaadoor", sum := "c92f0b669437c428e4bdda670dfd49707006bd6bf95d3e159883023b572b2abd", func := "synoptic/synopticlaw17.HydrostaticEnds", spec := "hydrostaticEnds", unfollowed := true, recurses := true, named := ["synoptic/element.bounds"], apart := false, laid := [("synoptic/element.bounds", laid_synoptic_element_bounds)], narrowed := true }
def HydrostaticEndsUptoSaid : Prop := hydrostaticEndsUptoRow.holds Tryd.pinned (OpenSpec.upto hydrostaticEndsSpec)

/-- 'synopticlaw17.HydrostaticWider', WHERE WHAT IT READS IS OF BULK AT MOST 1048576: true; the input reads as it did. -/
def hydrostaticWiderUptoRow : OpenClaim := { program := "ytboknhifjhjkdaadoor", sum := "c92f0b669437c428e4bdda670dfd49707006bd6bf95d3e159883023b572b2abd", func := "synoptic/synopticlaw17.HydrostaticWider", spec := "hydrostaticWider", unfollowed := true, recurses := true, named := ["synoptic/element.bounds"], apart := false, laid := [("synoptic/element.bounds", laid_synoptic_element_bounds)], narrowed := true }
def HydrostaticWiderUptoSaid : Prop := hydrostaticWiderUptoRow.holds Tryd.pinned (OpenSpec.upto hydrostaticWiderSpec)

/-- 'synopticlaw17.HydrostaticShifted', WHERE WHAT IT READS IS OF BULK AT MOST 1048576: true; the input reads as it did. -/
def hydrostaticShiftedUptoRow : OpenClaim := { program := "ytboknhifjhjkdaadoor", sum := "c92f0b669437c428e4bdda670dfd49707006bd6bf95d3e159883023b572b2abd", func := "synoptic/synopticlaw17.HydrostaticShifted", spec := "hydrostaticShifted", unfollowed := true, recurses := true, named := ["synoptic/element.bounds"], apart := false, laid := [("synoptic/element.bounds", laid_synoptic_element_bounds)], narrowed := true }
def HydrostaticShiftedUptoSaid : Prop := hydrostaticShiftedUptoRow.holds Tryd.pinned (OpenSpec.upto hydrostaticShiftedSpec)

end Rows
end Go.Proofs.YtboknhifjhjkdaaDoor
