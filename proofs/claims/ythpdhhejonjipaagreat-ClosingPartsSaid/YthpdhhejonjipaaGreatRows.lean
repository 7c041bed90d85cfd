/-
  No cell of these rows narrows 'for every input' (looked for: loops, veiled, ifaces, maps, wideKeys, modest, calm, conditions, laid).
  DERIVED. THE GIVEN ROWS OF THIS SEAT. 3 by the template 'for every input the law returns true; each argument reads behind the call as it read before'; 0 by the template 'total and deterministic' (their statements: YthpdhhejonjipaaGreatTotals.lean).
  GIVEN WITH THE SEED: the statements are not yours to turn. If you find one false, say at which input.
  Laid BY PROGRAM, IN A SANDBOX (cutbox-rows.mjs): the forced cells as the released guide's own fill.sh prints them over the translation 9be49c1e60d0c81e… (all of the seat's roots in one cut). By AI agents, Wed Nov 11 2026. No macro, syntax, notation, axiom, sorry.
-/
import Derived.Test.YthpdhhejonjipaaGreatChecked
import GoSem.Claim
import GoSem.ClaimJoined
import GoSem.ClaimMapViews
import Derived.JoinedTies
import Derived.KernelRfl
namespace Go.Proofs.YthpdhhejonjipaaGreat
/- THE CELL 'sum', in the pinned program and in every row, IS THE sha256 OF THE DUMP (.gsa) THAT YthpdhhejonjipaaGreatProg.lean LOADS. Nothing in Lean hashes anything: it is a label: what it is worth is what the hold of that sum in a sandbox is worth. -/
noncomputable def Tryz.pinned : Pinned := { name := "ythpdhhejonjipaagreat", sum := "9be49c1e60d0c81ed16780c1561e6e17e0c6186de91bf6671f812c73648969a6", checked := Tryz.checked }
namespace Rows
def none {H : Type} : Left H := { results := [], args := [] }

/-- 'bordereaulaw30.ClosingMixes': WHATEVER THE INPUT: true; the input reads as it did. -/
def closingMixesSpec : ChangeSpec := { name := "closingMixes", fn := fun _ => fun
  | [d1, d2] => { results := [.lit (.bool true)], args := [d1, d2] }
  | _ => none }
def closingMixesRow : OpenClaim := { program := "ythpdhhejonjipaagreat", sum := "9be49c1e60d0c81ed16780c1561e6e17e0c6186de91bf6671f812c73648969a6", func := "bordereau/bordereaulaw30.ClosingMixes", spec := "closingMixes", unfollowed := true, recurses := true, named := ["math/bits.divideError", "math/bits.overflowError"], apart := false }
def ClosingMixesSaid : Prop := closingMixesRow.holds Tryz.pinned (OpenSpec.ofChange closingMixesSpec)

/-- ITS FALSE NEIGHBOUR: 'it returns false'. Refute it at one input. -/
def closingMixesWrong : ChangeSpec := { name := "closingMixes", fn := fun _ => fun
  | [d1, d2] => { results := [.lit (.bool false)], args := [d1, d2] }
  | _ => none }
def ClosingMixesWrongFalsely : Prop := closingMixesRow.holds Tryz.pinned (OpenSpec.ofChange closingMixesWrong)

/-- 'bordereaulaw30.ClosingOther': WHATEVER THE INPUT: true; the input reads as it did. -/
def closingOtherSpec : ChangeSpec := { name := "closingOther", fn := fun _ => fun
  | [d1, d2, d3, d4, d5] => { results := [.lit (.bool true)], args := [d1, d2, d3, d4, d5] }
  | _ => none }
def closingOtherRow : OpenClaim := { program := "ythpdhhejonjipaagreat", sum := "9be49c1e60d0c81ed16780c1561e6e17e0c6186de91bf6671f812c73648969a6", func := "bordereau/bordereaulaw30.ClosingOther", spec := "closingOther", unfollowed := true, recurses := true, named := ["math/bits.divideError", "math/bits.overflowError"], apart := false }
def ClosingOtherSaid : Prop := closingOtherRow.holds Tryz.pinned (OpenSpec.ofChange closingOtherSpec)

/-- ITS FALSE NEIGHBOUR: 'it returns false'. Refute it at one input. -/
def closingOtherWrong : ChangeSpec := { name := "closingOther", fn := fun _ => fun
  | [d1, d2, d3, d4, d5] => { results := [.lit (.bool false)], args := [d1, d2, d3, d4, d5] }
  | _ => none }
def ClosingOtherWrongFalsely : Prop := closingOtherRow.holds Tryz.pinned (OpenSpec.ofChange closingOtherWrong)

/-- 'bordereaulaw30.ClosingParts': WHATEVER THE INPUT: true; the input reads as it did. -/
def closingPartsSpec : ChangeSpec := { name := "closingParts", fn := fun _ => fun
  | [d1, d2, d3] => { results := [.lit (.bool true)], args := [d1, d2, d3] }
  | _ => none }
def closingPartsRow : OpenClaim := { program := "ythpdhhejonjipaagreat", sum := "9be49c1e60d0c81ed16780c1561e6e17e0c6186de91bf6671f812c73648969a6", func := "bordereau/bordereaulaw30.ClosingParts", spec := "closingParts", unfollowed := true, recurses := true, named := ["math/bits.divideError", "math/bits.overflowError"], apart := false }
def ClosingPartsSaid : Prop := closingPartsRow.holds Tryz.pinned (OpenSpec.ofChange closingPartsSpec)

/-- ITS FALSE NEIGHBOUR: 'it returns false'. Refute it at one input. -/
def closingPartsWrong : ChangeSpec := { name := "closingParts", fn := fun _ => fun
  | [d1, d2, d3] => { results := [.lit (.bool false)], args := [d1, d2, d3] }
  | _ => none }
def ClosingPartsWrongFalsely : Prop := closingPartsRow.holds Tryz.pinned (OpenSpec.ofChange closingPartsWrong)

/- THE SECOND FORM. 'bulk': how many values and letters a reading holds, each counted each time it is reached (what is shared counts as often as it is met; a slice's spare places count too). A statement '..UptoSaid' is the law's where the arguments, and the package variables that the reading takes, are together of bulk at most 1048576: NARROWER than '..Said'. Prove '..Said' where nothing that the law and all that it calls make is longer than what came in: it says more and counts as full. Else prove '..UptoSaid'. A law counts once. -/
mutual
def uptoBulk {H : Type} : DataW H → Nat
  | .lit (.string bytes) => bytes.length + 1
  | .lit _ => 1
  | .nil => 1
  | .ptr d => uptoBulk d + 1
  | .slice elems spare => uptoBulkAll elems + uptoBulkAll spare + 1
  | .agg parts => uptoBulkAll parts + 1
  | .iface _ d => uptoBulk d + 1
  | .map entries => uptoBulkEntries entries + 1
  | .held _ => 1
def uptoBulkAll {H : Type} : List (DataW H) → Nat
  | [] => 0
  | d :: r => uptoBulk d + uptoBulkAll r
def uptoBulkEntries {H : Type} : List (Lit × DataW H) → Nat
  | [] => 0
  | x :: r => uptoBulkEntry x + uptoBulkEntries r
def uptoBulkEntry {H : Type} : Lit × DataW H → Nat
  | (.string bytes, d) => bytes.length + uptoBulk d + 1
  | (_, d) => uptoBulk d + 1
 end
def uptoSmall : (H : Type) → List (DataW H) → Bool := fun _ ds => decide (uptoBulkAll ds ≤ 1048576)
def OpenSpec.upto (s : _root_.Go.ChangeSpec) : _root_.Go.OpenSpec := { _root_.Go.OpenSpec.ofChange s with cond := some uptoSmall }

/-- 'bordereaulaw30.ClosingMixes', WHERE WHAT IT READS IS OF BULK AT MOST 1048576: true; the input reads as it did. -/
def closingMixesUptoRow : OpenClaim := { program := "ythpdhhejonjipaagreat", sum := "9be49c1e60d0c81ed16780c1561e6e17e0c6186de91bf6671f812c73648969a6", func := "bordereau/bordereaulaw30.ClosingMixes", spec := "closingMixes", unfollowed := true, recurses := true, named := ["math/bits.divideError", "math/bits.overflowError"], apart := false, narrowed := true }
def ClosingMixesUptoSaid : Prop := closingMixesUptoRow.holds Tryz.pinned (OpenSpec.upto closingMixesSpec)

/-- 'bordereaulaw30.ClosingOther', WHERE WHAT IT READS IS OF BULK AT MOST 1048576: true; the input reads as it did. -/
def closingOtherUptoRow : OpenClaim := { program := "ythpdhhejonjipaagreat", sum := "9be49c1e60d0c81ed16780c1561e6e17e0c6186de91bf6671f812c73648969a6", func := "bordereau/bordereaulaw30.ClosingOther", spec := "closingOther", unfollowed := true, recurses := true, named := ["math/bits.divideError", "math/bits.overflowError"], apart := false, narrowed := true }
def ClosingOtherUptoSaid : Prop := closingOtherUptoRow.holds Tryz.pinned (OpenSpec.upto closingOtherSpec)

/-- 'bordereaulaw30.ClosingParts', WHERE WHAT IT READS IS OF BULK AT MOST 1048576: true; the input reads as it did. -/
def closingPartsUptoRow : OpenClaim := { program := "ythpdhhejonjipaagreat", sum := "9be49c1e60d0c81ed16780c1561e6e17e0c6186de91bf6671f812c73648969a6", func := "bordereau/bordereaulaw30.ClosingParts", spec := "closingParts", unfollowed := true, recurses := true, named := ["math/bits.divideError", "math/bits.overflowError"], apart := false, narrowed := true }
def ClosingPartsUptoSaid : Prop := closingPartsUptoRow.holds Tryz.pinned (OpenSpec.upto closingPartsSpec)

end Rows
end Go.Proofs.YthpdhhejonjipaaGreat
