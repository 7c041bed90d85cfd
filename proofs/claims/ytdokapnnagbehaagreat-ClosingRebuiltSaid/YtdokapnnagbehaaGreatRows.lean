/-
  No cell of these rows narrows 'for every input' (looked for: loops, veiled, ifaces, maps, wideKeys, modest, calm, conditions, laid).
  DERIVED. THE GIVEN ROWS OF THIS SEAT. 9 by the template 'for every input the law returns true; each argument reads behind the call as it read before'; 0 by the template 'total and deterministic' (their statements: YtdokapnnagbehaaGreatTotals.lean).
  GIVEN WITH THE SEED: the statements are not yours to turn. If you find one false, say at which input.
  Laid BY PROGRAM, IN A SANDBOX (cutbox-rows.mjs): the forced cells as the released guide's own fill.sh prints them over the translation 4e253a23d294147a… (all of the seat's roots in one cut). By AI agents, Wed Nov 11 2026. No macro, syntax, notation, axiom, sorry.
-/
import Derived.Test.YtdokapnnagbehaaGreatChecked
import GoSem.Claim
import GoSem.ClaimJoined
import GoSem.ClaimMapViews
import Derived.JoinedTies
import Derived.KernelRfl
namespace Go.Proofs.YtdokapnnagbehaaGreat
/- THE CELL 'sum', in the pinned program and in every row, IS THE sha256 OF THE DUMP (.gsa) THAT YtdokapnnagbehaaGreatProg.lean LOADS. Nothing in Lean hashes anything: it is a label: what it is worth is what the hold of that sum in a sandbox is worth. -/
noncomputable def Tryz.pinned : Pinned := { name := "ytdokapnnagbehaagreat", sum := "4e253a23d294147af7e7429282810f2be1fbba5eb9f45d23a1e2d9f177514f1c", checked := Tryz.checked }
namespace Rows
def none {H : Type} : Left H := { results := [], args := [] }

/-- 'bordereaulaw29.LedgerEarned': WHATEVER THE INPUT: true; the input reads as it did. -/
def ledgerEarnedSpec : ChangeSpec := { name := "ledgerEarned", fn := fun _ => fun
  | [d1, d2] => { results := [.lit (.bool true)], args := [d1, d2] }
  | _ => none }
def ledgerEarnedRow : OpenClaim := { program := "ytdokapnnagbehaagreat", sum := "4e253a23d294147af7e7429282810f2be1fbba5eb9f45d23a1e2d9f177514f1c", func := "bordereau/bordereaulaw29.LedgerEarned", spec := "ledgerEarned", unfollowed := true, recurses := true, named := ["math/bits.divideError", "math/bits.overflowError"], apart := false }
def LedgerEarnedSaid : Prop := ledgerEarnedRow.holds Tryz.pinned (OpenSpec.ofChange ledgerEarnedSpec)

/-- ITS FALSE NEIGHBOUR: 'it returns false'. Refute it at one input. -/
def ledgerEarnedWrong : ChangeSpec := { name := "ledgerEarned", fn := fun _ => fun
  | [d1, d2] => { results := [.lit (.bool false)], args := [d1, d2] }
  | _ => none }
def LedgerEarnedWrongFalsely : Prop := ledgerEarnedRow.holds Tryz.pinned (OpenSpec.ofChange ledgerEarnedWrong)

/-- 'bordereaulaw29.LedgerNever': WHATEVER THE INPUT: true; the input reads as it did. -/
def ledgerNeverSpec : ChangeSpec := { name := "ledgerNever", fn := fun _ => fun
  | [d1, d2, d3] => { results := [.lit (.bool true)], args := [d1, d2, d3] }
  | _ => none }
def ledgerNeverRow : OpenClaim := { program := "ytdokapnnagbehaagreat", sum := "4e253a23d294147af7e7429282810f2be1fbba5eb9f45d23a1e2d9f177514f1c", func := "bordereau/bordereaulaw29.LedgerNever", spec := "ledgerNever", unfollowed := true, recurses := true, named := ["math/bits.divideError", "math/bits.overflowError"], apart := false }
def LedgerNeverSaid : Prop := ledgerNeverRow.holds Tryz.pinned (OpenSpec.ofChange ledgerNeverSpec)

/-- ITS FALSE NEIGHBOUR: 'it returns false'. Refute it at one input. -/
def ledgerNeverWrong : ChangeSpec := { name := "ledgerNever", fn := fun _ => fun
  | [d1, d2, d3] => { results := [.lit (.bool false)], args := [d1, d2, d3] }
  | _ => none }
def LedgerNeverWrongFalsely : Prop := ledgerNeverRow.holds Tryz.pinned (OpenSpec.ofChange ledgerNeverWrong)

/-- 'bordereaulaw29.LedgerRebuilt': WHATEVER THE INPUT: true; the input reads as it did. -/
def ledgerRebuiltSpec : ChangeSpec := { name := "ledgerRebuilt", fn := fun _ => fun
  | [d1, d2] => { results := [.lit (.bool true)], args := [d1, d2] }
  | _ => none }
def ledgerRebuiltRow : OpenClaim := { program := "ytdokapnnagbehaagreat", sum := "4e253a23d294147af7e7429282810f2be1fbba5eb9f45d23a1e2d9f177514f1c", func := "bordereau/bordereaulaw29.LedgerRebuilt", spec := "ledgerRebuilt", unfollowed := true, recurses := true, named := ["math/bits.divideError", "math/bits.overflowError"], apart := false }
def LedgerRebuiltSaid : Prop := ledgerRebuiltRow.holds Tryz.pinned (OpenSpec.ofChange ledgerRebuiltSpec)

/-- ITS FALSE NEIGHBOUR: 'it returns false'. Refute it at one input. -/
def ledgerRebuiltWrong : ChangeSpec := { name := "ledgerRebuilt", fn := fun _ => fun
  | [d1, d2] => { results := [.lit (.bool false)], args := [d1, d2] }
  | _ => none }
def LedgerRebuiltWrongFalsely : Prop := ledgerRebuiltRow.holds Tryz.pinned (OpenSpec.ofChange ledgerRebuiltWrong)

/-- 'bordereaulaw29.LedgerStand': WHATEVER THE INPUT: true; the input reads as it did. -/
def ledgerStandSpec : ChangeSpec := { name := "ledgerStand", fn := fun _ => fun
  | [d1, d2] => { results := [.lit (.bool true)], args := [d1, d2] }
  | _ => none }
def ledgerStandRow : OpenClaim := { program := "ytdokapnnagbehaagreat", sum := "4e253a23d294147af7e7429282810f2be1fbba5eb9f45d23a1e2d9f177514f1c", func := "bordereau/bordereaulaw29.LedgerStand", spec := "ledgerStand", unfollowed := true, recurses := true, named := ["math/bits.divideError", "math/bits.overflowError"], apart := false }
def LedgerStandSaid : Prop := ledgerStandRow.holds Tryz.pinned (OpenSpec.ofChange ledgerStandSpec)

/-- ITS FALSE NEIGHBOUR: 'it returns false'. Refute it at one input. -/
def ledgerStandWrong : ChangeSpec := { name := "ledgerStand", fn := fun _ => fun
  | [d1, d2] => { results := [.lit (.bool false)], args := [d1, d2] }
  | _ => none }
def LedgerStandWrongFalsely : Prop := ledgerStandRow.holds Tryz.pinned (OpenSpec.ofChange ledgerStandWrong)

/-- 'bordereaulaw29.LedgerTold': WHATEVER THE INPUT: true; the input reads as it did. -/
def ledgerToldSpec : ChangeSpec := { name := "ledgerTold", fn := fun _ => fun
  | [d1, d2] => { results := [.lit (.bool true)], args := [d1, d2] }
  | _ => none }
def ledgerToldRow : OpenClaim := { program := "ytdokapnnagbehaagreat", sum := "4e253a23d294147af7e7429282810f2be1fbba5eb9f45d23a1e2d9f177514f1c", func := "bordereau/bordereaulaw29.LedgerTold", spec := "ledgerTold", unfollowed := true, recurses := true, named := ["math/bits.divideError", "math/bits.overflowError"], apart := false }
def LedgerToldSaid : Prop := ledgerToldRow.holds Tryz.pinned (OpenSpec.ofChange ledgerToldSpec)

/-- ITS FALSE NEIGHBOUR: 'it returns false'. Refute it at one input. -/
def ledgerToldWrong : ChangeSpec := { name := "ledgerTold", fn := fun _ => fun
  | [d1, d2] => { results := [.lit (.bool false)], args := [d1, d2] }
  | _ => none }
def LedgerToldWrongFalsely : Prop := ledgerToldRow.holds Tryz.pinned (OpenSpec.ofChange ledgerToldWrong)

/-- 'bordereaulaw29.LedgerZero': WHATEVER THE INPUT: true; the input reads as it did. -/
def ledgerZeroSpec : ChangeSpec := { name := "ledgerZero", fn := fun _ => fun
  | [d1, d2] => { results := [.lit (.bool true)], args := [d1, d2] }
  | _ => none }
def ledgerZeroRow : OpenClaim := { program := "ytdokapnnagbehaagreat", sum := "4e253a23d294147af7e7429282810f2be1fbba5eb9f45d23a1e2d9f177514f1c", func := "bordereau/bordereaulaw29.LedgerZero", spec := "ledgerZero", unfollowed := true, recurses := true, named := ["math/bits.divideError", "math/bits.overflowError"], apart := false }
def LedgerZeroSaid : Prop := ledgerZeroRow.holds Tryz.pinned (OpenSpec.ofChange ledgerZeroSpec)

/-- ITS FALSE NEIGHBOUR: 'it returns false'. Refute it at one input. -/
def ledgerZeroWrong : ChangeSpec := { name := "ledgerZero", fn := fun _ => fun
  | [d1, d2] => { results := [.lit (.bool false)], args := [d1, d2] }
  | _ => none }
def LedgerZeroWrongFalsely : Prop := ledgerZeroRow.holds Tryz.pinned (OpenSpec.ofChange ledgerZeroWrong)

/-- 'bordereaulaw30.ClosingNumbers': WHATEVER THE INPUT: true; the input reads as it did. -/
def closingNumbersSpec : ChangeSpec := { name := "closingNumbers", fn := fun _ => fun
  | [d1, d2, d3, d4] => { results := [.lit (.bool true)], args := [d1, d2, d3, d4] }
  | _ => none }
def closingNumbersRow : OpenClaim := { program := "ytdokapnnagbehaagreat", sum := "4e253a23d294147af7e7429282810f2be1fbba5eb9f45d23a1e2d9f177514f1c", func := "bordereau/bordereaulaw30.ClosingNumbers", spec := "closingNumbers", unfollowed := true, recurses := true, named := ["math/bits.divideError", "math/bits.overflowError"], apart := false }
def ClosingNumbersSaid : Prop := closingNumbersRow.holds Tryz.pinned (OpenSpec.ofChange closingNumbersSpec)

/-- ITS FALSE NEIGHBOUR: 'it returns false'. Refute it at one input. -/
def closingNumbersWrong : ChangeSpec := { name := "closingNumbers", fn := fun _ => fun
  | [d1, d2, d3, d4] => { results := [.lit (.bool false)], args := [d1, d2, d3, d4] }
  | _ => none }
def ClosingNumbersWrongFalsely : Prop := closingNumbersRow.holds Tryz.pinned (OpenSpec.ofChange closingNumbersWrong)

/-- 'bordereaulaw30.ClosingRebuilt': WHATEVER THE INPUT: true; the input reads as it did. -/
def closingRebuiltSpec : ChangeSpec := { name := "closingRebuilt", fn := fun _ => fun
  | [d1, d2] => { results := [.lit (.bool true)], args := [d1, d2] }
  | _ => none }
def closingRebuiltRow : OpenClaim := { program := "ytdokapnnagbehaagreat", sum := "4e253a23d294147af7e7429282810f2be1fbba5eb9f45d23a1e2d9f177514f1c", func := "bordereau/bordereaulaw30.ClosingRebuilt", spec := "closingRebuilt", unfollowed := true, recurses := true, named := ["math/bits.divideError", "math/bits.overflowError"], apart := false }
def ClosingRebuiltSaid : Prop := closingRebuiltRow.holds Tryz.pinned (OpenSpec.ofChange closingRebuiltSpec)

/-- ITS FALSE NEIGHBOUR: 'it returns false'. Refute it at one input. -/
def closingRebuiltWrong : ChangeSpec := { name := "closingRebuilt", fn := fun _ => fun
  | [d1, d2] => { results := [.lit (.bool false)], args := [d1, d2] }
  | _ => none }
def ClosingRebuiltWrongFalsely : Prop := closingRebuiltRow.holds Tryz.pinned (OpenSpec.ofChange closingRebuiltWrong)

/-- 'bordereaulaw30.ClosingStays': WHATEVER THE INPUT: true; the input reads as it did. -/
def closingStaysSpec : ChangeSpec := { name := "closingStays", fn := fun _ => fun
  | [d1, d2, d3] => { results := [.lit (.bool true)], args := [d1, d2, d3] }
  | _ => none }
def closingStaysRow : OpenClaim := { program := "ytdokapnnagbehaagreat", sum := "4e253a23d294147af7e7429282810f2be1fbba5eb9f45d23a1e2d9f177514f1c", func := "bordereau/bordereaulaw30.ClosingStays", spec := "closingStays", unfollowed := true, recurses := true, named := ["math/bits.divideError", "math/bits.overflowError"], apart := false }
def ClosingStaysSaid : Prop := closingStaysRow.holds Tryz.pinned (OpenSpec.ofChange closingStaysSpec)

/-- ITS FALSE NEIGHBOUR: 'it returns false'. Refute it at one input. -/
def closingStaysWrong : ChangeSpec := { name := "closingStays", fn := fun _ => fun
  | [d1, d2, d3] => { results := [.lit (.bool false)], args := [d1, d2, d3] }
  | _ => none }
def ClosingStaysWrongFalsely : Prop := closingStaysRow.holds Tryz.pinned (OpenSpec.ofChange closingStaysWrong)

/- THE SECOND FORM. 'bulk': how many values and letters a reading holds, each counted each time it is reached (what is shared counts as often as it is met; a slice's spare places count too). A statement '..UptoSaid' is the law's where the arguments, and the package variables that the reading takes, are together of bulk at most 1048576: NARROWER than '..Said'. Prove '..Said' where nothing that the law and all that it calls make is longer than what came in: it says more and counts as full. Else prove '..UptoSaid'. A law counts once. -/
mutual
def uptoBulk {H : Type} : DataW H → Nat
  | .lit (.string bytes) => bytes.length + 1
  | .lit _ => 1
  | .nil => 1
  | .ptr d => uptoBulk d + 1
  | .slice elems spare => uptoBulkAll elems + uptoBulkAll spare + 1
  | .agg parts => uptoBulkAll parts + 1
  | .iface _ d => uptoBulk d + 1
  | .map entries => uptoBulkEntries entries + 1
  | .held _ => 1
def uptoBulkAll {H : Type} : List (DataW H) → Nat
  | [] => 0
  | d :: r => uptoBulk d + uptoBulkAll r
def uptoBulkEntries {H : Type} : List (Lit × DataW H) → Nat
  | [] => 0
  | x :: r => uptoBulkEntry x + uptoBulkEntries r
def uptoBulkEntry {H : Type} : Lit × DataW H → Nat
  | (.string bytes, d) => bytes.length + uptoBulk d + 1
  | (_, d) => uptoBulk d + 1
 end
def uptoSmall : (H : Type) → List (DataW H) → Bool := fun _ ds => decide (uptoBulkAll ds ≤ 1048576)
def OpenSpec.upto (s : _root_.Go.ChangeSpec) : _root_.Go.OpenSpec := { _root_.Go.OpenSpec.ofChange s with cond := some uptoSmall }

/-- 'bordereaulaw29.LedgerEarned', WHERE WHAT IT READS IS OF BULK AT MOST 1048576: true; the input reads as it did. -/
def ledgerEarnedUptoRow : OpenClaim := { program := "ytdokapnnagbehaagreat", sum := "4e253a23d294147af7e7429282810f2be1fbba5eb9f45d23a1e2d9f177514f1c", func := "bordereau/bordereaulaw29.LedgerEarned", spec := "ledgerEarned", unfollowed := true, recurses := true, named := ["math/bits.divideError", "math/bits.overflowError"], apart := false, narrowed := true }
def LedgerEarnedUptoSaid : Prop := ledgerEarnedUptoRow.holds Tryz.pinned (OpenSpec.upto ledgerEarnedSpec)

/-- 'bordereaulaw29.LedgerNever', WHERE WHAT IT READS IS OF BULK AT MOST 1048576: true; the input reads as it did. -/
def ledgerNeverUptoRow : OpenClaim := { program := "ytdokapnnagbehaagreat", sum := "4e253a23d294147af7e7429282810f2be1fbba5eb9f45d23a1e2d9f177514f1c", func := "bordereau/bordereaulaw29.LedgerNever", spec := "ledgerNever", unfollowed := true, recurses := true, named := ["math/bits.divideError", "math/bits.overflowError"], apart := false, narrowed := true }
def LedgerNeverUptoSaid : Prop := ledgerNeverUptoRow.holds Tryz.pinned (OpenSpec.upto ledgerNeverSpec)

/-- 'bordereaulaw29.LedgerRebuilt', WHERE WHAT IT READS IS OF BULK AT MOST 1048576: true; the input reads as it did. -/
def ledgerRebuiltUptoRow : OpenClaim := { program := "ytdokapnnagbehaagreat", sum := "4e253a23d294147af7e7429282810f2be1fbba5eb9f45d23a1e2d9f177514f1c", func := "bordereau/bordereaulaw29.LedgerRebuilt", spec := "ledgerRebuilt", unfollowed := true, recurses := true, named := ["math/bits.divideError", "math/bits.overflowError"], apart := false, narrowed := true }
def LedgerRebuiltUptoSaid : Prop := ledgerRebuiltUptoRow.holds Tryz.pinned (OpenSpec.upto ledgerRebuiltSpec)

/-- 'bordereaulaw29.LedgerStand', WHERE WHAT IT READS IS OF BULK AT MOST 1048576: true; the input reads as it did. -/
def ledgerStandUptoRow : OpenClaim := { program := "ytdokapnnagbehaagreat", sum := "4e253a23d294147af7e7429282810f2be1fbba5eb9f45d23a1e2d9f177514f1c", func := "bordereau/bordereaulaw29.LedgerStand", spec := "ledgerStand", unfollowed := true, recurses := true, named := ["math/bits.divideError", "math/bits.overflowError"], apart := false, narrowed := true }
def LedgerStandUptoSaid : Prop := ledgerStandUptoRow.holds Tryz.pinned (OpenSpec.upto ledgerStandSpec)

/-- 'bordereaulaw29.LedgerTold', WHERE WHAT IT READS IS OF BULK AT MOST 1048576: true; the input reads as it did. -/
def ledgerToldUptoRow : OpenClaim := { program := "ytdokapnnagbehaagreat", sum := "4e253a23d294147af7e7429282810f2be1fbba5eb9f45d23a1e2d9f177514f1c", func := "bordereau/bordereaulaw29.LedgerTold", spec := "ledgerTold", unfollowed := true, recurses := true, named := ["math/bits.divideError", "math/bits.overflowError"], apart := false, narrowed := true }
def LedgerToldUptoSaid : Prop := ledgerToldUptoRow.holds Tryz.pinned (OpenSpec.upto ledgerToldSpec)

/-- 'bordereaulaw29.LedgerZero', WHERE WHAT IT READS IS OF BULK AT MOST 1048576: true; the input reads as it did. -/
def ledgerZeroUptoRow : OpenClaim := { program := "ytdokapnnagbehaagreat", sum := "4e253a23d294147af7e7429282810f2be1fbba5eb9f45d23a1e2d9f177514f1c", func := "bordereau/bordereaulaw29.LedgerZero", spec := "ledgerZero", unfollowed := true, recurses := true, named := ["math/bits.divideError", "math/bits.overflowError"], apart := false, narrowed := true }
def LedgerZeroUptoSaid : Prop := ledgerZeroUptoRow.holds Tryz.pinned (OpenSpec.upto ledgerZeroSpec)

/-- 'bordereaulaw30.ClosingNumbers', WHERE WHAT IT READS IS OF BULK AT MOST 1048576: true; the input reads as it did. -/
def closingNumbersUptoRow : OpenClaim := { program := "ytdokapnnagbehaagreat", sum := "4e253a23d294147af7e7429282810f2be1fbba5eb9f45d23a1e2d9f177514f1c", func := "bordereau/bordereaulaw30.ClosingNumbers", spec := "closingNumbers", unfollowed := true, recurses := true, named := ["math/bits.divideError", "math/bits.overflowError"], apart := false, narrowed := true }
def ClosingNumbersUptoSaid : Prop := closingNumbersUptoRow.holds Tryz.pinned (OpenSpec.upto closingNumbersSpec)

/-- 'bordereaulaw30.ClosingRebuilt', WHERE WHAT IT READS IS OF BULK AT MOST 1048576: true; the input reads as it did. -/
def closingRebuiltUptoRow : OpenClaim := { program := "ytdokapnnagbehaagreat", sum := "4e253a23d294147af7e7429282810f2be1fbba5eb9f45d23a1e2d9f177514f1c", func := "bordereau/bordereaulaw30.ClosingRebuilt", spec := "closingRebuilt", unfollowed := true, recurses := true, named := ["math/bits.divideError", "math/bits.overflowError"], apart := false, narrowed := true }
def ClosingRebuiltUptoSaid : Prop := closingRebuiltUptoRow.holds Tryz.pinned (OpenSpec.upto closingRebuiltSpec)

/-- 'bordereaulaw30.ClosingStays', WHERE WHAT IT READS IS OF BULK AT MOST 1048576: true; the input reads as it did. -/
def closingStaysUptoRow : OpenClaim := { program := "ytdokapnnagbehaagreat", sum := "4e253a23d294147af7e7429282810f2be1fbba5eb9f45d23a1e2d9f177514f1c", func := "bordereau/bordereaulaw30.ClosingStays", spec := "closingStays", unfollowed := true, recurses := true, named := ["math/bits.divideError", "math/bits.overflowError"], apart := false, narrowed := true }
def ClosingStaysUptoSaid : Prop := closingStaysUptoRow.holds Tryz.pinned (OpenSpec.upto closingStaysSpec)

end Rows
end Go.Proofs.YtdokapnnagbehaaGreat
