/-
  No cell of these rows narrows 'for every input' (looked for: loops, veiled, ifaces, maps, wideKeys, modest, calm, conditions, laid).
  DERIVED. THE GIVEN ROWS OF THIS SEAT. 12 by the template 'for every input the law returns true; each argument reads behind the call as it read before'; 0 by the template 'total and deterministic' (their statements: YtbplccbjgfappaaTotals.lean).
  GIVEN WITH THE SEED: the statements are not yours to turn. If you find one false, say at which input.
  Laid BY PROGRAM, IN A SANDBOX (cutbox-rows.mjs): the forced cells as the released guide's own fill.sh prints them over the translation fc8ec47491ff5028… (all of the seat's roots in one cut). By AI agents, Wed Nov 11 2026. No macro, syntax, notation, axiom, sorry.
-/
import Derived.Test.YtbplccbjgfappaaChecked
import GoSem.Claim
import GoSem.ClaimJoined
import GoSem.ClaimMapViews
import Derived.JoinedTies
import Derived.KernelRfl
namespace Go.Proofs.Ytbplccbjgfappaa
/- THE CELL 'sum', in the pinned program and in every row, IS THE sha256 OF THE DUMP (.gsa) THAT YtbplccbjgfappaaProg.lean LOADS. Nothing in Lean hashes anything: it is a label: what it is worth is what the hold of that sum in a sandbox is worth. -/
noncomputable def Try.pinned : Pinned := { name := "ytbplccbjgfappaa", sum := "fc8ec47491ff50281e4beb9cfe23f98a2063e6dd92998f7a0b5aba94ead1c475", checked := Try.checked }
namespace Rows
def none {H : Type} : Left H := { results := [], args := [] }

/-- 'bordereaulaw12.SlicesTells': WHATEVER THE INPUT: true; the input reads as it did. -/
def slicesTellsSpec : ChangeSpec := { name := "slicesTells", fn := fun _ => fun
  | [d1, d2] => { results := [.lit (.bool true)], args := [d1, d2] }
  | _ => none }
def slicesTellsRow : OpenClaim := { program := "ytbplccbjgfappaa", sum := "fc8ec47491ff50281e4beb9cfe23f98a2063e6dd92998f7a0b5aba94ead1c475", func := "bordereau/bordereaulaw12.SlicesTells", spec := "slicesTells", unfollowed := true, recurses := true, named := ["math/bits.divideError", "math/bits.overflowError"], apart := false }
def SlicesTellsSaid : Prop := slicesTellsRow.holds Try.pinned (OpenSpec.ofChange slicesTellsSpec)

/-- ITS FALSE NEIGHBOUR: 'it returns false'. Refute it at one input. -/
def slicesTellsWrong : ChangeSpec := { name := "slicesTells", fn := fun _ => fun
  | [d1, d2] => { results := [.lit (.bool false)], args := [d1, d2] }
  | _ => none }
def SlicesTellsWrongFalsely : Prop := slicesTellsRow.holds Try.pinned (OpenSpec.ofChange slicesTellsWrong)

/-- 'bordereaulaw12.SlicesOrder': WHATEVER THE INPUT: true; the input reads as it did. -/
def slicesOrderSpec : ChangeSpec := { name := "slicesOrder", fn := fun _ => fun
  | [d1, d2] => { results := [.lit (.bool true)], args := [d1, d2] }
  | _ => none }
def slicesOrderRow : OpenClaim := { program := "ytbplccbjgfappaa", sum := "fc8ec47491ff50281e4beb9cfe23f98a2063e6dd92998f7a0b5aba94ead1c475", func := "bordereau/bordereaulaw12.SlicesOrder", spec := "slicesOrder", unfollowed := true, recurses := true, named := ["math/bits.divideError", "math/bits.overflowError"], apart := false }
def SlicesOrderSaid : Prop := slicesOrderRow.holds Try.pinned (OpenSpec.ofChange slicesOrderSpec)

/-- ITS FALSE NEIGHBOUR: 'it returns false'. Refute it at one input. -/
def slicesOrderWrong : ChangeSpec := { name := "slicesOrder", fn := fun _ => fun
  | [d1, d2] => { results := [.lit (.bool false)], args := [d1, d2] }
  | _ => none }
def SlicesOrderWrongFalsely : Prop := slicesOrderRow.holds Try.pinned (OpenSpec.ofChange slicesOrderWrong)

/-- 'bordereaulaw12.SlicesAhead': WHATEVER THE INPUT: true; the input reads as it did. -/
def slicesAheadSpec : ChangeSpec := { name := "slicesAhead", fn := fun _ => fun
  | [d1, d2, d3, d4] => { results := [.lit (.bool true)], args := [d1, d2, d3, d4] }
  | _ => none }
def slicesAheadRow : OpenClaim := { program := "ytbplccbjgfappaa", sum := "fc8ec47491ff50281e4beb9cfe23f98a2063e6dd92998f7a0b5aba94ead1c475", func := "bordereau/bordereaulaw12.SlicesAhead", spec := "slicesAhead", unfollowed := true, recurses := true, named := ["math/bits.divideError", "math/bits.overflowError"], apart := false }
def SlicesAheadSaid : Prop := slicesAheadRow.holds Try.pinned (OpenSpec.ofChange slicesAheadSpec)

/-- ITS FALSE NEIGHBOUR: 'it returns false'. Refute it at one input. -/
def slicesAheadWrong : ChangeSpec := { name := "slicesAhead", fn := fun _ => fun
  | [d1, d2, d3, d4] => { results := [.lit (.bool false)], args := [d1, d2, d3, d4] }
  | _ => none }
def SlicesAheadWrongFalsely : Prop := slicesAheadRow.holds Try.pinned (OpenSpec.ofChange slicesAheadWrong)

/-- 'bordereaulaw12.SlicesLast': WHATEVER THE INPUT: true; the input reads as it did. -/
def slicesLastSpec : ChangeSpec := { name := "slicesLast", fn := fun _ => fun
  | [d1, d2] => { results := [.lit (.bool true)], args := [d1, d2] }
  | _ => none }
def slicesLastRow : OpenClaim := { program := "ytbplccbjgfappaa", sum := "fc8ec47491ff50281e4beb9cfe23f98a2063e6dd92998f7a0b5aba94ead1c475", func := "bordereau/bordereaulaw12.SlicesLast", spec := "slicesLast", unfollowed := true, recurses := true, named := ["math/bits.divideError", "math/bits.overflowError"], apart := false }
def SlicesLastSaid : Prop := slicesLastRow.holds Try.pinned (OpenSpec.ofChange slicesLastSpec)

/-- ITS FALSE NEIGHBOUR: 'it returns false'. Refute it at one input. -/
def slicesLastWrong : ChangeSpec := { name := "slicesLast", fn := fun _ => fun
  | [d1, d2] => { results := [.lit (.bool false)], args := [d1, d2] }
  | _ => none }
def SlicesLastWrongFalsely : Prop := slicesLastRow.holds Try.pinned (OpenSpec.ofChange slicesLastWrong)

/-- 'bordereaulaw12.SlicesAt': WHATEVER THE INPUT: true; the input reads as it did. -/
def slicesAtSpec : ChangeSpec := { name := "slicesAt", fn := fun _ => fun
  | [d1, d2, d3] => { results := [.lit (.bool true)], args := [d1, d2, d3] }
  | _ => none }
def slicesAtRow : OpenClaim := { program := "ytbplccbjgfappaa", sum := "fc8ec47491ff50281e4beb9cfe23f98a2063e6dd92998f7a0b5aba94ead1c475", func := "bordereau/bordereaulaw12.SlicesAt", spec := "slicesAt", unfollowed := true, recurses := true, named := ["math/bits.divideError", "math/bits.overflowError"], apart := false }
def SlicesAtSaid : Prop := slicesAtRow.holds Try.pinned (OpenSpec.ofChange slicesAtSpec)

/-- ITS FALSE NEIGHBOUR: 'it returns false'. Refute it at one input. -/
def slicesAtWrong : ChangeSpec := { name := "slicesAt", fn := fun _ => fun
  | [d1, d2, d3] => { results := [.lit (.bool false)], args := [d1, d2, d3] }
  | _ => none }
def SlicesAtWrongFalsely : Prop := slicesAtRow.holds Try.pinned (OpenSpec.ofChange slicesAtWrong)

/-- 'bordereaulaw12.SlicesWhole': WHATEVER THE INPUT: true; the input reads as it did. -/
def slicesWholeSpec : ChangeSpec := { name := "slicesWhole", fn := fun _ => fun
  | [d1, d2, d3] => { results := [.lit (.bool true)], args := [d1, d2, d3] }
  | _ => none }
def slicesWholeRow : OpenClaim := { program := "ytbplccbjgfappaa", sum := "fc8ec47491ff50281e4beb9cfe23f98a2063e6dd92998f7a0b5aba94ead1c475", func := "bordereau/bordereaulaw12.SlicesWhole", spec := "slicesWhole", unfollowed := true, recurses := true, named := ["math/bits.divideError", "math/bits.overflowError"], apart := false }
def SlicesWholeSaid : Prop := slicesWholeRow.holds Try.pinned (OpenSpec.ofChange slicesWholeSpec)

/-- ITS FALSE NEIGHBOUR: 'it returns false'. Refute it at one input. -/
def slicesWholeWrong : ChangeSpec := { name := "slicesWhole", fn := fun _ => fun
  | [d1, d2, d3] => { results := [.lit (.bool false)], args := [d1, d2, d3] }
  | _ => none }
def SlicesWholeWrongFalsely : Prop := slicesWholeRow.holds Try.pinned (OpenSpec.ofChange slicesWholeWrong)

/-- 'bordereaulaw17.NoticeRight': WHATEVER THE INPUT: true; the input reads as it did. -/
def noticeRightSpec : ChangeSpec := { name := "noticeRight", fn := fun _ => fun
  | [d] => { results := [.lit (.bool true)], args := [d] }
  | _ => none }
def noticeRightRow : OpenClaim := { program := "ytbplccbjgfappaa", sum := "fc8ec47491ff50281e4beb9cfe23f98a2063e6dd92998f7a0b5aba94ead1c475", func := "bordereau/bordereaulaw17.NoticeRight", spec := "noticeRight", unfollowed := true, recurses := true, named := ["math/bits.divideError", "math/bits.overflowError"], apart := false }
def NoticeRightSaid : Prop := noticeRightRow.holds Try.pinned (OpenSpec.ofChange noticeRightSpec)

/-- ITS FALSE NEIGHBOUR: 'it returns false'. Refute it at one input. -/
def noticeRightWrong : ChangeSpec := { name := "noticeRight", fn := fun _ => fun
  | [d] => { results := [.lit (.bool false)], args := [d] }
  | _ => none }
def NoticeRightWrongFalsely : Prop := noticeRightRow.holds Try.pinned (OpenSpec.ofChange noticeRightWrong)

/-- 'bordereaulaw17.NoticeOwn': WHATEVER THE INPUT: true; the input reads as it did. -/
def noticeOwnSpec : ChangeSpec := { name := "noticeOwn", fn := fun _ => fun
  | [d1, d2, d3] => { results := [.lit (.bool true)], args := [d1, d2, d3] }
  | _ => none }
def noticeOwnRow : OpenClaim := { program := "ytbplccbjgfappaa", sum := "fc8ec47491ff50281e4beb9cfe23f98a2063e6dd92998f7a0b5aba94ead1c475", func := "bordereau/bordereaulaw17.NoticeOwn", spec := "noticeOwn", unfollowed := true, recurses := true, named := ["math/bits.divideError", "math/bits.overflowError"], apart := false }
def NoticeOwnSaid : Prop := noticeOwnRow.holds Try.pinned (OpenSpec.ofChange noticeOwnSpec)

/-- ITS FALSE NEIGHBOUR: 'it returns false'. Refute it at one input. -/
def noticeOwnWrong : ChangeSpec := { name := "noticeOwn", fn := fun _ => fun
  | [d1, d2, d3] => { results := [.lit (.bool false)], args := [d1, d2, d3] }
  | _ => none }
def NoticeOwnWrongFalsely : Prop := noticeOwnRow.holds Try.pinned (OpenSpec.ofChange noticeOwnWrong)

/-- 'bordereaulaw17.NoticeOn': WHATEVER THE INPUT: true; the input reads as it did. -/
def noticeOnSpec : ChangeSpec := { name := "noticeOn", fn := fun _ => fun
  | [d1, d2, d3] => { results := [.lit (.bool true)], args := [d1, d2, d3] }
  | _ => none }
def noticeOnRow : OpenClaim := { program := "ytbplccbjgfappaa", sum := "fc8ec47491ff50281e4beb9cfe23f98a2063e6dd92998f7a0b5aba94ead1c475", func := "bordereau/bordereaulaw17.NoticeOn", spec := "noticeOn", unfollowed := true, recurses := true, named := ["math/bits.divideError", "math/bits.overflowError"], apart := false }
def NoticeOnSaid : Prop := noticeOnRow.holds Try.pinned (OpenSpec.ofChange noticeOnSpec)

/-- ITS FALSE NEIGHBOUR: 'it returns false'. Refute it at one input. -/
def noticeOnWrong : ChangeSpec := { name := "noticeOn", fn := fun _ => fun
  | [d1, d2, d3] => { results := [.lit (.bool false)], args := [d1, d2, d3] }
  | _ => none }
def NoticeOnWrongFalsely : Prop := noticeOnRow.holds Try.pinned (OpenSpec.ofChange noticeOnWrong)

/-- 'bordereaulaw17.NoticeStays': WHATEVER THE INPUT: true; the input reads as it did. -/
def noticeStaysSpec : ChangeSpec := { name := "noticeStays", fn := fun _ => fun
  | [d1, d2, d3, d4] => { results := [.lit (.bool true)], args := [d1, d2, d3, d4] }
  | _ => none }
def noticeStaysRow : OpenClaim := { program := "ytbplccbjgfappaa", sum := "fc8ec47491ff50281e4beb9cfe23f98a2063e6dd92998f7a0b5aba94ead1c475", func := "bordereau/bordereaulaw17.NoticeStays", spec := "noticeStays", unfollowed := true, recurses := true, named := ["math/bits.divideError", "math/bits.overflowError"], apart := false }
def NoticeStaysSaid : Prop := noticeStaysRow.holds Try.pinned (OpenSpec.ofChange noticeStaysSpec)

/-- ITS FALSE NEIGHBOUR: 'it returns false'. Refute it at one input. -/
def noticeStaysWrong : ChangeSpec := { name := "noticeStays", fn := fun _ => fun
  | [d1, d2, d3, d4] => { results := [.lit (.bool false)], args := [d1, d2, d3, d4] }
  | _ => none }
def NoticeStaysWrongFalsely : Prop := noticeStaysRow.holds Try.pinned (OpenSpec.ofChange noticeStaysWrong)

/-- 'bordereaulaw14.AccruePolicies': WHATEVER THE INPUT: true; the input reads as it did. -/
def accruePoliciesSpec : ChangeSpec := { name := "accruePolicies", fn := fun _ => fun
  | [d1, d2, d3] => { results := [.lit (.bool true)], args := [d1, d2, d3] }
  | _ => none }
def accruePoliciesRow : OpenClaim := { program := "ytbplccbjgfappaa", sum := "fc8ec47491ff50281e4beb9cfe23f98a2063e6dd92998f7a0b5aba94ead1c475", func := "bordereau/bordereaulaw14.AccruePolicies", spec := "accruePolicies", unfollowed := true, recurses := true, named := ["math/bits.divideError", "math/bits.overflowError"], apart := false }
def AccruePoliciesSaid : Prop := accruePoliciesRow.holds Try.pinned (OpenSpec.ofChange accruePoliciesSpec)

/-- ITS FALSE NEIGHBOUR: 'it returns false'. Refute it at one input. -/
def accruePoliciesWrong : ChangeSpec := { name := "accruePolicies", fn := fun _ => fun
  | [d1, d2, d3] => { results := [.lit (.bool false)], args := [d1, d2, d3] }
  | _ => none }
def AccruePoliciesWrongFalsely : Prop := accruePoliciesRow.holds Try.pinned (OpenSpec.ofChange accruePoliciesWrong)

/-- 'bordereaulaw12.SlicesCosts': WHATEVER THE INPUT: true; the input reads as it did. -/
def slicesCostsSpec : ChangeSpec := { name := "slicesCosts", fn := fun _ => fun
  | [d1, d2, d3] => { results := [.lit (.bool true)], args := [d1, d2, d3] }
  | _ => none }
def slicesCostsRow : OpenClaim := { program := "ytbplccbjgfappaa", sum := "fc8ec47491ff50281e4beb9cfe23f98a2063e6dd92998f7a0b5aba94ead1c475", func := "bordereau/bordereaulaw12.SlicesCosts", spec := "slicesCosts", inPlace := ["slices.overlaps[bordereau/api.Version]"], unfollowed := true, recurses := true, named := ["math/bits.divideError", "math/bits.overflowError"], apart := false }
def SlicesCostsSaid : Prop := slicesCostsRow.holds Try.pinned (OpenSpec.ofChange slicesCostsSpec)

/-- ITS FALSE NEIGHBOUR: 'it returns false'. Refute it at one input. -/
def slicesCostsWrong : ChangeSpec := { name := "slicesCosts", fn := fun _ => fun
  | [d1, d2, d3] => { results := [.lit (.bool false)], args := [d1, d2, d3] }
  | _ => none }
def SlicesCostsWrongFalsely : Prop := slicesCostsRow.holds Try.pinned (OpenSpec.ofChange slicesCostsWrong)

/- THE SECOND FORM. 'bulk': how many values and letters a reading holds, each counted each time it is reached (what is shared counts as often as it is met; a slice's spare places count too). A statement '..UptoSaid' is the law's where the arguments, and the package variables that the reading takes, are together of bulk at most 1048576: NARROWER than '..Said'. Prove '..Said' where nothing that the law and all that it calls make is longer than what came in: it says more and counts as full. Else prove '..UptoSaid'. A law counts once. -/
mutual
def uptoBulk {H : Type} : DataW H → Nat
  | .lit (.string bytes) => bytes.length + 1
  | .lit _ => 1
  | .nil => 1
  | .ptr d => uptoBulk d + 1
  | .slice elems spare => uptoBulkAll elems + uptoBulkAll spare + 1
  | .agg parts => uptoBulkAll parts + 1
  | .iface _ d => uptoBulk d + 1
  | .map entries => uptoBulkEntries entries + 1
  | .held _ => 1
def uptoBulkAll {H : Type} : List (DataW H) → Nat
  | [] => 0
  | d :: r => uptoBulk d + uptoBulkAll r
def uptoBulkEntries {H : Type} : List (Lit × DataW H) → Nat
  | [] => 0
  | x :: r => uptoBulkEntry x + uptoBulkEntries r
def uptoBulkEntry {H : Type} : Lit × DataW H → Nat
  | (.string bytes, d) => bytes.length + uptoBulk d + 1
  | (_, d) => uptoBulk d + 1
 end
def uptoSmall : (H : Type) → List (DataW H) → Bool := fun _ ds => decide (uptoBulkAll ds ≤ 1048576)
def OpenSpec.upto (s : _root_.Go.ChangeSpec) : _root_.Go.OpenSpec := { _root_.Go.OpenSpec.ofChange s with cond := some uptoSmall }

/-- 'bordereaulaw12.SlicesTells', WHERE WHAT IT READS IS OF BULK AT MOST 1048576: true; the input reads as it did. -/
def slicesTellsUptoRow : OpenClaim := { program := "ytbplccbjgfappaa", sum := "fc8ec47491ff50281e4beb9cfe23f98a2063e6dd92998f7a0b5aba94ead1c475", func := "bordereau/bordereaulaw12.SlicesTells", spec := "slicesTells", unfollowed := true, recurses := true, named := ["math/bits.divideError", "math/bits.overflowError"], apart := false, narrowed := true }
def SlicesTellsUptoSaid : Prop := slicesTellsUptoRow.holds Try.pinned (OpenSpec.upto slicesTellsSpec)

/-- 'bordereaulaw12.SlicesOrder', WHERE WHAT IT READS IS OF BULK AT MOST 1048576: true; the input reads as it did. -/
def slicesOrderUptoRow : OpenClaim := { program := "ytbplccbjgfappaa", sum := "fc8ec47491ff50281e4beb9cfe23f98a2063e6dd92998f7a0b5aba94ead1c475", func := "bordereau/bordereaulaw12.SlicesOrder", spec := "slicesOrder", unfollowed := true, recurses := true, named := ["math/bits.divideError", "math/bits.overflowError"], apart := false, narrowed := true }
def SlicesOrderUptoSaid : Prop := slicesOrderUptoRow.holds Try.pinned (OpenSpec.upto slicesOrderSpec)

/-- 'bordereaulaw12.SlicesAhead', WHERE WHAT IT READS IS OF BULK AT MOST 1048576: true; the input reads as it did. -/
def slicesAheadUptoRow : OpenClaim := { program := "ytbplccbjgfappaa", sum := "fc8ec47491ff50281e4beb9cfe23f98a2063e6dd92998f7a0b5aba94ead1c475", func := "bordereau/bordereaulaw12.SlicesAhead", spec := "slicesAhead", unfollowed := true, recurses := true, named := ["math/bits.divideError", "math/bits.overflowError"], apart := false, narrowed := true }
def SlicesAheadUptoSaid : Prop := slicesAheadUptoRow.holds Try.pinned (OpenSpec.upto slicesAheadSpec)

/-- 'bordereaulaw12.SlicesLast', WHERE WHAT IT READS IS OF BULK AT MOST 1048576: true; the input reads as it did. -/
def slicesLastUptoRow : OpenClaim := { program := "ytbplccbjgfappaa", sum := "fc8ec47491ff50281e4beb9cfe23f98a2063e6dd92998f7a0b5aba94ead1c475", func := "bordereau/bordereaulaw12.SlicesLast", spec := "slicesLast", unfollowed := true, recurses := true, named := ["math/bits.divideError", "math/bits.overflowError"], apart := false, narrowed := true }
def SlicesLastUptoSaid : Prop := slicesLastUptoRow.holds Try.pinned (OpenSpec.upto slicesLastSpec)

/-- 'bordereaulaw12.SlicesAt', WHERE WHAT IT READS IS OF BULK AT MOST 1048576: true; the input reads as it did. -/
def slicesAtUptoRow : OpenClaim := { program := "ytbplccbjgfappaa", sum := "fc8ec47491ff50281e4beb9cfe23f98a2063e6dd92998f7a0b5aba94ead1c475", func := "bordereau/bordereaulaw12.SlicesAt", spec := "slicesAt", unfollowed := true, recurses := true, named := ["math/bits.divideError", "math/bits.overflowError"], apart := false, narrowed := true }
def SlicesAtUptoSaid : Prop := slicesAtUptoRow.holds Try.pinned (OpenSpec.upto slicesAtSpec)

/-- 'bordereaulaw12.SlicesWhole', WHERE WHAT IT READS IS OF BULK AT MOST 1048576: true; the input reads as it did. -/
def slicesWholeUptoRow : OpenClaim := { program := "ytbplccbjgfappaa", sum := "fc8ec47491ff50281e4beb9cfe23f98a2063e6dd92998f7a0b5aba94ead1c475", func := "bordereau/bordereaulaw12.SlicesWhole", spec := "slicesWhole", unfollowed := true, recurses := true, named := ["math/bits.divideError", "math/bits.overflowError"], apart := false, narrowed := true }
def SlicesWholeUptoSaid : Prop := slicesWholeUptoRow.holds Try.pinned (OpenSpec.upto slicesWholeSpec)

/-- 'bordereaulaw17.NoticeRight', WHERE WHAT IT READS IS OF BULK AT MOST 1048576: true; the input reads as it did. -/
def noticeRightUptoRow : OpenClaim := { program := "ytbplccbjgfappaa", sum := "fc8ec47491ff50281e4beb9cfe23f98a2063e6dd92998f7a0b5aba94ead1c475", func := "bordereau/bordereaulaw17.NoticeRight", spec := "noticeRight", unfollowed := true, recurses := true, named := ["math/bits.divideError", "math/bits.overflowError"], apart := false, narrowed := true }
def NoticeRightUptoSaid : Prop := noticeRightUptoRow.holds Try.pinned (OpenSpec.upto noticeRightSpec)

/-- 'bordereaulaw17.NoticeOwn', WHERE WHAT IT READS IS OF BULK AT MOST 1048576: true; the input reads as it did. -/
def noticeOwnUptoRow : OpenClaim := { program := "ytbplccbjgfappaa", sum := "fc8ec47491ff50281e4beb9cfe23f98a2063e6dd92998f7a0b5aba94ead1c475", func := "bordereau/bordereaulaw17.NoticeOwn", spec := "noticeOwn", unfollowed := true, recurses := true, named := ["math/bits.divideError", "math/bits.overflowError"], apart := false, narrowed := true }
def NoticeOwnUptoSaid : Prop := noticeOwnUptoRow.holds Try.pinned (OpenSpec.upto noticeOwnSpec)

/-- 'bordereaulaw17.NoticeOn', WHERE WHAT IT READS IS OF BULK AT MOST 1048576: true; the input reads as it did. -/
def noticeOnUptoRow : OpenClaim := { program := "ytbplccbjgfappaa", sum := "fc8ec47491ff50281e4beb9cfe23f98a2063e6dd92998f7a0b5aba94ead1c475", func := "bordereau/bordereaulaw17.NoticeOn", spec := "noticeOn", unfollowed := true, recurses := true, named := ["math/bits.divideError", "math/bits.overflowError"], apart := false, narrowed := true }
def NoticeOnUptoSaid : Prop := noticeOnUptoRow.holds Try.pinned (OpenSpec.upto noticeOnSpec)

/-- 'bordereaulaw17.NoticeStays', WHERE WHAT IT READS IS OF BULK AT MOST 1048576: true; the input reads as it did. -/
def noticeStaysUptoRow : OpenClaim := { program := "ytbplccbjgfappaa", sum := "fc8ec47491ff50281e4beb9cfe23f98a2063e6dd92998f7a0b5aba94ead1c475", func := "bordereau/bordereaulaw17.NoticeStays", spec := "noticeStays", unfollowed := true, recurses := true, named := ["math/bits.divideError", "math/bits.overflowError"], apart := false, narrowed := true }
def NoticeStaysUptoSaid : Prop := noticeStaysUptoRow.holds Try.pinned (OpenSpec.upto noticeStaysSpec)

/-- 'bordereaulaw14.AccruePolicies', WHERE WHAT IT READS IS OF BULK AT MOST 1048576: true; the input reads as it did. -/
def accruePoliciesUptoRow : OpenClaim := { program := "ytbplccbjgfappaa", sum := "fc8ec47491ff50281e4beb9cfe23f98a2063e6dd92998f7a0b5aba94ead1c475", func := "bordereau/bordereaulaw14.AccruePolicies", spec := "accruePolicies", unfollowed := true, recurses := true, named := ["math/bits.divideError", "math/bits.overflowError"], apart := false, narrowed := true }
def AccruePoliciesUptoSaid : Prop := accruePoliciesUptoRow.holds Try.pinned (OpenSpec.upto accruePoliciesSpec)

/-- 'bordereaulaw12.SlicesCosts', WHERE WHAT IT READS IS OF BULK AT MOST 1048576: true; the input reads as it did. -/
def slicesCostsUptoRow : OpenClaim := { program := "ytbplccbjgfappaa", sum := "fc8ec47491ff50281e4beb9cfe23f98a2063e6dd92998f7a0b5aba94ead1c475", func := "bordereau/bordereaulaw12.SlicesCosts", spec := "slicesCosts", inPlace := ["slices.overlaps[bordereau/api.Version]"], unfollowed := true, recurses := true, named := ["math/bits.divideError", "math/bits.overflowError"], apart := false, narrowed := true }
def SlicesCostsUptoSaid : Prop := slicesCostsUptoRow.holds Try.pinned (OpenSpec.upto slicesCostsSpec)

end Rows
end Go.Proofs.Ytbplccbjgfappaa
