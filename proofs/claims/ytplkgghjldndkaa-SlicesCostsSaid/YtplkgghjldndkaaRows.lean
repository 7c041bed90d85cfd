/-
  No cell of these rows narrows 'for every input' (looked for: loops, veiled, ifaces, maps, wideKeys, modest, calm, conditions, laid).
  DERIVED. THE GIVEN ROWS OF THIS SEAT. 7 by the template 'for every input the law returns true; each argument reads behind the call as it read before'; 0 by the template 'total and deterministic' (their statements: YtplkgghjldndkaaTotals.lean).
  GIVEN WITH THE SEED: the statements are not yours to turn. If you find one false, say at which input.
  Laid BY PROGRAM, IN A SANDBOX (cutbox-rows.mjs): the forced cells as the released guide's own fill.sh prints them over the translation f5fefc66fad40fe2… (all of the seat's roots in one cut). By AI agents, Wed Nov 11 2026. No macro, syntax, notation, axiom, sorry.
-/
import Derived.Test.YtplkgghjldndkaaChecked
import GoSem.Claim
import GoSem.ClaimJoined
import GoSem.ClaimMapViews
import Derived.JoinedTies
import Derived.KernelRfl
namespace Go.Proofs.Ytplkgghjldndkaa
/- THE CELL 'sum', in the pinned program and in every row, IS THE sha256 OF THE DUMP (.gsa) THAT YtplkgghjldndkaaProg.lean LOADS. Nothing in Lean hashes anything: it is a label: what it is worth is what the hold of that sum in a sandbox is worth. -/
noncomputable def Try.pinned : Pinned := { name := "ytplkgghjldndkaa", sum := "f5fefc66fad40fe29351917f743911653ea7752759f59d1222589f6eabf9f37f", checked := Try.checked }
namespace Rows
def none {H : Type} : Left H := { results := [], args := [] }

/-- 'bordereaulaw17.NoticeRight': WHATEVER THE INPUT: true; the input reads as it did. -/
def noticeRightSpec : ChangeSpec := { name := "noticeRight", fn := fun _ => fun
  | [d] => { results := [.lit (.bool true)], args := [d] }
  | _ => none }
def noticeRightRow : OpenClaim := { program := "ytplkgghjldndkaa", sum := "f5fefc66fad40fe29351917f743911653ea7752759f59d1222589f6eabf9f37f", func := "bordereau/bordereaulaw17.NoticeRight", spec := "noticeRight", unfollowed := true, recurses := true, named := ["math/bits.divideError", "math/bits.overflowError"], apart := false }
def NoticeRightSaid : Prop := noticeRightRow.holds Try.pinned (OpenSpec.ofChange noticeRightSpec)

/-- ITS FALSE NEIGHBOUR: 'it returns false'. Refute it at one input. -/
def noticeRightWrong : ChangeSpec := { name := "noticeRight", fn := fun _ => fun
  | [d] => { results := [.lit (.bool false)], args := [d] }
  | _ => none }
def NoticeRightWrongFalsely : Prop := noticeRightRow.holds Try.pinned (OpenSpec.ofChange noticeRightWrong)

/-- 'bordereaulaw17.NoticeOwn': WHATEVER THE INPUT: true; the input reads as it did. -/
def noticeOwnSpec : ChangeSpec := { name := "noticeOwn", fn := fun _ => fun
  | [d1, d2, d3] => { results := [.lit (.bool true)], args := [d1, d2, d3] }
  | _ => none }
def noticeOwnRow : OpenClaim := { program := "ytplkgghjldndkaa", sum := "f5fefc66fad40fe29351917f743911653ea7752759f59d1222589f6eabf9f37f", func := "bordereau/bordereaulaw17.NoticeOwn", spec := "noticeOwn", unfollowed := true, recurses := true, named := ["math/bits.divideError", "math/bits.overflowError"], apart := false }
def NoticeOwnSaid : Prop := noticeOwnRow.holds Try.pinned (OpenSpec.ofChange noticeOwnSpec)

/-- ITS FALSE NEIGHBOUR: 'it returns false'. Refute it at one input. -/
def noticeOwnWrong : ChangeSpec := { name := "noticeOwn", fn := fun _ => fun
  | [d1, d2, d3] => { results := [.lit (.bool false)], args := [d1, d2, d3] }
  | _ => none }
def NoticeOwnWrongFalsely : Prop := noticeOwnRow.holds Try.pinned (OpenSpec.ofChange noticeOwnWrong)

/-- 'bordereaulaw17.NoticeOn': WHATEVER THE INPUT: true; the input reads as it did. -/
def noticeOnSpec : ChangeSpec := { name := "noticeOn", fn := fun _ => fun
  | [d1, d2, d3] => { results := [.lit (.bool true)], args := [d1, d2, d3] }
  | _ => none }
def noticeOnRow : OpenClaim := { program := "ytplkgghjldndkaa", sum := "f5fefc66fad40fe29351917f743911653ea7752759f59d1222589f6eabf9f37f", func := "bordereau/bordereaulaw17.NoticeOn", spec := "noticeOn", unfollowed := true, recurses := true, named := ["math/bits.divideError", "math/bits.overflowError"], apart := false }
def NoticeOnSaid : Prop := noticeOnRow.holds Try.pinned (OpenSpec.ofChange noticeOnSpec)

/-- ITS FALSE NEIGHBOUR: 'it returns false'. Refute it at one input. -/
def noticeOnWrong : ChangeSpec := { name := "noticeOn", fn := fun _ => fun
  | [d1, d2, d3] => { results := [.lit (.bool false)], args := [d1, d2, d3] }
  | _ => none }
def NoticeOnWrongFalsely : Prop := noticeOnRow.holds Try.pinned (OpenSpec.ofChange noticeOnWrong)

/-- 'bordereaulaw17.NoticeStays': WHATEVER THE INPUT: true; the input reads as it did. -/
def noticeStaysSpec : ChangeSpec := { name := "noticeStays", fn := fun _ => fun
  | [d1, d2, d3, d4] => { results := [.lit (.bool true)], args := [d1, d2, d3, d4] }
  | _ => none }
def noticeStaysRow : OpenClaim := { program := "ytplkgghjldndkaa", sum := "f5fefc66fad40fe29351917f743911653ea7752759f59d1222589f6eabf9f37f", func := "bordereau/bordereaulaw17.NoticeStays", spec := "noticeStays", unfollowed := true, recurses := true, named := ["math/bits.divideError", "math/bits.overflowError"], apart := false }
def NoticeStaysSaid : Prop := noticeStaysRow.holds Try.pinned (OpenSpec.ofChange noticeStaysSpec)

/-- ITS FALSE NEIGHBOUR: 'it returns false'. Refute it at one input. -/
def noticeStaysWrong : ChangeSpec := { name := "noticeStays", fn := fun _ => fun
  | [d1, d2, d3, d4] => { results := [.lit (.bool false)], args := [d1, d2, d3, d4] }
  | _ => none }
def NoticeStaysWrongFalsely : Prop := noticeStaysRow.holds Try.pinned (OpenSpec.ofChange noticeStaysWrong)

/-- 'bordereaulaw12.SlicesCosts': WHATEVER THE INPUT: true; the input reads as it did. -/
def slicesCostsSpec : ChangeSpec := { name := "slicesCosts", fn := fun _ => fun
  | [d1, d2, d3] => { results := [.lit (.bool true)], args := [d1, d2, d3] }
  | _ => none }
def slicesCostsRow : OpenClaim := { program := "ytplkgghjldndkaa", sum := "f5fefc66fad40fe29351917f743911653ea7752759f59d1222589f6eabf9f37f", func := "bordereau/bordereaulaw12.SlicesCosts", spec := "slicesCosts", inPlace := ["slices.overlaps[bordereau/api.Version]"], unfollowed := true, recurses := true, named := ["math/bits.divideError", "math/bits.overflowError"], apart := false }
def SlicesCostsSaid : Prop := slicesCostsRow.holds Try.pinned (OpenSpec.ofChange slicesCostsSpec)

/-- ITS FALSE NEIGHBOUR: 'it returns false'. Refute it at one input. -/
def slicesCostsWrong : ChangeSpec := { name := "slicesCosts", fn := fun _ => fun
  | [d1, d2, d3] => { results := [.lit (.bool false)], args := [d1, d2, d3] }
  | _ => none }
def SlicesCostsWrongFalsely : Prop := slicesCostsRow.holds Try.pinned (OpenSpec.ofChange slicesCostsWrong)

/-- 'bordereaulaw15.RefundBack': WHATEVER THE INPUT: true; the input reads as it did. -/
def refundBackSpec : ChangeSpec := { name := "refundBack", fn := fun _ => fun
  | [d1, d2, d3] => { results := [.lit (.bool true)], args := [d1, d2, d3] }
  | _ => none }
def refundBackRow : OpenClaim := { program := "ytplkgghjldndkaa", sum := "f5fefc66fad40fe29351917f743911653ea7752759f59d1222589f6eabf9f37f", func := "bordereau/bordereaulaw15.RefundBack", spec := "refundBack", unfollowed := true, recurses := true, named := ["math/bits.divideError", "math/bits.overflowError"], apart := false }
def RefundBackSaid : Prop := refundBackRow.holds Try.pinned (OpenSpec.ofChange refundBackSpec)

/-- ITS FALSE NEIGHBOUR: 'it returns false'. Refute it at one input. -/
def refundBackWrong : ChangeSpec := { name := "refundBack", fn := fun _ => fun
  | [d1, d2, d3] => { results := [.lit (.bool false)], args := [d1, d2, d3] }
  | _ => none }
def RefundBackWrongFalsely : Prop := refundBackRow.holds Try.pinned (OpenSpec.ofChange refundBackWrong)

/-- 'bordereaulaw15.RefundSums': WHATEVER THE INPUT: true; the input reads as it did. -/
def refundSumsSpec : ChangeSpec := { name := "refundSums", fn := fun _ => fun
  | [d1, d2, d3] => { results := [.lit (.bool true)], args := [d1, d2, d3] }
  | _ => none }
def refundSumsRow : OpenClaim := { program := "ytplkgghjldndkaa", sum := "f5fefc66fad40fe29351917f743911653ea7752759f59d1222589f6eabf9f37f", func := "bordereau/bordereaulaw15.RefundSums", spec := "refundSums", unfollowed := true, recurses := true, named := ["math/bits.divideError", "math/bits.overflowError"], apart := false }
def RefundSumsSaid : Prop := refundSumsRow.holds Try.pinned (OpenSpec.ofChange refundSumsSpec)

/-- ITS FALSE NEIGHBOUR: 'it returns false'. Refute it at one input. -/
def refundSumsWrong : ChangeSpec := { name := "refundSums", fn := fun _ => fun
  | [d1, d2, d3] => { results := [.lit (.bool false)], args := [d1, d2, d3] }
  | _ => none }
def RefundSumsWrongFalsely : Prop := refundSumsRow.holds Try.pinned (OpenSpec.ofChange refundSumsWrong)

/- THE SECOND FORM. 'bulk': how many values and letters a reading holds, each counted each time it is reached (what is shared counts as often as it is met; a slice's spare places count too). A statement '..UptoSaid' is the law's where the arguments, and the package variables that the reading takes, are together of bulk at most 1048576: NARROWER than '..Said'. Prove '..Said' where nothing that the law and all that it calls make is longer than what came in: it says more and counts as full. Else prove '..UptoSaid'. A law counts once. -/
mutual
def uptoBulk {H : Type} : DataW H → Nat
  | .lit (.string bytes) => bytes.length + 1
  | .lit _ => 1
  | .nil => 1
  | .ptr d => uptoBulk d + 1
  | .slice elems spare => uptoBulkAll elems + uptoBulkAll spare + 1
  | .agg parts => uptoBulkAll parts + 1
  | .iface _ d => uptoBulk d + 1
  | .map entries => uptoBulkEntries entries + 1
  | .held _ => 1
def uptoBulkAll {H : Type} : List (DataW H) → Nat
  | [] => 0
  | d :: r => uptoBulk d + uptoBulkAll r
def uptoBulkEntries {H : Type} : List (Lit × DataW H) → Nat
  | [] => 0
  | x :: r => uptoBulkEntry x + uptoBulkEntries r
def uptoBulkEntry {H : Type} : Lit × DataW H → Nat
  | (.string bytes, d) => bytes.length + uptoBulk d + 1
  | (_, d) => uptoBulk d + 1
 end
def uptoSmall : (H : Type) → List (DataW H) → Bool := fun _ ds => decide (uptoBulkAll ds ≤ 1048576)
def OpenSpec.upto (s : _root_.Go.ChangeSpec) : _root_.Go.OpenSpec := { _root_.Go.OpenSpec.ofChange s with cond := some uptoSmall }

/-- 'bordereaulaw17.NoticeRight', WHERE WHAT IT READS IS OF BULK AT MOST 1048576: true; the input reads as it did. -/
def noticeRightUptoRow : OpenClaim := { program := "ytplkgghjldndkaa", sum := "f5fefc66fad40fe29351917f743911653ea7752759f59d1222589f6eabf9f37f", func := "bordereau/bordereaulaw17.NoticeRight", spec := "noticeRight", unfollowed := true, recurses := true, named := ["math/bits.divideError", "math/bits.overflowError"], apart := false, narrowed := true }
def NoticeRightUptoSaid : Prop := noticeRightUptoRow.holds Try.pinned (OpenSpec.upto noticeRightSpec)

/-- 'bordereaulaw17.NoticeOwn', WHERE WHAT IT READS IS OF BULK AT MOST 1048576: true; the input reads as it did. -/
def noticeOwnUptoRow : OpenClaim := { program := "ytplkgghjldndkaa", sum := "f5fefc66fad40fe29351917f743911653ea7752759f59d1222589f6eabf9f37f", func := "bordereau/bordereaulaw17.NoticeOwn", spec := "noticeOwn", unfollowed := true, recurses := true, named := ["math/bits.divideError", "math/bits.overflowError"], apart := false, narrowed := true }
def NoticeOwnUptoSaid : Prop := noticeOwnUptoRow.holds Try.pinned (OpenSpec.upto noticeOwnSpec)

/-- 'bordereaulaw17.NoticeOn', WHERE WHAT IT READS IS OF BULK AT MOST 1048576: true; the input reads as it did. -/
def noticeOnUptoRow : OpenClaim := { program := "ytplkgghjldndkaa", sum := "f5fefc66fad40fe29351917f743911653ea7752759f59d1222589f6eabf9f37f", func := "bordereau/bordereaulaw17.NoticeOn", spec := "noticeOn", unfollowed := true, recurses := true, named := ["math/bits.divideError", "math/bits.overflowError"], apart := false, narrowed := true }
def NoticeOnUptoSaid : Prop := noticeOnUptoRow.holds Try.pinned (OpenSpec.upto noticeOnSpec)

/-- 'bordereaulaw17.NoticeStays', WHERE WHAT IT READS IS OF BULK AT MOST 1048576: true; the input reads as it did. -/
def noticeStaysUptoRow : OpenClaim := { program := "ytplkgghjldndkaa", sum := "f5fefc66fad40fe29351917f743911653ea7752759f59d1222589f6eabf9f37f", func := "bordereau/bordereaulaw17.NoticeStays", spec := "noticeStays", unfollowed := true, recurses := true, named := ["math/bits.divideError", "math/bits.overflowError"], apart := false, narrowed := true }
def NoticeStaysUptoSaid : Prop := noticeStaysUptoRow.holds Try.pinned (OpenSpec.upto noticeStaysSpec)

/-- 'bordereaulaw12.SlicesCosts', WHERE WHAT IT READS IS OF BULK AT MOST 1048576: true; the input reads as it did. -/
def slicesCostsUptoRow : OpenClaim := { program := "ytplkgghjldndkaa", sum := "f5fefc66fad40fe29351917f743911653ea7752759f59d1222589f6eabf9f37f", func := "bordereau/bordereaulaw12.SlicesCosts", spec := "slicesCosts", inPlace := ["slices.overlaps[bordereau/api.Version]"], unfollowed := true, recurses := true, named := ["math/bits.divideError", "math/bits.overflowError"], apart := false, narrowed := true }
def SlicesCostsUptoSaid : Prop := slicesCostsUptoRow.holds Try.pinned (OpenSpec.upto slicesCostsSpec)

/-- 'bordereaulaw15.RefundBack', WHERE WHAT IT READS IS OF BULK AT MOST 1048576: true; the input reads as it did. -/
def refundBackUptoRow : OpenClaim := { program := "ytplkgghjldndkaa", sum := "f5fefc66fad40fe29351917f743911653ea7752759f59d1222589f6eabf9f37f", func := "bordereau/bordereaulaw15.RefundBack", spec := "refundBack", unfollowed := true, recurses := true, named := ["math/bits.divideError", "math/bits.overflowError"], apart := false, narrowed := true }
def RefundBackUptoSaid : Prop := refundBackUptoRow.holds Try.pinned (OpenSpec.upto refundBackSpec)

/-- 'bordereaulaw15.RefundSums', WHERE WHAT IT READS IS OF BULK AT MOST 1048576: true; the input reads as it did. -/
def refundSumsUptoRow : OpenClaim := { program := "ytplkgghjldndkaa", sum := "f5fefc66fad40fe29351917f743911653ea7752759f59d1222589f6eabf9f37f", func := "bordereau/bordereaulaw15.RefundSums", spec := "refundSums", unfollowed := true, recurses := true, named := ["math/bits.divideError", "math/bits.overflowError"], apart := false, narrowed := true }
def RefundSumsUptoSaid : Prop := refundSumsUptoRow.holds Try.pinned (OpenSpec.upto refundSumsSpec)

end Rows
end Go.Proofs.Ytplkgghjldndkaa
