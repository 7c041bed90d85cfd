/-
  No cell of these rows narrows 'for every input' (looked for: loops, veiled, ifaces, maps, wideKeys, modest, calm, conditions, laid).
  DERIVED. THE GIVEN ROWS OF THIS SEAT. 7 by the template 'for every input the law returns true; each argument reads behind the call as it read before'; 0 by the template 'total and deterministic' (their statements: YtgieagiaagoogaaGreatTotals.lean).
  GIVEN WITH THE SEED: the statements are not yours to turn. If you find one false, say at which input.
  Laid BY PROGRAM, IN A SANDBOX (cutbox-rows.mjs): the forced cells as the released guide's own fill.sh prints them over the translation bec9ce685aa005c3… (all of the seat's roots in one cut). By AI agents, Wed Nov 11 2026. No macro, syntax, notation, axiom, sorry.
-/
import Derived.Test.YtgieagiaagoogaaGreatChecked
import GoSem.Claim
import GoSem.ClaimJoined
import GoSem.ClaimMapViews
import Derived.JoinedTies
import Derived.KernelRfl
namespace Go.Proofs.YtgieagiaagoogaaGreat
/- THE CELL 'sum', in the pinned program and in every row, IS THE sha256 OF THE DUMP (.gsa) THAT YtgieagiaagoogaaGreatProg.lean LOADS. Nothing in Lean hashes anything: it is a label: what it is worth is what the hold of that sum in a sandbox is worth. -/
noncomputable def Tryz.pinned : Pinned := { name := "ytgieagiaagoogaagreat", sum := "bec9ce685aa005c3c5dacbe01f9411e9ee8df0ccf810aa5824fc4bdae041f174", checked := Tryz.checked }
namespace Rows
def none {H : Type} : Left H := { results := [], args := [] }

/-- 'bordereaulaw28.StateApart': WHATEVER THE INPUT: true; the input reads as it did. -/
def stateApartSpec : ChangeSpec := { name := "stateApart", fn := fun _ => fun
  | [d1, d2, d3] => { results := [.lit (.bool true)], args := [d1, d2, d3] }
  | _ => none }
def stateApartRow : OpenClaim := { program := "ytgieagiaagoogaagreat", sum := "bec9ce685aa005c3c5dacbe01f9411e9ee8df0ccf810aa5824fc4bdae041f174", func := "bordereau/bordereaulaw28.StateApart", spec := "stateApart", unfollowed := true, recurses := true, apart := false }
def StateApartSaid : Prop := stateApartRow.holds Tryz.pinned (OpenSpec.ofChange stateApartSpec)

/-- ITS FALSE NEIGHBOUR: 'it returns false'. Refute it at one input. -/
def stateApartWrong : ChangeSpec := { name := "stateApart", fn := fun _ => fun
  | [d1, d2, d3] => { results := [.lit (.bool false)], args := [d1, d2, d3] }
  | _ => none }
def StateApartWrongFalsely : Prop := stateApartRow.holds Tryz.pinned (OpenSpec.ofChange stateApartWrong)

/-- 'bordereaulaw28.StateQuotas': WHATEVER THE INPUT: true; the input reads as it did. -/
def stateQuotasSpec : ChangeSpec := { name := "stateQuotas", fn := fun _ => fun
  | [d1, d2] => { results := [.lit (.bool true)], args := [d1, d2] }
  | _ => none }
def stateQuotasRow : OpenClaim := { program := "ytgieagiaagoogaagreat", sum := "bec9ce685aa005c3c5dacbe01f9411e9ee8df0ccf810aa5824fc4bdae041f174", func := "bordereau/bordereaulaw28.StateQuotas", spec := "stateQuotas", unfollowed := true, recurses := true, apart := false }
def StateQuotasSaid : Prop := stateQuotasRow.holds Tryz.pinned (OpenSpec.ofChange stateQuotasSpec)

/-- ITS FALSE NEIGHBOUR: 'it returns false'. Refute it at one input. -/
def stateQuotasWrong : ChangeSpec := { name := "stateQuotas", fn := fun _ => fun
  | [d1, d2] => { results := [.lit (.bool false)], args := [d1, d2] }
  | _ => none }
def StateQuotasWrongFalsely : Prop := stateQuotasRow.holds Tryz.pinned (OpenSpec.ofChange stateQuotasWrong)

/-- 'bordereaulaw28.StateRises': WHATEVER THE INPUT: true; the input reads as it did. -/
def stateRisesSpec : ChangeSpec := { name := "stateRises", fn := fun _ => fun
  | [d1, d2, d3] => { results := [.lit (.bool true)], args := [d1, d2, d3] }
  | _ => none }
def stateRisesRow : OpenClaim := { program := "ytgieagiaagoogaagreat", sum := "bec9ce685aa005c3c5dacbe01f9411e9ee8df0ccf810aa5824fc4bdae041f174", func := "bordereau/bordereaulaw28.StateRises", spec := "stateRises", unfollowed := true, recurses := true, named := ["math/bits.divideError", "math/bits.overflowError"], apart := false }
def StateRisesSaid : Prop := stateRisesRow.holds Tryz.pinned (OpenSpec.ofChange stateRisesSpec)

/-- ITS FALSE NEIGHBOUR: 'it returns false'. Refute it at one input. -/
def stateRisesWrong : ChangeSpec := { name := "stateRises", fn := fun _ => fun
  | [d1, d2, d3] => { results := [.lit (.bool false)], args := [d1, d2, d3] }
  | _ => none }
def StateRisesWrongFalsely : Prop := stateRisesRow.holds Tryz.pinned (OpenSpec.ofChange stateRisesWrong)

/-- 'bordereaulaw28.StateTells': WHATEVER THE INPUT: true; the input reads as it did. -/
def stateTellsSpec : ChangeSpec := { name := "stateTells", fn := fun _ => fun
  | [d1, d2, d3] => { results := [.lit (.bool true)], args := [d1, d2, d3] }
  | _ => none }
def stateTellsRow : OpenClaim := { program := "ytgieagiaagoogaagreat", sum := "bec9ce685aa005c3c5dacbe01f9411e9ee8df0ccf810aa5824fc4bdae041f174", func := "bordereau/bordereaulaw28.StateTells", spec := "stateTells", unfollowed := true, recurses := true, apart := false }
def StateTellsSaid : Prop := stateTellsRow.holds Tryz.pinned (OpenSpec.ofChange stateTellsSpec)

/-- ITS FALSE NEIGHBOUR: 'it returns false'. Refute it at one input. -/
def stateTellsWrong : ChangeSpec := { name := "stateTells", fn := fun _ => fun
  | [d1, d2, d3] => { results := [.lit (.bool false)], args := [d1, d2, d3] }
  | _ => none }
def StateTellsWrongFalsely : Prop := stateTellsRow.holds Tryz.pinned (OpenSpec.ofChange stateTellsWrong)

/-- 'bordereaulaw28.StateSteps': WHATEVER THE INPUT: true; the input reads as it did. -/
def stateStepsSpec : ChangeSpec := { name := "stateSteps", fn := fun _ => fun
  | [d1, d2] => { results := [.lit (.bool true)], args := [d1, d2] }
  | _ => none }
def stateStepsRow : OpenClaim := { program := "ytgieagiaagoogaagreat", sum := "bec9ce685aa005c3c5dacbe01f9411e9ee8df0ccf810aa5824fc4bdae041f174", func := "bordereau/bordereaulaw28.StateSteps", spec := "stateSteps", unfollowed := true, recurses := true, apart := false }
def StateStepsSaid : Prop := stateStepsRow.holds Tryz.pinned (OpenSpec.ofChange stateStepsSpec)

/-- ITS FALSE NEIGHBOUR: 'it returns false'. Refute it at one input. -/
def stateStepsWrong : ChangeSpec := { name := "stateSteps", fn := fun _ => fun
  | [d1, d2] => { results := [.lit (.bool false)], args := [d1, d2] }
  | _ => none }
def StateStepsWrongFalsely : Prop := stateStepsRow.holds Tryz.pinned (OpenSpec.ofChange stateStepsWrong)

/-- 'bordereaulaw28.StateCovered': WHATEVER THE INPUT: true; the input reads as it did. -/
def stateCoveredSpec : ChangeSpec := { name := "stateCovered", fn := fun _ => fun
  | [d] => { results := [.lit (.bool true)], args := [d] }
  | _ => none }
def stateCoveredRow : OpenClaim := { program := "ytgieagiaagoogaagreat", sum := "bec9ce685aa005c3c5dacbe01f9411e9ee8df0ccf810aa5824fc4bdae041f174", func := "bordereau/bordereaulaw28.StateCovered", spec := "stateCovered", unfollowed := true, recurses := true, named := ["math/bits.divideError", "math/bits.overflowError"], apart := false }
def StateCoveredSaid : Prop := stateCoveredRow.holds Tryz.pinned (OpenSpec.ofChange stateCoveredSpec)

/-- ITS FALSE NEIGHBOUR: 'it returns false'. Refute it at one input. -/
def stateCoveredWrong : ChangeSpec := { name := "stateCovered", fn := fun _ => fun
  | [d] => { results := [.lit (.bool false)], args := [d] }
  | _ => none }
def StateCoveredWrongFalsely : Prop := stateCoveredRow.holds Tryz.pinned (OpenSpec.ofChange stateCoveredWrong)

/-- 'bordereaulaw28.StateKnown': WHATEVER THE INPUT: true; the input reads as it did. -/
def stateKnownSpec : ChangeSpec := { name := "stateKnown", fn := fun _ => fun
  | [d1, d2, d3] => { results := [.lit (.bool true)], args := [d1, d2, d3] }
  | _ => none }
def stateKnownRow : OpenClaim := { program := "ytgieagiaagoogaagreat", sum := "bec9ce685aa005c3c5dacbe01f9411e9ee8df0ccf810aa5824fc4bdae041f174", func := "bordereau/bordereaulaw28.StateKnown", spec := "stateKnown", unfollowed := true, recurses := true, apart := false }
def StateKnownSaid : Prop := stateKnownRow.holds Tryz.pinned (OpenSpec.ofChange stateKnownSpec)

/-- ITS FALSE NEIGHBOUR: 'it returns false'. Refute it at one input. -/
def stateKnownWrong : ChangeSpec := { name := "stateKnown", fn := fun _ => fun
  | [d1, d2, d3] => { results := [.lit (.bool false)], args := [d1, d2, d3] }
  | _ => none }
def StateKnownWrongFalsely : Prop := stateKnownRow.holds Tryz.pinned (OpenSpec.ofChange stateKnownWrong)

/- THE SECOND FORM. 'bulk': how many values and letters a reading holds, each counted each time it is reached (what is shared counts as often as it is met; a slice's spare places count too). A statement '..UptoSaid' is the law's where the arguments, and the package variables that the reading takes, are together of bulk at most 1048576: NARROWER than '..Said'. Prove '..Said' where nothing that the law and all that it calls make is longer than what came in: it says more and counts as full. Else prove '..UptoSaid'. A law counts once. -/
mutual
def uptoBulk {H : Type} : DataW H → Nat
  | .lit (.string bytes) => bytes.length + 1
  | .lit _ => 1
  | .nil => 1
  | .ptr d => uptoBulk d + 1
  | .slice elems spare => uptoBulkAll elems + uptoBulkAll spare + 1
  | .agg parts => uptoBulkAll parts + 1
  | .iface _ d => uptoBulk d + 1
  | .map entries => uptoBulkEntries entries + 1
  | .held _ => 1
def uptoBulkAll {H : Type} : List (DataW H) → Nat
  | [] => 0
  | d :: r => uptoBulk d + uptoBulkAll r
def uptoBulkEntries {H : Type} : List (Lit × DataW H) → Nat
  | [] => 0
  | x :: r => uptoBulkEntry x + uptoBulkEntries r
def uptoBulkEntry {H : Type} : Lit × DataW H → Nat
  | (.string bytes, d) => bytes.length + uptoBulk d + 1
  | (_, d) => uptoBulk d + 1
 end
def uptoSmall : (H : Type) → List (DataW H) → Bool := fun _ ds => decide (uptoBulkAll ds ≤ 1048576)
def OpenSpec.upto (s : _root_.Go.ChangeSpec) : _root_.Go.OpenSpec := { _root_.Go.OpenSpec.ofChange s with cond := some uptoSmall }

/-- 'bordereaulaw28.StateApart', WHERE WHAT IT READS IS OF BULK AT MOST 1048576: true; the input reads as it did. -/
def stateApartUptoRow : OpenClaim := { program := "ytgieagiaagoogaagreat", sum := "bec9ce685aa005c3c5dacbe01f9411e9ee8df0ccf810aa5824fc4bdae041f174", func := "bordereau/bordereaulaw28.StateApart", spec := "stateApart", unfollowed := true, recurses := true, apart := false, narrowed := true }
def StateApartUptoSaid : Prop := stateApartUptoRow.holds Tryz.pinned (OpenSpec.upto stateApartSpec)

/-- 'bordereaulaw28.StateQuotas', WHERE WHAT IT READS IS OF BULK AT MOST 1048576: true; the input reads as it did. -/
def stateQuotasUptoRow : OpenClaim := { program := "ytgieagiaagoogaagreat", sum := "bec9ce685aa005c3c5dacbe01f9411e9ee8df0ccf810aa5824fc4bdae041f174", func := "bordereau/bordereaulaw28.StateQuotas", spec := "stateQuotas", unfollowed := true, recurses := true, apart := false, narrowed := true }
def StateQuotasUptoSaid : Prop := stateQuotasUptoRow.holds Tryz.pinned (OpenSpec.upto stateQuotasSpec)

/-- 'bordereaulaw28.StateRises', WHERE WHAT IT READS IS OF BULK AT MOST 1048576: true; the input reads as it did. -/
def stateRisesUptoRow : OpenClaim := { program := "ytgieagiaagoogaagreat", sum := "bec9ce685aa005c3c5dacbe01f9411e9ee8df0ccf810aa5824fc4bdae041f174", func := "bordereau/bordereaulaw28.StateRises", spec := "stateRises", unfollowed := true, recurses := true, named := ["math/bits.divideError", "math/bits.overflowError"], apart := false, narrowed := true }
def StateRisesUptoSaid : Prop := stateRisesUptoRow.holds Tryz.pinned (OpenSpec.upto stateRisesSpec)

/-- 'bordereaulaw28.StateTells', WHERE WHAT IT READS IS OF BULK AT MOST 1048576: true; the input reads as it did. -/
def stateTellsUptoRow : OpenClaim := { program := "ytgieagiaagoogaagreat", sum := "bec9ce685aa005c3c5dacbe01f9411e9ee8df0ccf810aa5824fc4bdae041f174", func := "bordereau/bordereaulaw28.StateTells", spec := "stateTells", unfollowed := true, recurses := true, apart := false, narrowed := true }
def StateTellsUptoSaid : Prop := stateTellsUptoRow.holds Tryz.pinned (OpenSpec.upto stateTellsSpec)

/-- 'bordereaulaw28.StateSteps', WHERE WHAT IT READS IS OF BULK AT MOST 1048576: true; the input reads as it did. -/
def stateStepsUptoRow : OpenClaim := { program := "ytgieagiaagoogaagreat", sum := "bec9ce685aa005c3c5dacbe01f9411e9ee8df0ccf810aa5824fc4bdae041f174", func := "bordereau/bordereaulaw28.StateSteps", spec := "stateSteps", unfollowed := true, recurses := true, apart := false, narrowed := true }
def StateStepsUptoSaid : Prop := stateStepsUptoRow.holds Tryz.pinned (OpenSpec.upto stateStepsSpec)

/-- 'bordereaulaw28.StateCovered', WHERE WHAT IT READS IS OF BULK AT MOST 1048576: true; the input reads as it did. -/
def stateCoveredUptoRow : OpenClaim := { program := "ytgieagiaagoogaagreat", sum := "bec9ce685aa005c3c5dacbe01f9411e9ee8df0ccf810aa5824fc4bdae041f174", func := "bordereau/bordereaulaw28.StateCovered", spec := "stateCovered", unfollowed := true, recurses := true, named := ["math/bits.divideError", "math/bits.overflowError"], apart := false, narrowed := true }
def StateCoveredUptoSaid : Prop := stateCoveredUptoRow.holds Tryz.pinned (OpenSpec.upto stateCoveredSpec)

/-- 'bordereaulaw28.StateKnown', WHERE WHAT IT READS IS OF BULK AT MOST 1048576: true; the input reads as it did. -/
def stateKnownUptoRow : OpenClaim := { program := "ytgieagiaagoogaagreat", sum := "bec9ce685aa005c3c5dacbe01f9411e9ee8df0ccf810aa5824fc4bdae041f174", func := "bordereau/bordereaulaw28.StateKnown", spec := "stateKnown", unfollowed := true, recurses := true, apart := false, narrowed := true }
def StateKnownUptoSaid : Prop := stateKnownUptoRow.holds Tryz.pinned (OpenSpec.upto stateKnownSpec)

end Rows
end Go.Proofs.YtgieagiaagoogaaGreat
