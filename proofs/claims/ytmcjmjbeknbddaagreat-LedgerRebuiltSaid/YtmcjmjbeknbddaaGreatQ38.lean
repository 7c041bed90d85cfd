/-
  Proved: the books of an earlier day are the beginning of those of a later one: bordereaulaw29.LedgerRebuilt returns true for every input. No condition beyond the row's own.
-/
import Derived.Test.YtmcjmjbeknbddaaGreatMh
import Derived.Test.YtmcjmjbeknbddaaGreatRows
namespace Go.Proofs.YtmcjmjbeknbddaaGreat
open Go Go.Ab Go.RowKit Go.Proofs

theorem own : ownKnob Tryz.prog.godebug = none := by kernel_rfl
theorem laidOut : laidOutB Tryz.prog = true := by kernel_rfl

set_option maxRecDepth 100000 in
theorem ledgerRebuilt_lifted (os : Os) (started : os.Started) (H : Type) (enc : TypeId × Value → H) :
    ReturnsInHanded {} Tryz.checked os 4 .any (Rows.ledgerRebuiltSpec.pre6 enc Tryz.prog Tryz.f4 [] false) (Rows.ledgerRebuiltSpec.post enc Tryz.prog Tryz.f4 false true false false) := by
  refine returnsInHanded_of_change (C := Tryz.checked) own started (by kernel_rfl) Tryz.func4
    (ChangeSpec.witness6 (C := Tryz.checked) false ⟨#[], #[.agg #[.slice none 0 0, .slice none 0 0], .agg #[.int .i64 0, .int .i64 0]], []⟩ 12 (by kernel_rfl) (by kernel_rfl) (by kernel_rfl) (by kernel_rfl)) ?_
  intro W base args ds gs before hval hW _ _
  exact law_contract (tb := 4) (ps := [.d jourT, .d twoT]) laidOut (by kernel_rfl) (by kernel_rfl) rfl (by kernel_rfl) (by kernel_rfl) (fun ds h => by
    have hn : ds.length = 2 := h
    match ds, hn with
    | [_, _], _ => rfl) rebuilt_ok W base args ds gs before hval hW

theorem joined : joinedFacts Tryz.pinned.checked.prog 4 Tryz.f4 Rows.ledgerRebuiltSpec Rows.ledgerRebuiltRow = true := by kernel_rfl
theorem named : Tryz.pinned.checked.prog.funcNamed Rows.ledgerRebuiltRow.func = some 4 := by kernel_rfl
theorem isInst : Func.isInstance Tryz.pinned.checked.prog Tryz.f4 Rows.ledgerRebuiltRow.origin Rows.ledgerRebuiltRow.targs := of_decide_eq_true (by kernel_rfl)
theorem isWrap : Func.isWrapper Tryz.pinned.checked.prog Tryz.f4 Rows.ledgerRebuiltRow.wrapper Rows.ledgerRebuiltRow.mainSum := by unfold Func.isWrapper; first | (rw [if_pos (by decide +kernel)]; kernel_rfl) | (rw [if_neg (by decide +kernel)]; exact ⟨rfl, rfl⟩)

theorem ledgerRebuilt_holds : Rows.LedgerRebuiltSaid :=
  OpenClaim.holds_of_wide 4 Tryz.f4 rfl rfl rfl rfl rfl rfl rfl ⟨rfl, rfl, rfl, rfl, rfl⟩ rfl rfl rfl rfl rfl named Tryz.func4 joined isInst isWrap
    (fun os started H enc _ => ledgerRebuilt_lifted os started H enc)

end Go.Proofs.YtmcjmjbeknbddaaGreat
