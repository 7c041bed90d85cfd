/-
  Proved: what the books said of a day stays, whatever is put later and booked behind that day: bordereaulaw29.LedgerNever returns true for every input. No condition beyond the row's own.
-/
import Derived.Test.YtmcjmjbeknbddaaGreatMh
import Derived.Test.YtmcjmjbeknbddaaGreatRows
namespace Go.Proofs.YtmcjmjbeknbddaaGreat
open Go Go.Ab Go.RowKit Go.Proofs

theorem own : ownKnob Tryz.prog.godebug = none := by kernel_rfl
theorem laidOut : laidOutB Tryz.prog = true := by kernel_rfl

set_option maxRecDepth 100000 in
theorem ledgerNever_lifted (os : Os) (started : os.Started) (H : Type) (enc : TypeId × Value → H) :
    ReturnsInHanded {} Tryz.checked os 3 .any (Rows.ledgerNeverSpec.pre6 enc Tryz.prog Tryz.f3 [] false) (Rows.ledgerNeverSpec.post enc Tryz.prog Tryz.f3 false true false false) := by
  refine returnsInHanded_of_change (C := Tryz.checked) own started (by kernel_rfl) Tryz.func3
    (ChangeSpec.witness6 (C := Tryz.checked) false ⟨#[], #[.agg #[.slice none 0 0, .slice none 0 0], .agg #[.int .i64 0, .int .i64 0, .int .i64 0, .int .i64 0, .int .i64 0, .int .i64 0, .int .i64 0, .int .i64 0, .int .i64 0, .int .i64 0, .int .i64 0, .slice none 0 0, .int .i64 0, .int .i64 0, .int .i64 0, .int .i64 0, .int .i64 0, .int .i64 0, .int .i64 0, .slice none 0 0, .int .i64 0, .int .i64 0, .int .i64 0, .int .i64 0, .int .i64 0, .int .i64 0, .int .i64 0, .int .i64 0, .int .i64 0, .int .i64 0, .int .i64 0, .int .i64 0, .int .i64 0, .int .i64 0, .int .i64 0, .int .i64 0, .int .i64 0, .int .i64 0, .int .i64 0], .int .i64 0], []⟩ 12 (by kernel_rfl) (by kernel_rfl) (by kernel_rfl) (by kernel_rfl)) ?_
  intro W base args ds gs before hval hW _ _
  exact law_contract (tb := 4) (ps := [.d jourT, .d factT, .d i64]) laidOut (by kernel_rfl) (by kernel_rfl) rfl (by kernel_rfl) (by kernel_rfl) (fun ds h => by
    have hn : ds.length = 3 := h
    match ds, hn with
    | [_, _, _], _ => rfl) never_ok W base args ds gs before hval hW

theorem joined : joinedFacts Tryz.pinned.checked.prog 3 Tryz.f3 Rows.ledgerNeverSpec Rows.ledgerNeverRow = true := by kernel_rfl
theorem named : Tryz.pinned.checked.prog.funcNamed Rows.ledgerNeverRow.func = some 3 := by kernel_rfl
theorem isInst : Func.isInstance Tryz.pinned.checked.prog Tryz.f3 Rows.ledgerNeverRow.origin Rows.ledgerNeverRow.targs := of_decide_eq_true (by kernel_rfl)
theorem isWrap : Func.isWrapper Tryz.pinned.checked.prog Tryz.f3 Rows.ledgerNeverRow.wrapper Rows.ledgerNeverRow.mainSum := by unfold Func.isWrapper; first | (rw [if_pos (by decide +kernel)]; kernel_rfl) | (rw [if_neg (by decide +kernel)]; exact ⟨rfl, rfl⟩)

theorem ledgerNever_holds : Rows.LedgerNeverSaid :=
  OpenClaim.holds_of_wide 3 Tryz.f3 rfl rfl rfl rfl rfl rfl rfl ⟨rfl, rfl, rfl, rfl, rfl⟩ rfl rfl rfl rfl rfl named Tryz.func3 joined isInst isWrap
    (fun os started H enc _ => ledgerNever_lifted os started H enc)

end Go.Proofs.YtmcjmjbeknbddaaGreat
