/-
  Proved: a closing of which one number is another one is not right, and the one that books say is: bordereaulaw30.ClosingNumbers returns true for every input. No condition beyond the row's own.
-/
import Derived.Test.YtmcjmjbeknbddaaGreatMh
import Derived.Test.YtmcjmjbeknbddaaGreatRows
namespace Go.Proofs.YtmcjmjbeknbddaaGreat
open Go Go.Ab Go.RowKit Go.Proofs

theorem own : ownKnob Tryz.prog.godebug = none := by kernel_rfl
theorem laidOut : laidOutB Tryz.prog = true := by kernel_rfl

set_option maxRecDepth 100000 in
theorem closingNumbers_lifted (os : Os) (started : os.Started) (H : Type) (enc : TypeId × Value → H) :
    ReturnsInHanded {} Tryz.checked os 6 .any (Rows.closingNumbersSpec.pre6 enc Tryz.prog Tryz.f6 [] false) (Rows.closingNumbersSpec.post enc Tryz.prog Tryz.f6 false true false false) := by
  refine returnsInHanded_of_change (C := Tryz.checked) own started (by kernel_rfl) Tryz.func6
    (ChangeSpec.witness6 (C := Tryz.checked) false ⟨#[], #[.agg #[.slice none 0 0, .slice none 0 0], .int .i64 0, .int .u8 0, .int .i64 0], []⟩ 12 (by kernel_rfl) (by kernel_rfl) (by kernel_rfl) (by kernel_rfl)) ?_
  intro W base args ds gs before hval hW _ _
  exact law_contract (tb := 4) (ps := [.d jourT, .d i64, .d u8n, .d i64]) laidOut (by kernel_rfl) (by kernel_rfl) rfl (by kernel_rfl) (by kernel_rfl) (fun ds h => by
    have hn : ds.length = 4 := h
    match ds, hn with
    | [_, _, _, _], _ => rfl) law30n_ok W base args ds gs before hval hW

theorem joined : joinedFacts Tryz.pinned.checked.prog 6 Tryz.f6 Rows.closingNumbersSpec Rows.closingNumbersRow = true := by kernel_rfl
theorem named : Tryz.pinned.checked.prog.funcNamed Rows.closingNumbersRow.func = some 6 := by kernel_rfl
theorem isInst : Func.isInstance Tryz.pinned.checked.prog Tryz.f6 Rows.closingNumbersRow.origin Rows.closingNumbersRow.targs := of_decide_eq_true (by kernel_rfl)
theorem isWrap : Func.isWrapper Tryz.pinned.checked.prog Tryz.f6 Rows.closingNumbersRow.wrapper Rows.closingNumbersRow.mainSum := by unfold Func.isWrapper; first | (rw [if_pos (by decide +kernel)]; kernel_rfl) | (rw [if_neg (by decide +kernel)]; exact ⟨rfl, rfl⟩)

theorem closingNumbers_holds : Rows.ClosingNumbersSaid :=
  OpenClaim.holds_of_wide 6 Tryz.f6 rfl rfl rfl rfl rfl rfl rfl ⟨rfl, rfl, rfl, rfl, rfl⟩ rfl rfl rfl rfl rfl named Tryz.func6 joined isInst isWrap
    (fun os started H enc _ => closingNumbers_lifted os started H enc)

end Go.Proofs.YtmcjmjbeknbddaaGreat
