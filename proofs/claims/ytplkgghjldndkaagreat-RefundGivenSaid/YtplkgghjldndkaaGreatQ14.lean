/-
  Proved: how much less is due with any change is as the document says: bordereaulaw15.RefundGiven returns true for every input. No condition beyond the row's own.
-/
import Derived.Test.YtplkgghjldndkaaGreatMh
import Derived.Test.YtplkgghjldndkaaGreatRows
namespace Go.Proofs.YtplkgghjldndkaaGreat
open Go Go.Ab Go.RowKit Go.Proofs

theorem own : ownKnob Tryz.prog.godebug = none := by kernel_rfl
theorem laidOut : laidOutB Tryz.prog = true := by kernel_rfl

set_option maxRecDepth 100000 in
theorem refundGiven_lifted (os : Os) (started : os.Started) (H : Type) (enc : TypeId × Value → H) :
    ReturnsInHanded {} Tryz.checked os 7 .any (Rows.refundGivenSpec.pre6 enc Tryz.prog Tryz.f7 [] false) (Rows.refundGivenSpec.post enc Tryz.prog Tryz.f7 false true false false) := by
  refine returnsInHanded_of_change (C := Tryz.checked) own started (by kernel_rfl) Tryz.func7
    (ChangeSpec.witness6 (C := Tryz.checked) false ⟨#[], #[.agg #[.int .i64 0, .int .i64 0, .int .i64 0, .int .i64 0, .int .i64 0, .int .i64 0, .int .i64 0, .int .i64 0, .slice none 0 0, .slice none 0 0], .agg #[.slice none 0 0], .agg #[.int .i64 0, .int .i64 0, .int .i64 0, .int .i64 0, .int .i64 0, .int .i64 0, .int .i64 0, .slice none 0 0, .int .i64 0]], []⟩ 12 (by kernel_rfl) (by kernel_rfl) (by kernel_rfl) (by kernel_rfl)) ?_
  intro W base args ds gs before hval hW _ _
  exact law_contract (tb := 4) (ps := [.d histT, .d tarT, .d changeT]) laidOut (by kernel_rfl) (by kernel_rfl) rfl (by kernel_rfl) (by kernel_rfl) (fun ds h => by
    have hn : ds.length = 3 := h
    match ds, hn with
    | [_, _, _], _ => rfl) lawGiven_ok W base args ds gs before hval hW

theorem refundGiven_holds : Rows.RefundGivenSaid :=
  OpenClaim.holds_of_wide 7 Tryz.f7 rfl rfl rfl rfl rfl rfl rfl ⟨rfl, rfl, rfl, rfl, rfl⟩ rfl rfl rfl rfl rfl (by kernel_rfl) Tryz.func7 (by kernel_rfl)
    (of_decide_eq_true (by kernel_rfl)) (by unfold Func.isWrapper; first | (rw [if_pos (by decide +kernel)]; kernel_rfl) | (rw [if_neg (by decide +kernel)]; exact ⟨rfl, rfl⟩))
    (fun os started H enc _ => refundGiven_lifted os started H enc)

end Go.Proofs.YtplkgghjldndkaaGreat
