/-
  Proved: accrue earns never less ahead of a later day, from 0 up to what is written: bordereaulaw14.AccrueRises returns true for every input. No condition beyond the row's own.
-/
import Derived.Test.YtbfcnjddddjbbaaF1
import Derived.Test.YtbfcnjddddjbbaaAbD
import Derived.Test.YtbfcnjddddjbbaaRows
namespace Go.Proofs.Ytbfcnjddddjbbaa
open Go Go.Ab Go.RowKit Go.Proofs

theorem own : ownKnob Try.prog.godebug = none := by kernel_rfl
theorem laidOut : laidOutB Try.prog = true := by kernel_rfl

set_option maxRecDepth 100000 in
theorem accrueRises_lifted (os : Os) (started : os.Started) (H : Type) (enc : TypeId × Value → H) :
    ReturnsInHanded {} Try.checked os 3 .any (Rows.accrueRisesSpec.pre6 enc Try.prog Try.f3 [] false) (Rows.accrueRisesSpec.post enc Try.prog Try.f3 false true false false) := by
  refine returnsInHanded_of_change (C := Try.checked) own started (by kernel_rfl) Try.func3
    (ChangeSpec.witness6 (C := Try.checked) false ⟨#[], #[.slice none 0 0, .int .i64 0, .int .i64 0], []⟩ 12 (by kernel_rfl) (by kernel_rfl) (by kernel_rfl) (by kernel_rfl)) ?_
  intro W base args ds gs before hval hW _ _
  exact law_contract (tb := 4) (ps := [.d slsT, .d i64, .d i64]) laidOut (by kernel_rfl) (by kernel_rfl) rfl (by kernel_rfl) (by kernel_rfl) (fun ds h => by
    have h3 : ds.length = 3 := h
    match ds, h3 with
    | [_, _, _], _ => rfl) rises_ok W base args ds gs before hval hW

theorem accrueRises_holds : Rows.AccrueRisesSaid :=
  OpenClaim.holds_of_wide 3 Try.f3 rfl rfl rfl rfl rfl rfl rfl ⟨rfl, rfl, rfl, rfl, rfl⟩ rfl rfl rfl rfl rfl (by kernel_rfl) Try.func3 (by kernel_rfl)
    (of_decide_eq_true (by kernel_rfl)) (by unfold Func.isWrapper; first | (rw [if_pos (by decide +kernel)]; kernel_rfl) | (rw [if_neg (by decide +kernel)]; exact ⟨rfl, rfl⟩))
    (fun os started H enc _ => accrueRises_lifted os started H enc)

end Go.Proofs.Ytbfcnjddddjbbaa
