/-
  Proved: the change that comes last of a day counts: bordereaulaw12.SlicesLast returns true for every input. No condition beyond the row's own.
-/
import Derived.Test.YtbplccbjgfappaaP7
import Derived.Test.YtbplccbjgfappaaRows
namespace Go.Proofs.Ytbplccbjgfappaa
open Go Go.Ab Go.RowKit Go.Proofs

theorem own : ownKnob Try.prog.godebug = none := by kernel_rfl
theorem laidOut : laidOutB Try.prog = true := by kernel_rfl

set_option maxRecDepth 100000 in
theorem slicesLast_lifted (os : Os) (started : os.Started) (H : Type) (enc : TypeId × Value → H) :
    ReturnsInHanded {} Try.checked os 6 .any (Rows.slicesLastSpec.pre6 enc Try.prog Try.f6 [] false) (Rows.slicesLastSpec.post enc Try.prog Try.f6 false true false false) := by
  refine returnsInHanded_of_change (C := Try.checked) own started (by kernel_rfl) Try.func6
    (ChangeSpec.witness6 (C := Try.checked) false ⟨#[], #[.slice none 0 0, .int .u8 0], []⟩ 12 (by kernel_rfl) (by kernel_rfl) (by kernel_rfl) (by kernel_rfl)) ?_
  intro W base args ds gs before hval hW _ _
  exact law_contract (tb := 4) (ps := [.d (.sl changeT), .d (.int .u8)]) laidOut (by kernel_rfl) (by kernel_rfl) rfl (by kernel_rfl) (by kernel_rfl) (fun ds h => by
    have hn : ds.length = 2 := h
    match ds, hn with
    | [_, _], _ => rfl) lawLast_ok W base args ds gs before hval hW

theorem slicesLast_holds : Rows.SlicesLastSaid :=
  OpenClaim.holds_of_wide 6 Try.f6 rfl rfl rfl rfl rfl rfl rfl ⟨rfl, rfl, rfl, rfl, rfl⟩ rfl rfl rfl rfl rfl (by kernel_rfl) Try.func6 (by kernel_rfl)
    (of_decide_eq_true (by kernel_rfl)) (by unfold Func.isWrapper; first | (rw [if_pos (by decide +kernel)]; kernel_rfl) | (rw [if_neg (by decide +kernel)]; exact ⟨rfl, rfl⟩))
    (fun os started H enc _ => slicesLast_lifted os started H enc)

end Go.Proofs.Ytbplccbjgfappaa
