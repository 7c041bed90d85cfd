/-
  Proved: once books are closed behind the end of all policies, all that is due is earned, and nothing is left that isnt: bordereautop.TopPremiumEnd returns true for every input. No condition beyond the row's own.
-/
import Derived.Test.YtdadnmgajcfkfaaGreatMl
import Derived.Test.YtdadnmgajcfkfaaGreatRows
namespace Go.Proofs.YtdadnmgajcfkfaaGreat
open Go Go.Ab Go.RowKit Go.Proofs

theorem own : ownKnob Tryz.prog.godebug = none := by kernel_rfl
theorem laidOut : laidOutB Tryz.prog = true := by kernel_rfl

set_option maxRecDepth 100000 in
theorem topPremiumEnd_lifted (os : Os) (started : os.Started) (H : Type) (enc : TypeId × Value → H) :
    ReturnsInHanded {} Tryz.checked os 4 .any (Rows.topPremiumEndSpec.pre6 enc Tryz.prog Tryz.f4 [] false) (Rows.topPremiumEndSpec.post enc Tryz.prog Tryz.f4 false true false false) := by
  refine returnsInHanded_of_change (C := Tryz.checked) own started (by kernel_rfl) Tryz.func4
    (ChangeSpec.witness6 (C := Tryz.checked) false ⟨#[], #[.agg #[.slice none 0 0, .slice none 0 0]], []⟩ 12 (by kernel_rfl) (by kernel_rfl) (by kernel_rfl) (by kernel_rfl)) ?_
  intro W base args ds gs before hval hW _ _
  exact law_contract (tb := 4) (ps := [.d jourT]) laidOut (by kernel_rfl) (by kernel_rfl) rfl (by kernel_rfl) (by kernel_rfl) (fun ds h => by
    have hn : ds.length = 1 := h
    match ds, hn with
    | [_], _ => rfl) lawPE_ok W base args ds gs before hval hW

theorem and_g1 {a b0 : Bool} (h : a = true) (h2 : (b0) = true) : (a && b0) = true := by
  subst h
  exact h2
theorem and_g4 {a b0 b1 b2 b3 : Bool} (h : a = true) (h2 : (b0 && b1 && b2 && b3) = true) : (a && b0 && b1 && b2 && b3) = true := by
  subst h
  exact h2
theorem and_g6 {a b0 b1 b2 b3 b4 b5 : Bool} (h : a = true) (h2 : (b0 && b1 && b2 && b3 && b4 && b5) = true) : (a && b0 && b1 && b2 && b3 && b4 && b5) = true := by
  subst h
  exact h2
theorem and_g7 {a b0 b1 b2 b3 b4 b5 b6 : Bool} (h : a = true) (h2 : (b0 && b1 && b2 && b3 && b4 && b5 && b6) = true) : (a && b0 && b1 && b2 && b3 && b4 && b5 && b6) = true := by
  subst h
  exact h2
theorem and_g12 {a b0 b1 b2 b3 b4 b5 b6 b7 b8 b9 b10 b11 : Bool} (h : a = true) (h2 : (b0 && b1 && b2 && b3 && b4 && b5 && b6 && b7 && b8 && b9 && b10 && b11) = true) : (a && b0 && b1 && b2 && b3 && b4 && b5 && b6 && b7 && b8 && b9 && b10 && b11) = true := by
  subst h
  exact h2
set_option maxRecDepth 100000 in
set_option maxHeartbeats 4000000 in
theorem joined : joinedFacts Tryz.pinned.checked.prog 4 Tryz.f4 Rows.topPremiumEndSpec Rows.topPremiumEndRow = true := by
  unfold joinedFacts
  refine and_g6 (and_g1 (and_g12 (and_g4 (and_g7 (and_g1 ?_ ?_) ?_) ?_) ?_) ?_) ?_
  all_goals as_aux_lemma => kernel_rfl
theorem named : Tryz.pinned.checked.prog.funcNamed Rows.topPremiumEndRow.func = some 4 := by kernel_rfl
theorem isInst : Func.isInstance Tryz.pinned.checked.prog Tryz.f4 Rows.topPremiumEndRow.origin Rows.topPremiumEndRow.targs := of_decide_eq_true (by kernel_rfl)
theorem isWrap : Func.isWrapper Tryz.pinned.checked.prog Tryz.f4 Rows.topPremiumEndRow.wrapper Rows.topPremiumEndRow.mainSum := by unfold Func.isWrapper; first | (rw [if_pos (by decide +kernel)]; kernel_rfl) | (rw [if_neg (by decide +kernel)]; exact ⟨rfl, rfl⟩)

theorem topPremiumEnd_holds : Rows.TopPremiumEndSaid :=
  OpenClaim.holds_of_wide 4 Tryz.f4 rfl rfl rfl rfl rfl rfl rfl ⟨rfl, rfl, rfl, rfl, rfl⟩ rfl rfl rfl rfl rfl named Tryz.func4 joined isInst isWrap
    (fun os started H enc _ => topPremiumEnd_lifted os started H enc)

end Go.Proofs.YtdadnmgajcfkfaaGreat
