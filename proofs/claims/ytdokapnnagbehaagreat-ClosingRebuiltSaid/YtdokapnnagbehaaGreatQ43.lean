/-
  Proved: books that are rebuilt from what was known on a day say of that day what they said: bordereaulaw30.ClosingRebuilt returns true for every input.
-/
import Derived.Test.YtdokapnnagbehaaGreatMf
import Derived.Test.YtdokapnnagbehaaGreatRows
namespace Go.Proofs.YtdokapnnagbehaaGreat
open Go Go.Ab Go.RowKit Go.Proofs
theorem own : ownKnob Tryz.prog.godebug = none := by kernel_rfl
theorem laidOut : laidOutB Tryz.prog = true := by kernel_rfl
set_option maxRecDepth 100000 in
theorem lifted (os : Os) (started : os.Started) (H : Type) (enc : TypeId × Value → H) :
    ReturnsInHanded {} Tryz.checked os 10 .any (Rows.closingRebuiltSpec.pre6 enc Tryz.prog Tryz.f10 [] false) (Rows.closingRebuiltSpec.post enc Tryz.prog Tryz.f10 false true false false) := by
  refine returnsInHanded_of_change (C := Tryz.checked) own started (by kernel_rfl) Tryz.func10
    (ChangeSpec.witness6 (C := Tryz.checked) false ⟨#[], #[.agg #[.slice none 0 0, .slice none 0 0], .int .i64 0], []⟩ 12 (by kernel_rfl) (by kernel_rfl) (by kernel_rfl) (by kernel_rfl)) ?_
  intro W base args ds gs before hval hW _ _
  exact law_contract (tb := 4) (ps := psR) laidOut (by kernel_rfl) (by kernel_rfl) rfl (by kernel_rfl) (by kernel_rfl) (fun ds h => by
    have hn : ds.length = 2 := h
    match ds, hn with
    | [_, _], _ => rfl) rebuilt30_ok W base args ds gs before hval hW
variable {a b c d e f g h i j k l m : Bool}
theorem and_g1 (x : a = true) (y : (b) = true) : (a && b) = true := by subst x; exact y
theorem and_g4 (x : a = true) (y : (b && c && d && e) = true) : (a && b && c && d && e) = true := by subst x; exact y
theorem and_g6 (x : a = true) (y : (b && c && d && e && f && g) = true) : (a && b && c && d && e && f && g) = true := by subst x; exact y
theorem and_g7 (x : a = true) (y : (b && c && d && e && f && g && h) = true) : (a && b && c && d && e && f && g && h) = true := by subst x; exact y
theorem and_g12 (x : a = true) (y : (b && c && d && e && f && g && h && i && j && k && l && m) = true) : (a && b && c && d && e && f && g && h && i && j && k && l && m) = true := by subst x; exact y
set_option maxRecDepth 100000 in
set_option maxHeartbeats 4000000 in
theorem joined : joinedFacts Tryz.pinned.checked.prog 10 Tryz.f10 Rows.closingRebuiltSpec Rows.closingRebuiltRow = true := by
  unfold joinedFacts
  refine and_g6 (and_g1 (and_g12 (and_g4 (and_g7 (and_g1 ?_ ?_) ?_) ?_) ?_) ?_) ?_
  all_goals as_aux_lemma => kernel_rfl
theorem named : Tryz.pinned.checked.prog.funcNamed Rows.closingRebuiltRow.func = some 10 := by kernel_rfl
theorem isInst : Func.isInstance Tryz.pinned.checked.prog Tryz.f10 Rows.closingRebuiltRow.origin Rows.closingRebuiltRow.targs := of_decide_eq_true (by kernel_rfl)
theorem isWrap : Func.isWrapper Tryz.pinned.checked.prog Tryz.f10 Rows.closingRebuiltRow.wrapper Rows.closingRebuiltRow.mainSum := by unfold Func.isWrapper; first | (rw [if_pos (by decide +kernel)]; kernel_rfl) | (rw [if_neg (by decide +kernel)]; exact ⟨rfl, rfl⟩)
theorem closingRebuilt_holds : Rows.ClosingRebuiltSaid :=
  OpenClaim.holds_of_wide 10 Tryz.f10 rfl rfl rfl rfl rfl rfl rfl ⟨rfl, rfl, rfl, rfl, rfl⟩ rfl rfl rfl rfl rfl named Tryz.func10 joined isInst isWrap
    (fun os started H enc _ => lifted os started H enc)
end Go.Proofs.YtdokapnnagbehaaGreat
