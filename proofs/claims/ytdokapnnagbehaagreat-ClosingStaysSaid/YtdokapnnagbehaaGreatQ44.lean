/-
  Proved: a day that is closed stays as it was closed: bordereaulaw30.ClosingStays returns true for every input.
-/
import Derived.Test.YtdokapnnagbehaaGreatMf
import Derived.Test.YtdokapnnagbehaaGreatRows
namespace Go.Proofs.YtdokapnnagbehaaGreat
open Go Go.Ab Go.RowKit Go.Proofs
theorem own : ownKnob Tryz.prog.godebug = none := by kernel_rfl
theorem laidOut : laidOutB Tryz.prog = true := by kernel_rfl
set_option maxRecDepth 100000 in
theorem lifted (os : Os) (started : os.Started) (H : Type) (enc : TypeId × Value → H) :
    ReturnsInHanded {} Tryz.checked os 11 .any (Rows.closingStaysSpec.pre6 enc Tryz.prog Tryz.f11 [] false) (Rows.closingStaysSpec.post enc Tryz.prog Tryz.f11 false true false false) := by
  refine returnsInHanded_of_change (C := Tryz.checked) own started (by kernel_rfl) Tryz.func11
    (ChangeSpec.witness6 (C := Tryz.checked) false ⟨#[], #[.agg #[.slice none 0 0, .slice none 0 0], .agg #[.int .i64 0, .int .i64 0, .int .i64 0, .int .i64 0, .int .i64 0, .int .i64 0, .int .i64 0, .int .i64 0, .int .i64 0, .int .i64 0, .int .i64 0, .slice none 0 0, .int .i64 0, .int .i64 0, .int .i64 0, .int .i64 0, .int .i64 0, .int .i64 0, .int .i64 0, .slice none 0 0, .int .i64 0, .int .i64 0, .int .i64 0, .int .i64 0, .int .i64 0, .int .i64 0, .int .i64 0, .int .i64 0, .int .i64 0, .int .i64 0, .int .i64 0, .int .i64 0, .int .i64 0, .int .i64 0, .int .i64 0, .int .i64 0, .int .i64 0, .int .i64 0, .int .i64 0], .int .i64 0], []⟩ 12 (by kernel_rfl) (by kernel_rfl) (by kernel_rfl) (by kernel_rfl)) ?_
  intro W base args ds gs before hval hW _ _
  exact law_contract (tb := 4) (ps := psS) laidOut (by kernel_rfl) (by kernel_rfl) rfl (by kernel_rfl) (by kernel_rfl) (fun ds h => by
    have hn : ds.length = 3 := h
    match ds, hn with
    | [_, _, _], _ => rfl) stays30_ok W base args ds gs before hval hW
variable {a b c d e f g h i j k l m : Bool}
theorem and_g1 (x : a = true) (y : (b) = true) : (a && b) = true := by subst x; exact y
theorem and_g4 (x : a = true) (y : (b && c && d && e) = true) : (a && b && c && d && e) = true := by subst x; exact y
theorem and_g6 (x : a = true) (y : (b && c && d && e && f && g) = true) : (a && b && c && d && e && f && g) = true := by subst x; exact y
theorem and_g7 (x : a = true) (y : (b && c && d && e && f && g && h) = true) : (a && b && c && d && e && f && g && h) = true := by subst x; exact y
theorem and_g12 (x : a = true) (y : (b && c && d && e && f && g && h && i && j && k && l && m) = true) : (a && b && c && d && e && f && g && h && i && j && k && l && m) = true := by subst x; exact y
set_option maxRecDepth 100000 in
set_option maxHeartbeats 4000000 in
theorem joined : joinedFacts Tryz.pinned.checked.prog 11 Tryz.f11 Rows.closingStaysSpec Rows.closingStaysRow = true := by
  unfold joinedFacts
  refine and_g6 (and_g1 (and_g12 (and_g4 (and_g7 (and_g1 ?_ ?_) ?_) ?_) ?_) ?_) ?_
  all_goals as_aux_lemma => kernel_rfl
theorem named : Tryz.pinned.checked.prog.funcNamed Rows.closingStaysRow.func = some 11 := by kernel_rfl
theorem isInst : Func.isInstance Tryz.pinned.checked.prog Tryz.f11 Rows.closingStaysRow.origin Rows.closingStaysRow.targs := of_decide_eq_true (by kernel_rfl)
theorem isWrap : Func.isWrapper Tryz.pinned.checked.prog Tryz.f11 Rows.closingStaysRow.wrapper Rows.closingStaysRow.mainSum := by unfold Func.isWrapper; first | (rw [if_pos (by decide +kernel)]; kernel_rfl) | (rw [if_neg (by decide +kernel)]; exact ⟨rfl, rfl⟩)
theorem closingStays_holds : Rows.ClosingStaysSaid :=
  OpenClaim.holds_of_wide 11 Tryz.f11 rfl rfl rfl rfl rfl rfl rfl ⟨rfl, rfl, rfl, rfl, rfl⟩ rfl rfl rfl rfl rfl named Tryz.func11 joined isInst isWrap
    (fun os started H enc _ => lifted os started H enc)
end Go.Proofs.YtdokapnnagbehaaGreat
