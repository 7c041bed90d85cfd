/-
  Proved: no entry can have another number, one alone, without another check: bordereaulaw30.ClosingOther returns true for every input. No condition beyond the row's own.
-/
import Derived.Test.YthpdhhejonjipaaGreatMd
import Derived.Test.YthpdhhejonjipaaGreatRows
namespace Go.Proofs.YthpdhhejonjipaaGreat
open Go Go.Ab Go.RowKit Go.Proofs

theorem own : ownKnob Tryz.prog.godebug = none := by kernel_rfl
theorem laidOut : laidOutB Tryz.prog = true := by kernel_rfl

set_option maxRecDepth 100000 in
theorem closingOther_lifted (os : Os) (started : os.Started) (H : Type) (enc : TypeId × Value → H) :
    ReturnsInHanded {} Tryz.checked os 4 .any (Rows.closingOtherSpec.pre6 enc Tryz.prog Tryz.f4 [] false) (Rows.closingOtherSpec.post enc Tryz.prog Tryz.f4 false true false false) := by
  refine returnsInHanded_of_change (C := Tryz.checked) own started (by kernel_rfl) Tryz.func4
    (ChangeSpec.witness6 (C := Tryz.checked) false ⟨#[], #[.agg #[.slice none 0 0], .int .u8 0, .int .u8 0, .int .u8 0, .int .i64 0], []⟩ 12 (by kernel_rfl) (by kernel_rfl) (by kernel_rfl) (by kernel_rfl)) ?_
  intro W base args ds gs before hval hW _ _
  exact law_contract (tb := 4) (ps := [.d bookT, .d u8t, .d u8t, .d u8t, .d i64]) laidOut (by kernel_rfl) (by kernel_rfl) rfl (by kernel_rfl) (by kernel_rfl) (fun ds h => by
    have hn : ds.length = 5 := h
    match ds, hn with
    | [_, _, _, _, _], _ => rfl) lawOther_ok W base args ds gs before hval hW

theorem closingOther_holds : Rows.ClosingOtherSaid :=
  OpenClaim.holds_of_wide 4 Tryz.f4 rfl rfl rfl rfl rfl rfl rfl ⟨rfl, rfl, rfl, rfl, rfl⟩ rfl rfl rfl rfl rfl (by kernel_rfl) Tryz.func4 (by kernel_rfl)
    (of_decide_eq_true (by kernel_rfl)) (by unfold Func.isWrapper; first | (rw [if_pos (by decide +kernel)]; kernel_rfl) | (rw [if_neg (by decide +kernel)]; exact ⟨rfl, rfl⟩))
    (fun os started H enc _ => closingOther_lifted os started H enc)

end Go.Proofs.YthpdhhejonjipaaGreat
