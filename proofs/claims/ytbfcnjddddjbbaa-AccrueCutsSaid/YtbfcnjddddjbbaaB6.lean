/-
  Days of a span.
-/
import Derived.Test.YtbfcnjddddjbbaaB5
namespace Go.Proofs.Ytbfcnjddddjbbaa
open Go Go.Ab Go.RowKit Go.Proofs

def Γ4 : FuncId → Option Ct := fun f => if f = 10 then some cRightS else none
def C4 : Cx := ⟨Γ4, fun _ => none, fun _ _ _ _ => none⟩
theorem C4_ok : CxOK Try.prog C4 := onlyCt fun f ct h => by
  simp only [Γ4] at h
  split at h
  · rename_i hf; subst hf; cases h; exact right03_ok
  · cases h

/-- How many days a span has. -/
def many (s : spanT.den) : Int := if rightS s = true then s.2.1 - s.1 else 0
def cMany : Ct := ⟨[.d spanT], [i64], fun x => (many x.1, ()), fun _ => []⟩

theorem rightS_iff {a b : Int} {u : Unit} : rightS (a, b, u) = true ↔ 1 ≤ a ∧ a ≤ b ∧ b ≤ 292195 := by
  simp [rightS]

theorem many_ok : SoundCt Try.prog 22 cMany :=
  plain (ps := [.d spanT]) (rs := [i64]) C4_ok (fn := Try.f22) (fr := fun x => Fr.br (!(cRightS.f ((x.1.1, x.1.2.1, ()), ())).1) (Fr.val (0, ())) (Fr.val (IntKind.i64.wrap (x.1.2.1 - x.1.1), ()))) ((0, 0, ()), ()) (by kernel_rfl) (fun x => by kernel_rfl) _ _
    (fun _ _ xs _ _ _ => by
      obtain ⟨⟨a, b, u⟩, _⟩ := xs
      refine ⟨⟨fun _ => trivial, fun _ => trivial⟩, ?_⟩
      show (if (!(rightS (a, b, ()))) = true then ((0 : Int), ()) else (IntKind.i64.wrap (b - a), ())) = (if rightS (a, b, u) = true then b - a else 0, ())
      by_cases h : rightS (a, b, ()) = true
      · have h' := rightS_iff.1 h
        have hw : IntKind.i64.wrap (b - a) = b - a := IntWalk.i64_in _ (by omega)
        rw [h, hw]
        simp
      · have h' : rightS (a, b, ()) = false := by simpa using h
        rw [h']
        simp)

end Go.Proofs.Ytbfcnjddddjbbaa
