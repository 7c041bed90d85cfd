/-
  accrue: what a year costs on each day, out of slices: one change of it.
-/
import Derived.Test.YtbfcnjddddjbbaaB1
import Derived.Test.YtbfcnjddddjbbaaAbD
import Derived.IntWalk
namespace Go.Proofs.Ytbfcnjddddjbbaa
open Go Go.Ab Go.RowKit Go.Proofs

abbrev slsT : Ty := .sl sliceT

theorem bif_and (a b : Bool) : (bif a then b else false) = (a && b) := by cases a <;> rfl
theorem bif_or (a b : Bool) : (bif a then true else b) = (a || b) := by cases a <;> rfl

theorem i64w {n : Int} (h : -9223372036854775808 ≤ n ∧ n ≤ 9223372036854775807) : IntKind.i64.wrap n = n := IntWalk.i64_in _ h

/-- must: panics where there is an error. -/
def cMust : Pc := ⟨[.d i64], [], fun _ => (), fun x => !(x.1 == 0), fun x => ⟨24, .i64, x.1⟩, fun _ => []⟩
theorem must_ok : SoundPc Try.prog 21 cMust := by
  refine ⟨enters (fn := Try.f21) (by kernel_rfl) rfl rfl, fun w F xs vs hb hr _ => ?_⟩
  obtain ⟨v, vs', rfl, hv, hn⟩ := hr
  cases hn
  obtain ⟨n, _⟩ := xs
  have hv' : v = .int .i64 n := by
    have h : RepA Try.prog w F (fun _ _ => True) (encV i64 n) v := encV_rep hv
    exact h.2.1
  subst hv'
  by_cases h0 : n = 0
  · subst h0
    go_enter Try.func21, Try.ntmps21
    go_wp2
    go_end0
    refine .inl ⟨rfl, .tuple #[], F, rfl, Below.refl _ _, fun _ h => h, fun b h => ⟨.inl h, hb b h⟩, #[], rfl, rfl⟩
  · have hne : (n == 0) = false := by simpa using h0
    have hne2 : (n != 0) = true := by simpa using h0
    have hbad : cMust.bad (n, ()) = true := by show (!(n == 0)) = true; rw [hne]; rfl
    go_enter Try.func21, Try.ntmps21
    go_wp2
    exact ⟨rfl, .inr ⟨hbad, rfl, Below.refl _ _⟩⟩

end Go.Proofs.Ytbfcnjddddjbbaa
